/- The data of the program in the logic: votes, names, ints. -/
import Derived.Test.YtphnfhonmbbddaaGA
import Derived.Test.YtphnfhonmbbddaaGC
import Derived.Test.YtphnfhonmbbddaaGB
import Derived.Test.YtphnfhonmbbddaaGM
import Derived.Laws.IdiomRangeMap
namespace Go.Proofs.Ytphnfhonmbbddaa
open Go Go.RowKit
set_option linter.unusedVariables false

def Vt.zero : Vt := ⟨0, 0, 0, 0, 0, 0, Nm.zero, Nm.zero⟩
instance : Cel Vt := ⟨22, Vt.cs, fun _ => rfl, fun a u hu => vcells_one [a] u (by simpa [vcells] using hu), by decide⟩
instance : Cel Nm := ⟨8, Nm.cs, fun _ => rfl, fun a u hu => by simp at hu; rcases hu with rfl | rfl | rfl | rfl | rfl | rfl | rfl | rfl <;> rfl, by decide⟩
instance : Cel Int := ⟨1, fun x => #[.int .i64 x], fun _ => rfl, fun a u hu => by simp at hu; subst hu; rfl, by decide⟩
theorem Rd.v {w : World} {A : Option Addr} {l : List Vt} (h : Rd w A l) : RdV w A l := fun j hj => by
  obtain ⟨b, off, h1, h2, h3⟩ := h j hj
  exact ⟨b, off, h1, h2, fun t u hu => h3 t u (by rw [Array.getElem?_toList]; exact hu)⟩
theorem RdV.rd {w : World} {A : Option Addr} {l : List Vt} (h : RdV w A l) : Rd w A l := fun j hj => by
  obtain ⟨b, off, h1, h2, h3⟩ := h j hj
  exact ⟨b, off, h1, h2, fun t u hu => h3 t u (by rw [Array.getElem?_toList] at hu; exact hu)⟩
theorem maxD : Op.maxDepth = 9998 + 2 := by decide
theorem eq_nm (w : World) (a b : Nm) : (Op.equal 54 (.agg a.cs) (.agg b.cs)).run Try.prog w = .ok (a == b) w := by
  unfold Op.equal
  rw [maxD]
  exact run_equalIn_nm w 9998 a b
theorem eq_vt (w : World) (a b : Vt) : (Op.equal 68 (.agg a.cs) (.agg b.cs)).run Try.prog w = .ok (a == b) w := by
  have e : (a == b) = ((a.kind == b.kind) && ((a.slot == b.slot) && ((a.round == b.round) && ((a.choice == b.choice) && ((a.signer == b.signer) && ((a.support == b.support) && ((a.par == b.par) && ((a.val == b.val) && true)))))))) := by
    rw [Bool.eq_iff_iff]
    simp only [Bool.and_eq_true, beq_iff_eq, and_true]
    constructor
    · rintro rfl; simp
    · rintro ⟨h1, h2, h3, h4, h5, h6, h7, h8⟩
      cases a; cases b; simp_all
  rw [e]
  have hi : ∀ (x y : Int), (Op.equalIn 9999 3 (.int .i64 x) (.int .i64 y)).run Try.prog w = .ok (x == y) w := fun x y => run_equalIn_int w 9998 3 .i64 .i64 x y (by kernel_rfl)
  have hm : ∀ (x y : Int), (Op.equalIn 9999 32 (.int .i64 x) (.int .i64 y)).run Try.prog w = .ok (x == y) w := fun x y => run_equalIn_int w 9998 32 .i64 .i64 x y (by kernel_rfl)
  refine run_eq_struct w 9999 68 _ _ _ Try.underlying68 (by kernel_rfl) _ ?_
  refine run_eqFields_cons w _ _ _ _ _ (.int .i64 a.kind) (.int .i64 b.kind) _ _ (by decide) (by kernel_rfl) (by kernel_rfl) (hi _ _) ?_
  refine run_eqFields_cons w _ _ _ _ _ (.int .i64 a.slot) (.int .i64 b.slot) _ _ (by decide) (by kernel_rfl) (by kernel_rfl) (hi _ _) ?_
  refine run_eqFields_cons w _ _ _ _ _ (.int .i64 a.round) (.int .i64 b.round) _ _ (by decide) (by kernel_rfl) (by kernel_rfl) (hi _ _) ?_
  refine run_eqFields_cons w _ _ _ _ _ (.int .i64 a.choice) (.int .i64 b.choice) _ _ (by decide) (by kernel_rfl) (by kernel_rfl) (hi _ _) ?_
  refine run_eqFields_cons w _ _ _ _ _ (.int .i64 a.signer) (.int .i64 b.signer) _ _ (by decide) (by kernel_rfl) (by kernel_rfl) (hi _ _) ?_
  refine run_eqFields_cons w _ _ _ _ _ (.int .i64 a.support) (.int .i64 b.support) _ _ (by decide) (by kernel_rfl) (by kernel_rfl) (hm _ _) ?_
  refine run_eqFields_cons w _ _ _ _ _ (.agg a.par.cs) (.agg b.par.cs) _ _ (by decide) (by kernel_rfl) (by kernel_rfl) (run_equalIn_nm w 9997 _ _) ?_
  refine run_eqFields_cons w _ _ _ _ _ (.agg a.val.cs) (.agg b.val.cs) _ _ (by decide) (by kernel_rfl) (by kernel_rfl) (run_equalIn_nm w 9997 _ _) ?_
  exact run_eqFields_nil w _ _ _
/-- A contract that leaves the world. -/
theorem Ret.same {f : FuncId} {args : Array Value} {w : World} {v : Value} (h : Calls Try.prog f args w fun e w' => e = .returned v ∧ w = w') : Ret Try.prog f args w v :=
  h.mono fun e w' ⟨h1, h2⟩ => ⟨h1, h2 ▸ Below.refl _ _⟩
theorem Ret.same' {f : FuncId} {args : Array Value} {w : World} {v : Value} (h : Calls Try.prog f args w fun e w' => e = .returned v ∧ w' = w) : Ret Try.prog f args w v :=
  h.mono fun e w' ⟨h1, h2⟩ => ⟨h1, h2 ▸ Below.refl _ _⟩
theorem RetRow.own {f : FuncId} {args : Array Value} {w : World} {ty : TypeId} {sz k : Nat} {xs : List Value} (h : Calls Try.prog f args w fun e w' => ∃ v, e = .returned v ∧ w'.ownsRow w.heap.size ty sz v k xs ∧ Below w.heap.size w w') : RetRow Try.prog f args w ty sz k xs :=
  h.mono fun e w' ⟨v, h1, h2, h3⟩ => by
    obtain ⟨A, c, Hr, rfl, hr, hH, hnd⟩ := RowIs.of_owns h2
    exact ⟨A, c, Hr, h1, hr, h3, hnd, fun p hp => ⟨(hH p hp).1, (hH p hp).2.1⟩⟩
theorem hmx : Try.prog.follows .mixedOrders = true := by kernel_rfl
theorem hasB_lt {m i : Int} (h : hasB m i = true) : 0 ≤ i ∧ i < 10 := by
  unfold hasB at h
  simp only [Bool.and_eq_true, decide_eq_true_eq] at h
  exact h.1
section
variable {α : Type} {l : List α} {p : α → Bool} {j : Nat}
theorem any_zero (l : List α) (p : α → Bool) : (l.take 0).any p = false := by simp
theorem all_zero (l : List α) (p : α → Bool) : (l.take 0).all p = true := by simp
theorem any_step (h : (l.take j).any p = false) (hj : j < l.length) (hp : p l[j] = false) : (l.take (j + 1)).any p = false := by
  rw [List.take_succ_eq_append_getElem hj, List.any_append, h]; simp [hp]
theorem any_hit (hj : j < l.length) (hp : p l[j] = true) : l.any p = true := List.any_eq_true.2 ⟨_, List.getElem_mem hj, hp⟩
theorem any_end (h : (l.take j).any p = false) (hj : l.length ≤ j) : l.any p = false := by rwa [List.take_of_length_le hj] at h
theorem all_step (h : (l.take j).all p = true) (hj : j < l.length) (hp : p l[j] = true) : (l.take (j + 1)).all p = true := by
  rw [List.take_succ_eq_append_getElem hj, List.all_append, h]; simp [hp]
theorem all_miss (hj : j < l.length) (hp : p l[j] = false) : l.all p = false := by
  rw [List.all_eq_false]; exact ⟨l[j], List.getElem_mem hj, by simp [hp]⟩
theorem all_end (h : (l.take j).all p = true) (hj : l.length ≤ j) : l.all p = true := by rwa [List.take_of_length_le hj] at h
theorem foldl_step {β : Type} (f : β → α → β) (b : β) (hj : j < l.length) : (l.take (j + 1)).foldl f b = f ((l.take j).foldl f b) l[j] := by
  rw [List.take_succ_eq_append_getElem hj, List.foldl_append]; rfl
theorem filter_step (p : α → Bool) (hj : j < l.length) : (l.take (j + 1)).filter p = (l.take j).filter p ++ (if p l[j] then [l[j]] else []) := by
  rw [List.take_succ_eq_append_getElem hj, List.filter_append]
  congr 1
  cases hg : p l[j] <;> simp [hg]
theorem take_end (hj : l.length ≤ j) : l.take j = l := List.take_of_length_le hj
end
/-- The ids of a mask, as ints. -/
def idsI (m : Int) : List Int := (ids m).map fun i : Nat => (i : Int)
theorem idsI_len (m : Int) : (idsI m).length ≤ 10 := by simp only [idsI, List.length_map]; exact size_le m
theorem idsI_length (m : Int) : (idsI m).length = size m := by simp only [idsI, List.length_map]; rfl
theorem cells_idsI (m : Int) : cells (idsI m) = (ids m).map fun i : Nat => Value.int .i64 (i : Int) := by
  unfold idsI cells
  generalize ids m = l
  induction l with
  | nil => rfl
  | cons a l ih => simp only [List.map_cons, List.flatMap_cons]; rw [ih]; rfl
theorem mem_idsI {m x : Int} : x ∈ idsI m ↔ hasB m x = true := by
  rw [hasB_iff]
  unfold idsI
  rw [List.mem_map]
  constructor
  · rintro ⟨k, h1, h2⟩; exact ⟨k, h2.symm, h1⟩
  · rintro ⟨k, h1, h2⟩; exact ⟨k, h2, h1.symm⟩
theorem ids_r (m : Int) (hm : W64 m) (w : World) : RetRow Try.prog 58 #[.int .i64 m] w 3 1 (idsI m).length (cells (idsI m)) := by
  refine RetRow.own ?_
  rw [cells_idsI]
  simp only [idsI, List.length_map]
  exact ids_c m hm w
theorem rids_r (m : Int) (hm : W64 m) (w : World) : RetRow Try.prog 68 #[.int .i64 m] w 3 1 (idsI m).length (cells (idsI m)) := by
  refine RetRow.own ?_
  rw [cells_idsI]
  simp only [idsI, List.length_map]
  exact rids_c m hm w
def upto10 : List Int := (List.range 10).map fun i : Nat => (i : Int)
theorem up10_len : upto10.length = 10 := by decide
theorem up10_get {j : Nat} (h : j < upto10.length) : upto10[j] = (j : Int) := by simp [upto10]
theorem mem_upto10 {x : Int} : x ∈ upto10 ↔ 0 ≤ x ∧ x < 10 := by
  unfold upto10
  rw [List.mem_map]
  constructor
  · rintro ⟨k, h1, h2⟩; rw [List.mem_range] at h1; omega
  · intro h; exact ⟨x.toNat, by rw [List.mem_range]; omega, by omega⟩
theorem nn_true {x y : Bool} (h : ((!x) && (!y)) = true) : (x || y) = false := by cases x <;> cases y <;> simp_all
theorem nn_false {x y : Bool} (h : ((!x) && (!y)) = false) : (x || y) = true := by cases x <;> cases y <;> simp_all
theorem prev_round {v : Vt} (h : validB v = true) (hk : (v.kind == 3) = true) : 1 ≤ v.round ∧ v.round ≤ 12 := by
  have h3 : v.kind = 3 := by simpa using hk
  unfold validB restB btw at h
  simp [h3] at h
  omega
theorem not_eq_false {b : Bool} (h : (!b) = false) : b = true := by cases b <;> simp_all
theorem not_eq_true {b : Bool} (h : (!b) = true) : b = false := by cases b <;> simp_all
end Go.Proofs.Ytphnfhonmbbddaa

/- Every function of the program is entered when it is called. -/
namespace Go.Proofs.Ytphnfhonmbbddaa
open Go Go.RowKit
set_option linter.unusedVariables false

theorem ent2 : Enters Try.prog 2 := enters_of Try.func2 (by kernel_rfl) rfl
theorem ent3 : Enters Try.prog 3 := enters_of Try.func3 (by kernel_rfl) rfl
theorem ent4 : Enters Try.prog 4 := enters_of Try.func4 (by kernel_rfl) rfl
theorem ent5 : Enters Try.prog 5 := enters_of Try.func5 (by kernel_rfl) rfl
theorem ent6 : Enters Try.prog 6 := enters_of Try.func6 (by kernel_rfl) rfl
theorem ent7 : Enters Try.prog 7 := enters_of Try.func7 (by kernel_rfl) rfl
theorem ent8 : Enters Try.prog 8 := enters_of Try.func8 (by kernel_rfl) rfl
theorem ent9 : Enters Try.prog 9 := enters_of Try.func9 (by kernel_rfl) rfl
theorem ent10 : Enters Try.prog 10 := enters_of Try.func10 (by kernel_rfl) rfl
theorem ent11 : Enters Try.prog 11 := enters_of Try.func11 (by kernel_rfl) rfl
theorem ent12 : Enters Try.prog 12 := enters_of Try.func12 (by kernel_rfl) rfl
theorem ent13 : Enters Try.prog 13 := enters_of Try.func13 (by kernel_rfl) rfl
theorem ent14 : Enters Try.prog 14 := enters_of Try.func14 (by kernel_rfl) rfl
theorem ent15 : Enters Try.prog 15 := enters_of Try.func15 (by kernel_rfl) rfl
theorem ent16 : Enters Try.prog 16 := enters_of Try.func16 (by kernel_rfl) rfl
theorem ent17 : Enters Try.prog 17 := enters_of Try.func17 (by kernel_rfl) rfl
theorem ent18 : Enters Try.prog 18 := enters_of Try.func18 (by kernel_rfl) rfl
theorem ent19 : Enters Try.prog 19 := enters_of Try.func19 (by kernel_rfl) rfl
theorem ent20 : Enters Try.prog 20 := enters_of Try.func20 (by kernel_rfl) rfl
theorem ent21 : Enters Try.prog 21 := enters_of Try.func21 (by kernel_rfl) rfl
theorem ent22 : Enters Try.prog 22 := enters_of Try.func22 (by kernel_rfl) rfl
theorem ent23 : Enters Try.prog 23 := enters_of Try.func23 (by kernel_rfl) rfl
theorem ent24 : Enters Try.prog 24 := enters_of Try.func24 (by kernel_rfl) rfl
theorem ent25 : Enters Try.prog 25 := enters_of Try.func25 (by kernel_rfl) rfl
theorem ent26 : Enters Try.prog 26 := enters_of Try.func26 (by kernel_rfl) rfl
theorem ent27 : Enters Try.prog 27 := enters_of Try.func27 (by kernel_rfl) rfl
theorem ent28 : Enters Try.prog 28 := enters_of Try.func28 (by kernel_rfl) rfl
theorem ent29 : Enters Try.prog 29 := enters_of Try.func29 (by kernel_rfl) rfl
theorem ent30 : Enters Try.prog 30 := enters_of Try.func30 (by kernel_rfl) rfl
theorem ent31 : Enters Try.prog 31 := enters_of Try.func31 (by kernel_rfl) rfl
theorem ent32 : Enters Try.prog 32 := enters_of Try.func32 (by kernel_rfl) rfl
theorem ent33 : Enters Try.prog 33 := enters_of Try.func33 (by kernel_rfl) rfl
theorem ent34 : Enters Try.prog 34 := enters_of Try.func34 (by kernel_rfl) rfl
theorem ent35 : Enters Try.prog 35 := enters_of Try.func35 (by kernel_rfl) rfl
theorem ent36 : Enters Try.prog 36 := enters_of Try.func36 (by kernel_rfl) rfl
theorem ent37 : Enters Try.prog 37 := enters_of Try.func37 (by kernel_rfl) rfl
theorem ent38 : Enters Try.prog 38 := enters_of Try.func38 (by kernel_rfl) rfl
theorem ent39 : Enters Try.prog 39 := enters_of Try.func39 (by kernel_rfl) rfl
theorem ent40 : Enters Try.prog 40 := enters_of Try.func40 (by kernel_rfl) rfl
theorem ent41 : Enters Try.prog 41 := enters_of Try.func41 (by kernel_rfl) rfl
theorem ent42 : Enters Try.prog 42 := enters_of Try.func42 (by kernel_rfl) rfl
theorem ent43 : Enters Try.prog 43 := enters_of Try.func43 (by kernel_rfl) rfl
theorem ent44 : Enters Try.prog 44 := enters_of Try.func44 (by kernel_rfl) rfl
theorem ent45 : Enters Try.prog 45 := enters_of Try.func45 (by kernel_rfl) rfl
theorem ent46 : Enters Try.prog 46 := enters_of Try.func46 (by kernel_rfl) rfl
theorem ent47 : Enters Try.prog 47 := enters_of Try.func47 (by kernel_rfl) rfl
theorem ent48 : Enters Try.prog 48 := enters_of Try.func48 (by kernel_rfl) rfl
theorem ent49 : Enters Try.prog 49 := enters_of Try.func49 (by kernel_rfl) rfl
theorem ent50 : Enters Try.prog 50 := enters_of Try.func50 (by kernel_rfl) rfl
theorem ent51 : Enters Try.prog 51 := enters_of Try.func51 (by kernel_rfl) rfl
theorem ent52 : Enters Try.prog 52 := enters_of Try.func52 (by kernel_rfl) rfl
theorem ent53 : Enters Try.prog 53 := enters_of Try.func53 (by kernel_rfl) rfl
theorem ent54 : Enters Try.prog 54 := enters_of Try.func54 (by kernel_rfl) rfl
theorem ent55 : Enters Try.prog 55 := enters_of Try.func55 (by kernel_rfl) rfl
theorem ent56 : Enters Try.prog 56 := enters_of Try.func56 (by kernel_rfl) rfl
theorem ent57 : Enters Try.prog 57 := enters_of Try.func57 (by kernel_rfl) rfl
theorem ent58 : Enters Try.prog 58 := enters_of Try.func58 (by kernel_rfl) rfl
theorem ent59 : Enters Try.prog 59 := enters_of Try.func59 (by kernel_rfl) rfl
theorem ent60 : Enters Try.prog 60 := enters_of Try.func60 (by kernel_rfl) rfl
theorem ent61 : Enters Try.prog 61 := enters_of Try.func61 (by kernel_rfl) rfl
theorem ent62 : Enters Try.prog 62 := enters_of Try.func62 (by kernel_rfl) rfl
theorem ent63 : Enters Try.prog 63 := enters_of Try.func63 (by kernel_rfl) rfl
theorem ent64 : Enters Try.prog 64 := enters_of Try.func64 (by kernel_rfl) rfl
theorem ent65 : Enters Try.prog 65 := enters_of Try.func65 (by kernel_rfl) rfl
theorem ent66 : Enters Try.prog 66 := enters_of Try.func66 (by kernel_rfl) rfl
theorem ent67 : Enters Try.prog 67 := enters_of Try.func67 (by kernel_rfl) rfl
theorem ent68 : Enters Try.prog 68 := enters_of Try.func68 (by kernel_rfl) rfl
theorem ent72 : Enters Try.prog 72 := enters_of Try.func72 (by kernel_rfl) rfl
theorem ent73 : Enters Try.prog 73 := enters_of Try.func73 (by kernel_rfl) rfl
theorem ent74 : Enters Try.prog 74 := enters_of Try.func74 (by kernel_rfl) rfl
theorem ent75 : Enters Try.prog 75 := enters_of Try.func75 (by kernel_rfl) rfl
theorem ent76 : Enters Try.prog 76 := enters_of Try.func76 (by kernel_rfl) rfl
theorem ent77 : Enters Try.prog 77 := enters_of Try.func77 (by kernel_rfl) rfl
theorem ent78 : Enters Try.prog 78 := enters_of Try.func78 (by kernel_rfl) rfl
theorem ent79 : Enters Try.prog 79 := enters_of Try.func79 (by kernel_rfl) rfl
theorem ent80 : Enters Try.prog 80 := enters_of Try.func80 (by kernel_rfl) rfl
theorem ent81 : Enters Try.prog 81 := enters_of Try.func81 (by kernel_rfl) rfl
theorem ent82 : Enters Try.prog 82 := enters_of Try.func82 (by kernel_rfl) rfl
theorem ent83 : Enters Try.prog 83 := enters_of Try.func83 (by kernel_rfl) rfl
theorem ent84 : Enters Try.prog 84 := enters_of Try.func84 (by kernel_rfl) rfl
theorem ent85 : Enters Try.prog 85 := enters_of Try.func85 (by kernel_rfl) rfl
theorem ent86 : Enters Try.prog 86 := enters_of Try.func86 (by kernel_rfl) rfl
theorem ent87 : Enters Try.prog 87 := enters_of Try.func87 (by kernel_rfl) rfl
theorem ent88 : Enters Try.prog 88 := enters_of Try.func88 (by kernel_rfl) rfl
theorem ent89 : Enters Try.prog 89 := enters_of Try.func89 (by kernel_rfl) rfl
theorem ent90 : Enters Try.prog 90 := enters_of Try.func90 (by kernel_rfl) rfl
theorem ent100 : Enters Try.prog 100 := enters_of Try.func100 (by kernel_rfl) rfl
theorem ent101 : Enters Try.prog 101 := enters_of Try.func101 (by kernel_rfl) rfl
theorem ent102 : Enters Try.prog 102 := enters_of Try.func102 (by kernel_rfl) rfl
theorem ent103 : Enters Try.prog 103 := enters_of Try.func103 (by kernel_rfl) rfl
theorem ent104 : Enters Try.prog 104 := enters_of Try.func104 (by kernel_rfl) rfl
theorem ent105 : Enters Try.prog 105 := enters_of Try.func105 (by kernel_rfl) rfl
theorem ent106 : Enters Try.prog 106 := enters_of Try.func106 (by kernel_rfl) rfl
theorem ent107 : Enters Try.prog 107 := enters_of Try.func107 (by kernel_rfl) rfl
theorem ent108 : Enters Try.prog 108 := enters_of Try.func108 (by kernel_rfl) rfl
theorem ent109 : Enters Try.prog 109 := enters_of Try.func109 (by kernel_rfl) rfl
theorem ent110 : Enters Try.prog 110 := enters_of Try.func110 (by kernel_rfl) rfl
theorem ent111 : Enters Try.prog 111 := enters_of Try.func111 (by kernel_rfl) rfl
theorem ent112 : Enters Try.prog 112 := enters_of Try.func112 (by kernel_rfl) rfl
theorem ent113 : Enters Try.prog 113 := enters_of Try.func113 (by kernel_rfl) rfl
theorem ent114 : Enters Try.prog 114 := enters_of Try.func114 (by kernel_rfl) rfl
theorem ent115 : Enters Try.prog 115 := enters_of Try.func115 (by kernel_rfl) rfl
theorem ent116 : Enters Try.prog 116 := enters_of Try.func116 (by kernel_rfl) rfl
theorem ent117 : Enters Try.prog 117 := enters_of Try.func117 (by kernel_rfl) rfl
theorem ent118 : Enters Try.prog 118 := enters_of Try.func118 (by kernel_rfl) rfl
theorem ent119 : Enters Try.prog 119 := enters_of Try.func119 (by kernel_rfl) rfl
theorem ent120 : Enters Try.prog 120 := enters_of Try.func120 (by kernel_rfl) rfl
theorem ent121 : Enters Try.prog 121 := enters_of Try.func121 (by kernel_rfl) rfl
theorem ent122 : Enters Try.prog 122 := enters_of Try.func122 (by kernel_rfl) rfl
theorem ent123 : Enters Try.prog 123 := enters_of Try.func123 (by kernel_rfl) rfl
theorem ent124 : Enters Try.prog 124 := enters_of Try.func124 (by kernel_rfl) rfl
theorem ent125 : Enters Try.prog 125 := enters_of Try.func125 (by kernel_rfl) rfl
theorem ent126 : Enters Try.prog 126 := enters_of Try.func126 (by kernel_rfl) rfl
theorem ent127 : Enters Try.prog 127 := enters_of Try.func127 (by kernel_rfl) rfl
theorem ent128 : Enters Try.prog 128 := enters_of Try.func128 (by kernel_rfl) rfl
theorem ent129 : Enters Try.prog 129 := enters_of Try.func129 (by kernel_rfl) rfl
theorem ent130 : Enters Try.prog 130 := enters_of Try.func130 (by kernel_rfl) rfl
theorem ent131 : Enters Try.prog 131 := enters_of Try.func131 (by kernel_rfl) rfl
theorem ent132 : Enters Try.prog 132 := enters_of Try.func132 (by kernel_rfl) rfl
theorem ent133 : Enters Try.prog 133 := enters_of Try.func133 (by kernel_rfl) rfl
theorem ent134 : Enters Try.prog 134 := enters_of Try.func134 (by kernel_rfl) rfl
theorem ent135 : Enters Try.prog 135 := enters_of Try.func135 (by kernel_rfl) rfl
theorem ent136 : Enters Try.prog 136 := enters_of Try.func136 (by kernel_rfl) rfl
end Go.Proofs.Ytphnfhonmbbddaa

/- Outcomes as data. -/
namespace Go.Proofs.Ytphnfhonmbbddaa
open Go Go.RowKit
set_option linter.unusedVariables false
structure Oc where
  slot : Int
  round : Int
  choice : Int
  val : Nm
deriving DecidableEq
def Oc.zero : Oc := ⟨0, 0, 0, Nm.zero⟩
def Oc.cs (v : Oc) : Array Value := #[.int .i64 v.slot, .int .i64 v.round, .int .i64 v.choice,
  .int .u8 (v.val.b0.toNat : Int), .int .u8 (v.val.b1.toNat : Int), .int .u8 (v.val.b2.toNat : Int), .int .u8 (v.val.b3.toNat : Int), .int .u8 (v.val.b4.toNat : Int), .int .u8 (v.val.b5.toNat : Int), .int .u8 (v.val.b6.toNat : Int), .int .u8 (v.val.b7.toNat : Int)]
instance : Cel Oc := ⟨11, Oc.cs, fun _ => rfl, fun a u hu => by simp [Oc.cs] at hu; rcases hu with rfl | rfl | rfl | rfl | rfl | rfl | rfl | rfl | rfl | rfl | rfl <;> rfl, by decide⟩
theorem eq_oc (w : World) (a b : Oc) : (Op.equal 63 (.agg a.cs) (.agg b.cs)).run Try.prog w = .ok (a == b) w := by
  have e : (a == b) = ((a.slot == b.slot) && ((a.round == b.round) && ((a.choice == b.choice) && ((a.val == b.val) && true)))) := by
    rw [Bool.eq_iff_iff]
    simp only [Bool.and_eq_true, beq_iff_eq, and_true]
    constructor
    · rintro rfl; simp
    · rintro ⟨h1, h2, h3, h4⟩
      cases a; cases b; simp_all
  rw [e]
  have hi : ∀ (x y : Int), (Op.equalIn 9999 3 (.int .i64 x) (.int .i64 y)).run Try.prog w = .ok (x == y) w := fun x y => run_equalIn_int w 9998 3 .i64 .i64 x y (by kernel_rfl)
  refine run_eq_struct w 9999 63 _ _ _ Try.underlying63 (by kernel_rfl) _ ?_
  refine run_eqFields_cons w _ _ _ _ _ (.int .i64 a.slot) (.int .i64 b.slot) _ _ (by decide) (by kernel_rfl) (by kernel_rfl) (hi _ _) ?_
  refine run_eqFields_cons w _ _ _ _ _ (.int .i64 a.round) (.int .i64 b.round) _ _ (by decide) (by kernel_rfl) (by kernel_rfl) (hi _ _) ?_
  refine run_eqFields_cons w _ _ _ _ _ (.int .i64 a.choice) (.int .i64 b.choice) _ _ (by decide) (by kernel_rfl) (by kernel_rfl) (hi _ _) ?_
  refine run_eqFields_cons w _ _ _ _ _ (.agg a.val.cs) (.agg b.val.cs) _ _ (by decide) (by kernel_rfl) (by kernel_rfl) (run_equalIn_nm w 9997 _ _) ?_
  exact run_eqFields_nil w _ _ _
end Go.Proofs.Ytphnfhonmbbddaa

/- Plain facts on votes that count, and on supports. -/
namespace Go.Proofs.Ytphnfhonmbbddaa
open Go Go.RowKit
set_option linter.unusedVariables false

theorem valid_kind2 {u : Vt} (h : validB u = true) (hk : u.kind = 1 ∨ u.kind = 2) : u.round = 0 := by
  unfold validB restB btw at h
  rcases hk with hk | hk <;> simp [hk] at h <;> omega
theorem valid_signer {u : Vt} (h : validB u = true) : 0 ≤ u.signer ∧ u.signer < 10 := by
  unfold validB btw at h
  simp at h
  omega
theorem cnt_valid {m : Int} {v u : Vt} (h : cntB m v u = true) : validB u = true := by
  unfold cntB at h; simp only [Bool.and_eq_true] at h; exact h.1.1.1.1
theorem cnt_has {m : Int} {v u : Vt} (h : cntB m v u = true) : hasB m u.signer = true := by
  unfold cntB at h; simp only [Bool.and_eq_true] at h; exact h.2
theorem sup_iff {m q : Int} {l : List Vt} {v : Vt} {p : Vt → Bool} : supB m q l v p = true ↔ bits .andNot .i64 v.support m = 0 ∧ (size v.support : Int) = q ∧ ∀ i, hasB v.support i = true → ∃ u ∈ l, u.signer = i ∧ p u = true := by
  unfold supB
  simp only [Bool.and_eq_true, Bool.not_eq_true', bne_eq_false_iff_eq, List.all_eq_true, List.any_eq_true, beq_iff_eq]
  constructor
  · rintro ⟨⟨h1, h2⟩, h3⟩
    refine ⟨h1, h2, fun i hi => ?_⟩
    rw [hasB_iff] at hi
    obtain ⟨k, rfl, hk⟩ := hi
    exact h3 k hk
  · rintro ⟨h1, h2, h3⟩
    exact ⟨⟨h1, h2⟩, fun k hk => h3 (k : Int) (by rw [hasB_iff]; exact ⟨k, rfl, hk⟩)⟩
theorem valid_sup {v : Vt} (h : validB v = true) : bits .andNot .i64 v.support 1023 = 0 := by
  unfold validB at h
  simp only [Bool.and_eq_true, Bool.not_eq_true', bne_eq_false_iff_eq] at h
  exact h.1.2
theorem bool_ext {a b : Bool} (h : a = true ↔ b = true) : a = b := by cases a <;> cases b <;> simp_all
end Go.Proofs.Ytphnfhonmbbddaa

/- Plain facts on sets and quorums. -/
namespace Go.Proofs.Ytphnfhonmbbddaa
open Go Go.RowKit
set_option linter.unusedVariables false
theorem size_mono {x y : Int} (h : ∀ i, i < 10 → mb x i = true → mb y i = true) : size x ≤ size y := by
  have e : ids x = (ids y).filter (mb x) := by
    unfold ids
    rw [List.filter_filter]
    refine List.filter_congr fun i hi => ?_
    have hi' : i < 10 := by simpa using hi
    cases hc : mb x i with
    | false => rfl
    | true => rw [h i hi' hc]; rfl
  unfold size
  rw [e]
  exact List.length_filter_le _ _
theorem meet3 {c a b x : Int} (h1 : ∀ i, i < 10 → mb a i = true → mb c i = true) (h2 : ∀ i, i < 10 → mb b i = true → mb c i = true) (h3 : ∀ i, i < 10 → mb a i = true → mb b i = true → mb x i = true) : size a + size b ≤ size x + size c := by
  have key : ∀ l : List Nat, (∀ i ∈ l, i < 10) → (l.filter (mb a)).length + (l.filter (mb b)).length ≤ (l.filter (mb x)).length + (l.filter (mb c)).length := by
    intro l
    induction l with
    | nil => intro _; simp
    | cons i l ih =>
      intro hl
      have hi := hl i (by simp)
      have ih' := ih (fun k hk => hl k (by simp [hk]))
      have g1 := h1 i hi
      have g2 := h2 i hi
      have g3 := h3 i hi
      simp only [List.filter_cons]
      cases ha : mb a i <;> cases hb : mb b i <;> cases hc : mb c i <;> cases hx : mb x i <;> simp_all <;> omega
  exact key (List.range 10) (fun i hi => by simpa using hi)
theorem third_le (n : Nat) : third (n : Int) ≤ 2 * quorum (n : Int) - (n : Int) := by unfold third quorum; split <;> omega
theorem quorum_bd (n : Nat) (h : n ≤ 10) : 0 ≤ quorum (n : Int) ∧ quorum (n : Int) ≤ 10 := by unfold quorum; split <;> omega
theorem allow_prev {m : Int} {v : Vt} {a : List Vt} (h : allowB m v a = true) (hk : v.kind = 3) : validB v = true ∧ prevB m (quorum (size m)) (a.filter (cntB m v)) v = true := by
  unfold allowB judB okB at h
  simp [hk] at h
  exact ⟨h.1.1.1, h.2⟩
theorem allow_prec {m : Int} {v : Vt} {a : List Vt} (h : allowB m v a = true) (hk : v.kind = 4) : validB v = true ∧ precB m (quorum (size m)) (a.filter (cntB m v)) v = true := by
  unfold allowB judB okB at h
  simp [hk] at h
  exact ⟨h.1.1.1, h.2⟩
end Go.Proofs.Ytphnfhonmbbddaa

/- A map that the call made, in the logic: entries in the order of their laying, none ever deleted. No program in sight. -/
namespace Go.Proofs.Ytphnfhonmbbddaa
open Go Go.RowKit
set_option linter.unusedVariables false
set_option linter.unusedSectionVars false
section
variable {w0 w : World} {H : List (Nat × Obj)}
/-- One object is written anew. -/
theorem St.setO {b : Nat} {o o' : Obj} (h : St w0 ((b, o) :: H) w) : St w0 ((b, o') :: H) { w with heap := w.heap.setIfInBounds b o' } := by
  have hb := h.has (b, o) (by simp)
  have hnd := h.nodup
  have hlt : b < w.heap.size := (Array.getElem?_eq_some_iff.1 hb.2).1
  have hoth : ∀ k, k ≠ b → (w.heap.setIfInBounds b o')[k]? = w.heap[k]? := fun k hk => by rw [Array.getElem?_setIfInBounds_ne (Ne.symm hk)]
  refine ⟨h.below.trans ⟨rfl, rfl, rfl, by simp, fun k hk => hoth k (by have := hb.1; simp only at this; omega)⟩, by simpa using hnd, fun p hp => ?_⟩
  rcases List.mem_cons.1 hp with rfl | hp
  · exact ⟨hb.1, by simp [hlt]⟩
  · have hq := h.has p (List.mem_cons_of_mem _ hp)
    refine ⟨hq.1, (hoth p.1 ?_).trans hq.2⟩
    intro he
    rw [List.map_cons, List.nodup_cons] at hnd
    exact hnd.1 (by rw [← he]; exact List.mem_map_of_mem (f := (·.1)) hp)
end
/-- The entries of a map. -/
def mapAt {κ : Type} [Cel κ] : List (κ × Int) → Nat → List MapEntry
  | [], _ => []
  | x :: l, i => ⟨.agg (Cel.cs x.1), .int .i64 x.2, i⟩ :: mapAt l (i + 1)
def mapOf {κ : Type} [Cel κ] (l : List (κ × Int)) : Obj := .map (mapAt l 0).toArray l.length
section
variable {P : Program} {ops : Array Oper} {Q : Exit → Act → World → Prop} {S : World → Prop} {n : Nat} {rest : List (Nat × Bool)} {e : Env} {Φ : World → Prop}
/-- An operation by what the model carries out there. -/
theorem T.effOf {β : Type} {i : Nat} (d : Nat) (M : Sem Value) (V : β → Value) (Ψ : β → World → Prop) (hk : okAt ops n e i d = true) (hm : ∀ w, runAt P ops e i w = ((do let v ← M; Pure.pure (Next.value v)) : Sem Next).run P w) (hv : ∀ w, Φ w → ∃ x w', M.run P w = .ok (V x) w' ∧ Ψ x w') (hS : ∀ x w, Ψ x w → S w)
    (h : ∀ x, T P ops Q S n rest ((d, V x) :: e) (Ψ x)) : T P ops Q S n ((i, false) :: rest) e Φ :=
  T.eff d V Ψ hk (fun w hw => by
    obtain ⟨x, w', h1, h2⟩ := hv w hw
    exact ⟨x, w', by rw [hm, Sem.run_bind, h1]; rfl, h2⟩) hS h
theorem T.effsOf {i : Nat} (M : Sem Unit) (Ψ : World → Prop) (hk : okAt0 ops e i = true) (hm : ∀ w, runAt P ops e i w = ((do M; Pure.pure Next.skip) : Sem Next).run P w) (hv : ∀ w, Φ w → ∃ w', M.run P w = .ok () w' ∧ Ψ w') (hS : ∀ w, Ψ w → S w)
    (h : T P ops Q S n rest e Ψ) : T P ops Q S n ((i, false) :: rest) e Φ :=
  T.effs Ψ hk (fun w hw => by
    obtain ⟨w', h1, h2⟩ := hv w hw
    exact ⟨w', by rw [hm, Sem.run_bind, h1]; rfl, h2⟩) hS h
end
section
variable {κ : Type} [Cel κ] [DecidableEq κ] {P : Program} {w0 w : World} {H : List (Nat × Obj)}
/-- The first entry of a key: its place, its value. -/
def look : List (κ × Int) → κ → Option (Nat × Int)
  | [], _ => none
  | x :: l, a => if a = x.1 then some (0, x.2) else (look l a).map fun p => (p.1 + 1, p.2)
/-- What is known of a key type. -/
structure KeyTy (P : Program) (κ : Type) [Cel κ] [DecidableEq κ] (kt : TypeId) : Prop where
  eq : ∀ w (a b : κ), (Op.equal kt (.agg (Cel.cs a)) (.agg (Cel.cs b))).run P w = .ok (decide (a = b)) w
  chk : ∀ b w (a : κ), (Instr.checkKey b 10000 kt (.agg (Cel.cs a))).run P w = .ok () w
  und : (∃ fs, P.underlying kt = some (.struct fs)) ∨ ∃ x y, P.underlying kt = some (.array x y)
  bits : ∀ a : κ, Instr.sameBits 10000 (.agg (Cel.cs a)) (.agg (Cel.cs a)) = true
theorem run_ask {kt : TypeId} (K : KeyTy P κ kt) (a : κ) : ∀ (l : List (κ × Int)) (i j : Nat), (Instr.findAsking kt (.agg (Cel.cs a)) (mapAt l i) j).run P w = .ok ((look l a).map fun p => (j + p.1, .int .i64 p.2)) w
  | [], i, j => rfl
  | x :: l, i, j => by
    unfold mapAt Instr.findAsking
    rw [Sem.run_bind, K.eq]
    unfold look
    by_cases h : a = x.1
    · simp [h]
    · simp only [h, decide_false, Result.andThen, Bool.false_eq_true, if_false]
      rw [run_ask K a l (i + 1) (j + 1)]
      cases look l a <;> simp <;> omega
theorem run_find {kt : TypeId} (K : KeyTy P κ kt) (a : κ) (l : List (κ × Int)) : (Instr.findKey kt (.agg (Cel.cs a)) (mapAt l 0)).run P w = .ok ((look l a).map fun p => (p.1, .int .i64 p.2)) w := by
  have key : ∀ d, P.underlying kt = some d → (∀ x l, Instr.findNow d (.agg (Cel.cs a)) (mapAt (κ := κ) (x :: l) 0) 0 = none) → (Instr.findKey kt (.agg (Cel.cs a)) (mapAt l 0)).run P w = .ok ((look l a).map fun p => (p.1, .int .i64 p.2)) w := by
    intro d hu hn
    unfold Instr.findKey
    rw [Sem.run_bind, run_underlying hu]
    simp only [Result.andThen]
    cases l with
    | nil => rfl
    | cons x l =>
      rw [hn]
      have := run_ask (w := w) K a (x :: l) 0 0
      simpa using this
  rcases K.und with ⟨fs, hu⟩ | ⟨x, y, hu⟩
  · exact key _ hu (fun x l => rfl)
  · exact key _ hu (fun x l => rfl)
theorem mapAt_len (l : List (κ × Int)) : ∀ i, (mapAt l i).length = l.length := by
  induction l with
  | nil => intro i; rfl
  | cons x l ih => intro i; simp [mapAt, ih]
theorem mapAt_get (l : List (κ × Int)) : ∀ (i k : Nat) (h : k < l.length), (mapAt l i)[k]? = some ⟨.agg (Cel.cs l[k].1), .int .i64 l[k].2, i + k⟩ := by
  induction l with
  | nil => intro i k h; simp at h
  | cons x l ih =>
    intro i k h
    cases k with
    | zero => simp [mapAt]
    | succ k => simp only [mapAt, List.getElem?_cons_succ, List.getElem_cons_succ]; rw [ih (i + 1) k (by simpa using h), Nat.add_right_comm, Nat.add_assoc]
theorem run_getMap {b : Nat} {l : List (κ × Int)} (hst : St w0 ((b, mapOf l) :: H) w) : (getObj b).run P w = .ok (mapOf l) w := by
  have := (hst.has _ (List.mem_cons_self)).2
  simp only at this
  simp only [getObj, Sem.run, this]
  rfl
/-- m[k]. -/
theorem run_look {mt kt et : TypeId} (K : KeyTy P κ kt) (hu : P.underlying mt = some (.map kt et)) (hz : ∀ w, (zeroValue et).run P w = .ok (.int .i64 0) w) (a : κ) (l : List (κ × Int)) (b : Nat) (hst : St w0 ((b, mapOf l) :: H) w) :
    (Instr.lookup mt (.map (some b)) (.agg (Cel.cs a)) false).run P w = .ok (.int .i64 (((look l a).map (·.2)).getD 0)) w := by
  have hg := run_getMap (P := P) hst
  have hf := run_find (w := w) K a l
  unfold mapOf at hg
  unfold Instr.lookup
  simp only [Sem.run_bind, run_underlying hu, hg, K.chk, hf, Result.andThen, Sem.run_pure]
  cases look l a <;> simp [hz]
theorem look_some {l : List (κ × Int)} {a : κ} : ∀ {k : Nat} {v : Int}, look l a = some (k, v) → ∃ h : k < l.length, l[k] = (a, v) := by
  induction l with
  | nil => intro k v h; simp [look] at h
  | cons x l ih =>
    intro k v h
    unfold look at h
    by_cases e : a = x.1
    · rw [if_pos e] at h
      simp only [Option.some.injEq, Prod.mk.injEq] at h
      obtain ⟨rfl, rfl⟩ := h
      exact ⟨by simp, by simp [e]⟩
    · rw [if_neg e] at h
      cases hl : look l a with
      | none => rw [hl] at h; simp at h
      | some p =>
        rw [hl] at h
        simp only [Option.map_some, Option.some.injEq, Prod.mk.injEq] at h
        obtain ⟨rfl, rfl⟩ := h
        obtain ⟨h1, h2⟩ := ih (k := p.1) (v := p.2) (by rw [hl])
        exact ⟨by simpa using h1, by simpa using h2⟩
theorem mapAt_snoc (x : κ × Int) : ∀ (l : List (κ × Int)) (i : Nat), mapAt (l ++ [x]) i = mapAt l i ++ [⟨.agg (Cel.cs x.1), .int .i64 x.2, i + l.length⟩]
  | [], i => rfl
  | y :: l, i => by
    show _ :: mapAt (l ++ [x]) (i + 1) = _ :: (mapAt l (i + 1) ++ _)
    rw [mapAt_snoc x l (i + 1), List.length_cons, Nat.add_right_comm, Nat.add_assoc]
/-- The entry of a key: laid if there is none. -/
def entL (l : List (κ × Int)) (a : κ) : List (κ × Int) := match look l a with | some _ => l | none => l ++ [(a, 0)]
def entI (l : List (κ × Int)) (a : κ) : Nat := match look l a with | some p => p.1 | none => l.length
theorem modify_same {α : Type} (es : Array α) (i : Nat) (f : α → α) (h : ∀ x, es[i]? = some x → f x = x) : es.modify i f = es := by
  apply Array.ext_getElem?
  intro k
  rw [Array.getElem?_modify]
  split
  · rename_i e; subst e
    cases hk : es[i]? with
    | none => rfl
    | some x => simp [h x hk]
  · rfl
theorem run_setObj {b : Nat} {o o' : Obj} (hst : St w0 ((b, o) :: H) w) (hm : ∃ es c, o = .map es c) : (setObj b o').run P w = .ok () { w with heap := w.heap.setIfInBounds b o' } := by
  have := (hst.has _ (List.mem_cons_self)).2
  simp only at this
  obtain ⟨es, c, rfl⟩ := hm
  simp only [setObj, Sem.run, this]
/-- The address of m[k]. -/
theorem run_entOf {mt kt et : TypeId} (K : KeyTy P κ kt) (hu : P.underlying mt = some (.map kt et)) (hz : ∀ w, (zeroValue et).run P w = .ok (.int .i64 0) w) (a : κ) (l : List (κ × Int)) (b : Nat) (hst : St w0 ((b, mapOf l) :: H) w) :
    ∃ w', (Instr.mapEntry mt (.map (some b)) (.agg (Cel.cs a))).run P w = .ok (.tuple #[.int .i64 (((look l a).map (·.2)).getD 0), .int .i64 ((entI l a : Nat) : Int)]) w' ∧ St w0 ((b, mapOf (entL l a)) :: H) w' := by
  have hg := run_getMap (P := P) hst
  have hf := run_find (w := w) K a l
  have hs := fun o' => run_setObj (P := P) (o' := o') hst ⟨_, _, rfl⟩
  unfold mapOf at hg
  unfold Instr.mapEntry entI entL
  simp only [Sem.run_bind, run_underlying hu, hg, K.chk, hf, Result.andThen]
  cases hl : look l a with
  | none =>
    refine ⟨_, ?_, St.setO (o' := mapOf (l ++ [(a, 0)])) hst⟩
    simp only [Option.map_none, hz, hs, Sem.run_bind, Result.andThen, Sem.run_pure]
    simp [mapOf, mapAt_snoc, goInt]
  | some p =>
    obtain ⟨k, v⟩ := p
    obtain ⟨h1, h2⟩ := look_some hl
    refine ⟨_, ?_, St.setO (o' := mapOf l) hst⟩
    have hk := mapAt_get l 0 k h1
    simp only [h2, Nat.zero_add] at hk
    simp only [Option.map_some, List.getElem?_toArray, hk, Option.getD_some, Instr.keyThatStays, K.bits, if_true, Sem.run_bind, Sem.run_pure, Result.andThen, hs, goInt]
    rw [modify_same _ _ _ (fun x hx => by rw [List.getElem?_toArray, hk] at hx; cases hx; rfl)]
    rfl
theorem mapAt_set (y : κ × Int) : ∀ (l : List (κ × Int)) (i k : Nat) (h : k < l.length), y.1 = l[k].1 → mapAt (l.set k y) i = (mapAt l i).modify k fun e => { e with val := .int .i64 y.2 }
  | [], i, k, h, _ => by simp at h
  | x :: l, i, 0, h, e => by
    have e' : y.1 = x.1 := by simpa using e
    simp [mapAt, e']
  | x :: l, i, k + 1, h, e => by
    show _ :: mapAt (l.set k y) (i + 1) = _
    rw [mapAt_set y l (i + 1) k (by simpa using h) (by simpa using e)]
    simp [mapAt]
theorem find_born' : ∀ (l : List (κ × Int)) (i k : Nat), k < l.length → (mapAt l i).findIdx? (fun e => ((e.born : Nat) : Int) == ((i + k : Nat) : Int)) = some k
  | [], i, k, h => by simp at h
  | x :: l, i, 0, h => by unfold mapAt; rw [List.findIdx?_cons]; simp
  | x :: l, i, k + 1, h => by
    have ih := find_born' l (i + 1) k (by simpa using h)
    unfold mapAt
    rw [List.findIdx?_cons]
    have : (((i : Nat) : Int) == ((i + (k + 1) : Nat) : Int)) = false := by simp; omega
    rw [this]
    rw [show i + (k + 1) = i + 1 + k by omega, ih]
    rfl
/-- m[k] = v, the entry known. -/
theorem run_entStore {mt : TypeId} (l : List (κ × Int)) (a : κ) (v : Int) (b k : Nat) (hk : k < l.length) (hv : l[k].1 = a) (hst : St w0 ((b, mapOf l) :: H) w) :
    ∃ w', (Instr.entryStore mt (.map (some b)) (.int .i64 ((k : Nat) : Int)) (.int .i64 v)).run P w = .ok () w' ∧ St w0 ((b, mapOf (l.set k (a, v))) :: H) w' := by
  have hg := run_getMap (P := P) hst
  have hs := fun o' => run_setObj (P := P) (o' := o') hst ⟨_, _, rfl⟩
  have hf := find_born' l 0 k hk
  refine ⟨_, ?_, St.setO (o' := mapOf (l.set k (a, v))) hst⟩
  unfold mapOf at hg
  unfold Instr.entryStore
  rw [Nat.zero_add] at hf
  simp only [Sem.run_bind, hg, Result.andThen, asInt, asIntOf, List.findIdx?_toArray, hf, hs, Sem.run_pure]
  rw [mapOf, mapAt_set (a, v) l 0 k hk (by simpa using hv.symm)]
  simp
theorem run_newMap {mt : TypeId} (hst : St w0 H w) : ∃ b w', (Instr.makeMap mt none).run P w = .ok (.map (some b)) w' ∧ St w0 ((b, mapOf ([] : List (κ × Int))) :: H) w' :=
  ⟨w.heap.size, w.alloc (.map #[] 0), by simp [Instr.makeMap], hst.alloc _⟩
theorem run_rangeOf {mt kt et : TypeId} (hu : P.underlying mt = some (.map kt et)) (l : List (κ × Int)) (b : Nat) (hst : St w0 ((b, mapOf l) :: H) w) :
    ∃ x w', (Instr.range mt (.map (some b))).run P w = .ok (.pointer (some ⟨x, 0, none⟩)) w' ∧ St w0 ((x, .mapIter (some b) l.length #[] l.length) :: (b, mapOf l) :: H) w' := by
  have hg := run_getMap (P := P) hst
  unfold mapOf at hg
  exact ⟨w.heap.size, w.alloc (.mapIter (some b) l.length #[] l.length), by simp [Instr.range, run_underlying hu, hg], hst.alloc _⟩
theorem mapAt_mem {l : List (κ × Int)} {i : Nat} {e : MapEntry} (h : e ∈ mapAt l i) : ∃ k, ∃ hk : k < l.length, e = ⟨.agg (Cel.cs l[k].1), .int .i64 l[k].2, i + k⟩ := by
  obtain ⟨k, hk, he⟩ := List.mem_iff_getElem.1 h
  have hk' : k < l.length := by rw [mapAt_len] at hk; exact hk
  refine ⟨k, hk', ?_⟩
  have := mapAt_get l i k hk'
  rw [List.getElem?_eq_getElem hk] at this
  simp only [Option.some.injEq] at this
  rw [← he, this]
theorem run_nextOf {ty : TypeId} (l : List (κ × Int)) (b x : Nat) (sn : Array Nat) (hst : St w0 ((x, .mapIter (some b) l.length sn l.length) :: (b, mapOf l) :: H) w) :
    ((∀ k, k < l.length → sn.contains k = true) ∧ (Instr.next (.pointer (some ⟨x, 0, none⟩)) false ty).run P w = .ok (.tuple #[.bool false]) w) ∨
    ∃ k, ∃ hk : k < l.length, sn.contains k = false ∧ ∃ w', (Instr.next (.pointer (some ⟨x, 0, none⟩)) false ty).run P w = .ok (.tuple #[.bool true, .agg (Cel.cs l[k].1), .int .i64 l[k].2]) w' ∧ St w0 ((x, .mapIter (some b) l.length (sn.push k) l.length) :: (b, mapOf l) :: H) w' := by
  have hx := (hst.has _ (List.mem_cons_self)).2
  have hb := (hst.has (b, mapOf l) (by simp)).2
  simp only at hx hb
  unfold mapOf at hb
  have hold : ∀ e ∈ ((mapAt l 0).toArray).toList, e.born < l.length := fun e he => by
    obtain ⟨k, hk, rfl⟩ := mapAt_mem (by simpa using he)
    simp only; omega
  simp only [Instr.next, getObj, Sem.run_bind, Sem.run, hx, hb, Result.andThen, next_test_false sn _ l.length l.length hold (Nat.le_refl _), Bool.false_eq_true, if_false]
  have hmem : ∀ e ∈ (Array.filter (fun e => !sn.contains e.born) (mapAt l 0).toArray).toList, e.born < l.length := fun e he => hold e (by simp at he ⊢; exact he.1)
  have hwh : ∀ e ∈ (Array.filter (fun e => !sn.contains e.born) (mapAt l 0).toArray).toList, ∃ k, ∃ hk : k < l.length, sn.contains k = false ∧ e = ⟨.agg (Cel.cs l[k].1), .int .i64 l[k].2, k⟩ := fun e he => by
    simp only [Array.toList_filter, List.mem_filter, Bool.not_eq_true'] at he
    obtain ⟨k, hk, e2⟩ := mapAt_mem (by simpa using he.1)
    rw [Nat.zero_add] at e2
    refine ⟨k, hk, ?_, e2⟩
    have := he.2
    rw [e2] at this
    exact this
  have hnone : (Array.filter (fun e => !sn.contains e.born) (mapAt l 0).toArray).size = 0 → ∀ k, k < l.length → sn.contains k = true := fun h0 k hk => by
    have e0 := Array.eq_empty_of_size_eq_zero h0
    rw [Array.filter_eq_empty_iff] at e0
    have hm : (⟨.agg (Cel.cs l[k].1), .int .i64 l[k].2, k⟩ : MapEntry) ∈ mapAt l 0 := by
      have := List.mem_of_getElem? (mapAt_get l 0 k hk)
      rwa [Nat.zero_add] at this
    have := e0 _ (by simpa using hm)
    simpa using this
  generalize Array.filter (fun e => !sn.contains e.born) (mapAt l 0).toArray = L at hmem hwh hnone ⊢
  have e1 : L.filter (fun x => decide (x.born < l.length)) = L := Array.filter_eq_self.2 (fun x hx => by simpa using hmem x (by simpa using hx))
  have e2 : L.filter (fun x => decide (x.born ≥ l.length)) = #[] := by
    rw [Array.filter_eq_empty_iff]
    intro x hx
    have := hmem x (by simpa using hx)
    simp
    omega
  simp only [e1, e2, Array.append_empty]
  by_cases h0 : L.size = 0
  · left
    refine ⟨hnone h0, ?_⟩
    have : L = #[] := Array.eq_empty_of_size_eq_zero h0
    subst this
    simp [choose, Sem.run, Question.forced]
  · right
    have hne : L.isEmpty = false := by simp [Array.isEmpty, h0]
    simp only [hne, Bool.false_eq_true, if_false, Array.empty_append, Array.size_map]
    have hch : ∃ (j : Nat) (w1 : World), j < L.size ∧ St w0 ((x, .mapIter (some b) l.length sn l.length) :: (b, mapOf l) :: H) w1 ∧ (choose (Question.mapNext L.size)).run P w = .ok j w1 := by
      by_cases hf : L.size ≤ 1
      · exact ⟨0, w, by omega, hst, by simp [choose, Sem.run, Question.forced, hf]⟩
      · exact ⟨_, w.drew, Nat.mod_lt _ (by omega), hst.drew, by
          simp only [choose, Sem.run, Question.forced, decide_eq_true_eq, hf, if_false, Question.cut]
          rfl⟩
    obtain ⟨j, w1, hj, hst1, hrun⟩ := hch
    obtain ⟨k, hk, hk1, hk2⟩ := hwh L[j] (by simp)
    refine ⟨k, hk, hk1, _, ?_, St.setO (o' := .mapIter (some b) l.length (sn.push k) l.length) hst1⟩
    have hx1 := (hst1.has _ (List.mem_cons_self)).2
    simp only at hx1
    have hset : ∀ o', (setObj x o').run P w1 = .ok () { w1 with heap := w1.heap.setIfInBounds x o' } := fun o' => by
      simp only [setObj, Sem.run, hx1]
    simp only [hrun, Array.getElem?_map, Array.getElem?_eq_getElem hj, Option.map_some, Sem.run_bind, hset, Result.andThen, hk2]
    rfl
theorem find_born2 : ∀ (l : List (κ × Int)) (i k : Nat) (h : k < l.length), (mapAt l i).find? (fun e => e.born == i + k) = some ⟨.agg (Cel.cs l[k].1), .int .i64 l[k].2, i + k⟩
  | [], i, k, h => by simp at h
  | x :: l, i, 0, h => by unfold mapAt; rw [List.find?_cons]; simp
  | x :: l, i, k + 1, h => by
    have ih := find_born2 l (i + 1) k (by simpa using h)
    unfold mapAt
    rw [List.find?_cons]
    have : ((i : Nat) == i + (k + 1)) = false := by simp
    simp only [this]
    rw [show i + (k + 1) = i + 1 + k by omega, ih]
    simp
theorem run_entryOf (l : List (κ × Int)) (b x k : Nat) (hk : k < l.length) (sn : Array Nat) (hst : St w0 ((x, .mapIter (some b) l.length (sn.push k) l.length) :: (b, mapOf l) :: H) w) :
    (Instr.entry (.pointer (some ⟨x, 0, none⟩))).run P w = .ok (.tuple #[.agg (Cel.cs l[k].1), .int .i64 l[k].2]) w := by
  have hx := (hst.has _ (List.mem_cons_self)).2
  have hb := (hst.has (b, mapOf l) (by simp)).2
  simp only at hx hb
  unfold mapOf at hb
  have hf := find_born2 l 0 k hk
  rw [Nat.zero_add] at hf
  have hf' : (mapAt l 0).toArray.find? (fun e => e.born == k) = some ⟨.agg (Cel.cs l[k].1), .int .i64 l[k].2, k⟩ := by simpa using hf
  simp only [Instr.entry, getObj, Sem.run_bind, Sem.run, hx, hb, Result.andThen, Array.back?_push, bne_self_eq_false, Bool.false_eq_true, if_false, hf']
  rfl
end
end Go.Proofs.Ytphnfhonmbbddaa

/- Rules of the logic for the operations on a map that the call made. No program in sight. -/
namespace Go.Proofs.Ytphnfhonmbbddaa
open Go Go.RowKit
set_option linter.unusedVariables false
set_option linter.unusedSectionVars false
abbrev RunsV (P : Program) (ops : Array Oper) (e : Env) (i : Nat) (M : Sem Value) : Prop := ∀ w, runAt P ops e i w = ((do let v ← M; Pure.pure (Next.value v)) : Sem Next).run P w
abbrev RunsU (P : Program) (ops : Array Oper) (e : Env) (i : Nat) (M : Sem Unit) : Prop := ∀ w, runAt P ops e i w = ((do M; Pure.pure Next.skip) : Sem Next).run P w
section
variable {κ : Type} [Cel κ] [DecidableEq κ]
/-- The value of a key. -/
def valOf (l : List (κ × Int)) (a : κ) : Int := ((look l a).map (·.2)).getD 0
theorem look_snoc {l : List (κ × Int)} {a : κ} {v : Int} (h : look l a = none) : look (l ++ [(a, v)]) a = some (l.length, v) := by
  induction l with
  | nil => simp [look]
  | cons x l ih =>
    unfold look at h
    by_cases e : a = x.1
    · rw [if_pos e] at h; cases h
    · rw [if_neg e] at h
      simp only [Option.map_eq_none_iff] at h
      rw [List.cons_append]
      unfold look
      rw [if_neg e, ih h]; simp
theorem valOf_ent {l : List (κ × Int)} {a : κ} : valOf (entL l a) a = valOf l a := by
  unfold entL
  cases h : look l a with
  | some p => rfl
  | none => unfold valOf; rw [h]; simp only; rw [look_snoc h]; rfl
end
def iterOf (b n : Nat) (sn : Array Nat) : Obj := .mapIter (some b) n sn n
section
variable {κ : Type} [Cel κ] [DecidableEq κ] {P : Program} {ops : Array Oper} {Q : Exit → Act → World → Prop} {S : World → Prop} {n : Nat} {rest : List (Nat × Bool)} {e : Env} {w0 : World} {H H' : List (Nat × Obj)}
theorem T.mapNew {i : Nat} (d : Nat) (mt : TypeId) (hk : okAt ops n e i d = true) (hm : RunsV P ops e i (Instr.makeMap mt none)) (hS : ∀ b w, St w0 ((b, mapOf ([] : List (κ × Int))) :: H) w → S w)
    (h : ∀ b, T P ops Q S n rest ((d, .map (some b)) :: e) (St w0 ((b, mapOf ([] : List (κ × Int))) :: H))) : T P ops Q S n ((i, false) :: rest) e (St w0 H) :=
  T.effOf (β := Nat) d _ (fun b => .map (some b)) (fun b => St w0 ((b, mapOf ([] : List (κ × Int))) :: H)) hk hm (fun w hw => run_newMap hw) hS h
theorem T.mapLook {i : Nat} (d : Nat) (mt kt et : TypeId) (K : KeyTy P κ kt) (a : κ) (l : List (κ × Int)) (b : Nat) (x : Int) (hp : H.Perm ((b, mapOf l) :: H')) (hk : okAt ops n e i d = true) (hm : RunsV P ops e i (Instr.lookup mt (.map (some b)) (.agg (Cel.cs a)) false))
    (hu : P.underlying mt = some (.map kt et)) (hz : ∀ w, (zeroValue et).run P w = .ok (.int .i64 0) w) (hx : valOf l a = x) (h : T P ops Q S n rest ((d, .int .i64 x) :: e) (St w0 H)) : T P ops Q S n ((i, false) :: rest) e (St w0 H) :=
  T.val false d _ hk (fun w hw => by
    have hw' : St w0 H w := hw
    rw [hm, Sem.run_bind, run_look K hu hz a l b (hw'.perm hp), ← hx]; rfl) h
theorem T.mapEnt {i : Nat} (d : Nat) (mt kt et : TypeId) (K : KeyTy P κ kt) (a : κ) (l : List (κ × Int)) (b : Nat) (hp : H.Perm ((b, mapOf l) :: H')) (hk : okAt ops n e i d = true) (hm : RunsV P ops e i (Instr.mapEntry mt (.map (some b)) (.agg (Cel.cs a))))
    (hu : P.underlying mt = some (.map kt et)) (hz : ∀ w, (zeroValue et).run P w = .ok (.int .i64 0) w) (hS : ∀ w, St w0 ((b, mapOf (entL l a)) :: H') w → S w)
    (h : T P ops Q S n rest ((d, .tuple #[.int .i64 (((look l a).map (·.2)).getD 0), .int .i64 ((entI l a : Nat) : Int)]) :: e) (St w0 ((b, mapOf (entL l a)) :: H'))) : T P ops Q S n ((i, false) :: rest) e (St w0 H) :=
  T.effOf (β := Unit) d _ (fun _ => .tuple #[.int .i64 (((look l a).map (·.2)).getD 0), .int .i64 ((entI l a : Nat) : Int)]) (fun _ => St w0 ((b, mapOf (entL l a)) :: H')) hk hm (fun w hw => by
    obtain ⟨w', h1, h2⟩ := run_entOf K hu hz a l b (hw.perm hp)
    exact ⟨(), w', h1, h2⟩) (fun _ => hS) (fun _ => h)
theorem T.mapPut {i : Nat} (mt : TypeId) (a : κ) (v : Int) (l l' : List (κ × Int)) (b k : Nat) (hp : H.Perm ((b, mapOf l) :: H')) (hk : okAt0 ops e i = true) (hm : RunsU P ops e i (Instr.entryStore mt (.map (some b)) (.int .i64 ((k : Nat) : Int)) (.int .i64 v)))
    (hlt : k < l.length) (hv : l[k].1 = a) (hl' : l.set k (a, v) = l') (hS : ∀ w, St w0 ((b, mapOf l') :: H') w → S w)
    (h : T P ops Q S n rest e (St w0 ((b, mapOf l') :: H'))) : T P ops Q S n ((i, false) :: rest) e (St w0 H) := by
  subst hl'
  exact T.effsOf _ (St w0 ((b, mapOf (l.set k (a, v))) :: H')) hk hm (fun w hw => run_entStore l a v b k hlt hv (hw.perm hp)) hS h
theorem T.mapRange {i : Nat} (d : Nat) (mt kt et : TypeId) (l : List (κ × Int)) (b : Nat) (hp : H.Perm ((b, mapOf l) :: H')) (hk : okAt ops n e i d = true) (hm : RunsV P ops e i (Instr.range mt (.map (some b))))
    (hu : P.underlying mt = some (.map kt et)) (hS : ∀ x w, St w0 ((x, iterOf b l.length #[]) :: (b, mapOf l) :: H') w → S w)
    (h : ∀ x, T P ops Q S n rest ((d, .pointer (some ⟨x, 0, none⟩)) :: e) (St w0 ((x, iterOf b l.length #[]) :: (b, mapOf l) :: H'))) : T P ops Q S n ((i, false) :: rest) e (St w0 H) :=
  T.effOf (β := Nat) d _ (fun x => .pointer (some ⟨x, 0, none⟩)) (fun x => St w0 ((x, iterOf b l.length #[]) :: (b, mapOf l) :: H')) hk hm (fun w hw => run_rangeOf hu l b (hw.perm hp)) hS h
theorem T.mapNext {i : Nat} (d : Nat) (ty : TypeId) (l : List (κ × Int)) (b x : Nat) (sn : Array Nat) (hp : H.Perm ((x, iterOf b l.length sn) :: (b, mapOf l) :: H')) (hk : okAt ops n e i d = true) (hm : RunsV P ops e i (Instr.next (.pointer (some ⟨x, 0, none⟩)) false ty))
    (hS : ∀ sn w, St w0 ((x, iterOf b l.length sn) :: (b, mapOf l) :: H') w → S w)
    (h0 : (∀ k, k < l.length → sn.contains k = true) → T P ops Q S n rest ((d, .tuple #[.bool false]) :: e) (St w0 ((x, iterOf b l.length sn) :: (b, mapOf l) :: H')))
    (h1 : ∀ k (hlt : k < l.length), sn.contains k = false → T P ops Q S n rest ((d, .tuple #[.bool true, .agg (Cel.cs l[k].1), .int .i64 l[k].2]) :: e) (St w0 ((x, iterOf b l.length (sn.push k)) :: (b, mapOf l) :: H'))) : T P ops Q S n ((i, false) :: rest) e (St w0 H) := by
  intro a w ha hw hSw
  rcases run_nextOf (P := P) (ty := ty) l b x sn (hw.perm hp) with ⟨hall, hr⟩ | ⟨k, hlt, hc, w', hr, hst⟩
  · exact T.eff (β := Unit) (Φ := fun v => v = w) d (fun _ => .tuple #[.bool false]) (fun _ => St w0 ((x, iterOf b l.length sn) :: (b, mapOf l) :: H')) hk (fun v hv => ⟨(), w, by rw [hv, hm, Sem.run_bind, hr]; rfl, hw.perm hp⟩) (fun _ => hS sn) (fun _ => h0 hall) a w ha rfl hSw
  · exact T.eff (β := Unit) (Φ := fun v => v = w) d (fun _ => .tuple #[.bool true, .agg (Cel.cs l[k].1), .int .i64 l[k].2]) (fun _ => St w0 ((x, iterOf b l.length (sn.push k)) :: (b, mapOf l) :: H')) hk (fun v hv => ⟨(), w', by rw [hv, hm, Sem.run_bind, hr]; rfl, hst⟩) (fun _ => hS _) (fun _ => h1 k hlt hc) a w ha rfl hSw
theorem T.mapEntry {i : Nat} (d : Nat) (l : List (κ × Int)) (b x k : Nat) (sn : Array Nat) (hlt : k < l.length) (hp : H.Perm ((x, iterOf b l.length (sn.push k)) :: (b, mapOf l) :: H')) (hk : okAt ops n e i d = true) (hm : RunsV P ops e i (Instr.entry (.pointer (some ⟨x, 0, none⟩))))
    (h : T P ops Q S n rest ((d, .tuple #[.agg (Cel.cs l[k].1), .int .i64 l[k].2]) :: e) (St w0 H)) : T P ops Q S n ((i, false) :: rest) e (St w0 H) :=
  T.val false d _ hk (fun w hw => by
    have hw' : St w0 H w := hw
    rw [hm, Sem.run_bind, run_entryOf l b x k hlt sn (hw'.perm hp)]; rfl) h
end
section
variable {κ : Type} [Cel κ] [DecidableEq κ]
theorem look_lt {l : List (κ × Int)} {a : κ} : entI l a < (entL l a).length := by
  unfold entI entL
  cases h : look l a with
  | none => simp
  | some p => obtain ⟨k, v⟩ := p; exact (look_some h).1
theorem look_key {l : List (κ × Int)} {a : κ} : ((entL l a)[entI l a]'look_lt).1 = a := by
  have h2 : ∀ (h : entI l a < (entL l a).length), ((entL l a)[entI l a]'h).1 = a := by
    unfold entI entL
    cases hl : look l a with
    | none => intro h; simp
    | some p => obtain ⟨k, v⟩ := p; intro h; obtain ⟨h1, e⟩ := look_some hl; simp only [e]
  exact h2 _
/-- m[a] = f (m[a]), as a list. -/
def upd (l : List (κ × Int)) (a : κ) (v : Int) : List (κ × Int) := (entL l a).set (entI l a) (a, v)
theorem look_none {l : List (κ × Int)} {a : κ} : look l a = none ↔ ∀ x ∈ l, x.1 ≠ a := by
  induction l with
  | nil => simp [look]
  | cons x l ih =>
    unfold look
    by_cases e : a = x.1
    · simp [e]
    · rw [if_neg e]
      simp only [Option.map_eq_none_iff, ih, List.mem_cons, forall_eq_or_imp]
      exact ⟨fun h => ⟨fun h2 => e h2.symm, h⟩, fun h => h.2⟩
theorem valOf_mem {l : List (κ × Int)} (hn : (l.map (·.1)).Nodup) {a : κ} {v : Int} (h : (a, v) ∈ l) : valOf l a = v := by
  induction l with
  | nil => cases h
  | cons x l ih =>
    rw [List.map_cons, List.nodup_cons] at hn
    unfold valOf look
    rcases List.mem_cons.1 h with rfl | h
    · simp
    · have : ¬ a = x.1 := fun e => hn.1 (by rw [← e]; exact List.mem_map_of_mem (f := (·.1)) h)
      rw [if_neg this]
      have := ih hn.2 h
      unfold valOf at this
      simpa [Option.map_map, Function.comp_def] using this
theorem upd_mem {l : List (κ × Int)} (hn : (l.map (·.1)).Nodup) {a : κ} {v : Int} (y : κ × Int) : y ∈ upd l a v ↔ y = (a, v) ∨ (y ∈ l ∧ y.1 ≠ a) := by
  unfold upd entL entI
  cases hl : look l a with
  | none =>
    have := look_none.1 hl
    simp only [List.set_append_right _ _ (Nat.le_refl _), Nat.sub_self, List.set_cons_zero, List.mem_append, List.mem_singleton]
    constructor
    · rintro (h | h)
      · exact .inr ⟨h, this y h⟩
      · exact .inl h
    · rintro (h | h)
      · exact .inr h
      · exact .inl h.1
  | some p =>
    obtain ⟨k, u⟩ := p
    obtain ⟨hk, e⟩ := look_some hl
    simp only
    rw [List.mem_iff_getElem]
    constructor
    · rintro ⟨j, hj, rfl⟩
      simp only [List.length_set] at hj
      by_cases hjk : k = j
      · subst hjk; left; simp
      · right
        rw [List.getElem_set_ne hjk]
        refine ⟨List.getElem_mem _, fun he => hjk ?_⟩
        have h1 := List.pairwise_iff_getElem.1 hn
        rcases Nat.lt_trichotomy k j with h | h | h
        · exact (h1 k j (by simpa using hk) (by simpa using hj) h (by simp [e, he])).elim
        · exact h
        · exact (h1 j k (by simpa using hj) (by simpa using hk) h (by simp [e, he])).elim
    · rintro (rfl | ⟨h1, h2⟩)
      · exact ⟨k, by simpa using hk, by simp⟩
      · obtain ⟨j, hj, rfl⟩ := List.mem_iff_getElem.1 h1
        have hne : k ≠ j := fun e2 => by subst e2; exact h2 (by rw [e])
        exact ⟨j, by simpa using hj, by rw [List.getElem_set_ne hne]⟩
theorem upd_keys {l : List (κ × Int)} {a : κ} {v : Int} (hn : (l.map (·.1)).Nodup) : ((upd l a v).map (·.1)).Nodup := by
  unfold upd entL entI
  cases hl : look l a with
  | none =>
    have := look_none.1 hl
    simp only [List.set_append_right _ _ (Nat.le_refl _), Nat.sub_self, List.set_cons_zero, List.map_append, List.map_cons, List.map_nil]
    rw [List.nodup_append]
    refine ⟨hn, by simp, fun x hx y hy => ?_⟩
    obtain ⟨z, hz, rfl⟩ := List.mem_map.1 hx
    simp only [List.mem_singleton] at hy
    subst hy
    exact this z hz
  | some p =>
    obtain ⟨k, u⟩ := p
    obtain ⟨hk, e⟩ := look_some hl
    simp only
    have : (l.set k (a, v)).map (·.1) = l.map (·.1) := by
      rw [List.map_set]
      refine List.ext_getElem (by simp) fun i h1 h2 => ?_
      by_cases hi : k = i
      · subst hi; simp [e]
      · rw [List.getElem_set_ne hi]
    rw [this]; exact hn
theorem upd_len {l : List (κ × Int)} {a : κ} {v : Int} : (upd l a v).length ≤ l.length + 1 := by
  unfold upd entL
  rw [List.length_set]
  cases look l a <;> simp
/-- All entries have been seen, each once. -/
theorem seen_perm {α : Type} (l : List α) (sn : List Nat) (hn : sn.Nodup) (hlt : ∀ k ∈ sn, k < l.length) (hall : ∀ k, k < l.length → k ∈ sn) : (sn.filterMap fun k => l[k]?).Perm l := by
  have h1 : sn.Perm (List.range l.length) := (List.perm_ext_iff_of_nodup hn List.nodup_range).2 fun k => by
    rw [List.mem_range]; exact ⟨hlt k, hall k⟩
  have h2 : (List.range l.length).filterMap (fun k => l[k]?) = l := by
    have : ∀ m, m ≤ l.length → (List.range m).filterMap (fun k => l[k]?) = l.take m := by
      intro m
      induction m with
      | zero => intro _; simp
      | succ m ih =>
        intro hm
        rw [List.range_succ, List.filterMap_append, ih (by omega), List.take_add_one]
        simp [List.getElem?_eq_getElem (show m < l.length by omega)]
    rw [this _ (Nat.le_refl _), List.take_length]
  have := h1.filterMap (fun k => l[k]?)
  rwa [h2] at this
end
section
variable {P : Program} {ops : Array Oper} {Q : Exit → Act → World → Prop} {S : World → Prop} {n : Nat} {e : Env} {Φ Ψ : World → Prop}
/-- Two operations are ready: one after the other, either way. -/
def okOrd2 (ops : Array Oper) (i : Nat) (A : List (Nat × Bool)) (j : Nat) (B : List (Nat × Bool)) : List (Nat × Bool) → Array Bool → Bool
  | [], listed => (Region.ready .any ops listed == [i, j]) && ops[i]?.isSome && ops[j]?.isSome && okOrd ops A (listed.setIfInBounds i true) && okOrd ops B (listed.setIfInBounds j true)
  | (k, true) :: rest, listed => Region.free .any ops listed k && (Region.ready .any ops listed).contains k && ops[k]?.isSome && okOrd2 ops i A j B rest (listed.setIfInBounds k true)
  | (k, false) :: rest, listed => (Region.ready .any ops listed == [k]) && ops[k]?.isSome && okOrd2 ops i A j B rest (listed.setIfInBounds k true)
theorem wpOp_of_run {i : Nat} {rest : List (Nat × Bool)} {o : Oper} {a : Act} {w : World} {K : Act → World → Prop} (ho : ops[i]? = some o) (hw : wpList P ops (Exit.then K Q) [o] a w) : wpOp P ops Q i K a w := by
  unfold wpOp
  simp only [ho]
  unfold wpList at hw
  split
  · rename_i hwd
    rw [if_pos hwd] at hw
    rcases hw with hw | ⟨hw1, hw2⟩
    · refine .inl ?_
      unfold Oper.wp at hw ⊢
      rw [upon_then] at hw
      exact Oper.wp_mono (K := wpList P ops (Exit.then K Q) []) (fun a' w' hk => hk) hw
    · exact .inr ⟨hw1, hw2⟩
  · rename_i hwd
    rw [if_neg hwd] at hw
    exact hw
theorem wpOp_weak {i : Nat} {a : Act} {w : World} {K K' : Act → World → Prop} (h : ∀ a w, K a w → K' a w) (hh : wpOp P ops Q i K a w) : wpOp P ops Q i K' a w := wpOp_mono h hh
/-- What goes on either way. -/
def Either (P : Program) (ops : Array Oper) (Q : Exit → Act → World → Prop) (S : World → Prop) (i : Nat) (A : List (Nat × Bool)) (j : Nat) (B : List (Nat × Bool)) (a : Act) (w : World) : Prop :=
  runOrd P ops Q S ((i, false) :: A) a w ∧ runOrd P ops Q S ((j, false) :: B) a w
theorem anyH_of_run2 (hs : Region.noSelect ops = true) (hQ : ∀ (d : Option Tmp) (v : Value) c a w, Q (.panic c) (Act.put a d v) w → Q (.panic c) a w) {i j : Nat} {A B : List (Nat × Bool)} (hAB : A.length = B.length) :
    ∀ (ord : List (Nat × Bool)) (listed : Array Bool) (a : Act) (w : World), okOrd2 ops i A j B ord listed = true → S w → runOrd P ops (Exit.then (Either P ops Q S i A j B) Q) S ord a w → wpAnyH P .any ops Q S (ord.length + 1 + A.length) listed a w
  | [], listed, a, w, hok, hS, h => by
    simp only [okOrd2, Bool.and_eq_true] at hok
    obtain ⟨⟨⟨⟨h1, h2⟩, h3⟩, h4⟩, h5⟩ := hok
    obtain ⟨oi, hoi⟩ := Option.isSome_iff_exists.1 h2
    obtain ⟨oj, hoj⟩ := Option.isSome_iff_exists.1 h3
    have h' : Either P ops Q S i A j B a w := h
    rw [show ([] : List (Nat × Bool)).length + 1 + A.length = A.length + 1 by simp; omega]
    refine wpAnyH_all (rs := [i, j]) (by simpa using h1) (by simp) ?_
    intro k hk
    simp only [List.mem_cons, List.not_mem_nil, or_false] at hk
    rcases hk with rfl | rfl
    · exact wpOp_mono (fun a' w' hk => ⟨hk.1, anyH_of_run hs hQ A _ a' w' h4 hk.1 hk.2⟩) (wpOp_of_run (rest := A) hoi (h'.1 oi hoi))
    · refine wpOp_mono (fun a' w' hk => ⟨hk.1, ?_⟩) (wpOp_of_run (rest := B) hoj (h'.2 oj hoj))
      rw [hAB]
      exact anyH_of_run hs hQ B _ a' w' h5 hk.1 hk.2
  | (k, true) :: rest, listed, a, w, hok, hS, h => by
    simp only [okOrd2, Bool.and_eq_true] at hok
    obtain ⟨⟨⟨h1, h2⟩, h3⟩, h4⟩ := hok
    obtain ⟨o, ho⟩ := Option.isSome_iff_exists.1 h3
    obtain ⟨v, hy, hr⟩ := h o ho
    rw [show ((k, true) :: rest).length + 1 + A.length = (rest.length + 1 + A.length) + 1 by simp; omega]
    exact wpAnyH_take ho hs h1 h2 (fun c a w => hQ _ _ c a w) hy hS (anyH_of_run2 hs hQ hAB rest _ _ w h4 hS hr)
  | (k, false) :: rest, listed, a, w, hok, hS, h => by
    simp only [okOrd2, Bool.and_eq_true] at hok
    obtain ⟨⟨h1, h3⟩, h4⟩ := hok
    obtain ⟨o, ho⟩ := Option.isSome_iff_exists.1 h3
    rw [show ((k, false) :: rest).length + 1 + A.length = (rest.length + 1 + A.length) + 1 by simp; omega]
    refine wpAnyH_all (rs := [k]) (by simpa using h1) (by simp) ?_
    intro i' hi'
    simp only [List.mem_singleton] at hi'
    subst hi'
    have hw := h o ho
    have hw2 : wpList P ops (Exit.then (fun a' w' => S w' ∧ runOrd P ops (Exit.then (Either P ops Q S i A j B) Q) S rest a' w') Q) [o] a w := by
      unfold wpList at hw ⊢
      split
      · rename_i hwd
        rw [if_pos hwd] at hw
        rcases hw with hw | ⟨hw1, hw2⟩
        · refine .inl ?_
          unfold Oper.wp at hw ⊢
          rw [upon_then, upon_then] at hw
          rw [upon_then]
          exact Oper.wp_mono (K := wpList P ops (Exit.then (fun a' w' => S w' ∧ runOrd P ops (Exit.then (Either P ops Q S i A j B) Q) S rest a' w') (Exit.then (Either P ops Q S i A j B) Q)) []) (fun a' w' hk => hk) hw
        · refine .inr ⟨hw1, ?_⟩
          obtain ⟨a', w', h3⟩ := hw2
          exact ⟨a', w', h3⟩
      · rename_i hwd
        rw [if_neg hwd] at hw
        exact hw
    exact wpOp_mono (fun a' w' hk => ⟨hk.1, anyH_of_run2 hs hQ hAB rest _ a' w' h4 hk.1 hk.2⟩) (wpOp_of_run (rest := rest) ho hw2)
theorem W.drawn2 {id : Nat} {ops : Array Oper} (S : World → Prop) (pre : List (Nat × Bool)) (i : Nat) (A : List (Nat × Bool)) (j : Nat) (B : List (Nat × Bool)) (hm : P.follows .mixedOrders = true)
    (hB : (Region.noSelect ops && okOrd2 ops i A j B pre (Array.replicate ops.size false) && (pre.length + 1 + A.length == ops.size) && (A.length == B.length)) = true) (hQ : NoPanic Q)
    (hd : ∀ w, Φ w → Ψ { w with drawn := w.drawn + 1 }) (hS : ∀ w, Ψ w → S w) (h : T P ops (Exit.then (Either P ops Q S i A j B) Q) S n pre e Ψ) : W P n e Φ (.region id ops true) Q := fun a w ha hw => by
  simp only [Bool.and_eq_true, beq_iff_eq] at hB
  obtain ⟨⟨⟨h1, h2⟩, h3⟩, h4⟩ := hB
  refine wp_region_held (S := S) hm ?_
  have := anyH_of_run2 (P := P) (S := S) h1 hQ h4 pre _ a _ h2 (hS _ (hd w hw)) (h a _ ha (hd w hw) (hS _ (hd w hw)))
  rw [h3] at this
  exact this
theorem T.split {i j : Nat} {A B : List (Nat × Bool)} (hS : ∀ w, Φ w → S w) (hA : T P ops Q S n ((i, false) :: A) e Φ) (hB : T P ops Q S n ((j, false) :: B) e Φ) : T P ops (Exit.then (Either P ops Q S i A j B) Q) S n [] e Φ :=
  fun a w ha hw _ => (⟨hA a w ha hw (hS w hw), hB a w ha hw (hS w hw)⟩ : Either P ops Q S i A j B a w)
end
end Go.Proofs.Ytphnfhonmbbddaa

/- Sorted lists: what is sorted and has the same elements is the same. No program in sight. -/
namespace Go.Proofs.Ytphnfhonmbbddaa
open Go Go.RowKit
set_option linter.unusedVariables false
section
variable {α : Type} (lt : α → α → Bool)
def insS (x : α) : List α → List α
  | [] => [x]
  | y :: r => if lt y x then y :: insS x r else x :: y :: r
def isort (l : List α) : List α := l.foldr (insS lt) []
theorem insS_perm (x : α) : ∀ r : List α, (insS lt x r).Perm (x :: r)
  | [] => List.Perm.refl _
  | y :: r => by
    unfold insS
    split
    · exact ((insS_perm x r).cons y).trans (List.Perm.swap x y r)
    · exact List.Perm.refl _
theorem isort_perm : ∀ l : List α, (isort lt l).Perm l
  | [] => List.Perm.refl _
  | x :: l => (insS_perm lt x (isort lt l)).trans ((isort_perm l).cons x)
/-- No later one is less than an earlier one. -/
def Up (l : List α) : Prop := l.Pairwise fun x y => lt y x = false
variable {lt}
theorem insS_up (hirr : ∀ x, lt x x = false) (htr : ∀ x y z, lt x y = false → lt y z = false → lt x z = false) (has : ∀ x y, lt x y = true → lt y x = false) (x : α) : ∀ r : List α, Up lt r → Up lt (insS lt x r)
  | [], _ => by simp [insS, Up]
  | y :: r, h => by
    have h' := h
    unfold Up at h
    rw [List.pairwise_cons] at h
    unfold insS
    split
    · rename_i hx
      refine List.pairwise_cons.2 ⟨fun z hz => ?_, insS_up hirr htr has x r h.2⟩
      have := (insS_perm lt x r).subset hz
      rcases List.mem_cons.1 this with rfl | hz
      · exact has _ _ hx
      · exact h.1 z hz
    · rename_i hx
      have hx' : lt y x = false := by simpa using hx
      refine List.pairwise_cons.2 ⟨fun z hz => ?_, h'⟩
      rcases List.mem_cons.1 hz with rfl | hz
      · exact hx'
      · exact htr _ _ _ (h.1 z hz) hx'
theorem isort_up (hirr : ∀ x, lt x x = false) (htr : ∀ x y z, lt x y = false → lt y z = false → lt x z = false) (has : ∀ x y, lt x y = true → lt y x = false) : ∀ l : List α, Up lt (isort lt l)
  | [] => by simp [isort, Up]
  | x :: l => insS_up hirr htr has x _ (isort_up hirr htr has l)
theorem up_ext : ∀ {a b : List α}, Up lt a → Up lt b → a.Perm b → (∀ x ∈ a, ∀ y ∈ a, lt x y = false → lt y x = false → x = y) → a = b
  | [], b, _, _, hp, _ => (List.nil_perm.1 hp).symm
  | x :: a, [], _, _, hp, _ => absurd hp.length_eq (by simp)
  | x :: a, y :: b, ha, hb, hp, ht => by
    unfold Up at ha hb
    rw [List.pairwise_cons] at ha hb
    have hxy : x = y := by
      have hy : y ∈ x :: a := hp.symm.subset (by simp)
      have hx : x ∈ y :: b := hp.subset (by simp)
      rcases List.mem_cons.1 hy with e | h1
      · exact e.symm
      · rcases List.mem_cons.1 hx with e | h2
        · exact e
        · exact ht x (by simp) y hy (hb.1 x h2) (ha.1 y h1)
    subst hxy
    rw [up_ext ha.2 hb.2 (List.Perm.cons_inv hp) (fun u hu v hv => ht u (by simp [hu]) v (by simp [hv]))]
end
end Go.Proofs.Ytphnfhonmbbddaa

/- The votes that speak for an outcome, as a map: plain facts. -/
namespace Go.Proofs.Ytphnfhonmbbddaa
open Go Go.RowKit
set_option linter.unusedVariables false
set_option linter.unusedSectionVars false
theorem snocI {α : Type} {p : List α → Prop} (h0 : p []) (h1 : ∀ l a, p l → p (l ++ [a])) : ∀ l, p l := by
  intro l
  have : ∀ r : List α, p r.reverse := by
    intro r
    induction r with
    | nil => exact h0
    | cons a r ih => rw [List.reverse_cons]; exact h1 _ _ ih
  have := this l.reverse
  rwa [List.reverse_reverse] at this
section
variable {κ : Type} [Cel κ] [DecidableEq κ]
/-- The signers of the votes that f tells, by key. -/
def sgStep (f : Vt → Option κ) (mp : List (κ × Int)) (v : Vt) : List (κ × Int) :=
  match f v with
  | none => mp
  | some o => upd mp o (bits .or .i64 (valOf mp o) (2 ^ v.signer.toNat))
def sgMap (f : Vt → Option κ) (a : List Vt) : List (κ × Int) := a.foldl (sgStep f) []
/-- The signers of the votes with key o. -/
def sgMask (f : Vt → Option κ) (a : List Vt) (o : κ) : Int := a.foldl (fun x v => if f v = some o then bits .or .i64 x (2 ^ v.signer.toNat) else x) 0
theorem sgMap_snoc (f : Vt → Option κ) (a : List Vt) (v : Vt) : sgMap f (a ++ [v]) = sgStep f (sgMap f a) v := by unfold sgMap; rw [List.foldl_append]; rfl
theorem sgMask_snoc (f : Vt → Option κ) (a : List Vt) (v : Vt) (o : κ) : sgMask f (a ++ [v]) o = if f v = some o then bits .or .i64 (sgMask f a o) (2 ^ v.signer.toNat) else sgMask f a o := by unfold sgMask; rw [List.foldl_append]; rfl
theorem sgMap_keys (f : Vt → Option κ) (a : List Vt) : ((sgMap f a).map (·.1)).Nodup := by
  refine snocI (p := fun a => ((sgMap f a).map (·.1)).Nodup) (by simp [sgMap]) (fun a v ih => ?_) a
  rw [sgMap_snoc]
  unfold sgStep
  cases f v with
  | none => exact ih
  | some o => exact upd_keys ih
theorem sgMap_val (f : Vt → Option κ) (a : List Vt) : ∀ o, valOf (sgMap f a) o = sgMask f a o := by
  refine snocI (p := fun a => ∀ o, valOf (sgMap f a) o = sgMask f a o) (fun o => rfl) (fun a v ih => fun o => ?_) a
  have hk := sgMap_keys f a
  have hk2 := sgMap_keys f (a ++ [v])
  rw [sgMask_snoc]
  rw [sgMap_snoc] at hk2 ⊢
  unfold sgStep at hk2 ⊢
  cases hf : f v with
  | none => simp [ih]
  | some o2 =>
    simp only [hf] at hk2 ⊢
    by_cases e : o2 = o
    · subst e
      rw [if_pos rfl, ← ih o2]
      exact valOf_mem hk2 ((upd_mem hk _).2 (.inl rfl))
    · rw [if_neg (by simpa using e), ← ih o]
      cases hl : look (sgMap f a) o with
      | none =>
        have h0 : valOf (sgMap f a) o = 0 := by unfold valOf; rw [hl]; rfl
        rw [h0]
        have : look (upd (sgMap f a) o2 (bits .or .i64 (valOf (sgMap f a) o2) (2 ^ v.signer.toNat))) o = none := look_none.2 fun x hx => by
          rcases (upd_mem hk x).1 hx with rfl | ⟨h1, _⟩
          · exact e
          · exact look_none.1 hl x h1
        show ((look (upd (sgMap f a) o2 (bits .or .i64 (valOf (sgMap f a) o2) (2 ^ v.signer.toNat))) o).map (·.2)).getD 0 = 0
        rw [this]; rfl
      | some p =>
        obtain ⟨h1, h2⟩ := look_some (k := p.1) (v := p.2) hl
        have hm : (o, p.2) ∈ sgMap f a := by rw [← h2]; exact List.getElem_mem _
        rw [valOf_mem hk hm]
        exact valOf_mem hk2 ((upd_mem hk _).2 (.inr ⟨hm, fun h => e h.symm⟩))
theorem sgMap_key (f : Vt → Option κ) (a : List Vt) : ∀ o, (∃ x, (o, x) ∈ sgMap f a) ↔ ∃ v ∈ a, f v = some o := by
  refine snocI (p := fun a => ∀ o, (∃ x, (o, x) ∈ sgMap f a) ↔ ∃ v ∈ a, f v = some o) (fun o => by simp [sgMap]) (fun a v ih => fun o => ?_) a
  have hk := sgMap_keys f a
  rw [sgMap_snoc]
  unfold sgStep
  cases hf : f v with
  | none =>
    simp only [ih o, List.mem_append, List.mem_singleton]
    constructor
    · rintro ⟨u, h1, h2⟩; exact ⟨u, .inl h1, h2⟩
    · rintro ⟨u, h1 | rfl, h2⟩
      · exact ⟨u, h1, h2⟩
      · rw [hf] at h2; cases h2
  | some o2 =>
    constructor
    · rintro ⟨x, hx⟩
      rcases (upd_mem hk _).1 hx with e | ⟨h1, _⟩
      · cases e; exact ⟨v, by simp, hf⟩
      · obtain ⟨u, h2, h3⟩ := (ih o).1 ⟨x, h1⟩
        exact ⟨u, by simp [h2], h3⟩
    · rintro ⟨u, h1, h2⟩
      by_cases e : o = o2
      · subst e; exact ⟨_, (upd_mem hk _).2 (.inl rfl)⟩
      · simp only [List.mem_append, List.mem_singleton] at h1
        rcases h1 with h1 | rfl
        · obtain ⟨x, hx⟩ := (ih o).2 ⟨u, h1, h2⟩
          exact ⟨x, (upd_mem hk _).2 (.inr ⟨hx, e⟩)⟩
        · rw [hf] at h2; exact absurd (Option.some.inj h2).symm e
theorem sgMap_mem {f : Vt → Option κ} {a : List Vt} {o : κ} {x : Int} : (o, x) ∈ sgMap f a ↔ (∃ v ∈ a, f v = some o) ∧ x = sgMask f a o := by
  constructor
  · intro h
    exact ⟨(sgMap_key f a o).1 ⟨x, h⟩, by rw [← sgMap_val, valOf_mem (sgMap_keys f a) h]⟩
  · rintro ⟨h1, rfl⟩
    obtain ⟨y, hy⟩ := (sgMap_key f a o).2 h1
    have := valOf_mem (sgMap_keys f a) hy
    rw [sgMap_val] at this
    rw [this]; exact hy
theorem sgMap_len (f : Vt → Option κ) (a : List Vt) : (sgMap f a).length ≤ a.length := by
  refine snocI (p := fun a => (sgMap f a).length ≤ a.length) (by simp [sgMap]) (fun a v ih => ?_) a
  rw [sgMap_snoc]
  unfold sgStep
  cases f v with
  | none => simp; omega
  | some o =>
    have := upd_len (l := sgMap f a) (a := o) (v := bits .or .i64 (valOf (sgMap f a) o) (2 ^ v.signer.toNat))
    simp; omega
theorem mb_sgMask (f : Vt → Option κ) (a : List Vt) (o : κ) (hs : ∀ v ∈ a, 0 ≤ v.signer ∧ v.signer < 10) (i : Nat) (hi : i < 10) : mb (sgMask f a o) i = a.any (fun v => decide (f v = some o) && (v.signer == (i : Int))) := by
  have : (∀ v ∈ a, 0 ≤ v.signer ∧ v.signer < 10) → mb (sgMask f a o) i = a.any (fun v => decide (f v = some o) && (v.signer == (i : Int))) := by
    refine snocI (p := fun a => (∀ v ∈ a, 0 ≤ v.signer ∧ v.signer < 10) → mb (sgMask f a o) i = a.any (fun v => decide (f v = some o) && (v.signer == (i : Int)))) (fun _ => ?_) (fun a v ih => fun hs => ?_) a
    · show mb 0 i = _; rw [mb_zero]; rfl
    · have ih' := ih fun u hu => hs u (by simp [hu])
      have hv := hs v (by simp)
      rw [sgMask_snoc, List.any_append]
      by_cases hf : f v = some o
      · rw [if_pos hf]
        simp only [mb_or, ih', mb_pow _ _ (show i < 64 by omega), List.any_cons, List.any_nil, hf, decide_true, Bool.true_and, Bool.or_false]
        congr 1
        rw [Bool.eq_iff_iff]; simp; omega
      · rw [if_neg hf, ih']
        simp [hf]
  exact this hs
/-- The keys with at least q signers, in the order lt. -/
def sgOut (lt : κ → κ → Bool) (f : Vt → Option κ) (q : Int) (a : List Vt) : List κ := isort lt (((sgMap f a).filter fun y => decide (q ≤ (size y.2 : Int))).map (·.1))
theorem sgOut_mem {lt : κ → κ → Bool} {f : Vt → Option κ} {q : Int} {a : List Vt} {o : κ} : o ∈ sgOut lt f q a ↔ (∃ v ∈ a, f v = some o) ∧ q ≤ (size (sgMask f a o) : Int) := by
  unfold sgOut
  rw [(isort_perm lt _).mem_iff, List.mem_map]
  constructor
  · rintro ⟨⟨o', x⟩, h, rfl⟩
    rw [List.mem_filter, sgMap_mem] at h
    obtain ⟨⟨h1, rfl⟩, h2⟩ := h
    exact ⟨h1, by simpa using h2⟩
  · rintro ⟨h1, h2⟩
    exact ⟨(o, sgMask f a o), List.mem_filter.2 ⟨sgMap_mem.2 ⟨h1, rfl⟩, by simpa using h2⟩, rfl⟩
theorem sgOut_nodup {lt : κ → κ → Bool} {f : Vt → Option κ} {q : Int} {a : List Vt} : (sgOut lt f q a).Nodup := by
  unfold sgOut
  rw [(isort_perm lt _).nodup_iff]
  exact (List.Sublist.map _ List.filter_sublist).nodup (sgMap_keys f a)
theorem sgOut_len {lt : κ → κ → Bool} {f : Vt → Option κ} {q : Int} {a : List Vt} : (sgOut lt f q a).length ≤ a.length := by
  unfold sgOut
  rw [(isort_perm lt _).length_eq, List.length_map]
  exact Nat.le_trans (List.length_filter_le _ _) (sgMap_len f a)
end
/-- Which outcome of slot s a vote speaks for. -/
def ocOf (s : Int) (v : Vt) : Option Oc := if (((v.kind == 4) && (v.choice != 2)) = true) then some ⟨s, v.round, v.choice, v.val⟩ else none
end Go.Proofs.Ytphnfhonmbbddaa
