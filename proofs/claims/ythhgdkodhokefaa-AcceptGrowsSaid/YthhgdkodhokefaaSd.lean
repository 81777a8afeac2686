/- The data of the program in the logic: votes, names, ints. -/
import Derived.Test.YthhgdkodhokefaaSv
import Derived.Test.YthhgdkodhokefaaVtOps
import Derived.Test.YthhgdkodhokefaaComD
namespace Go.Proofs.Ythhgdkodhokefaa
open Go Go.RowKit
set_option linter.unusedVariables false

def Vt.zero : Vt := ⟨0, 0, 0, 0, 0, 0, Nm.zero, Nm.zero⟩
instance : Cel Vt := ⟨22, Vt.cs, fun _ => rfl, fun a u hu => vcells_one [a] u (by simpa [vcells] using hu), by decide⟩
instance : Cel Nm := ⟨8, Nm.cs, fun _ => rfl, fun a u hu => by simp at hu; rcases hu with rfl | rfl | rfl | rfl | rfl | rfl | rfl | rfl <;> rfl, by decide⟩
instance : Cel Int := ⟨1, fun x => #[.int .i64 x], fun _ => rfl, fun a u hu => by simp at hu; subst hu; rfl, by decide⟩
theorem Rd.v {w : World} {A : Option Addr} {l : List Vt} (h : Rd w A l) : RdV w A l := fun j hj => by
  obtain ⟨b, off, h1, h2, h3⟩ := h j hj
  exact ⟨b, off, h1, h2, fun t u hu => h3 t u (by rw [Array.getElem?_toList]; exact hu)⟩
theorem RdV.rd {w : World} {A : Option Addr} {l : List Vt} (h : RdV w A l) : Rd w A l := fun j hj => by
  obtain ⟨b, off, h1, h2, h3⟩ := h j hj
  exact ⟨b, off, h1, h2, fun t u hu => h3 t u (by rw [Array.getElem?_toList] at hu; exact hu)⟩
theorem maxD : Op.maxDepth = 9998 + 2 := by decide
theorem eq_nm (w : World) (a b : Nm) : (Op.equal 24 (.agg a.cs) (.agg b.cs)).run Try.prog w = .ok (a == b) w := by
  unfold Op.equal
  rw [maxD]
  exact run_equalIn_nm w 9998 a b
theorem eq_vt (w : World) (a b : Vt) : (Op.equal 26 (.agg a.cs) (.agg b.cs)).run Try.prog w = .ok (a == b) w := by
  have e : (a == b) = ((a.kind == b.kind) && ((a.slot == b.slot) && ((a.round == b.round) && ((a.choice == b.choice) && ((a.signer == b.signer) && ((a.support == b.support) && ((a.par == b.par) && ((a.val == b.val) && true)))))))) := by
    rw [Bool.eq_iff_iff]
    simp only [Bool.and_eq_true, beq_iff_eq, and_true]
    constructor
    · rintro rfl; simp
    · rintro ⟨h1, h2, h3, h4, h5, h6, h7, h8⟩
      cases a; cases b; simp_all
  rw [e]
  have hi : ∀ (x y : Int), (Op.equalIn 9999 3 (.int .i64 x) (.int .i64 y)).run Try.prog w = .ok (x == y) w := fun x y => run_equalIn_int w 9998 3 .i64 .i64 x y (by kernel_rfl)
  have hm : ∀ (x y : Int), (Op.equalIn 9999 22 (.int .i64 x) (.int .i64 y)).run Try.prog w = .ok (x == y) w := fun x y => run_equalIn_int w 9998 22 .i64 .i64 x y (by kernel_rfl)
  refine run_eq_struct w 9999 26 _ _ _ Try.underlying26 (by kernel_rfl) _ ?_
  refine run_eqFields_cons w _ _ _ _ _ (.int .i64 a.kind) (.int .i64 b.kind) _ _ (by decide) (by kernel_rfl) (by kernel_rfl) (hi _ _) ?_
  refine run_eqFields_cons w _ _ _ _ _ (.int .i64 a.slot) (.int .i64 b.slot) _ _ (by decide) (by kernel_rfl) (by kernel_rfl) (hi _ _) ?_
  refine run_eqFields_cons w _ _ _ _ _ (.int .i64 a.round) (.int .i64 b.round) _ _ (by decide) (by kernel_rfl) (by kernel_rfl) (hi _ _) ?_
  refine run_eqFields_cons w _ _ _ _ _ (.int .i64 a.choice) (.int .i64 b.choice) _ _ (by decide) (by kernel_rfl) (by kernel_rfl) (hi _ _) ?_
  refine run_eqFields_cons w _ _ _ _ _ (.int .i64 a.signer) (.int .i64 b.signer) _ _ (by decide) (by kernel_rfl) (by kernel_rfl) (hi _ _) ?_
  refine run_eqFields_cons w _ _ _ _ _ (.int .i64 a.support) (.int .i64 b.support) _ _ (by decide) (by kernel_rfl) (by kernel_rfl) (hm _ _) ?_
  refine run_eqFields_cons w _ _ _ _ _ (.agg a.par.cs) (.agg b.par.cs) _ _ (by decide) (by kernel_rfl) (by kernel_rfl) (run_equalIn_nm w 9997 _ _) ?_
  refine run_eqFields_cons w _ _ _ _ _ (.agg a.val.cs) (.agg b.val.cs) _ _ (by decide) (by kernel_rfl) (by kernel_rfl) (run_equalIn_nm w 9997 _ _) ?_
  exact run_eqFields_nil w _ _ _
/-- A contract that leaves the world. -/
theorem Ret.same {f : FuncId} {args : Array Value} {w : World} {v : Value} (h : Calls Try.prog f args w fun e w' => e = .returned v ∧ w = w') : Ret Try.prog f args w v :=
  h.mono fun e w' ⟨h1, h2⟩ => ⟨h1, h2 ▸ Below.refl _ _⟩
theorem Ret.same' {f : FuncId} {args : Array Value} {w : World} {v : Value} (h : Calls Try.prog f args w fun e w' => e = .returned v ∧ w' = w) : Ret Try.prog f args w v :=
  h.mono fun e w' ⟨h1, h2⟩ => ⟨h1, h2 ▸ Below.refl _ _⟩
theorem RetRow.own {f : FuncId} {args : Array Value} {w : World} {ty : TypeId} {sz k : Nat} {xs : List Value} (h : Calls Try.prog f args w fun e w' => ∃ v, e = .returned v ∧ w'.ownsRow w.heap.size ty sz v k xs ∧ Below w.heap.size w w') : RetRow Try.prog f args w ty sz k xs :=
  h.mono fun e w' ⟨v, h1, h2, h3⟩ => by
    obtain ⟨A, c, Hr, rfl, hr, hH, hnd⟩ := RowIs.of_owns h2
    exact ⟨A, c, Hr, h1, hr, h3, hnd, fun p hp => ⟨(hH p hp).1, (hH p hp).2.1⟩⟩
theorem hmx : Try.prog.follows .mixedOrders = true := by kernel_rfl
theorem hasB_lt {m i : Int} (h : hasB m i = true) : 0 ≤ i ∧ i < 10 := by
  unfold hasB at h
  simp only [Bool.and_eq_true, decide_eq_true_eq] at h
  exact h.1
section
variable {α : Type} {l : List α} {p : α → Bool} {j : Nat}
theorem any_zero (l : List α) (p : α → Bool) : (l.take 0).any p = false := by simp
theorem all_zero (l : List α) (p : α → Bool) : (l.take 0).all p = true := by simp
theorem any_step (h : (l.take j).any p = false) (hj : j < l.length) (hp : p l[j] = false) : (l.take (j + 1)).any p = false := by
  rw [List.take_succ_eq_append_getElem hj, List.any_append, h]; simp [hp]
theorem any_hit (hj : j < l.length) (hp : p l[j] = true) : l.any p = true := List.any_eq_true.2 ⟨_, List.getElem_mem hj, hp⟩
theorem any_end (h : (l.take j).any p = false) (hj : l.length ≤ j) : l.any p = false := by rwa [List.take_of_length_le hj] at h
theorem all_step (h : (l.take j).all p = true) (hj : j < l.length) (hp : p l[j] = true) : (l.take (j + 1)).all p = true := by
  rw [List.take_succ_eq_append_getElem hj, List.all_append, h]; simp [hp]
theorem all_miss (hj : j < l.length) (hp : p l[j] = false) : l.all p = false := by
  rw [List.all_eq_false]; exact ⟨l[j], List.getElem_mem hj, by simp [hp]⟩
theorem all_end (h : (l.take j).all p = true) (hj : l.length ≤ j) : l.all p = true := by rwa [List.take_of_length_le hj] at h
theorem foldl_step {β : Type} (f : β → α → β) (b : β) (hj : j < l.length) : (l.take (j + 1)).foldl f b = f ((l.take j).foldl f b) l[j] := by
  rw [List.take_succ_eq_append_getElem hj, List.foldl_append]; rfl
theorem filter_step (p : α → Bool) (hj : j < l.length) : (l.take (j + 1)).filter p = (l.take j).filter p ++ (if p l[j] then [l[j]] else []) := by
  rw [List.take_succ_eq_append_getElem hj, List.filter_append]
  congr 1
  cases hg : p l[j] <;> simp [hg]
theorem take_end (hj : l.length ≤ j) : l.take j = l := List.take_of_length_le hj
end
/-- The ids of a mask, as ints. -/
def idsI (m : Int) : List Int := (ids m).map fun i : Nat => (i : Int)
theorem idsI_len (m : Int) : (idsI m).length ≤ 10 := by simp only [idsI, List.length_map]; exact size_le m
theorem idsI_length (m : Int) : (idsI m).length = size m := by simp only [idsI, List.length_map]; rfl
theorem cells_idsI (m : Int) : cells (idsI m) = (ids m).map fun i : Nat => Value.int .i64 (i : Int) := by
  unfold idsI cells
  generalize ids m = l
  induction l with
  | nil => rfl
  | cons a l ih => simp only [List.map_cons, List.flatMap_cons]; rw [ih]; rfl
theorem mem_idsI {m x : Int} : x ∈ idsI m ↔ hasB m x = true := by
  rw [hasB_iff]
  unfold idsI
  rw [List.mem_map]
  constructor
  · rintro ⟨k, h1, h2⟩; exact ⟨k, h2.symm, h1⟩
  · rintro ⟨k, h1, h2⟩; exact ⟨k, h2, h1.symm⟩
theorem ids_r (m : Int) (hm : W64 m) (w : World) : RetRow Try.prog 91 #[.int .i64 m] w 3 1 (idsI m).length (cells (idsI m)) := by
  refine RetRow.own ?_
  rw [cells_idsI]
  simp only [idsI, List.length_map]
  exact ids_c m hm w
theorem rids_r (m : Int) (hm : W64 m) (w : World) : RetRow Try.prog 83 #[.int .i64 m] w 3 1 (idsI m).length (cells (idsI m)) := by
  refine RetRow.own ?_
  rw [cells_idsI]
  simp only [idsI, List.length_map]
  exact rids_c m hm w
def upto10 : List Int := (List.range 10).map fun i : Nat => (i : Int)
theorem up10_len : upto10.length = 10 := by decide
theorem up10_get {j : Nat} (h : j < upto10.length) : upto10[j] = (j : Int) := by simp [upto10]
theorem mem_upto10 {x : Int} : x ∈ upto10 ↔ 0 ≤ x ∧ x < 10 := by
  unfold upto10
  rw [List.mem_map]
  constructor
  · rintro ⟨k, h1, h2⟩; rw [List.mem_range] at h1; omega
  · intro h; exact ⟨x.toNat, by rw [List.mem_range]; omega, by omega⟩
theorem nn_true {x y : Bool} (h : ((!x) && (!y)) = true) : (x || y) = false := by cases x <;> cases y <;> simp_all
theorem nn_false {x y : Bool} (h : ((!x) && (!y)) = false) : (x || y) = true := by cases x <;> cases y <;> simp_all
theorem prev_round {v : Vt} (h : validB v = true) (hk : (v.kind == 3) = true) : 1 ≤ v.round ∧ v.round ≤ 12 := by
  have h3 : v.kind = 3 := by simpa using hk
  unfold validB restB btw at h
  simp [h3] at h
  omega
theorem not_eq_false {b : Bool} (h : (!b) = false) : b = true := by cases b <;> simp_all
theorem not_eq_true {b : Bool} (h : (!b) = true) : b = false := by cases b <;> simp_all
end Go.Proofs.Ythhgdkodhokefaa
