/- The votes above a parent, ascending, each once. -/
import Derived.Test.YthhgdkodhokefaaLess
import Derived.Test.YthhgdkodhokefaaSrt7
namespace Go.Proofs.Ythhgdkodhokefaa
open Go Go.RowKit
set_option linter.unusedVariables false

set_option maxRecDepth 100000 in
set_option maxHeartbeats 2000000 in
theorem ascl_c (d : List Vt) (A : Option Addr) (c q5 i j : Nat) (w : World) (hi : i < d.length) (hj : j < d.length) (hd : d.length ≤ 1000) (hr : Rd w A d) (hb : w.cell? ⟨q5, 0, none⟩ = some (.slice A d.length c)) (hbl : q5 < w.heap.size) : Calls Try.prog 84 #[.int .i64 ((i : Int)), .int .i64 ((j : Int)), .pointer (some ⟨q5, 0, none⟩)] w (fun rr w' => rr = .returned (.bool (vless d[i] d[j])) ∧ Below w.heap.size w w') := by
  refine calls_W (n := 15) Try.func84 rfl [(0, .int .i64 ((i : Int))), (1, .int .i64 ((j : Int))), (2, .pointer (some ⟨q5, 0, none⟩))] rfl ⟨by kernel_rfl, by kernel_rfl⟩ ?_
  refine W.weak (Ψ := St w []) (fun w' h => by rw [h]; exact St.start w) ?_
  refine W.seq ?_
  refine W.region [(0, false)] (by kernel_rfl) ?_
  refine T.pure 5 (.bool (false)) (by kernel_rfl) (fun w => by kernel_rfl) ?_
  refine T.nil ?_
  refine QN.seq ?_
  refine W.seq ?_
  refine W.drawn (Ψ := St w []) (St w []) [(0, true), (1, true), (2, true), (3, true), (4, true), (5, true), (6, true), (7, true), (8, false), (9, false)] hmx (by kernel_rfl) (NoPanic.then (NoPanic.body)) (fun w h => h.drew) (fun w h => h) ?_
  refine T.load true 6 (.slice A d.length c) 27 q5 0 (by kernel_rfl) (by kernel_rfl) (by kernel_rfl) (fun w h => (h.below.cell (p := ⟨q5, 0, none⟩) hbl).trans hb) ?_
  refine T.pure 7 (.int .i64 ((i : Int))) (by kernel_rfl) (fun w => by kernel_rfl) ?_
  have hl5 : i < (d).length := by omega
  obtain ⟨b1, o2, hA3, hr4⟩ := (Rd.arr hr _) i hl5
  refine T.index 8 27 26 22 A (d.length) c ((i : Int)) (i) b1 o2 (by kernel_rfl) (by kernel_rfl) (by kernel_rfl) (by kernel_rfl) hA3 (rfl) (by omega) ?_
  refine T.loadR true 9 ((d[i]'hl5)).cs 26 b1 (o2 + i * 22) (by kernel_rfl) (by kernel_rfl) (by kernel_rfl) (by kernel_rfl) hr4 ?_
  refine T.load true 10 (.slice A d.length c) 27 q5 0 (by kernel_rfl) (by kernel_rfl) (by kernel_rfl) (fun w h => (h.below.cell (p := ⟨q5, 0, none⟩) hbl).trans hb) ?_
  refine T.pure 11 (.int .i64 ((j : Int))) (by kernel_rfl) (fun w => by kernel_rfl) ?_
  have hl10 : j < (d).length := by omega
  obtain ⟨b6, o7, hA8, hr9⟩ := (Rd.arr hr _) j hl10
  refine T.index 12 27 26 22 A (d.length) c ((j : Int)) (j) b6 o7 (by kernel_rfl) (by kernel_rfl) (by kernel_rfl) (by kernel_rfl) hA8 (rfl) (by omega) ?_
  refine T.loadR true 13 ((d[j]'hl10)).cs 26 b6 (o7 + j * 22) (by kernel_rfl) (by kernel_rfl) (by kernel_rfl) (by kernel_rfl) hr9 ?_
  refine T.callP 14 36 #[.agg ((d[i]'hl5)).cs, .agg ((d[j]'hl10)).cs] (.bool (vless (d[i]'hl5) (d[j]'hl10))) (by kernel_rfl) (by kernel_rfl) ent36 (fun w hw => vless_c (d[i]'hl5) (d[j]'hl10) w) (fun w h => h) ?_
  refine T.pure 5 (.bool (vless (d[i]'hl5) (d[j]'hl10))) (by kernel_rfl) (fun w => by kernel_rfl) ?_
  refine T.nil ?_
  refine QN.seq ?_
  refine W.ret ?_
  refine QN.done (.inl rfl) 5 (.bool (vless (d[i]'hl5) (d[j]'hl10))) rfl (by kernel_rfl) (fun w hw => ⟨?_, hw.below⟩)
  exact rfl
instance inhVt : Inhabited Vt := ⟨Vt.zero⟩
theorem asc_less {all : List Vt} {A : Option Addr} {c q5 : Nat} {H0 : List (Nat × Obj)} (hmem : (q5, .cells #[.slice A all.length c] 27 (0, 0)) ∈ H0) (hle : all.length ≤ 1000) (d : List Vt) (w : World) (i j : Nat) (hi : i < d.length) (hj : j < d.length) (hd : d.length = all.length) (hr : Rd w A d) (hH : ∀ p ∈ H0, w.heap[p.1]? = some p.2) :
    Ret Try.prog 84 (#[.int .i64 (i : Int), .int .i64 (j : Int)] ++ #[.pointer (some ⟨q5, 0, none⟩)]) w (.bool (vless d[i] d[j])) := by
  have h1 := hH _ hmem
  simp only at h1
  refine ascl_c d A c q5 i j w hi hj (by omega) hr ?_ (Array.getElem?_eq_some_iff.1 h1).1
  rw [hd]
  simp [World.cell?, h1]
noncomputable def svT : TypeInfo := (Try.prog.info? 27).get (by kernel_rfl)
noncomputable def svE : TypeInfo := (Try.prog.info? 26).get (by kernel_rfl)
theorem svK (n : Nat) (h2 : 2 ≤ n) : Lib.swapperK n svE 25 = 9 := by
  have a : svE.hasPointers = false := by kernel_rfl
  have b : svE.bytes = 64 := by kernel_rfl
  have c : (n == 0) = false := by simp; omega
  have d : (n == 1) = false := by simp; omega
  simp [Lib.swapperK, a, b, c, d]
theorem sortVt : SortTy 27 26 (Cel.sz Vt) := ⟨svT, svE, 25, by kernel_rfl, by kernel_rfl, by kernel_rfl, by kernel_rfl, fun _ => by kernel_rfl, by kernel_rfl, fun _ => by kernel_rfl, svK⟩
def insV (x : Vt) : List Vt → List Vt
  | [] => [x]
  | y :: r => if vless x y then x :: y :: r else if x = y then y :: r else y :: insV x r
/-- The votes above p, ascending, each once. -/
def ascV (p : Nm) (l : List Vt) : List Vt := (l.filter fun x => x.par == p).foldr insV []
def Strict (l : List Vt) : Prop := l.Pairwise fun x y => vless x y = true
theorem vless_asym {x y : Vt} (h : vless x y = true) : vless y x = false := by
  by_cases h2 : vless y x = true
  · have := vless_swo.trans _ _ _ h h2
    rw [vless_swo.irrefl] at this; cases this
  · simpa using h2
theorem insV_mem (x z : Vt) : ∀ r : List Vt, z ∈ insV x r ↔ z = x ∨ z ∈ r
  | [] => by simp [insV]
  | y :: r => by
    unfold insV
    split
    · simp
    · split
      · rename_i h; subst h; simp
      · simp only [List.mem_cons, insV_mem x z r]
        constructor
        · rintro (h | h | h) <;> simp [h]
        · rintro (h | h | h) <;> simp [h]
theorem insV_strict (x : Vt) : ∀ r : List Vt, Strict r → Strict (insV x r)
  | [], _ => by simp [insV, Strict]
  | y :: r, h => by
    have h' := h
    unfold Strict at h
    rw [List.pairwise_cons] at h
    unfold insV
    split
    · rename_i hx
      refine List.pairwise_cons.2 ⟨fun z hz => ?_, h'⟩
      rcases List.mem_cons.1 hz with rfl | hz
      · exact hx
      · exact vless_swo.trans _ _ _ hx (h.1 z hz)
    · rename_i hx
      split
      · exact h'
      · rename_i hne
        refine List.pairwise_cons.2 ⟨fun z hz => ?_, insV_strict x r h.2⟩
        rcases (insV_mem x z r).1 hz with rfl | hz
        · by_cases h3 : vless y z = true
          · exact h3
          · exact absurd (vless_tot (by simpa using hx) (by simpa using h3)) hne
        · exact h.1 z hz
theorem ascV_mem (p : Nm) (l : List Vt) (z : Vt) : z ∈ ascV p l ↔ z ∈ l ∧ z.par = p := by
  have : ∀ r : List Vt, z ∈ r.foldr insV [] ↔ z ∈ r := by
    intro r
    induction r with
    | nil => simp
    | cons a r ih => simp [insV_mem, ih]
  rw [ascV, this]; simp
theorem ascV_strict (p : Nm) (l : List Vt) : Strict (ascV p l) := by
  have : ∀ r : List Vt, Strict (r.foldr insV []) := by
    intro r
    induction r with
    | nil => simp [Strict]
    | cons a r ih => exact insV_strict _ _ ih
  exact this _
theorem strict_ext : ∀ {a b : List Vt}, Strict a → Strict b → (∀ x, x ∈ a ↔ x ∈ b) → a = b
  | [], [], _, _, _ => rfl
  | [], y :: b, _, _, h => absurd ((h y).2 (by simp)) (by simp)
  | x :: a, [], _, _, h => absurd ((h x).1 (by simp)) (by simp)
  | x :: a, y :: b, ha, hb, h => by
    unfold Strict at ha hb
    rw [List.pairwise_cons] at ha hb
    have hxy : x = y := by
      rcases List.mem_cons.1 ((h x).1 (by simp)) with e | h1
      · exact e
      · rcases List.mem_cons.1 ((h y).2 (by simp)) with e | h2
        · exact e.symm
        · have := vless_asym (hb.1 x h1)
          rw [ha.1 y h2] at this; cases this
    subst hxy
    rw [strict_ext ha.2 hb.2 (fun z => ?_)]
    constructor
    · intro hz
      rcases List.mem_cons.1 ((h z).1 (by simp [hz])) with e | h1
      · subst e; have := ha.1 z hz; rw [vless_swo.irrefl] at this; cases this
      · exact h1
    · intro hz
      rcases List.mem_cons.1 ((h z).2 (by simp [hz])) with e | h1
      · subst e; have := hb.1 z hz; rw [vless_swo.irrefl] at this; cases this
      · exact h1
theorem filt_yes {p : Vt → Bool} {l all : List Vt} {j : Nat} (hj : j < l.length) (h : all = (l.take j).filter p) (hp : p l[j] = true) : all ++ [l[j]] = (l.take (j + 1)).filter p := by
  rw [List.take_succ_eq_append_getElem hj, List.filter_append, h]; simp [hp]
theorem filt_no {p : Vt → Bool} {l all : List Vt} {j : Nat} (hj : j < l.length) (h : all = (l.take j).filter p) (hp : p l[j] = false) : all = (l.take (j + 1)).filter p := by
  rw [List.take_succ_eq_append_getElem hj, List.filter_append, h]; simp [hp]
theorem ded_yes {so r : List Vt} {j : Nat} (hj : j < so.length) (ha : Asc vless so) (hs : Strict r) (hm : ∀ x, x ∈ r ↔ x ∈ so.take j) (hn : j = 0 ∨ ∃ h : j - 1 < so.length, so[j] ≠ so[j - 1]) : Strict (r ++ [so[j]]) ∧ ∀ x, x ∈ r ++ [so[j]] ↔ x ∈ so.take (j + 1) := by
  refine ⟨List.pairwise_append.2 ⟨hs, by simp, fun x hx y hy => ?_⟩, fun x => ?_⟩
  · simp only [List.mem_singleton] at hy
    subst hy
    obtain ⟨k, hk, rfl⟩ := List.mem_iff_getElem.1 ((hm x).1 hx)
    simp only [List.length_take] at hk
    rw [List.getElem_take]
    by_cases h1 : vless so[k] so[j] = true
    · exact h1
    · exfalso
      have e := vless_tot (by simpa using h1) (ha k j _ hj (by omega))
      rcases hn with h0 | ⟨h2, hne⟩
      · omega
      · apply hne
        refine vless_tot (ha (j - 1) j h2 hj (by omega)) ?_
        rw [← e]
        by_cases hk2 : k = j - 1
        · subst hk2; exact vless_swo.irrefl _
        · exact ha k (j - 1) (by omega) h2 (by omega)
  · rw [List.take_succ_eq_append_getElem hj, List.mem_append, List.mem_append, hm]
theorem ded_no {so r : List Vt} {j : Nat} (hj : j < so.length) (hm : ∀ x, x ∈ r ↔ x ∈ so.take j) (h0 : 0 < j) (h1 : j - 1 < so.length) (he : so[j] = so[j - 1]) : ∀ x, x ∈ r ↔ x ∈ so.take (j + 1) := fun x => by
  rw [List.take_succ_eq_append_getElem hj, hm, List.mem_append, List.mem_singleton, he]
  constructor
  · exact fun h => .inl h
  · rintro (h | rfl)
    · exact h
    · exact List.mem_iff_getElem.2 ⟨j - 1, by simp; omega, by simp⟩
theorem ded_or {so : List Vt} {j : Nat} {hj : j < so.length} {hj' : j - 1 < so.length} (h : (((j : Int) == 0) || (so[j] != so[j - 1])) = true) (hl : j - 1 < so.length) : j = 0 ∨ ∃ h : j - 1 < so.length, so[j] ≠ so[j - 1] := by
  simp only [Bool.or_eq_true, beq_iff_eq, bne_iff_ne] at h
  rcases h with h | h
  · exact .inl (by omega)
  · exact .inr ⟨hl, h⟩
theorem ded_nor {so : List Vt} {j : Nat} {hj : j < so.length} {hj' : j - 1 < so.length} (h : (((j : Int) == 0) || (so[j] != so[j - 1])) = false) (hl : j - 1 < so.length) : 0 < j ∧ so[j] = so[j - 1] := by
  simp only [Bool.or_eq_false_iff, beq_eq_false_iff_ne, bne_eq_false_iff_eq] at h
  exact ⟨by omega, h.2⟩
theorem asc_fin {p : Nm} {l all so r : List Vt} (hs : Strict r) (hm : ∀ x, x ∈ r ↔ x ∈ so.take so.length) (hp : so.Perm all) (ha : all = (l.take l.length).filter (fun x => x.par == p)) : r = ascV p l := by
  refine strict_ext hs (ascV_strict p l) (fun x => ?_)
  rw [hm, List.take_length, hp.mem_iff, ha, List.take_length, ascV_mem]; simp
set_option maxRecDepth 100000 in
set_option maxHeartbeats 2000000 in
theorem asc_c (p : Nm) (l : List Vt) (A : Option Addr) (c : Nat) (w : World) (hl : l.length ≤ 1000) (hr : Rd w A l) : Calls Try.prog 65 #[.agg (p).cs, .slice A (l.length) c] w (fun r w' => ∃ A c Hr, r = .returned (.slice A (ascV p l).length c) ∧ RowIs 26 22 A (ascV p l).length c (cells (ascV p l)) Hr ∧ St w Hr w') := by
  refine calls_W (n := 54) Try.func65 rfl [(0, .agg (p).cs), (1, .slice A (l.length) c)] rfl ⟨by kernel_rfl, by kernel_rfl⟩ ?_
  refine W.weak (Ψ := St w []) (fun w' h => by rw [h]; exact St.start w) ?_
  refine W.seq ?_
  refine W.region [(0, false), (1, false)] (by kernel_rfl) ?_
  refine T.box 2 24 (.agg (p).cs) ((p).cs) (by kernel_rfl) (by kernel_rfl) (by kernel_rfl) (fun _ _ _ => trivial) (fun b1 => ?_)
  refine T.pure 4 (.slice none (0) 0) (by kernel_rfl) (fun w => by kernel_rfl) ?_
  refine T.nil ?_
  refine QN.seq ?_
  refine W.seq ?_
  refine W.region [(0, false)] (by kernel_rfl) ?_
  refine T.alloc 5 27 #[.slice none (0) 0] (by kernel_rfl) (by kernel_rfl) (by kernel_rfl) (fun _ _ _ => trivial) (fun b2 => ?_)
  refine T.nil ?_
  refine QN.seq ?_
  refine W.seq ?_
  refine W.seq ?_
  refine W.region [(0, false), (1, false), (2, false)] (by kernel_rfl) ?_
  refine T.pure 11 (.slice A (l.length) c) (by kernel_rfl) (fun w => by kernel_rfl) ?_
  refine T.pure 12 (.int .i64 (((l.length : Nat) : Int))) (by kernel_rfl) (fun w => by kernel_rfl) ?_
  refine T.pure 13 (.int .i64 (0)) (by kernel_rfl) (fun w => by kernel_rfl) ?_
  refine T.nil ?_
  refine QN.seq ?_
  refine W.block ?_
  refine W.loop (σ := Nat × List Vt × Option Addr × Nat × List (Nat × Obj)) (fun gs => gs.1 ≤ l.length ∧ gs.2.1 = (l.take gs.1).filter (fun x => x.par == p) ∧ RowIs 26 22 gs.2.2.1 gs.2.1.length gs.2.2.2.1 (cells gs.2.1) gs.2.2.2.2) (fun gs => [(2, .pointer (some ⟨b1, 0, none⟩)), (4, .slice none (0) 0), (5, .pointer (some ⟨b2, 0, none⟩)), (11, .slice A (l.length) c), (12, .int .i64 (((l.length : Nat) : Int))), (13, .int .i64 ((gs.1 : Int)))]) (fun gs => St w (gs.2.2.2.2 ++ [(b2, .cells #[.slice gs.2.2.1 (gs.2.1.length) gs.2.2.2.1] 27 (0, 0)), (b1, .cells (p).cs 24 (0, 0))])) (fun gs => l.length - gs.1) (0, [], none, 0, []) ?_ (by kernel_rfl) (fun w h => h) ?_
  · show 0 ≤ l.length ∧ ([]) = (l.take 0).filter (fun x => x.par == p) ∧ RowIs 26 22 none ([]).length 0 (cells ([])) ([])
    exact ⟨Nat.zero_le _, rfl, RowIs.nil⟩
  rintro ⟨k, all, A9, c9, Hr9⟩ hI_
  obtain ⟨hk, hall, hrow9⟩ : k ≤ l.length ∧ all = (l.take k).filter (fun x => x.par == p) ∧ RowIs 26 22 A9 all.length c9 (cells all) Hr9 := hI_
  have hal : all.length ≤ k := by rw [hall]; exact Nat.le_trans (List.length_filter_le _ _) (List.length_take_le _ _)
  show W _ _ [(2, .pointer (some ⟨b1, 0, none⟩)), (4, .slice none (0) 0), (5, .pointer (some ⟨b2, 0, none⟩)), (11, .slice A (l.length) c), (12, .int .i64 (((l.length : Nat) : Int))), (13, .int .i64 ((k : Int)))] (St w (Hr9 ++ [(b2, .cells #[.slice A9 (all.length) c9] 27 (0, 0)), (b1, .cells (p).cs 24 (0, 0))])) _ _
  refine W.seq ?_
  refine W.region [(0, false)] (by kernel_rfl) ?_
  refine T.pure 14 (.bool (decide ((k : Int) < ((l.length : Nat) : Int)))) (by kernel_rfl) (fun w => by kernel_rfl) ?_
  refine T.nil ?_
  refine QN.seq ?_
  refine W.seq ?_
  refine W.cond (decide ((k : Int) < ((l.length : Nat) : Int))) (by kernel_rfl) (fun h3 => ?_) (fun h3 => ?_)
  · skip
    have h3' := of_decide_eq_true h3
    have hl4 : k < (l).length := by omega
    refine W.skip ?_
    refine QN.seq ?_
    refine W.seq ?_
    refine W.block ?_
    refine W.seq ?_
    refine W.region [(0, false), (1, false), (2, false), (3, false)] (by kernel_rfl) ?_
    obtain ⟨b5, o6, hA7, hr8⟩ := (Rd.arr hr _) k hl4
    refine T.index 15 27 26 22 A (l.length) c ((k : Int)) (k) b5 o6 (by kernel_rfl) (by kernel_rfl) (by kernel_rfl) (by kernel_rfl) hA7 (rfl) (by omega) ?_
    refine T.loadR false 16 ((l[k]'hl4)).cs 26 b5 (o6 + k * 22) (by kernel_rfl) (by kernel_rfl) (by kernel_rfl) (by kernel_rfl) hr8 ?_
    refine T.alloc 7 26 (Vt.zero).cs (by kernel_rfl) (by kernel_rfl) (by kernel_rfl) (fun _ _ _ => trivial) (fun b9 => ?_)
    refine T.storeP 26 b9 0 (.agg ((l[k]'hl4)).cs) (Vt.zero).cs ((l[k]'hl4)).cs 26 (by kernel_rfl) (by kernel_rfl) (by kernel_rfl) (by kernel_rfl) (by kernel_rfl) (by kernel_rfl) (List.Perm.refl _) (fun _ _ => trivial) ?_
    refine T.nil ?_
    refine QN.seq ?_
    refine W.seq ?_
    refine W.region [(0, false), (1, false), (2, false), (3, false)] (by kernel_rfl) ?_
    refine T.pure 17 (.pointer (some ⟨b9, 6, none⟩)) (by kernel_rfl) (fun w => by kernel_rfl) ?_
    refine T.loadR false 18 (((l[k]'hl4)).par).cs 24 b9 6 (by kernel_rfl) (by kernel_rfl) (by kernel_rfl) (by kernel_rfl) (fun w h => St.rangeM h (((l[k]'hl4)).par).cs (.head _) (by kernel_rfl)) ?_
    refine T.loadR false 19 (p).cs 24 b1 0 (by kernel_rfl) (by kernel_rfl) (by kernel_rfl) (by kernel_rfl) (fun w h => St.rangeM h (p).cs (.tail _ (List.mem_append_right _ (.tail _ (.head _)))) (by kernel_rfl)) ?_
    refine T.eqq 20 ((((l[k]'hl4)).par) == p) ((((l[k]'hl4)).par) == p) false 24 (((l[k]'hl4)).par).cs (p).cs (by kernel_rfl) (by kernel_rfl) (by kernel_rfl) (by kernel_rfl) (fun w => eq_nm w (((l[k]'hl4)).par) p) ?_
    refine T.nil ?_
    refine QN.seq ?_
    refine W.cond ((((l[k]'hl4)).par) == p) (by kernel_rfl) (fun h10 => ?_) (fun h10 => ?_)
    · skip
      refine W.region [(0, false), (1, false), (2, false), (3, false), (4, false)] (by kernel_rfl) ?_
      refine T.load false 21 (.slice A9 (all.length) c9) 27 b2 0 (by kernel_rfl) (by kernel_rfl) (by kernel_rfl) (fun w h => St.cellM h (.tail _ (List.mem_append_right _ (.head _))) (by kernel_rfl)) ?_
      refine T.loadR false 22 ((l[k]'hl4)).cs 26 b9 0 (by kernel_rfl) (by kernel_rfl) (by kernel_rfl) (by kernel_rfl) (fun w h => St.rangeM h ((l[k]'hl4)).cs (.head _) (by kernel_rfl)) ?_
      refine T.lit 23 27 26 1 #[(0, .agg ((l[k]'hl4)).cs)] (cells ([(l[k]'hl4)] : List Vt)).toArray (by kernel_rfl) (by kernel_rfl) (by kernel_rfl) (by kernel_rfl) (fun _ _ _ => trivial) (fun b11 => ?_)
      refine T.appC 24 27 26 64 A9 c9 (all : List Vt) Hr9 b11 0 1 ([(l[k]'hl4)] : List Vt) (((((List.Perm.refl _).cons _).trans List.perm_middle.symm).cons _).trans List.perm_middle.symm) (by kernel_rfl) (by kernel_rfl) (by kernel_rfl) (by kernel_rfl) hrow9 (fun w h => St.rangeM h (cells ([(l[k]'hl4)] : List Vt)).toArray (List.mem_append_right _ (.head _)) (by kernel_rfl)) (by unfold maxLen; first | omega | (simp; omega)) (by first | omega | (simp; omega)) (fun _ _ _ => trivial) (fun A12 c13 Hr14 hrow15 => ?_)
      refine T.storeP 27 b2 0 (.slice A12 ((all ++ ([(l[k]'hl4)])).length) c13) #[.slice A9 (all.length) c9] #[.slice A12 ((all ++ ([(l[k]'hl4)])).length) c13] 27 (by kernel_rfl) (by kernel_rfl) (by kernel_rfl) (by kernel_rfl) (by kernel_rfl) (by kernel_rfl) (((((((List.Perm.refl _).cons _).trans (List.Perm.swap _ _ _)).cons _).trans (List.Perm.swap _ _ _)).append_left Hr14).trans List.perm_middle) (fun _ _ => trivial) ?_
      refine T.nil ?_
      refine QN.blkNormal ?_
      refine QN.seq ?_
      refine W.region [(0, false), (1, false)] (by kernel_rfl) ?_
      refine T.pureE 25 (.int .i64 (IntKind.i64.wrap ((k : Int) + 1))) (.int .i64 ((k : Int) + 1)) (by kernel_rfl) (fun w => by kernel_rfl) (wrap_int (by omega) (by omega)) ?_
      refine T.pure 13 (.int .i64 ((k : Int) + 1)) (by kernel_rfl) (fun w => by kernel_rfl) ?_
      refine T.nil ?_
      refine QN.back (k + 1, all ++ ([(l[k]'hl4)]), A12, c13, Hr14) ?_ ?_ (by kernel_rfl) (fun w h => (h.perm ((((List.Perm.refl _).cons _).trans List.perm_middle.symm).trans (((List.Perm.refl _).trans ((((((List.Perm.refl _).cons _).trans (List.Perm.swap _ _ _)).cons _).trans (List.Perm.swap _ _ _)).cons _)).append_left Hr14))).part (List.Sublist.append (List.Sublist.refl _) (((List.nil_sublist _).cons_cons _).cons_cons _)))
      · show (k + 1) ≤ l.length ∧ (all ++ ([(l[k]'hl4)])) = (l.take (k + 1)).filter (fun x => x.par == p) ∧ RowIs 26 22 A12 (all ++ ([(l[k]'hl4)])).length c13 (cells (all ++ ([(l[k]'hl4)]))) Hr14
        exact ⟨by omega, filt_yes (by omega) hall h10, hrow15⟩
      · show l.length - _ < l.length - _; omega
    · skip
      refine W.skip ?_
      refine QN.blkNormal ?_
      refine QN.seq ?_
      refine W.region [(0, false), (1, false)] (by kernel_rfl) ?_
      refine T.pureE 25 (.int .i64 (IntKind.i64.wrap ((k : Int) + 1))) (.int .i64 ((k : Int) + 1)) (by kernel_rfl) (fun w => by kernel_rfl) (wrap_int (by omega) (by omega)) ?_
      refine T.pure 13 (.int .i64 ((k : Int) + 1)) (by kernel_rfl) (fun w => by kernel_rfl) ?_
      refine T.nil ?_
      refine QN.back (k + 1, all, A9, c9, Hr9) ?_ ?_ (by kernel_rfl) (fun w h => (h.perm ((((List.Perm.refl _).cons _).trans List.perm_middle.symm).trans (((((List.Perm.refl _).cons _).trans (List.Perm.swap _ _ _)).trans ((((List.Perm.refl _).cons _).trans (List.Perm.swap _ _ _)).cons _)).append_left Hr9))).part (List.Sublist.append (List.Sublist.refl _) (((List.nil_sublist _).cons_cons _).cons_cons _)))
      · show (k + 1) ≤ l.length ∧ all = (l.take (k + 1)).filter (fun x => x.par == p) ∧ RowIs 26 22 A9 all.length c9 (cells all) Hr9
        exact ⟨by omega, filt_no (by omega) hall h10, hrow9⟩
      · show l.length - _ < l.length - _; omega
  · skip
    have h3' := of_decide_eq_false h3
    refine W.exit ?_
    refine QN.thenExit ?_
    refine QN.thenExit ?_
    refine QN.blkHit ?_
    refine QN.seq ?_
    refine W.seq ?_
    refine W.region [(0, false), (1, false), (2, false), (3, false)] (by kernel_rfl) ?_
    refine T.load false 26 (.slice A9 (all.length) c9) 27 b2 0 (by kernel_rfl) (by kernel_rfl) (by kernel_rfl) (fun w h => St.cellM h (List.mem_append_right _ (.head _)) (by kernel_rfl)) ?_
    refine T.pure 27 (.iface 27 (.slice A9 (all.length) c9)) (by kernel_rfl) (fun w => by kernel_rfl) ?_
    refine T.pure 28 (.func (.func 84) #[] #[.pointer (some ⟨b2, 0, none⟩)]) (by kernel_rfl) (fun w => by kernel_rfl) ?_
    refine T.callG (β := List Vt × List (Nat × Obj)) 29 67 #[.iface 27 (.slice A9 (all.length) c9), .func (.func 84) #[] #[.pointer (some ⟨b2, 0, none⟩)]] (fun gs => .tuple #[]) (fun gs => St w (gs.2 ++ [(b2, .cells #[.slice A9 (all.length) c9] 27 (0, 0)), (b1, .cells (p).cs 24 (0, 0))])) (fun gs => gs.1.Perm all ∧ Asc vless gs.1 ∧ RowIs 26 22 A9 all.length c9 (cells gs.1) gs.2) (by kernel_rfl) (by kernel_rfl) ent67 ?_ (fun _ _ _ => trivial) ?_
    · exact fun w hw => sliceR_c (α := Vt) (H0 := [(b2, .cells #[.slice A9 (all.length) c9] 27 (0, 0)), (b1, .cells (p).cs 24 (0, 0))]) sortVt hrow9 (by omega) ent84 (asc_less (.head _) (by omega)) vless_swo w ((fun w h => h) w hw)
    rintro ⟨so, Hg⟩ hp_
    have hp16 : so.Perm all ∧ Asc vless so ∧ RowIs 26 22 A9 all.length c9 (cells so) Hg := hp_
    refine T.nil ?_
    refine QN.seq ?_
    refine W.seq ?_
    refine W.region [(0, false)] (by kernel_rfl) ?_
    refine T.pure 8 (.slice none (0) 0) (by kernel_rfl) (fun w => by kernel_rfl) ?_
    refine T.nil ?_
    refine QN.seq ?_
    refine W.seq ?_
    refine W.seq ?_
    refine W.region [(0, false), (1, false), (2, false)] (by kernel_rfl) ?_
    refine T.load false 30 (.slice A9 (all.length) c9) 27 b2 0 (by kernel_rfl) (by kernel_rfl) (by kernel_rfl) (fun w h => St.cellM h (List.mem_append_right _ (.head _)) (by kernel_rfl)) ?_
    refine T.pure 31 (.int .i64 (((all.length : Nat) : Int))) (by kernel_rfl) (fun w => by kernel_rfl) ?_
    refine T.pure 32 (.int .i64 (0)) (by kernel_rfl) (fun w => by kernel_rfl) ?_
    refine T.nil ?_
    refine QN.seq ?_
    refine W.block ?_
    have hso := hp16
    have hsl : all.length = so.length := hso.1.length_eq.symm
    have hkl : k = l.length := by omega
    refine W.loop (σ := Nat × List Vt × Option Addr × Nat × List (Nat × Obj)) (fun gs => gs.1 ≤ all.length ∧ gs.2.1.length ≤ gs.1 ∧ Strict gs.2.1 ∧ (∀ x, x ∈ gs.2.1 ↔ x ∈ so.take gs.1) ∧ RowIs 26 22 gs.2.2.1 gs.2.1.length gs.2.2.2.1 (cells gs.2.1) gs.2.2.2.2) (fun gs => [(4, .slice none (0) 0), (5, .pointer (some ⟨b2, 0, none⟩)), (8, .slice gs.2.2.1 (gs.2.1.length) gs.2.2.2.1), (30, .slice A9 (all.length) c9), (31, .int .i64 (((all.length : Nat) : Int))), (32, .int .i64 ((gs.1 : Int)))]) (fun gs => St w (gs.2.2.2.2 ++ (Hg ++ [(b2, .cells #[.slice A9 (all.length) c9] 27 (0, 0)), (b1, .cells (p).cs 24 (0, 0))]))) (fun gs => all.length - gs.1) (0, [], none, 0, []) ?_ (by kernel_rfl) (fun w h => h) ?_
    · show 0 ≤ all.length ∧ ([]).length ≤ 0 ∧ Strict ([]) ∧ (∀ x, x ∈ ([]) ↔ x ∈ so.take 0) ∧ RowIs 26 22 none ([]).length 0 (cells ([])) ([])
      exact ⟨Nat.zero_le _, Nat.le_refl _, List.Pairwise.nil, fun x => by simp, RowIs.nil⟩
    rintro ⟨j, r, A8, c8, Hr8⟩ hI_
    obtain ⟨hj, hrj, hst, hmm, hrow8⟩ : j ≤ all.length ∧ r.length ≤ j ∧ Strict r ∧ (∀ x, x ∈ r ↔ x ∈ so.take j) ∧ RowIs 26 22 A8 r.length c8 (cells r) Hr8 := hI_
    show W _ _ [(4, .slice none (0) 0), (5, .pointer (some ⟨b2, 0, none⟩)), (8, .slice A8 (r.length) c8), (30, .slice A9 (all.length) c9), (31, .int .i64 (((all.length : Nat) : Int))), (32, .int .i64 ((j : Int)))] (St w (Hr8 ++ (Hg ++ [(b2, .cells #[.slice A9 (all.length) c9] 27 (0, 0)), (b1, .cells (p).cs 24 (0, 0))]))) _ _
    refine W.seq ?_
    refine W.region [(0, false)] (by kernel_rfl) ?_
    refine T.pure 33 (.bool (decide ((j : Int) < ((all.length : Nat) : Int)))) (by kernel_rfl) (fun w => by kernel_rfl) ?_
    refine T.nil ?_
    refine QN.seq ?_
    refine W.seq ?_
    refine W.cond (decide ((j : Int) < ((all.length : Nat) : Int))) (by kernel_rfl) (fun h17 => ?_) (fun h17 => ?_)
    · skip
      have h17' := of_decide_eq_true h17
      have hl18 : j < (so).length := by omega
      refine W.skip ?_
      refine QN.seq ?_
      refine W.seq ?_
      refine W.block ?_
      refine W.seq ?_
      refine W.region [(0, false), (1, false), (2, false), (3, false), (4, false), (5, false)] (by kernel_rfl) ?_
      refine T.pure 34 (.int .i64 ((j : Int))) (by kernel_rfl) (fun w => by kernel_rfl) ?_
      obtain ⟨b19, o20, hA21, hr22⟩ := ((show Arr (St _ (Hr8 ++ (Hg ++ [(b2, .cells #[.slice A9 (all.length) c9] 27 (0, 0)), (b1, .cells (p).cs 24 (0, 0))]))) A9 so from (Arr.row hso.2.2 (rfl) (hsl) (Hr8 ++ [(b2, .cells #[.slice A9 (all.length) c9] 27 (0, 0)), (b1, .cells (p).cs 24 (0, 0))])).weak (fun w h => h.perm (((List.Perm.refl _).append_left Hr8).trans (List.perm_append_comm_assoc _ _ _))))) j hl18
      refine T.index 35 27 26 22 A9 (all.length) c9 ((j : Int)) (j) b19 o20 (by kernel_rfl) (by kernel_rfl) (by kernel_rfl) (by kernel_rfl) hA21 (rfl) (by omega) ?_
      refine T.loadR false 36 ((so[j]'hl18)).cs 26 b19 (o20 + j * 22) (by kernel_rfl) (by kernel_rfl) (by kernel_rfl) (by kernel_rfl) hr22 ?_
      refine T.alloc 10 26 (Vt.zero).cs (by kernel_rfl) (by kernel_rfl) (by kernel_rfl) (fun _ _ _ => trivial) (fun b23 => ?_)
      refine T.pure 9 (.int .i64 ((j : Int))) (by kernel_rfl) (fun w => by kernel_rfl) ?_
      refine T.storeP 26 b23 0 (.agg ((so[j]'hl18)).cs) (Vt.zero).cs ((so[j]'hl18)).cs 26 (by kernel_rfl) (by kernel_rfl) (by kernel_rfl) (by kernel_rfl) (by kernel_rfl) (by kernel_rfl) (List.Perm.refl _) (fun _ _ => trivial) ?_
      refine T.nil ?_
      refine QN.seq ?_
      refine W.seq ?_
      refine W.drawn (Ψ := St w ((b23, .cells ((so[j]'hl18)).cs 26 (0, 0)) :: (Hr8 ++ (Hg ++ [(b2, .cells #[.slice A9 (all.length) c9] 27 (0, 0)), (b1, .cells (p).cs 24 (0, 0))])))) (St w ((b23, .cells ((so[j]'hl18)).cs 26 (0, 0)) :: (Hr8 ++ (Hg ++ [(b2, .cells #[.slice A9 (all.length) c9] 27 (0, 0)), (b1, .cells (p).cs 24 (0, 0))])))) [(0, true), (1, true), (2, true), (3, true), (4, true), (5, true), (6, true), (7, true), (8, true), (9, true), (10, true)] hmx (by kernel_rfl) (NoPanic.then (NoPanic.inBlock (NoPanic.then (NoPanic.then (NoPanic.inBlock (NoPanic.then (NoPanic.body))))))) (fun w h => h.drew) (fun w h => h) ?_
      have hlp : j - 1 < so.length := by omega
      refine T.pure 37 (.int .i64 ((j : Int))) (by kernel_rfl) (fun w => by kernel_rfl) ?_
      refine T.pure 38 (.bool ((j : Int) == 0)) (by kernel_rfl) (fun w => by kernel_rfl) ?_
      refine T.pure 39 (.bool ((j : Int) == 0)) (by kernel_rfl) (fun w => by kernel_rfl) ?_
      refine T.blk [(3, true), (4, true), (5, true), (6, true), (7, true), (8, true), (9, true)] [(10, true)] 2 false ((j : Int) == 0) 39 46 (.bool ((so[j]'hl18) != (so[(j - 1)]'hlp))) (by kernel_rfl) (by kernel_rfl) (by kernel_rfl) (fun hg24 => ?_) ?_
      · have hg24_ := hg24
        have hg24' := ne_of_beq_false hg24
        refine T.loadR true 40 ((so[j]'hl18)).cs 26 b23 0 (by kernel_rfl) (by kernel_rfl) (by kernel_rfl) (by kernel_rfl) (fun w h => St.rangeM h ((so[j]'hl18)).cs (.head _) (by kernel_rfl)) ?_
        refine T.load true 41 (.slice A9 (all.length) c9) 27 b2 0 (by kernel_rfl) (by kernel_rfl) (by kernel_rfl) (fun w h => St.cellM h (.tail _ (List.mem_append_right _ (List.mem_append_right _ (.head _)))) (by kernel_rfl)) ?_
        refine T.pure 42 (.int .i64 ((j : Int))) (by kernel_rfl) (fun w => by kernel_rfl) ?_
        refine T.pureE 43 (.int .i64 (IntKind.i64.wrap ((j : Int) - 1))) (.int .i64 ((j : Int) - 1)) (by kernel_rfl) (fun w => by kernel_rfl) (wrap_int (by omega) (by omega)) ?_
        obtain ⟨b25, o26, hA27, hr28⟩ := ((show Arr (St _ ((b23, .cells ((so[j]'hl18)).cs 26 (0, 0)) :: (Hr8 ++ (Hg ++ [(b2, .cells #[.slice A9 (all.length) c9] 27 (0, 0)), (b1, .cells (p).cs 24 (0, 0))])))) A9 so from (Arr.row hso.2.2 (rfl) (hsl) ((b23, .cells ((so[j]'hl18)).cs 26 (0, 0)) :: (Hr8 ++ [(b2, .cells #[.slice A9 (all.length) c9] 27 (0, 0)), (b1, .cells (p).cs 24 (0, 0))]))).weak (fun w h => h.perm (((((List.Perm.refl _).append_left Hr8).trans (List.perm_append_comm_assoc _ _ _)).cons _).trans List.perm_middle.symm)))) (j - 1) hlp
        refine T.index 44 27 26 22 A9 (all.length) c9 ((j : Int) - 1) ((j - 1)) b25 o26 (by kernel_rfl) (by kernel_rfl) (by kernel_rfl) (by kernel_rfl) hA27 (by omega) (by omega) ?_
        refine T.loadR true 45 ((so[(j - 1)]'hlp)).cs 26 b25 (o26 + (j - 1) * 22) (by kernel_rfl) (by kernel_rfl) (by kernel_rfl) (by kernel_rfl) hr28 ?_
        refine T.eqq 46 ((so[j]'hl18) != (so[(j - 1)]'hlp)) ((so[j]'hl18) == (so[(j - 1)]'hlp)) true 26 ((so[j]'hl18)).cs ((so[(j - 1)]'hlp)).cs (by kernel_rfl) (by kernel_rfl) (by kernel_rfl) (by kernel_rfl) (fun w => eq_vt w (so[j]'hl18) (so[(j - 1)]'hlp)) ?_
        exact T.blkEnd (by kernel_rfl) (fun w h => h)
      refine T.or 47 ((j : Int) == 0) ((so[j]'hl18) != (so[(j - 1)]'hlp)) (by kernel_rfl) (by kernel_rfl) ?_
      refine T.nil ?_
      refine QN.seq ?_
      refine W.cond (((j : Int) == 0) || ((so[j]'hl18) != (so[(j - 1)]'hlp))) (by kernel_rfl) (fun h29 => ?_) (fun h29 => ?_)
      · skip
        refine W.region [(0, false), (1, false), (2, false), (3, false), (4, false)] (by kernel_rfl) ?_
        refine T.pure 48 (.slice A8 (r.length) c8) (by kernel_rfl) (fun w => by kernel_rfl) ?_
        refine T.loadR false 49 ((so[j]'hl18)).cs 26 b23 0 (by kernel_rfl) (by kernel_rfl) (by kernel_rfl) (by kernel_rfl) (fun w h => St.rangeM h ((so[j]'hl18)).cs (.head _) (by kernel_rfl)) ?_
        refine T.lit 50 27 26 1 #[(0, .agg ((so[j]'hl18)).cs)] (cells ([(so[j]'hl18)] : List Vt)).toArray (by kernel_rfl) (by kernel_rfl) (by kernel_rfl) (by kernel_rfl) (fun _ _ _ => trivial) (fun b30 => ?_)
        refine T.appC 51 27 26 64 A8 c8 (r : List Vt) Hr8 b30 0 1 ([(so[j]'hl18)] : List Vt) (((((List.Perm.refl _).cons _).trans List.perm_middle.symm).cons _).trans List.perm_middle.symm) (by kernel_rfl) (by kernel_rfl) (by kernel_rfl) (by kernel_rfl) hrow8 (fun w h => St.rangeM h (cells ([(so[j]'hl18)] : List Vt)).toArray (List.mem_append_right _ (.head _)) (by kernel_rfl)) (by unfold maxLen; first | omega | (simp; omega)) (by first | omega | (simp; omega)) (fun _ _ _ => trivial) (fun A31 c32 Hr33 hrow34 => ?_)
        refine T.pure 8 (.slice A31 ((r ++ ([(so[j]'hl18)])).length) c32) (by kernel_rfl) (fun w => by kernel_rfl) ?_
        refine T.nil ?_
        refine QN.blkNormal ?_
        refine QN.seq ?_
        refine W.region [(0, false), (1, false)] (by kernel_rfl) ?_
        refine T.pureE 52 (.int .i64 (IntKind.i64.wrap ((j : Int) + 1))) (.int .i64 ((j : Int) + 1)) (by kernel_rfl) (fun w => by kernel_rfl) (wrap_int (by omega) (by omega)) ?_
        refine T.pure 32 (.int .i64 ((j : Int) + 1)) (by kernel_rfl) (fun w => by kernel_rfl) ?_
        refine T.nil ?_
        refine QN.back (j + 1, r ++ ([(so[j]'hl18)]), A31, c32, Hr33) ?_ ?_ (by kernel_rfl) (fun w h => (h.perm ((List.Perm.refl _).trans (((((((List.Perm.refl _).cons _).trans List.perm_middle.symm).cons _).trans List.perm_middle.symm).trans (((((((List.Perm.refl _).cons _).trans (List.Perm.swap _ _ _)).cons _).trans (List.Perm.swap _ _ _)).trans ((((((List.Perm.refl _).cons _).trans (List.Perm.swap _ _ _)).cons _).trans (List.Perm.swap _ _ _)).cons _)).append_left Hg)).append_left Hr33))).part (List.Sublist.append (List.Sublist.refl _) (List.Sublist.append (List.Sublist.refl _) (((List.nil_sublist _).cons_cons _).cons_cons _))))
        · show (j + 1) ≤ all.length ∧ (r ++ ([(so[j]'hl18)])).length ≤ (j + 1) ∧ Strict (r ++ ([(so[j]'hl18)])) ∧ (∀ x, x ∈ (r ++ ([(so[j]'hl18)])) ↔ x ∈ so.take (j + 1)) ∧ RowIs 26 22 A31 (r ++ ([(so[j]'hl18)])).length c32 (cells (r ++ ([(so[j]'hl18)]))) Hr33
          exact ⟨by omega, by rw [List.length_append, List.length_singleton]; omega, (ded_yes (by omega) hso.2.1 hst hmm (ded_or h29 hlp)).1, (ded_yes (by omega) hso.2.1 hst hmm (ded_or h29 hlp)).2, hrow34⟩
        · show all.length - _ < all.length - _; omega
      · skip
        have h29l := (Bool.or_eq_false_iff.1 h29).1
        have h29r := (Bool.or_eq_false_iff.1 h29).2
        have h29l' := ne_of_beq_false h29l
        refine W.skip ?_
        refine QN.blkNormal ?_
        refine QN.seq ?_
        refine W.region [(0, false), (1, false)] (by kernel_rfl) ?_
        refine T.pureE 52 (.int .i64 (IntKind.i64.wrap ((j : Int) + 1))) (.int .i64 ((j : Int) + 1)) (by kernel_rfl) (fun w => by kernel_rfl) (wrap_int (by omega) (by omega)) ?_
        refine T.pure 32 (.int .i64 ((j : Int) + 1)) (by kernel_rfl) (fun w => by kernel_rfl) ?_
        refine T.nil ?_
        refine QN.back (j + 1, r, A8, c8, Hr8) ?_ ?_ (by kernel_rfl) (fun w h => (h.perm ((((List.Perm.refl _).cons _).trans List.perm_middle.symm).trans (((((List.Perm.refl _).cons _).trans List.perm_middle.symm).trans (((((List.Perm.refl _).cons _).trans (List.Perm.swap _ _ _)).trans ((((List.Perm.refl _).cons _).trans (List.Perm.swap _ _ _)).cons _)).append_left Hg)).append_left Hr8))).part (List.Sublist.append (List.Sublist.refl _) (List.Sublist.append (List.Sublist.refl _) (((List.nil_sublist _).cons_cons _).cons_cons _))))
        · show (j + 1) ≤ all.length ∧ r.length ≤ (j + 1) ∧ Strict r ∧ (∀ x, x ∈ r ↔ x ∈ so.take (j + 1)) ∧ RowIs 26 22 A8 r.length c8 (cells r) Hr8
          exact ⟨by omega, by omega, hst, ded_no (by omega) hmm (ded_nor h29 hlp).1 hlp (ded_nor h29 hlp).2, hrow8⟩
        · show all.length - _ < all.length - _; omega
    · skip
      have h17' := of_decide_eq_false h17
      refine W.exit ?_
      refine QN.thenExit ?_
      refine QN.thenExit ?_
      refine QN.blkHit ?_
      refine QN.seq ?_
      refine W.seq ?_
      refine W.region [(0, false), (1, false)] (by kernel_rfl) ?_
      refine T.pure 53 (.slice A8 (r.length) c8) (by kernel_rfl) (fun w => by kernel_rfl) ?_
      refine T.pure 4 (.slice A8 (r.length) c8) (by kernel_rfl) (fun w => by kernel_rfl) ?_
      refine T.nil ?_
      refine QN.seq ?_
      refine W.ret ?_
      refine QN.done (.inl rfl) 4 (.slice A8 (r.length) c8) rfl (by kernel_rfl) (fun w hw => ?_)
      exact (have e1 : r = ascV p l := asc_fin hst (by rw [← hsl]; have e2 : j = all.length := (by omega); rw [← e2]; exact hmm) hso.1 (by rw [← hkl]; exact hall); by rw [← e1]; exact ⟨A8, c8, Hr8, rfl, hrow8, hw.part (List.sublist_append_left _ _)⟩)
end Go.Proofs.Ythhgdkodhokefaa
