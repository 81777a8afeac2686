/- The judge's tables: whoever forks signed conflicting votes (plain). -/
import Derived.Test.YtphnfhonmbbddaaJs2
import Derived.Test.YtphnfhonmbbddaaGE
namespace Go.Proofs.Ytphnfhonmbbddaa
open Go Go.RowKit
set_option linter.unusedVariables false

theorem small8 {e : Int} (h0 : 0 ≤ e) (h7 : e ≤ 7) : e = 0 ∨ e = 1 ∨ e = 2 ∨ e = 3 ∨ e = 4 ∨ e = 5 ∨ e = 6 ∨ e = 7 := by omega
theorem small4 {e : Int} (h0 : 0 ≤ e) (h7 : e ≤ 3) : e = 0 ∨ e = 1 ∨ e = 2 ∨ e = 3 := by omega
theorem hit_mb {e : Int} (h0 : 0 ≤ e) (h7 : e ≤ 7) : hitB 1 e = mb e 0 ∧ hitB 2 e = mb e 1 ∧ hitB 4 e = mb e 2 ∧ hitB 3 e = (mb e 0 || mb e 1) ∧ hitB 5 e = (mb e 0 || mb e 2) ∧ hitB 6 e = (mb e 1 || mb e 2) := by
  rcases small8 h0 h7 with rfl | rfl | rfl | rfl | rfl | rfl | rfl | rfl <;> decide +kernel
theorem and_small {a b : Int} (ha : 0 ≤ a) (ha7 : a ≤ 7) (hb : 0 ≤ b) (hb7 : b ≤ 7) : 0 ≤ bits .and .i64 a b ∧ bits .and .i64 a b ≤ 7 := by
  rcases small8 ha ha7 with rfl | rfl | rfl | rfl | rfl | rfl | rfl | rfl <;> rcases small8 hb hb7 with rfl | rfl | rfl | rfl | rfl | rfl | rfl | rfl <;> decide +kernel
theorem and_small4 {a b : Int} (ha : 0 ≤ a) (ha7 : a ≤ 3) (hb : 0 ≤ b) (hb7 : b ≤ 7) : 0 ≤ bits .and .i64 a b ∧ bits .and .i64 a b ≤ 3 := by
  rcases small4 ha ha7 with rfl | rfl | rfl | rfl <;> rcases small8 hb hb7 with rfl | rfl | rfl | rfl | rfl | rfl | rfl | rfl <;> decide +kernel
theorem many_mb {e : Int} (h0 : 0 ≤ e) (h7 : e ≤ 7) : (decide ((1 : Int) < (size e : Int))) = ((mb e 0 && mb e 1) || (mb e 0 && mb e 2) || (mb e 1 && mb e 2)) := by
  rcases small8 h0 h7 with rfl | rfl | rfl | rfl | rfl | rfl | rfl | rfl <;> decide +kernel
theorem eq3_mb {e : Int} (h0 : 0 ≤ e) (h7 : e ≤ 3) : (e == 3) = (mb e 0 && mb e 1) := by
  rcases small4 h0 h7 with rfl | rfl | rfl | rfl <;> decide +kernel
theorem mb2_small {e : Int} (h0 : 0 ≤ e) (h7 : e ≤ 3) : mb e 2 = false := by
  rcases small4 h0 h7 with rfl | rfl | rfl | rfl <;> decide +kernel
/-- What is joined by two conditions. -/
def or2 (d : Int) (b1 b2 : Bool) : Int := bif b2 then bits .or .i64 (bif b1 then bits .or .i64 d 1 else d) 2 else (bif b1 then bits .or .i64 d 1 else d)
theorem or2_f {d : Int} (h0 : 0 ≤ d) (h3 : d ≤ 3) (b1 b2 : Bool) : 0 ≤ or2 d b1 b2 ∧ or2 d b1 b2 ≤ 3 ∧ mb (or2 d b1 b2) 0 = (mb d 0 || b1) ∧ mb (or2 d b1 b2) 1 = (mb d 1 || b2) ∧ mb (or2 d b1 b2) 2 = false := by
  rcases small4 h0 h3 with rfl | rfl | rfl | rfl <;> cases b1 <;> cases b2 <;> decide +kernel
theorem or4_f {d : Int} (h0 : 0 ≤ d) (h3 : d ≤ 3) (b : Bool) : 0 ≤ (bif b then bits .or .i64 d 4 else d) ∧ (bif b then bits .or .i64 d 4 else d) ≤ 7 ∧ mb (bif b then bits .or .i64 d 4 else d) 0 = mb d 0 ∧ mb (bif b then bits .or .i64 d 4 else d) 1 = mb d 1 ∧ mb (bif b then bits .or .i64 d 4 else d) 2 = b := by
  rcases small4 h0 h3 with rfl | rfl | rfl | rfl <;> cases b <;> decide +kernel
theorem and_bit {d : Int} (h0 : 0 ≤ d) (h3 : d ≤ 3) : (bits .and .i64 d 1 != 0) = mb d 0 ∧ (bits .and .i64 d 2 != 0) = mb d 1 := by
  rcases small4 h0 h3 with rfl | rfl | rfl | rfl <;> decide +kernel
/-- How many of the first numbers. -/
def cntI (n : Nat) (f : Nat → Bool) : Nat := ((List.range n).filter f).length
theorem filter_mono_len {α : Type} {f g : α → Bool} : ∀ {l : List α}, (∀ x ∈ l, f x = true → g x = true) → (l.filter f).length ≤ (l.filter g).length
  | [], _ => Nat.le_refl _
  | a :: l, h => by
    have ih := filter_mono_len (f := f) (g := g) (l := l) (fun x hx => h x (List.mem_cons_of_mem _ hx))
    rw [List.filter_cons, List.filter_cons]
    cases hf : f a with
    | true => simp only [h a (List.mem_cons_self) hf, if_true, List.length_cons]; omega
    | false =>
      simp only [Bool.false_eq_true, if_false]
      split
      · rw [List.length_cons]; omega
      · exact ih
theorem cnt_mono {n : Nat} {f g : Nat → Bool} (h : ∀ i, i < n → f i = true → g i = true) : cntI n f ≤ cntI n g := filter_mono_len fun i hi => h i (List.mem_range.1 hi)
theorem filter_both {α : Type} (f g : α → Bool) : ∀ l : List α, (l.filter f).length + (l.filter g).length ≤ (l.filter fun x => f x && g x).length + l.length
  | [] => Nat.le_refl _
  | a :: l => by
    have ih := filter_both f g l
    simp only [List.filter_cons, List.length_cons]
    cases f a <;> cases g a <;> simp <;> omega
theorem cnt_both (n : Nat) (f g : Nat → Bool) : cntI n f + cntI n g ≤ cntI n (fun i => f i && g i) + n := by
  have := filter_both f g (List.range n)
  rwa [List.length_range] at this
theorem cnt_list {l : List Int} {n : Nat} (hl : l.length = n) (p : Int → Bool) : (l.filter p).length = cntI n (fun i => p (l.getD i 0)) := by
  have e : l = (List.range n).map (fun i => l.getD i 0) := by
    apply List.ext_getElem
    · simp [hl]
    · intro i h1 h2
      simp [List.getD_eq_getElem?_getD, h1]
  conv => lhs; rw [e, List.filter_map, List.length_map]
  rfl
theorem cnt_zero {n : Nat} {f : Nat → Bool} (h : ∀ i, i < n → f i = false) : cntI n f = 0 := by
  unfold cntI
  rw [List.length_eq_zero_iff, List.filter_eq_nil_iff]
  intro i hi
  rw [h i (List.mem_range.1 hi)]; simp
theorem cnt_pos {n : Nat} {f : Nat → Bool} (h : 0 < cntI n f) : ∃ i, i < n ∧ f i = true := by
  obtain ⟨i, hi⟩ := List.exists_mem_of_length_pos h
  rw [List.mem_filter, List.mem_range] at hi
  exact ⟨i, hi⟩
/-- What holds of a valid table. -/
structure VF (P C : List (List Int)) (n k : Nat) : Prop where
  n1 : 1 ≤ n
  n7 : n ≤ 7
  k1 : 1 ≤ k
  k3 : k ≤ 3
  pl : P.length = k
  cl : C.length = k
  pr : ∀ r, r < k → (P.getD r []).length = n ∧ ∀ e ∈ P.getD r [], 0 ≤ e ∧ e ≤ 3
  cr : ∀ r, r < k → (C.getD r []).length = n ∧ ∀ e ∈ C.getD r [], 0 ≤ e ∧ e ≤ 7
theorem fits_iff {rows : List (List Int)} {k hi : Int} (h : fitsV rows k hi = true) : ∀ x ∈ rows, (x.length : Int) = k ∧ ∀ e ∈ x, 0 ≤ e ∧ e ≤ hi := fun x hx => by
  unfold fitsV at h
  rw [List.all_eq_true] at h
  have h1 : fitR k hi x = true := h x hx
  unfold fitR at h1
  rw [Bool.and_eq_true] at h1
  refine ⟨by have := h1.1; simpa using this, fun e he => ?_⟩
  have h2 := List.any_eq_false.1 (not_eq_true h1.2) e he
  unfold outB at h2
  simp at h2
  omega
theorem VF.of {P C : List (List Int)} (h : validV P C = true) : VF P C (P.getD 0 []).length P.length := by
  unfold validV at h
  cases hb : (((decide ((P.length : Int) < 1)) || (decide (3 < (P.length : Int)))) || ((C.length : Int) != (P.length : Int))) with
  | true => rw [hb] at h; cases h
  | false =>
    rw [hb, cond_false] at h
    simp only [Bool.or_eq_false_iff, decide_eq_false_iff_not, bne_eq_false_iff_eq] at hb
    simp only [Bool.and_eq_true, decide_eq_true_eq] at h
    obtain ⟨⟨⟨h1, h2⟩, h3⟩, h4⟩ := h
    have mem : ∀ {L : List (List Int)} {r : Nat}, r < L.length → L.getD r [] ∈ L := fun {L r} hr => by
      rw [List.getD_eq_getElem?_getD, List.getElem?_eq_getElem hr]; exact List.getElem_mem hr
    refine ⟨by omega, by omega, by omega, by omega, rfl, by omega, fun r hr => ?_, fun r hr => ?_⟩
    · have := fits_iff h3 _ (mem hr); exact ⟨by omega, this.2⟩
    · have := fits_iff h4 _ (mem (by omega : r < C.length)); exact ⟨by omega, this.2⟩
theorem getD_rng {l : List Int} {hi : Int} (h0 : 0 ≤ hi) (h : ∀ e ∈ l, 0 ≤ e ∧ e ≤ hi) (i : Nat) : 0 ≤ l.getD i 0 ∧ l.getD i 0 ≤ hi := by
  rw [List.getD_eq_getElem?_getD]
  cases hx : l[i]? with
  | none => exact ⟨Int.le_refl _, h0⟩
  | some e => exact h e (List.mem_of_getElem? hx)
theorem kept_getD (l : List Int) (p : Int) (i : Nat) : (keptV l p).getD i 0 = bits .and .i64 (l.getD i 0) p := by
  unfold keptV
  rw [List.getD_eq_getElem?_getD, List.getD_eq_getElem?_getD, List.getElem?_map]
  cases l[i]? with
  | none => simp only [Option.map_none, Option.getD_none]; apply mb_ext ⟨by decide, by decide⟩ (w64_and _ _); intro j hj; rw [mb_and, mb_zero]; rfl
  | some e => rfl
section
variable (P C : List (List Int)) (q : Int)
def plT (r : Nat) : List Int := (decT P C q r).1
def posT (r : Nat) : Int := posB (plT P C q r) q
def comT (r : Nat) : List Int := keptV (C.getD r []) (posT P C q r)
def nxT (r : Nat) : Int := or2 0 (nxB (comT P C q r) (plT P C q r) q 1) (nxB (comT P C q r) (plT P C q r) q 2)
def dcd (r : Nat) (x : Int) : Bool := decide (q ≤ countV (comT P C q r) x)
end
section
variable {P C : List (List Int)} {q : Int} {n k : Nat}
theorem plT_succ (r : Nat) (h : r + 1 < P.length) : plT P C q (r + 1) = keptV (P.getD (r + 1) []) (nxT P C q r) := by
  unfold plT
  rw [decT_succ]
  unfold decS
  rw [decide_eq_true (by omega), cond_true]; rfl
theorem dec2_succ (r : Nat) : (decT P C q (r + 1)).2 = or2 (decT P C q r).2 (dcd P C q r 1) (dcd P C q r 2) := by
  rw [decT_succ]; rfl
theorem dec_any (r : Nat) : 0 ≤ (decT P C q r).2 ∧ (decT P C q r).2 ≤ 3 ∧ mb (decT P C q r).2 0 = (List.range r).any (fun s => dcd P C q s 1) ∧ mb (decT P C q r).2 1 = (List.range r).any (fun s => dcd P C q s 2) := by
  induction r with
  | zero => exact ⟨Int.le_refl _, by show (0 : Int) ≤ 3; decide, mb_zero _, mb_zero _⟩
  | succ r ih =>
    obtain ⟨h0, h3, h1, h2⟩ := ih
    obtain ⟨a, b, c, d, _⟩ := or2_f h0 h3 (dcd P C q r 1) (dcd P C q r 2)
    rw [dec2_succ]
    refine ⟨a, b, ?_, ?_⟩
    · rw [c, h1, List.range_succ, List.any_append]; simp
    · rw [d, h2, List.range_succ, List.any_append]; simp
theorem nxT_f (r : Nat) : 0 ≤ nxT P C q r ∧ nxT P C q r ≤ 3 ∧ mb (nxT P C q r) 0 = nxB (comT P C q r) (plT P C q r) q 1 ∧ mb (nxT P C q r) 1 = nxB (comT P C q r) (plT P C q r) q 2 := by
  obtain ⟨a, b, c, d, _⟩ := or2_f (d := 0) (Int.le_refl _) (by decide) (nxB (comT P C q r) (plT P C q r) q 1) (nxB (comT P C q r) (plT P C q r) q 2)
  refine ⟨a, b, ?_, ?_⟩
  · unfold nxT; rw [c, mb_zero, Bool.false_or]
  · unfold nxT; rw [d, mb_zero, Bool.false_or]
theorem posT_f (r : Nat) : 0 ≤ posT P C q r ∧ posT P C q r ≤ 7 ∧ mb (posT P C q r) 0 = decide (q ≤ countV (plT P C q r) 1) ∧ mb (posT P C q r) 1 = decide (q ≤ countV (plT P C q r) 2) ∧ mb (posT P C q r) 2 = bothV (plT P C q r) q := by
  obtain ⟨a, b, c, d, _⟩ := or2_f (d := 0) (Int.le_refl _) (by decide) (decide (q ≤ countV (plT P C q r) 1)) (decide (q ≤ countV (plT P C q r) 2))
  have e : posL (plT P C q r) q = or2 0 (decide (q ≤ countV (plT P C q r) 1)) (decide (q ≤ countV (plT P C q r) 2)) := rfl
  obtain ⟨f, g, h, i, j⟩ := or4_f (d := or2 0 (decide (q ≤ countV (plT P C q r) 1)) (decide (q ≤ countV (plT P C q r) 2))) a b (bothV (plT P C q r) q)
  have e2 : posT P C q r = (bif bothV (plT P C q r) q then bits .or .i64 (or2 0 (decide (q ≤ countV (plT P C q r) 1)) (decide (q ≤ countV (plT P C q r) 2))) 4 else or2 0 (decide (q ≤ countV (plT P C q r) 1)) (decide (q ≤ countV (plT P C q r) 2))) := rfl
  rw [e2]
  exact ⟨f, g, by rw [h, c, mb_zero, Bool.false_or], by rw [i, d, mb_zero, Bool.false_or], j⟩
theorem plT_rows (hv : VF P C n k) : ∀ r, r < k → (plT P C q r).length = n ∧ ∀ i, 0 ≤ (plT P C q r).getD i 0 ∧ (plT P C q r).getD i 0 ≤ 3
  | 0, hr => ⟨(hv.pr 0 hr).1, getD_rng (by decide) (hv.pr 0 hr).2⟩
  | r + 1, hr => by
    rw [plT_succ r (by rw [hv.pl]; exact hr)]
    obtain ⟨h1, h2⟩ := hv.pr (r + 1) hr
    obtain ⟨a, b, _, _⟩ := nxT_f (P := P) (C := C) (q := q) r
    refine ⟨by rw [keptV_len]; exact h1, fun i => ?_⟩
    rw [kept_getD]
    obtain ⟨c, d⟩ := getD_rng (by decide) h2 i
    exact and_small4 c d a (by omega)
theorem comT_rows (hv : VF P C n k) (r : Nat) (hr : r < k) : (comT P C q r).length = n ∧ ∀ i, 0 ≤ (comT P C q r).getD i 0 ∧ (comT P C q r).getD i 0 ≤ 7 := by
  obtain ⟨h1, h2⟩ := hv.cr r hr
  obtain ⟨a, b, _⟩ := posT_f (P := P) (C := C) (q := q) r
  refine ⟨by unfold comT; rw [keptV_len]; exact h1, fun i => ?_⟩
  unfold comT
  rw [kept_getD]
  obtain ⟨c, d⟩ := getD_rng (by decide) h2 i
  exact and_small c d a b
theorem countV_cnt {l : List Int} (hl : l.length = n) (x : Int) : countV l x = (cntI n (fun i => hitB x (l.getD i 0)) : Int) := by
  unfold countV
  rw [cnt_list hl]
/-- A bit of a choice, in a row of Prevotes or Precommits. -/
def bitI (l : List Int) (c i : Nat) : Bool := mb (l.getD i 0) c
theorem com_bit (hv : VF P C n k) {r : Nat} (hr : r < k) (c i : Nat) (h : bitI (comT P C q r) c i = true) : mb ((C.getD r []).getD i 0) c = true ∧ mb (posT P C q r) c = true := by
  unfold bitI comT at h
  rw [kept_getD, mb_and, Bool.and_eq_true] at h
  exact h
theorem cntV1 (hv : VF P C n k) {r : Nat} (hr : r < k) : countV (comT P C q r) 1 = (cntI n (bitI (comT P C q r) 0) : Int) ∧ countV (comT P C q r) 2 = (cntI n (bitI (comT P C q r) 1) : Int) ∧ countV (comT P C q r) 4 = (cntI n (bitI (comT P C q r) 2) : Int) ∧
    countV (comT P C q r) 5 = (cntI n (fun i => bitI (comT P C q r) 0 i || bitI (comT P C q r) 2 i) : Int) ∧ countV (comT P C q r) 6 = (cntI n (fun i => bitI (comT P C q r) 1 i || bitI (comT P C q r) 2 i) : Int) := by
  obtain ⟨hl, hb⟩ := comT_rows (q := q) hv r hr
  refine ⟨?_, ?_, ?_, ?_, ?_⟩ <;> rw [countV_cnt hl] <;> congr 2 <;> funext i
  · exact (hit_mb (hb i).1 (hb i).2).1
  · exact (hit_mb (hb i).1 (hb i).2).2.1
  · exact (hit_mb (hb i).1 (hb i).2).2.2.1
  · exact (hit_mb (hb i).1 (hb i).2).2.2.2.2.1
  · exact (hit_mb (hb i).1 (hb i).2).2.2.2.2.2
theorem cntP1 (hv : VF P C n k) {r : Nat} (hr : r < k) : countV (plT P C q r) 1 = (cntI n (bitI (plT P C q r) 0) : Int) ∧ countV (plT P C q r) 2 = (cntI n (bitI (plT P C q r) 1) : Int) ∧ countV (plT P C q r) 3 = (cntI n (fun i => bitI (plT P C q r) 0 i || bitI (plT P C q r) 1 i) : Int) := by
  obtain ⟨hl, hb⟩ := plT_rows (q := q) hv r hr
  refine ⟨?_, ?_, ?_⟩ <;> rw [countV_cnt hl] <;> congr 2 <;> funext i
  · exact (hit_mb (hb i).1 (by have := (hb i).2; omega)).1
  · exact (hit_mb (hb i).1 (by have := (hb i).2; omega)).2.1
  · exact (hit_mb (hb i).1 (by have := (hb i).2; omega)).2.2.2.1
theorem both_bits (hv : VF P C n k) {r : Nat} (hr : r < k) (h : bothV (plT P C q r) q = true) : 0 < cntI n (bitI (plT P C q r) 0) ∧ 0 < cntI n (bitI (plT P C q r) 1) := by
  obtain ⟨h1, h2, h3⟩ := cntP1 (q := q) hv hr
  unfold bothV at h
  cases hb : (((decide (countV (plT P C q r) 3 < q)) || (countV (plT P C q r) 1 == 0)) || (countV (plT P C q r) 2 == 0)) with
  | true => rw [hb] at h; cases h
  | false =>
    simp only [Bool.or_eq_false_iff, beq_eq_false_iff_ne] at hb
    rw [h1, h2] at hb
    exact ⟨by omega, by omega⟩
/-- The members who signed two choices in one place. -/
def cfmB (P C : List (List Int)) (k i : Nat) : Bool := (List.range k).any (fun r => manyC P C r i)
theorem many_of (hv : VF P C n k) {r c d : Nat} (hr : r < k) (hcd : (c, d) ∈ [(0, 1), (0, 2), (1, 2), (1, 0), (2, 0), (2, 1)]) (i : Nat) (h1 : mb ((C.getD r []).getD i 0) c = true) (h2 : mb ((C.getD r []).getD i 0) d = true) : cfmB P C k i = true := by
  have hm : manyC P C r i = true := by
    obtain ⟨a, b⟩ := getD_rng (by decide) (hv.cr r hr).2 i
    unfold manyC
    rw [many_mb a b]
    simp only [List.mem_cons, Prod.mk.injEq, List.not_mem_nil, or_false] at hcd
    rcases hcd with ⟨rfl, rfl⟩ | ⟨rfl, rfl⟩ | ⟨rfl, rfl⟩ | ⟨rfl, rfl⟩ | ⟨rfl, rfl⟩ | ⟨rfl, rfl⟩ <;> simp only [h1, h2, Bool.true_and, Bool.and_true, Bool.or_true, Bool.true_or]
  unfold cfmB
  rw [List.any_eq_true]
  exact ⟨r, List.mem_range.2 hr, hm⟩
/-- Two quorums that overlap. -/
theorem overlap {f g h : Nat → Bool} (hf : q ≤ (cntI n f : Int)) (hg : q ≤ (cntI n g : Int)) (hh : ∀ i, i < n → f i = true → g i = true → h i = true) : 2 * q - (n : Int) ≤ (cntI n h : Int) := by
  have h1 := cnt_both n f g
  have h2 : cntI n (fun i => f i && g i) ≤ cntI n h := cnt_mono fun i hi hb => by
    rw [Bool.and_eq_true] at hb
    exact hh i hi hb.1 hb.2
  omega
/-- One of the choices and the other. -/
def Pair (c d : Nat) (x y : Int) : Prop := (c = 0 ∧ d = 1 ∧ x = 1 ∧ y = 2) ∨ (c = 1 ∧ d = 0 ∧ x = 2 ∧ y = 1)
theorem Pair.symm {c d : Nat} {x y : Int} (h : Pair c d x y) : Pair d c y x := by
  rcases h with ⟨rfl, rfl, rfl, rfl⟩ | ⟨rfl, rfl, rfl, rfl⟩
  · exact .inr ⟨rfl, rfl, rfl, rfl⟩
  · exact .inl ⟨rfl, rfl, rfl, rfl⟩
theorem Pair.mem {c d : Nat} {x y : Int} (h : Pair c d x y) : (c, d) ∈ [(0, 1), (0, 2), (1, 2), (1, 0), (2, 0), (2, 1)] ∧ (c, 2) ∈ [(0, 1), (0, 2), (1, 2), (1, 0), (2, 0), (2, 1)] := by
  rcases h with ⟨rfl, rfl, _, _⟩ | ⟨rfl, rfl, _, _⟩ <;> exact ⟨by decide, by decide⟩
theorem Pair.com (hv : VF P C n k) {r : Nat} (hr : r < k) {c d : Nat} {x y : Int} (h : Pair c d x y) : countV (comT P C q r) x = (cntI n (bitI (comT P C q r) c) : Int) ∧ countV (comT P C q r) (bits .or .i64 y 4) = (cntI n (fun i => bitI (comT P C q r) d i || bitI (comT P C q r) 2 i) : Int) ∧ countV (plT P C q r) y = (cntI n (bitI (plT P C q r) d) : Int) ∧ mb (nxT P C q r) d = nxB (comT P C q r) (plT P C q r) q y ∧ mb (posT P C q r) d = decide (q ≤ countV (plT P C q r) y) := by
  obtain ⟨h1, h2, h3, h4, h5⟩ := cntV1 (q := q) hv hr
  obtain ⟨g1, g2, _⟩ := cntP1 (q := q) hv hr
  obtain ⟨_, _, n1, n2⟩ := nxT_f (P := P) (C := C) (q := q) r
  obtain ⟨_, _, p1, p2, _⟩ := posT_f (P := P) (C := C) (q := q) r
  have o1 : bits .or .i64 1 4 = 5 := by decide +kernel
  have o2 : bits .or .i64 2 4 = 6 := by decide +kernel
  rcases h with ⟨rfl, rfl, rfl, rfl⟩ | ⟨rfl, rfl, rfl, rfl⟩
  · exact ⟨h1, by rw [o2]; exact h5, g2, n2, p2⟩
  · exact ⟨h2, by rw [o1]; exact h4, g1, n1, p1⟩
/-- Nobody's Prevote of a choice counts: nor do the Precommits. -/
theorem no_pre (hv : VF P C n k) (hq : 1 ≤ q) {r : Nat} (hr : r < k) {c d : Nat} {x y : Int} (h : Pair c d x y) (h0 : cntI n (bitI (plT P C q r) d) = 0) : cntI n (bitI (comT P C q r) d) = 0 ∧ cntI n (bitI (comT P C q r) 2) = 0 ∧ cntI n (fun i => bitI (comT P C q r) d i || bitI (comT P C q r) 2 i) = 0 := by
  obtain ⟨_, _, hp, _, hpos⟩ := h.com (q := q) hv hr
  obtain ⟨_, _, _, _, hb⟩ := posT_f (P := P) (C := C) (q := q) r
  have e1 : mb (posT P C q r) d = false := by rw [hpos, hp, h0]; exact decide_eq_false (by omega)
  have e2 : mb (posT P C q r) 2 = false := by
    rw [hb]
    cases hx : bothV (plT P C q r) q with
    | false => rfl
    | true =>
      have := both_bits hv hr hx
      rcases h with ⟨_, rfl, _, _⟩ | ⟨_, rfl, _, _⟩ <;> omega
  have b1 : ∀ i, bitI (comT P C q r) d i = false := fun i => by
    cases hx : bitI (comT P C q r) d i with
    | false => rfl
    | true => have := (com_bit hv hr d i hx).2; rw [e1] at this; cases this
  have b2 : ∀ i, bitI (comT P C q r) 2 i = false := fun i => by
    cases hx : bitI (comT P C q r) 2 i with
    | false => rfl
    | true => have := (com_bit hv hr 2 i hx).2; rw [e2] at this; cases this
  exact ⟨cnt_zero fun i _ => b1 i, cnt_zero fun i _ => b2 i, cnt_zero fun i _ => by rw [b1, b2]; rfl⟩
theorem dcd_iff (hv : VF P C n k) {r : Nat} (hr : r < k) {c d : Nat} {x y : Int} (h : Pair c d x y) : dcd P C q r x = true ↔ q ≤ (cntI n (bitI (comT P C q r) c) : Int) := by
  unfold dcd
  rw [decide_eq_true_eq, (h.com (q := q) hv hr).1]
/-- The next round's Prevotes of the other choice do not count, once a choice is decided and too few lie. -/
theorem next_no (hv : VF P C n k) (hq : 1 ≤ q) {r : Nat} (hr : r + 1 < k) {c d : Nat} {x y : Int} (h : Pair c d x y) (hn : nxB (comT P C q r) (plT P C q r) q y = false) : cntI n (bitI (plT P C q (r + 1)) d) = 0 := by
  obtain ⟨_, _, _, hnx, _⟩ := h.com (q := q) hv (Nat.lt_of_succ_lt hr)
  refine cnt_zero fun i _ => ?_
  unfold bitI
  rw [plT_succ r (by rw [hv.pl]; exact hr), kept_getD, mb_and, hnx, hn, Bool.and_false]
theorem after (hv : VF P C n k) (hq : 1 ≤ q) {r : Nat} (hr : r < k) {c d : Nat} {x y : Int} (h : Pair c d x y) (hd : q ≤ (cntI n (bitI (comT P C q r) c) : Int)) (hc : (cntI n (cfmB P C k) : Int) < 2 * q - (n : Int)) : ∀ s, r < s → s < k → cntI n (bitI (plT P C q s) d) = 0 := by
  have none : ∀ {f : Nat → Bool}, q ≤ (cntI n f : Int) → (∀ i, f i = true → mb ((C.getD r []).getD i 0) d = true ∨ mb ((C.getD r []).getD i 0) 2 = true) → False := fun {f} hf hi => by
    have := overlap hd hf (h := cfmB P C k) (fun i _ h1 h2 => by
      have h3 := (com_bit hv hr c i h1).1
      rcases hi i h2 with h4 | h4
      · exact many_of hv hr h.mem.1 i h3 h4
      · exact many_of hv hr h.mem.2 i h3 h4)
    omega
  intro s
  induction s with
  | zero => intro hs; exact absurd hs (Nat.not_lt_zero _)
  | succ s ih =>
    intro hs hk
    have hk' : s < k := Nat.lt_of_succ_lt hk
    obtain ⟨_, hor, hpl, _, _⟩ := h.com (q := q) hv hk'
    obtain ⟨_, _, h4, _⟩ := cntV1 (q := q) hv hk'
    refine next_no hv hq hk h ?_
    rcases Nat.lt_succ_iff_lt_or_eq.1 hs with hlt | rfl
    · have h0 := ih hlt hk'
      obtain ⟨e1, e2, e3⟩ := no_pre hv hq hk' h h0
      unfold nxB
      rw [hor, h4, e3, e2, decide_eq_false (by omega : ¬ q ≤ ((0 : Nat) : Int))]
      rfl
    · unfold nxB
      rw [hor, h4]
      have d1 : decide (q ≤ (cntI n (fun i => bitI (comT P C q r) d i || bitI (comT P C q r) 2 i) : Int)) = false := decide_eq_false fun hx => none hx fun i hi => by
        rw [Bool.or_eq_true] at hi
        rcases hi with hi | hi
        · exact .inl (com_bit hv hr d i hi).1
        · exact .inr (com_bit hv hr 2 i hi).1
      have d2 : decide (q ≤ (cntI n (bitI (comT P C q r) 2) : Int)) = false := decide_eq_false fun hx => none hx fun i hi => .inr (com_bit hv hr 2 i hi).1
      rw [d1, d2]; rfl
/-- Two choices that are decided convict a third. -/
theorem forks_cnt (hv : VF P C n k) (hq : 1 ≤ q) {r s : Nat} (hr : r < k) (hs : s < k) (h1 : dcd P C q r 1 = true) (h2 : dcd P C q s 2 = true) : 2 * q - (n : Int) ≤ (cntI n (cfmB P C k) : Int) := by
  have p1 : Pair 0 1 1 2 := .inl ⟨rfl, rfl, rfl, rfl⟩
  have p2 : Pair 1 0 2 1 := p1.symm
  have d1 := (dcd_iff hv hr p1).1 h1
  have d2 := (dcd_iff hv hs p2).1 h2
  rcases Int.lt_or_le (cntI n (cfmB P C k) : Int) (2 * q - (n : Int)) with hc | hc
  · exfalso
    rcases Nat.lt_trichotomy r s with hlt | heq | hlt
    · have h0 := after hv hq hr p1 d1 hc s hlt hs
      have := (no_pre hv hq hs p1 h0).1
      omega
    · subst heq
      have := overlap d1 d2 (h := cfmB P C k) (fun i _ h1 h2 => many_of hv hr (by decide) i (com_bit hv hr 0 i h1).1 (com_bit hv hr 1 i h2).1)
      omega
    · have h0 := after hv hq hs p2 d2 hc r hlt hr
      have := (no_pre hv hq hr p2 h0).1
      omega
  · exact hc
theorem mb_confI (r : Nat) (m : Int) (i : Nat) (hi : i < 64) : ∀ len, mb (confI P C r len m) i = (mb m i || (decide (i < len) && manyC P C r i))
  | 0 => by simp [confI]
  | len + 1 => by
    rw [confI_succ]
    have ih := mb_confI r m i hi len
    cases hm : manyC P C r len with
    | false =>
      rw [cond_false, ih]
      by_cases h : i = len
      · subst h; simp [hm]
      · have : decide (i < len + 1) = decide (i < len) := by rw [decide_eq_decide]; omega
        rw [this]
    | true =>
      rw [cond_true, mb_or, ih, mb_pow _ _ hi]
      by_cases h : i = len
      · subst h; simp [hm]
      · have e1 : decide (i < len + 1) = decide (i < len) := by rw [decide_eq_decide]; omega
        have e2 : decide (len = i) = false := decide_eq_false (fun h' => h h'.symm)
        rw [e1, e2, Bool.or_false]
theorem mb_confT (hv : VF P C n k) (i : Nat) (hi : i < n) : ∀ r, r ≤ k → mb (confT P C r) i = cfmB P C r i
  | 0, _ => by unfold confT cfmB; simp [mb_zero]
  | r + 1, hr => by
    have hn7 := hv.n7
    rw [confT_succ, mb_confI _ _ _ (by omega), mb_confT hv i hi r (by omega), (hv.pr r (by omega)).1]
    unfold cfmB
    rw [List.range_succ, List.any_append]
    simp [hi]
theorem conf_size (hv : validV P C = true) : cntI (P.getD 0 []).length (cfmB P C P.length) ≤ size (confV P C) := by
  have vf := VF.of hv
  have hn7 := vf.n7
  have h1 : cntI (P.getD 0 []).length (cfmB P C P.length) ≤ cntI (P.getD 0 []).length (mb (confV P C)) := cnt_mono fun i hi hb => by
    unfold confV
    rw [hv, cond_true, mb_confT vf i hi _ (Nat.le_refl _)]
    exact hb
  have h2 : cntI (P.getD 0 []).length (mb (confV P C)) ≤ size (confV P C) := by
    unfold size ids cntI
    exact ((List.range_sublist.2 (by omega)).filter _).length_le
  omega
/-- A fork convicts. -/
theorem forks_law (hv : validV P C = true) (h : decV P C = (true, true)) : 2 * quorum ((P.getD 0 []).length : Int) - ((P.getD 0 []).length : Int) ≤ (size (confV P C) : Int) := by
  have vf := VF.of hv
  have hq : 1 ≤ quorum ((P.getD 0 []).length : Int) := by
    have := vf.n1
    unfold quorum
    split <;> omega
  have hc := conf_size hv
  unfold decV at h
  rw [hv, cond_true, Prod.mk.injEq] at h
  obtain ⟨a, b, c, d⟩ := dec_any (P := P) (C := C) (q := quorum ((P.getD 0 []).length : Int)) P.length
  obtain ⟨e, f⟩ := and_bit a b
  rw [e, f, c, d, List.any_eq_true, List.any_eq_true] at h
  obtain ⟨⟨r, hr, h1⟩, ⟨s, hs, h2⟩⟩ := h
  have := forks_cnt vf hq (List.mem_range.1 hr) (List.mem_range.1 hs) h1 h2
  omega
end
end Go.Proofs.Ytphnfhonmbbddaa
