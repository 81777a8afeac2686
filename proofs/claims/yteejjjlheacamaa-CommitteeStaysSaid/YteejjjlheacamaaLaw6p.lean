/- Plain laws on committees: quorums meet, Lowest, Select. -/
import Derived.Test.YteejjjlheacamaaLaw6b
set_option linter.unusedVariables false
namespace Go.Proofs.Yteejjjlheacamaa
open Go Go.RowKit
theorem size_eq (m : Int) : size m = (List.range 10).countP (mb m) := by
  unfold size ids; rw [List.countP_eq_length_filter]
theorem countP_meet {α : Type} (p q r : α → Bool) (l : List α) (h1 : ∀ x, p x = true → r x = true) (h2 : ∀ x, q x = true → r x = true) :
    l.countP p + l.countP q ≤ l.countP (fun x => p x && q x) + l.countP r := by
  induction l with
  | nil => simp
  | cons a l ih =>
    rw [List.countP_cons, List.countP_cons, List.countP_cons, List.countP_cons]
    have g1 := h1 a
    have g2 := h2 a
    cases hp : p a <;> cases hq : q a <;> cases hr : r a <;> simp_all <;> omega
theorem size_meet (c a b : Int) : size (bits .and .i64 a c) + size (bits .and .i64 b c) ≤ size (bits .and .i64 (bits .and .i64 a c) (bits .and .i64 b c)) + size c := by
  rw [size_eq, size_eq, size_eq, size_eq]
  have e : mb (bits .and .i64 (bits .and .i64 a c) (bits .and .i64 b c)) = fun x => mb (bits .and .i64 a c) x && mb (bits .and .i64 b c) x := funext fun i => mb_and _ _ i
  rw [e]
  exact countP_meet _ _ _ _ (fun x hx => by rw [mb_and] at hx; simp at hx; exact hx.2) (fun x hx => by rw [mb_and] at hx; simp at hx; exact hx.2)
/-- Lowest: a subset. -/
theorem low_sub (m k : Int) : bits .andNot .i64 (lowest m k) m = 0 := by
  refine mb_ext (w64_andNot _ _) (by unfold W64; omega) fun i hi => ?_
  rw [mb_andNot, mb_zero]
  unfold lowest
  rw [mb_ofIds _ i hi]
  by_cases h : i ∈ (ids m).take k.toNat
  · have := ((mem_ids m i).1 (List.mem_of_mem_take h)).2
    simp [this]
  · simp [h]
theorem ids_low (m k : Int) : ids (lowest m k) = (ids m).take k.toNat := ids_ofIds_sub (List.take_sublist _ _)
theorem size_low (m k : Int) : (size (lowest m k) : Int) = max 0 (min k (size m)) := by
  have : size (lowest m k) = min k.toNat (size m) := by unfold size; rw [ids_low, List.length_take]
  rw [this]; omega
theorem has_low (m k : Int) (j : Nat) (h : j < (ids m).length) : hasB (lowest m k) ((ids m)[j] : Int) = decide ((j : Int) < k) := by
  have hj : (ids m)[j] < 10 := ((mem_ids m _).1 (List.getElem_mem h)).1
  rw [hasB_nat _ _ hj]
  unfold lowest
  rw [mb_ofIds _ _ (by omega)]
  by_cases hk : (j : Int) < k
  · have : (ids m)[j] ∈ (ids m).take k.toNat := by
      rw [List.mem_take_iff_getElem]
      exact ⟨j, by omega, rfl⟩
    simp [this, hk]
  · have : (ids m)[j] ∉ (ids m).take k.toNat := by
      rw [List.mem_take_iff_getElem]
      rintro ⟨i, hi, e⟩
      have := (List.getElem_inj (ids_nodup m)).1 e
      omega
    simp [this, hk]
theorem ids_lt (m : Int) (i j : Nat) (hij : i < j) (h : j < (ids m).length) : (ids m)[i] < (ids m)[j] := by
  have := List.pairwise_iff_getElem.1 (ids_sorted m) i j (by omega) h hij
  exact this
theorem rank (l : List Nat) (hs : l.Pairwise (· < ·)) (p : Nat) (h : p < l.length) : (l.filter (fun y => decide (y < l[p]))).length = p := by
  have e : l = l.take p ++ l.drop p := (List.take_append_drop p l).symm
  have g := List.pairwise_iff_getElem.1 hs
  have h1 : (l.take p).filter (fun y => decide (y < l[p])) = l.take p := by
    rw [List.filter_eq_self]
    intro a ha
    rw [List.mem_take_iff_getElem] at ha
    obtain ⟨i, hi, rfl⟩ := ha
    simp
    exact g i p (by omega) h (by omega)
  have h2 : (l.drop p).filter (fun y => decide (y < l[p])) = [] := by
    rw [List.filter_eq_nil_iff]
    intro a ha
    rw [List.mem_drop_iff_getElem] at ha
    obtain ⟨i, hi, rfl⟩ := ha
    simp
    rcases Nat.eq_zero_or_pos i with h0 | h0
    · subst h0; simp
    · exact Nat.le_of_lt (g p (p + i) h (by omega) (by omega))
  have e2 : l.filter (fun y => decide (y < l[p])) = (l.take p).filter (fun y => decide (y < l[p])) ++ (l.drop p).filter (fun y => decide (y < l[p])) := by
    rw [← List.filter_append, List.take_append_drop]
  rw [e2, h1, h2, List.append_nil, List.length_take]
  omega
theorem ids_sub_of {M M' : Int} (h : ∀ i, i < 10 → mb M' i = true → mb M i = true) : (ids M').Sublist (ids M) := by
  have e : ids M' = (ids M).filter (mb M') := by
    unfold ids
    rw [List.filter_filter]
    apply List.filter_congr
    intro i hi
    have hi' : i < 10 := by simpa using hi
    cases h1 : mb M' i with
    | false => simp
    | true => simp [h i hi' h1]
  rw [e]
  exact List.filter_sublist
/-- A member that is not expelled stays. -/
theorem take_stays {M M' : Int} (h : ∀ i, i < 10 → mb M' i = true → mb M i = true) (s i : Nat) (hi : i ∈ (ids M).take s) (hm : mb M' i = true) : i ∈ (ids M').take s := by
  rw [List.mem_take_iff_getElem] at hi
  obtain ⟨p, hp, rfl⟩ := hi
  have hp' : p < (ids M).length := by omega
  have h10 : (ids M)[p] < 10 := ((mem_ids M _).1 (List.getElem_mem hp')).1
  obtain ⟨p', hp1, e⟩ := List.mem_iff_getElem.1 ((mem_ids M' _).2 ⟨h10, hm⟩)
  have r1 := rank (ids M) (ids_sorted M) p hp'
  have r2 := rank (ids M') (ids_sorted M') p' hp1
  rw [e] at r2
  have := ((ids_sub_of h).filter (fun y => decide (y < (ids M)[p]))).length_le
  rw [List.mem_take_iff_getElem]
  exact ⟨p', by omega, e⟩
theorem take_full (M : Int) (s i : Nat) (hi : i ∈ ids M) (hn : i ∉ (ids M).take s) : s < (ids M).length ∧ ∀ h : s - 1 < (ids M).length, 0 < s → (ids M)[s - 1] < i := by
  obtain ⟨p, hp, e⟩ := List.mem_iff_getElem.1 hi
  have hps : s ≤ p := by
    by_cases h : p < s
    · exact absurd (List.mem_take_iff_getElem.2 ⟨p, by omega, e⟩) hn
    · omega
  refine ⟨by omega, fun h h0 => ?_⟩
  rw [← e]
  exact ids_lt M (s - 1) p (by omega) hp
theorem mb_low (m k : Int) (i : Nat) (hi : i < 64) : mb (lowest m k) i = decide (i ∈ (ids m).take k.toNat) := by unfold lowest; exact mb_ofIds _ i hi
theorem stays1 (v s g : Int) (hs : 0 ≤ s) : (size (select v s g) : Int) ≤ s := by
  unfold select; rw [size_low]; omega
theorem stays2 (v s g : Int) : bits .and .i64 (select v s g) g = 0 := by
  refine mb_ext (w64_and _ _) (by unfold W64; omega) fun i hi => ?_
  rw [mb_and, mb_zero]
  unfold select
  rw [mb_low _ _ i hi]
  by_cases h : i ∈ (ids (selMask v g)).take s.toNat
  · have := ((mem_ids _ i).1 (List.mem_of_mem_take h)).2
    rw [mb_sel v g i hi] at this
    simp at this
    simp [this.2]
  · simp [h]
theorem stays3 (v s g m : Int) : bits .andNot .i64 (bits .andNot .i64 (select v s g) m) (select v s (bits .or .i64 g m)) = 0 := by
  refine mb_ext (w64_andNot _ _) (by unfold W64; omega) fun i hi => ?_
  rw [mb_andNot, mb_andNot, mb_zero]
  unfold select
  rw [mb_low _ _ i hi, mb_low _ _ i hi]
  by_cases h : i ∈ (ids (selMask v g)).take s.toNat
  · by_cases hm : mb m i = true
    · simp [hm]
    · have hM := ((mem_ids _ i).1 (List.mem_of_mem_take h)).2
      have hM' : mb (selMask v (bits .or .i64 g m)) i = true := by
        rw [mb_sel v _ i hi] at hM ⊢
        rw [mb_or]
        simp at hM hm ⊢
        exact ⟨hM.1, hM.2, hm⟩
      have := take_stays (M := selMask v g) (M' := selMask v (bits .or .i64 g m)) (fun j hj hb => by
        rw [mb_sel v _ j (by omega)] at hb ⊢
        rw [mb_or] at hb
        simp at hb ⊢
        exact ⟨hb.1, hb.2.1⟩) s.toNat i h hM'
      simp [this]
  · simp [h]
theorem stays4 (v s g : Int) (hv : v ≤ 10) (hs : 0 ≤ s) (i : Nat) (hi : (i : Int) < v) (h1 : hasB (select v s g) i = false) (h2 : hasB g i = false) :
    ((ids (select v s g)).length : Int) = s ∧ ∀ h : s.toNat - 1 < (ids (select v s g)).length, 0 < s → (ids (select v s g))[s.toNat - 1] < i := by
  have h10 : i < 10 := by omega
  rw [hasB_nat _ i h10] at h1 h2
  unfold select at *
  rw [mb_low _ _ i (by omega)] at h1
  have hM : i ∈ ids (selMask v g) := by
    rw [mem_ids, mb_sel v g i (by omega), h2]
    simp; omega
  obtain ⟨a, b⟩ := take_full (selMask v g) s.toNat i hM (by simpa using h1)
  have hl : (ids (lowest (selMask v g) s)).length = s.toNat := by rw [ids_low, List.length_take]; omega
  refine ⟨by omega, fun h h0 => ?_⟩
  have e : (ids (lowest (selMask v g) s))[s.toNat - 1] = (ids (selMask v g))[s.toNat - 1]'(by omega) := by
    have := ids_low (selMask v g) s
    simp only [this, List.getElem_take]
  rw [e]
  exact b (by omega) (by omega)
end Go.Proofs.Yteejjjlheacamaa
