/- Plain laws on Allowed: it grows with the list. -/
import Derived.Test.YthhgdkodhokefaaAllowed
namespace Go.Proofs.Ythhgdkodhokefaa
open Go Go.RowKit
set_option linter.unusedVariables false

theorem sameB_iff (a b : Vt) : sameB a b = true ↔ a.choice = b.choice ∧ a.val = b.val := by simp [sameB]
theorem unl_iff (ms : List Vt) : unl ms = true ↔ ∃ x ∈ ms, ∃ y ∈ ms, sameB x y = false := by
  cases ms with
  | nil => simp [unl]
  | cons u r =>
    constructor
    · intro h
      simp only [unl, List.any_eq_true, Bool.not_eq_true'] at h
      obtain ⟨y, hy, h⟩ := h
      exact ⟨u, by simp, y, by simp [hy], h⟩
    · rintro ⟨x, hx, y, hy, hxy⟩
      simp only [unl, List.any_eq_true, Bool.not_eq_true']
      by_cases h1 : sameB u x = true
      · by_cases h2 : sameB u y = true
        · exfalso
          rw [sameB_iff] at h1 h2
          have : sameB x y = true := by rw [sameB_iff]; exact ⟨h1.1.symm.trans h2.1, h1.2.symm.trans h2.2⟩
          rw [this] at hxy; cases hxy
        · rcases List.mem_cons.1 hy with rfl | hy'
          · exact absurd (sameB_self y) h2
          · exact ⟨y, hy', by simpa using h2⟩
      · rcases List.mem_cons.1 hx with rfl | hx'
        · exact absurd (sameB_self x) h1
        · exact ⟨x, hx', by simpa using h1⟩
theorem any_mono {l l' : List Vt} (h : ∀ u ∈ l, u ∈ l') (p : Vt → Bool) (ha : l.any p = true) : l'.any p = true := by
  rw [List.any_eq_true] at *
  obtain ⟨x, hx, hp⟩ := ha
  exact ⟨x, h x hx, hp⟩
theorem unl_mono {l l' : List Vt} (h : ∀ u ∈ l, u ∈ l') (ha : unl l = true) : unl l' = true := by
  rw [unl_iff] at *
  obtain ⟨x, hx, y, hy, e⟩ := ha
  exact ⟨x, h x hx, y, h y hy, e⟩
theorem filter_sub {l l' : List Vt} (h : ∀ u ∈ l, u ∈ l') (p : Vt → Bool) : ∀ u ∈ l.filter p, u ∈ l'.filter p := by
  intro u hu
  rw [List.mem_filter] at *
  exact ⟨h u hu.1, hu.2⟩
theorem supB_mono {m q : Int} {l l' : List Vt} (h : ∀ u ∈ l, u ∈ l') {v : Vt} {p : Vt → Bool} (hs : supB m q l v p = true) : supB m q l' v p = true := by
  unfold supB at *
  rw [Bool.and_eq_true] at *
  refine ⟨hs.1, ?_⟩
  rw [List.all_eq_true] at *
  intro i hi
  exact any_mono h _ (hs.2 i hi)
theorem prevB_mono {m q : Int} {l l' : List Vt} (h : ∀ u ∈ l, u ∈ l') {v : Vt} (hs : prevB m q l v = true) : prevB m q l' v = true := by
  unfold prevB at *
  split at hs
  · rename_i h1
    rw [if_pos h1]
    rw [Bool.or_eq_true] at *
    rcases hs with hs | hs
    · exact .inl hs
    · exact .inr (supB_mono h hs)
  · rename_i h1
    rw [if_neg h1]
    rw [Bool.or_eq_true, Bool.and_eq_true, Bool.and_eq_true] at *
    rcases hs with ⟨a, b⟩ | ⟨a, b⟩
    · exact .inl ⟨supB_mono h a, any_mono h _ b⟩
    · exact .inr ⟨supB_mono h a, any_mono h _ b⟩
theorem precB_mono {m q : Int} {l l' : List Vt} (h : ∀ u ∈ l, u ∈ l') {v : Vt} (hs : precB m q l v = true) : precB m q l' v = true := by
  unfold precB at *
  split at hs
  · rename_i h1
    rw [if_pos h1]
    exact supB_mono h hs
  · rename_i h1
    rw [if_neg h1]
    rw [Bool.and_eq_true] at *
    exact ⟨supB_mono h hs.1, unl_mono (filter_sub h _) hs.2⟩
theorem judB_mono {m q : Int} {l l' : List Vt} (h : ∀ u ∈ l, u ∈ l') {v : Vt} (hs : judB m q v l = true) : judB m q v l' = true := by
  unfold judB at *
  split at hs
  · rename_i h1; rw [if_pos h1]; exact hs
  · rename_i h1
    rw [if_neg h1]
    split at hs
    · rename_i h2; rw [if_pos h2]; exact any_mono h _ hs
    · rename_i h2
      rw [if_neg h2]
      split at hs
      · rename_i h3; rw [if_pos h3]; exact prevB_mono h hs
      · rename_i h3; rw [if_neg h3]; exact precB_mono h hs
/-- A vote that is allowed by a list is allowed by every list that contains it. -/
theorem allowB_mono {m : Int} {v : Vt} {a b : List Vt} (h : ∀ u ∈ a, u ∈ b) (hs : allowB m v a = true) : allowB m v b = true := by
  unfold allowB at *
  rw [Bool.and_eq_true] at *
  exact ⟨hs.1, judB_mono (filter_sub h _) hs.2⟩
end Go.Proofs.Ythhgdkodhokefaa
