/- Plain facts on votes that count, and on supports. -/
import Derived.Test.YthhgdkodhokefaaSd
import Derived.Test.YthhgdkodhokefaaLaw11p
namespace Go.Proofs.Ythhgdkodhokefaa
open Go Go.RowKit
set_option linter.unusedVariables false

theorem valid_kind2 {u : Vt} (h : validB u = true) (hk : u.kind = 1 ∨ u.kind = 2) : u.round = 0 := by
  unfold validB restB btw at h
  rcases hk with hk | hk <;> simp [hk] at h <;> omega
theorem valid_signer {u : Vt} (h : validB u = true) : 0 ≤ u.signer ∧ u.signer < 10 := by
  unfold validB btw at h
  simp at h
  omega
theorem cnt_valid {m : Int} {v u : Vt} (h : cntB m v u = true) : validB u = true := by
  unfold cntB at h; simp only [Bool.and_eq_true] at h; exact h.1.1.1.1
theorem cnt_has {m : Int} {v u : Vt} (h : cntB m v u = true) : hasB m u.signer = true := by
  unfold cntB at h; simp only [Bool.and_eq_true] at h; exact h.2
theorem sup_iff {m q : Int} {l : List Vt} {v : Vt} {p : Vt → Bool} : supB m q l v p = true ↔ bits .andNot .i64 v.support m = 0 ∧ (size v.support : Int) = q ∧ ∀ i, hasB v.support i = true → ∃ u ∈ l, u.signer = i ∧ p u = true := by
  unfold supB
  simp only [Bool.and_eq_true, Bool.not_eq_true', bne_eq_false_iff_eq, List.all_eq_true, List.any_eq_true, beq_iff_eq]
  constructor
  · rintro ⟨⟨h1, h2⟩, h3⟩
    refine ⟨h1, h2, fun i hi => ?_⟩
    rw [hasB_iff] at hi
    obtain ⟨k, rfl, hk⟩ := hi
    exact h3 k hk
  · rintro ⟨h1, h2, h3⟩
    exact ⟨⟨h1, h2⟩, fun k hk => h3 (k : Int) (by rw [hasB_iff]; exact ⟨k, rfl, hk⟩)⟩
theorem valid_sup {v : Vt} (h : validB v = true) : bits .andNot .i64 v.support 1023 = 0 := by
  unfold validB at h
  simp only [Bool.and_eq_true, Bool.not_eq_true', bne_eq_false_iff_eq] at h
  exact h.1.2
theorem bool_ext {a b : Bool} (h : a = true ↔ b = true) : a = b := by cases a <;> cases b <;> simp_all
end Go.Proofs.Ythhgdkodhokefaa
