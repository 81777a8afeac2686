/- Sorted lists: what is sorted and has the same elements is the same. No program in sight. -/
import Derived.Test.YthhgdkodhokefaaMapT
namespace Go.Proofs.Ythhgdkodhokefaa
open Go Go.RowKit
set_option linter.unusedVariables false
section
variable {α : Type} (lt : α → α → Bool)
def insS (x : α) : List α → List α
  | [] => [x]
  | y :: r => if lt y x then y :: insS x r else x :: y :: r
def isort (l : List α) : List α := l.foldr (insS lt) []
theorem insS_perm (x : α) : ∀ r : List α, (insS lt x r).Perm (x :: r)
  | [] => List.Perm.refl _
  | y :: r => by
    unfold insS
    split
    · exact ((insS_perm x r).cons y).trans (List.Perm.swap x y r)
    · exact List.Perm.refl _
theorem isort_perm : ∀ l : List α, (isort lt l).Perm l
  | [] => List.Perm.refl _
  | x :: l => (insS_perm lt x (isort lt l)).trans ((isort_perm l).cons x)
/-- No later one is less than an earlier one. -/
def Up (l : List α) : Prop := l.Pairwise fun x y => lt y x = false
variable {lt}
theorem insS_up (hirr : ∀ x, lt x x = false) (htr : ∀ x y z, lt x y = false → lt y z = false → lt x z = false) (has : ∀ x y, lt x y = true → lt y x = false) (x : α) : ∀ r : List α, Up lt r → Up lt (insS lt x r)
  | [], _ => by simp [insS, Up]
  | y :: r, h => by
    have h' := h
    unfold Up at h
    rw [List.pairwise_cons] at h
    unfold insS
    split
    · rename_i hx
      refine List.pairwise_cons.2 ⟨fun z hz => ?_, insS_up hirr htr has x r h.2⟩
      have := (insS_perm lt x r).subset hz
      rcases List.mem_cons.1 this with rfl | hz
      · exact has _ _ hx
      · exact h.1 z hz
    · rename_i hx
      have hx' : lt y x = false := by simpa using hx
      refine List.pairwise_cons.2 ⟨fun z hz => ?_, h'⟩
      rcases List.mem_cons.1 hz with rfl | hz
      · exact hx'
      · exact htr _ _ _ (h.1 z hz) hx'
theorem isort_up (hirr : ∀ x, lt x x = false) (htr : ∀ x y z, lt x y = false → lt y z = false → lt x z = false) (has : ∀ x y, lt x y = true → lt y x = false) : ∀ l : List α, Up lt (isort lt l)
  | [] => by simp [isort, Up]
  | x :: l => insS_up hirr htr has x _ (isort_up hirr htr has l)
theorem up_ext : ∀ {a b : List α}, Up lt a → Up lt b → a.Perm b → (∀ x ∈ a, ∀ y ∈ a, lt x y = false → lt y x = false → x = y) → a = b
  | [], b, _, _, hp, _ => (List.nil_perm.1 hp).symm
  | x :: a, [], _, _, hp, _ => absurd hp.length_eq (by simp)
  | x :: a, y :: b, ha, hb, hp, ht => by
    unfold Up at ha hb
    rw [List.pairwise_cons] at ha hb
    have hxy : x = y := by
      have hy : y ∈ x :: a := hp.symm.subset (by simp)
      have hx : x ∈ y :: b := hp.subset (by simp)
      rcases List.mem_cons.1 hy with e | h1
      · exact e.symm
      · rcases List.mem_cons.1 hx with e | h2
        · exact e
        · exact ht x (by simp) y hy (hb.1 x h2) (ha.1 y h1)
    subst hxy
    rw [up_ext ha.2 hb.2 (List.Perm.cons_inv hp) (fun u hu v hv => ht u (by simp [hu]) v (by simp [hv]))]
end
end Go.Proofs.Ythhgdkodhokefaa
