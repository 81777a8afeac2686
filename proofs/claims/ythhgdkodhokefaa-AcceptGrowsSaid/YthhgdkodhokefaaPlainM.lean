/- Plain facts on sets and quorums. -/
import Derived.Test.YthhgdkodhokefaaLaw11r
namespace Go.Proofs.Ythhgdkodhokefaa
open Go Go.RowKit
set_option linter.unusedVariables false
theorem size_mono {x y : Int} (h : ∀ i, i < 10 → mb x i = true → mb y i = true) : size x ≤ size y := by
  have e : ids x = (ids y).filter (mb x) := by
    unfold ids
    rw [List.filter_filter]
    refine List.filter_congr fun i hi => ?_
    have hi' : i < 10 := by simpa using hi
    cases hc : mb x i with
    | false => rfl
    | true => rw [h i hi' hc]; rfl
  unfold size
  rw [e]
  exact List.length_filter_le _ _
theorem meet3 {c a b x : Int} (h1 : ∀ i, i < 10 → mb a i = true → mb c i = true) (h2 : ∀ i, i < 10 → mb b i = true → mb c i = true) (h3 : ∀ i, i < 10 → mb a i = true → mb b i = true → mb x i = true) : size a + size b ≤ size x + size c := by
  have key : ∀ l : List Nat, (∀ i ∈ l, i < 10) → (l.filter (mb a)).length + (l.filter (mb b)).length ≤ (l.filter (mb x)).length + (l.filter (mb c)).length := by
    intro l
    induction l with
    | nil => intro _; simp
    | cons i l ih =>
      intro hl
      have hi := hl i (by simp)
      have ih' := ih (fun k hk => hl k (by simp [hk]))
      have g1 := h1 i hi
      have g2 := h2 i hi
      have g3 := h3 i hi
      simp only [List.filter_cons]
      cases ha : mb a i <;> cases hb : mb b i <;> cases hc : mb c i <;> cases hx : mb x i <;> simp_all <;> omega
  exact key (List.range 10) (fun i hi => by simpa using hi)
theorem third_le (n : Nat) : third (n : Int) ≤ 2 * quorum (n : Int) - (n : Int) := by unfold third quorum; split <;> omega
theorem quorum_bd (n : Nat) (h : n ≤ 10) : 0 ≤ quorum (n : Int) ∧ quorum (n : Int) ≤ 10 := by unfold quorum; split <;> omega
theorem allow_prev {m : Int} {v : Vt} {a : List Vt} (h : allowB m v a = true) (hk : v.kind = 3) : validB v = true ∧ prevB m (quorum (size m)) (a.filter (cntB m v)) v = true := by
  unfold allowB judB okB at h
  simp [hk] at h
  exact ⟨h.1.1.1, h.2⟩
theorem allow_prec {m : Int} {v : Vt} {a : List Vt} (h : allowB m v a = true) (hk : v.kind = 4) : validB v = true ∧ precB m (quorum (size m)) (a.filter (cntB m v)) v = true := by
  unfold allowB judB okB at h
  simp [hk] at h
  exact ⟨h.1.1.1, h.2⟩
end Go.Proofs.Ythhgdkodhokefaa
