/- The plain law of accountability. -/
import Derived.Test.YtphnfhonmbbddaaGreatAcctS
namespace Go.Proofs.YtphnfhonmbbddaaGreat
open Go Go.RowKit
set_option linter.unusedVariables false

/-- Members of a set of which each has votes in conflict in the two lists. -/
def Torn (m : Int) (p : Nm) (a b : List Vt) (X : Int) : Prop := ∀ i, i < 10 → mb X i = true → mb m i = true ∧ ∃ u ∈ a, ∃ z ∈ b, u.signer = (i : Int) ∧ z.signer = (i : Int) ∧ u.par = p ∧ confB u z = true
theorem Torn.mono {m : Int} {p : Nm} {a b a' b' : List Vt} {X : Int} (h : Torn m p a b X) (ha : ∀ u ∈ a, u ∈ a') (hb : ∀ u ∈ b, u ∈ b') : Torn m p a' b' X := fun i hi hm => by
  obtain ⟨g0, u, hu, z, hz, r⟩ := h i hi hm
  exact ⟨g0, u, ha u hu, z, hb z hz, r⟩
end Go.Proofs.YtphnfhonmbbddaaGreat
