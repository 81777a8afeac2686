/- An argument that is a name: opened. -/
import Derived.Test.YthhgdkodhokefaaOpen
namespace Go.Proofs.Ythhgdkodhokefaa
open Go Go.RowKit Go.ChangeShapes Go.WideShapes Go.Deep
set_option linter.unusedVariables false
section
variable {H : Type} {enc : TypeId × Value → H} {w : World} {base : Nat} {spare : Nat → Bool} {held : Bool}
set_option maxRecDepth 100000 in
theorem open_N {v : Value} {r : Reach} {b0 : Nat} {d : DataW H} {p : List MemPlace} (hv : Value.okWide Try.prog w r b0 24 v) (h : DataW.Trod enc Try.prog w base spare held 24 v d p) : ∃ x : Nm, v = .agg x.cs := by
  simp only [Value.okWide, nm_under] at hv
  obtain ⟨cs, rfl, _⟩ := hv
  obtain ⟨fuel, hf⟩ := h
  obtain ⟨x, he⟩ := nm_of hf
  refine ⟨x, ?_⟩
  congr 1
  have : cs.toList = x.cs.toList := he
  exact Array.toList_inj.1 this
end
end Go.Proofs.Ythhgdkodhokefaa
