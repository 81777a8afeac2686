/- Slices of numbers as arguments. -/
import Derived.Test.YtphnfhonmbbddaaOpenG
namespace Go.Proofs.Ytphnfhonmbbddaa
open Go Go.RowKit Go.ChangeShapes Go.WideShapes Go.Deep
set_option linter.unusedVariables false
section
variable {H : Type} {enc : TypeId × Value → H} {w : World} {base : Nat} {spare : Nat → Bool} {held : Bool} {fuel : Nat}
set_option maxRecDepth 100000 in
theorem int_of {cs : List Value} {x : DataW H × List MemPlace} (h : DataW.trod enc Try.prog w base spare held fuel 3 cs = some x) : ∃ v : Int, W64 v ∧ cs = (Cel.cs v).toList := by
  obtain ⟨n, a, _, hw⟩ := DataW.trod_int Try.underlying3 h
  exact ⟨n, w64_of hw, a⟩
set_option maxRecDepth 100000 in
theorem open_IS {v : Value} {r : Reach} {b0 : Nat} {d : DataW H} {p : List MemPlace} (hv : Value.okWide Try.prog w r b0 45 v) (h : DataW.Trod enc Try.prog w base (fun _ => true) held 45 v d p) : ∃ l : List Int, GS W64 w v l :=
  open_sl (α := Int) W64 Try.underlying45 cells_int int_of hv h
end
end Go.Proofs.Ytphnfhonmbbddaa
