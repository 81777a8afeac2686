/- Plain facts on the parts of what allows a vote. -/
import Derived.Test.YtphnfhonmbbddaaGreatAcct
import Derived.Test.YtphnfhonmbbddaaGreatRsP
namespace Go.Proofs.YtphnfhonmbbddaaGreat
open Go Go.RowKit
set_option linter.unusedVariables false

section
variable {m : Int} {v : Vt} {a : List Vt}
theorem prevB1 {q : Int} (h : v.round = 1) : prevB m q a v = ((v.choice == 0) || supB m q a v (peB v)) := by unfold prevB; simp [h]
theorem jud2 {q : Int} (h : v.kind = 2) : judB m q v a = propB v a := by unfold judB; simp [h]
theorem jud3 {q : Int} (h : v.kind = 3) : judB m q v a = prevB m q a v := by unfold judB; simp [h]
theorem jud4 {q : Int} (h : v.kind = 4) : judB m q v a = precB m q a v := by unfold judB; simp [h]
end
end Go.Proofs.YtphnfhonmbbddaaGreat
