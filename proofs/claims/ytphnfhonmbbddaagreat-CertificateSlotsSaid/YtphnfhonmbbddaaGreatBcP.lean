/- Plain facts on the proposal phase. -/
import Derived.Test.YtphnfhonmbbddaaGreatBc
import Derived.Test.YtphnfhonmbbddaaGreatGJ
namespace Go.Proofs.YtphnfhonmbbddaaGreat
open Go Go.RowKit
set_option linter.unusedVariables false


end Go.Proofs.YtphnfhonmbbddaaGreat
