/- The walks of CommitteeSelects, CommitteeQuorums, CommitteeSets. -/
import Derived.IntWalk
import Derived.Test.YthhgdkodhokefaaLaw6b
namespace Go.Proofs.Ythhgdkodhokefaa
open Go Go.RowKit
set_option linter.unusedVariables false

end Go.Proofs.Ythhgdkodhokefaa
