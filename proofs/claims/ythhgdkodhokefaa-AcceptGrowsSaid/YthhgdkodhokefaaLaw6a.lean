/- The sanity check of the statements of layer 6. -/
import GoSem.Claim
import Derived.Test.YthhgdkodhokefaaComD
namespace Go.Proofs.Ythhgdkodhokefaa
open Go Go.RowKit
set_option linter.unusedVariables false

theorem w64_of {m : Int} (h : (Lit.int .i64 m).wf = true) : W64 m := by
  simp [Lit.wf, IntKind.min, IntKind.max, IntKind.signed, IntKind.bits] at h
  unfold W64
  omega
theorem w64_small (n : Int) (h : -1000000 ≤ n) (h' : n ≤ 1000000) : W64 n := by unfold W64; omega
end Go.Proofs.Ythhgdkodhokefaa
