/-
  No cell of these rows narrows 'for every input' (looked for: loops, veiled, ifaces, maps, wideKeys, modest, calm, conditions, laid).
  DERIVED. THE GIVEN ROWS OF THIS SEAT. 12 by the template 'for every input the law returns true; each argument reads behind the call as it read before'; 0 by the template 'total and deterministic' (their statements: YteejjjlheacamaaTotals.lean).
  GIVEN WITH THE SEED: the statements are not yours to turn. If you find one false, say at which input.
  Laid BY PROGRAM, IN A SANDBOX (cutbox-rows.mjs): the forced cells as the released guide's own fill.sh prints them over the translation 469a392b2cd69cad… (all of the seat's roots in one cut). By AI agents, Wed Nov 11 2026. No macro, syntax, notation, axiom, sorry.
-/
import Derived.Test.YteejjjlheacamaaChecked
import GoSem.Claim
import GoSem.ClaimJoined
import GoSem.ClaimMapViews
import Derived.JoinedTies
import Derived.KernelRfl
namespace Go.Proofs.Yteejjjlheacamaa
/- THE CELL 'sum', in the pinned program and in every row, IS THE sha256 OF THE DUMP (.gsa) THAT YteejjjlheacamaaProg.lean LOADS. Nothing in Lean hashes anything: it is a label: what it is worth is what the hold of that sum in a sandbox is worth. -/
noncomputable def Try.pinned : Pinned := { name := "yteejjjlheacamaa", sum := "469a392b2cd69cada6b62d450ed105e28abf32af2aa038eea4b6c8e4da2c8a21", checked := Try.checked }
namespace Rows
def none {H : Type} : Left H := { results := [], args := [] }

/-- 'forkledgerlaw6.CommitteeNumbers': WHATEVER THE INPUT: true; the input reads as it did. -/
def committeeNumbersSpec : ChangeSpec := { name := "committeeNumbers", fn := fun _ => fun
  | [d] => { results := [.lit (.bool true)], args := [d] }
  | _ => none }
def committeeNumbersRow : OpenClaim := { program := "yteejjjlheacamaa", sum := "469a392b2cd69cada6b62d450ed105e28abf32af2aa038eea4b6c8e4da2c8a21", func := "forkledger/forkledgerlaw6.CommitteeNumbers", spec := "committeeNumbers", unfollowed := true, recurses := true, apart := false }
def CommitteeNumbersSaid : Prop := committeeNumbersRow.holds Try.pinned (OpenSpec.ofChange committeeNumbersSpec)

/-- ITS FALSE NEIGHBOUR: 'it returns false'. Refute it at one input. -/
def committeeNumbersWrong : ChangeSpec := { name := "committeeNumbers", fn := fun _ => fun
  | [d] => { results := [.lit (.bool false)], args := [d] }
  | _ => none }
def CommitteeNumbersWrongFalsely : Prop := committeeNumbersRow.holds Try.pinned (OpenSpec.ofChange committeeNumbersWrong)

/-- 'forkledgerlaw6.CommitteeSelects': WHATEVER THE INPUT: true; the input reads as it did. -/
def committeeSelectsSpec : ChangeSpec := { name := "committeeSelects", fn := fun _ => fun
  | [d1, d2, d3] => { results := [.lit (.bool true)], args := [d1, d2, d3] }
  | _ => none }
def committeeSelectsRow : OpenClaim := { program := "yteejjjlheacamaa", sum := "469a392b2cd69cada6b62d450ed105e28abf32af2aa038eea4b6c8e4da2c8a21", func := "forkledger/forkledgerlaw6.CommitteeSelects", spec := "committeeSelects", unfollowed := true, recurses := true, apart := false }
def CommitteeSelectsSaid : Prop := committeeSelectsRow.holds Try.pinned (OpenSpec.ofChange committeeSelectsSpec)

/-- ITS FALSE NEIGHBOUR: 'it returns false'. Refute it at one input. -/
def committeeSelectsWrong : ChangeSpec := { name := "committeeSelects", fn := fun _ => fun
  | [d1, d2, d3] => { results := [.lit (.bool false)], args := [d1, d2, d3] }
  | _ => none }
def CommitteeSelectsWrongFalsely : Prop := committeeSelectsRow.holds Try.pinned (OpenSpec.ofChange committeeSelectsWrong)

/-- 'forkledgerlaw6.CommitteeQuorums': WHATEVER THE INPUT: true; the input reads as it did. -/
def committeeQuorumsSpec : ChangeSpec := { name := "committeeQuorums", fn := fun _ => fun
  | [d1, d2] => { results := [.lit (.bool true)], args := [d1, d2] }
  | _ => none }
def committeeQuorumsRow : OpenClaim := { program := "yteejjjlheacamaa", sum := "469a392b2cd69cada6b62d450ed105e28abf32af2aa038eea4b6c8e4da2c8a21", func := "forkledger/forkledgerlaw6.CommitteeQuorums", spec := "committeeQuorums", unfollowed := true, recurses := true, apart := false }
def CommitteeQuorumsSaid : Prop := committeeQuorumsRow.holds Try.pinned (OpenSpec.ofChange committeeQuorumsSpec)

/-- ITS FALSE NEIGHBOUR: 'it returns false'. Refute it at one input. -/
def committeeQuorumsWrong : ChangeSpec := { name := "committeeQuorums", fn := fun _ => fun
  | [d1, d2] => { results := [.lit (.bool false)], args := [d1, d2] }
  | _ => none }
def CommitteeQuorumsWrongFalsely : Prop := committeeQuorumsRow.holds Try.pinned (OpenSpec.ofChange committeeQuorumsWrong)

/-- 'forkledgerlaw6.CommitteeMeets': WHATEVER THE INPUT: true; the input reads as it did. -/
def committeeMeetsSpec : ChangeSpec := { name := "committeeMeets", fn := fun _ => fun
  | [d1, d2, d3] => { results := [.lit (.bool true)], args := [d1, d2, d3] }
  | _ => none }
def committeeMeetsRow : OpenClaim := { program := "yteejjjlheacamaa", sum := "469a392b2cd69cada6b62d450ed105e28abf32af2aa038eea4b6c8e4da2c8a21", func := "forkledger/forkledgerlaw6.CommitteeMeets", spec := "committeeMeets", unfollowed := true, recurses := true, apart := false }
def CommitteeMeetsSaid : Prop := committeeMeetsRow.holds Try.pinned (OpenSpec.ofChange committeeMeetsSpec)

/-- ITS FALSE NEIGHBOUR: 'it returns false'. Refute it at one input. -/
def committeeMeetsWrong : ChangeSpec := { name := "committeeMeets", fn := fun _ => fun
  | [d1, d2, d3] => { results := [.lit (.bool false)], args := [d1, d2, d3] }
  | _ => none }
def CommitteeMeetsWrongFalsely : Prop := committeeMeetsRow.holds Try.pinned (OpenSpec.ofChange committeeMeetsWrong)

/-- 'forkledgerlaw6.CommitteeSets': WHATEVER THE INPUT: true; the input reads as it did. -/
def committeeSetsSpec : ChangeSpec := { name := "committeeSets", fn := fun _ => fun
  | [d1, d2, d3] => { results := [.lit (.bool true)], args := [d1, d2, d3] }
  | _ => none }
def committeeSetsRow : OpenClaim := { program := "yteejjjlheacamaa", sum := "469a392b2cd69cada6b62d450ed105e28abf32af2aa038eea4b6c8e4da2c8a21", func := "forkledger/forkledgerlaw6.CommitteeSets", spec := "committeeSets", unfollowed := true, recurses := true, apart := false }
def CommitteeSetsSaid : Prop := committeeSetsRow.holds Try.pinned (OpenSpec.ofChange committeeSetsSpec)

/-- ITS FALSE NEIGHBOUR: 'it returns false'. Refute it at one input. -/
def committeeSetsWrong : ChangeSpec := { name := "committeeSets", fn := fun _ => fun
  | [d1, d2, d3] => { results := [.lit (.bool false)], args := [d1, d2, d3] }
  | _ => none }
def CommitteeSetsWrongFalsely : Prop := committeeSetsRow.holds Try.pinned (OpenSpec.ofChange committeeSetsWrong)

/-- 'forkledgerlaw6.CommitteeStays': WHATEVER THE INPUT: true; the input reads as it did. -/
def committeeStaysSpec : ChangeSpec := { name := "committeeStays", fn := fun _ => fun
  | [d1, d2, d3, d4] => { results := [.lit (.bool true)], args := [d1, d2, d3, d4] }
  | _ => none }
def committeeStaysRow : OpenClaim := { program := "yteejjjlheacamaa", sum := "469a392b2cd69cada6b62d450ed105e28abf32af2aa038eea4b6c8e4da2c8a21", func := "forkledger/forkledgerlaw6.CommitteeStays", spec := "committeeStays", unfollowed := true, recurses := true, apart := false }
def CommitteeStaysSaid : Prop := committeeStaysRow.holds Try.pinned (OpenSpec.ofChange committeeStaysSpec)

/-- ITS FALSE NEIGHBOUR: 'it returns false'. Refute it at one input. -/
def committeeStaysWrong : ChangeSpec := { name := "committeeStays", fn := fun _ => fun
  | [d1, d2, d3, d4] => { results := [.lit (.bool false)], args := [d1, d2, d3, d4] }
  | _ => none }
def CommitteeStaysWrongFalsely : Prop := committeeStaysRow.holds Try.pinned (OpenSpec.ofChange committeeStaysWrong)

/-- 'forkledgerlaw6.CommitteeLowest': WHATEVER THE INPUT: true; the input reads as it did. -/
def committeeLowestSpec : ChangeSpec := { name := "committeeLowest", fn := fun _ => fun
  | [d1, d2] => { results := [.lit (.bool true)], args := [d1, d2] }
  | _ => none }
def committeeLowestRow : OpenClaim := { program := "yteejjjlheacamaa", sum := "469a392b2cd69cada6b62d450ed105e28abf32af2aa038eea4b6c8e4da2c8a21", func := "forkledger/forkledgerlaw6.CommitteeLowest", spec := "committeeLowest", unfollowed := true, recurses := true, apart := false }
def CommitteeLowestSaid : Prop := committeeLowestRow.holds Try.pinned (OpenSpec.ofChange committeeLowestSpec)

/-- ITS FALSE NEIGHBOUR: 'it returns false'. Refute it at one input. -/
def committeeLowestWrong : ChangeSpec := { name := "committeeLowest", fn := fun _ => fun
  | [d1, d2] => { results := [.lit (.bool false)], args := [d1, d2] }
  | _ => none }
def CommitteeLowestWrongFalsely : Prop := committeeLowestRow.holds Try.pinned (OpenSpec.ofChange committeeLowestWrong)

/-- 'forkledgerlaw11.JustifyAllows': WHATEVER THE INPUT: true; the input reads as it did. -/
def justifyAllowsSpec : ChangeSpec := { name := "justifyAllows", fn := fun _ => fun
  | [d1, d2, d3] => { results := [.lit (.bool true)], args := [d1, d2, d3] }
  | _ => none }
def justifyAllowsRow : OpenClaim := { program := "yteejjjlheacamaa", sum := "469a392b2cd69cada6b62d450ed105e28abf32af2aa038eea4b6c8e4da2c8a21", func := "forkledger/forkledgerlaw11.JustifyAllows", spec := "justifyAllows", unfollowed := true, recurses := true, apart := false }
def JustifyAllowsSaid : Prop := justifyAllowsRow.holds Try.pinned (OpenSpec.ofChange justifyAllowsSpec)

/-- ITS FALSE NEIGHBOUR: 'it returns false'. Refute it at one input. -/
def justifyAllowsWrong : ChangeSpec := { name := "justifyAllows", fn := fun _ => fun
  | [d1, d2, d3] => { results := [.lit (.bool false)], args := [d1, d2, d3] }
  | _ => none }
def JustifyAllowsWrongFalsely : Prop := justifyAllowsRow.holds Try.pinned (OpenSpec.ofChange justifyAllowsWrong)

/-- 'forkledgerlaw11.JustifyEach': WHATEVER THE INPUT: true; the input reads as it did. -/
def justifyEachSpec : ChangeSpec := { name := "justifyEach", fn := fun _ => fun
  | [d1, d2] => { results := [.lit (.bool true)], args := [d1, d2] }
  | _ => none }
def justifyEachRow : OpenClaim := { program := "yteejjjlheacamaa", sum := "469a392b2cd69cada6b62d450ed105e28abf32af2aa038eea4b6c8e4da2c8a21", func := "forkledger/forkledgerlaw11.JustifyEach", spec := "justifyEach", unfollowed := true, recurses := true, apart := false }
def JustifyEachSaid : Prop := justifyEachRow.holds Try.pinned (OpenSpec.ofChange justifyEachSpec)

/-- ITS FALSE NEIGHBOUR: 'it returns false'. Refute it at one input. -/
def justifyEachWrong : ChangeSpec := { name := "justifyEach", fn := fun _ => fun
  | [d1, d2] => { results := [.lit (.bool false)], args := [d1, d2] }
  | _ => none }
def JustifyEachWrongFalsely : Prop := justifyEachRow.holds Try.pinned (OpenSpec.ofChange justifyEachWrong)

/-- 'forkledgerlaw11.JustifyGrows': WHATEVER THE INPUT: true; the input reads as it did. -/
def justifyGrowsSpec : ChangeSpec := { name := "justifyGrows", fn := fun _ => fun
  | [d1, d2, d3, d4] => { results := [.lit (.bool true)], args := [d1, d2, d3, d4] }
  | _ => none }
def justifyGrowsRow : OpenClaim := { program := "yteejjjlheacamaa", sum := "469a392b2cd69cada6b62d450ed105e28abf32af2aa038eea4b6c8e4da2c8a21", func := "forkledger/forkledgerlaw11.JustifyGrows", spec := "justifyGrows", unfollowed := true, recurses := true, apart := false }
def JustifyGrowsSaid : Prop := justifyGrowsRow.holds Try.pinned (OpenSpec.ofChange justifyGrowsSpec)

/-- ITS FALSE NEIGHBOUR: 'it returns false'. Refute it at one input. -/
def justifyGrowsWrong : ChangeSpec := { name := "justifyGrows", fn := fun _ => fun
  | [d1, d2, d3, d4] => { results := [.lit (.bool false)], args := [d1, d2, d3, d4] }
  | _ => none }
def JustifyGrowsWrongFalsely : Prop := justifyGrowsRow.holds Try.pinned (OpenSpec.ofChange justifyGrowsWrong)

/-- 'forkledgerlaw11.JustifyOutside': WHATEVER THE INPUT: true; the input reads as it did. -/
def justifyOutsideSpec : ChangeSpec := { name := "justifyOutside", fn := fun _ => fun
  | [d1, d2, d3] => { results := [.lit (.bool true)], args := [d1, d2, d3] }
  | _ => none }
def justifyOutsideRow : OpenClaim := { program := "yteejjjlheacamaa", sum := "469a392b2cd69cada6b62d450ed105e28abf32af2aa038eea4b6c8e4da2c8a21", func := "forkledger/forkledgerlaw11.JustifyOutside", spec := "justifyOutside", unfollowed := true, recurses := true, apart := false }
def JustifyOutsideSaid : Prop := justifyOutsideRow.holds Try.pinned (OpenSpec.ofChange justifyOutsideSpec)

/-- ITS FALSE NEIGHBOUR: 'it returns false'. Refute it at one input. -/
def justifyOutsideWrong : ChangeSpec := { name := "justifyOutside", fn := fun _ => fun
  | [d1, d2, d3] => { results := [.lit (.bool false)], args := [d1, d2, d3] }
  | _ => none }
def JustifyOutsideWrongFalsely : Prop := justifyOutsideRow.holds Try.pinned (OpenSpec.ofChange justifyOutsideWrong)

/-- 'forkledgerlaw11.JustifyBackers': WHATEVER THE INPUT: true; the input reads as it did. -/
def justifyBackersSpec : ChangeSpec := { name := "justifyBackers", fn := fun _ => fun
  | [d1, d2, d3] => { results := [.lit (.bool true)], args := [d1, d2, d3] }
  | _ => none }
def justifyBackersRow : OpenClaim := { program := "yteejjjlheacamaa", sum := "469a392b2cd69cada6b62d450ed105e28abf32af2aa038eea4b6c8e4da2c8a21", func := "forkledger/forkledgerlaw11.JustifyBackers", spec := "justifyBackers", unfollowed := true, recurses := true, apart := false }
def JustifyBackersSaid : Prop := justifyBackersRow.holds Try.pinned (OpenSpec.ofChange justifyBackersSpec)

/-- ITS FALSE NEIGHBOUR: 'it returns false'. Refute it at one input. -/
def justifyBackersWrong : ChangeSpec := { name := "justifyBackers", fn := fun _ => fun
  | [d1, d2, d3] => { results := [.lit (.bool false)], args := [d1, d2, d3] }
  | _ => none }
def JustifyBackersWrongFalsely : Prop := justifyBackersRow.holds Try.pinned (OpenSpec.ofChange justifyBackersWrong)

/- THE SECOND FORM. 'bulk': how many values and letters a reading holds, each counted each time it is reached (what is shared counts as often as it is met; a slice's spare places count too). A statement '..UptoSaid' is the law's where the arguments, and the package variables that the reading takes, are together of bulk at most 1048576: NARROWER than '..Said'. Prove '..Said' where nothing that the law and all that it calls make is longer than what came in: it says more and counts as full. Else prove '..UptoSaid'. A law counts once. -/
mutual
def uptoBulk {H : Type} : DataW H → Nat
  | .lit (.string bytes) => bytes.length + 1
  | .lit _ => 1
  | .nil => 1
  | .ptr d => uptoBulk d + 1
  | .slice elems spare => uptoBulkAll elems + uptoBulkAll spare + 1
  | .agg parts => uptoBulkAll parts + 1
  | .iface _ d => uptoBulk d + 1
  | .map entries => uptoBulkEntries entries + 1
  | .held _ => 1
def uptoBulkAll {H : Type} : List (DataW H) → Nat
  | [] => 0
  | d :: r => uptoBulk d + uptoBulkAll r
def uptoBulkEntries {H : Type} : List (Lit × DataW H) → Nat
  | [] => 0
  | x :: r => uptoBulkEntry x + uptoBulkEntries r
def uptoBulkEntry {H : Type} : Lit × DataW H → Nat
  | (.string bytes, d) => bytes.length + uptoBulk d + 1
  | (_, d) => uptoBulk d + 1
 end
def uptoSmall : (H : Type) → List (DataW H) → Bool := fun _ ds => decide (uptoBulkAll ds ≤ 1048576)
def OpenSpec.upto (s : _root_.Go.ChangeSpec) : _root_.Go.OpenSpec := { _root_.Go.OpenSpec.ofChange s with cond := some uptoSmall }

/-- 'forkledgerlaw6.CommitteeNumbers', WHERE WHAT IT READS IS OF BULK AT MOST 1048576: true; the input reads as it did. -/
def committeeNumbersUptoRow : OpenClaim := { program := "yteejjjlheacamaa", sum := "469a392b2cd69cada6b62d450ed105e28abf32af2aa038eea4b6c8e4da2c8a21", func := "forkledger/forkledgerlaw6.CommitteeNumbers", spec := "committeeNumbers", unfollowed := true, recurses := true, apart := false, narrowed := true }
def CommitteeNumbersUptoSaid : Prop := committeeNumbersUptoRow.holds Try.pinned (OpenSpec.upto committeeNumbersSpec)

/-- 'forkledgerlaw6.CommitteeSelects', WHERE WHAT IT READS IS OF BULK AT MOST 1048576: true; the input reads as it did. -/
def committeeSelectsUptoRow : OpenClaim := { program := "yteejjjlheacamaa", sum := "469a392b2cd69cada6b62d450ed105e28abf32af2aa038eea4b6c8e4da2c8a21", func := "forkledger/forkledgerlaw6.CommitteeSelects", spec := "committeeSelects", unfollowed := true, recurses := true, apart := false, narrowed := true }
def CommitteeSelectsUptoSaid : Prop := committeeSelectsUptoRow.holds Try.pinned (OpenSpec.upto committeeSelectsSpec)

/-- 'forkledgerlaw6.CommitteeQuorums', WHERE WHAT IT READS IS OF BULK AT MOST 1048576: true; the input reads as it did. -/
def committeeQuorumsUptoRow : OpenClaim := { program := "yteejjjlheacamaa", sum := "469a392b2cd69cada6b62d450ed105e28abf32af2aa038eea4b6c8e4da2c8a21", func := "forkledger/forkledgerlaw6.CommitteeQuorums", spec := "committeeQuorums", unfollowed := true, recurses := true, apart := false, narrowed := true }
def CommitteeQuorumsUptoSaid : Prop := committeeQuorumsUptoRow.holds Try.pinned (OpenSpec.upto committeeQuorumsSpec)

/-- 'forkledgerlaw6.CommitteeMeets', WHERE WHAT IT READS IS OF BULK AT MOST 1048576: true; the input reads as it did. -/
def committeeMeetsUptoRow : OpenClaim := { program := "yteejjjlheacamaa", sum := "469a392b2cd69cada6b62d450ed105e28abf32af2aa038eea4b6c8e4da2c8a21", func := "forkledger/forkledgerlaw6.CommitteeMeets", spec := "committeeMeets", unfollowed := true, recurses := true, apart := false, narrowed := true }
def CommitteeMeetsUptoSaid : Prop := committeeMeetsUptoRow.holds Try.pinned (OpenSpec.upto committeeMeetsSpec)

/-- 'forkledgerlaw6.CommitteeSets', WHERE WHAT IT READS IS OF BULK AT MOST 1048576: true; the input reads as it did. -/
def committeeSetsUptoRow : OpenClaim := { program := "yteejjjlheacamaa", sum := "469a392b2cd69cada6b62d450ed105e28abf32af2aa038eea4b6c8e4da2c8a21", func := "forkledger/forkledgerlaw6.CommitteeSets", spec := "committeeSets", unfollowed := true, recurses := true, apart := false, narrowed := true }
def CommitteeSetsUptoSaid : Prop := committeeSetsUptoRow.holds Try.pinned (OpenSpec.upto committeeSetsSpec)

/-- 'forkledgerlaw6.CommitteeStays', WHERE WHAT IT READS IS OF BULK AT MOST 1048576: true; the input reads as it did. -/
def committeeStaysUptoRow : OpenClaim := { program := "yteejjjlheacamaa", sum := "469a392b2cd69cada6b62d450ed105e28abf32af2aa038eea4b6c8e4da2c8a21", func := "forkledger/forkledgerlaw6.CommitteeStays", spec := "committeeStays", unfollowed := true, recurses := true, apart := false, narrowed := true }
def CommitteeStaysUptoSaid : Prop := committeeStaysUptoRow.holds Try.pinned (OpenSpec.upto committeeStaysSpec)

/-- 'forkledgerlaw6.CommitteeLowest', WHERE WHAT IT READS IS OF BULK AT MOST 1048576: true; the input reads as it did. -/
def committeeLowestUptoRow : OpenClaim := { program := "yteejjjlheacamaa", sum := "469a392b2cd69cada6b62d450ed105e28abf32af2aa038eea4b6c8e4da2c8a21", func := "forkledger/forkledgerlaw6.CommitteeLowest", spec := "committeeLowest", unfollowed := true, recurses := true, apart := false, narrowed := true }
def CommitteeLowestUptoSaid : Prop := committeeLowestUptoRow.holds Try.pinned (OpenSpec.upto committeeLowestSpec)

/-- 'forkledgerlaw11.JustifyAllows', WHERE WHAT IT READS IS OF BULK AT MOST 1048576: true; the input reads as it did. -/
def justifyAllowsUptoRow : OpenClaim := { program := "yteejjjlheacamaa", sum := "469a392b2cd69cada6b62d450ed105e28abf32af2aa038eea4b6c8e4da2c8a21", func := "forkledger/forkledgerlaw11.JustifyAllows", spec := "justifyAllows", unfollowed := true, recurses := true, apart := false, narrowed := true }
def JustifyAllowsUptoSaid : Prop := justifyAllowsUptoRow.holds Try.pinned (OpenSpec.upto justifyAllowsSpec)

/-- 'forkledgerlaw11.JustifyEach', WHERE WHAT IT READS IS OF BULK AT MOST 1048576: true; the input reads as it did. -/
def justifyEachUptoRow : OpenClaim := { program := "yteejjjlheacamaa", sum := "469a392b2cd69cada6b62d450ed105e28abf32af2aa038eea4b6c8e4da2c8a21", func := "forkledger/forkledgerlaw11.JustifyEach", spec := "justifyEach", unfollowed := true, recurses := true, apart := false, narrowed := true }
def JustifyEachUptoSaid : Prop := justifyEachUptoRow.holds Try.pinned (OpenSpec.upto justifyEachSpec)

/-- 'forkledgerlaw11.JustifyGrows', WHERE WHAT IT READS IS OF BULK AT MOST 1048576: true; the input reads as it did. -/
def justifyGrowsUptoRow : OpenClaim := { program := "yteejjjlheacamaa", sum := "469a392b2cd69cada6b62d450ed105e28abf32af2aa038eea4b6c8e4da2c8a21", func := "forkledger/forkledgerlaw11.JustifyGrows", spec := "justifyGrows", unfollowed := true, recurses := true, apart := false, narrowed := true }
def JustifyGrowsUptoSaid : Prop := justifyGrowsUptoRow.holds Try.pinned (OpenSpec.upto justifyGrowsSpec)

/-- 'forkledgerlaw11.JustifyOutside', WHERE WHAT IT READS IS OF BULK AT MOST 1048576: true; the input reads as it did. -/
def justifyOutsideUptoRow : OpenClaim := { program := "yteejjjlheacamaa", sum := "469a392b2cd69cada6b62d450ed105e28abf32af2aa038eea4b6c8e4da2c8a21", func := "forkledger/forkledgerlaw11.JustifyOutside", spec := "justifyOutside", unfollowed := true, recurses := true, apart := false, narrowed := true }
def JustifyOutsideUptoSaid : Prop := justifyOutsideUptoRow.holds Try.pinned (OpenSpec.upto justifyOutsideSpec)

/-- 'forkledgerlaw11.JustifyBackers', WHERE WHAT IT READS IS OF BULK AT MOST 1048576: true; the input reads as it did. -/
def justifyBackersUptoRow : OpenClaim := { program := "yteejjjlheacamaa", sum := "469a392b2cd69cada6b62d450ed105e28abf32af2aa038eea4b6c8e4da2c8a21", func := "forkledger/forkledgerlaw11.JustifyBackers", spec := "justifyBackers", unfollowed := true, recurses := true, apart := false, narrowed := true }
def JustifyBackersUptoSaid : Prop := justifyBackersUptoRow.holds Try.pinned (OpenSpec.upto justifyBackersSpec)

end Rows
end Go.Proofs.Yteejjjlheacamaa
