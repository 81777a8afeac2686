/-
  No cell of these rows narrows 'for every input' (looked for: loops, veiled, ifaces, maps, wideKeys, modest, calm, conditions, laid).
  DERIVED. THE GIVEN ROWS OF THIS SEAT. 11 by the template 'for every input the law returns true; each argument reads behind the call as it read before'; 0 by the template 'total and deterministic' (their statements: YthhgdkodhokefaaTotals.lean).
  GIVEN WITH THE SEED: the statements are not yours to turn. If you find one false, say at which input.
  Laid BY PROGRAM, IN A SANDBOX (cutbox-rows.mjs): the forced cells as the released guide's own fill.sh prints them over the translation 760243e0ec90f1ff… (all of the seat's roots in one cut). By AI agents, Wed Nov 11 2026. No macro, syntax, notation, axiom, sorry.
-/
import Derived.Test.YthhgdkodhokefaaChecked
import GoSem.Claim
import GoSem.ClaimJoined
import GoSem.ClaimMapViews
import Derived.JoinedTies
import Derived.KernelRfl
namespace Go.Proofs.Ythhgdkodhokefaa
/- THE CELL 'sum', in the pinned program and in every row, IS THE sha256 OF THE DUMP (.gsa) THAT YthhgdkodhokefaaProg.lean LOADS. Nothing in Lean hashes anything: it is a label: what it is worth is what the hold of that sum in a sandbox is worth. -/
noncomputable def Try.pinned : Pinned := { name := "ythhgdkodhokefaa", sum := "760243e0ec90f1ffa43ce461ecd3a4d46399c431738efdfdb43b956d85cebe58", checked := Try.checked }
namespace Rows
def none {H : Type} : Left H := { results := [], args := [] }

/-- 'forkledgerlaw11.JustifyLocks': WHATEVER THE INPUT: true; the input reads as it did. -/
def justifyLocksSpec : ChangeSpec := { name := "justifyLocks", fn := fun _ => fun
  | [d1, d2, d3, d4, d5] => { results := [.lit (.bool true)], args := [d1, d2, d3, d4, d5] }
  | _ => none }
def justifyLocksRow : OpenClaim := { program := "ythhgdkodhokefaa", sum := "760243e0ec90f1ffa43ce461ecd3a4d46399c431738efdfdb43b956d85cebe58", func := "forkledger/forkledgerlaw11.JustifyLocks", spec := "justifyLocks", unfollowed := true, recurses := true, plainKeys := false, apart := false }
def JustifyLocksSaid : Prop := justifyLocksRow.holds Try.pinned (OpenSpec.ofChange justifyLocksSpec)

/-- ITS FALSE NEIGHBOUR: 'it returns false'. Refute it at one input. -/
def justifyLocksWrong : ChangeSpec := { name := "justifyLocks", fn := fun _ => fun
  | [d1, d2, d3, d4, d5] => { results := [.lit (.bool false)], args := [d1, d2, d3, d4, d5] }
  | _ => none }
def JustifyLocksWrongFalsely : Prop := justifyLocksRow.holds Try.pinned (OpenSpec.ofChange justifyLocksWrong)

/-- 'forkledgerlaw14.JudgeDecides': WHATEVER THE INPUT: true; the input reads as it did. -/
def judgeDecidesSpec : ChangeSpec := { name := "judgeDecides", fn := fun _ => fun
  | [d] => { results := [.lit (.bool true)], args := [d] }
  | _ => none }
def judgeDecidesRow : OpenClaim := { program := "ythhgdkodhokefaa", sum := "760243e0ec90f1ffa43ce461ecd3a4d46399c431738efdfdb43b956d85cebe58", func := "forkledger/forkledgerlaw14.JudgeDecides", spec := "judgeDecides", plainKeys := false, apart := false }
def JudgeDecidesSaid : Prop := judgeDecidesRow.holds Try.pinned (OpenSpec.ofChange judgeDecidesSpec)

/-- ITS FALSE NEIGHBOUR: 'it returns false'. Refute it at one input. -/
def judgeDecidesWrong : ChangeSpec := { name := "judgeDecides", fn := fun _ => fun
  | [d] => { results := [.lit (.bool false)], args := [d] }
  | _ => none }
def JudgeDecidesWrongFalsely : Prop := judgeDecidesRow.holds Try.pinned (OpenSpec.ofChange judgeDecidesWrong)

/-- 'forkledgerlaw14.JudgeSearches': WHATEVER THE INPUT: true; the input reads as it did. -/
def judgeSearchesSpec : ChangeSpec := { name := "judgeSearches", fn := fun _ => fun
  | [d1, d2, d3] => { results := [.lit (.bool true)], args := [d1, d2, d3] }
  | _ => none }
def judgeSearchesRow : OpenClaim := { program := "ythhgdkodhokefaa", sum := "760243e0ec90f1ffa43ce461ecd3a4d46399c431738efdfdb43b956d85cebe58", func := "forkledger/forkledgerlaw14.JudgeSearches", spec := "judgeSearches", plainKeys := false, apart := false }
def JudgeSearchesSaid : Prop := judgeSearchesRow.holds Try.pinned (OpenSpec.ofChange judgeSearchesSpec)

/-- ITS FALSE NEIGHBOUR: 'it returns false'. Refute it at one input. -/
def judgeSearchesWrong : ChangeSpec := { name := "judgeSearches", fn := fun _ => fun
  | [d1, d2, d3] => { results := [.lit (.bool false)], args := [d1, d2, d3] }
  | _ => none }
def JudgeSearchesWrongFalsely : Prop := judgeSearchesRow.holds Try.pinned (OpenSpec.ofChange judgeSearchesWrong)

/-- 'forkledgerlaw14.JudgeGrows': WHATEVER THE INPUT: true; the input reads as it did. -/
def judgeGrowsSpec : ChangeSpec := { name := "judgeGrows", fn := fun _ => fun
  | [d1, d2, d3, d4] => { results := [.lit (.bool true)], args := [d1, d2, d3, d4] }
  | _ => none }
def judgeGrowsRow : OpenClaim := { program := "ythhgdkodhokefaa", sum := "760243e0ec90f1ffa43ce461ecd3a4d46399c431738efdfdb43b956d85cebe58", func := "forkledger/forkledgerlaw14.JudgeGrows", spec := "judgeGrows", unfollowed := true, recurses := true, plainKeys := false, apart := false }
def JudgeGrowsSaid : Prop := judgeGrowsRow.holds Try.pinned (OpenSpec.ofChange judgeGrowsSpec)

/-- ITS FALSE NEIGHBOUR: 'it returns false'. Refute it at one input. -/
def judgeGrowsWrong : ChangeSpec := { name := "judgeGrows", fn := fun _ => fun
  | [d1, d2, d3, d4] => { results := [.lit (.bool false)], args := [d1, d2, d3, d4] }
  | _ => none }
def JudgeGrowsWrongFalsely : Prop := judgeGrowsRow.holds Try.pinned (OpenSpec.ofChange judgeGrowsWrong)

/-- 'forkledgerlaw14.JudgeTight': WHATEVER THE INPUT: true; the input reads as it did. -/
def judgeTightSpec : ChangeSpec := { name := "judgeTight", fn := fun _ => fun
  | [d] => { results := [.lit (.bool true)], args := [d] }
  | _ => none }
def judgeTightRow : OpenClaim := { program := "ythhgdkodhokefaa", sum := "760243e0ec90f1ffa43ce461ecd3a4d46399c431738efdfdb43b956d85cebe58", func := "forkledger/forkledgerlaw14.JudgeTight", spec := "judgeTight", plainKeys := false, apart := false }
def JudgeTightSaid : Prop := judgeTightRow.holds Try.pinned (OpenSpec.ofChange judgeTightSpec)

/-- ITS FALSE NEIGHBOUR: 'it returns false'. Refute it at one input. -/
def judgeTightWrong : ChangeSpec := { name := "judgeTight", fn := fun _ => fun
  | [d] => { results := [.lit (.bool false)], args := [d] }
  | _ => none }
def JudgeTightWrongFalsely : Prop := judgeTightRow.holds Try.pinned (OpenSpec.ofChange judgeTightWrong)

/-- 'forkledgerlaw14.JudgeRounds': WHATEVER THE INPUT: true; the input reads as it did. -/
def judgeRoundsSpec : ChangeSpec := { name := "judgeRounds", fn := fun _ => fun
  | [] => { results := [.lit (.bool true)], args := [] }
  | _ => none }
def judgeRoundsRow : OpenClaim := { program := "ythhgdkodhokefaa", sum := "760243e0ec90f1ffa43ce461ecd3a4d46399c431738efdfdb43b956d85cebe58", func := "forkledger/forkledgerlaw14.JudgeRounds", spec := "judgeRounds", plainKeys := false, apart := false }
def JudgeRoundsSaid : Prop := judgeRoundsRow.holds Try.pinned (OpenSpec.ofChange judgeRoundsSpec)

/-- ITS FALSE NEIGHBOUR: 'it returns false'. Refute it at one input. -/
def judgeRoundsWrong : ChangeSpec := { name := "judgeRounds", fn := fun _ => fun
  | [] => { results := [.lit (.bool false)], args := [] }
  | _ => none }
def JudgeRoundsWrongFalsely : Prop := judgeRoundsRow.holds Try.pinned (OpenSpec.ofChange judgeRoundsWrong)

/-- 'forkledgerlaw14.JudgeForks': WHATEVER THE INPUT: true; the input reads as it did. -/
def judgeForksSpec : ChangeSpec := { name := "judgeForks", fn := fun _ => fun
  | [d1, d2, d3] => { results := [.lit (.bool true)], args := [d1, d2, d3] }
  | _ => none }
def judgeForksRow : OpenClaim := { program := "ythhgdkodhokefaa", sum := "760243e0ec90f1ffa43ce461ecd3a4d46399c431738efdfdb43b956d85cebe58", func := "forkledger/forkledgerlaw14.JudgeForks", spec := "judgeForks", unfollowed := true, recurses := true, plainKeys := false, apart := false }
def JudgeForksSaid : Prop := judgeForksRow.holds Try.pinned (OpenSpec.ofChange judgeForksSpec)

/-- ITS FALSE NEIGHBOUR: 'it returns false'. Refute it at one input. -/
def judgeForksWrong : ChangeSpec := { name := "judgeForks", fn := fun _ => fun
  | [d1, d2, d3] => { results := [.lit (.bool false)], args := [d1, d2, d3] }
  | _ => none }
def JudgeForksWrongFalsely : Prop := judgeForksRow.holds Try.pinned (OpenSpec.ofChange judgeForksWrong)

/-- 'forkledgerlaw12.AcceptClosed': WHATEVER THE INPUT: true; the input reads as it did. -/
def acceptClosedSpec : ChangeSpec := { name := "acceptClosed", fn := fun _ => fun
  | [d1, d2, d3] => { results := [.lit (.bool true)], args := [d1, d2, d3] }
  | _ => none }
def acceptClosedRow : OpenClaim := { program := "ythhgdkodhokefaa", sum := "760243e0ec90f1ffa43ce461ecd3a4d46399c431738efdfdb43b956d85cebe58", func := "forkledger/forkledgerlaw12.AcceptClosed", spec := "acceptClosed", inPlace := ["internal/reflectlite.ValueOf", "internal/reflectlite.Swapper", "(internal/reflectlite.Value).Len"], unfollowed := true, recurses := true, plainKeys := false, apart := false }
def AcceptClosedSaid : Prop := acceptClosedRow.holds Try.pinned (OpenSpec.ofChange acceptClosedSpec)

/-- ITS FALSE NEIGHBOUR: 'it returns false'. Refute it at one input. -/
def acceptClosedWrong : ChangeSpec := { name := "acceptClosed", fn := fun _ => fun
  | [d1, d2, d3] => { results := [.lit (.bool false)], args := [d1, d2, d3] }
  | _ => none }
def AcceptClosedWrongFalsely : Prop := acceptClosedRow.holds Try.pinned (OpenSpec.ofChange acceptClosedWrong)

/-- 'forkledgerlaw12.AcceptLeast': WHATEVER THE INPUT: true; the input reads as it did. -/
def acceptLeastSpec : ChangeSpec := { name := "acceptLeast", fn := fun _ => fun
  | [d1, d2, d3] => { results := [.lit (.bool true)], args := [d1, d2, d3] }
  | _ => none }
def acceptLeastRow : OpenClaim := { program := "ythhgdkodhokefaa", sum := "760243e0ec90f1ffa43ce461ecd3a4d46399c431738efdfdb43b956d85cebe58", func := "forkledger/forkledgerlaw12.AcceptLeast", spec := "acceptLeast", inPlace := ["internal/reflectlite.ValueOf", "internal/reflectlite.Swapper", "(internal/reflectlite.Value).Len"], unfollowed := true, recurses := true, plainKeys := false, apart := false }
def AcceptLeastSaid : Prop := acceptLeastRow.holds Try.pinned (OpenSpec.ofChange acceptLeastSpec)

/-- ITS FALSE NEIGHBOUR: 'it returns false'. Refute it at one input. -/
def acceptLeastWrong : ChangeSpec := { name := "acceptLeast", fn := fun _ => fun
  | [d1, d2, d3] => { results := [.lit (.bool false)], args := [d1, d2, d3] }
  | _ => none }
def AcceptLeastWrongFalsely : Prop := acceptLeastRow.holds Try.pinned (OpenSpec.ofChange acceptLeastWrong)

/-- 'forkledgerlaw12.AcceptApart': WHATEVER THE INPUT: true; the input reads as it did. -/
def acceptApartSpec : ChangeSpec := { name := "acceptApart", fn := fun _ => fun
  | [d1, d2, d3, d4] => { results := [.lit (.bool true)], args := [d1, d2, d3, d4] }
  | _ => none }
def acceptApartRow : OpenClaim := { program := "ythhgdkodhokefaa", sum := "760243e0ec90f1ffa43ce461ecd3a4d46399c431738efdfdb43b956d85cebe58", func := "forkledger/forkledgerlaw12.AcceptApart", spec := "acceptApart", inPlace := ["internal/reflectlite.ValueOf", "internal/reflectlite.Swapper", "(internal/reflectlite.Value).Len"], unfollowed := true, recurses := true, plainKeys := false, apart := false }
def AcceptApartSaid : Prop := acceptApartRow.holds Try.pinned (OpenSpec.ofChange acceptApartSpec)

/-- ITS FALSE NEIGHBOUR: 'it returns false'. Refute it at one input. -/
def acceptApartWrong : ChangeSpec := { name := "acceptApart", fn := fun _ => fun
  | [d1, d2, d3, d4] => { results := [.lit (.bool false)], args := [d1, d2, d3, d4] }
  | _ => none }
def AcceptApartWrongFalsely : Prop := acceptApartRow.holds Try.pinned (OpenSpec.ofChange acceptApartWrong)

/-- 'forkledgerlaw12.AcceptGrows': WHATEVER THE INPUT: true; the input reads as it did. -/
def acceptGrowsSpec : ChangeSpec := { name := "acceptGrows", fn := fun _ => fun
  | [d1, d2, d3, d4, d5] => { results := [.lit (.bool true)], args := [d1, d2, d3, d4, d5] }
  | _ => none }
def acceptGrowsRow : OpenClaim := { program := "ythhgdkodhokefaa", sum := "760243e0ec90f1ffa43ce461ecd3a4d46399c431738efdfdb43b956d85cebe58", func := "forkledger/forkledgerlaw12.AcceptGrows", spec := "acceptGrows", inPlace := ["internal/reflectlite.ValueOf", "internal/reflectlite.Swapper", "(internal/reflectlite.Value).Len"], unfollowed := true, recurses := true, plainKeys := false, apart := false }
def AcceptGrowsSaid : Prop := acceptGrowsRow.holds Try.pinned (OpenSpec.ofChange acceptGrowsSpec)

/-- ITS FALSE NEIGHBOUR: 'it returns false'. Refute it at one input. -/
def acceptGrowsWrong : ChangeSpec := { name := "acceptGrows", fn := fun _ => fun
  | [d1, d2, d3, d4, d5] => { results := [.lit (.bool false)], args := [d1, d2, d3, d4, d5] }
  | _ => none }
def AcceptGrowsWrongFalsely : Prop := acceptGrowsRow.holds Try.pinned (OpenSpec.ofChange acceptGrowsWrong)

/- THE SECOND FORM. 'bulk': how many values and letters a reading holds, each counted each time it is reached (what is shared counts as often as it is met; a slice's spare places count too). A statement '..UptoSaid' is the law's where the arguments, and the package variables that the reading takes, are together of bulk at most 1048576: NARROWER than '..Said'. Prove '..Said' where nothing that the law and all that it calls make is longer than what came in: it says more and counts as full. Else prove '..UptoSaid'. A law counts once. -/
mutual
def uptoBulk {H : Type} : DataW H → Nat
  | .lit (.string bytes) => bytes.length + 1
  | .lit _ => 1
  | .nil => 1
  | .ptr d => uptoBulk d + 1
  | .slice elems spare => uptoBulkAll elems + uptoBulkAll spare + 1
  | .agg parts => uptoBulkAll parts + 1
  | .iface _ d => uptoBulk d + 1
  | .map entries => uptoBulkEntries entries + 1
  | .held _ => 1
def uptoBulkAll {H : Type} : List (DataW H) → Nat
  | [] => 0
  | d :: r => uptoBulk d + uptoBulkAll r
def uptoBulkEntries {H : Type} : List (Lit × DataW H) → Nat
  | [] => 0
  | x :: r => uptoBulkEntry x + uptoBulkEntries r
def uptoBulkEntry {H : Type} : Lit × DataW H → Nat
  | (.string bytes, d) => bytes.length + uptoBulk d + 1
  | (_, d) => uptoBulk d + 1
 end
def uptoSmall : (H : Type) → List (DataW H) → Bool := fun _ ds => decide (uptoBulkAll ds ≤ 1048576)
def OpenSpec.upto (s : _root_.Go.ChangeSpec) : _root_.Go.OpenSpec := { _root_.Go.OpenSpec.ofChange s with cond := some uptoSmall }

/-- 'forkledgerlaw11.JustifyLocks', WHERE WHAT IT READS IS OF BULK AT MOST 1048576: true; the input reads as it did. -/
def justifyLocksUptoRow : OpenClaim := { program := "ythhgdkodhokefaa", sum := "760243e0ec90f1ffa43ce461ecd3a4d46399c431738efdfdb43b956d85cebe58", func := "forkledger/forkledgerlaw11.JustifyLocks", spec := "justifyLocks", unfollowed := true, recurses := true, plainKeys := false, apart := false, narrowed := true }
def JustifyLocksUptoSaid : Prop := justifyLocksUptoRow.holds Try.pinned (OpenSpec.upto justifyLocksSpec)

/-- 'forkledgerlaw14.JudgeDecides', WHERE WHAT IT READS IS OF BULK AT MOST 1048576: true; the input reads as it did. -/
def judgeDecidesUptoRow : OpenClaim := { program := "ythhgdkodhokefaa", sum := "760243e0ec90f1ffa43ce461ecd3a4d46399c431738efdfdb43b956d85cebe58", func := "forkledger/forkledgerlaw14.JudgeDecides", spec := "judgeDecides", plainKeys := false, apart := false, narrowed := true }
def JudgeDecidesUptoSaid : Prop := judgeDecidesUptoRow.holds Try.pinned (OpenSpec.upto judgeDecidesSpec)

/-- 'forkledgerlaw14.JudgeSearches', WHERE WHAT IT READS IS OF BULK AT MOST 1048576: true; the input reads as it did. -/
def judgeSearchesUptoRow : OpenClaim := { program := "ythhgdkodhokefaa", sum := "760243e0ec90f1ffa43ce461ecd3a4d46399c431738efdfdb43b956d85cebe58", func := "forkledger/forkledgerlaw14.JudgeSearches", spec := "judgeSearches", plainKeys := false, apart := false, narrowed := true }
def JudgeSearchesUptoSaid : Prop := judgeSearchesUptoRow.holds Try.pinned (OpenSpec.upto judgeSearchesSpec)

/-- 'forkledgerlaw14.JudgeGrows', WHERE WHAT IT READS IS OF BULK AT MOST 1048576: true; the input reads as it did. -/
def judgeGrowsUptoRow : OpenClaim := { program := "ythhgdkodhokefaa", sum := "760243e0ec90f1ffa43ce461ecd3a4d46399c431738efdfdb43b956d85cebe58", func := "forkledger/forkledgerlaw14.JudgeGrows", spec := "judgeGrows", unfollowed := true, recurses := true, plainKeys := false, apart := false, narrowed := true }
def JudgeGrowsUptoSaid : Prop := judgeGrowsUptoRow.holds Try.pinned (OpenSpec.upto judgeGrowsSpec)

/-- 'forkledgerlaw14.JudgeTight', WHERE WHAT IT READS IS OF BULK AT MOST 1048576: true; the input reads as it did. -/
def judgeTightUptoRow : OpenClaim := { program := "ythhgdkodhokefaa", sum := "760243e0ec90f1ffa43ce461ecd3a4d46399c431738efdfdb43b956d85cebe58", func := "forkledger/forkledgerlaw14.JudgeTight", spec := "judgeTight", plainKeys := false, apart := false, narrowed := true }
def JudgeTightUptoSaid : Prop := judgeTightUptoRow.holds Try.pinned (OpenSpec.upto judgeTightSpec)

/-- 'forkledgerlaw14.JudgeRounds', WHERE WHAT IT READS IS OF BULK AT MOST 1048576: true; the input reads as it did. -/
def judgeRoundsUptoRow : OpenClaim := { program := "ythhgdkodhokefaa", sum := "760243e0ec90f1ffa43ce461ecd3a4d46399c431738efdfdb43b956d85cebe58", func := "forkledger/forkledgerlaw14.JudgeRounds", spec := "judgeRounds", plainKeys := false, apart := false, narrowed := true }
def JudgeRoundsUptoSaid : Prop := judgeRoundsUptoRow.holds Try.pinned (OpenSpec.upto judgeRoundsSpec)

/-- 'forkledgerlaw14.JudgeForks', WHERE WHAT IT READS IS OF BULK AT MOST 1048576: true; the input reads as it did. -/
def judgeForksUptoRow : OpenClaim := { program := "ythhgdkodhokefaa", sum := "760243e0ec90f1ffa43ce461ecd3a4d46399c431738efdfdb43b956d85cebe58", func := "forkledger/forkledgerlaw14.JudgeForks", spec := "judgeForks", unfollowed := true, recurses := true, plainKeys := false, apart := false, narrowed := true }
def JudgeForksUptoSaid : Prop := judgeForksUptoRow.holds Try.pinned (OpenSpec.upto judgeForksSpec)

/-- 'forkledgerlaw12.AcceptClosed', WHERE WHAT IT READS IS OF BULK AT MOST 1048576: true; the input reads as it did. -/
def acceptClosedUptoRow : OpenClaim := { program := "ythhgdkodhokefaa", sum := "760243e0ec90f1ffa43ce461ecd3a4d46399c431738efdfdb43b956d85cebe58", func := "forkledger/forkledgerlaw12.AcceptClosed", spec := "acceptClosed", inPlace := ["internal/reflectlite.ValueOf", "internal/reflectlite.Swapper", "(internal/reflectlite.Value).Len"], unfollowed := true, recurses := true, plainKeys := false, apart := false, narrowed := true }
def AcceptClosedUptoSaid : Prop := acceptClosedUptoRow.holds Try.pinned (OpenSpec.upto acceptClosedSpec)

/-- 'forkledgerlaw12.AcceptLeast', WHERE WHAT IT READS IS OF BULK AT MOST 1048576: true; the input reads as it did. -/
def acceptLeastUptoRow : OpenClaim := { program := "ythhgdkodhokefaa", sum := "760243e0ec90f1ffa43ce461ecd3a4d46399c431738efdfdb43b956d85cebe58", func := "forkledger/forkledgerlaw12.AcceptLeast", spec := "acceptLeast", inPlace := ["internal/reflectlite.ValueOf", "internal/reflectlite.Swapper", "(internal/reflectlite.Value).Len"], unfollowed := true, recurses := true, plainKeys := false, apart := false, narrowed := true }
def AcceptLeastUptoSaid : Prop := acceptLeastUptoRow.holds Try.pinned (OpenSpec.upto acceptLeastSpec)

/-- 'forkledgerlaw12.AcceptApart', WHERE WHAT IT READS IS OF BULK AT MOST 1048576: true; the input reads as it did. -/
def acceptApartUptoRow : OpenClaim := { program := "ythhgdkodhokefaa", sum := "760243e0ec90f1ffa43ce461ecd3a4d46399c431738efdfdb43b956d85cebe58", func := "forkledger/forkledgerlaw12.AcceptApart", spec := "acceptApart", inPlace := ["internal/reflectlite.ValueOf", "internal/reflectlite.Swapper", "(internal/reflectlite.Value).Len"], unfollowed := true, recurses := true, plainKeys := false, apart := false, narrowed := true }
def AcceptApartUptoSaid : Prop := acceptApartUptoRow.holds Try.pinned (OpenSpec.upto acceptApartSpec)

/-- 'forkledgerlaw12.AcceptGrows', WHERE WHAT IT READS IS OF BULK AT MOST 1048576: true; the input reads as it did. -/
def acceptGrowsUptoRow : OpenClaim := { program := "ythhgdkodhokefaa", sum := "760243e0ec90f1ffa43ce461ecd3a4d46399c431738efdfdb43b956d85cebe58", func := "forkledger/forkledgerlaw12.AcceptGrows", spec := "acceptGrows", inPlace := ["internal/reflectlite.ValueOf", "internal/reflectlite.Swapper", "(internal/reflectlite.Value).Len"], unfollowed := true, recurses := true, plainKeys := false, apart := false, narrowed := true }
def AcceptGrowsUptoSaid : Prop := acceptGrowsUptoRow.holds Try.pinned (OpenSpec.upto acceptGrowsSpec)

end Rows
end Go.Proofs.Ythhgdkodhokefaa
