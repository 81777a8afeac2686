/-
  No cell of these rows narrows 'for every input' (looked for: loops, veiled, ifaces, maps, wideKeys, modest, calm, conditions, laid).
  DERIVED. THE GIVEN ROWS OF THIS SEAT. 8 by the template 'for every input the law returns true; each argument reads behind the call as it read before'; 0 by the template 'total and deterministic' (their statements: YtnagichfngogkaaTotals.lean).
  GIVEN WITH THE SEED: the statements are not yours to turn. If you find one false, say at which input.
  Laid BY PROGRAM, IN A SANDBOX (cutbox-rows.mjs): the forced cells as the released guide's own fill.sh prints them over the translation 187591b3fc80f837… (all of the seat's roots in one cut). By AI agents, Wed Nov 11 2026. No macro, syntax, notation, axiom, sorry.
-/
import Derived.Test.YtnagichfngogkaaChecked
import GoSem.Claim
import GoSem.ClaimJoined
import GoSem.ClaimMapViews
import Derived.JoinedTies
import Derived.KernelRfl
namespace Go.Proofs.Ytnagichfngogkaa
/- THE CELL 'sum', in the pinned program and in every row, IS THE sha256 OF THE DUMP (.gsa) THAT YtnagichfngogkaaProg.lean LOADS. Nothing in Lean hashes anything: it is a label: what it is worth is what the hold of that sum in a sandbox is worth. -/
noncomputable def Try.pinned : Pinned := { name := "ytnagichfngogkaa", sum := "187591b3fc80f837da2339f5a8971197fa2318a31a9e5fb432c3b307c1292864", checked := Try.checked }
namespace Rows
def none {H : Type} : Left H := { results := [], args := [] }

/-- 'forkledgerlaw15.BroadcastAccounts': WHATEVER THE INPUT: true; the input reads as it did. -/
def broadcastAccountsSpec : ChangeSpec := { name := "broadcastAccounts", fn := fun _ => fun
  | [d1, d2, d3, d4, d5] => { results := [.lit (.bool true)], args := [d1, d2, d3, d4, d5] }
  | _ => none }
def broadcastAccountsRow : OpenClaim := { program := "ytnagichfngogkaa", sum := "187591b3fc80f837da2339f5a8971197fa2318a31a9e5fb432c3b307c1292864", func := "forkledger/forkledgerlaw15.BroadcastAccounts", spec := "broadcastAccounts", inPlace := ["internal/reflectlite.ValueOf", "internal/reflectlite.Swapper", "(internal/reflectlite.Value).Len"], unfollowed := true, recurses := true, plainKeys := false, apart := false }
def BroadcastAccountsSaid : Prop := broadcastAccountsRow.holds Try.pinned (OpenSpec.ofChange broadcastAccountsSpec)

/-- ITS FALSE NEIGHBOUR: 'it returns false'. Refute it at one input. -/
def broadcastAccountsWrong : ChangeSpec := { name := "broadcastAccounts", fn := fun _ => fun
  | [d1, d2, d3, d4, d5] => { results := [.lit (.bool false)], args := [d1, d2, d3, d4, d5] }
  | _ => none }
def BroadcastAccountsWrongFalsely : Prop := broadcastAccountsRow.holds Try.pinned (OpenSpec.ofChange broadcastAccountsWrong)

/-- 'forkledgerlaw15.BroadcastProposed': WHATEVER THE INPUT: true; the input reads as it did. -/
def broadcastProposedSpec : ChangeSpec := { name := "broadcastProposed", fn := fun _ => fun
  | [d1, d2, d3, d4] => { results := [.lit (.bool true)], args := [d1, d2, d3, d4] }
  | _ => none }
def broadcastProposedRow : OpenClaim := { program := "ytnagichfngogkaa", sum := "187591b3fc80f837da2339f5a8971197fa2318a31a9e5fb432c3b307c1292864", func := "forkledger/forkledgerlaw15.BroadcastProposed", spec := "broadcastProposed", inPlace := ["internal/reflectlite.ValueOf", "internal/reflectlite.Swapper", "(internal/reflectlite.Value).Len"], unfollowed := true, recurses := true, plainKeys := false, apart := false }
def BroadcastProposedSaid : Prop := broadcastProposedRow.holds Try.pinned (OpenSpec.ofChange broadcastProposedSpec)

/-- ITS FALSE NEIGHBOUR: 'it returns false'. Refute it at one input. -/
def broadcastProposedWrong : ChangeSpec := { name := "broadcastProposed", fn := fun _ => fun
  | [d1, d2, d3, d4] => { results := [.lit (.bool false)], args := [d1, d2, d3, d4] }
  | _ => none }
def BroadcastProposedWrongFalsely : Prop := broadcastProposedRow.holds Try.pinned (OpenSpec.ofChange broadcastProposedWrong)

/-- 'forkledgerlaw12.AcceptAccounts': WHATEVER THE INPUT: true; the input reads as it did. -/
def acceptAccountsSpec : ChangeSpec := { name := "acceptAccounts", fn := fun _ => fun
  | [d1, d2, d3, d4, d5] => { results := [.lit (.bool true)], args := [d1, d2, d3, d4, d5] }
  | _ => none }
def acceptAccountsRow : OpenClaim := { program := "ytnagichfngogkaa", sum := "187591b3fc80f837da2339f5a8971197fa2318a31a9e5fb432c3b307c1292864", func := "forkledger/forkledgerlaw12.AcceptAccounts", spec := "acceptAccounts", inPlace := ["internal/reflectlite.ValueOf", "internal/reflectlite.Swapper", "(internal/reflectlite.Value).Len"], unfollowed := true, recurses := true, plainKeys := false, apart := false }
def AcceptAccountsSaid : Prop := acceptAccountsRow.holds Try.pinned (OpenSpec.ofChange acceptAccountsSpec)

/-- ITS FALSE NEIGHBOUR: 'it returns false'. Refute it at one input. -/
def acceptAccountsWrong : ChangeSpec := { name := "acceptAccounts", fn := fun _ => fun
  | [d1, d2, d3, d4, d5] => { results := [.lit (.bool false)], args := [d1, d2, d3, d4, d5] }
  | _ => none }
def AcceptAccountsWrongFalsely : Prop := acceptAccountsRow.holds Try.pinned (OpenSpec.ofChange acceptAccountsWrong)

/-- 'forkledgerlaw12.AcceptAgrees': WHATEVER THE INPUT: true; the input reads as it did. -/
def acceptAgreesSpec : ChangeSpec := { name := "acceptAgrees", fn := fun _ => fun
  | [d1, d2, d3, d4] => { results := [.lit (.bool true)], args := [d1, d2, d3, d4] }
  | _ => none }
def acceptAgreesRow : OpenClaim := { program := "ytnagichfngogkaa", sum := "187591b3fc80f837da2339f5a8971197fa2318a31a9e5fb432c3b307c1292864", func := "forkledger/forkledgerlaw12.AcceptAgrees", spec := "acceptAgrees", inPlace := ["internal/reflectlite.ValueOf", "internal/reflectlite.Swapper", "(internal/reflectlite.Value).Len"], unfollowed := true, recurses := true, plainKeys := false, apart := false }
def AcceptAgreesSaid : Prop := acceptAgreesRow.holds Try.pinned (OpenSpec.ofChange acceptAgreesSpec)

/-- ITS FALSE NEIGHBOUR: 'it returns false'. Refute it at one input. -/
def acceptAgreesWrong : ChangeSpec := { name := "acceptAgrees", fn := fun _ => fun
  | [d1, d2, d3, d4] => { results := [.lit (.bool false)], args := [d1, d2, d3, d4] }
  | _ => none }
def AcceptAgreesWrongFalsely : Prop := acceptAgreesRow.holds Try.pinned (OpenSpec.ofChange acceptAgreesWrong)

/-- 'forkledgerlaw15.BroadcastOne': WHATEVER THE INPUT: true; the input reads as it did. -/
def broadcastOneSpec : ChangeSpec := { name := "broadcastOne", fn := fun _ => fun
  | [d1, d2, d3, d4] => { results := [.lit (.bool true)], args := [d1, d2, d3, d4] }
  | _ => none }
def broadcastOneRow : OpenClaim := { program := "ytnagichfngogkaa", sum := "187591b3fc80f837da2339f5a8971197fa2318a31a9e5fb432c3b307c1292864", func := "forkledger/forkledgerlaw15.BroadcastOne", spec := "broadcastOne", inPlace := ["internal/reflectlite.ValueOf", "internal/reflectlite.Swapper", "(internal/reflectlite.Value).Len"], unfollowed := true, recurses := true, plainKeys := false, apart := false }
def BroadcastOneSaid : Prop := broadcastOneRow.holds Try.pinned (OpenSpec.ofChange broadcastOneSpec)

/-- ITS FALSE NEIGHBOUR: 'it returns false'. Refute it at one input. -/
def broadcastOneWrong : ChangeSpec := { name := "broadcastOne", fn := fun _ => fun
  | [d1, d2, d3, d4] => { results := [.lit (.bool false)], args := [d1, d2, d3, d4] }
  | _ => none }
def BroadcastOneWrongFalsely : Prop := broadcastOneRow.holds Try.pinned (OpenSpec.ofChange broadcastOneWrong)

/-- 'forkledgerlaw17.SuperblockGrows': WHATEVER THE INPUT: true; the input reads as it did. -/
def superblockGrowsSpec : ChangeSpec := { name := "superblockGrows", fn := fun _ => fun
  | [d1, d2, d3, d4, d5] => { results := [.lit (.bool true)], args := [d1, d2, d3, d4, d5] }
  | _ => none }
def superblockGrowsRow : OpenClaim := { program := "ytnagichfngogkaa", sum := "187591b3fc80f837da2339f5a8971197fa2318a31a9e5fb432c3b307c1292864", func := "forkledger/forkledgerlaw17.SuperblockGrows", spec := "superblockGrows", inPlace := ["internal/reflectlite.ValueOf", "internal/reflectlite.Swapper", "(internal/reflectlite.Value).Len"], unfollowed := true, recurses := true, plainKeys := false, apart := false }
def SuperblockGrowsSaid : Prop := superblockGrowsRow.holds Try.pinned (OpenSpec.ofChange superblockGrowsSpec)

/-- ITS FALSE NEIGHBOUR: 'it returns false'. Refute it at one input. -/
def superblockGrowsWrong : ChangeSpec := { name := "superblockGrows", fn := fun _ => fun
  | [d1, d2, d3, d4, d5] => { results := [.lit (.bool false)], args := [d1, d2, d3, d4, d5] }
  | _ => none }
def SuperblockGrowsWrongFalsely : Prop := superblockGrowsRow.holds Try.pinned (OpenSpec.ofChange superblockGrowsWrong)

/-- 'forkledgerlaw17.SuperblockDecides': WHATEVER THE INPUT: true; the input reads as it did. -/
def superblockDecidesSpec : ChangeSpec := { name := "superblockDecides", fn := fun _ => fun
  | [d1, d2, d3] => { results := [.lit (.bool true)], args := [d1, d2, d3] }
  | _ => none }
def superblockDecidesRow : OpenClaim := { program := "ytnagichfngogkaa", sum := "187591b3fc80f837da2339f5a8971197fa2318a31a9e5fb432c3b307c1292864", func := "forkledger/forkledgerlaw17.SuperblockDecides", spec := "superblockDecides", inPlace := ["internal/reflectlite.ValueOf", "internal/reflectlite.Swapper", "(internal/reflectlite.Value).Len"], unfollowed := true, recurses := true, plainKeys := false, apart := false }
def SuperblockDecidesSaid : Prop := superblockDecidesRow.holds Try.pinned (OpenSpec.ofChange superblockDecidesSpec)

/-- ITS FALSE NEIGHBOUR: 'it returns false'. Refute it at one input. -/
def superblockDecidesWrong : ChangeSpec := { name := "superblockDecides", fn := fun _ => fun
  | [d1, d2, d3] => { results := [.lit (.bool false)], args := [d1, d2, d3] }
  | _ => none }
def SuperblockDecidesWrongFalsely : Prop := superblockDecidesRow.holds Try.pinned (OpenSpec.ofChange superblockDecidesWrong)

/-- 'forkledgerlaw17.SuperblockAccounts': WHATEVER THE INPUT: true; the input reads as it did. -/
def superblockAccountsSpec : ChangeSpec := { name := "superblockAccounts", fn := fun _ => fun
  | [d1, d2, d3, d4] => { results := [.lit (.bool true)], args := [d1, d2, d3, d4] }
  | _ => none }
def superblockAccountsRow : OpenClaim := { program := "ytnagichfngogkaa", sum := "187591b3fc80f837da2339f5a8971197fa2318a31a9e5fb432c3b307c1292864", func := "forkledger/forkledgerlaw17.SuperblockAccounts", spec := "superblockAccounts", inPlace := ["internal/reflectlite.ValueOf", "internal/reflectlite.Swapper", "(internal/reflectlite.Value).Len"], unfollowed := true, recurses := true, plainKeys := false, apart := false }
def SuperblockAccountsSaid : Prop := superblockAccountsRow.holds Try.pinned (OpenSpec.ofChange superblockAccountsSpec)

/-- ITS FALSE NEIGHBOUR: 'it returns false'. Refute it at one input. -/
def superblockAccountsWrong : ChangeSpec := { name := "superblockAccounts", fn := fun _ => fun
  | [d1, d2, d3, d4] => { results := [.lit (.bool false)], args := [d1, d2, d3, d4] }
  | _ => none }
def SuperblockAccountsWrongFalsely : Prop := superblockAccountsRow.holds Try.pinned (OpenSpec.ofChange superblockAccountsWrong)

/- THE SECOND FORM. 'bulk': how many values and letters a reading holds, each counted each time it is reached (what is shared counts as often as it is met; a slice's spare places count too). A statement '..UptoSaid' is the law's where the arguments, and the package variables that the reading takes, are together of bulk at most 1048576: NARROWER than '..Said'. Prove '..Said' where nothing that the law and all that it calls make is longer than what came in: it says more and counts as full. Else prove '..UptoSaid'. A law counts once. -/
mutual
def uptoBulk {H : Type} : DataW H → Nat
  | .lit (.string bytes) => bytes.length + 1
  | .lit _ => 1
  | .nil => 1
  | .ptr d => uptoBulk d + 1
  | .slice elems spare => uptoBulkAll elems + uptoBulkAll spare + 1
  | .agg parts => uptoBulkAll parts + 1
  | .iface _ d => uptoBulk d + 1
  | .map entries => uptoBulkEntries entries + 1
  | .held _ => 1
def uptoBulkAll {H : Type} : List (DataW H) → Nat
  | [] => 0
  | d :: r => uptoBulk d + uptoBulkAll r
def uptoBulkEntries {H : Type} : List (Lit × DataW H) → Nat
  | [] => 0
  | x :: r => uptoBulkEntry x + uptoBulkEntries r
def uptoBulkEntry {H : Type} : Lit × DataW H → Nat
  | (.string bytes, d) => bytes.length + uptoBulk d + 1
  | (_, d) => uptoBulk d + 1
 end
def uptoSmall : (H : Type) → List (DataW H) → Bool := fun _ ds => decide (uptoBulkAll ds ≤ 1048576)
def OpenSpec.upto (s : _root_.Go.ChangeSpec) : _root_.Go.OpenSpec := { _root_.Go.OpenSpec.ofChange s with cond := some uptoSmall }

/-- 'forkledgerlaw15.BroadcastAccounts', WHERE WHAT IT READS IS OF BULK AT MOST 1048576: true; the input reads as it did. -/
def broadcastAccountsUptoRow : OpenClaim := { program := "ytnagichfngogkaa", sum := "187591b3fc80f837da2339f5a8971197fa2318a31a9e5fb432c3b307c1292864", func := "forkledger/forkledgerlaw15.BroadcastAccounts", spec := "broadcastAccounts", inPlace := ["internal/reflectlite.ValueOf", "internal/reflectlite.Swapper", "(internal/reflectlite.Value).Len"], unfollowed := true, recurses := true, plainKeys := false, apart := false, narrowed := true }
def BroadcastAccountsUptoSaid : Prop := broadcastAccountsUptoRow.holds Try.pinned (OpenSpec.upto broadcastAccountsSpec)

/-- 'forkledgerlaw15.BroadcastProposed', WHERE WHAT IT READS IS OF BULK AT MOST 1048576: true; the input reads as it did. -/
def broadcastProposedUptoRow : OpenClaim := { program := "ytnagichfngogkaa", sum := "187591b3fc80f837da2339f5a8971197fa2318a31a9e5fb432c3b307c1292864", func := "forkledger/forkledgerlaw15.BroadcastProposed", spec := "broadcastProposed", inPlace := ["internal/reflectlite.ValueOf", "internal/reflectlite.Swapper", "(internal/reflectlite.Value).Len"], unfollowed := true, recurses := true, plainKeys := false, apart := false, narrowed := true }
def BroadcastProposedUptoSaid : Prop := broadcastProposedUptoRow.holds Try.pinned (OpenSpec.upto broadcastProposedSpec)

/-- 'forkledgerlaw12.AcceptAccounts', WHERE WHAT IT READS IS OF BULK AT MOST 1048576: true; the input reads as it did. -/
def acceptAccountsUptoRow : OpenClaim := { program := "ytnagichfngogkaa", sum := "187591b3fc80f837da2339f5a8971197fa2318a31a9e5fb432c3b307c1292864", func := "forkledger/forkledgerlaw12.AcceptAccounts", spec := "acceptAccounts", inPlace := ["internal/reflectlite.ValueOf", "internal/reflectlite.Swapper", "(internal/reflectlite.Value).Len"], unfollowed := true, recurses := true, plainKeys := false, apart := false, narrowed := true }
def AcceptAccountsUptoSaid : Prop := acceptAccountsUptoRow.holds Try.pinned (OpenSpec.upto acceptAccountsSpec)

/-- 'forkledgerlaw12.AcceptAgrees', WHERE WHAT IT READS IS OF BULK AT MOST 1048576: true; the input reads as it did. -/
def acceptAgreesUptoRow : OpenClaim := { program := "ytnagichfngogkaa", sum := "187591b3fc80f837da2339f5a8971197fa2318a31a9e5fb432c3b307c1292864", func := "forkledger/forkledgerlaw12.AcceptAgrees", spec := "acceptAgrees", inPlace := ["internal/reflectlite.ValueOf", "internal/reflectlite.Swapper", "(internal/reflectlite.Value).Len"], unfollowed := true, recurses := true, plainKeys := false, apart := false, narrowed := true }
def AcceptAgreesUptoSaid : Prop := acceptAgreesUptoRow.holds Try.pinned (OpenSpec.upto acceptAgreesSpec)

/-- 'forkledgerlaw15.BroadcastOne', WHERE WHAT IT READS IS OF BULK AT MOST 1048576: true; the input reads as it did. -/
def broadcastOneUptoRow : OpenClaim := { program := "ytnagichfngogkaa", sum := "187591b3fc80f837da2339f5a8971197fa2318a31a9e5fb432c3b307c1292864", func := "forkledger/forkledgerlaw15.BroadcastOne", spec := "broadcastOne", inPlace := ["internal/reflectlite.ValueOf", "internal/reflectlite.Swapper", "(internal/reflectlite.Value).Len"], unfollowed := true, recurses := true, plainKeys := false, apart := false, narrowed := true }
def BroadcastOneUptoSaid : Prop := broadcastOneUptoRow.holds Try.pinned (OpenSpec.upto broadcastOneSpec)

/-- 'forkledgerlaw17.SuperblockGrows', WHERE WHAT IT READS IS OF BULK AT MOST 1048576: true; the input reads as it did. -/
def superblockGrowsUptoRow : OpenClaim := { program := "ytnagichfngogkaa", sum := "187591b3fc80f837da2339f5a8971197fa2318a31a9e5fb432c3b307c1292864", func := "forkledger/forkledgerlaw17.SuperblockGrows", spec := "superblockGrows", inPlace := ["internal/reflectlite.ValueOf", "internal/reflectlite.Swapper", "(internal/reflectlite.Value).Len"], unfollowed := true, recurses := true, plainKeys := false, apart := false, narrowed := true }
def SuperblockGrowsUptoSaid : Prop := superblockGrowsUptoRow.holds Try.pinned (OpenSpec.upto superblockGrowsSpec)

/-- 'forkledgerlaw17.SuperblockDecides', WHERE WHAT IT READS IS OF BULK AT MOST 1048576: true; the input reads as it did. -/
def superblockDecidesUptoRow : OpenClaim := { program := "ytnagichfngogkaa", sum := "187591b3fc80f837da2339f5a8971197fa2318a31a9e5fb432c3b307c1292864", func := "forkledger/forkledgerlaw17.SuperblockDecides", spec := "superblockDecides", inPlace := ["internal/reflectlite.ValueOf", "internal/reflectlite.Swapper", "(internal/reflectlite.Value).Len"], unfollowed := true, recurses := true, plainKeys := false, apart := false, narrowed := true }
def SuperblockDecidesUptoSaid : Prop := superblockDecidesUptoRow.holds Try.pinned (OpenSpec.upto superblockDecidesSpec)

/-- 'forkledgerlaw17.SuperblockAccounts', WHERE WHAT IT READS IS OF BULK AT MOST 1048576: true; the input reads as it did. -/
def superblockAccountsUptoRow : OpenClaim := { program := "ytnagichfngogkaa", sum := "187591b3fc80f837da2339f5a8971197fa2318a31a9e5fb432c3b307c1292864", func := "forkledger/forkledgerlaw17.SuperblockAccounts", spec := "superblockAccounts", inPlace := ["internal/reflectlite.ValueOf", "internal/reflectlite.Swapper", "(internal/reflectlite.Value).Len"], unfollowed := true, recurses := true, plainKeys := false, apart := false, narrowed := true }
def SuperblockAccountsUptoSaid : Prop := superblockAccountsUptoRow.holds Try.pinned (OpenSpec.upto superblockAccountsSpec)

end Rows
end Go.Proofs.Ytnagichfngogkaa
