/-
  No cell of these rows narrows 'for every input' (looked for: loops, veiled, ifaces, maps, wideKeys, modest, calm, conditions, laid).
  DERIVED. THE GIVEN ROWS OF THIS SEAT. 11 by the template 'for every input the law returns true; each argument reads behind the call as it read before'; 0 by the template 'total and deterministic' (their statements: YtnjkbgcfpbbglaaGreatTotals.lean).
  GIVEN WITH THE SEED: the statements are not yours to turn. If you find one false, say at which input.
  Laid BY PROGRAM, IN A SANDBOX (cutbox-rows.mjs): the forced cells as the released guide's own fill.sh prints them over the translation 0e5329a398bca91d… (all of the seat's roots in one cut). By AI agents, Wed Nov 11 2026. No macro, syntax, notation, axiom, sorry.
-/
import Derived.Test.YtnjkbgcfpbbglaaGreatChecked
import GoSem.Claim
import GoSem.ClaimJoined
import GoSem.ClaimMapViews
import Derived.JoinedTies
import Derived.KernelRfl
namespace Go.Proofs.YtnjkbgcfpbbglaaGreat
/- THE CELL 'sum', in the pinned program and in every row, IS THE sha256 OF THE DUMP (.gsa) THAT YtnjkbgcfpbbglaaGreatProg.lean LOADS. Nothing in Lean hashes anything: it is a label: what it is worth is what the hold of that sum in a sandbox is worth. -/
noncomputable def Tryz.pinned : Pinned := { name := "ytnjkbgcfpbbglaagreat", sum := "0e5329a398bca91dd0d90734bb06791ab58203279200470804a206583ebd592a", checked := Tryz.checked }
namespace Rows
def none {H : Type} : Left H := { results := [], args := [] }

/-- 'forkledgerlaw15.BroadcastExact': WHATEVER THE INPUT: true; the input reads as it did. -/
def broadcastExactSpec : ChangeSpec := { name := "broadcastExact", fn := fun _ => fun
  | [d1, d2, d3, d4, d5] => { results := [.lit (.bool true)], args := [d1, d2, d3, d4, d5] }
  | _ => none }
def broadcastExactRow : OpenClaim := { program := "ytnjkbgcfpbbglaagreat", sum := "0e5329a398bca91dd0d90734bb06791ab58203279200470804a206583ebd592a", func := "forkledger/forkledgerlaw15.BroadcastExact", spec := "broadcastExact", inPlace := ["internal/reflectlite.ValueOf", "internal/reflectlite.Swapper", "(internal/reflectlite.Value).Len"], unfollowed := true, recurses := true, plainKeys := false, apart := false }
def BroadcastExactSaid : Prop := broadcastExactRow.holds Tryz.pinned (OpenSpec.ofChange broadcastExactSpec)

/-- ITS FALSE NEIGHBOUR: 'it returns false'. Refute it at one input. -/
def broadcastExactWrong : ChangeSpec := { name := "broadcastExact", fn := fun _ => fun
  | [d1, d2, d3, d4, d5] => { results := [.lit (.bool false)], args := [d1, d2, d3, d4, d5] }
  | _ => none }
def BroadcastExactWrongFalsely : Prop := broadcastExactRow.holds Tryz.pinned (OpenSpec.ofChange broadcastExactWrong)

/-- 'forkledgerlaw12.AcceptExact': WHATEVER THE INPUT: true; the input reads as it did. -/
def acceptExactSpec : ChangeSpec := { name := "acceptExact", fn := fun _ => fun
  | [d1, d2, d3, d4, d5] => { results := [.lit (.bool true)], args := [d1, d2, d3, d4, d5] }
  | _ => none }
def acceptExactRow : OpenClaim := { program := "ytnjkbgcfpbbglaagreat", sum := "0e5329a398bca91dd0d90734bb06791ab58203279200470804a206583ebd592a", func := "forkledger/forkledgerlaw12.AcceptExact", spec := "acceptExact", inPlace := ["internal/reflectlite.ValueOf", "internal/reflectlite.Swapper", "(internal/reflectlite.Value).Len"], unfollowed := true, recurses := true, plainKeys := false, apart := false }
def AcceptExactSaid : Prop := acceptExactRow.holds Tryz.pinned (OpenSpec.ofChange acceptExactSpec)

/-- ITS FALSE NEIGHBOUR: 'it returns false'. Refute it at one input. -/
def acceptExactWrong : ChangeSpec := { name := "acceptExact", fn := fun _ => fun
  | [d1, d2, d3, d4, d5] => { results := [.lit (.bool false)], args := [d1, d2, d3, d4, d5] }
  | _ => none }
def AcceptExactWrongFalsely : Prop := acceptExactRow.holds Tryz.pinned (OpenSpec.ofChange acceptExactWrong)

/-- 'forkledgerlaw13.CertificateExact': WHATEVER THE INPUT: true; the input reads as it did. -/
def certificateExactSpec : ChangeSpec := { name := "certificateExact", fn := fun _ => fun
  | [d1, d2, d3, d4] => { results := [.lit (.bool true)], args := [d1, d2, d3, d4] }
  | _ => none }
def certificateExactRow : OpenClaim := { program := "ytnjkbgcfpbbglaagreat", sum := "0e5329a398bca91dd0d90734bb06791ab58203279200470804a206583ebd592a", func := "forkledger/forkledgerlaw13.CertificateExact", spec := "certificateExact", inPlace := ["internal/reflectlite.ValueOf", "internal/reflectlite.Swapper", "(internal/reflectlite.Value).Len"], unfollowed := true, recurses := true, plainKeys := false, apart := false }
def CertificateExactSaid : Prop := certificateExactRow.holds Tryz.pinned (OpenSpec.ofChange certificateExactSpec)

/-- ITS FALSE NEIGHBOUR: 'it returns false'. Refute it at one input. -/
def certificateExactWrong : ChangeSpec := { name := "certificateExact", fn := fun _ => fun
  | [d1, d2, d3, d4] => { results := [.lit (.bool false)], args := [d1, d2, d3, d4] }
  | _ => none }
def CertificateExactWrongFalsely : Prop := certificateExactRow.holds Tryz.pinned (OpenSpec.ofChange certificateExactWrong)

/-- 'forkledgerlaw13.CertificateSlots': WHATEVER THE INPUT: true; the input reads as it did. -/
def certificateSlotsSpec : ChangeSpec := { name := "certificateSlots", fn := fun _ => fun
  | [d1, d2, d3] => { results := [.lit (.bool true)], args := [d1, d2, d3] }
  | _ => none }
def certificateSlotsRow : OpenClaim := { program := "ytnjkbgcfpbbglaagreat", sum := "0e5329a398bca91dd0d90734bb06791ab58203279200470804a206583ebd592a", func := "forkledger/forkledgerlaw13.CertificateSlots", spec := "certificateSlots", inPlace := ["internal/reflectlite.ValueOf", "internal/reflectlite.Swapper", "(internal/reflectlite.Value).Len"], unfollowed := true, recurses := true, plainKeys := false, apart := false }
def CertificateSlotsSaid : Prop := certificateSlotsRow.holds Tryz.pinned (OpenSpec.ofChange certificateSlotsSpec)

/-- ITS FALSE NEIGHBOUR: 'it returns false'. Refute it at one input. -/
def certificateSlotsWrong : ChangeSpec := { name := "certificateSlots", fn := fun _ => fun
  | [d1, d2, d3] => { results := [.lit (.bool false)], args := [d1, d2, d3] }
  | _ => none }
def CertificateSlotsWrongFalsely : Prop := certificateSlotsRow.holds Tryz.pinned (OpenSpec.ofChange certificateSlotsWrong)

/-- 'forkledgerlaw16.AgreementNext': WHATEVER THE INPUT: true; the input reads as it did. -/
def agreementNextSpec : ChangeSpec := { name := "agreementNext", fn := fun _ => fun
  | [d1, d2, d3, d4, d5, d6, d7] => { results := [.lit (.bool true)], args := [d1, d2, d3, d4, d5, d6, d7] }
  | _ => none }
def agreementNextRow : OpenClaim := { program := "ytnjkbgcfpbbglaagreat", sum := "0e5329a398bca91dd0d90734bb06791ab58203279200470804a206583ebd592a", func := "forkledger/forkledgerlaw16.AgreementNext", spec := "agreementNext", inPlace := ["internal/reflectlite.ValueOf", "internal/reflectlite.Swapper", "(internal/reflectlite.Value).Len"], unfollowed := true, recurses := true, plainKeys := false, apart := false }
def AgreementNextSaid : Prop := agreementNextRow.holds Tryz.pinned (OpenSpec.ofChange agreementNextSpec)

/-- ITS FALSE NEIGHBOUR: 'it returns false'. Refute it at one input. -/
def agreementNextWrong : ChangeSpec := { name := "agreementNext", fn := fun _ => fun
  | [d1, d2, d3, d4, d5, d6, d7] => { results := [.lit (.bool false)], args := [d1, d2, d3, d4, d5, d6, d7] }
  | _ => none }
def AgreementNextWrongFalsely : Prop := agreementNextRow.holds Tryz.pinned (OpenSpec.ofChange agreementNextWrong)

/-- 'forkledgerlaw16.AgreementEach': WHATEVER THE INPUT: true; the input reads as it did. -/
def agreementEachSpec : ChangeSpec := { name := "agreementEach", fn := fun _ => fun
  | [d1, d2, d3, d4] => { results := [.lit (.bool true)], args := [d1, d2, d3, d4] }
  | _ => none }
def agreementEachRow : OpenClaim := { program := "ytnjkbgcfpbbglaagreat", sum := "0e5329a398bca91dd0d90734bb06791ab58203279200470804a206583ebd592a", func := "forkledger/forkledgerlaw16.AgreementEach", spec := "agreementEach", inPlace := ["internal/reflectlite.ValueOf", "internal/reflectlite.Swapper", "(internal/reflectlite.Value).Len"], unfollowed := true, recurses := true, plainKeys := false, apart := false }
def AgreementEachSaid : Prop := agreementEachRow.holds Tryz.pinned (OpenSpec.ofChange agreementEachSpec)

/-- ITS FALSE NEIGHBOUR: 'it returns false'. Refute it at one input. -/
def agreementEachWrong : ChangeSpec := { name := "agreementEach", fn := fun _ => fun
  | [d1, d2, d3, d4] => { results := [.lit (.bool false)], args := [d1, d2, d3, d4] }
  | _ => none }
def AgreementEachWrongFalsely : Prop := agreementEachRow.holds Tryz.pinned (OpenSpec.ofChange agreementEachWrong)

/-- 'forkledgerlaw16.AgreementDone': WHATEVER THE INPUT: true; the input reads as it did. -/
def agreementDoneSpec : ChangeSpec := { name := "agreementDone", fn := fun _ => fun
  | [d1, d2, d3, d4, d5, d6] => { results := [.lit (.bool true)], args := [d1, d2, d3, d4, d5, d6] }
  | _ => none }
def agreementDoneRow : OpenClaim := { program := "ytnjkbgcfpbbglaagreat", sum := "0e5329a398bca91dd0d90734bb06791ab58203279200470804a206583ebd592a", func := "forkledger/forkledgerlaw16.AgreementDone", spec := "agreementDone", inPlace := ["internal/reflectlite.ValueOf", "internal/reflectlite.Swapper", "(internal/reflectlite.Value).Len"], unfollowed := true, recurses := true, plainKeys := false, apart := false }
def AgreementDoneSaid : Prop := agreementDoneRow.holds Tryz.pinned (OpenSpec.ofChange agreementDoneSpec)

/-- ITS FALSE NEIGHBOUR: 'it returns false'. Refute it at one input. -/
def agreementDoneWrong : ChangeSpec := { name := "agreementDone", fn := fun _ => fun
  | [d1, d2, d3, d4, d5, d6] => { results := [.lit (.bool false)], args := [d1, d2, d3, d4, d5, d6] }
  | _ => none }
def AgreementDoneWrongFalsely : Prop := agreementDoneRow.holds Tryz.pinned (OpenSpec.ofChange agreementDoneWrong)

/-- 'forkledgerlaw16.AgreementAlike': WHATEVER THE INPUT: true; the input reads as it did. -/
def agreementAlikeSpec : ChangeSpec := { name := "agreementAlike", fn := fun _ => fun
  | [d1, d2, d3, d4, d5, d6, d7, d8] => { results := [.lit (.bool true)], args := [d1, d2, d3, d4, d5, d6, d7, d8] }
  | _ => none }
def agreementAlikeRow : OpenClaim := { program := "ytnjkbgcfpbbglaagreat", sum := "0e5329a398bca91dd0d90734bb06791ab58203279200470804a206583ebd592a", func := "forkledger/forkledgerlaw16.AgreementAlike", spec := "agreementAlike", inPlace := ["internal/reflectlite.ValueOf", "internal/reflectlite.Swapper", "(internal/reflectlite.Value).Len"], unfollowed := true, recurses := true, plainKeys := false, apart := false }
def AgreementAlikeSaid : Prop := agreementAlikeRow.holds Tryz.pinned (OpenSpec.ofChange agreementAlikeSpec)

/-- ITS FALSE NEIGHBOUR: 'it returns false'. Refute it at one input. -/
def agreementAlikeWrong : ChangeSpec := { name := "agreementAlike", fn := fun _ => fun
  | [d1, d2, d3, d4, d5, d6, d7, d8] => { results := [.lit (.bool false)], args := [d1, d2, d3, d4, d5, d6, d7, d8] }
  | _ => none }
def AgreementAlikeWrongFalsely : Prop := agreementAlikeRow.holds Tryz.pinned (OpenSpec.ofChange agreementAlikeWrong)

/-- 'forkledgerlaw16.AgreementAllowed': WHATEVER THE INPUT: true; the input reads as it did. -/
def agreementAllowedSpec : ChangeSpec := { name := "agreementAllowed", fn := fun _ => fun
  | [d1, d2, d3, d4, d5, d6, d7] => { results := [.lit (.bool true)], args := [d1, d2, d3, d4, d5, d6, d7] }
  | _ => none }
def agreementAllowedRow : OpenClaim := { program := "ytnjkbgcfpbbglaagreat", sum := "0e5329a398bca91dd0d90734bb06791ab58203279200470804a206583ebd592a", func := "forkledger/forkledgerlaw16.AgreementAllowed", spec := "agreementAllowed", inPlace := ["internal/reflectlite.ValueOf", "internal/reflectlite.Swapper", "(internal/reflectlite.Value).Len"], unfollowed := true, recurses := true, plainKeys := false, apart := false }
def AgreementAllowedSaid : Prop := agreementAllowedRow.holds Tryz.pinned (OpenSpec.ofChange agreementAllowedSpec)

/-- ITS FALSE NEIGHBOUR: 'it returns false'. Refute it at one input. -/
def agreementAllowedWrong : ChangeSpec := { name := "agreementAllowed", fn := fun _ => fun
  | [d1, d2, d3, d4, d5, d6, d7] => { results := [.lit (.bool false)], args := [d1, d2, d3, d4, d5, d6, d7] }
  | _ => none }
def AgreementAllowedWrongFalsely : Prop := agreementAllowedRow.holds Tryz.pinned (OpenSpec.ofChange agreementAllowedWrong)

/-- 'forkledgerlaw16.AgreementHonest': WHATEVER THE INPUT: true; the input reads as it did. -/
def agreementHonestSpec : ChangeSpec := { name := "agreementHonest", fn := fun _ => fun
  | [d1, d2, d3, d4, d5, d6, d7] => { results := [.lit (.bool true)], args := [d1, d2, d3, d4, d5, d6, d7] }
  | _ => none }
def agreementHonestRow : OpenClaim := { program := "ytnjkbgcfpbbglaagreat", sum := "0e5329a398bca91dd0d90734bb06791ab58203279200470804a206583ebd592a", func := "forkledger/forkledgerlaw16.AgreementHonest", spec := "agreementHonest", inPlace := ["internal/reflectlite.ValueOf", "internal/reflectlite.Swapper", "(internal/reflectlite.Value).Len"], unfollowed := true, recurses := true, plainKeys := false, apart := false }
def AgreementHonestSaid : Prop := agreementHonestRow.holds Tryz.pinned (OpenSpec.ofChange agreementHonestSpec)

/-- ITS FALSE NEIGHBOUR: 'it returns false'. Refute it at one input. -/
def agreementHonestWrong : ChangeSpec := { name := "agreementHonest", fn := fun _ => fun
  | [d1, d2, d3, d4, d5, d6, d7] => { results := [.lit (.bool false)], args := [d1, d2, d3, d4, d5, d6, d7] }
  | _ => none }
def AgreementHonestWrongFalsely : Prop := agreementHonestRow.holds Tryz.pinned (OpenSpec.ofChange agreementHonestWrong)

/-- 'forkledgerlaw17.SuperblockFirst': WHATEVER THE INPUT: true; the input reads as it did. -/
def superblockFirstSpec : ChangeSpec := { name := "superblockFirst", fn := fun _ => fun
  | [d1, d2, d3, d4, d5, d6] => { results := [.lit (.bool true)], args := [d1, d2, d3, d4, d5, d6] }
  | _ => none }
def superblockFirstRow : OpenClaim := { program := "ytnjkbgcfpbbglaagreat", sum := "0e5329a398bca91dd0d90734bb06791ab58203279200470804a206583ebd592a", func := "forkledger/forkledgerlaw17.SuperblockFirst", spec := "superblockFirst", inPlace := ["internal/reflectlite.ValueOf", "internal/reflectlite.Swapper", "(internal/reflectlite.Value).Len"], unfollowed := true, recurses := true, plainKeys := false, apart := false }
def SuperblockFirstSaid : Prop := superblockFirstRow.holds Tryz.pinned (OpenSpec.ofChange superblockFirstSpec)

/-- ITS FALSE NEIGHBOUR: 'it returns false'. Refute it at one input. -/
def superblockFirstWrong : ChangeSpec := { name := "superblockFirst", fn := fun _ => fun
  | [d1, d2, d3, d4, d5, d6] => { results := [.lit (.bool false)], args := [d1, d2, d3, d4, d5, d6] }
  | _ => none }
def SuperblockFirstWrongFalsely : Prop := superblockFirstRow.holds Tryz.pinned (OpenSpec.ofChange superblockFirstWrong)

/- THE SECOND FORM. 'bulk': how many values and letters a reading holds, each counted each time it is reached (what is shared counts as often as it is met; a slice's spare places count too). A statement '..UptoSaid' is the law's where the arguments, and the package variables that the reading takes, are together of bulk at most 1048576: NARROWER than '..Said'. Prove '..Said' where nothing that the law and all that it calls make is longer than what came in: it says more and counts as full. Else prove '..UptoSaid'. A law counts once. -/
mutual
def uptoBulk {H : Type} : DataW H → Nat
  | .lit (.string bytes) => bytes.length + 1
  | .lit _ => 1
  | .nil => 1
  | .ptr d => uptoBulk d + 1
  | .slice elems spare => uptoBulkAll elems + uptoBulkAll spare + 1
  | .agg parts => uptoBulkAll parts + 1
  | .iface _ d => uptoBulk d + 1
  | .map entries => uptoBulkEntries entries + 1
  | .held _ => 1
def uptoBulkAll {H : Type} : List (DataW H) → Nat
  | [] => 0
  | d :: r => uptoBulk d + uptoBulkAll r
def uptoBulkEntries {H : Type} : List (Lit × DataW H) → Nat
  | [] => 0
  | x :: r => uptoBulkEntry x + uptoBulkEntries r
def uptoBulkEntry {H : Type} : Lit × DataW H → Nat
  | (.string bytes, d) => bytes.length + uptoBulk d + 1
  | (_, d) => uptoBulk d + 1
 end
def uptoSmall : (H : Type) → List (DataW H) → Bool := fun _ ds => decide (uptoBulkAll ds ≤ 1048576)
def OpenSpec.upto (s : _root_.Go.ChangeSpec) : _root_.Go.OpenSpec := { _root_.Go.OpenSpec.ofChange s with cond := some uptoSmall }

/-- 'forkledgerlaw15.BroadcastExact', WHERE WHAT IT READS IS OF BULK AT MOST 1048576: true; the input reads as it did. -/
def broadcastExactUptoRow : OpenClaim := { program := "ytnjkbgcfpbbglaagreat", sum := "0e5329a398bca91dd0d90734bb06791ab58203279200470804a206583ebd592a", func := "forkledger/forkledgerlaw15.BroadcastExact", spec := "broadcastExact", inPlace := ["internal/reflectlite.ValueOf", "internal/reflectlite.Swapper", "(internal/reflectlite.Value).Len"], unfollowed := true, recurses := true, plainKeys := false, apart := false, narrowed := true }
def BroadcastExactUptoSaid : Prop := broadcastExactUptoRow.holds Tryz.pinned (OpenSpec.upto broadcastExactSpec)

/-- 'forkledgerlaw12.AcceptExact', WHERE WHAT IT READS IS OF BULK AT MOST 1048576: true; the input reads as it did. -/
def acceptExactUptoRow : OpenClaim := { program := "ytnjkbgcfpbbglaagreat", sum := "0e5329a398bca91dd0d90734bb06791ab58203279200470804a206583ebd592a", func := "forkledger/forkledgerlaw12.AcceptExact", spec := "acceptExact", inPlace := ["internal/reflectlite.ValueOf", "internal/reflectlite.Swapper", "(internal/reflectlite.Value).Len"], unfollowed := true, recurses := true, plainKeys := false, apart := false, narrowed := true }
def AcceptExactUptoSaid : Prop := acceptExactUptoRow.holds Tryz.pinned (OpenSpec.upto acceptExactSpec)

/-- 'forkledgerlaw13.CertificateExact', WHERE WHAT IT READS IS OF BULK AT MOST 1048576: true; the input reads as it did. -/
def certificateExactUptoRow : OpenClaim := { program := "ytnjkbgcfpbbglaagreat", sum := "0e5329a398bca91dd0d90734bb06791ab58203279200470804a206583ebd592a", func := "forkledger/forkledgerlaw13.CertificateExact", spec := "certificateExact", inPlace := ["internal/reflectlite.ValueOf", "internal/reflectlite.Swapper", "(internal/reflectlite.Value).Len"], unfollowed := true, recurses := true, plainKeys := false, apart := false, narrowed := true }
def CertificateExactUptoSaid : Prop := certificateExactUptoRow.holds Tryz.pinned (OpenSpec.upto certificateExactSpec)

/-- 'forkledgerlaw13.CertificateSlots', WHERE WHAT IT READS IS OF BULK AT MOST 1048576: true; the input reads as it did. -/
def certificateSlotsUptoRow : OpenClaim := { program := "ytnjkbgcfpbbglaagreat", sum := "0e5329a398bca91dd0d90734bb06791ab58203279200470804a206583ebd592a", func := "forkledger/forkledgerlaw13.CertificateSlots", spec := "certificateSlots", inPlace := ["internal/reflectlite.ValueOf", "internal/reflectlite.Swapper", "(internal/reflectlite.Value).Len"], unfollowed := true, recurses := true, plainKeys := false, apart := false, narrowed := true }
def CertificateSlotsUptoSaid : Prop := certificateSlotsUptoRow.holds Tryz.pinned (OpenSpec.upto certificateSlotsSpec)

/-- 'forkledgerlaw16.AgreementNext', WHERE WHAT IT READS IS OF BULK AT MOST 1048576: true; the input reads as it did. -/
def agreementNextUptoRow : OpenClaim := { program := "ytnjkbgcfpbbglaagreat", sum := "0e5329a398bca91dd0d90734bb06791ab58203279200470804a206583ebd592a", func := "forkledger/forkledgerlaw16.AgreementNext", spec := "agreementNext", inPlace := ["internal/reflectlite.ValueOf", "internal/reflectlite.Swapper", "(internal/reflectlite.Value).Len"], unfollowed := true, recurses := true, plainKeys := false, apart := false, narrowed := true }
def AgreementNextUptoSaid : Prop := agreementNextUptoRow.holds Tryz.pinned (OpenSpec.upto agreementNextSpec)

/-- 'forkledgerlaw16.AgreementEach', WHERE WHAT IT READS IS OF BULK AT MOST 1048576: true; the input reads as it did. -/
def agreementEachUptoRow : OpenClaim := { program := "ytnjkbgcfpbbglaagreat", sum := "0e5329a398bca91dd0d90734bb06791ab58203279200470804a206583ebd592a", func := "forkledger/forkledgerlaw16.AgreementEach", spec := "agreementEach", inPlace := ["internal/reflectlite.ValueOf", "internal/reflectlite.Swapper", "(internal/reflectlite.Value).Len"], unfollowed := true, recurses := true, plainKeys := false, apart := false, narrowed := true }
def AgreementEachUptoSaid : Prop := agreementEachUptoRow.holds Tryz.pinned (OpenSpec.upto agreementEachSpec)

/-- 'forkledgerlaw16.AgreementDone', WHERE WHAT IT READS IS OF BULK AT MOST 1048576: true; the input reads as it did. -/
def agreementDoneUptoRow : OpenClaim := { program := "ytnjkbgcfpbbglaagreat", sum := "0e5329a398bca91dd0d90734bb06791ab58203279200470804a206583ebd592a", func := "forkledger/forkledgerlaw16.AgreementDone", spec := "agreementDone", inPlace := ["internal/reflectlite.ValueOf", "internal/reflectlite.Swapper", "(internal/reflectlite.Value).Len"], unfollowed := true, recurses := true, plainKeys := false, apart := false, narrowed := true }
def AgreementDoneUptoSaid : Prop := agreementDoneUptoRow.holds Tryz.pinned (OpenSpec.upto agreementDoneSpec)

/-- 'forkledgerlaw16.AgreementAlike', WHERE WHAT IT READS IS OF BULK AT MOST 1048576: true; the input reads as it did. -/
def agreementAlikeUptoRow : OpenClaim := { program := "ytnjkbgcfpbbglaagreat", sum := "0e5329a398bca91dd0d90734bb06791ab58203279200470804a206583ebd592a", func := "forkledger/forkledgerlaw16.AgreementAlike", spec := "agreementAlike", inPlace := ["internal/reflectlite.ValueOf", "internal/reflectlite.Swapper", "(internal/reflectlite.Value).Len"], unfollowed := true, recurses := true, plainKeys := false, apart := false, narrowed := true }
def AgreementAlikeUptoSaid : Prop := agreementAlikeUptoRow.holds Tryz.pinned (OpenSpec.upto agreementAlikeSpec)

/-- 'forkledgerlaw16.AgreementAllowed', WHERE WHAT IT READS IS OF BULK AT MOST 1048576: true; the input reads as it did. -/
def agreementAllowedUptoRow : OpenClaim := { program := "ytnjkbgcfpbbglaagreat", sum := "0e5329a398bca91dd0d90734bb06791ab58203279200470804a206583ebd592a", func := "forkledger/forkledgerlaw16.AgreementAllowed", spec := "agreementAllowed", inPlace := ["internal/reflectlite.ValueOf", "internal/reflectlite.Swapper", "(internal/reflectlite.Value).Len"], unfollowed := true, recurses := true, plainKeys := false, apart := false, narrowed := true }
def AgreementAllowedUptoSaid : Prop := agreementAllowedUptoRow.holds Tryz.pinned (OpenSpec.upto agreementAllowedSpec)

/-- 'forkledgerlaw16.AgreementHonest', WHERE WHAT IT READS IS OF BULK AT MOST 1048576: true; the input reads as it did. -/
def agreementHonestUptoRow : OpenClaim := { program := "ytnjkbgcfpbbglaagreat", sum := "0e5329a398bca91dd0d90734bb06791ab58203279200470804a206583ebd592a", func := "forkledger/forkledgerlaw16.AgreementHonest", spec := "agreementHonest", inPlace := ["internal/reflectlite.ValueOf", "internal/reflectlite.Swapper", "(internal/reflectlite.Value).Len"], unfollowed := true, recurses := true, plainKeys := false, apart := false, narrowed := true }
def AgreementHonestUptoSaid : Prop := agreementHonestUptoRow.holds Tryz.pinned (OpenSpec.upto agreementHonestSpec)

/-- 'forkledgerlaw17.SuperblockFirst', WHERE WHAT IT READS IS OF BULK AT MOST 1048576: true; the input reads as it did. -/
def superblockFirstUptoRow : OpenClaim := { program := "ytnjkbgcfpbbglaagreat", sum := "0e5329a398bca91dd0d90734bb06791ab58203279200470804a206583ebd592a", func := "forkledger/forkledgerlaw17.SuperblockFirst", spec := "superblockFirst", inPlace := ["internal/reflectlite.ValueOf", "internal/reflectlite.Swapper", "(internal/reflectlite.Value).Len"], unfollowed := true, recurses := true, plainKeys := false, apart := false, narrowed := true }
def SuperblockFirstUptoSaid : Prop := superblockFirstUptoRow.holds Tryz.pinned (OpenSpec.upto superblockFirstSpec)

end Rows
end Go.Proofs.YtnjkbgcfpbbglaaGreat
