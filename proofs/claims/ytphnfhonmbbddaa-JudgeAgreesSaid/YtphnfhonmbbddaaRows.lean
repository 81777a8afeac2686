/-
  No cell of these rows narrows 'for every input' (looked for: loops, veiled, ifaces, maps, wideKeys, modest, calm, conditions, laid).
  DERIVED. THE GIVEN ROWS OF THIS SEAT. 10 by the template 'for every input the law returns true; each argument reads behind the call as it read before'; 0 by the template 'total and deterministic' (their statements: YtphnfhonmbbddaaTotals.lean).
  GIVEN WITH THE SEED: the statements are not yours to turn. If you find one false, say at which input.
  Laid BY PROGRAM, IN A SANDBOX (cutbox-rows.mjs): the forced cells as the released guide's own fill.sh prints them over the translation aa7398e420c0c8f5… (all of the seat's roots in one cut). By AI agents, Wed Nov 11 2026. No macro, syntax, notation, axiom, sorry.
-/
import Derived.Test.YtphnfhonmbbddaaChecked
import GoSem.Claim
import GoSem.ClaimJoined
import GoSem.ClaimMapViews
import Derived.JoinedTies
import Derived.KernelRfl
namespace Go.Proofs.Ytphnfhonmbbddaa
/- THE CELL 'sum', in the pinned program and in every row, IS THE sha256 OF THE DUMP (.gsa) THAT YtphnfhonmbbddaaProg.lean LOADS. Nothing in Lean hashes anything: it is a label: what it is worth is what the hold of that sum in a sandbox is worth. -/
noncomputable def Try.pinned : Pinned := { name := "ytphnfhonmbbddaa", sum := "aa7398e420c0c8f5d63905b62eee402e9a4a285e5fc5addeb5cb5d72c08a7757", checked := Try.checked }
namespace Rows
def none {H : Type} : Left H := { results := [], args := [] }

/-- 'forkledgerlaw14.JudgeDecides': WHATEVER THE INPUT: true; the input reads as it did. -/
def judgeDecidesSpec : ChangeSpec := { name := "judgeDecides", fn := fun _ => fun
  | [d] => { results := [.lit (.bool true)], args := [d] }
  | _ => none }
def judgeDecidesRow : OpenClaim := { program := "ytphnfhonmbbddaa", sum := "aa7398e420c0c8f5d63905b62eee402e9a4a285e5fc5addeb5cb5d72c08a7757", func := "forkledger/forkledgerlaw14.JudgeDecides", spec := "judgeDecides", plainKeys := false, apart := false }
def JudgeDecidesSaid : Prop := judgeDecidesRow.holds Try.pinned (OpenSpec.ofChange judgeDecidesSpec)

/-- ITS FALSE NEIGHBOUR: 'it returns false'. Refute it at one input. -/
def judgeDecidesWrong : ChangeSpec := { name := "judgeDecides", fn := fun _ => fun
  | [d] => { results := [.lit (.bool false)], args := [d] }
  | _ => none }
def JudgeDecidesWrongFalsely : Prop := judgeDecidesRow.holds Try.pinned (OpenSpec.ofChange judgeDecidesWrong)

/-- 'forkledgerlaw14.JudgeSearches': WHATEVER THE INPUT: true; the input reads as it did. -/
def judgeSearchesSpec : ChangeSpec := { name := "judgeSearches", fn := fun _ => fun
  | [d1, d2, d3] => { results := [.lit (.bool true)], args := [d1, d2, d3] }
  | _ => none }
def judgeSearchesRow : OpenClaim := { program := "ytphnfhonmbbddaa", sum := "aa7398e420c0c8f5d63905b62eee402e9a4a285e5fc5addeb5cb5d72c08a7757", func := "forkledger/forkledgerlaw14.JudgeSearches", spec := "judgeSearches", plainKeys := false, apart := false }
def JudgeSearchesSaid : Prop := judgeSearchesRow.holds Try.pinned (OpenSpec.ofChange judgeSearchesSpec)

/-- ITS FALSE NEIGHBOUR: 'it returns false'. Refute it at one input. -/
def judgeSearchesWrong : ChangeSpec := { name := "judgeSearches", fn := fun _ => fun
  | [d1, d2, d3] => { results := [.lit (.bool false)], args := [d1, d2, d3] }
  | _ => none }
def JudgeSearchesWrongFalsely : Prop := judgeSearchesRow.holds Try.pinned (OpenSpec.ofChange judgeSearchesWrong)

/-- 'forkledgerlaw14.JudgeGrows': WHATEVER THE INPUT: true; the input reads as it did. -/
def judgeGrowsSpec : ChangeSpec := { name := "judgeGrows", fn := fun _ => fun
  | [d1, d2, d3, d4] => { results := [.lit (.bool true)], args := [d1, d2, d3, d4] }
  | _ => none }
def judgeGrowsRow : OpenClaim := { program := "ytphnfhonmbbddaa", sum := "aa7398e420c0c8f5d63905b62eee402e9a4a285e5fc5addeb5cb5d72c08a7757", func := "forkledger/forkledgerlaw14.JudgeGrows", spec := "judgeGrows", unfollowed := true, recurses := true, plainKeys := false, apart := false }
def JudgeGrowsSaid : Prop := judgeGrowsRow.holds Try.pinned (OpenSpec.ofChange judgeGrowsSpec)

/-- ITS FALSE NEIGHBOUR: 'it returns false'. Refute it at one input. -/
def judgeGrowsWrong : ChangeSpec := { name := "judgeGrows", fn := fun _ => fun
  | [d1, d2, d3, d4] => { results := [.lit (.bool false)], args := [d1, d2, d3, d4] }
  | _ => none }
def JudgeGrowsWrongFalsely : Prop := judgeGrowsRow.holds Try.pinned (OpenSpec.ofChange judgeGrowsWrong)

/-- 'forkledgerlaw14.JudgeTight': WHATEVER THE INPUT: true; the input reads as it did. -/
def judgeTightSpec : ChangeSpec := { name := "judgeTight", fn := fun _ => fun
  | [d] => { results := [.lit (.bool true)], args := [d] }
  | _ => none }
def judgeTightRow : OpenClaim := { program := "ytphnfhonmbbddaa", sum := "aa7398e420c0c8f5d63905b62eee402e9a4a285e5fc5addeb5cb5d72c08a7757", func := "forkledger/forkledgerlaw14.JudgeTight", spec := "judgeTight", plainKeys := false, apart := false }
def JudgeTightSaid : Prop := judgeTightRow.holds Try.pinned (OpenSpec.ofChange judgeTightSpec)

/-- ITS FALSE NEIGHBOUR: 'it returns false'. Refute it at one input. -/
def judgeTightWrong : ChangeSpec := { name := "judgeTight", fn := fun _ => fun
  | [d] => { results := [.lit (.bool false)], args := [d] }
  | _ => none }
def JudgeTightWrongFalsely : Prop := judgeTightRow.holds Try.pinned (OpenSpec.ofChange judgeTightWrong)

/-- 'forkledgerlaw14.JudgeRounds': WHATEVER THE INPUT: true; the input reads as it did. -/
def judgeRoundsSpec : ChangeSpec := { name := "judgeRounds", fn := fun _ => fun
  | [] => { results := [.lit (.bool true)], args := [] }
  | _ => none }
def judgeRoundsRow : OpenClaim := { program := "ytphnfhonmbbddaa", sum := "aa7398e420c0c8f5d63905b62eee402e9a4a285e5fc5addeb5cb5d72c08a7757", func := "forkledger/forkledgerlaw14.JudgeRounds", spec := "judgeRounds", plainKeys := false, apart := false }
def JudgeRoundsSaid : Prop := judgeRoundsRow.holds Try.pinned (OpenSpec.ofChange judgeRoundsSpec)

/-- ITS FALSE NEIGHBOUR: 'it returns false'. Refute it at one input. -/
def judgeRoundsWrong : ChangeSpec := { name := "judgeRounds", fn := fun _ => fun
  | [] => { results := [.lit (.bool false)], args := [] }
  | _ => none }
def JudgeRoundsWrongFalsely : Prop := judgeRoundsRow.holds Try.pinned (OpenSpec.ofChange judgeRoundsWrong)

/-- 'forkledgerlaw14.JudgeForks': WHATEVER THE INPUT: true; the input reads as it did. -/
def judgeForksSpec : ChangeSpec := { name := "judgeForks", fn := fun _ => fun
  | [d1, d2, d3] => { results := [.lit (.bool true)], args := [d1, d2, d3] }
  | _ => none }
def judgeForksRow : OpenClaim := { program := "ytphnfhonmbbddaa", sum := "aa7398e420c0c8f5d63905b62eee402e9a4a285e5fc5addeb5cb5d72c08a7757", func := "forkledger/forkledgerlaw14.JudgeForks", spec := "judgeForks", unfollowed := true, recurses := true, plainKeys := false, apart := false }
def JudgeForksSaid : Prop := judgeForksRow.holds Try.pinned (OpenSpec.ofChange judgeForksSpec)

/-- ITS FALSE NEIGHBOUR: 'it returns false'. Refute it at one input. -/
def judgeForksWrong : ChangeSpec := { name := "judgeForks", fn := fun _ => fun
  | [d1, d2, d3] => { results := [.lit (.bool false)], args := [d1, d2, d3] }
  | _ => none }
def JudgeForksWrongFalsely : Prop := judgeForksRow.holds Try.pinned (OpenSpec.ofChange judgeForksWrong)

/-- 'forkledgerlaw13.CertificateStands': WHATEVER THE INPUT: true; the input reads as it did. -/
def certificateStandsSpec : ChangeSpec := { name := "certificateStands", fn := fun _ => fun
  | [d1, d2, d3, d4] => { results := [.lit (.bool true)], args := [d1, d2, d3, d4] }
  | _ => none }
def certificateStandsRow : OpenClaim := { program := "ytphnfhonmbbddaa", sum := "aa7398e420c0c8f5d63905b62eee402e9a4a285e5fc5addeb5cb5d72c08a7757", func := "forkledger/forkledgerlaw13.CertificateStands", spec := "certificateStands", inPlace := ["internal/reflectlite.ValueOf", "internal/reflectlite.Swapper", "(internal/reflectlite.Value).Len"], unfollowed := true, recurses := true, plainKeys := false, apart := false }
def CertificateStandsSaid : Prop := certificateStandsRow.holds Try.pinned (OpenSpec.ofChange certificateStandsSpec)

/-- ITS FALSE NEIGHBOUR: 'it returns false'. Refute it at one input. -/
def certificateStandsWrong : ChangeSpec := { name := "certificateStands", fn := fun _ => fun
  | [d1, d2, d3, d4] => { results := [.lit (.bool false)], args := [d1, d2, d3, d4] }
  | _ => none }
def CertificateStandsWrongFalsely : Prop := certificateStandsRow.holds Try.pinned (OpenSpec.ofChange certificateStandsWrong)

/-- 'forkledgerlaw13.CertificateSheds': WHATEVER THE INPUT: true; the input reads as it did. -/
def certificateShedsSpec : ChangeSpec := { name := "certificateSheds", fn := fun _ => fun
  | [d1, d2, d3, d4, d5] => { results := [.lit (.bool true)], args := [d1, d2, d3, d4, d5] }
  | _ => none }
def certificateShedsRow : OpenClaim := { program := "ytphnfhonmbbddaa", sum := "aa7398e420c0c8f5d63905b62eee402e9a4a285e5fc5addeb5cb5d72c08a7757", func := "forkledger/forkledgerlaw13.CertificateSheds", spec := "certificateSheds", inPlace := ["internal/reflectlite.ValueOf", "internal/reflectlite.Swapper", "(internal/reflectlite.Value).Len"], unfollowed := true, recurses := true, plainKeys := false, apart := false }
def CertificateShedsSaid : Prop := certificateShedsRow.holds Try.pinned (OpenSpec.ofChange certificateShedsSpec)

/-- ITS FALSE NEIGHBOUR: 'it returns false'. Refute it at one input. -/
def certificateShedsWrong : ChangeSpec := { name := "certificateSheds", fn := fun _ => fun
  | [d1, d2, d3, d4, d5] => { results := [.lit (.bool false)], args := [d1, d2, d3, d4, d5] }
  | _ => none }
def CertificateShedsWrongFalsely : Prop := certificateShedsRow.holds Try.pinned (OpenSpec.ofChange certificateShedsWrong)

/-- 'forkledgerlaw13.CertificateAccounts': WHATEVER THE INPUT: true; the input reads as it did. -/
def certificateAccountsSpec : ChangeSpec := { name := "certificateAccounts", fn := fun _ => fun
  | [d1, d2, d3, d4, d5] => { results := [.lit (.bool true)], args := [d1, d2, d3, d4, d5] }
  | _ => none }
def certificateAccountsRow : OpenClaim := { program := "ytphnfhonmbbddaa", sum := "aa7398e420c0c8f5d63905b62eee402e9a4a285e5fc5addeb5cb5d72c08a7757", func := "forkledger/forkledgerlaw13.CertificateAccounts", spec := "certificateAccounts", inPlace := ["internal/reflectlite.ValueOf", "internal/reflectlite.Swapper", "(internal/reflectlite.Value).Len"], unfollowed := true, recurses := true, plainKeys := false, apart := false }
def CertificateAccountsSaid : Prop := certificateAccountsRow.holds Try.pinned (OpenSpec.ofChange certificateAccountsSpec)

/-- ITS FALSE NEIGHBOUR: 'it returns false'. Refute it at one input. -/
def certificateAccountsWrong : ChangeSpec := { name := "certificateAccounts", fn := fun _ => fun
  | [d1, d2, d3, d4, d5] => { results := [.lit (.bool false)], args := [d1, d2, d3, d4, d5] }
  | _ => none }
def CertificateAccountsWrongFalsely : Prop := certificateAccountsRow.holds Try.pinned (OpenSpec.ofChange certificateAccountsWrong)

/-- 'forkledgerlaw14.JudgeAgrees': WHATEVER THE INPUT: true; the input reads as it did. -/
def judgeAgreesSpec : ChangeSpec := { name := "judgeAgrees", fn := fun _ => fun
  | [d1, d2, d3] => { results := [.lit (.bool true)], args := [d1, d2, d3] }
  | _ => none }
def judgeAgreesRow : OpenClaim := { program := "ytphnfhonmbbddaa", sum := "aa7398e420c0c8f5d63905b62eee402e9a4a285e5fc5addeb5cb5d72c08a7757", func := "forkledger/forkledgerlaw14.JudgeAgrees", spec := "judgeAgrees", inPlace := ["internal/reflectlite.ValueOf", "internal/reflectlite.Swapper", "(internal/reflectlite.Value).Len"], unfollowed := true, recurses := true, plainKeys := false, apart := false }
def JudgeAgreesSaid : Prop := judgeAgreesRow.holds Try.pinned (OpenSpec.ofChange judgeAgreesSpec)

/-- ITS FALSE NEIGHBOUR: 'it returns false'. Refute it at one input. -/
def judgeAgreesWrong : ChangeSpec := { name := "judgeAgrees", fn := fun _ => fun
  | [d1, d2, d3] => { results := [.lit (.bool false)], args := [d1, d2, d3] }
  | _ => none }
def JudgeAgreesWrongFalsely : Prop := judgeAgreesRow.holds Try.pinned (OpenSpec.ofChange judgeAgreesWrong)

/- THE SECOND FORM. 'bulk': how many values and letters a reading holds, each counted each time it is reached (what is shared counts as often as it is met; a slice's spare places count too). A statement '..UptoSaid' is the law's where the arguments, and the package variables that the reading takes, are together of bulk at most 1048576: NARROWER than '..Said'. Prove '..Said' where nothing that the law and all that it calls make is longer than what came in: it says more and counts as full. Else prove '..UptoSaid'. A law counts once. -/
mutual
def uptoBulk {H : Type} : DataW H → Nat
  | .lit (.string bytes) => bytes.length + 1
  | .lit _ => 1
  | .nil => 1
  | .ptr d => uptoBulk d + 1
  | .slice elems spare => uptoBulkAll elems + uptoBulkAll spare + 1
  | .agg parts => uptoBulkAll parts + 1
  | .iface _ d => uptoBulk d + 1
  | .map entries => uptoBulkEntries entries + 1
  | .held _ => 1
def uptoBulkAll {H : Type} : List (DataW H) → Nat
  | [] => 0
  | d :: r => uptoBulk d + uptoBulkAll r
def uptoBulkEntries {H : Type} : List (Lit × DataW H) → Nat
  | [] => 0
  | x :: r => uptoBulkEntry x + uptoBulkEntries r
def uptoBulkEntry {H : Type} : Lit × DataW H → Nat
  | (.string bytes, d) => bytes.length + uptoBulk d + 1
  | (_, d) => uptoBulk d + 1
 end
def uptoSmall : (H : Type) → List (DataW H) → Bool := fun _ ds => decide (uptoBulkAll ds ≤ 1048576)
def OpenSpec.upto (s : _root_.Go.ChangeSpec) : _root_.Go.OpenSpec := { _root_.Go.OpenSpec.ofChange s with cond := some uptoSmall }

/-- 'forkledgerlaw14.JudgeDecides', WHERE WHAT IT READS IS OF BULK AT MOST 1048576: true; the input reads as it did. -/
def judgeDecidesUptoRow : OpenClaim := { program := "ytphnfhonmbbddaa", sum := "aa7398e420c0c8f5d63905b62eee402e9a4a285e5fc5addeb5cb5d72c08a7757", func := "forkledger/forkledgerlaw14.JudgeDecides", spec := "judgeDecides", plainKeys := false, apart := false, narrowed := true }
def JudgeDecidesUptoSaid : Prop := judgeDecidesUptoRow.holds Try.pinned (OpenSpec.upto judgeDecidesSpec)

/-- 'forkledgerlaw14.JudgeSearches', WHERE WHAT IT READS IS OF BULK AT MOST 1048576: true; the input reads as it did. -/
def judgeSearchesUptoRow : OpenClaim := { program := "ytphnfhonmbbddaa", sum := "aa7398e420c0c8f5d63905b62eee402e9a4a285e5fc5addeb5cb5d72c08a7757", func := "forkledger/forkledgerlaw14.JudgeSearches", spec := "judgeSearches", plainKeys := false, apart := false, narrowed := true }
def JudgeSearchesUptoSaid : Prop := judgeSearchesUptoRow.holds Try.pinned (OpenSpec.upto judgeSearchesSpec)

/-- 'forkledgerlaw14.JudgeGrows', WHERE WHAT IT READS IS OF BULK AT MOST 1048576: true; the input reads as it did. -/
def judgeGrowsUptoRow : OpenClaim := { program := "ytphnfhonmbbddaa", sum := "aa7398e420c0c8f5d63905b62eee402e9a4a285e5fc5addeb5cb5d72c08a7757", func := "forkledger/forkledgerlaw14.JudgeGrows", spec := "judgeGrows", unfollowed := true, recurses := true, plainKeys := false, apart := false, narrowed := true }
def JudgeGrowsUptoSaid : Prop := judgeGrowsUptoRow.holds Try.pinned (OpenSpec.upto judgeGrowsSpec)

/-- 'forkledgerlaw14.JudgeTight', WHERE WHAT IT READS IS OF BULK AT MOST 1048576: true; the input reads as it did. -/
def judgeTightUptoRow : OpenClaim := { program := "ytphnfhonmbbddaa", sum := "aa7398e420c0c8f5d63905b62eee402e9a4a285e5fc5addeb5cb5d72c08a7757", func := "forkledger/forkledgerlaw14.JudgeTight", spec := "judgeTight", plainKeys := false, apart := false, narrowed := true }
def JudgeTightUptoSaid : Prop := judgeTightUptoRow.holds Try.pinned (OpenSpec.upto judgeTightSpec)

/-- 'forkledgerlaw14.JudgeRounds', WHERE WHAT IT READS IS OF BULK AT MOST 1048576: true; the input reads as it did. -/
def judgeRoundsUptoRow : OpenClaim := { program := "ytphnfhonmbbddaa", sum := "aa7398e420c0c8f5d63905b62eee402e9a4a285e5fc5addeb5cb5d72c08a7757", func := "forkledger/forkledgerlaw14.JudgeRounds", spec := "judgeRounds", plainKeys := false, apart := false, narrowed := true }
def JudgeRoundsUptoSaid : Prop := judgeRoundsUptoRow.holds Try.pinned (OpenSpec.upto judgeRoundsSpec)

/-- 'forkledgerlaw14.JudgeForks', WHERE WHAT IT READS IS OF BULK AT MOST 1048576: true; the input reads as it did. -/
def judgeForksUptoRow : OpenClaim := { program := "ytphnfhonmbbddaa", sum := "aa7398e420c0c8f5d63905b62eee402e9a4a285e5fc5addeb5cb5d72c08a7757", func := "forkledger/forkledgerlaw14.JudgeForks", spec := "judgeForks", unfollowed := true, recurses := true, plainKeys := false, apart := false, narrowed := true }
def JudgeForksUptoSaid : Prop := judgeForksUptoRow.holds Try.pinned (OpenSpec.upto judgeForksSpec)

/-- 'forkledgerlaw13.CertificateStands', WHERE WHAT IT READS IS OF BULK AT MOST 1048576: true; the input reads as it did. -/
def certificateStandsUptoRow : OpenClaim := { program := "ytphnfhonmbbddaa", sum := "aa7398e420c0c8f5d63905b62eee402e9a4a285e5fc5addeb5cb5d72c08a7757", func := "forkledger/forkledgerlaw13.CertificateStands", spec := "certificateStands", inPlace := ["internal/reflectlite.ValueOf", "internal/reflectlite.Swapper", "(internal/reflectlite.Value).Len"], unfollowed := true, recurses := true, plainKeys := false, apart := false, narrowed := true }
def CertificateStandsUptoSaid : Prop := certificateStandsUptoRow.holds Try.pinned (OpenSpec.upto certificateStandsSpec)

/-- 'forkledgerlaw13.CertificateSheds', WHERE WHAT IT READS IS OF BULK AT MOST 1048576: true; the input reads as it did. -/
def certificateShedsUptoRow : OpenClaim := { program := "ytphnfhonmbbddaa", sum := "aa7398e420c0c8f5d63905b62eee402e9a4a285e5fc5addeb5cb5d72c08a7757", func := "forkledger/forkledgerlaw13.CertificateSheds", spec := "certificateSheds", inPlace := ["internal/reflectlite.ValueOf", "internal/reflectlite.Swapper", "(internal/reflectlite.Value).Len"], unfollowed := true, recurses := true, plainKeys := false, apart := false, narrowed := true }
def CertificateShedsUptoSaid : Prop := certificateShedsUptoRow.holds Try.pinned (OpenSpec.upto certificateShedsSpec)

/-- 'forkledgerlaw13.CertificateAccounts', WHERE WHAT IT READS IS OF BULK AT MOST 1048576: true; the input reads as it did. -/
def certificateAccountsUptoRow : OpenClaim := { program := "ytphnfhonmbbddaa", sum := "aa7398e420c0c8f5d63905b62eee402e9a4a285e5fc5addeb5cb5d72c08a7757", func := "forkledger/forkledgerlaw13.CertificateAccounts", spec := "certificateAccounts", inPlace := ["internal/reflectlite.ValueOf", "internal/reflectlite.Swapper", "(internal/reflectlite.Value).Len"], unfollowed := true, recurses := true, plainKeys := false, apart := false, narrowed := true }
def CertificateAccountsUptoSaid : Prop := certificateAccountsUptoRow.holds Try.pinned (OpenSpec.upto certificateAccountsSpec)

/-- 'forkledgerlaw14.JudgeAgrees', WHERE WHAT IT READS IS OF BULK AT MOST 1048576: true; the input reads as it did. -/
def judgeAgreesUptoRow : OpenClaim := { program := "ytphnfhonmbbddaa", sum := "aa7398e420c0c8f5d63905b62eee402e9a4a285e5fc5addeb5cb5d72c08a7757", func := "forkledger/forkledgerlaw14.JudgeAgrees", spec := "judgeAgrees", inPlace := ["internal/reflectlite.ValueOf", "internal/reflectlite.Swapper", "(internal/reflectlite.Value).Len"], unfollowed := true, recurses := true, plainKeys := false, apart := false, narrowed := true }
def JudgeAgreesUptoSaid : Prop := judgeAgreesUptoRow.holds Try.pinned (OpenSpec.upto judgeAgreesSpec)

end Rows
end Go.Proofs.Ytphnfhonmbbddaa
