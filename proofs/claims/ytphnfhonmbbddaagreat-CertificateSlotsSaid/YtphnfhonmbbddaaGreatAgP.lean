/- What an honest member votes next: the plain form. -/
import Derived.Test.YtphnfhonmbbddaaGreatBc
import Derived.Test.YtphnfhonmbbddaaGreatVl
namespace Go.Proofs.YtphnfhonmbbddaaGreat
open Go Go.RowKit
set_option linter.unusedVariables false

/-- A valid vote of a member. -/
def sgP (z : Int) (v : Vt) : Bool := (v.signer == z) && (validB v)
def cntK (z : Int) (mp : List (P2 × Int)) (v : Vt) : List (P2 × Int) := bif sgP z v then upd mp ⟨v.kind, v.round⟩ (valOf mp ⟨v.kind, v.round⟩ + 1) else mp
def ownMp (z : Int) (l : List Vt) : List (P2 × Int) := l.foldl (cntK z) []
/-- Has the member a vote of this kind and round? -/
def sgnB (z : Int) (l : List Vt) (k r : Int) : Bool := decide (0 < valOf (ownMp z l) ⟨k, r⟩)
/-- The signers of the votes of a kind and round that fit. -/
def whoP (k r : Int) (F : Vt → Bool) (v : Vt) : Bool := ((v.kind == k) && (v.round == r)) && (F v)
def whoM (a : List Vt) (k r : Int) (F : Vt → Bool) : Int := a.foldl (fun x v => bif whoP k r F v then bits .or .i64 x (2 ^ v.signer.toNat) else x) 0
theorem whoM_snoc (a : List Vt) (k r : Int) (F : Vt → Bool) (v : Vt) : whoM (a ++ [v]) k r F = bif whoP k r F v then bits .or .i64 (whoM a k r F) (2 ^ v.signer.toNat) else whoM a k r F := by unfold whoM; rw [List.foldl_append]; rfl
theorem mb_whoM (a : List Vt) (k r : Int) (F : Vt → Bool) (hs : ∀ v ∈ a, 0 ≤ v.signer ∧ v.signer < 10) (i : Nat) (hi : i < 64) : mb (whoM a k r F) i = a.any (fun v => whoP k r F v && (v.signer == (i : Int))) := by
  have : (∀ v ∈ a, 0 ≤ v.signer ∧ v.signer < 10) → mb (whoM a k r F) i = a.any (fun v => whoP k r F v && (v.signer == (i : Int))) := by
    refine snocI (p := fun a => (∀ v ∈ a, 0 ≤ v.signer ∧ v.signer < 10) → mb (whoM a k r F) i = a.any (fun v => whoP k r F v && (v.signer == (i : Int)))) (fun _ => ?_) (fun a v ih => fun hs => ?_) a
    · show mb 0 i = _; rw [mb_zero]; rfl
    · have ih' := ih fun u hu => hs u (by simp [hu])
      have hv := hs v (by simp)
      rw [whoM_snoc, List.any_append]
      cases hf : whoP k r F v with
      | true =>
        simp only [cond_true, mb_or, ih', mb_pow _ _ hi, List.any_cons, List.any_nil, hf, Bool.true_and, Bool.or_false]
        congr 1
        rw [Bool.eq_iff_iff]; simp; omega
      | false => simp [ih', hf]
  exact this hs
def vlOf (v : Vt) : Vl := ⟨v.choice, v.val⟩
def isV (x : Vl) (v : Vt) : Bool := vlOf v == x
structure Vtr where
  m : Int
  q : Int
  s : Int
  z : Int
  p : Nm
  all : List Vt
  own : List Vt
def Vtr.sg (V : Vtr) (k r : Int) : Bool := sgnB V.z V.own k r
end Go.Proofs.YtphnfhonmbbddaaGreat
