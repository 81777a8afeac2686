/- The signers of pairs of votes. -/
import Derived.Test.YtphnfhonmbbddaaGE
namespace Go.Proofs.Ytphnfhonmbbddaa
open Go Go.RowKit
set_option linter.unusedVariables false
/-- The signers of the pairs that P tells. -/
def pairI (P : Vt → Vt → Bool) (u : Vt) (l : List Vt) (x : Int) : Int := l.foldl (fun x z => bif P u z then bits .or .i64 x (2 ^ u.signer.toNat) else x) x
def pairM (P : Vt → Vt → Bool) (a b : List Vt) : Int := a.foldl (fun x u => pairI P u b x) 0
theorem pairI_step {P : Vt → Vt → Bool} {u : Vt} {b : List Vt} {x x2 : Int} {k : Nat} (h : x2 = pairI P u (b.take k) x) (hk : k < b.length) : (bif P u b[k] then bits .or .i64 x2 (2 ^ u.signer.toNat) else x2) = pairI P u (b.take (k + 1)) x := by
  unfold pairI at *; rw [foldl_step _ _ hk, ← h]
theorem pairM_step {P : Vt → Vt → Bool} {a b : List Vt} {x : Int} {j : Nat} (h : x = pairM P (a.take j) b) (hj : j < a.length) : pairI P a[j] b x = pairM P (a.take (j + 1)) b := by
  unfold pairM at *; rw [foldl_step _ _ hj, ← h]
theorem mb_pairI {P : Vt → Vt → Bool} (hP : ∀ u z, P u z = true → 0 ≤ u.signer ∧ u.signer < 10) (u : Vt) (l : List Vt) (x : Int) (i : Nat) (hi : i < 10) : mb (pairI P u l x) i = (mb x i || l.any (fun z => P u z && (u.signer == (i : Int)))) := by
  refine snocI (p := fun l => mb (pairI P u l x) i = (mb x i || l.any (fun z => P u z && (u.signer == (i : Int))))) ?_ ?_ l
  · show mb x i = _; simp
  · intro l z h
    have hst : pairI P u (l ++ [z]) x = (bif P u z then bits .or .i64 (pairI P u l x) (2 ^ u.signer.toNat) else pairI P u l x) := by unfold pairI; rw [List.foldl_append]; rfl
    rw [hst, List.any_append]
    cases hp : P u z with
    | false => simp [h, hp]
    | true =>
      have hb := hP u z hp
      simp only [cond_true, mb_or, h, mb_pow _ _ (show i < 64 by omega), List.any_cons, List.any_nil, hp, Bool.true_and, Bool.or_false, Bool.or_assoc]
      congr 2
      rw [Bool.eq_iff_iff]; simp; omega
theorem mb_pairM {P : Vt → Vt → Bool} (hP : ∀ u z, P u z = true → 0 ≤ u.signer ∧ u.signer < 10) (a b : List Vt) (i : Nat) (hi : i < 10) : mb (pairM P a b) i = a.any (fun u => b.any (fun z => P u z && (u.signer == (i : Int)))) := by
  refine snocI (p := fun a => mb (pairM P a b) i = a.any (fun u => b.any (fun z => P u z && (u.signer == (i : Int))))) ?_ ?_ a
  · show mb 0 i = _; rw [mb_zero]; rfl
  · intro l u h
    have hst : pairM P (l ++ [u]) b = pairI P u b (pairM P l b) := by unfold pairM; rw [List.foldl_append]; rfl
    rw [hst, mb_pairI hP _ _ _ _ hi, h, List.any_append]
    simp
end Go.Proofs.Ytphnfhonmbbddaa
