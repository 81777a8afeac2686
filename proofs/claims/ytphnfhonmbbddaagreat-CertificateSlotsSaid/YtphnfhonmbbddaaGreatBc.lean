/- The proposal phase: proposals, echoes, certified values. -/
import Derived.Test.YtphnfhonmbbddaaGreatAcctS
import Derived.Test.YtphnfhonmbbddaaGreatGE
namespace Go.Proofs.YtphnfhonmbbddaaGreat
open Go Go.RowKit
set_option linter.unusedVariables false

instance inhNm : Inhabited Nm := ⟨Nm.zero⟩
theorem hless_swo : Sort.SWO hless := ⟨fun x => hless_self x, fun x y z h1 h2 => by unfold hless at *; simp only [decide_eq_true_eq] at *; omega, fun x y z h1 h2 => by unfold hless at *; simp only [decide_eq_false_iff_not] at *; omega⟩
theorem hless_tot {x y : Nm} (h1 : hless x y = false) (h2 : hless y x = false) : x = y := by
  unfold hless at *
  simp only [decide_eq_false_iff_not] at *
  exact Nm.num_inj (by omega)
/-- The accepted votes of a slot. -/
def slP (s : Int) (v : Vt) : Bool := v.slot == s
def bsV (m : Int) (p : Nm) (l : List Vt) (s : Int) : List Vt := accV m p (l.filter (slP s))
/-- Which value a vote of a kind is for. -/
def kOf (k : Int) (v : Vt) : Option Nm := if (v.kind == k) = true then some v.val else none
/-- The values other than none with at least q signers. -/
def pkP (q : Int) (y : Nm × Int) : Bool := (y.1 != Nm.zero) && (decide (q ≤ (size y.2 : Int)))
def pkV (q : Int) (mp : List (Nm × Int)) : List Nm := isort hless ((mp.filter (pkP q)).map (·.1))
def proV (m : Int) (p : Nm) (l : List Vt) (s : Int) : List Nm := pkV 1 (sgMap (kOf 1) (bsV m p l s))
def cerV (m : Int) (p : Nm) (l : List Vt) (s : Int) : List Nm := pkV (quorum (size m)) (sgMap (kOf 2) (bsV m p l s))
def echV (m : Int) (p : Nm) (l : List Vt) (s : Int) (x : Nm) : Int := valOf (sgMap (kOf 2) (bsV m p l s)) x
theorem bsV_len (m : Int) (p : Nm) (l : List Vt) (s : Int) : (bsV m p l s).length ≤ l.length := Nat.le_trans (accV_len _ _ _) (List.length_filter_le _ _)
theorem pkV_len (q : Int) (mp : List (Nm × Int)) : (pkV q mp).length ≤ mp.length := by
  unfold pkV
  rw [(isort_perm hless _).length_eq, List.length_map]
  exact List.length_filter_le _ _
theorem proV_len (m : Int) (p : Nm) (l : List Vt) (s : Int) : (proV m p l s).length ≤ l.length := Nat.le_trans (pkV_len _ _) (Nat.le_trans (sgMap_len _ _) (bsV_len _ _ _ _))
theorem cerV_len (m : Int) (p : Nm) (l : List Vt) (s : Int) : (cerV m p l s).length ≤ l.length := Nat.le_trans (pkV_len _ _) (Nat.le_trans (sgMap_len _ _) (bsV_len _ _ _ _))
def pickB {κ : Type} (g : κ × Int → Bool) (l : List (κ × Int)) (sn : Array Nat) : List κ := ((sn.toList.filterMap fun k => l[k]?).filter g).map (·.1)
theorem pickB_yes {κ : Type} {g : κ × Int → Bool} {l : List (κ × Int)} {sn : Array Nat} {k : Nat} {out : List κ} (hk : k < l.length) (h : out = pickB g l sn) (hq : g l[k] = true) : out ++ [l[k].1] = pickB g l (sn.push k) := by
  subst h; unfold pickB
  simp [Array.toList_push, List.filterMap_append, List.getElem?_eq_getElem hk, List.filter_append, hq]
theorem pickB_no {κ : Type} {g : κ × Int → Bool} {l : List (κ × Int)} {sn : Array Nat} {k : Nat} {out : List κ} (hk : k < l.length) (h : out = pickB g l sn) (hq : g l[k] = false) : out = pickB g l (sn.push k) := by
  subst h; unfold pickB
  simp [Array.toList_push, List.filterMap_append, List.getElem?_eq_getElem hk, List.filter_append, hq]
theorem pickB_len {κ : Type} {g : κ × Int → Bool} {l : List (κ × Int)} {sn : Array Nat} (h : Seen l sn) : (pickB g l sn).length ≤ l.length := by
  unfold pickB
  rw [List.length_map]
  exact Nat.le_trans (List.length_filter_le _ _) (Nat.le_trans (List.length_filterMap_le _ _) (nodup_len h.1 h.2))
theorem pickB_all {κ : Type} {g : κ × Int → Bool} {l : List (κ × Int)} {sn : Array Nat} (h : Seen l sn) (hall : ∀ k, k < l.length → sn.contains k = true) : (pickB g l sn).Perm ((l.filter g).map (·.1)) := by
  unfold pickB
  exact ((seen_perm l sn.toList h.1 h.2 (fun k hk => by simpa using hall k hk)).filter _).map _
theorem bc_fin {q : Int} {mp : List (Nm × Int)} {out so : List Nm} {sn : Array Nat} (hsn : Seen mp sn) (hall : ∀ k, k < mp.length → sn.contains k = true) (ho : out = pickB (pkP q) mp sn) (hp : so.Perm out) (ha : Asc hless so) : so = pkV q mp := by
  have h1 : so.Perm (pkV q mp) := by
    refine (hp.trans ?_).trans (isort_perm hless _).symm
    rw [ho]; exact pickB_all hsn hall
  exact up_ext (asc_up ha) (swo_up hless_swo _) h1 (fun x hx y hy => hless_tot)
theorem sgk_bk {k : Int} {a : List Vt} {j : Nat} {mp : List (Nm × Int)} (hk : j < a.length) (h : mp = sgMap (kOf k) (a.take j)) : sgStep (kOf k) mp a[j] = sgMap (kOf k) (a.take (j + 1)) := by
  rw [List.take_succ_eq_append_getElem hk, sgMap_snoc, h]
theorem sgk_yes {k : Int} {v : Vt} {mp : List (Nm × Int)} (h : (v.kind == k) = true) : sgStep (kOf k) mp v = upd mp v.val (bits .or .i64 (valOf mp v.val) (2 ^ v.signer.toNat)) := by
  unfold sgStep kOf; rw [if_pos h]
theorem sgk_no {k : Int} {v : Vt} {mp : List (Nm × Int)} (h : (v.kind == k) = false) : sgStep (kOf k) mp v = mp := by
  unfold sgStep kOf; rw [if_neg (by rw [h]; simp)]
end Go.Proofs.YtphnfhonmbbddaaGreat
