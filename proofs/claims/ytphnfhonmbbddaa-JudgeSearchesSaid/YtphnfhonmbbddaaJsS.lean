/- The reference's search goes through the same tables in another order (plain). -/
import Derived.Test.YtphnfhonmbbddaaJsP
import Derived.Test.YtphnfhonmbbddaaJgP
namespace Go.Proofs.Ytphnfhonmbbddaa
open Go Go.RowKit
set_option linter.unusedVariables false

/-- The reference's choices of one member, in its order. -/
def rX (b : Bool) (x : Nat) : Int := bif b then ((x % 4 : Nat) : Int) else ([0, 1, 2, 4] : List Int).getD (x % 3) 0
def rY (b : Bool) (x : Nat) : Int := bif b then ((x / 4 % 8 : Nat) : Int) else ([0, 1, 2, 4] : List Int).getD (x / 3 % 4) 0
def rLen (b : Bool) : Nat := bif b then 32 else 12
def rPs (b : Bool) : List P2 := (List.range (rLen b)).map fun x => ⟨rX b x, rY b x⟩
theorem rPs_len (b : Bool) : (rPs b).length = rLen b := by unfold rPs; simp
theorem rPs_perm (b : Bool) : (rPs b).Perm (pairsV b) := by cases b <;> decide +kernel
theorem rX_mod (b : Bool) (x : Nat) : rX b (x % rLen b) = rX b x ∧ rY b (x % rLen b) = rY b x := by
  cases b with
  | true =>
    have e1 : x % 32 % 4 = x % 4 := by omega
    have e2 : x % 32 / 4 % 8 = x / 4 % 8 := by omega
    show ((x % 32 % 4 : Nat) : Int) = ((x % 4 : Nat) : Int) ∧ ((x % 32 / 4 % 8 : Nat) : Int) = ((x / 4 % 8 : Nat) : Int)
    rw [e1, e2]; exact ⟨rfl, rfl⟩
  | false =>
    have e1 : x % 12 % 3 = x % 3 := by omega
    have e2 : x % 12 / 3 % 4 = x / 3 % 4 := by omega
    show ([0, 1, 2, 4] : List Int).getD (x % 12 % 3) 0 = ([0, 1, 2, 4] : List Int).getD (x % 3) 0 ∧ ([0, 1, 2, 4] : List Int).getD (x % 12 / 3 % 4) 0 = ([0, 1, 2, 4] : List Int).getD (x / 3 % 4) 0
    rw [e1, e2]; exact ⟨rfl, rfl⟩
theorem rPs_get (b : Bool) (x : Nat) : (rPs b).getD (x % (rPs b).length) P2.zero = ⟨rX b x, rY b x⟩ := by
  have h0 : 0 < rLen b := by cases b <;> decide
  have h := Nat.mod_lt x h0
  rw [rPs_len]
  unfold rPs
  rw [List.getD_eq_getElem?_getD, List.getElem?_map, List.getElem?_range h]
  show (⟨rX b (x % rLen b), rY b (x % rLen b)⟩ : P2) = _
  rw [(rX_mod b x).1, (rX_mod b x).2]
def lB (n : Nat) (lz : Int) (i : Nat) : Bool := decide (((i % n : Nat) : Int) < lz)
/-- What is left of the number ahead of a digit. -/
def xAt (n : Nat) (lz : Int) (k : Nat) : Nat → Nat
  | 0 => k
  | i + 1 => xAt n lz k i / rLen (lB n lz i)
def xL : List Bool → Nat → Nat → Nat
  | b :: bs, k, i + 1 => xL bs (k / rLen b) i
  | _, k, _ => k
theorem xL_succ : ∀ (bs : List Bool) (k i : Nat), i < bs.length → xL bs k (i + 1) = xL bs k i / rLen (bs.getD i false)
  | [], _, _, h => absurd h (Nat.not_lt_zero _)
  | b :: bs, k, 0, _ => by
    show xL bs (k / rLen b) 0 = k / rLen b
    cases bs <;> rfl
  | b :: bs, k, i + 1, h => by
    show xL bs (k / rLen b) (i + 1) = xL bs (k / rLen b) i / rLen (bs.getD i false)
    exact xL_succ bs _ i (by simpa using h)
theorem xL_at (n : Nat) (lz : Int) (N k : Nat) : ∀ i, i ≤ N → xL ((List.range N).map (lB n lz)) k i = xAt n lz k i
  | 0, _ => by cases (List.range N).map (lB n lz) <;> rfl
  | i + 1, h => by
    rw [xL_succ _ _ _ (by simp; omega), xL_at n lz N k i (by omega)]
    have e : ((List.range N).map (lB n lz)).getD i false = lB n lz i := by
      rw [List.getD_eq_getElem?_getD, List.getElem?_map, List.getElem?_range (by omega)]; rfl
    rw [e]; rfl
theorem vecK_r : ∀ (bs : List Bool) (k i : Nat), i < bs.length → (vecK (bs.map rPs) k).getD i P2.zero = ⟨rX (bs.getD i false) (xL bs k i), rY (bs.getD i false) (xL bs k i)⟩
  | [], _, _, h => absurd h (Nat.not_lt_zero _)
  | b :: bs, k, 0, _ => by
    show (rPs b).getD (k % (rPs b).length) P2.zero = _
    rw [rPs_get]; rfl
  | b :: bs, k, i + 1, h => by
    show (vecK (bs.map rPs) (k / (rPs b).length)).getD i P2.zero = _
    rw [vecK_r bs _ i (by simpa using h), rPs_len]; rfl
/-- The reference's choices. -/
def chR (n : Nat) (lz : Int) (N : Nat) : List (List P2) := (List.range N).map fun i => rPs (lB n lz i)
theorem chR_vec {n N k i : Nat} {lz : Int} (h : i < N) : (vecK (chR n lz N) k).getD i P2.zero = ⟨rX (lB n lz i) (xAt n lz k i), rY (lB n lz i) (xAt n lz k i)⟩ := by
  have e : chR n lz N = ((List.range N).map (lB n lz)).map rPs := by unfold chR; rw [List.map_map]; rfl
  have e2 : ((List.range N).map (lB n lz)).getD i false = lB n lz i := by
    rw [List.getD_eq_getElem?_getD, List.getElem?_map, List.getElem?_range h]; rfl
  rw [e, vecK_r _ _ _ (by simp; exact h), e2, xL_at _ _ _ _ _ (by omega)]
theorem chR_len (n : Nat) (lz : Int) (N : Nat) : (chR n lz N).length = N := by simp [chR]
theorem all_r (n : Nat) (lz : Int) (N : Nat) : (allV (chR n lz N)).Perm (allV (chA n lz N)) := all_perm (fun i => rPs_perm (lB n lz i)) (List.range N)
theorem tot_r (n : Nat) (lz : Int) (N : Nat) : totL (chR n lz N) = totL (chA n lz N) := by
  unfold chR chA
  induction List.range N with
  | nil => rfl
  | cons i l ih =>
    show (rPs (lB n lz i)).length * totL _ = (chJ n lz i).length * totL _
    rw [ih, (rPs_perm _).length_eq]; rfl
/-- The reference's search. -/
def rSrch (n : Nat) (cs : List (List P2)) : Nat → Int × Int
  | 0 => (0, -1)
  | k + 1 => (bif forkT n (vecK cs k) then (rSrch n cs k).1 + 1 else (rSrch n cs k).1, bif forkT n (vecK cs k) && lessB (rSrch n cs k).2 (sizT n (vecK cs k)) then sizT n (vecK cs k) else (rSrch n cs k).2)
theorem rSrch_list (n : Nat) (cs : List (List P2)) : ∀ k, rSrch n cs k = (((((List.range k).map (vecK cs)).filter (forkT n)).length : Int), leastL ((((List.range k).map (vecK cs)).filter (forkT n)).map (sizT n)))
  | 0 => rfl
  | k + 1 => by
    have ih := rSrch_list n cs k
    rw [rSrch, ih, List.range_succ, List.map_append, List.filter_append, List.map_append, List.length_append, List.map_singleton]
    cases hf : forkT n (vecK cs k) with
    | false => simp [hf]
    | true =>
      have e : [vecK cs k].filter (forkT n) = [vecK cs k] := by simp [hf]
      rw [e]
      unfold leastL
      rw [List.foldl_append]
      simp only [Bool.true_and, cond_true, List.length_singleton, List.map_singleton, List.foldl_cons, List.foldl_nil]
      rfl
theorem rsrch_eq {n r0 : Nat} {lz : Int} {tt : Nat} (h : badS n r0 lz = false) (ht : totT n lz (n * r0) = some (tt : Int)) : searchV n r0 lz = ((tt : Int), (rSrch n (chR n lz (n * r0)) tt).1, (rSrch n (chR n lz (n * r0)) tt).2, 0) := by
  have e := tot_totL n lz ht
  have e2 : tt = totL (chR n lz (n * r0)) := by rw [tot_r]; omega
  have hp := all_r n lz (n * r0)
  rw [search_val h ht, rSrch_list, e2, all_vec]
  unfold forksL
  have hp2 := hp.filter (forkT n)
  rw [hp2.length_eq, least_perm (hp2.map (sizT n)) (siz_pos n _)]
theorem lenJ_r (n : Nat) (lz : Int) (j : Nat) : lenJ n lz j = rLen (lB n lz j) := by
  unfold lenJ chJ lB
  rw [pairs_len]
  cases decide (((j % n : Nat) : Int) < lz) <;> rfl
/-- Rows with the same entries. -/
theorem rows_ext {n : Nat} {A B : List (List Int)} (hl : A.length = B.length) (ha : ∀ x ∈ A, x.length = n) (hb : ∀ x ∈ B, x.length = n) (h : ∀ r m, r < B.length → m < n → (A.getD r []).getD m 0 = (B.getD r []).getD m 0) : A = B := by
  apply List.ext_getElem hl
  intro r h1 h2
  have ra := ha _ (List.getElem_mem h1)
  have rb := hb _ (List.getElem_mem h2)
  apply List.ext_getElem (by omega)
  intro m h3 h4
  have := h r m h2 (by omega)
  simp only [List.getD_eq_getElem?_getD, List.getElem?_eq_getElem h1, List.getElem?_eq_getElem h2, Option.getD_some, List.getElem?_eq_getElem h3, List.getElem?_eq_getElem h4] at this
  exact this

end Go.Proofs.Ytphnfhonmbbddaa
