/- Plain facts on masks: an int64 as a set of ids below ten. No program in sight. -/
import Derived.Laws.BitsLemmas
import Derived.RowKit
namespace Go.Proofs.Ythhgdkodhokefaa
open Go Go.RowKit

theorem wrap_toInt (r : BitVec 64) : IntKind.i64.wrap (r.toNat : Int) = r.toInt := by
  rw [IntKind.wrap_i64, BitVec.toInt_eq_toNat_cond]
  have := r.isLt
  split <;> omega
/-- An int64. -/
def W64 (m : Int) : Prop := -9223372036854775808 ≤ m ∧ m < 9223372036854775808
theorem ofInt_wf {m : Int} (h : W64 m) : (BitVec.ofInt 64 m).toInt = m := by
  obtain ⟨h1, h2⟩ := h
  rw [BitVec.toInt_ofInt]
  exact Int.bmod_eq_of_le (by omega) (by omega)
theorem w64_toInt (r : BitVec 64) : W64 r.toInt := by
  have h1 := BitVec.le_toInt (x := r)
  have h2 := BitVec.toInt_lt (x := r)
  exact ⟨by simpa using h1, by simpa using h2⟩
/-- Bit i of m. -/
def mb (m : Int) (i : Nat) : Bool := (BitVec.ofInt 64 m).getLsbD i
theorem bits_and (a b : Int) : bits .and .i64 a b = (BitVec.ofInt 64 a &&& BitVec.ofInt 64 b).toInt := wrap_toInt _
theorem bits_or (a b : Int) : bits .or .i64 a b = (BitVec.ofInt 64 a ||| BitVec.ofInt 64 b).toInt := wrap_toInt _
theorem bits_andNot (a b : Int) : bits .andNot .i64 a b = (BitVec.ofInt 64 a &&& ~~~ BitVec.ofInt 64 b).toInt := wrap_toInt _
theorem w64_and (a b : Int) : W64 (bits .and .i64 a b) := by rw [bits_and]; exact w64_toInt _
theorem w64_or (a b : Int) : W64 (bits .or .i64 a b) := by rw [bits_or]; exact w64_toInt _
theorem w64_andNot (a b : Int) : W64 (bits .andNot .i64 a b) := by rw [bits_andNot]; exact w64_toInt _
theorem mb_and (a b : Int) (i : Nat) : mb (bits .and .i64 a b) i = (mb a i && mb b i) := by
  unfold mb; rw [bits_and, BitVec.ofInt_toInt, BitVec.getLsbD_and]
theorem mb_or (a b : Int) (i : Nat) : mb (bits .or .i64 a b) i = (mb a i || mb b i) := by
  unfold mb; rw [bits_or, BitVec.ofInt_toInt, BitVec.getLsbD_or]
theorem mb_andNot (a b : Int) (i : Nat) : mb (bits .andNot .i64 a b) i = (mb a i && !mb b i) := by
  unfold mb; rw [bits_andNot, BitVec.ofInt_toInt, BitVec.getLsbD_and, BitVec.getLsbD_not]
  by_cases h : i < 64
  · simp [h]
  · simp [h, BitVec.getLsbD_of_ge _ i (by omega : 64 ≤ i)]
theorem mb_ext {a b : Int} (ha : W64 a) (hb : W64 b) (h : ∀ i, i < 64 → mb a i = mb b i) : a = b := by
  rw [← ofInt_wf ha, ← ofInt_wf hb]
  congr 1
  exact BitVec.eq_of_getLsbD_eq fun i hi => h i hi
theorem mb_zero (i : Nat) : mb 0 i = false := by simp [mb]
theorem mb_nat (n i : Nat) (hi : i < 64) : mb (n : Int) i = n.testBit i := by
  unfold mb
  rw [BitVec.ofInt_natCast, BitVec.getLsbD_ofNat]
  simp [hi]
theorem mb_ge (m : Int) (i : Nat) (h : 64 ≤ i) : mb m i = false := BitVec.getLsbD_of_ge _ i h
theorem mb_pow (n i : Nat) (hi : i < 64) : mb ((2 : Int) ^ n) i = decide (n = i) := by
  have e : ((2 : Int) ^ n) = ((2 ^ n : Nat) : Int) := by simp
  rw [e, mb_nat _ _ hi, Nat.testBit_two_pow]
theorem mb_pow_sub (n i : Nat) (hi : i < 64) : mb ((2 : Int) ^ n - 1) i = decide (i < n) := by
  have e : ((2 : Int) ^ n - 1) = ((2 ^ n - 1 : Nat) : Int) := by
    rw [Int.natCast_sub (Nat.two_pow_pos n)]; simp
  rw [e, mb_nat _ _ hi, Nat.testBit_two_pow_sub_one]
theorem ofInt_ediv {m : Int} (h : W64 m) (n : Nat) : BitVec.ofInt 64 (m / 2 ^ n) = (BitVec.ofInt 64 m).sshiftRight n := by
  have e : m / 2 ^ n = m >>> n := by
    rw [Int.shiftRight_eq_div_pow]
    simp
  rw [e, BitVec.sshiftRight, ofInt_wf h]
/-- 'm >> n & 1'. -/
theorem shr_one {m : Int} (h : W64 m) (n : Nat) (hn : n < 64) : bits .and .i64 (m / 2 ^ n) 1 = if mb m n then 1 else 0 := by
  refine mb_ext (w64_and _ _) (by split <;> (unfold W64; omega)) fun i hi => ?_
  rw [mb_and]
  have h1 : mb (1 : Int) i = decide (0 = i) := mb_pow 0 i hi
  have h2 : mb (m / 2 ^ n) 0 = mb m n := by
    unfold mb; rw [ofInt_ediv h, BitVec.getLsbD_sshiftRight]; simp [hn]
  rw [h1]
  by_cases h0 : 0 = i
  · subst h0
    rw [h2]
    cases mb m n <;> simp [mb]
  · cases mb m n <;> simp [h0, mb_zero, h1]
theorem shr_one_eq {m : Int} (h : W64 m) (n : Nat) (hn : n < 64) : (bits .and .i64 (m / 2 ^ n) 1 == 1) = mb m n := by
  rw [shr_one h n hn]
  cases mb m n <;> rfl
/-- The ids in a mask. -/
def ids (m : Int) : List Nat := (List.range 10).filter (mb m)
def size (m : Int) : Nat := (ids m).length
/-- Has(m, i). -/
def hasB (m i : Int) : Bool := decide (0 ≤ i) && decide (i < 10) && mb m i.toNat
theorem hasB_nat (m : Int) (i : Nat) (h : i < 10) : hasB m (i : Int) = mb m i := by
  simp [hasB]; intro _; omega
theorem hasB_iff (m i : Int) : hasB m i = true ↔ ∃ k : Nat, i = (k : Int) ∧ k ∈ ids m := by
  unfold hasB ids
  constructor
  · intro h
    simp only [Bool.and_eq_true, decide_eq_true_eq] at h
    exact ⟨i.toNat, by omega, by simp [h.2]; omega⟩
  · rintro ⟨k, rfl, hk⟩
    simp at hk
    simp [hk]
    omega
theorem mem_ids (m : Int) (k : Nat) : k ∈ ids m ↔ k < 10 ∧ mb m k = true := by simp [ids]
theorem size_le (m : Int) : size m ≤ 10 := by
  have := List.length_filter_le (mb m) (List.range 10)
  simpa [size, ids] using this
theorem ids_sorted (m : Int) : (ids m).Pairwise (· < ·) := (List.pairwise_lt_range (n := 10)).filter _
theorem ids_nodup (m : Int) : (ids m).Nodup := (List.nodup_range (n := 10)).filter _
/-- The mask with the bits of a list. -/
def ofIds (l : List Nat) : Int := l.foldl (fun o i => bits .or .i64 o (2 ^ i)) 0
theorem ofIds_snoc (l : List Nat) (i : Nat) : ofIds (l ++ [i]) = bits .or .i64 (ofIds l) (2 ^ i) := by simp [ofIds]
theorem ofIds_nil : ofIds [] = 0 := rfl
theorem snoc_ind {α : Type} {p : List α → Prop} (h0 : p []) (hs : ∀ l x, p l → p (l ++ [x])) (l : List α) : p l := by
  have h : ∀ r : List α, p r.reverse := by
    intro r
    induction r with
    | nil => exact h0
    | cons a r ih => rw [List.reverse_cons]; exact hs _ _ ih
  simpa using h l.reverse
theorem mb_ofIds (l : List Nat) (i : Nat) (hi : i < 64) : mb (ofIds l) i = decide (i ∈ l) := by
  refine snoc_ind (p := fun l => mb (ofIds l) i = decide (i ∈ l)) ?_ ?_ l
  · rw [ofIds_nil, mb_zero]; simp
  · intro l x h
    rw [ofIds_snoc, mb_or, h, mb_pow _ _ hi]
    by_cases hx : x = i
    · simp [hx]
    · simp [hx]; rintro rfl; exact absurd rfl hx
theorem w64_ofIds (l : List Nat) : W64 (ofIds l) := by
  refine snoc_ind (p := fun l => W64 (ofIds l)) ?_ ?_ l
  · rw [ofIds_nil]; unfold W64; omega
  · intro l x _; rw [ofIds_snoc]; exact w64_or _ _
theorem filter_range_mem (l : List Nat) (n : Nat) (hs : l.Pairwise (· < ·)) (hd : l.Nodup) (hb : ∀ i ∈ l, i < n) : (List.range n).filter (fun i => decide (i ∈ l)) = l := by
  have h1 : ((List.range n).filter (fun i => decide (i ∈ l))).Pairwise (· < ·) := (List.pairwise_lt_range).filter _
  refine List.Perm.eq_of_pairwise (le := (· < ·)) (fun a b _ _ h h' => by omega) h1 hs ?_
  rw [List.perm_ext_iff_of_nodup ((List.nodup_range (n := n)).filter _) hd]
  intro a
  simp
  exact fun h => hb a h
theorem ids_ofIds (l : List Nat) (hs : l.Pairwise (· < ·)) (hd : l.Nodup) (hb : ∀ i ∈ l, i < 10) : ids (ofIds l) = l := by
  unfold ids
  rw [List.filter_congr (q := fun i => decide (i ∈ l)) (fun i hi => mb_ofIds l i (by simp at hi; omega))]
  exact filter_range_mem l 10 hs hd hb
theorem ids_ofIds_sub {l : List Nat} {m : Int} (h : l.Sublist (ids m)) : ids (ofIds l) = l :=
  ids_ofIds l ((ids_sorted m).sublist h) ((ids_nodup m).sublist h) (fun i hi => ((mem_ids m i).1 (h.subset hi)).1)
/-- Lowest(m, k). -/
def lowest (m k : Int) : Int := ofIds ((ids m).take k.toNat)
def quorum (n : Int) : Int := if n < 1 then 0 else n - (n - 1) / 3
def third (n : Int) : Int := if n < 1 then 0 else (n - 1) / 3 + 1
/-- The ids below k in a mask, as numbers below ten. -/
def idsTo (m : Int) (k : Nat) : List (Fin 10) := ((List.finRange 10).take k).filter (fun i => mb m i.val)
def idsF (m : Int) : List (Fin 10) := (List.finRange 10).filter (fun i => mb m i.val)
theorem idsTo_zero (m : Int) : idsTo m 0 = [] := by simp [idsTo]
theorem idsTo_ten (m : Int) : idsTo m 10 = idsF m := by
  unfold idsTo idsF; rw [List.take_of_length_le (by simp)]
theorem idsTo_succ (m : Int) (k : Nat) (h : k < 10) : idsTo m (k + 1) = idsTo m k ++ (if mb m k then [⟨k, h⟩] else []) := by
  unfold idsTo
  rw [List.take_succ_eq_append_getElem (by simpa using h), List.filter_append]
  congr 1
  simp [List.filter_cons]
theorem idsTo_hit (m : Int) (k : Nat) (h : k < 10) (hb : mb m k = true) : idsTo m (k + 1) = idsTo m k ++ [⟨k, h⟩] := by rw [idsTo_succ m k h, if_pos hb]
theorem idsTo_miss (m : Int) (k : Nat) (h : k < 10) (hb : mb m k = false) : idsTo m (k + 1) = idsTo m k := by rw [idsTo_succ m k h, hb]; simp
theorem idsTo_pre (m : Int) (k : Nat) : idsTo m k <+: idsF m := by
  unfold idsTo idsF; exact (List.take_prefix k _).filter _
theorem idsTo_len (m : Int) (k : Nat) (h : k < 10) : (idsTo m k).length < 10 := by
  have := List.length_filter_le (fun i : Fin 10 => mb m i.val) ((List.finRange 10).take k)
  have h2 : ((List.finRange 10).take k).length ≤ k := List.length_take_le _ _
  unfold idsTo; omega
theorem idsF_map (m : Int) : (idsF m).map (·.val) = ids m := by
  unfold idsF ids
  have h : List.range 10 = (List.finRange 10).map (·.val) := by decide
  rw [h, List.filter_map]
  rfl
/-- What OnesCount64 computes. -/
def o1 (x : Int) : Int := IntKind.u64.wrap (bits .and .u64 (x / 2) 6148914691236517205 + bits .and .u64 x 6148914691236517205)
def o2 (x : Int) : Int := IntKind.u64.wrap (bits .and .u64 (x / 4) 3689348814741910323 + bits .and .u64 x 3689348814741910323)
def o3 (x : Int) : Int := bits .and .u64 (IntKind.u64.wrap (x / 16 + x)) 1085102592571150095
def o4 (x : Int) : Int := IntKind.u64.wrap (x + x / 256)
def o5 (x : Int) : Int := IntKind.u64.wrap (x + x / 65536)
def o6 (x : Int) : Int := IntKind.u64.wrap (x + x / 4294967296)
def o7 (x : Int) : Int := bits .and .i64 (wrap64 x) 127
def ones (x : Int) : Int := o7 (o6 (o5 (o4 (o3 (o2 (o1 x))))))
theorem ones_all : (List.range 1024).all (fun x => decide (ones (x : Int) = ((size (x : Int) : Nat) : Int))) = true := by decide +kernel
theorem ones_size (x : Nat) (h : x < 1024) : ones (x : Int) = (size (x : Int) : Int) := by
  have := List.all_eq_true.1 ones_all x (by simpa using h)
  simpa using this
theorem and_1023 (m : Int) : ∃ x : Nat, x < 1024 ∧ bits .and .i64 m 1023 = (x : Int) ∧ size (x : Int) = size m := by
  have hb : ∀ i, i < 64 → mb (bits .and .i64 m 1023) i = (mb m i && decide (i < 10)) := by
    intro i hi
    rw [mb_and, show (1023 : Int) = 2 ^ 10 - 1 from rfl, mb_pow_sub 10 i hi]
  have hv : bits .and .i64 m 1023 = ((BitVec.ofInt 64 m &&& 1023#64).toNat : Int) := by
    rw [bits_and, BitVec.toInt_eq_toNat_of_lt]
    · rfl
    · have : (BitVec.ofInt 64 m &&& BitVec.ofInt 64 1023).toNat ≤ 1023 := by
        rw [BitVec.toNat_and]; exact Nat.and_le_right
      omega
  refine ⟨(BitVec.ofInt 64 m &&& 1023#64).toNat, ?_, hv, ?_⟩
  · have : (BitVec.ofInt 64 m &&& 1023#64).toNat ≤ 1023 := by
      rw [BitVec.toNat_and]; exact Nat.and_le_right
    omega
  · rw [← hv]
    unfold size ids
    rw [List.filter_congr (q := mb m)]
    intro i hi
    simp at hi
    rw [hb i (by omega)]
    simp [hi]
end Go.Proofs.Ythhgdkodhokefaa
