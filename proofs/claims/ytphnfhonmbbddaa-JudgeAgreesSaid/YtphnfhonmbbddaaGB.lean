/- Plain facts on masks: an int64 as a set of ids below ten. No program in sight. -/
import Derived.Laws.BitsLemmas
import Derived.RowKit
import Derived.WalkKit
import Derived.WalkLawsBesides
import Derived.WalkSpells
import Derived.Outline
import Derived.Lib.Hide
import Derived.Test.YtphnfhonmbbddaaProg
import Derived.RangeFuncNested
import Derived.RangeFuncBound
import Derived.RangeFuncCalls
import Derived.RangeFuncLeaves
import Derived.RangeFuncBox
import Derived.Shelf.Abstract
import Derived.Shelf.RegionOpen
import Derived.OwnWalkIn
import Derived.TacticsInMore
import Derived.LoopNIn
import Derived.LoopIn
import Derived.Maps.AppendAt
import GoSem.Claim
import Derived.Deep.QuietTactic
import Derived.BigQuiet
import Derived.IntWalk
import Derived.Deep.Draws
namespace Go.Proofs.Ytphnfhonmbbddaa
open Go Go.RowKit

theorem wrap_toInt (r : BitVec 64) : IntKind.i64.wrap (r.toNat : Int) = r.toInt := by
  rw [IntKind.wrap_i64, BitVec.toInt_eq_toNat_cond]
  have := r.isLt
  split <;> omega
/-- An int64. -/
def W64 (m : Int) : Prop := -9223372036854775808 ≤ m ∧ m < 9223372036854775808
theorem ofInt_wf {m : Int} (h : W64 m) : (BitVec.ofInt 64 m).toInt = m := by
  obtain ⟨h1, h2⟩ := h
  rw [BitVec.toInt_ofInt]
  exact Int.bmod_eq_of_le (by omega) (by omega)
theorem w64_toInt (r : BitVec 64) : W64 r.toInt := by
  have h1 := BitVec.le_toInt (x := r)
  have h2 := BitVec.toInt_lt (x := r)
  exact ⟨by simpa using h1, by simpa using h2⟩
/-- Bit i of m. -/
def mb (m : Int) (i : Nat) : Bool := (BitVec.ofInt 64 m).getLsbD i
theorem bits_and (a b : Int) : bits .and .i64 a b = (BitVec.ofInt 64 a &&& BitVec.ofInt 64 b).toInt := wrap_toInt _
theorem bits_or (a b : Int) : bits .or .i64 a b = (BitVec.ofInt 64 a ||| BitVec.ofInt 64 b).toInt := wrap_toInt _
theorem bits_andNot (a b : Int) : bits .andNot .i64 a b = (BitVec.ofInt 64 a &&& ~~~ BitVec.ofInt 64 b).toInt := wrap_toInt _
theorem w64_and (a b : Int) : W64 (bits .and .i64 a b) := by rw [bits_and]; exact w64_toInt _
theorem w64_or (a b : Int) : W64 (bits .or .i64 a b) := by rw [bits_or]; exact w64_toInt _
theorem w64_andNot (a b : Int) : W64 (bits .andNot .i64 a b) := by rw [bits_andNot]; exact w64_toInt _
theorem mb_and (a b : Int) (i : Nat) : mb (bits .and .i64 a b) i = (mb a i && mb b i) := by
  unfold mb; rw [bits_and, BitVec.ofInt_toInt, BitVec.getLsbD_and]
theorem mb_or (a b : Int) (i : Nat) : mb (bits .or .i64 a b) i = (mb a i || mb b i) := by
  unfold mb; rw [bits_or, BitVec.ofInt_toInt, BitVec.getLsbD_or]
theorem mb_andNot (a b : Int) (i : Nat) : mb (bits .andNot .i64 a b) i = (mb a i && !mb b i) := by
  unfold mb; rw [bits_andNot, BitVec.ofInt_toInt, BitVec.getLsbD_and, BitVec.getLsbD_not]
  by_cases h : i < 64
  · simp [h]
  · simp [h, BitVec.getLsbD_of_ge _ i (by omega : 64 ≤ i)]
theorem mb_ext {a b : Int} (ha : W64 a) (hb : W64 b) (h : ∀ i, i < 64 → mb a i = mb b i) : a = b := by
  rw [← ofInt_wf ha, ← ofInt_wf hb]
  congr 1
  exact BitVec.eq_of_getLsbD_eq fun i hi => h i hi
theorem mb_zero (i : Nat) : mb 0 i = false := by simp [mb]
theorem mb_nat (n i : Nat) (hi : i < 64) : mb (n : Int) i = n.testBit i := by
  unfold mb
  rw [BitVec.ofInt_natCast, BitVec.getLsbD_ofNat]
  simp [hi]
theorem mb_ge (m : Int) (i : Nat) (h : 64 ≤ i) : mb m i = false := BitVec.getLsbD_of_ge _ i h
theorem mb_pow (n i : Nat) (hi : i < 64) : mb ((2 : Int) ^ n) i = decide (n = i) := by
  have e : ((2 : Int) ^ n) = ((2 ^ n : Nat) : Int) := by simp
  rw [e, mb_nat _ _ hi, Nat.testBit_two_pow]
theorem mb_pow_sub (n i : Nat) (hi : i < 64) : mb ((2 : Int) ^ n - 1) i = decide (i < n) := by
  have e : ((2 : Int) ^ n - 1) = ((2 ^ n - 1 : Nat) : Int) := by
    rw [Int.natCast_sub (Nat.two_pow_pos n)]; simp
  rw [e, mb_nat _ _ hi, Nat.testBit_two_pow_sub_one]
theorem ofInt_ediv {m : Int} (h : W64 m) (n : Nat) : BitVec.ofInt 64 (m / 2 ^ n) = (BitVec.ofInt 64 m).sshiftRight n := by
  have e : m / 2 ^ n = m >>> n := by
    rw [Int.shiftRight_eq_div_pow]
    simp
  rw [e, BitVec.sshiftRight, ofInt_wf h]
/-- 'm >> n & 1'. -/
theorem shr_one {m : Int} (h : W64 m) (n : Nat) (hn : n < 64) : bits .and .i64 (m / 2 ^ n) 1 = if mb m n then 1 else 0 := by
  refine mb_ext (w64_and _ _) (by split <;> (unfold W64; omega)) fun i hi => ?_
  rw [mb_and]
  have h1 : mb (1 : Int) i = decide (0 = i) := mb_pow 0 i hi
  have h2 : mb (m / 2 ^ n) 0 = mb m n := by
    unfold mb; rw [ofInt_ediv h, BitVec.getLsbD_sshiftRight]; simp [hn]
  rw [h1]
  by_cases h0 : 0 = i
  · subst h0
    rw [h2]
    cases mb m n <;> simp [mb]
  · cases mb m n <;> simp [h0, mb_zero, h1]
theorem shr_one_eq {m : Int} (h : W64 m) (n : Nat) (hn : n < 64) : (bits .and .i64 (m / 2 ^ n) 1 == 1) = mb m n := by
  rw [shr_one h n hn]
  cases mb m n <;> rfl
/-- The ids in a mask. -/
def ids (m : Int) : List Nat := (List.range 10).filter (mb m)
def size (m : Int) : Nat := (ids m).length
/-- Has(m, i). -/
def hasB (m i : Int) : Bool := decide (0 ≤ i) && decide (i < 10) && mb m i.toNat
theorem hasB_nat (m : Int) (i : Nat) (h : i < 10) : hasB m (i : Int) = mb m i := by
  simp [hasB]; intro _; omega
theorem hasB_iff (m i : Int) : hasB m i = true ↔ ∃ k : Nat, i = (k : Int) ∧ k ∈ ids m := by
  unfold hasB ids
  constructor
  · intro h
    simp only [Bool.and_eq_true, decide_eq_true_eq] at h
    exact ⟨i.toNat, by omega, by simp [h.2]; omega⟩
  · rintro ⟨k, rfl, hk⟩
    simp at hk
    simp [hk]
    omega
theorem mem_ids (m : Int) (k : Nat) : k ∈ ids m ↔ k < 10 ∧ mb m k = true := by simp [ids]
theorem size_le (m : Int) : size m ≤ 10 := by
  have := List.length_filter_le (mb m) (List.range 10)
  simpa [size, ids] using this
theorem ids_sorted (m : Int) : (ids m).Pairwise (· < ·) := (List.pairwise_lt_range (n := 10)).filter _
theorem ids_nodup (m : Int) : (ids m).Nodup := (List.nodup_range (n := 10)).filter _
/-- The mask with the bits of a list. -/
def ofIds (l : List Nat) : Int := l.foldl (fun o i => bits .or .i64 o (2 ^ i)) 0
theorem ofIds_snoc (l : List Nat) (i : Nat) : ofIds (l ++ [i]) = bits .or .i64 (ofIds l) (2 ^ i) := by simp [ofIds]
theorem ofIds_nil : ofIds [] = 0 := rfl
theorem snoc_ind {α : Type} {p : List α → Prop} (h0 : p []) (hs : ∀ l x, p l → p (l ++ [x])) (l : List α) : p l := by
  have h : ∀ r : List α, p r.reverse := by
    intro r
    induction r with
    | nil => exact h0
    | cons a r ih => rw [List.reverse_cons]; exact hs _ _ ih
  simpa using h l.reverse
theorem mb_ofIds (l : List Nat) (i : Nat) (hi : i < 64) : mb (ofIds l) i = decide (i ∈ l) := by
  refine snoc_ind (p := fun l => mb (ofIds l) i = decide (i ∈ l)) ?_ ?_ l
  · rw [ofIds_nil, mb_zero]; simp
  · intro l x h
    rw [ofIds_snoc, mb_or, h, mb_pow _ _ hi]
    by_cases hx : x = i
    · simp [hx]
    · simp [hx]; rintro rfl; exact absurd rfl hx
theorem w64_ofIds (l : List Nat) : W64 (ofIds l) := by
  refine snoc_ind (p := fun l => W64 (ofIds l)) ?_ ?_ l
  · rw [ofIds_nil]; unfold W64; omega
  · intro l x _; rw [ofIds_snoc]; exact w64_or _ _
theorem filter_range_mem (l : List Nat) (n : Nat) (hs : l.Pairwise (· < ·)) (hd : l.Nodup) (hb : ∀ i ∈ l, i < n) : (List.range n).filter (fun i => decide (i ∈ l)) = l := by
  have h1 : ((List.range n).filter (fun i => decide (i ∈ l))).Pairwise (· < ·) := (List.pairwise_lt_range).filter _
  refine List.Perm.eq_of_pairwise (le := (· < ·)) (fun a b _ _ h h' => by omega) h1 hs ?_
  rw [List.perm_ext_iff_of_nodup ((List.nodup_range (n := n)).filter _) hd]
  intro a
  simp
  exact fun h => hb a h
theorem ids_ofIds (l : List Nat) (hs : l.Pairwise (· < ·)) (hd : l.Nodup) (hb : ∀ i ∈ l, i < 10) : ids (ofIds l) = l := by
  unfold ids
  rw [List.filter_congr (q := fun i => decide (i ∈ l)) (fun i hi => mb_ofIds l i (by simp at hi; omega))]
  exact filter_range_mem l 10 hs hd hb
theorem ids_ofIds_sub {l : List Nat} {m : Int} (h : l.Sublist (ids m)) : ids (ofIds l) = l :=
  ids_ofIds l ((ids_sorted m).sublist h) ((ids_nodup m).sublist h) (fun i hi => ((mem_ids m i).1 (h.subset hi)).1)
/-- Lowest(m, k). -/
def lowest (m k : Int) : Int := ofIds ((ids m).take k.toNat)
def quorum (n : Int) : Int := if n < 1 then 0 else n - (n - 1) / 3
def third (n : Int) : Int := if n < 1 then 0 else (n - 1) / 3 + 1
/-- The ids below k in a mask, as numbers below ten. -/
def idsTo (m : Int) (k : Nat) : List (Fin 10) := ((List.finRange 10).take k).filter (fun i => mb m i.val)
def idsF (m : Int) : List (Fin 10) := (List.finRange 10).filter (fun i => mb m i.val)
theorem idsTo_zero (m : Int) : idsTo m 0 = [] := by simp [idsTo]
theorem idsTo_ten (m : Int) : idsTo m 10 = idsF m := by
  unfold idsTo idsF; rw [List.take_of_length_le (by simp)]
theorem idsTo_succ (m : Int) (k : Nat) (h : k < 10) : idsTo m (k + 1) = idsTo m k ++ (if mb m k then [⟨k, h⟩] else []) := by
  unfold idsTo
  rw [List.take_succ_eq_append_getElem (by simpa using h), List.filter_append]
  congr 1
  simp [List.filter_cons]
theorem idsTo_hit (m : Int) (k : Nat) (h : k < 10) (hb : mb m k = true) : idsTo m (k + 1) = idsTo m k ++ [⟨k, h⟩] := by rw [idsTo_succ m k h, if_pos hb]
theorem idsTo_miss (m : Int) (k : Nat) (h : k < 10) (hb : mb m k = false) : idsTo m (k + 1) = idsTo m k := by rw [idsTo_succ m k h, hb]; simp
theorem idsTo_pre (m : Int) (k : Nat) : idsTo m k <+: idsF m := by
  unfold idsTo idsF; exact (List.take_prefix k _).filter _
theorem idsTo_len (m : Int) (k : Nat) (h : k < 10) : (idsTo m k).length < 10 := by
  have := List.length_filter_le (fun i : Fin 10 => mb m i.val) ((List.finRange 10).take k)
  have h2 : ((List.finRange 10).take k).length ≤ k := List.length_take_le _ _
  unfold idsTo; omega
theorem idsF_map (m : Int) : (idsF m).map (·.val) = ids m := by
  unfold idsF ids
  have h : List.range 10 = (List.finRange 10).map (·.val) := by decide
  rw [h, List.filter_map]
  rfl
/-- What OnesCount64 computes. -/
def o1 (x : Int) : Int := IntKind.u64.wrap (bits .and .u64 (x / 2) 6148914691236517205 + bits .and .u64 x 6148914691236517205)
def o2 (x : Int) : Int := IntKind.u64.wrap (bits .and .u64 (x / 4) 3689348814741910323 + bits .and .u64 x 3689348814741910323)
def o3 (x : Int) : Int := bits .and .u64 (IntKind.u64.wrap (x / 16 + x)) 1085102592571150095
def o4 (x : Int) : Int := IntKind.u64.wrap (x + x / 256)
def o5 (x : Int) : Int := IntKind.u64.wrap (x + x / 65536)
def o6 (x : Int) : Int := IntKind.u64.wrap (x + x / 4294967296)
def o7 (x : Int) : Int := bits .and .i64 (wrap64 x) 127
def ones (x : Int) : Int := o7 (o6 (o5 (o4 (o3 (o2 (o1 x))))))
theorem ones_all : (List.range 1024).all (fun x => decide (ones (x : Int) = ((size (x : Int) : Nat) : Int))) = true := by decide +kernel
theorem ones_size (x : Nat) (h : x < 1024) : ones (x : Int) = (size (x : Int) : Int) := by
  have := List.all_eq_true.1 ones_all x (by simpa using h)
  simpa using this
theorem and_1023 (m : Int) : ∃ x : Nat, x < 1024 ∧ bits .and .i64 m 1023 = (x : Int) ∧ size (x : Int) = size m := by
  have hb : ∀ i, i < 64 → mb (bits .and .i64 m 1023) i = (mb m i && decide (i < 10)) := by
    intro i hi
    rw [mb_and, show (1023 : Int) = 2 ^ 10 - 1 from rfl, mb_pow_sub 10 i hi]
  have hv : bits .and .i64 m 1023 = ((BitVec.ofInt 64 m &&& 1023#64).toNat : Int) := by
    rw [bits_and, BitVec.toInt_eq_toNat_of_lt]
    · rfl
    · have : (BitVec.ofInt 64 m &&& BitVec.ofInt 64 1023).toNat ≤ 1023 := by
        rw [BitVec.toNat_and]; exact Nat.and_le_right
      omega
  refine ⟨(BitVec.ofInt 64 m &&& 1023#64).toNat, ?_, hv, ?_⟩
  · have : (BitVec.ofInt 64 m &&& 1023#64).toNat ≤ 1023 := by
      rw [BitVec.toNat_and]; exact Nat.and_le_right
    omega
  · rw [← hv]
    unfold size ids
    rw [List.filter_congr (q := mb m)]
    intro i hi
    simp at hi
    rw [hb i (by omega)]
    simp [hi]
end Go.Proofs.Ytphnfhonmbbddaa

/- The contracts of the arithmetic of committees: Quorum, Third, Has, Size, Bit, of the program and of the reference. -/
namespace Go.Proofs.Ytphnfhonmbbddaa
open Go Go.RowKit
set_option linter.unusedVariables false

theorem ret_int {k : IntKind} {a b : Int} (h : a = b) : Ending.returned (.int k a) = .returned (.int k b) := by rw [h]
theorem ret_bool {a b : Bool} (h : a = b) : Ending.returned (.bool a) = .returned (.bool b) := by rw [h]
set_option maxHeartbeats 400000 in
theorem quorum_c (n : Int) (w : World) (h : W64 n) :
    Calls Try.prog 24 #[.int .i64 n] w fun e w' => e = .returned (.int .i64 (quorum n)) ∧ w = w' := by
  obtain ⟨h1, h2⟩ := h
  by_cases hn : n < 1
  · have e : quorum n = 0 := by simp [quorum, hn]
    rw [e]
    clear e
    go_enter Try.func24, Try.ntmps24
    go_wp2
    go_ret
    exact ⟨rfl, rfl⟩
  · have e : quorum n = n - (n - 1) / 3 := by simp [quorum, hn]
    rw [e]
    clear e
    have hn' : 1 ≤ n := by omega
    go_enter Try.func24, Try.ntmps24
    go_wp2
    go_ret
    exact ⟨rfl, rfl⟩
set_option maxHeartbeats 400000 in
theorem rquorum_c (n : Int) (w : World) (h : W64 n) :
    Calls Try.prog 40 #[.int .i64 n] w fun e w' => e = .returned (.int .i64 (quorum n)) ∧ w = w' := by
  obtain ⟨h1, h2⟩ := h
  by_cases hn : n < 1
  · have e : quorum n = 0 := by simp [quorum, hn]
    rw [e]
    clear e
    go_enter Try.func40, Try.ntmps40
    go_wp2
    go_ret
    exact ⟨rfl, rfl⟩
  · have e : quorum n = n - (n - 1) / 3 := by simp [quorum, hn]
    rw [e]
    clear e
    have hn' : 1 ≤ n := by omega
    go_enter Try.func40, Try.ntmps40
    go_wp2
    go_ret
    exact ⟨rfl, rfl⟩
set_option maxHeartbeats 400000 in
theorem third_c (n : Int) (w : World) (h : W64 n) :
    Calls Try.prog 26 #[.int .i64 n] w fun e w' => e = .returned (.int .i64 (third n)) ∧ w = w' := by
  obtain ⟨h1, h2⟩ := h
  by_cases hn : n < 1
  · have e : third n = 0 := by simp [third, hn]
    rw [e]
    clear e
    go_enter Try.func26, Try.ntmps26
    go_wp2
    go_ret
    exact ⟨rfl, rfl⟩
  · have e : third n = (n - 1) / 3 + 1 := by simp [third, hn]
    rw [e]
    clear e
    have hn' : 1 ≤ n := by omega
    go_enter Try.func26, Try.ntmps26
    go_wp2
    go_ret
    exact ⟨rfl, rfl⟩
set_option maxHeartbeats 400000 in
theorem has_c (m i : Int) (w : World) (h : W64 m) :
    Calls Try.prog 76 #[.int .i64 m, .int .i64 i] w fun e w' => e = .returned (.bool (hasB m i)) ∧ w = w' := by
  by_cases h0 : 0 ≤ i
  · by_cases h1 : i < 10
    · obtain ⟨k, rfl⟩ := Int.eq_ofNat_of_zero_le h0
      have hk : k < 10 := by omega
      rw [hasB_nat m k hk, ← shr_one_eq h k (by omega)]
      go_enter Try.func76, Try.ntmps76
      go_wp2
      go_ret
      exact ⟨rfl, rfl⟩
    · have e : hasB m i = false := by simp [hasB, h1]
      rw [e]
      clear e
      have h1' : decide (i < 10) = false := by simpa using h1
      go_enter Try.func76, Try.ntmps76
      go_wp2
      go_ret
      exact ⟨rfl, rfl⟩
  · have e : hasB m i = false := by simp [hasB, h0]
    rw [e]
    clear e
    have h0' : decide (0 ≤ i) = false := by simpa using h0
    go_enter Try.func76, Try.ntmps76
    go_wp2
    go_ret
    exact ⟨rfl, rfl⟩
set_option maxHeartbeats 400000 in
theorem rhas_c (m i : Int) (w : World) (h : W64 m) :
    Calls Try.prog 90 #[.int .i64 m, .int .i64 i] w fun e w' => e = .returned (.bool (hasB m i)) ∧ w = w' := by
  by_cases h0 : 0 ≤ i
  · by_cases h1 : i < 10
    · obtain ⟨k, rfl⟩ := Int.eq_ofNat_of_zero_le h0
      have hk : k < 10 := by omega
      rw [hasB_nat m k hk, ← shr_one_eq h k (by omega)]
      go_enter Try.func90, Try.ntmps90
      go_wp2
      go_ret
      exact ⟨rfl, rfl⟩
    · have e : hasB m i = false := by simp [hasB, h1]
      rw [e]
      clear e
      have h1' : decide (i < 10) = false := by simpa using h1
      go_enter Try.func90, Try.ntmps90
      go_wp2
      go_ret
      exact ⟨rfl, rfl⟩
  · have e : hasB m i = false := by simp [hasB, h0]
    rw [e]
    clear e
    have h0' : decide (0 ≤ i) = false := by simpa using h0
    go_enter Try.func90, Try.ntmps90
    go_wp2
    go_ret
    exact ⟨rfl, rfl⟩
set_option maxHeartbeats 1000000 in
theorem ones64_o (x : Nat) (w : World) (h : x < 1024) :
    Calls Try.prog 67 #[.int .u64 x] w fun e w' => e = .returned (.int .i64 (ones x)) ∧ w = w' := by
  go_enter Try.func67, Try.ntmps67
  go_wp2
  go_ret
  refine ⟨ret_int ?_, rfl⟩
  simp only [ones, o1, o2, o3, o4, o5, o6, o7]
theorem ones64_c (x : Nat) (w : World) (h : x < 1024) :
    Calls Try.prog 67 #[.int .u64 x] w fun e w' => e = .returned (.int .i64 (size x)) ∧ w = w' := by
  rw [← ones_size x h]
  exact ones64_o x w h
set_option maxHeartbeats 400000 in
theorem ones_c (x : Nat) (w : World) (h : x < 1024) :
    Calls Try.prog 44 #[.int .u64 x] w fun e w' => e = .returned (.int .i64 (size x)) ∧ w = w' := by
  go_enter Try.func44, Try.ntmps44
  go_wp2_with (go_at_call 67; refine (ones64_c x _ h).mono ?_; rintro e w' ⟨rfl, rfl⟩)
  go_ret
  exact ⟨rfl, rfl⟩
set_option maxHeartbeats 400000 in
theorem size_c (m : Int) (w : World) :
    Calls Try.prog 25 #[.int .i64 m] w fun e w' => e = .returned (.int .i64 (size m)) ∧ w = w' := by
  obtain ⟨x, hx, he, hs⟩ := and_1023 m
  rw [← hs]
  clear hs
  go_enter Try.func25, Try.ntmps25
  go_wp2_with (go_at_call 44; refine (ones_c x _ hx).mono ?_; rintro e w' ⟨rfl, rfl⟩)
  go_ret
  exact ⟨rfl, rfl⟩
end Go.Proofs.Ytphnfhonmbbddaa

/- The iterator over the members of a mask, and what ranges over it: IDs, Lowest, Select. -/
namespace Go.Proofs.Ytphnfhonmbbddaa
open Go Go.RowKit Go.Shelf
set_option linter.unusedVariables false
attribute [local go_sem] Oper.semAt_some

theorem boxed_eq {W W' : World} {B : Nat} {t : TypeId} {v : Value} (h : Boxed W B t v) (e : W'.heap[B]? = W.heap[B]?) : Boxed W' B t v := by
  unfold Boxed at *
  rw [e]; exact h
set_option maxRecDepth 100000 in
set_option maxHeartbeats 1000000 in
theorem members1_in (n : Nat) (hn : 1 ≤ n) (l Bn : Nat) (m : Int) (hm : W64 m) (J Jx : List (Fin 10) → World → Prop)
    (hY : ∀ pre (x : Fin 10) W, J pre W → pre.length < 10 → YieldAt Fence.wide (n - 1) Try.prog l #[.int .i64 (x.val : Int)] W fun e W' =>
      (e = .returned (.bool true) ∧ J (pre ++ [x]) W' ∧ W'.heap[Bn]? = W.heap[Bn]?) ∨ (e = .returned (.bool false) ∧ Jx (pre ++ [x]) W'))
    (W : World) (hB : Boxed W Bn 32 (.int .i64 m)) (h0 : J [] W) :
    CallsIn Fence.wide n Try.prog 121 #[.func (.yield l) #[] #[], .pointer (some ⟨Bn, 0, none⟩)] W fun e W' => (∃ v, e = .returned v) ∧
      ((∃ ys, ys = idsF m ∧ J ys W') ∨ (∃ pre, pre <+: idsF m ∧ Jx pre W')) := by
  refine callsIn_of_wp Try.func121 rfl trivial ?_ rfl
  simp only [Try.ntmps121, List.size_toArray, List.length_cons, List.length_nil, Nat.reduceAdd, Nat.reduceSub, Array.replicate_succ, Array.replicate_zero, List.push_toArray, List.append_toArray, List.nil_append, List.cons_append]
  gi_wp2
  gi_loopw [4] (fun i wr => ∃ k : Nat, k ≤ 10 ∧ i = .int .i64 k ∧ Boxed wr Bn 32 (.int .i64 m) ∧ J (idsTo m k) wr)
    (fun i wr => 10 - (intOf i).toNat)
  case atStart =>
    exact ⟨0, by omega, rfl, hB, by rw [idsTo_zero]; exact h0⟩
  case round =>
    obtain ⟨k, hk, rfl, hb, hJ⟩ := hrel
    have hc := hb.cell
    by_cases hk' : k < 10
    · by_cases hbit : mb m k = true
      · obtain ⟨fn, tmps, assign, body, hy, hR⟩ := hY (idsTo m k) ⟨k, hk'⟩ wr hJ (idsTo_len m k hk')
        dsimp only at hy
        have hh : hasB m (k : Int) = true := by rw [hasB_nat m k hk']; exact hbit
        have hH := has_c m (k : Int) wr hm
        rw [hh] at hH
        clear hh
        have HH := Lib.hid hH
        clear hH
        gi_wp2_with (refine ⟨trivial, ?_⟩; gi_at_call 76; refine (callsIn_wide.2 HH.out).mono ?_; rintro e w' ⟨rfl, rfl⟩)
        refine hR.mono ?_
        rintro e W3 (⟨rfl, hJ3, hk3⟩ | ⟨rfl, hJx3⟩)
        · gi_wp2
          go_roundw
          case rel => exact ⟨k + 1, by omega, by go_num, boxed_eq hb hk3, by rw [idsTo_hit m k hk' hbit]; exact hJ3⟩
          case measure => simp [intOf]; omega
        · gi_wp2
          refine bodyPost_ret (results_none rfl _ _ _) rfl ?_
          exact ⟨⟨_, rfl⟩, .inr ⟨idsTo m (k + 1), idsTo_pre m (k + 1), by rw [idsTo_hit m k hk' hbit]; exact hJx3⟩⟩
      · have hh : hasB m (k : Int) = false := by rw [hasB_nat m k hk']; simpa using hbit
        have hH := has_c m (k : Int) wr hm
        rw [hh] at hH
        clear hh
        have HH := Lib.hid hH
        clear hH
        gi_wp2_with (refine ⟨trivial, ?_⟩; gi_at_call 76; refine (callsIn_wide.2 HH.out).mono ?_; rintro e w' ⟨rfl, rfl⟩)
        refine ⟨fun _ h => (by cases h), ?_⟩
        gi_wp2
        go_roundw
        case rel => exact ⟨k + 1, by omega, by go_num, hb, by rw [idsTo_miss m k hk' (by simpa using hbit)]; exact hJ⟩
        case measure => simp [intOf]; omega
    · obtain rfl : k = 10 := by omega
      rw [idsTo_ten] at hJ
      gi_wp2
      go_end0
      exact ⟨⟨_, rfl⟩, .inl ⟨_, rfl, hJ⟩⟩
/-- What a round must keep: the block that holds the mask. -/
def KeepsBlock (B : Nat) (W W' : World) : Prop := W'.heap[B]? = W.heap[B]?
theorem keepsBlock_t {B : Nat} {X Y Z : World} (h : KeepsBlock B X Y) (k : KeepsBlock B Y Z) : KeepsBlock B X Z := Eq.trans k h
theorem keepsBlock_b {B : Nat} {w : World} (hn : B < w.heap.size) (W : World) (l : Nat) (o o' : Obj) (hl : w.heap.size ≤ l) (h : W.heap[l]? = some o) (_ : o.isCells = false) (_ : o.isWalk = false) : KeepsBlock B W (W.putObj l o') :=
  World.putObj_heap_other (by omega)
theorem members_stops (n : Nat) (hn : 1 ≤ n) (Bn : Nat) (m : Int) (hm : W64 m) (w : World) (hB : Boxed w Bn 32 (.int .i64 m)) :
    SeqStopsK Fence.wide n Try.prog 121 #[.pointer (some ⟨Bn, 0, none⟩)] (fun x : Fin 10 => #[Value.int .i64 (x.val : Int)]) (KeepsBlock Bn) (fun ys => ys = idsF m) (fun pre => pre <+: idsF m) 10 w := fun l J Jx W hW _ _ hY h0 =>
  members1_in n hn l Bn m hm J Jx hY W (boxed_eq hB (hW.block Bn hB.lt)) h0
set_option maxHeartbeats 1000000 in
theorem members_c (m : Int) (w : World) :
    Calls Try.prog 82 #[.int .i64 m] w fun e w' => e = .returned (.func (.func 121) #[] #[.pointer (some ⟨w.heap.size, 0, none⟩)]) ∧ w' = w.alloc (.cells #[.int .i64 m] 32) := by
  go_enter Try.func82, Try.ntmps82
  go_wp2
  go_ret
  exact ⟨rfl, rfl⟩
theorem info_int : (Try.prog.info? 3).map (fun i => (i.zero, i.size, i.bytes)) = some (some (.int .i64 0), 1, 8) := by kernel_rfl
set_option maxRecDepth 100000 in
set_option maxHeartbeats 2000000 in
theorem ids_c (m : Int) (hm : W64 m) (w : World) :
    Calls Try.prog 58 #[.int .i64 m] w fun e W' => ∃ v, e = .returned v ∧ W'.ownsRow w.heap.size 3 1 v (ids m).length ((ids m).map fun i : Nat => Value.int .i64 (i : Int)) ∧ Below w.heap.size w W' := by
  refine (callsIn_wide (n := 5)).1 ?_
  obtain ⟨i0, hi, hz0, hz1, hz2⟩ := info_parts info_int
  refine callsIn_of_wp_marks Try.func58 rfl trivial ?_ rfl
  simp only [Try.ntmps58, List.size_toArray, List.length_cons, List.length_nil, Nat.reduceAdd, Nat.reduceSub, Array.replicate_succ, Array.replicate_zero, List.push_toArray, List.append_toArray, List.nil_append, List.cons_append]
  gi_wp2_with (refine ⟨trivial, ?_⟩; gi_at_call 82; refine (callsIn_wide.2 (members_c m _)).mono ?_; rintro e w' ⟨rfl, rfl⟩)
  have bO := Boxed.new w 45 (.slice none 0 0)
  have bN := Boxed.new (w.alloc (.cells #[.slice none 0 0] 45)) 32 (.int .i64 m)
  rw [World.size_alloc] at bN
  have hB0 : Below w.heap.size w ((w.alloc (.cells #[.slice none 0 0] 45)).alloc (.cells #[.int .i64 m] 32)) := ((Below.refl _ w).alloc (Nat.le_refl _) _).alloc (by simp) _
  refine wpIn_rangeFunc_ownG rfl (by omega) (gf := 121) (lb := #[.pointer (some ⟨w.heap.size + 1, 0, none⟩)]) rfl trivial (enters_of Try.func121 (by kernel_rfl) rfl)
    (members_stops 4 (by omega) (w.heap.size + 1) m hm _ bN) keepsBlock_t (keepsBlock_b (by simp)) (Below.refl _ _) (fun _ => rfl)
    (fun pre W => (∃ v, Boxed W w.heap.size 45 v ∧ W.ownsRow w.heap.size 3 1 v pre.length (pre.map fun i : Fin 10 => Value.int .i64 (i.val : Int)) ∧ True) ∧ (Boxed W (w.heap.size + 1) 32 (.int .i64 m) ∧ Below w.heap.size w W))
    (fun _ _ _ => False)
    (OwnFrom.and (Own.from (holdsRow_own w.heap.size w.heap.size 45 3 1 (fun pre : List (Fin 10) => pre.length) (fun pre => pre.map fun i : Fin 10 => Value.int .i64 (i.val : Int)) (fun pre v => True)) _) (OwnFrom.and (Own.from (boxed_own _ _ _) _) (ownFrom_below (Nat.le_refl _) (by simp; omega))))
    (fun _ _ _ _ _ hs _ _ => hs)
    ⟨⟨_, bO.alloc _, World.ownsRow_nil _ _ _ _, trivial⟩, bN, hB0⟩
    (fun x => { tmps := #[.int .i64 m, undef, .slice none 0 0, .pointer (some ⟨w.heap.size, 0, none⟩), .int .i64 (x.val : Int), .int .i64 m, .func (.func 121) #[] #[.pointer (some ⟨w.heap.size + 1, 0, none⟩)], .int .i64 (x.val : Int), undef, undef, undef, undef, undef], defers := [] }) ?assign ?body ?done ?stop
  case assign =>
    intro l x W K hK
    gi_wp2
    exact hK
  case body =>
    rintro l pre x W ⟨⟨v, hv, hrow, _⟩, bM, hB⟩ hlt
    have hc := hv.cell
    gi_wp2_with (gi_at_builtin; refine wpListIn_append_own _ rfl _ _ 45 rfl w.heap.size 3 i0 (.int .i64 0) 1 8 Try.underlying45 hi hz0 hz1 hz2 rfl (by decide) _ _ _ rfl (hrow.alloc _) ⟨W.heap.size, 0, none⟩ 1 1 [.int .i64 (x.val : Int)] rfl rfl (cell_one_new _ _ _) (by simp [Value.oneCell']) (by unfold maxLen; omega) (by omega) (by have := hB.size; simp; omega) ?_; intro v' w1 hown' hgrow _; obtain ⟨g', cap', rfl⟩ := ownsRow_succ hown'; obtain ⟨hv1, hv2, hr2, hk2, hb2⟩ := hv.appended (by decide) hrow hB.size (Nat.le_refl _) hown' hgrow; have hm1 := ((bM.alloc _).kept hgrow (bM.not_row (by decide) hrow)).kept (grownBy_setCell' w1 w.heap.size (.slice (some ⟨g', 0, none⟩) (pre.length + 1) cap')) (by simp) ; have hc1 := hv1.cell; have hf1 := hv1.frozen)
    exact ⟨hk2.from _, Eq.trans hm1 bM.symm, ⟨_, hv2, by simpa using hr2, trivial⟩, hm1, hB.trans hb2⟩
  case done =>
    rintro D ys W hD rfl ⟨⟨v, hv, hrow, _⟩, bM, hB⟩ hK
    have hc := hv.cell
    gi_wp2
    refine ⟨by simp, .inl ⟨_, _, rfl, run_takeDeferred hK, ?_⟩⟩
    refine ⟨_, results_tmp rfl _ _ _, v, rfl, ?_, hB.trans (belowK_b (w := w) (Nat.le_refl _) W D _ _ (by simp at hD; omega) hK rfl rfl)⟩
    have := ownsRow_putObj hrow (.deferred none) hK rfl
    rw [← idsF_map, List.length_map, List.map_map]
    exact this
  case stop =>
    rintro D c pre W _ _ h _
    exact h.elim
end Go.Proofs.Ytphnfhonmbbddaa

/- Lowest and Select of the program. -/
namespace Go.Proofs.Ytphnfhonmbbddaa
open Go Go.RowKit Go.Shelf
set_option linter.unusedVariables false
attribute [local go_sem] Oper.semAt_some

theorem low_all (m k : Int) (h : (idsF m).length ≤ k.toNat) : ofIds ((idsF m).map (·.val)) = lowest m k := by
  unfold lowest
  rw [← idsF_map, List.take_of_length_le (by simpa using h)]
theorem low_part (m k : Int) (pre : List (Fin 10)) (x : Fin 10) (h : pre ++ [x] <+: idsF m) (hl : pre.length = k.toNat) : ofIds (pre.map (·.val)) = lowest m k := by
  unfold lowest
  rw [← idsF_map, ← List.map_take, ← hl]
  have : pre <+: idsF m := List.IsPrefix.trans (List.prefix_append _ _) h
  rw [← List.prefix_iff_eq_take.1 this]
theorem wrap_pow (x : Nat) (h : x < 10) : wrap64 (2 ^ x) = 2 ^ x := by
  have h1 : (2 : Int) ^ x ≤ 2 ^ 10 := by
    have : (2 : Nat) ^ x ≤ 2 ^ 10 := Nat.pow_le_pow_right (by omega) (by omega)
    exact_mod_cast this
  have h0 : (0 : Int) < 2 ^ x := Int.pow_pos (by omega)
  unfold wrap64
  omega
end Go.Proofs.Ytphnfhonmbbddaa

/- Select of the program; Bit, IDs, Size of the reference. -/
namespace Go.Proofs.Ytphnfhonmbbddaa
open Go Go.RowKit
set_option linter.unusedVariables false

theorem own_base {w : World} {base : Nat} {e : TypeId} {size : Nat} {v : Value} {n : Nat} {xs : List Value} (h : w.ownsRow base e size v n xs) : ∀ k, v.ownBlock = some k → base ≤ k := by
  rcases h.2 with ⟨rfl, _⟩ | ⟨g, cap, cur, rfl, hb, _⟩
  · intro k hk; simp [Value.ownBlock] at hk
  · intro k hk; simp [Value.ownBlock] at hk; omega
theorem own_form {w : World} {base : Nat} {e : TypeId} {size : Nat} {v : Value} {n : Nat} {xs : List Value} (h : w.ownsRow base e size v n xs) : ∃ A c, v = .slice A n c := by
  rcases h.2 with ⟨rfl, rfl⟩ | ⟨g, cap, cur, rfl, _⟩
  · exact ⟨_, _, rfl⟩
  · exact ⟨_, _, rfl⟩
/-- Select. -/
def selMask (v g : Int) : Int := bits .andNot .i64 (2 ^ (min (max v 0) 10).toNat - 1) g
def select (v s g : Int) : Int := lowest (selMask v g) s
theorem w64_selMask (v g : Int) : W64 (selMask v g) := w64_andNot _ _
theorem pow_le (n : Nat) (h : n ≤ 10) : (1 : Int) ≤ 2 ^ n ∧ (2 : Int) ^ n ≤ 1024 :=
  (by decide : ∀ k : Fin 11, (1 : Int) ≤ 2 ^ k.val ∧ (2 : Int) ^ k.val ≤ 1024) ⟨n, by omega⟩
theorem idsN_hit (m : Int) (k : Nat) (hb : mb m k = true) : (List.range (k + 1)).filter (mb m) = (List.range k).filter (mb m) ++ [k] := by
  rw [List.range_succ, List.filter_append]; simp [hb]
theorem idsN_miss (m : Int) (k : Nat) (hb : mb m k = false) : (List.range (k + 1)).filter (mb m) = (List.range k).filter (mb m) := by
  rw [List.range_succ, List.filter_append]; simp [hb]
/-- The ids below k. -/
def idsN (m : Int) (k : Nat) : List Nat := (List.range k).filter (mb m)
theorem idsN_len (m : Int) (k : Nat) : (idsN m k).length ≤ k := by
  have := List.length_filter_le (mb m) (List.range k); simpa [idsN] using this
set_option maxRecDepth 100000 in
set_option maxHeartbeats 1000000 in
theorem rids_c (m : Int) (hm : W64 m) (w : World) :
    Calls Try.prog 68 #[.int .i64 m] w fun e W' => ∃ v, e = .returned v ∧ W'.ownsRow w.heap.size 3 1 v (ids m).length ((ids m).map fun i : Nat => Value.int .i64 (i : Int)) ∧ Below w.heap.size w W' := by
  obtain ⟨i0, hi, hz0, hz1, hz2⟩ := info_parts info_int
  have HM := Lib.hid hm
  clear hm
  go_enter Try.func68, Try.ntmps68
  go_wp2
  go_loopw [3, 4] (fun v i wr => ∃ k : Nat, k ≤ 10 ∧ i = .int .i64 k ∧ wr.ownsRow w.heap.size 3 1 v (idsN m k).length ((idsN m k).map fun i : Nat => Value.int .i64 (i : Int)) ∧ Below w.heap.size w wr) (fun _ i _ => 10 - (intOf i).toNat)
  case atStart => exact ⟨0, by omega, rfl, World.ownsRow_nil _ _ _ _, Below.refl _ _⟩
  case round =>
    obtain ⟨k, hk, rfl, hown, hB⟩ := hrel
    have hl := idsN_len m k
    by_cases hlt : k < 10
    · by_cases hbit : mb m k = true
      · have hH := rhas_c m (k : Int) wr HM.out
        rw [hasB_nat m k hlt, hbit] at hH
        have HH := Lib.hid hH
        have HE : Hid (idsN m (k + 1) = idsN m k ++ [k]) := idsN_hit m k hbit
        clear hH hbit
        go_wp2_with (first
          | (go_at_call 90; refine HH.out.mono ?_; rintro e w' ⟨rfl, rfl⟩)
          | (at_builtin; refine wpList_append_own _ rfl _ _ 45 rfl w.heap.size 3 i0 (.int .i64 0) 1 8 Try.underlying45 hi hz0 hz1 hz2 rfl (by decide) _ _ _ rfl (hown.alloc _) ⟨wr.heap.size, 0, none⟩ 1 1 [.int .i64 (k : Int)] rfl rfl (cell_one_new _ _ _) (by simp [Value.oneCell']) (by unfold maxLen; omega) (by omega) (by have := hB.size; simp; omega) ?_; intro v' w1 hown' hgrow _))
        go_roundw
        case rel => exact ⟨k + 1, by omega, by go_num, by rw [HE.out]; simpa using hown', ((hB.alloc hB.size _).grown hgrow (by have := hB.size; simp; omega) (own_base hown))⟩
        case measure => simp [intOf]; omega
      · have hH := rhas_c m (k : Int) wr HM.out
        have hbit' : mb m k = false := by simpa using hbit
        rw [hasB_nat m k hlt, hbit'] at hH
        have HH := Lib.hid hH
        have HE : Hid (idsN m (k + 1) = idsN m k) := idsN_miss m k hbit'
        clear hH hbit hbit'
        go_wp2_with (first
          | (go_at_call 90; refine HH.out.mono ?_; rintro e w' ⟨rfl, rfl⟩))
        go_roundw
        case rel => exact ⟨k + 1, by omega, by go_num, by rw [HE.out]; exact hown, hB⟩
        case measure => simp [intOf]; omega
    · obtain rfl : k = 10 := by omega
      go_wp2
      go_ret
      exact ⟨_, rfl, hown, hB⟩
set_option maxHeartbeats 400000 in
theorem rsize_c (m : Int) (hm : W64 m) (w : World) :
    Calls Try.prog 50 #[.int .i64 m] w fun e w' => e = .returned (.int .i64 (size m)) ∧ Below w.heap.size w w' := by
  have HM := Lib.hid hm
  clear hm
  go_enter Try.func50, Try.ntmps50
  go_wp2_with fail
  refine (rids_c m HM.out _).mono ?_
  rintro e w1 ⟨v, rfl, hown, hB⟩
  obtain ⟨A, c, hv⟩ := own_form hown
  rw [hv]
  clear hv hown
  go_wp2
  go_ret
  exact ⟨rfl, hB⟩
set_option maxHeartbeats 400000 in
theorem rbit_c (i : Nat) (h : i < 10) (w : World) :
    Calls Try.prog 46 #[.int .i64 i] w fun e w' => e = .returned (.int .i64 (2 ^ i)) ∧ w = w' := by
  have e := wrap_pow i h
  rw [← e]
  clear e
  have h10 : decide ((10 : Int) ≤ (i : Int)) = false := by simp; omega
  go_enter Try.func46, Try.ntmps46
  go_wp2
  go_ret
  exact ⟨rfl, rfl⟩
end Go.Proofs.Ytphnfhonmbbddaa

/- The sanity check of the statements of layer 6. -/
namespace Go.Proofs.Ytphnfhonmbbddaa
open Go Go.RowKit
set_option linter.unusedVariables false

theorem w64_of {m : Int} (h : (Lit.int .i64 m).wf = true) : W64 m := by
  simp [Lit.wf, IntKind.min, IntKind.max, IntKind.signed, IntKind.bits] at h
  unfold W64
  omega
theorem w64_small (n : Int) (h : -1000000 ≤ n) (h' : n ≤ 1000000) : W64 n := by unfold W64; omega
end Go.Proofs.Ytphnfhonmbbddaa

/- Lowest and Select of the reference. -/
namespace Go.Proofs.Ytphnfhonmbbddaa
open Go Go.RowKit
set_option linter.unusedVariables false

theorem own_cell {w : World} {base : Nat} {e : TypeId} {A : Option Addr} {c : Nat} {l : List Nat} (h : w.ownsRow base e 1 (.slice A l.length c) l.length (l.map fun i : Nat => Value.int .i64 (i : Int))) (j : Nat) (hj : j < l.length) :
    ∃ g, A = some ⟨g, 0, none⟩ ∧ w.cell? ⟨g, j, none⟩ = some (.int .i64 (l[j] : Int)) := by
  rcases h.2 with ⟨h1, h2⟩ | ⟨g, cap, cur, hv, hb, hg, hnc, hm, hs, ht⟩
  · omega
  · injection hv with hA hn hc
    refine ⟨g, hA, ?_⟩
    have hcur : cur.toList[j]? = some (.int .i64 (l[j] : Int)) := by
      have : (cur.toList.take (l.length * 1))[j]? = some (.int .i64 (l[j] : Int)) := by rw [ht]; simp [hj]
      rw [List.getElem?_take] at this
      split at this
      · exact this
      · cases this
    simp [World.cell?, hg]
    simpa using hcur
theorem take_next (l : List Nat) (j : Nat) (h : j < l.length) : ofIds (l.take (j + 1)) = bits .or .i64 (ofIds (l.take j)) (2 ^ l[j]) := by
  rw [List.take_succ_eq_append_getElem h, ofIds_snoc]
end Go.Proofs.Ytphnfhonmbbddaa

/- The walks of CommitteeSelects, CommitteeQuorums, CommitteeSets. -/
namespace Go.Proofs.Ytphnfhonmbbddaa
open Go Go.RowKit
set_option linter.unusedVariables false

end Go.Proofs.Ytphnfhonmbbddaa

/- ints; the walk of CommitteeSets. -/
namespace Go.Proofs.Ytphnfhonmbbddaa
open Go Go.RowKit
set_option linter.unusedVariables false

/-- A slice of ints that reads as a list of naturals. -/
def RdN (w : World) (A : Option Addr) (l : List Nat) : Prop :=
  ∀ j (h : j < l.length), ∃ b off, A = some ⟨b, off, none⟩ ∧ b < w.heap.size ∧ w.cell? ⟨b, off + j, none⟩ = some (.int .i64 (l[j] : Int))
theorem RdN.of_own {w : World} {base : Nat} {e : TypeId} {A : Option Addr} {c : Nat} {l : List Nat} (h : w.ownsRow base e 1 (.slice A l.length c) l.length (l.map fun i : Nat => Value.int .i64 (i : Int))) : RdN w A l := by
  intro j hj
  obtain ⟨g, hA, hc⟩ := own_cell h j hj
  refine ⟨g, 0, hA, ?_, by simpa using hc⟩
  by_cases hg : g < w.heap.size
  · exact hg
  · simp [World.cell?, Array.getElem?_eq_none (Nat.le_of_not_lt hg)] at hc
theorem RdN.below {w w' : World} {A : Option Addr} {l : List Nat} (h : RdN w A l) (hb : Below w.heap.size w w') : RdN w' A l := by
  intro j hj
  obtain ⟨b, off, hA, hlt, hc⟩ := h j hj
  exact ⟨b, off, hA, Nat.lt_of_lt_of_le hlt hb.size, (hb.cell (p := ⟨b, off + j, none⟩) hlt).trans hc⟩
theorem below_drewN {B : Nat} {a w : World} (h : Below B a w) (n : Nat) : Below B a (w.drewN n) := ⟨h.os, h.tape, h.output, h.size, h.block⟩
end Go.Proofs.Ytphnfhonmbbddaa
