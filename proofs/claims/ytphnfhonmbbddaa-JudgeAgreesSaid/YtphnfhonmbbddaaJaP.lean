/- What the judge calls decidable is what the accepted votes decide (plain). -/
import Derived.Test.YtphnfhonmbbddaaJgP
import Derived.Test.YtphnfhonmbbddaaAcctS
namespace Go.Proofs.Ytphnfhonmbbddaa
open Go Go.RowKit
set_option linter.unusedVariables false

def oneN : Nm := { Nm.zero with b0 := 1 }
def valC (c : Nat) : Nm := if c = 1 then oneN else Nm.zero
def proV : Vt := ⟨1, 0, 0, 1, 0, 0, Nm.zero, oneN⟩
def echV (m : Nat) : Vt := ⟨2, 0, 0, 1, (m : Int), 0, Nm.zero, oneN⟩
def pvV (r m c : Nat) (s : Int) : Vt := ⟨3, 0, ((r + 1 : Nat) : Int), (c : Int), (m : Int), s, Nm.zero, valC c⟩
def pcV (r m c : Nat) (s : Int) : Vt := ⟨4, 0, ((r + 1 : Nat) : Int), (c : Int), (m : Int), s, Nm.zero, valC c⟩
def spV (r c s : Nat) : Int := bif (r == 0) && (c == 0) then 0 else (s : Int)
/-- The votes of one support. -/
def vtK (P C : List (List Int)) (q : Int) (r m c s : Nat) : List Vt := bif (size (s : Int) : Int) != q then [] else ((bif (mb (ent P r m) c) && (c != 2) then [pvV r m c (spV r c s)] else []) ++ (bif mb (ent C r m) c then [pcV r m c (s : Int)] else []))
def vtC (P C : List (List Int)) (n : Nat) (q : Int) (r m c : Nat) : List Vt := (List.range (2 ^ n)).flatMap (vtK P C q r m c)
def vtM (P C : List (List Int)) (n : Nat) (q : Int) (r m : Nat) : List Vt := (List.range 3).flatMap (vtC P C n q r m)
def vtR (P C : List (List Int)) (n : Nat) (q : Int) (r : Nat) : List Vt := (List.range n).flatMap (vtM P C n q r)
def votL (n : Nat) : List Vt := [proV] ++ (List.range n).map echV
def votV (P C : List (List Int)) (n k : Nat) : List Vt := votL n ++ (List.range k).flatMap (vtR P C n (quorum (n : Int)))
section
variable {P C : List (List Int)} {n k : Nat} {q : Int} {v : Vt}
theorem mem_vot : v ∈ votV P C n k ↔ v = proV ∨ (∃ m, m < n ∧ v = echV m) ∨ ∃ r m c s : Nat, r < k ∧ m < n ∧ c < 3 ∧ s < 2 ^ n ∧ (size (s : Int) : Int) = quorum (n : Int) ∧ ((mb (ent P r m) c = true ∧ c ≠ 2 ∧ v = pvV r m c (spV r c s)) ∨ (mb (ent C r m) c = true ∧ v = pcV r m c (s : Int))) := by
  have hK : ∀ {r m c s : Nat}, v ∈ vtK P C (quorum (n : Int)) r m c s ↔ (size (s : Int) : Int) = quorum (n : Int) ∧ ((mb (ent P r m) c = true ∧ c ≠ 2 ∧ v = pvV r m c (spV r c s)) ∨ (mb (ent C r m) c = true ∧ v = pcV r m c (s : Int))) := fun {r m c s} => by
    have mb1 : ∀ {b : Bool} {x : Vt}, v ∈ (bif b then [x] else []) ↔ b = true ∧ v = x := fun {b x} => by cases b <;> simp
    unfold vtK
    cases hq : ((size (s : Int) : Int) != quorum (n : Int)) with
    | true =>
      rw [cond_true]
      simp only [bne_iff_ne] at hq
      exact ⟨fun h => (List.not_mem_nil h).elim, fun h => absurd h.1 hq⟩
    | false =>
      rw [cond_false, List.mem_append, mb1, mb1, Bool.and_eq_true, bne_iff_ne]
      simp only [bne_eq_false_iff_eq] at hq
      rw [and_assoc]
      exact ⟨fun h => ⟨hq, h⟩, fun h => h.2⟩
  unfold votV votL vtR vtM vtC
  simp only [List.mem_append, List.mem_singleton, List.mem_map, List.mem_range, List.mem_flatMap, hK]
  constructor
  · rintro ((h | ⟨m, hm, rfl⟩) | ⟨r, hr, m, hm, c, hc, s, hs, h⟩)
    · exact .inl h
    · exact .inr (.inl ⟨m, hm, rfl⟩)
    · exact .inr (.inr ⟨r, m, c, s, hr, hm, hc, hs, h⟩)
  · rintro (h | ⟨m, hm, rfl⟩ | ⟨r, m, c, s, hr, hm, hc, hs, h⟩)
    · exact .inl (.inl h)
    · exact .inl (.inr ⟨m, hm, rfl⟩)
    · exact .inr ⟨r, hr, m, hm, c, hc, s, hs, h⟩
end
/-- All members. -/
def allM (n : Nat) : Int := 2 ^ n - 1
section
variable {n : Nat}
theorem size_all (h1 : 1 ≤ n) (h7 : n ≤ 7) : size (allM n) = n := by
  have h : n = 1 ∨ n = 2 ∨ n = 3 ∨ n = 4 ∨ n = 5 ∨ n = 6 ∨ n = 7 := by omega
  rcases h with rfl | rfl | rfl | rfl | rfl | rfl | rfl <;> decide +kernel
theorem has_all (h7 : n ≤ 7) (i : Nat) : hasB (allM n) (i : Int) = decide (i < n) := by
  by_cases h : i < 10
  · rw [hasB_nat _ _ h]; exact mb_pow_sub n i (by omega)
  · unfold hasB
    rw [decide_eq_false (by omega : ¬ (i : Int) < 10), decide_eq_false (by omega : ¬ i < n)]
    simp
theorem mb_low {s : Nat} (hs : s < 2 ^ n) {i : Nat} (h : mb (s : Int) i = true) : i < n := by
  by_cases hi : i < 64
  · rw [mb_nat _ _ hi] at h
    rcases Nat.lt_or_ge i n with h1 | h1
    · exact h1
    · rw [Nat.testBit_lt_two_pow (Nat.lt_of_lt_of_le hs (Nat.pow_le_pow_right (by decide) h1))] at h
      cases h
  · rw [mb_ge _ _ (by omega)] at h; cases h
theorem sup_all (h7 : n ≤ 7) {s : Nat} (hs : s < 2 ^ n) : bits .andNot .i64 (s : Int) (allM n) = 0 ∧ bits .andNot .i64 (s : Int) 1023 = 0 := by
  have h : ∀ N, n ≤ N → bits .andNot .i64 (s : Int) ((2 : Int) ^ N - 1) = 0 := fun N hN => by
    apply mb_ext (w64_andNot _ _) ⟨by decide, by decide⟩
    intro i hi
    rw [mb_andNot, mb_zero, mb_pow_sub _ _ hi]
    cases hb : mb (s : Int) i with
    | false => rfl
    | true =>
      have := mb_low hs hb
      rw [decide_eq_true (by omega)]; rfl
  exact ⟨h n (Nat.le_refl _), h 10 (by omega)⟩
theorem sup_zero : bits .andNot .i64 0 1023 = 0 := by decide +kernel
theorem has_bit {s : Int} {i : Nat} (h : hasB s (i : Int) = true) : mb s i = true := by
  unfold hasB at h
  simp only [Bool.and_eq_true, Int.toNat_natCast] at h
  exact h.2
theorem bit_has {s : Int} {i : Nat} (hi : i < 10) (h : mb s i = true) : hasB s (i : Int) = true := by rw [hasB_nat _ _ hi]; exact h
theorem has_nat {s i : Int} (h : hasB s i = true) : ∃ j : Nat, i = (j : Int) ∧ mb s j = true ∧ j < 10 := by
  obtain ⟨j, rfl, hj⟩ := (hasB_iff s i).1 h
  rw [mem_ids] at hj
  exact ⟨j, rfl, hj.2, hj.1⟩
theorem choose_sub {α : Type} (p : α → Bool) : ∀ (l : List α) (q : Nat), (l.filter p).length ≤ q → q ≤ l.length → ∃ S, List.Sublist S l ∧ S.length = q ∧ ∀ x ∈ l, p x = true → x ∈ S
  | [], q, _, h2 => ⟨[], List.Sublist.refl _, by have : q ≤ 0 := h2; show 0 = q; omega, fun x hx => by cases hx⟩
  | a :: l, q, h1, h2 => by
    rw [List.length_cons] at h2
    cases hp : p a with
    | true =>
      rw [List.filter_cons, if_pos hp, List.length_cons] at h1
      obtain ⟨S, s1, s2, s3⟩ := choose_sub p l (q - 1) (by omega) (by omega)
      refine ⟨a :: S, s1.cons_cons a, by rw [List.length_cons, s2]; omega, fun x hx hpx => ?_⟩
      rcases List.mem_cons.1 hx with rfl | hx
      · exact List.mem_cons_self
      · exact List.mem_cons_of_mem _ (s3 x hx hpx)
    | false =>
      rw [List.filter_cons, if_neg (by rw [hp]; decide)] at h1
      by_cases hq : q ≤ l.length
      · obtain ⟨S, s1, s2, s3⟩ := choose_sub p l q h1 hq
        refine ⟨S, s1.cons a, s2, fun x hx hpx => ?_⟩
        rcases List.mem_cons.1 hx with rfl | hx
        · rw [hp] at hpx; cases hpx
        · exact s3 x hx hpx
      · exact ⟨a :: l, List.Sublist.refl _, by rw [List.length_cons]; omega, fun x hx _ => hx⟩
theorem nat_of_bits {S : List Nat} (hS : ∀ i ∈ S, i < n) (h7 : n ≤ 7) : ∃ k : Nat, k < 2 ^ n ∧ ∀ i, mb (k : Int) i = decide (i ∈ S) := by
  have h0 : ∀ i, (BitVec.ofInt 64 (ofIds S)).toNat.testBit i = mb (ofIds S) i := fun i => rfl
  have h1 : ∀ i, mb (ofIds S) i = decide (i ∈ S) := fun i => by
    by_cases hi : i < 64
    · exact mb_ofIds S i hi
    · rw [mb_ge _ _ (by omega), decide_eq_false (fun h => by have := hS i h; omega)]
  refine ⟨(BitVec.ofInt 64 (ofIds S)).toNat, ?_, fun i => ?_⟩
  · apply Nat.lt_pow_two_of_testBit
    intro i hi
    rw [h0, h1, decide_eq_false (fun h => by have := hS i h; omega)]
  · by_cases hi : i < 64
    · rw [mb_nat _ _ hi, h0, h1]
    · rw [mb_ge _ _ (by omega), decide_eq_false (fun h => by have := hS i h; omega)]
/-- A support out of the members that fit, with those that must be in it. -/
theorem choose_mask {q : Nat} (f p : Nat → Bool) (h7 : n ≤ 7) (h1 : cntI n (fun i => f i && p i) ≤ q) (h2 : q ≤ cntI n f) : ∃ s : Nat, s < 2 ^ n ∧ size (s : Int) = q ∧ (∀ i, mb (s : Int) i = true → i < n ∧ f i = true) ∧ ∀ i, i < n → f i = true → p i = true → mb (s : Int) i = true := by
  obtain ⟨S, s1, s2, s3⟩ := choose_sub p ((List.range n).filter f) q (by
    rw [List.filter_filter]
    unfold cntI at h1
    rw [show (fun a => p a && f a) = fun i => f i && p i from funext fun i => Bool.and_comm _ _]
    exact h1) h2
  have hS : ∀ i ∈ S, i < n ∧ f i = true := fun i hi => by
    have := s1.subset hi
    rw [List.mem_filter, List.mem_range] at this
    exact this
  obtain ⟨k, hk, hb⟩ := nat_of_bits (n := n) (S := S) (fun i hi => (hS i hi).1) h7
  refine ⟨k, hk, ?_, fun i hi => ?_, fun i hi hf hp => ?_⟩
  · unfold size ids
    rw [List.filter_congr (q := fun i => decide (i ∈ S)) (fun i _ => hb i)]
    have hsort : S.Pairwise (· < ·) := List.Pairwise.sublist s1 ((List.pairwise_lt_range).filter _)
    have hnd : S.Nodup := List.Pairwise.sublist s1 ((List.nodup_range).filter _)
    rw [filter_range_mem S 10 hsort hnd (fun i hi => by have := (hS i hi).1; omega), s2]
  · rw [hb, decide_eq_true_eq] at hi
    exact hS i hi
  · rw [hb, decide_eq_true_eq]
    exact s3 i (List.mem_filter.2 ⟨List.mem_range.2 hi, hf⟩) hp
theorem cnt_eq_le (f : Nat → Bool) (j : Nat) : ∀ n, cntI n (fun i => f i && decide (i = j)) ≤ 1 ∧ (n ≤ j → cntI n (fun i => f i && decide (i = j)) = 0)
  | 0 => ⟨Nat.zero_le _, fun _ => rfl⟩
  | n + 1 => by
    obtain ⟨h1, h2⟩ := cnt_eq_le f j n
    have e : cntI (n + 1) (fun i => f i && decide (i = j)) = cntI n (fun i => f i && decide (i = j)) + ([n].filter (fun i => f i && decide (i = j))).length := by
      unfold cntI
      rw [List.range_succ, List.filter_append, List.length_append]
    by_cases hn : n = j
    · have h3 := h2 (by omega)
      have h4 := List.length_filter_le (fun i => f i && decide (i = j)) [n]
      rw [List.length_singleton] at h4
      exact ⟨by omega, fun h => by omega⟩
    · have h4 : ([n].filter (fun i => f i && decide (i = j))).length = 0 := by simp [hn]
      exact ⟨by omega, fun h => by rw [e, h4, h2 (by omega)]⟩
theorem cnt_or_le (n : Nat) (f g : Nat → Bool) : cntI n (fun i => f i || g i) ≤ cntI n f + cntI n g := by
  unfold cntI
  induction List.range n with
  | nil => exact Nat.le_refl _
  | cons a l ih =>
    simp only [List.filter_cons]
    cases f a <;> cases g a <;> (try simp) <;> omega
theorem cnt_two (f : Nat → Bool) (x y n : Nat) : cntI n (fun i => f i && (decide (i = x) || decide (i = y))) ≤ 2 := by
  have e : (fun i => f i && (decide (i = x) || decide (i = y))) = fun i => (f i && decide (i = x)) || (f i && decide (i = y)) := funext fun i => by cases f i <;> rfl
  rw [e]
  have h1 := cnt_or_le n (fun i => f i && decide (i = x)) (fun i => f i && decide (i = y))
  have h2 := (cnt_eq_le f x n).1
  have h3 := (cnt_eq_le f y n).1
  omega
theorem cnt_pos_of {f : Nat → Bool} {i : Nat} (hi : i < n) (h : f i = true) : 0 < cntI n f := List.length_pos_of_mem (List.mem_filter.2 ⟨List.mem_range.2 hi, h⟩)
theorem cnt_true (n : Nat) : cntI n (fun _ => true) = n := by unfold cntI; rw [List.filter_eq_self.2 (fun _ _ => rfl), List.length_range]
/-- A support counts: so many fit. -/
theorem size_cnt {s : Int} {f : Nat → Bool} (h : ∀ i, i < 10 → mb s i = true → i < n ∧ f i = true) : size s ≤ cntI n f := by
  unfold size ids cntI
  refine List.Nodup.length_le_of_subset ((List.nodup_range).filter _) (fun i hi => ?_)
  rw [List.mem_filter, List.mem_range] at *
  exact h i hi.1 hi.2
theorem cnt_size {s : Int} {f : Nat → Bool} (h7 : n ≤ 7) (h : ∀ i, i < n → f i = true → mb s i = true) : cntI n f ≤ size s := by
  unfold size ids cntI
  refine List.Nodup.length_le_of_subset ((List.nodup_range).filter _) (fun i hi => ?_)
  rw [List.mem_filter, List.mem_range] at *
  exact ⟨by omega, h i hi.1 hi.2⟩
end

end Go.Proofs.Ytphnfhonmbbddaa
