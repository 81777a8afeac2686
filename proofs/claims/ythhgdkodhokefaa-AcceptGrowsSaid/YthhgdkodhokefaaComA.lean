/- The contracts of the arithmetic of committees: Quorum, Third, Has, Size, Bit, of the program and of the reference. -/
import Derived.WalkKit
import Derived.WalkLawsBesides
import Derived.WalkSpells
import Derived.Outline
import Derived.Lib.Hide
import Derived.Test.YthhgdkodhokefaaProg
import Derived.Test.YthhgdkodhokefaaMask
namespace Go.Proofs.Ythhgdkodhokefaa
open Go Go.RowKit
set_option linter.unusedVariables false

theorem ret_int {k : IntKind} {a b : Int} (h : a = b) : Ending.returned (.int k a) = .returned (.int k b) := by rw [h]
theorem ret_bool {a b : Bool} (h : a = b) : Ending.returned (.bool a) = .returned (.bool b) := by rw [h]
set_option maxHeartbeats 400000 in
theorem quorum_c (n : Int) (w : World) (h : W64 n) :
    Calls Try.prog 16 #[.int .i64 n] w fun e w' => e = .returned (.int .i64 (quorum n)) ∧ w = w' := by
  obtain ⟨h1, h2⟩ := h
  by_cases hn : n < 1
  · have e : quorum n = 0 := by simp [quorum, hn]
    rw [e]
    clear e
    go_enter Try.func16, Try.ntmps16
    go_wp2
    go_ret
    exact ⟨rfl, rfl⟩
  · have e : quorum n = n - (n - 1) / 3 := by simp [quorum, hn]
    rw [e]
    clear e
    have hn' : 1 ≤ n := by omega
    go_enter Try.func16, Try.ntmps16
    go_wp2
    go_ret
    exact ⟨rfl, rfl⟩
set_option maxHeartbeats 400000 in
theorem rquorum_c (n : Int) (w : World) (h : W64 n) :
    Calls Try.prog 54 #[.int .i64 n] w fun e w' => e = .returned (.int .i64 (quorum n)) ∧ w = w' := by
  obtain ⟨h1, h2⟩ := h
  by_cases hn : n < 1
  · have e : quorum n = 0 := by simp [quorum, hn]
    rw [e]
    clear e
    go_enter Try.func54, Try.ntmps54
    go_wp2
    go_ret
    exact ⟨rfl, rfl⟩
  · have e : quorum n = n - (n - 1) / 3 := by simp [quorum, hn]
    rw [e]
    clear e
    have hn' : 1 ≤ n := by omega
    go_enter Try.func54, Try.ntmps54
    go_wp2
    go_ret
    exact ⟨rfl, rfl⟩
set_option maxHeartbeats 400000 in
theorem third_c (n : Int) (w : World) (h : W64 n) :
    Calls Try.prog 22 #[.int .i64 n] w fun e w' => e = .returned (.int .i64 (third n)) ∧ w = w' := by
  obtain ⟨h1, h2⟩ := h
  by_cases hn : n < 1
  · have e : third n = 0 := by simp [third, hn]
    rw [e]
    clear e
    go_enter Try.func22, Try.ntmps22
    go_wp2
    go_ret
    exact ⟨rfl, rfl⟩
  · have e : third n = (n - 1) / 3 + 1 := by simp [third, hn]
    rw [e]
    clear e
    have hn' : 1 ≤ n := by omega
    go_enter Try.func22, Try.ntmps22
    go_wp2
    go_ret
    exact ⟨rfl, rfl⟩
set_option maxHeartbeats 400000 in
theorem has_c (m i : Int) (w : World) (h : W64 m) :
    Calls Try.prog 21 #[.int .i64 m, .int .i64 i] w fun e w' => e = .returned (.bool (hasB m i)) ∧ w = w' := by
  by_cases h0 : 0 ≤ i
  · by_cases h1 : i < 10
    · obtain ⟨k, rfl⟩ := Int.eq_ofNat_of_zero_le h0
      have hk : k < 10 := by omega
      rw [hasB_nat m k hk, ← shr_one_eq h k (by omega)]
      go_enter Try.func21, Try.ntmps21
      go_wp2
      go_ret
      exact ⟨rfl, rfl⟩
    · have e : hasB m i = false := by simp [hasB, h1]
      rw [e]
      clear e
      have h1' : decide (i < 10) = false := by simpa using h1
      go_enter Try.func21, Try.ntmps21
      go_wp2
      go_ret
      exact ⟨rfl, rfl⟩
  · have e : hasB m i = false := by simp [hasB, h0]
    rw [e]
    clear e
    have h0' : decide (0 ≤ i) = false := by simpa using h0
    go_enter Try.func21, Try.ntmps21
    go_wp2
    go_ret
    exact ⟨rfl, rfl⟩
set_option maxHeartbeats 400000 in
theorem rhas_c (m i : Int) (w : World) (h : W64 m) :
    Calls Try.prog 93 #[.int .i64 m, .int .i64 i] w fun e w' => e = .returned (.bool (hasB m i)) ∧ w = w' := by
  by_cases h0 : 0 ≤ i
  · by_cases h1 : i < 10
    · obtain ⟨k, rfl⟩ := Int.eq_ofNat_of_zero_le h0
      have hk : k < 10 := by omega
      rw [hasB_nat m k hk, ← shr_one_eq h k (by omega)]
      go_enter Try.func93, Try.ntmps93
      go_wp2
      go_ret
      exact ⟨rfl, rfl⟩
    · have e : hasB m i = false := by simp [hasB, h1]
      rw [e]
      clear e
      have h1' : decide (i < 10) = false := by simpa using h1
      go_enter Try.func93, Try.ntmps93
      go_wp2
      go_ret
      exact ⟨rfl, rfl⟩
  · have e : hasB m i = false := by simp [hasB, h0]
    rw [e]
    clear e
    have h0' : decide (0 ≤ i) = false := by simpa using h0
    go_enter Try.func93, Try.ntmps93
    go_wp2
    go_ret
    exact ⟨rfl, rfl⟩
set_option maxHeartbeats 1000000 in
theorem ones64_o (x : Nat) (w : World) (h : x < 1024) :
    Calls Try.prog 71 #[.int .u64 x] w fun e w' => e = .returned (.int .i64 (ones x)) ∧ w = w' := by
  go_enter Try.func71, Try.ntmps71
  go_wp2
  go_ret
  refine ⟨ret_int ?_, rfl⟩
  simp only [ones, o1, o2, o3, o4, o5, o6, o7]
theorem ones64_c (x : Nat) (w : World) (h : x < 1024) :
    Calls Try.prog 71 #[.int .u64 x] w fun e w' => e = .returned (.int .i64 (size x)) ∧ w = w' := by
  rw [← ones_size x h]
  exact ones64_o x w h
set_option maxHeartbeats 400000 in
theorem ones_c (x : Nat) (w : World) (h : x < 1024) :
    Calls Try.prog 43 #[.int .u64 x] w fun e w' => e = .returned (.int .i64 (size x)) ∧ w = w' := by
  go_enter Try.func43, Try.ntmps43
  go_wp2_with (go_at_call 71; refine (ones64_c x _ h).mono ?_; rintro e w' ⟨rfl, rfl⟩)
  go_ret
  exact ⟨rfl, rfl⟩
set_option maxHeartbeats 400000 in
theorem size_c (m : Int) (w : World) :
    Calls Try.prog 15 #[.int .i64 m] w fun e w' => e = .returned (.int .i64 (size m)) ∧ w = w' := by
  obtain ⟨x, hx, he, hs⟩ := and_1023 m
  rw [← hs]
  clear hs
  go_enter Try.func15, Try.ntmps15
  go_wp2_with (go_at_call 43; refine (ones_c x _ hx).mono ?_; rintro e w' ⟨rfl, rfl⟩)
  go_ret
  exact ⟨rfl, rfl⟩
end Go.Proofs.Ythhgdkodhokefaa
