/- Select of the program; Bit, IDs, Size of the reference. -/
import Derived.Test.YthhgdkodhokefaaComC
namespace Go.Proofs.Ythhgdkodhokefaa
open Go Go.RowKit
set_option linter.unusedVariables false

theorem own_base {w : World} {base : Nat} {e : TypeId} {size : Nat} {v : Value} {n : Nat} {xs : List Value} (h : w.ownsRow base e size v n xs) : ∀ k, v.ownBlock = some k → base ≤ k := by
  rcases h.2 with ⟨rfl, _⟩ | ⟨g, cap, cur, rfl, hb, _⟩
  · intro k hk; simp [Value.ownBlock] at hk
  · intro k hk; simp [Value.ownBlock] at hk; omega
theorem own_form {w : World} {base : Nat} {e : TypeId} {size : Nat} {v : Value} {n : Nat} {xs : List Value} (h : w.ownsRow base e size v n xs) : ∃ A c, v = .slice A n c := by
  rcases h.2 with ⟨rfl, rfl⟩ | ⟨g, cap, cur, rfl, _⟩
  · exact ⟨_, _, rfl⟩
  · exact ⟨_, _, rfl⟩
/-- Select. -/
def selMask (v g : Int) : Int := bits .andNot .i64 (2 ^ (min (max v 0) 10).toNat - 1) g
def select (v s g : Int) : Int := lowest (selMask v g) s
theorem w64_selMask (v g : Int) : W64 (selMask v g) := w64_andNot _ _
theorem pow_le (n : Nat) (h : n ≤ 10) : (1 : Int) ≤ 2 ^ n ∧ (2 : Int) ^ n ≤ 1024 :=
  (by decide : ∀ k : Fin 11, (1 : Int) ≤ 2 ^ k.val ∧ (2 : Int) ^ k.val ≤ 1024) ⟨n, by omega⟩
theorem idsN_hit (m : Int) (k : Nat) (hb : mb m k = true) : (List.range (k + 1)).filter (mb m) = (List.range k).filter (mb m) ++ [k] := by
  rw [List.range_succ, List.filter_append]; simp [hb]
theorem idsN_miss (m : Int) (k : Nat) (hb : mb m k = false) : (List.range (k + 1)).filter (mb m) = (List.range k).filter (mb m) := by
  rw [List.range_succ, List.filter_append]; simp [hb]
/-- The ids below k. -/
def idsN (m : Int) (k : Nat) : List Nat := (List.range k).filter (mb m)
theorem idsN_len (m : Int) (k : Nat) : (idsN m k).length ≤ k := by
  have := List.length_filter_le (mb m) (List.range k); simpa [idsN] using this
set_option maxRecDepth 100000 in
set_option maxHeartbeats 1000000 in
theorem rids_c (m : Int) (hm : W64 m) (w : World) :
    Calls Try.prog 83 #[.int .i64 m] w fun e W' => ∃ v, e = .returned v ∧ W'.ownsRow w.heap.size 3 1 v (ids m).length ((ids m).map fun i : Nat => Value.int .i64 (i : Int)) ∧ Below w.heap.size w W' := by
  obtain ⟨i0, hi, hz0, hz1, hz2⟩ := info_parts info_int
  have HM := Lib.hid hm
  clear hm
  go_enter Try.func83, Try.ntmps83
  go_wp2
  go_loopw [3, 4] (fun v i wr => ∃ k : Nat, k ≤ 10 ∧ i = .int .i64 k ∧ wr.ownsRow w.heap.size 3 1 v (idsN m k).length ((idsN m k).map fun i : Nat => Value.int .i64 (i : Int)) ∧ Below w.heap.size w wr) (fun _ i _ => 10 - (intOf i).toNat)
  case atStart => exact ⟨0, by omega, rfl, World.ownsRow_nil _ _ _ _, Below.refl _ _⟩
  case round =>
    obtain ⟨k, hk, rfl, hown, hB⟩ := hrel
    have hl := idsN_len m k
    by_cases hlt : k < 10
    · by_cases hbit : mb m k = true
      · have hH := rhas_c m (k : Int) wr HM.out
        rw [hasB_nat m k hlt, hbit] at hH
        have HH := Lib.hid hH
        have HE : Hid (idsN m (k + 1) = idsN m k ++ [k]) := idsN_hit m k hbit
        clear hH hbit
        go_wp2_with (first
          | (go_at_call 93; refine HH.out.mono ?_; rintro e w' ⟨rfl, rfl⟩)
          | (at_builtin; refine wpList_append_own _ rfl _ _ 59 rfl w.heap.size 3 i0 (.int .i64 0) 1 8 Try.underlying59 hi hz0 hz1 hz2 rfl (by decide) _ _ _ rfl (hown.alloc _) ⟨wr.heap.size, 0, none⟩ 1 1 [.int .i64 (k : Int)] rfl rfl (cell_one_new _ _ _) (by simp [Value.oneCell']) (by unfold maxLen; omega) (by omega) (by have := hB.size; simp; omega) ?_; intro v' w1 hown' hgrow _))
        go_roundw
        case rel => exact ⟨k + 1, by omega, by go_num, by rw [HE.out]; simpa using hown', ((hB.alloc hB.size _).grown hgrow (by have := hB.size; simp; omega) (own_base hown))⟩
        case measure => simp [intOf]; omega
      · have hH := rhas_c m (k : Int) wr HM.out
        have hbit' : mb m k = false := by simpa using hbit
        rw [hasB_nat m k hlt, hbit'] at hH
        have HH := Lib.hid hH
        have HE : Hid (idsN m (k + 1) = idsN m k) := idsN_miss m k hbit'
        clear hH hbit hbit'
        go_wp2_with (first
          | (go_at_call 93; refine HH.out.mono ?_; rintro e w' ⟨rfl, rfl⟩))
        go_roundw
        case rel => exact ⟨k + 1, by omega, by go_num, by rw [HE.out]; exact hown, hB⟩
        case measure => simp [intOf]; omega
    · obtain rfl : k = 10 := by omega
      go_wp2
      go_ret
      exact ⟨_, rfl, hown, hB⟩
set_option maxHeartbeats 400000 in
theorem rsize_c (m : Int) (hm : W64 m) (w : World) :
    Calls Try.prog 63 #[.int .i64 m] w fun e w' => e = .returned (.int .i64 (size m)) ∧ Below w.heap.size w w' := by
  have HM := Lib.hid hm
  clear hm
  go_enter Try.func63, Try.ntmps63
  go_wp2_with fail
  refine (rids_c m HM.out _).mono ?_
  rintro e w1 ⟨v, rfl, hown, hB⟩
  obtain ⟨A, c, hv⟩ := own_form hown
  rw [hv]
  clear hv hown
  go_wp2
  go_ret
  exact ⟨rfl, hB⟩
set_option maxHeartbeats 400000 in
theorem rbit_c (i : Nat) (h : i < 10) (w : World) :
    Calls Try.prog 59 #[.int .i64 i] w fun e w' => e = .returned (.int .i64 (2 ^ i)) ∧ w = w' := by
  have e := wrap_pow i h
  rw [← e]
  clear e
  have h10 : decide ((10 : Int) ≤ (i : Int)) = false := by simp; omega
  go_enter Try.func59, Try.ntmps59
  go_wp2
  go_ret
  exact ⟨rfl, rfl⟩
end Go.Proofs.Ythhgdkodhokefaa
