/- vote.Valid. -/
import Derived.Deep.QuietTactic
import Derived.BigQuiet
import Derived.Deep.Draws
import Derived.Test.YthhgdkodhokefaaVote
namespace Go.Proofs.Ythhgdkodhokefaa
open Go Go.RowKit
set_option linter.unusedVariables false
set_option linter.unusedSimpArgs false

theorem ret_boolV {a b : Bool} (h : a = b) : Ending.returned (.bool a) = .returned (.bool b) := by rw [h]
def restB (v : Vt) : Bool :=
  if v.kind == 1 || v.kind == 2 then btw v.slot 0 9 && (v.round == 0 && v.support == 0) && v.choice == 1
  else if v.kind == 3 then btw v.slot 0 9 && btw v.round 1 12 && (btw v.choice 0 1 && (v.round != 1 || v.choice != 0 || v.support == 0))
  else if v.kind == 4 then btw v.slot 0 9 && btw v.round 1 12 && btw v.choice 0 2
  else btw v.slot 0 0 && (v.round == 0 && v.support == 0) && v.choice == 1
/-- Valid. -/
def validB (v : Vt) : Bool :=
  btw v.kind 1 7 && btw v.signer 0 9 && !((v.choice == 1) == (v.val == Nm.zero)) && !(bits .andNot .i64 v.support 1023 != 0) && restB v
theorem quietL {P : Program} {f : FuncId} {args : Array Value} {w : World} {n : Nat} {v : Value}
    (h : Calls P f args (w.drewN n) fun e w' => e = .returned v ∧ w.drewN n = w') : Calls P f args (w.drewN n) fun e w'' => e = .returned v ∧ ∃ m, w'' = w.drewN m :=
  h.mono fun _ _ ⟨he, hm⟩ => ⟨he, n, hm.symm⟩
theorem quietA {P : Program} {f : FuncId} {args : Array Value} {w : World} {a n : Nat} {v : Value}
    (h : Calls P f args (w.drewN (a + n)) fun e w' => e = .returned v ∧ w.drewN (a + n) = w') :
    Calls P f args (w.drewN (a + n)) fun e w'' => e = .returned v ∧ ∃ m, w'' = w.drewN (a + m) :=
  h.mono fun _ _ ⟨he, hm⟩ => ⟨he, n, hm.symm⟩
theorem belowD {B : Nat} {a w : World} (h : Below B a w) (n : Nat) : Below B a (w.drewN n) := ⟨h.os, h.tape, h.output, h.size, h.block⟩
set_option maxRecDepth 100000 in
set_option maxHeartbeats 1000000 in
theorem valid_no1 (v : Vt) (w : World) (h1 : btw v.kind 1 7 = false) :
    Calls Try.prog 44 #[.agg v.cs] w fun e w' => e = .returned (.bool false) ∧ Below w.heap.size w w' := by
  have K := Lib.hid (fun w => h1 ▸ between_c v.kind 1 7 w)
  clear h1
  go_enter Try.func44, Try.ntmps44
  go_wp2_with (go_at_call 72; refine (K.out _).mono ?_; rintro e w' ⟨rfl, rfl⟩)
  go_ret
  exact ⟨rfl, (Below.refl _ _).alloc (Nat.le_refl _) _⟩
set_option maxRecDepth 100000 in
set_option maxHeartbeats 1000000 in
theorem valid_no2 (v : Vt) (w : World) (h1 : btw v.kind 1 7 = true) (h2 : btw v.signer 0 9 = false) :
    Calls Try.prog 44 #[.agg v.cs] w fun e w' => e = .returned (.bool false) ∧ Below w.heap.size w w' := by
  have K := Lib.hid (fun w => h1 ▸ between_c v.kind 1 7 w)
  have S := Lib.hid (fun w => h2 ▸ between_c v.signer 0 9 w)
  clear h1 h2
  go_enter Try.func44, Try.ntmps44
  go_wp2_with fail
  refine (K.out _).mono ?_
  rintro e w' ⟨rfl, rfl⟩
  go_wp2_with fail
  refine (S.out _).mono ?_
  rintro e w' ⟨rfl, rfl⟩
  go_wp2
  go_ret
  exact ⟨rfl, (Below.refl _ _).alloc (Nat.le_refl _) _⟩
set_option maxRecDepth 100000 in
set_option maxHeartbeats 1000000 in
theorem valid_no3 (v : Vt) (w : World) (h1 : btw v.kind 1 7 = true) (h2 : btw v.signer 0 9 = true) (h3 : ((v.choice == 1) == (v.val == Nm.zero)) = true) :
    Calls Try.prog 44 #[.agg v.cs] w fun e w' => e = .returned (.bool false) ∧ Below w.heap.size w w' := by
  have K := Lib.hid (fun w => h1 ▸ between_c v.kind 1 7 w)
  have S := Lib.hid (fun w => h2 ▸ between_c v.signer 0 9 w)
  have hE := fun w d => run_equalIn_nm0 w d v.val
  clear h1 h2
  generalize hz : (v.val == Nm.zero) = z at *
  clear hz
  go_enter Try.func44, Try.ntmps44
  go_wp2_with fail
  refine (K.out _).mono ?_
  rintro e w' ⟨rfl, rfl⟩
  go_wp2_with fail
  refine (S.out _).mono ?_
  rintro e w' ⟨rfl, rfl⟩
  go_wp2
  go_quiet (fail)
  go_wp2
  go_ret
  exact ⟨rfl, belowD ((Below.refl _ _).alloc (Nat.le_refl _) _) _⟩
set_option maxRecDepth 100000 in
set_option maxHeartbeats 1000000 in
theorem valid_no4 (v : Vt) (w : World) (h1 : btw v.kind 1 7 = true) (h2 : btw v.signer 0 9 = true) (h3 : ((v.choice == 1) == (v.val == Nm.zero)) = false) (h4 : (bits .andNot .i64 v.support 1023 != 0) = true) :
    Calls Try.prog 44 #[.agg v.cs] w fun e w' => e = .returned (.bool false) ∧ Below w.heap.size w w' := by
  have hE := fun w d => run_equalIn_nm0 w d v.val
  generalize hz : (v.val == Nm.zero) = z at *
  clear hz
  go_enter Try.func44, Try.ntmps44
  go_wp2_with (go_at_call 72; refine (between_c _ _ _ _).mono ?_; rintro e w' ⟨rfl, rfl⟩)
  go_quiet (fail)
  go_wp2
  go_ret
  exact ⟨rfl, belowD ((Below.refl _ _).alloc (Nat.le_refl _) _) _⟩
theorem kind_cases (k : Int) : (k == 1) = true ∨ ((k == 1) = false ∧ (k == 2) = true) ∨ ((k == 1) = false ∧ (k == 2) = false ∧ (k == 3) = true) ∨ ((k == 1) = false ∧ (k == 2) = false ∧ (k == 3) = false ∧ (k == 4) = true) ∨ ((k == 1) = false ∧ (k == 2) = false ∧ (k == 3) = false ∧ (k == 4) = false) := by
  cases (k == 1) <;> cases (k == 2) <;> cases (k == 3) <;> cases (k == 4) <;> simp
set_option maxRecDepth 100000 in
set_option maxHeartbeats 4000000 in
theorem valid_rt (v : Vt) (w : World) (h1 : btw v.kind 1 7 = true) (h2 : btw v.signer 0 9 = true) (h3 : ((v.choice == 1) == (v.val == Nm.zero)) = false) (h4 : (bits .andNot .i64 v.support 1023 != 0) = false) (hR0 : (v.round == 0) = true) :
    Calls Try.prog 44 #[.agg v.cs] w fun e w' => e = .returned (.bool (restB v)) ∧ Below w.heap.size w w' := by
  have hE := fun w d => run_equalIn_nm0 w d v.val
  generalize hz : (v.val == Nm.zero) = z at *
  clear hz
  have hk := kind_cases v.kind
  have HK := Lib.hid hk
  clear hk
  have hr1 : btw v.round 1 12 = false := by rw [beq_iff_eq] at hR0; rw [hR0]; decide
  have hn1 : (v.round != 1) = true := by rw [beq_iff_eq] at hR0; rw [hR0]; decide
  go_enter Try.func44, Try.ntmps44
  go_wp2_with (go_at_call 72; refine (between_c _ _ _ _).mono ?_; rintro e w' ⟨rfl, rfl⟩)
  go_quiet (fail)
  go_wp2
  go_quiet (fail)
  rcases HK.out with k1 | ⟨k1, k2⟩ | ⟨k1, k2, k3⟩ | ⟨k1, k2, k3, k4⟩ | ⟨k1, k2, k3, k4⟩
  · go_wp2_with fail
    refine (between_c _ _ _ _).mono ?_
    rintro e w' ⟨rfl, rfl⟩
    cases hS0 : (v.support == 0) <;> cases hbs : btw v.slot 0 9
    all_goals
      go_wp2
      go_ret
      exact ⟨ret_boolV (by simp [restB, k1, hR0, hS0, hbs]), belowD ((Below.refl _ _).alloc (Nat.le_refl _) _) _⟩
  · go_wp2_with fail
    refine (between_c _ _ _ _).mono ?_
    rintro e w' ⟨rfl, rfl⟩
    cases hS0 : (v.support == 0) <;> cases hbs : btw v.slot 0 9
    all_goals
      go_wp2
      go_ret
      exact ⟨ret_boolV (by simp [restB, k1, k2, hR0, hS0, hbs]), belowD ((Below.refl _ _).alloc (Nat.le_refl _) _) _⟩
  · go_wp2
    go_quiet ((go_at_call 72; first | exact quietL (between_c _ _ _ _) | exact quietA (between_c _ _ _ _)))
    cases hbc : btw v.choice 0 1
    · go_wp2_with fail
      refine (between_c _ _ _ _).mono ?_
      rintro e w' ⟨rfl, rfl⟩
      cases hbs : btw v.slot 0 9
      all_goals
        go_wp2
        go_ret
        exact ⟨ret_boolV (by simp [restB, k1, k2, k3, hbc, hn1, hR0, hbs, hr1]), belowD ((Below.refl _ _).alloc (Nat.le_refl _) _) _⟩
    · go_wp2_with fail
      refine (between_c _ _ _ _).mono ?_
      rintro e w' ⟨rfl, rfl⟩
      cases hbs : btw v.slot 0 9
      all_goals
        go_wp2
        go_ret
        exact ⟨ret_boolV (by simp [restB, k1, k2, k3, hbc, hn1, hR0, hbs, hr1]), belowD ((Below.refl _ _).alloc (Nat.le_refl _) _) _⟩
  · go_wp2
    go_quiet ((go_at_call 72; first | exact quietL (between_c _ _ _ _) | exact quietA (between_c _ _ _ _)))
    go_wp2_with fail
    refine (between_c _ _ _ _).mono ?_
    rintro e w' ⟨rfl, rfl⟩
    cases hbs : btw v.slot 0 9
    all_goals
      go_wp2
      go_ret
      exact ⟨ret_boolV (by simp [restB, k1, k2, k3, k4, hR0, hbs, hr1]), belowD ((Below.refl _ _).alloc (Nat.le_refl _) _) _⟩
  · go_wp2_with fail
    refine (between_c _ _ _ _).mono ?_
    rintro e w' ⟨rfl, rfl⟩
    cases hS0 : (v.support == 0) <;> cases hbs : btw v.slot 0 0
    all_goals
      go_wp2
      go_ret
      exact ⟨ret_boolV (by simp [restB, k1, k2, k3, k4, hR0, hS0, hbs]), belowD ((Below.refl _ _).alloc (Nat.le_refl _) _) _⟩
set_option maxRecDepth 100000 in
set_option maxHeartbeats 4000000 in
theorem valid_rf (v : Vt) (w : World) (h1 : btw v.kind 1 7 = true) (h2 : btw v.signer 0 9 = true) (h3 : ((v.choice == 1) == (v.val == Nm.zero)) = false) (h4 : (bits .andNot .i64 v.support 1023 != 0) = false) (hR0 : (v.round == 0) = false) :
    Calls Try.prog 44 #[.agg v.cs] w fun e w' => e = .returned (.bool (restB v)) ∧ Below w.heap.size w w' := by
  have hE := fun w d => run_equalIn_nm0 w d v.val
  generalize hz : (v.val == Nm.zero) = z at *
  clear hz
  have hk := kind_cases v.kind
  have HK := Lib.hid hk
  clear hk
  go_enter Try.func44, Try.ntmps44
  go_wp2_with (go_at_call 72; refine (between_c _ _ _ _).mono ?_; rintro e w' ⟨rfl, rfl⟩)
  go_quiet (fail)
  go_wp2
  go_quiet (fail)
  rcases HK.out with k1 | ⟨k1, k2⟩ | ⟨k1, k2, k3⟩ | ⟨k1, k2, k3, k4⟩ | ⟨k1, k2, k3, k4⟩
  · go_wp2_with fail
    refine (between_c _ _ _ _).mono ?_
    rintro e w' ⟨rfl, rfl⟩
    cases hS0 : (v.support == 0) <;> cases hbs : btw v.slot 0 9
    all_goals
      go_wp2
      go_ret
      exact ⟨ret_boolV (by simp [restB, k1, hR0, hS0, hbs]), belowD ((Below.refl _ _).alloc (Nat.le_refl _) _) _⟩
  · go_wp2_with fail
    refine (between_c _ _ _ _).mono ?_
    rintro e w' ⟨rfl, rfl⟩
    cases hS0 : (v.support == 0) <;> cases hbs : btw v.slot 0 9
    all_goals
      go_wp2
      go_ret
      exact ⟨ret_boolV (by simp [restB, k1, k2, hR0, hS0, hbs]), belowD ((Below.refl _ _).alloc (Nat.le_refl _) _) _⟩
  · go_wp2
    go_quiet ((go_at_call 72; first | exact quietL (between_c _ _ _ _) | exact quietA (between_c _ _ _ _)))
    cases hbc : btw v.choice 0 1
    · go_wp2_with fail
      refine (between_c _ _ _ _).mono ?_
      rintro e w' ⟨rfl, rfl⟩
      cases hbs : btw v.slot 0 9 <;> cases hr1 : btw v.round 1 12
      all_goals
        go_wp2
        go_ret
        exact ⟨ret_boolV (by simp [restB, k1, k2, k3, hbc, hR0, hbs, hr1]), belowD ((Below.refl _ _).alloc (Nat.le_refl _) _) _⟩
    · cases hn1 : (v.round != 1)
      · cases hn0 : (v.choice != 0)
        · cases hS0 : (v.support == 0)
          · go_wp2_with fail
            refine (between_c _ _ _ _).mono ?_
            rintro e w' ⟨rfl, rfl⟩
            cases hbs : btw v.slot 0 9 <;> cases hr1 : btw v.round 1 12
            all_goals
              go_wp2
              go_ret
              exact ⟨ret_boolV (by simp [restB, k1, k2, k3, hbc, hn1, hn0, hS0, hR0, hbs, hr1]), belowD ((Below.refl _ _).alloc (Nat.le_refl _) _) _⟩
          · go_wp2_with fail
            refine (between_c _ _ _ _).mono ?_
            rintro e w' ⟨rfl, rfl⟩
            cases hbs : btw v.slot 0 9 <;> cases hr1 : btw v.round 1 12
            all_goals
              go_wp2
              go_ret
              exact ⟨ret_boolV (by simp [restB, k1, k2, k3, hbc, hn1, hn0, hS0, hR0, hbs, hr1]), belowD ((Below.refl _ _).alloc (Nat.le_refl _) _) _⟩
        · go_wp2_with fail
          refine (between_c _ _ _ _).mono ?_
          rintro e w' ⟨rfl, rfl⟩
          cases hbs : btw v.slot 0 9 <;> cases hr1 : btw v.round 1 12
          all_goals
            go_wp2
            go_ret
            exact ⟨ret_boolV (by simp [restB, k1, k2, k3, hbc, hn1, hn0, hR0, hbs, hr1]), belowD ((Below.refl _ _).alloc (Nat.le_refl _) _) _⟩
      · go_wp2_with fail
        refine (between_c _ _ _ _).mono ?_
        rintro e w' ⟨rfl, rfl⟩
        cases hbs : btw v.slot 0 9 <;> cases hr1 : btw v.round 1 12
        all_goals
          go_wp2
          go_ret
          exact ⟨ret_boolV (by simp [restB, k1, k2, k3, hbc, hn1, hR0, hbs, hr1]), belowD ((Below.refl _ _).alloc (Nat.le_refl _) _) _⟩
  · go_wp2
    go_quiet ((go_at_call 72; first | exact quietL (between_c _ _ _ _) | exact quietA (between_c _ _ _ _)))
    go_wp2_with fail
    refine (between_c _ _ _ _).mono ?_
    rintro e w' ⟨rfl, rfl⟩
    cases hbs : btw v.slot 0 9 <;> cases hr1 : btw v.round 1 12
    all_goals
      go_wp2
      go_ret
      exact ⟨ret_boolV (by simp [restB, k1, k2, k3, k4, hR0, hbs, hr1]), belowD ((Below.refl _ _).alloc (Nat.le_refl _) _) _⟩
  · go_wp2_with fail
    refine (between_c _ _ _ _).mono ?_
    rintro e w' ⟨rfl, rfl⟩
    cases hS0 : (v.support == 0) <;> cases hbs : btw v.slot 0 0
    all_goals
      go_wp2
      go_ret
      exact ⟨ret_boolV (by simp [restB, k1, k2, k3, k4, hR0, hS0, hbs]), belowD ((Below.refl _ _).alloc (Nat.le_refl _) _) _⟩
theorem valid_c (v : Vt) (w : World) :
    Calls Try.prog 44 #[.agg v.cs] w fun e w' => e = .returned (.bool (validB v)) ∧ Below w.heap.size w w' := by
  unfold validB
  cases h1 : btw v.kind 1 7 with
  | false => exact valid_no1 v w h1
  | true =>
    cases h2 : btw v.signer 0 9 with
    | false => exact valid_no2 v w h1 h2
    | true =>
      cases h3 : ((v.choice == 1) == (v.val == Nm.zero)) with
      | true => exact valid_no3 v w h1 h2 h3
      | false =>
        cases h4 : (bits .andNot .i64 v.support 1023 != 0) with
        | true => exact valid_no4 v w h1 h2 h3 h4
        | false =>
          cases h5 : (v.round == 0) with
          | true => exact valid_rt v w h1 h2 h3 h4 h5
          | false => exact valid_rf v w h1 h2 h3 h4 h5
end Go.Proofs.Ythhgdkodhokefaa
