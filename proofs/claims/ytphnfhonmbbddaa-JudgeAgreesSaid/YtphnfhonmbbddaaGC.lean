/- Names and votes as plain data, their cells, and the equality of names. -/
import Derived.WalkKit
import Derived.WalkLawsBesides
import Derived.WalkSpells
import Derived.Outline
import Derived.Lib.Hide
import Derived.Laws.StructEq
import Derived.Stop.BytesEq
import Derived.Test.YtphnfhonmbbddaaProg
import Derived.Test.YtphnfhonmbbddaaGB
import Derived.Deep.QuietTactic
import Derived.BigQuiet
import Derived.Deep.Draws
import Derived.Deep.MidRow
import Derived.Deep.WholeRow
import Derived.RangeFuncBox
import Derived.RangeFuncCalls
import Derived.Great.BuildSlice
namespace Go.Proofs.Ytphnfhonmbbddaa
open Go Go.RowKit
set_option linter.unusedVariables false

/-- A name: eight bytes. -/
structure Nm where
  b0 : UInt8
  b1 : UInt8
  b2 : UInt8
  b3 : UInt8
  b4 : UInt8
  b5 : UInt8
  b6 : UInt8
  b7 : UInt8
deriving DecidableEq
def Nm.toList (a : Nm) : List UInt8 := [a.b0, a.b1, a.b2, a.b3, a.b4, a.b5, a.b6, a.b7]
def Nm.zero : Nm := ⟨0, 0, 0, 0, 0, 0, 0, 0⟩
/-- Its cells. -/
abbrev Nm.cs (a : Nm) : Array Value := #[.int .u8 (a.b0.toNat : Int), .int .u8 (a.b1.toNat : Int), .int .u8 (a.b2.toNat : Int), .int .u8 (a.b3.toNat : Int), .int .u8 (a.b4.toNat : Int), .int .u8 (a.b5.toNat : Int), .int .u8 (a.b6.toNat : Int), .int .u8 (a.b7.toNat : Int)]
/-- A vote. -/
structure Vt where
  kind : Int
  slot : Int
  round : Int
  choice : Int
  signer : Int
  support : Int
  par : Nm
  val : Nm
deriving DecidableEq
def Vt.cs (v : Vt) : Array Value := #[.int .i64 v.kind, .int .i64 v.slot, .int .i64 v.round, .int .i64 v.choice, .int .i64 v.signer, .int .i64 v.support,
  .int .u8 (v.par.b0.toNat : Int), .int .u8 (v.par.b1.toNat : Int), .int .u8 (v.par.b2.toNat : Int), .int .u8 (v.par.b3.toNat : Int), .int .u8 (v.par.b4.toNat : Int), .int .u8 (v.par.b5.toNat : Int), .int .u8 (v.par.b6.toNat : Int), .int .u8 (v.par.b7.toNat : Int),
  .int .u8 (v.val.b0.toNat : Int), .int .u8 (v.val.b1.toNat : Int), .int .u8 (v.val.b2.toNat : Int), .int .u8 (v.val.b3.toNat : Int), .int .u8 (v.val.b4.toNat : Int), .int .u8 (v.val.b5.toNat : Int), .int .u8 (v.val.b6.toNat : Int), .int .u8 (v.val.b7.toNat : Int)]
@[go_sem] theorem Vt.cs_0 (v : Vt) : v.cs[0]? = some (.int .i64 v.kind) := rfl
@[go_sem] theorem Vt.cs_1 (v : Vt) : v.cs[1]? = some (.int .i64 v.slot) := rfl
@[go_sem] theorem Vt.cs_2 (v : Vt) : v.cs[2]? = some (.int .i64 v.round) := rfl
@[go_sem] theorem Vt.cs_3 (v : Vt) : v.cs[3]? = some (.int .i64 v.choice) := rfl
@[go_sem] theorem Vt.cs_4 (v : Vt) : v.cs[4]? = some (.int .i64 v.signer) := rfl
@[go_sem] theorem Vt.cs_5 (v : Vt) : v.cs[5]? = some (.int .i64 v.support) := rfl
@[go_sem] theorem Vt.cs_6 (v : Vt) : v.cs[6]? = some (.int .u8 (v.par.b0.toNat : Int)) := rfl
@[go_sem] theorem Vt.cs_7 (v : Vt) : v.cs[7]? = some (.int .u8 (v.par.b1.toNat : Int)) := rfl
@[go_sem] theorem Vt.cs_8 (v : Vt) : v.cs[8]? = some (.int .u8 (v.par.b2.toNat : Int)) := rfl
@[go_sem] theorem Vt.cs_9 (v : Vt) : v.cs[9]? = some (.int .u8 (v.par.b3.toNat : Int)) := rfl
@[go_sem] theorem Vt.cs_10 (v : Vt) : v.cs[10]? = some (.int .u8 (v.par.b4.toNat : Int)) := rfl
@[go_sem] theorem Vt.cs_11 (v : Vt) : v.cs[11]? = some (.int .u8 (v.par.b5.toNat : Int)) := rfl
@[go_sem] theorem Vt.cs_12 (v : Vt) : v.cs[12]? = some (.int .u8 (v.par.b6.toNat : Int)) := rfl
@[go_sem] theorem Vt.cs_13 (v : Vt) : v.cs[13]? = some (.int .u8 (v.par.b7.toNat : Int)) := rfl
@[go_sem] theorem Vt.cs_14 (v : Vt) : v.cs[14]? = some (.int .u8 (v.val.b0.toNat : Int)) := rfl
@[go_sem] theorem Vt.cs_15 (v : Vt) : v.cs[15]? = some (.int .u8 (v.val.b1.toNat : Int)) := rfl
@[go_sem] theorem Vt.cs_16 (v : Vt) : v.cs[16]? = some (.int .u8 (v.val.b2.toNat : Int)) := rfl
@[go_sem] theorem Vt.cs_17 (v : Vt) : v.cs[17]? = some (.int .u8 (v.val.b3.toNat : Int)) := rfl
@[go_sem] theorem Vt.cs_18 (v : Vt) : v.cs[18]? = some (.int .u8 (v.val.b4.toNat : Int)) := rfl
@[go_sem] theorem Vt.cs_19 (v : Vt) : v.cs[19]? = some (.int .u8 (v.val.b5.toNat : Int)) := rfl
@[go_sem] theorem Vt.cs_20 (v : Vt) : v.cs[20]? = some (.int .u8 (v.val.b6.toNat : Int)) := rfl
@[go_sem] theorem Vt.cs_21 (v : Vt) : v.cs[21]? = some (.int .u8 (v.val.b7.toNat : Int)) := rfl
@[go_sem] theorem Vt.cs_size (v : Vt) : v.cs.size = 22 := rfl
/-- Its ints are int64. -/
structure Vt.Ok (v : Vt) : Prop where
  kind : W64 v.kind
  slot : W64 v.slot
  round : W64 v.round
  choice : W64 v.choice
  signer : W64 v.signer
  support : W64 v.support
theorem nm_beq (a b : Nm) : (a.toList == b.toList) = (a == b) := by
  rw [Bool.eq_iff_iff]
  simp [Nm.toList]
  constructor
  · rintro ⟨h0, h1, h2, h3, h4, h5, h6, h7⟩
    cases a; cases b; simp_all
  · rintro rfl; simp
theorem u8_under : Try.prog.underlying 5 = some (.int .u8) := by kernel_rfl
theorem nm_under : Try.prog.underlying 54 = some (.array 8 5) := by kernel_rfl
theorem u8_size (w : World) : (sizeOf 5).run Try.prog w = .ok 1 w := by kernel_rfl
/-- a == b of names. -/
theorem run_equalIn_nm (w : World) (d : Nat) (a b : Nm) : (Op.equalIn (d + 2) 54 (.agg a.cs) (.agg b.cs)).run Try.prog w = .ok (a == b) w := by
  rw [← nm_beq]
  exact run_equalIn_bytes w d 54 5 8 nm_under u8_under u8_size a.toList b.toList rfl rfl
theorem run_equalIn_nm0 (w : World) (d : Nat) (a : Nm) : (Op.equalIn (d + 2) 54 (.agg a.cs) (.agg #[.int .u8 0, .int .u8 0, .int .u8 0, .int .u8 0, .int .u8 0, .int .u8 0, .int .u8 0, .int .u8 0])).run Try.prog w = .ok (a == Nm.zero) w :=
  run_equalIn_nm w d a Nm.zero
/-- between. -/
def btw (n lo hi : Int) : Bool := decide (lo ≤ n) && decide (n ≤ hi)
set_option maxHeartbeats 400000 in
theorem between_c (n lo hi : Int) (w : World) :
    Calls Try.prog 89 #[.int .i64 n, .int .i64 lo, .int .i64 hi] w fun e w' => e = .returned (.bool (btw n lo hi)) ∧ w = w' := by
  unfold btw
  by_cases h : lo ≤ n
  · have h' : decide (lo ≤ n) = true := by simpa using h
    rw [h']
    go_enter Try.func89, Try.ntmps89
    go_wp2
    go_ret
    exact ⟨rfl, rfl⟩
  · have h' : decide (lo ≤ n) = false := by simpa using h
    rw [h']
    go_enter Try.func89, Try.ntmps89
    go_wp2
    go_ret
    exact ⟨rfl, rfl⟩
/-- Two votes have the same value. -/
def sameB (a b : Vt) : Bool := (a.choice == b.choice) && (a.val == b.val)
set_option maxRecDepth 100000 in
set_option maxHeartbeats 1000000 in
theorem same_c (a b : Vt) (w : World) :
    Calls Try.prog 79 #[.agg a.cs, .agg b.cs] w fun e w' => e = .returned (.bool (sameB a b)) ∧ Below w.heap.size w w' := by
  unfold sameB
  have hE := fun w d => run_equalIn_nm w d a.val b.val
  cases h : (a.choice == b.choice) with
  | true =>
    go_enter Try.func79, Try.ntmps79
    go_wp2
    go_ret
    refine ⟨rfl, ?_⟩
    exact ((Below.refl _ _).alloc (Nat.le_refl _) _).alloc (by simp) _
  | false =>
    go_enter Try.func79, Try.ntmps79
    go_wp2
    go_ret
    refine ⟨rfl, ?_⟩
    exact ((Below.refl _ _).alloc (Nat.le_refl _) _).alloc (by simp) _
end Go.Proofs.Ytphnfhonmbbddaa

/- vote.Valid. -/
namespace Go.Proofs.Ytphnfhonmbbddaa
open Go Go.RowKit
set_option linter.unusedVariables false
set_option linter.unusedSimpArgs false

theorem ret_boolV {a b : Bool} (h : a = b) : Ending.returned (.bool a) = .returned (.bool b) := by rw [h]
def restB (v : Vt) : Bool :=
  if v.kind == 1 || v.kind == 2 then btw v.slot 0 9 && (v.round == 0 && v.support == 0) && v.choice == 1
  else if v.kind == 3 then btw v.slot 0 9 && btw v.round 1 12 && (btw v.choice 0 1 && (v.round != 1 || v.choice != 0 || v.support == 0))
  else if v.kind == 4 then btw v.slot 0 9 && btw v.round 1 12 && btw v.choice 0 2
  else btw v.slot 0 0 && (v.round == 0 && v.support == 0) && v.choice == 1
/-- Valid. -/
def validB (v : Vt) : Bool :=
  btw v.kind 1 7 && btw v.signer 0 9 && !((v.choice == 1) == (v.val == Nm.zero)) && !(bits .andNot .i64 v.support 1023 != 0) && restB v
theorem quietL {P : Program} {f : FuncId} {args : Array Value} {w : World} {n : Nat} {v : Value}
    (h : Calls P f args (w.drewN n) fun e w' => e = .returned v ∧ w.drewN n = w') : Calls P f args (w.drewN n) fun e w'' => e = .returned v ∧ ∃ m, w'' = w.drewN m :=
  h.mono fun _ _ ⟨he, hm⟩ => ⟨he, n, hm.symm⟩
theorem quietA {P : Program} {f : FuncId} {args : Array Value} {w : World} {a n : Nat} {v : Value}
    (h : Calls P f args (w.drewN (a + n)) fun e w' => e = .returned v ∧ w.drewN (a + n) = w') :
    Calls P f args (w.drewN (a + n)) fun e w'' => e = .returned v ∧ ∃ m, w'' = w.drewN (a + m) :=
  h.mono fun _ _ ⟨he, hm⟩ => ⟨he, n, hm.symm⟩
theorem belowD {B : Nat} {a w : World} (h : Below B a w) (n : Nat) : Below B a (w.drewN n) := ⟨h.os, h.tape, h.output, h.size, h.block⟩
set_option maxRecDepth 100000 in
set_option maxHeartbeats 1000000 in
theorem valid_no1 (v : Vt) (w : World) (h1 : btw v.kind 1 7 = false) :
    Calls Try.prog 65 #[.agg v.cs] w fun e w' => e = .returned (.bool false) ∧ Below w.heap.size w w' := by
  have K := Lib.hid (fun w => h1 ▸ between_c v.kind 1 7 w)
  clear h1
  go_enter Try.func65, Try.ntmps65
  go_wp2_with (go_at_call 89; refine (K.out _).mono ?_; rintro e w' ⟨rfl, rfl⟩)
  go_ret
  exact ⟨rfl, (Below.refl _ _).alloc (Nat.le_refl _) _⟩
set_option maxRecDepth 100000 in
set_option maxHeartbeats 1000000 in
theorem valid_no2 (v : Vt) (w : World) (h1 : btw v.kind 1 7 = true) (h2 : btw v.signer 0 9 = false) :
    Calls Try.prog 65 #[.agg v.cs] w fun e w' => e = .returned (.bool false) ∧ Below w.heap.size w w' := by
  have K := Lib.hid (fun w => h1 ▸ between_c v.kind 1 7 w)
  have S := Lib.hid (fun w => h2 ▸ between_c v.signer 0 9 w)
  clear h1 h2
  go_enter Try.func65, Try.ntmps65
  go_wp2_with fail
  refine (K.out _).mono ?_
  rintro e w' ⟨rfl, rfl⟩
  go_wp2_with fail
  refine (S.out _).mono ?_
  rintro e w' ⟨rfl, rfl⟩
  go_wp2
  go_ret
  exact ⟨rfl, (Below.refl _ _).alloc (Nat.le_refl _) _⟩
set_option maxRecDepth 100000 in
set_option maxHeartbeats 1000000 in
theorem valid_no3 (v : Vt) (w : World) (h1 : btw v.kind 1 7 = true) (h2 : btw v.signer 0 9 = true) (h3 : ((v.choice == 1) == (v.val == Nm.zero)) = true) :
    Calls Try.prog 65 #[.agg v.cs] w fun e w' => e = .returned (.bool false) ∧ Below w.heap.size w w' := by
  have K := Lib.hid (fun w => h1 ▸ between_c v.kind 1 7 w)
  have S := Lib.hid (fun w => h2 ▸ between_c v.signer 0 9 w)
  have hE := fun w d => run_equalIn_nm0 w d v.val
  clear h1 h2
  generalize hz : (v.val == Nm.zero) = z at *
  clear hz
  go_enter Try.func65, Try.ntmps65
  go_wp2_with fail
  refine (K.out _).mono ?_
  rintro e w' ⟨rfl, rfl⟩
  go_wp2_with fail
  refine (S.out _).mono ?_
  rintro e w' ⟨rfl, rfl⟩
  go_wp2
  go_quiet (fail)
  go_wp2
  go_ret
  exact ⟨rfl, belowD ((Below.refl _ _).alloc (Nat.le_refl _) _) _⟩
set_option maxRecDepth 100000 in
set_option maxHeartbeats 1000000 in
theorem valid_no4 (v : Vt) (w : World) (h1 : btw v.kind 1 7 = true) (h2 : btw v.signer 0 9 = true) (h3 : ((v.choice == 1) == (v.val == Nm.zero)) = false) (h4 : (bits .andNot .i64 v.support 1023 != 0) = true) :
    Calls Try.prog 65 #[.agg v.cs] w fun e w' => e = .returned (.bool false) ∧ Below w.heap.size w w' := by
  have hE := fun w d => run_equalIn_nm0 w d v.val
  generalize hz : (v.val == Nm.zero) = z at *
  clear hz
  go_enter Try.func65, Try.ntmps65
  go_wp2_with (go_at_call 89; refine (between_c _ _ _ _).mono ?_; rintro e w' ⟨rfl, rfl⟩)
  go_quiet (fail)
  go_wp2
  go_ret
  exact ⟨rfl, belowD ((Below.refl _ _).alloc (Nat.le_refl _) _) _⟩
theorem kind_cases (k : Int) : (k == 1) = true ∨ ((k == 1) = false ∧ (k == 2) = true) ∨ ((k == 1) = false ∧ (k == 2) = false ∧ (k == 3) = true) ∨ ((k == 1) = false ∧ (k == 2) = false ∧ (k == 3) = false ∧ (k == 4) = true) ∨ ((k == 1) = false ∧ (k == 2) = false ∧ (k == 3) = false ∧ (k == 4) = false) := by
  cases (k == 1) <;> cases (k == 2) <;> cases (k == 3) <;> cases (k == 4) <;> simp
set_option maxRecDepth 100000 in
set_option maxHeartbeats 4000000 in
theorem valid_rt (v : Vt) (w : World) (h1 : btw v.kind 1 7 = true) (h2 : btw v.signer 0 9 = true) (h3 : ((v.choice == 1) == (v.val == Nm.zero)) = false) (h4 : (bits .andNot .i64 v.support 1023 != 0) = false) (hR0 : (v.round == 0) = true) :
    Calls Try.prog 65 #[.agg v.cs] w fun e w' => e = .returned (.bool (restB v)) ∧ Below w.heap.size w w' := by
  have hE := fun w d => run_equalIn_nm0 w d v.val
  generalize hz : (v.val == Nm.zero) = z at *
  clear hz
  have hk := kind_cases v.kind
  have HK := Lib.hid hk
  clear hk
  have hr1 : btw v.round 1 12 = false := by rw [beq_iff_eq] at hR0; rw [hR0]; decide
  have hn1 : (v.round != 1) = true := by rw [beq_iff_eq] at hR0; rw [hR0]; decide
  go_enter Try.func65, Try.ntmps65
  go_wp2_with (go_at_call 89; refine (between_c _ _ _ _).mono ?_; rintro e w' ⟨rfl, rfl⟩)
  go_quiet (fail)
  go_wp2
  go_quiet (fail)
  rcases HK.out with k1 | ⟨k1, k2⟩ | ⟨k1, k2, k3⟩ | ⟨k1, k2, k3, k4⟩ | ⟨k1, k2, k3, k4⟩
  · go_wp2_with fail
    refine (between_c _ _ _ _).mono ?_
    rintro e w' ⟨rfl, rfl⟩
    cases hS0 : (v.support == 0) <;> cases hbs : btw v.slot 0 9
    all_goals
      go_wp2
      go_ret
      exact ⟨ret_boolV (by simp [restB, k1, hR0, hS0, hbs]), belowD ((Below.refl _ _).alloc (Nat.le_refl _) _) _⟩
  · go_wp2_with fail
    refine (between_c _ _ _ _).mono ?_
    rintro e w' ⟨rfl, rfl⟩
    cases hS0 : (v.support == 0) <;> cases hbs : btw v.slot 0 9
    all_goals
      go_wp2
      go_ret
      exact ⟨ret_boolV (by simp [restB, k1, k2, hR0, hS0, hbs]), belowD ((Below.refl _ _).alloc (Nat.le_refl _) _) _⟩
  · go_wp2
    go_quiet ((go_at_call 89; first | exact quietL (between_c _ _ _ _) | exact quietA (between_c _ _ _ _)))
    cases hbc : btw v.choice 0 1
    · go_wp2_with fail
      refine (between_c _ _ _ _).mono ?_
      rintro e w' ⟨rfl, rfl⟩
      cases hbs : btw v.slot 0 9
      all_goals
        go_wp2
        go_ret
        exact ⟨ret_boolV (by simp [restB, k1, k2, k3, hbc, hn1, hR0, hbs, hr1]), belowD ((Below.refl _ _).alloc (Nat.le_refl _) _) _⟩
    · go_wp2_with fail
      refine (between_c _ _ _ _).mono ?_
      rintro e w' ⟨rfl, rfl⟩
      cases hbs : btw v.slot 0 9
      all_goals
        go_wp2
        go_ret
        exact ⟨ret_boolV (by simp [restB, k1, k2, k3, hbc, hn1, hR0, hbs, hr1]), belowD ((Below.refl _ _).alloc (Nat.le_refl _) _) _⟩
  · go_wp2
    go_quiet ((go_at_call 89; first | exact quietL (between_c _ _ _ _) | exact quietA (between_c _ _ _ _)))
    go_wp2_with fail
    refine (between_c _ _ _ _).mono ?_
    rintro e w' ⟨rfl, rfl⟩
    cases hbs : btw v.slot 0 9
    all_goals
      go_wp2
      go_ret
      exact ⟨ret_boolV (by simp [restB, k1, k2, k3, k4, hR0, hbs, hr1]), belowD ((Below.refl _ _).alloc (Nat.le_refl _) _) _⟩
  · go_wp2_with fail
    refine (between_c _ _ _ _).mono ?_
    rintro e w' ⟨rfl, rfl⟩
    cases hS0 : (v.support == 0) <;> cases hbs : btw v.slot 0 0
    all_goals
      go_wp2
      go_ret
      exact ⟨ret_boolV (by simp [restB, k1, k2, k3, k4, hR0, hS0, hbs]), belowD ((Below.refl _ _).alloc (Nat.le_refl _) _) _⟩
set_option maxRecDepth 100000 in
set_option maxHeartbeats 4000000 in
theorem valid_rf (v : Vt) (w : World) (h1 : btw v.kind 1 7 = true) (h2 : btw v.signer 0 9 = true) (h3 : ((v.choice == 1) == (v.val == Nm.zero)) = false) (h4 : (bits .andNot .i64 v.support 1023 != 0) = false) (hR0 : (v.round == 0) = false) :
    Calls Try.prog 65 #[.agg v.cs] w fun e w' => e = .returned (.bool (restB v)) ∧ Below w.heap.size w w' := by
  have hE := fun w d => run_equalIn_nm0 w d v.val
  generalize hz : (v.val == Nm.zero) = z at *
  clear hz
  have hk := kind_cases v.kind
  have HK := Lib.hid hk
  clear hk
  go_enter Try.func65, Try.ntmps65
  go_wp2_with (go_at_call 89; refine (between_c _ _ _ _).mono ?_; rintro e w' ⟨rfl, rfl⟩)
  go_quiet (fail)
  go_wp2
  go_quiet (fail)
  rcases HK.out with k1 | ⟨k1, k2⟩ | ⟨k1, k2, k3⟩ | ⟨k1, k2, k3, k4⟩ | ⟨k1, k2, k3, k4⟩
  · go_wp2_with fail
    refine (between_c _ _ _ _).mono ?_
    rintro e w' ⟨rfl, rfl⟩
    cases hS0 : (v.support == 0) <;> cases hbs : btw v.slot 0 9
    all_goals
      go_wp2
      go_ret
      exact ⟨ret_boolV (by simp [restB, k1, hR0, hS0, hbs]), belowD ((Below.refl _ _).alloc (Nat.le_refl _) _) _⟩
  · go_wp2_with fail
    refine (between_c _ _ _ _).mono ?_
    rintro e w' ⟨rfl, rfl⟩
    cases hS0 : (v.support == 0) <;> cases hbs : btw v.slot 0 9
    all_goals
      go_wp2
      go_ret
      exact ⟨ret_boolV (by simp [restB, k1, k2, hR0, hS0, hbs]), belowD ((Below.refl _ _).alloc (Nat.le_refl _) _) _⟩
  · go_wp2
    go_quiet ((go_at_call 89; first | exact quietL (between_c _ _ _ _) | exact quietA (between_c _ _ _ _)))
    cases hbc : btw v.choice 0 1
    · go_wp2_with fail
      refine (between_c _ _ _ _).mono ?_
      rintro e w' ⟨rfl, rfl⟩
      cases hbs : btw v.slot 0 9 <;> cases hr1 : btw v.round 1 12
      all_goals
        go_wp2
        go_ret
        exact ⟨ret_boolV (by simp [restB, k1, k2, k3, hbc, hR0, hbs, hr1]), belowD ((Below.refl _ _).alloc (Nat.le_refl _) _) _⟩
    · cases hn1 : (v.round != 1)
      · cases hn0 : (v.choice != 0)
        · cases hS0 : (v.support == 0)
          · go_wp2_with fail
            refine (between_c _ _ _ _).mono ?_
            rintro e w' ⟨rfl, rfl⟩
            cases hbs : btw v.slot 0 9 <;> cases hr1 : btw v.round 1 12
            all_goals
              go_wp2
              go_ret
              exact ⟨ret_boolV (by simp [restB, k1, k2, k3, hbc, hn1, hn0, hS0, hR0, hbs, hr1]), belowD ((Below.refl _ _).alloc (Nat.le_refl _) _) _⟩
          · go_wp2_with fail
            refine (between_c _ _ _ _).mono ?_
            rintro e w' ⟨rfl, rfl⟩
            cases hbs : btw v.slot 0 9 <;> cases hr1 : btw v.round 1 12
            all_goals
              go_wp2
              go_ret
              exact ⟨ret_boolV (by simp [restB, k1, k2, k3, hbc, hn1, hn0, hS0, hR0, hbs, hr1]), belowD ((Below.refl _ _).alloc (Nat.le_refl _) _) _⟩
        · go_wp2_with fail
          refine (between_c _ _ _ _).mono ?_
          rintro e w' ⟨rfl, rfl⟩
          cases hbs : btw v.slot 0 9 <;> cases hr1 : btw v.round 1 12
          all_goals
            go_wp2
            go_ret
            exact ⟨ret_boolV (by simp [restB, k1, k2, k3, hbc, hn1, hn0, hR0, hbs, hr1]), belowD ((Below.refl _ _).alloc (Nat.le_refl _) _) _⟩
      · go_wp2_with fail
        refine (between_c _ _ _ _).mono ?_
        rintro e w' ⟨rfl, rfl⟩
        cases hbs : btw v.slot 0 9 <;> cases hr1 : btw v.round 1 12
        all_goals
          go_wp2
          go_ret
          exact ⟨ret_boolV (by simp [restB, k1, k2, k3, hbc, hn1, hR0, hbs, hr1]), belowD ((Below.refl _ _).alloc (Nat.le_refl _) _) _⟩
  · go_wp2
    go_quiet ((go_at_call 89; first | exact quietL (between_c _ _ _ _) | exact quietA (between_c _ _ _ _)))
    go_wp2_with fail
    refine (between_c _ _ _ _).mono ?_
    rintro e w' ⟨rfl, rfl⟩
    cases hbs : btw v.slot 0 9 <;> cases hr1 : btw v.round 1 12
    all_goals
      go_wp2
      go_ret
      exact ⟨ret_boolV (by simp [restB, k1, k2, k3, k4, hR0, hbs, hr1]), belowD ((Below.refl _ _).alloc (Nat.le_refl _) _) _⟩
  · go_wp2_with fail
    refine (between_c _ _ _ _).mono ?_
    rintro e w' ⟨rfl, rfl⟩
    cases hS0 : (v.support == 0) <;> cases hbs : btw v.slot 0 0
    all_goals
      go_wp2
      go_ret
      exact ⟨ret_boolV (by simp [restB, k1, k2, k3, k4, hR0, hS0, hbs]), belowD ((Below.refl _ _).alloc (Nat.le_refl _) _) _⟩
theorem valid_c (v : Vt) (w : World) :
    Calls Try.prog 65 #[.agg v.cs] w fun e w' => e = .returned (.bool (validB v)) ∧ Below w.heap.size w w' := by
  unfold validB
  cases h1 : btw v.kind 1 7 with
  | false => exact valid_no1 v w h1
  | true =>
    cases h2 : btw v.signer 0 9 with
    | false => exact valid_no2 v w h1 h2
    | true =>
      cases h3 : ((v.choice == 1) == (v.val == Nm.zero)) with
      | true => exact valid_no3 v w h1 h2 h3
      | false =>
        cases h4 : (bits .andNot .i64 v.support 1023 != 0) with
        | true => exact valid_no4 v w h1 h2 h3 h4
        | false =>
          cases h5 : (v.round == 0) with
          | true => exact valid_rt v w h1 h2 h3 h4 h5
          | false => exact valid_rf v w h1 h2 h3 h4 h5
end Go.Proofs.Ytphnfhonmbbddaa

/- court.has for any closure. -/
namespace Go.Proofs.Ytphnfhonmbbddaa
open Go Go.RowKit
set_option linter.unusedVariables false

/-- The cells of a vote lie at an address. -/
def VtAt (w : World) (b off : Nat) (v : Vt) : Prop := ∀ (t : Nat) (u : Value), v.cs[t]? = some u → w.cell? ⟨b, off + t, none⟩ = some u
/-- A slice of votes that reads as a list. -/
def RdV (w : World) (A : Option Addr) (l : List Vt) : Prop :=
  ∀ j (h : j < l.length), ∃ b off, A = some ⟨b, off, none⟩ ∧ b < w.heap.size ∧ VtAt w b (off + j * 22) l[j]
theorem RdV.below {w w' : World} {A : Option Addr} {l : List Vt} (h : RdV w A l) (hb : Below w.heap.size w w') : RdV w' A l := by
  intro j hj
  obtain ⟨b, off, hA, hlt, hc⟩ := h j hj
  exact ⟨b, off, hA, Nat.lt_of_lt_of_le hlt hb.size, fun t u hu => (hb.cell (p := ⟨b, off + j * 22 + t, none⟩) hlt).trans (hc t u hu)⟩
theorem vt_info : (Try.prog.info? 68).map (·.size) = some 22 := by kernel_rfl
theorem vt_under : ∃ fs, Try.prog.underlying 68 = some (.struct fs) := ⟨_, Try.underlying68⟩
theorem VtAt.range {w : World} {b off : Nat} {v : Vt} (h : VtAt w b off v) : w.rangeAt b off v.cs.toList := fun j u hu => h j u (by simpa using hu)
theorem VtAt.new (w : World) (v : Vt) (t : TypeId) : VtAt (w.alloc (.cells v.cs t)) w.heap.size 0 v := fun t' u hu => by
  rw [Nat.zero_add, cell_of_row _ _ t' v.cs t (0, 0) (heap_alloc_last w _)]; exact hu
theorem VtAt.of_blk {w : World} {b : Nat} {v : Vt} {t : TypeId} (h : w.heap[b]? = some (.cells v.cs t (0, 0))) : VtAt w b 0 v := fun t' u hu => by
  rw [Nat.zero_add, cell_of_row _ _ t' v.cs t (0, 0) h]; exact hu
section
variable {ops : Array Oper} {Q : Exit → Act → World → Prop} {a : Act} {w : World} {rest : List Oper} {o : Oper}
theorem wpList_wanted (hw : Region.wanted o (yielded ops a.tmps) = true) (h : ∀ K : Act → World → Prop, (∀ a w, wpList Try.prog ops Q rest a w → K a w) → o.wp Try.prog a w K Q) : wpList Try.prog ops Q (o :: rest) a w :=
  wpList_step fun K hK => by rw [if_pos hw]; exact h K hK
/-- A whole vote is loaded. -/
theorem wpList_load_vt (hw : Region.wanted o (yielded ops a.tmps) = true) (x : Operand) (ho : o.op = .load 68 x) (b off : Nat) (hx : a.eval x = .pointer (some ⟨b, off, none⟩)) (v : Vt) (hv : VtAt w b off v)
    (h : wpList Try.prog ops Q rest (a.put o.dst (.agg v.cs)) w) : wpList Try.prog ops Q (o :: rest) a w := by
  obtain ⟨fs, hu⟩ := vt_under
  refine wpList_wanted hw fun K hK => wp_load_mid 68 x ho b off hx v.cs.toList _ hv.range hu rfl ?_ (hK _ _ ?_)
  · rw [vt_info]; rfl
  · simpa using h
/-- A whole vote is stored into the block that was made last. -/
theorem wpList_store_vt (hw : Region.wanted o (yielded ops a.tmps) = true) (x y : Operand) (ho : o.op = .store 68 x y) (w0 : World) (c : Array Value) (hc : c.size = 22) (he : w = w0.alloc (.cells c 68)) (hx : a.eval x = .pointer (some ⟨w0.heap.size, 0, none⟩)) (v : Vt) (hy : a.eval y = .agg v.cs)
    (h : wpList Try.prog ops Q rest (a.put o.dst undef) (w0.alloc (.cells v.cs 68))) : wpList Try.prog ops Q (o :: rest) a w := by
  subst he
  refine wpList_wanted hw fun K hK => ?_
  have hs := run_storeAt_new (P := Try.prog) w0 68 c v.cs (by rw [vt_info]; rfl) (by rw [hc]; rfl) (by simp [Vt.cs, Value.oneCell'])
  unfold Oper.wp execOp
  simp only [ho, hx, hy, Sem.run_bind, Sem.run_pure, Result.andThen_ok, hs]
  exact hK _ _ h
end
set_option maxRecDepth 100000 in
set_option maxHeartbeats 2000000 in
theorem has_g (m q : Int) (A : Option Addr) (l : List Vt) (c : Nat) (hl : l.length ≤ 1000) (k : Nat) (lb : Array Value) (he : ∀ args w, (callFunc k args).run Try.prog w = .ok (.enter k args) w)
    (w : World) (J : List Vt → World → Prop) (Jx : World → Prop)
    (hJr : ∀ pre W, J pre W → RdV W A l) (hJb : ∀ pre W W', J pre W → Below W.heap.size W W' → J pre W')
    (hf : ∀ pre v W, J pre W → (∃ rest, l = pre ++ v :: rest) → Calls Try.prog k (#[.agg v.cs] ++ lb) W fun e W' => (e = .returned (.bool false) ∧ J (pre ++ [v]) W') ∨ (e = .returned (.bool true) ∧ Jx W'))
    (h0 : J [] w) :
    Calls Try.prog 77 #[.agg #[.int .i64 m, .int .i64 q, .slice A l.length c], .func (.func k) #[] lb] w fun e W' => (e = .returned (.bool false) ∧ J l W') ∨ (e = .returned (.bool true) ∧ Jx W') := by
  have HR := Lib.hid hJr
  have HB := Lib.hid hJb
  have HF := Lib.hid hf
  have H0 := Lib.hid h0
  clear hJr hJb hf h0
  go_enter Try.func77, Try.ntmps77
  go_wp2
  go_loopw [10] (fun i wr => ∃ j : Nat, j ≤ l.length ∧ i = .int .i64 j ∧ J (l.take j) wr) (fun i _ => l.length - (intOf i).toNat)
  case atStart => exact ⟨0, Nat.zero_le _, rfl, HB.out _ _ _ H0.out ((Below.refl _ _).alloc (Nat.le_refl _) _)⟩
  case round =>
    obtain ⟨j, hj, rfl, hJ⟩ := hrel
    by_cases hlt : j < l.length
    · obtain ⟨b, off, rfl, hb, hv⟩ := HR.out _ _ hJ j hlt
      have HF1 := Lib.hid (HF.out (l.take j) l[j] (wr.alloc (.cells l[j].cs 68)) (HB.out _ _ _ hJ ((Below.refl _ _).alloc (Nat.le_refl _) _)) ⟨l.drop (j + 1), by rw [List.getElem_cons_drop hlt, List.take_append_drop]⟩)
      have HT : Hid (l.take j ++ [l[j]] = l.take (j + 1)) := by show _ = _; rw [List.take_succ_eq_append_getElem hlt]
      generalize l[j] = v at *
      have HV := Lib.hid hv
      clear hv
      go_wp2_with (first
        | (refine wpList_load_vt (by rfl) (.tmp 12) rfl _ _ rfl v HV.out ?_)
        | (refine wpList_store_vt (by rfl) (.tmp 6) (.tmp 13) rfl wr _ rfl rfl rfl v rfl ?_)
        | (refine wpList_load_vt (by rfl) (.tmp 6) rfl _ _ rfl v (VtAt.new _ _ _) ?_))
      refine HF1.out.mono ?_
      rintro e w2 (⟨rfl, hJ2⟩ | ⟨rfl, hx2⟩)
      · go_wp2
        go_roundw
        case rel => exact ⟨j + 1, by omega, by go_num, by rw [← HT.out]; exact hJ2⟩
        case measure => simp [intOf]; omega
      · go_wp2
        go_ret
        exact .inr ⟨rfl, hx2⟩
    · obtain rfl : j = l.length := by omega
      go_wp2
      go_ret
      exact .inl ⟨rfl, by simpa using hJ⟩
end Go.Proofs.Ytphnfhonmbbddaa

/- court.has and court.supported for pure closures. -/
namespace Go.Proofs.Ytphnfhonmbbddaa
open Go Go.RowKit
set_option linter.unusedVariables false

/-- A function value that decides p, in every world that grows out of W0. -/
def Fits (W0 : World) (f : Value) (p : Vt → Bool) : Prop :=
  ∃ (k : Nat) (lb : Array Value), f = .func (.func k) #[] lb ∧ (∀ args w, (callFunc k args).run Try.prog w = .ok (.enter k args) w) ∧
    ∀ (W : World) (v : Vt), Below W0.heap.size W0 W → Calls Try.prog k (#[.agg v.cs] ++ lb) W fun e W' => e = .returned (.bool (p v)) ∧ Below W.heap.size W W'
theorem Fits.below {W0 W1 : World} {f : Value} {p : Vt → Bool} (h : Fits W0 f p) (hb : Below W0.heap.size W0 W1) : Fits W1 f p := by
  obtain ⟨k, lb, e, he, hc⟩ := h
  exact ⟨k, lb, e, he, fun W v hW => hc W v (hb.trans (hW.mono hb.size))⟩
theorem has_pure (m q : Int) (A : Option Addr) (l : List Vt) (c : Nat) (hl : l.length ≤ 1000) (f : Value) (p : Vt → Bool) (w : World) (hF : Fits w f p) (hr : RdV w A l) :
    Calls Try.prog 77 #[.agg #[.int .i64 m, .int .i64 q, .slice A l.length c], f] w fun e W' => e = .returned (.bool (l.any p)) ∧ Below w.heap.size w W' := by
  obtain ⟨k, lb, rfl, he, hc⟩ := hF
  refine (has_g m q A l c hl k lb he w (fun pre W => pre.any p = false ∧ Below w.heap.size w W) (fun W => l.any p = true ∧ Below w.heap.size w W) (fun pre W h => hr.below h.2) (fun pre W W' h hb => ⟨h.1, h.2.trans (hb.mono h.2.size)⟩) ?_ ⟨rfl, Below.refl _ _⟩).mono ?_
  · rintro pre v W ⟨h1, h2⟩ ⟨rest, hrest⟩
    refine (hc W v h2).mono ?_
    rintro e W' ⟨rfl, hb⟩
    cases hp : p v with
    | false => exact .inl ⟨rfl, by simp [h1, hp], h2.trans (hb.mono h2.size)⟩
    | true => exact .inr ⟨rfl, by rw [hrest]; simp [hp], h2.trans (hb.mono h2.size)⟩
  · rintro e W' (⟨rfl, h1, h2⟩ | ⟨rfl, h1, h2⟩)
    · exact ⟨by rw [h1], h2⟩
    · exact ⟨by rw [h1], h2⟩
theorem Boxed.blw {W W' : World} {B : Nat} {t : TypeId} {v : Value} (h : Boxed W B t v) (hb : Below W.heap.size W W') : Boxed W' B t v := boxed_eq h (hb.block B h.lt)
set_option maxRecDepth 100000 in
set_option maxHeartbeats 2000000 in
theorem sup1_fits (W0 : World) (f : Value) (p : Vt → Bool) (iB fB : Nat) (i : Int) (hF : Fits W0 f p) (hi : Boxed W0 iB 3 (.int .i64 i)) (hf : Boxed W0 fB 100 f) :
    Fits W0 (.func (.func 134) #[] #[.pointer (some ⟨iB, 0, none⟩), .pointer (some ⟨fB, 0, none⟩)]) (fun w => (w.signer == i) && p w) := by
  refine ⟨_, _, rfl, enters_of Try.func134 (by kernel_rfl) rfl, fun W v hW => ?_⟩
  obtain ⟨k, lb, rfl, he, hc⟩ := hF
  have bi : Boxed W iB 3 (.int .i64 i) := boxed_eq hi (hW.block iB hi.lt)
  have bf : Boxed W fB 100 (.func (.func k) #[] lb) := boxed_eq hf (hW.block fB hf.lt)
  have HC := Lib.hid (hc (W.alloc (.cells v.cs 68)) v (hW.trans (((Below.refl _ _).alloc (Nat.le_refl _) _).mono hW.size)))
  have c1 := bi.cell
  have c2 := bf.cell
  have l1 := bi.lt
  have l2 := bf.lt
  clear hc hi hf bi bf hW
  cases hs : (v.signer == i) with
  | true =>
    go_enter Try.func134, Try.ntmps134
    go_wp2_with (refine wpList_load_vt (by rfl) (.tmp 3) rfl _ _ rfl v (VtAt.new _ _ _) ?_)
    refine HC.out.mono ?_
    rintro e w2 ⟨rfl, hb2⟩
    go_wp2
    go_ret
    exact ⟨ret_bool (by simp [hs]), ((Below.refl _ _).alloc (Nat.le_refl _) _).trans (hb2.mono (by simp))⟩
  | false =>
    go_enter Try.func134, Try.ntmps134
    go_wp2
    go_ret
    exact ⟨ret_bool (by simp [hs]), (Below.refl _ _).alloc (Nat.le_refl _) _⟩
/-- supported. -/
def supB (m q : Int) (l : List Vt) (v : Vt) (p : Vt → Bool) : Bool :=
  !(bits .andNot .i64 v.support m != 0) && !((size v.support : Int) != q) && (ids v.support).all (fun i => l.any (fun w => (w.signer == (i : Int)) && p w))
theorem all_take_next {α : Type} (l : List α) (g : α → Bool) (j : Nat) (h : j < l.length) (h1 : (l.take j).all g = true) (h2 : g l[j] = true) : (l.take (j + 1)).all g = true := by
  rw [List.take_succ_eq_append_getElem h, List.all_append, h1]; simp [h2]
theorem all_false_at {α : Type} (l : List α) (g : α → Bool) (j : Nat) (h : j < l.length) (h2 : g l[j] = false) : l.all g = false := by
  rw [List.all_eq_false]; exact ⟨l[j], List.getElem_mem h, by simp [h2]⟩
theorem three_blocks (w : World) (o1 o2 o3 : Obj) (n : Nat) :
    ((((w.alloc o1).alloc o2).alloc o3).drewN n).heap[w.heap.size]? = some o1 ∧ ((((w.alloc o1).alloc o2).alloc o3).drewN n).heap[w.heap.size + 1]? = some o2 ∧ ((((w.alloc o1).alloc o2).alloc o3).drewN n).heap[w.heap.size + 1 + 1]? = some o3 ∧
    ((((w.alloc o1).alloc o2).alloc o3).drewN n).heap.size = w.heap.size + 1 + 1 + 1 ∧ Below w.heap.size w ((((w.alloc o1).alloc o2).alloc o3).drewN n) := by
  refine ⟨?_, ?_, ?_, ?_, belowD ((((Below.refl _ _).alloc (Nat.le_refl _) _).alloc (by simp) _).alloc (by simp; omega) _) _⟩
  · show (((w.heap.push o1).push o2).push o3)[w.heap.size]? = some o1
    rw [Array.getElem?_push, Array.getElem?_push, Array.getElem?_push]
    simp
    omega
  · show (((w.heap.push o1).push o2).push o3)[w.heap.size + 1]? = some o2
    rw [Array.getElem?_push, Array.getElem?_push]
    simp
  · show (((w.heap.push o1).push o2).push o3)[w.heap.size + 1 + 1]? = some o3
    rw [Array.getElem?_push]
    simp
  · show (((w.heap.push o1).push o2).push o3).size = _
    simp
theorem cells3 {w : World} {b : Nat} {t : TypeId} {x y z : Value} (h : w.heap[b]? = some (.cells #[x, y, z] t (0, 0))) :
    w.cell? ⟨b, 0, none⟩ = some x ∧ w.cell? ⟨b, 1, none⟩ = some y ∧ w.cell? ⟨b, 2, none⟩ = some z := by
  refine ⟨?_, ?_, ?_⟩ <;> rw [cell_of_row _ _ _ _ _ _ h] <;> rfl
theorem heap_lt {w : World} {b : Nat} {o : Obj} (h : w.heap[b]? = some o) : b < w.heap.size := (Array.getElem?_eq_some_iff.1 h).1
set_option maxRecDepth 100000 in
set_option maxHeartbeats 2000000 in
theorem supported_c (m q : Int) (A : Option Addr) (l : List Vt) (c : Nat) (hl : l.length ≤ 1000) (v : Vt) (hv : W64 v.support) (f : Value) (p : Vt → Bool) (w : World) (hF : Fits w f p) (hr : RdV w A l) :
    Calls Try.prog 111 #[.agg #[.int .i64 m, .int .i64 q, .slice A l.length c], .agg v.cs, f] w fun e W' => e = .returned (.bool (supB m q l v p)) ∧ Below w.heap.size w W' := by
  have HF := Lib.hid hF
  obtain ⟨k, lb, rfl, he, _⟩ := hF
  have HE := Lib.hid he
  have HR := Lib.hid hr
  have HI := Lib.hid (fun w => ids_c v.support hv w)
  have hlen : (ids v.support).length ≤ 10 := size_le v.support
  clear he hr hv
  unfold supB
  cases hb1 : (bits .andNot .i64 v.support m != 0) with
  | true =>
    go_enter Try.func111, Try.ntmps111
    go_wp2
    go_quiet (fail)
    go_wp2
    go_ret
    exact ⟨ret_bool (by simp), belowD ((((Below.refl _ _).alloc (Nat.le_refl _) _).alloc (by simp) _).alloc (by simp; omega) _) _⟩
  | false =>
    cases hb2 : ((size v.support : Int) != q) with
    | true =>
      go_enter Try.func111, Try.ntmps111
      go_wp2
      go_quiet ((go_at_call 25; first | exact quietL (size_c _ _) | exact quietA (size_c _ _)))
      go_wp2
      go_ret
      exact ⟨ret_bool (by simp), belowD ((((Below.refl _ _).alloc (Nat.le_refl _) _).alloc (by simp) _).alloc (by simp; omega) _) _⟩
    | false =>
      go_enter Try.func111, Try.ntmps111
      go_wp2
      go_quiet ((go_at_call 25; first | exact quietL (size_c _ _) | exact quietA (size_c _ _)))
      go_wp2_with fail
      refine (HI.out _).mono ?_
      rintro e w2 ⟨vv, rfl, hown, hb2⟩
      obtain ⟨A2, c2, hv2⟩ := own_form hown
      subst hv2
      obtain ⟨k1, k2, k3, k4, hB1⟩ := three_blocks w (.cells #[.int .i64 m, .int .i64 q, .slice A l.length c] 120) (.cells v.cs 68) (.cells #[.func (.func k) #[] lb] 100) nq
      have e1 := (hb2.block w.heap.size (by rw [k4]; omega)).trans k1
      have e3 := (hb2.block (w.heap.size + 1 + 1) (by rw [k4]; omega)).trans k3
      have hBw2 : Below w.heap.size w w2 := hB1.trans (hb2.mono hB1.size)
      have HRD := Lib.hid (RdN.of_own hown)
      have HBW2 := Lib.hid hBw2
      have E1 := Lib.hid e1
      have E3 := Lib.hid e3
      clear hown hb2 k1 k2 k3 k4 hB1 e1 e3 hBw2 HI
      go_wp2
      go_loopw [27] (fun i wr => ∃ j : Nat, j ≤ (ids v.support).length ∧ i = .int .i64 j ∧ ((ids v.support).take j).all (fun i => l.any (fun w => (w.signer == (i : Int)) && p w)) = true ∧ Below w2.heap.size w2 wr) (fun i _ => (ids v.support).length - (intOf i).toNat)
      case atStart => exact ⟨0, Nat.zero_le _, rfl, rfl, Below.refl _ _⟩
      case round =>
        obtain ⟨j, hj, rfl, hall, hB⟩ := hrel
        have HALL := Lib.hid hall
        have HB := Lib.hid hB
        clear hall hB
        by_cases hlt : j < (ids v.support).length
        · obtain ⟨b, off, rfl, hb, hc⟩ := (HRD.out.below HB.out) j hlt
          have x1 := (HB.out.block w.heap.size (heap_lt E1.out)).trans E1.out
          have x3 := (HB.out.block (w.heap.size + 1 + 1) (heap_lt E3.out)).trans E3.out
          obtain ⟨y1, y2, y3⟩ := cells3 x1
          have l1 := heap_lt x1
          have l3 := heap_lt x3
          have hBw : Below w.heap.size w wr := HBW2.out.trans (HB.out.mono HBW2.out.size)
          have HN := Lib.hid (all_take_next (ids v.support) (fun i => l.any (fun w => (w.signer == (i : Int)) && p w)) j hlt HALL.out)
          have HX := Lib.hid (all_false_at (ids v.support) (fun i => l.any (fun w => (w.signer == (i : Int)) && p w)) j hlt)
          generalize (ids v.support)[j] = x at *
          have HH := Lib.hid (has_pure m q A l c hl _ _ (wr.alloc (.cells #[.int .i64 (x : Int)] 3)) (sup1_fits (wr.alloc (.cells #[.int .i64 (x : Int)] 3)) (.func (.func k) #[] lb) p wr.heap.size (w.heap.size + 1 + 1) (x : Int) (HF.out.below (hBw.alloc hBw.size _)) (Boxed.new _ _ _) (Boxed.alloc x3 _)) (HR.out.below (hBw.alloc hBw.size _)))
          have HBW := Lib.hid hBw
          clear x1 x3 hBw
          go_wp2_with fail
          refine HH.out.mono ?_
          rintro e w4 ⟨rfl, hb4⟩
          have hb4' : Below wr.heap.size wr w4 := ((Below.refl _ _).alloc (Nat.le_refl _) _).trans (hb4.mono (by simp))
          clear hb4
          cases hbb : l.any (fun w => (w.signer == (x : Int)) && p w) with
          | true =>
            have hnx := Lib.hid (HN.out hbb)
            clear hbb
            go_wp2
            go_roundw
            case rel => exact ⟨j + 1, by omega, by go_num, hnx.out, HB.out.trans (hb4'.mono HB.out.size)⟩
            case measure => simp [intOf]; omega
          | false =>
            have hnx := HX.out hbb
            have hnx' := Lib.hid hnx
            clear hbb hnx
            go_wp2
            go_ret
            exact ⟨ret_bool (by rw [hnx'.out]; simp), HBW.out.trans (hb4'.mono HBW.out.size)⟩
        · go_wp2
          go_ret
          have e : (ids v.support).take j = ids v.support := List.take_of_length_le (by omega)
          have hh := HALL.out
          rw [e] at hh
          exact ⟨ret_bool (by simp [hh]), HBW2.out.trans (HB.out.mono HBW2.out.size)⟩
end Go.Proofs.Ytphnfhonmbbddaa

/- Laws for operations on whole votes: a slice literal of one vote, names inside votes, rows of votes. -/
namespace Go.Proofs.Ytphnfhonmbbddaa
open Go Go.RowKit
set_option linter.unusedVariables false

def vtZ : Value := .agg #[.int .i64 0, .int .i64 0, .int .i64 0, .int .i64 0, .int .i64 0, .int .i64 0, .int .u8 0, .int .u8 0, .int .u8 0, .int .u8 0, .int .u8 0, .int .u8 0, .int .u8 0, .int .u8 0, .int .u8 0, .int .u8 0, .int .u8 0, .int .u8 0, .int .u8 0, .int .u8 0, .int .u8 0, .int .u8 0]
theorem info_vt : (Try.prog.info? 68).map (fun i => (i.zero, i.size, i.bytes)) = some (some vtZ, 22, 64) := by kernel_rfl
theorem fill_vt (u : Vt) : Instr.fill (fun i => some (i * 22, 22)) ((Array.range (1 * 22)).map (vtZ.cells[· % vtZ.cells.size]!)) [(0, .agg u.cs)] = some u.cs := by kernel_rfl
section
variable {ops : Array Oper} {Q : Exit → Act → World → Prop} {a : Act} {w : World} {rest : List Oper} {o : Oper}
/-- A slice literal of one vote. -/
theorem wpList_lit_vt (hg : o.guard = none) (x : Operand) (ho : o.op = .buildSlice 55 1 #[(0, x)]) (u : Vt) (hx : a.eval x = .agg u.cs)
    (h : wpList Try.prog ops Q rest (a.put o.dst (.slice (some ⟨w.heap.size, 0, none⟩) 1 1)) (w.alloc (.cells u.cs 68))) : wpList Try.prog ops Q (o :: rest) a w := by
  obtain ⟨i0, hi, hz0, hz1, hz2⟩ := info_parts info_vt
  refine wpList_buildSlice hg 55 68 1 #[(0, x)] ho u.cs i0 vtZ Try.underlying55 hi hz0 (by rw [hz1]; decide) (by rw [hz1]; decide) ?_ h
  rw [hz1]
  have : (#[(0, x)].map fun (i, x) => (i, a.eval x)).toList = [(0, .agg u.cs)] := by simp [hx]
  rw [this]
  exact fill_vt u
theorem VtAt.parR {b off : Nat} {v : Vt} (h : VtAt w b off v) : w.rangeAt b (off + 6) v.par.cs.toList := fun j u hu => by
  have hj : j < 8 := (List.getElem?_eq_some_iff.1 hu).1
  have := h (6 + j) u (by
    have hc : ∀ i : Fin 8, v.cs[6 + i.val]? = v.par.cs.toList[i.val]? := by
      intro i
      match i with
      | 0 => rfl
      | 1 => rfl
      | 2 => rfl
      | 3 => rfl
      | 4 => rfl
      | 5 => rfl
      | 6 => rfl
      | 7 => rfl
    rw [hc ⟨j, hj⟩]; exact hu)
  rw [← Nat.add_assoc] at this
  exact this
theorem VtAt.valR {b off : Nat} {v : Vt} (h : VtAt w b off v) : w.rangeAt b (off + 14) v.val.cs.toList := fun j u hu => by
  have hj : j < 8 := (List.getElem?_eq_some_iff.1 hu).1
  have := h (14 + j) u (by
    have hc : ∀ i : Fin 8, v.cs[14 + i.val]? = v.val.cs.toList[i.val]? := by
      intro i
      match i with
      | 0 => rfl
      | 1 => rfl
      | 2 => rfl
      | 3 => rfl
      | 4 => rfl
      | 5 => rfl
      | 6 => rfl
      | 7 => rfl
    rw [hc ⟨j, hj⟩]; exact hu)
  rw [← Nat.add_assoc] at this
  exact this
theorem nm_info : (Try.prog.info? 54).map (·.size) = some 8 := by kernel_rfl
/-- A name is loaded. -/
theorem wpList_load_nm (hw : Region.wanted o (yielded ops a.tmps) = true) (x : Operand) (ho : o.op = .load 54 x) (b off : Nat) (hx : a.eval x = .pointer (some ⟨b, off, none⟩)) (n : Nm) (hv : w.rangeAt b off n.cs.toList)
    (h : wpList Try.prog ops Q rest (a.put o.dst (.agg n.cs)) w) : wpList Try.prog ops Q (o :: rest) a w := by
  refine wpList_wanted hw fun K hK => wp_load_mid 54 x ho b off hx n.cs.toList _ hv nm_under rfl ?_ (hK _ _ ?_)
  · rw [nm_info]; rfl
  · simpa using h
end
/-- The cells of a list of votes. -/
def vcells (l : List Vt) : List Value := l.flatMap fun v => v.cs.toList
theorem vcells_len (l : List Vt) : (vcells l).length = l.length * 22 := by
  induction l with
  | nil => rfl
  | cons v l ih => simp only [vcells, List.flatMap_cons, List.length_append, List.length_cons] at *; rw [ih]; simp [Vt.cs_size]; omega
theorem vcells_get (l : List Vt) : ∀ (j t : Nat) (h : j < l.length), t < 22 → (vcells l)[j * 22 + t]? = l[j].cs[t]? := by
  induction l with
  | nil => intro j t h; simp at h
  | cons v l ih =>
    intro j t h ht
    cases j with
    | zero =>
      simp only [vcells, List.flatMap_cons]
      rw [List.getElem?_append_left (by simp [Vt.cs_size]; omega)]
      simp
    | succ j =>
      simp only [vcells, List.flatMap_cons]
      rw [List.getElem?_append_right (by simp [Vt.cs_size]; omega)]
      have e : (j + 1) * 22 + t - v.cs.toList.length = j * 22 + t := by simp [Vt.cs_size]; omega
      rw [e]
      exact ih j t (by simpa using h) ht
theorem vcells_snoc (l : List Vt) (v : Vt) : vcells (l ++ [v]) = vcells l ++ v.cs.toList := by simp [vcells]
theorem vcells_one (l : List Vt) : ∀ u ∈ vcells l, u.oneCell' = true := by
  intro u hu
  simp only [vcells, List.mem_flatMap] at hu
  obtain ⟨v, _, hv⟩ := hu
  simp [Vt.cs] at hv
  rcases hv with rfl | rfl | rfl | rfl | rfl | rfl | rfl | rfl | rfl | rfl | rfl | rfl | rfl | rfl | rfl | rfl | rfl | rfl | rfl | rfl | rfl | rfl <;> rfl
theorem RdV.of_own {w : World} {base : Nat} {A : Option Addr} {c : Nat} {l : List Vt} (h : w.ownsRow base 68 22 (.slice A l.length c) l.length (vcells l)) : RdV w A l := by
  intro j hj
  rcases h.2 with ⟨h1, h2⟩ | ⟨g, cap, cur, hv, hb, hg, hnc, hm, hs, ht⟩
  · omega
  · injection hv with hA hn hc
    refine ⟨g, 0, hA, (Array.getElem?_eq_some_iff.1 hg).1, fun t u hu => ?_⟩
    have ht22 : t < 22 := by have := (Array.getElem?_eq_some_iff.1 hu).1; rwa [Vt.cs_size] at this
    have e1 : (vcells l)[j * 22 + t]? = some u := by rw [vcells_get l j t hj ht22]; exact hu
    have : cur.toList[j * 22 + t]? = some u := by
      rw [← ht] at e1
      rw [List.getElem?_take] at e1
      split at e1
      · exact e1
      · cases e1
    rw [cell_of_row _ _ _ _ _ _ hg]
    simpa using this
end Go.Proofs.Ytphnfhonmbbddaa
