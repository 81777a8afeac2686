/- Names and votes as plain data, their cells, and the equality of names. -/
import Derived.WalkKit
import Derived.WalkLawsBesides
import Derived.WalkSpells
import Derived.Outline
import Derived.Lib.Hide
import Derived.Laws.StructEq
import Derived.Stop.BytesEq
import Derived.Test.YthhgdkodhokefaaProg
import Derived.Test.YthhgdkodhokefaaMask
namespace Go.Proofs.Ythhgdkodhokefaa
open Go Go.RowKit
set_option linter.unusedVariables false

/-- A name: eight bytes. -/
structure Nm where
  b0 : UInt8
  b1 : UInt8
  b2 : UInt8
  b3 : UInt8
  b4 : UInt8
  b5 : UInt8
  b6 : UInt8
  b7 : UInt8
deriving DecidableEq
def Nm.toList (a : Nm) : List UInt8 := [a.b0, a.b1, a.b2, a.b3, a.b4, a.b5, a.b6, a.b7]
def Nm.zero : Nm := ⟨0, 0, 0, 0, 0, 0, 0, 0⟩
/-- Its cells. -/
abbrev Nm.cs (a : Nm) : Array Value := #[.int .u8 (a.b0.toNat : Int), .int .u8 (a.b1.toNat : Int), .int .u8 (a.b2.toNat : Int), .int .u8 (a.b3.toNat : Int), .int .u8 (a.b4.toNat : Int), .int .u8 (a.b5.toNat : Int), .int .u8 (a.b6.toNat : Int), .int .u8 (a.b7.toNat : Int)]
/-- A vote. -/
structure Vt where
  kind : Int
  slot : Int
  round : Int
  choice : Int
  signer : Int
  support : Int
  par : Nm
  val : Nm
deriving DecidableEq
def Vt.cs (v : Vt) : Array Value := #[.int .i64 v.kind, .int .i64 v.slot, .int .i64 v.round, .int .i64 v.choice, .int .i64 v.signer, .int .i64 v.support,
  .int .u8 (v.par.b0.toNat : Int), .int .u8 (v.par.b1.toNat : Int), .int .u8 (v.par.b2.toNat : Int), .int .u8 (v.par.b3.toNat : Int), .int .u8 (v.par.b4.toNat : Int), .int .u8 (v.par.b5.toNat : Int), .int .u8 (v.par.b6.toNat : Int), .int .u8 (v.par.b7.toNat : Int),
  .int .u8 (v.val.b0.toNat : Int), .int .u8 (v.val.b1.toNat : Int), .int .u8 (v.val.b2.toNat : Int), .int .u8 (v.val.b3.toNat : Int), .int .u8 (v.val.b4.toNat : Int), .int .u8 (v.val.b5.toNat : Int), .int .u8 (v.val.b6.toNat : Int), .int .u8 (v.val.b7.toNat : Int)]
@[go_sem] theorem Vt.cs_0 (v : Vt) : v.cs[0]? = some (.int .i64 v.kind) := rfl
@[go_sem] theorem Vt.cs_1 (v : Vt) : v.cs[1]? = some (.int .i64 v.slot) := rfl
@[go_sem] theorem Vt.cs_2 (v : Vt) : v.cs[2]? = some (.int .i64 v.round) := rfl
@[go_sem] theorem Vt.cs_3 (v : Vt) : v.cs[3]? = some (.int .i64 v.choice) := rfl
@[go_sem] theorem Vt.cs_4 (v : Vt) : v.cs[4]? = some (.int .i64 v.signer) := rfl
@[go_sem] theorem Vt.cs_5 (v : Vt) : v.cs[5]? = some (.int .i64 v.support) := rfl
@[go_sem] theorem Vt.cs_6 (v : Vt) : v.cs[6]? = some (.int .u8 (v.par.b0.toNat : Int)) := rfl
@[go_sem] theorem Vt.cs_7 (v : Vt) : v.cs[7]? = some (.int .u8 (v.par.b1.toNat : Int)) := rfl
@[go_sem] theorem Vt.cs_8 (v : Vt) : v.cs[8]? = some (.int .u8 (v.par.b2.toNat : Int)) := rfl
@[go_sem] theorem Vt.cs_9 (v : Vt) : v.cs[9]? = some (.int .u8 (v.par.b3.toNat : Int)) := rfl
@[go_sem] theorem Vt.cs_10 (v : Vt) : v.cs[10]? = some (.int .u8 (v.par.b4.toNat : Int)) := rfl
@[go_sem] theorem Vt.cs_11 (v : Vt) : v.cs[11]? = some (.int .u8 (v.par.b5.toNat : Int)) := rfl
@[go_sem] theorem Vt.cs_12 (v : Vt) : v.cs[12]? = some (.int .u8 (v.par.b6.toNat : Int)) := rfl
@[go_sem] theorem Vt.cs_13 (v : Vt) : v.cs[13]? = some (.int .u8 (v.par.b7.toNat : Int)) := rfl
@[go_sem] theorem Vt.cs_14 (v : Vt) : v.cs[14]? = some (.int .u8 (v.val.b0.toNat : Int)) := rfl
@[go_sem] theorem Vt.cs_15 (v : Vt) : v.cs[15]? = some (.int .u8 (v.val.b1.toNat : Int)) := rfl
@[go_sem] theorem Vt.cs_16 (v : Vt) : v.cs[16]? = some (.int .u8 (v.val.b2.toNat : Int)) := rfl
@[go_sem] theorem Vt.cs_17 (v : Vt) : v.cs[17]? = some (.int .u8 (v.val.b3.toNat : Int)) := rfl
@[go_sem] theorem Vt.cs_18 (v : Vt) : v.cs[18]? = some (.int .u8 (v.val.b4.toNat : Int)) := rfl
@[go_sem] theorem Vt.cs_19 (v : Vt) : v.cs[19]? = some (.int .u8 (v.val.b5.toNat : Int)) := rfl
@[go_sem] theorem Vt.cs_20 (v : Vt) : v.cs[20]? = some (.int .u8 (v.val.b6.toNat : Int)) := rfl
@[go_sem] theorem Vt.cs_21 (v : Vt) : v.cs[21]? = some (.int .u8 (v.val.b7.toNat : Int)) := rfl
@[go_sem] theorem Vt.cs_size (v : Vt) : v.cs.size = 22 := rfl
/-- Its ints are int64. -/
structure Vt.Ok (v : Vt) : Prop where
  kind : W64 v.kind
  slot : W64 v.slot
  round : W64 v.round
  choice : W64 v.choice
  signer : W64 v.signer
  support : W64 v.support
theorem nm_beq (a b : Nm) : (a.toList == b.toList) = (a == b) := by
  rw [Bool.eq_iff_iff]
  simp [Nm.toList]
  constructor
  · rintro ⟨h0, h1, h2, h3, h4, h5, h6, h7⟩
    cases a; cases b; simp_all
  · rintro rfl; simp
theorem u8_under : Try.prog.underlying 5 = some (.int .u8) := by kernel_rfl
theorem nm_under : Try.prog.underlying 24 = some (.array 8 5) := by kernel_rfl
theorem u8_size (w : World) : (sizeOf 5).run Try.prog w = .ok 1 w := by kernel_rfl
/-- a == b of names. -/
theorem run_equalIn_nm (w : World) (d : Nat) (a b : Nm) : (Op.equalIn (d + 2) 24 (.agg a.cs) (.agg b.cs)).run Try.prog w = .ok (a == b) w := by
  rw [← nm_beq]
  exact run_equalIn_bytes w d 24 5 8 nm_under u8_under u8_size a.toList b.toList rfl rfl
theorem run_equalIn_nm0 (w : World) (d : Nat) (a : Nm) : (Op.equalIn (d + 2) 24 (.agg a.cs) (.agg #[.int .u8 0, .int .u8 0, .int .u8 0, .int .u8 0, .int .u8 0, .int .u8 0, .int .u8 0, .int .u8 0])).run Try.prog w = .ok (a == Nm.zero) w :=
  run_equalIn_nm w d a Nm.zero
/-- between. -/
def btw (n lo hi : Int) : Bool := decide (lo ≤ n) && decide (n ≤ hi)
set_option maxHeartbeats 400000 in
theorem between_c (n lo hi : Int) (w : World) :
    Calls Try.prog 72 #[.int .i64 n, .int .i64 lo, .int .i64 hi] w fun e w' => e = .returned (.bool (btw n lo hi)) ∧ w = w' := by
  unfold btw
  by_cases h : lo ≤ n
  · have h' : decide (lo ≤ n) = true := by simpa using h
    rw [h']
    go_enter Try.func72, Try.ntmps72
    go_wp2
    go_ret
    exact ⟨rfl, rfl⟩
  · have h' : decide (lo ≤ n) = false := by simpa using h
    rw [h']
    go_enter Try.func72, Try.ntmps72
    go_wp2
    go_ret
    exact ⟨rfl, rfl⟩
/-- Two votes have the same value. -/
def sameB (a b : Vt) : Bool := (a.choice == b.choice) && (a.val == b.val)
set_option maxRecDepth 100000 in
set_option maxHeartbeats 1000000 in
theorem same_c (a b : Vt) (w : World) :
    Calls Try.prog 47 #[.agg a.cs, .agg b.cs] w fun e w' => e = .returned (.bool (sameB a b)) ∧ Below w.heap.size w w' := by
  unfold sameB
  have hE := fun w d => run_equalIn_nm w d a.val b.val
  cases h : (a.choice == b.choice) with
  | true =>
    go_enter Try.func47, Try.ntmps47
    go_wp2
    go_ret
    refine ⟨rfl, ?_⟩
    exact ((Below.refl _ _).alloc (Nat.le_refl _) _).alloc (by simp) _
  | false =>
    go_enter Try.func47, Try.ntmps47
    go_wp2
    go_ret
    refine ⟨rfl, ?_⟩
    exact ((Below.refl _ _).alloc (Nat.le_refl _) _).alloc (by simp) _
end Go.Proofs.Ythhgdkodhokefaa
