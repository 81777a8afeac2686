/- Outcomes as data. -/
import Derived.Test.YthhgdkodhokefaaSd
namespace Go.Proofs.Ythhgdkodhokefaa
open Go Go.RowKit
set_option linter.unusedVariables false
structure Oc where
  slot : Int
  round : Int
  choice : Int
  val : Nm
deriving DecidableEq
def Oc.zero : Oc := ⟨0, 0, 0, Nm.zero⟩
def Oc.cs (v : Oc) : Array Value := #[.int .i64 v.slot, .int .i64 v.round, .int .i64 v.choice,
  .int .u8 (v.val.b0.toNat : Int), .int .u8 (v.val.b1.toNat : Int), .int .u8 (v.val.b2.toNat : Int), .int .u8 (v.val.b3.toNat : Int), .int .u8 (v.val.b4.toNat : Int), .int .u8 (v.val.b5.toNat : Int), .int .u8 (v.val.b6.toNat : Int), .int .u8 (v.val.b7.toNat : Int)]
instance : Cel Oc := ⟨11, Oc.cs, fun _ => rfl, fun a u hu => by simp [Oc.cs] at hu; rcases hu with rfl | rfl | rfl | rfl | rfl | rfl | rfl | rfl | rfl | rfl | rfl <;> rfl, by decide⟩
theorem eq_oc (w : World) (a b : Oc) : (Op.equal 75 (.agg a.cs) (.agg b.cs)).run Try.prog w = .ok (a == b) w := by
  have e : (a == b) = ((a.slot == b.slot) && ((a.round == b.round) && ((a.choice == b.choice) && ((a.val == b.val) && true)))) := by
    rw [Bool.eq_iff_iff]
    simp only [Bool.and_eq_true, beq_iff_eq, and_true]
    constructor
    · rintro rfl; simp
    · rintro ⟨h1, h2, h3, h4⟩
      cases a; cases b; simp_all
  rw [e]
  have hi : ∀ (x y : Int), (Op.equalIn 9999 3 (.int .i64 x) (.int .i64 y)).run Try.prog w = .ok (x == y) w := fun x y => run_equalIn_int w 9998 3 .i64 .i64 x y (by kernel_rfl)
  refine run_eq_struct w 9999 75 _ _ _ Try.underlying75 (by kernel_rfl) _ ?_
  refine run_eqFields_cons w _ _ _ _ _ (.int .i64 a.slot) (.int .i64 b.slot) _ _ (by decide) (by kernel_rfl) (by kernel_rfl) (hi _ _) ?_
  refine run_eqFields_cons w _ _ _ _ _ (.int .i64 a.round) (.int .i64 b.round) _ _ (by decide) (by kernel_rfl) (by kernel_rfl) (hi _ _) ?_
  refine run_eqFields_cons w _ _ _ _ _ (.int .i64 a.choice) (.int .i64 b.choice) _ _ (by decide) (by kernel_rfl) (by kernel_rfl) (hi _ _) ?_
  refine run_eqFields_cons w _ _ _ _ _ (.agg a.val.cs) (.agg b.val.cs) _ _ (by decide) (by kernel_rfl) (by kernel_rfl) (run_equalIn_nm w 9997 _ _) ?_
  exact run_eqFields_nil w _ _ _
end Go.Proofs.Ythhgdkodhokefaa
