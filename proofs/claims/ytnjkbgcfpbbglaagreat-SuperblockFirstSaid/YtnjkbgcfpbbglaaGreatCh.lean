/- The choices of a block as data, and as arguments. -/
import Derived.Test.YtnjkbgcfpbbglaaGreatOpenG
namespace Go.Proofs.YtnjkbgcfpbbglaaGreat
open Go Go.RowKit Go.ChangeShapes Go.WideShapes Go.Deep
set_option linter.unusedVariables false
structure Ch where
  vd : Int
  val : Nm
deriving DecidableEq
def Ch.zero : Ch := ⟨0, Nm.zero⟩
instance inhCh : Inhabited Ch := ⟨Ch.zero⟩
def Ch.cs (v : Ch) : Array Value := #[.int .i64 v.vd,
  .int .u8 (v.val.b0.toNat : Int), .int .u8 (v.val.b1.toNat : Int), .int .u8 (v.val.b2.toNat : Int), .int .u8 (v.val.b3.toNat : Int), .int .u8 (v.val.b4.toNat : Int), .int .u8 (v.val.b5.toNat : Int), .int .u8 (v.val.b6.toNat : Int), .int .u8 (v.val.b7.toNat : Int)]
instance : Cel Ch := ⟨9, Ch.cs, fun _ => rfl, fun a u hu => by simp [Ch.cs] at hu; rcases hu with rfl | rfl | rfl | rfl | rfl | rfl | rfl | rfl | rfl <;> rfl, by decide⟩
set_option maxRecDepth 100000 in
theorem eq_ch (w : World) (a b : Ch) : (Op.equal 108 (.agg a.cs) (.agg b.cs)).run Tryz.prog w = .ok (a == b) w := by
  have e : (a == b) = ((a.vd == b.vd) && ((a.val == b.val) && true)) := by
    rw [Bool.eq_iff_iff]
    simp only [Bool.and_eq_true, beq_iff_eq, and_true]
    constructor
    · rintro rfl; simp
    · rintro ⟨h1, h2⟩
      cases a; cases b; simp_all
  rw [e]
  have hi : ∀ (x y : Int), (Op.equalIn 9999 3 (.int .i64 x) (.int .i64 y)).run Tryz.prog w = .ok (x == y) w := fun x y => run_equalIn_int w 9998 3 .i64 .i64 x y (by kernel_rfl)
  refine run_eq_struct w 9999 108 _ _ _ Tryz.underlying108 (by kernel_rfl) _ ?_
  refine run_eqFields_cons w _ _ _ _ _ (.int .i64 a.vd) (.int .i64 b.vd) _ _ (by decide) (by kernel_rfl) (by kernel_rfl) (hi _ _) ?_
  refine run_eqFields_cons w _ _ _ _ _ (.agg a.val.cs) (.agg b.val.cs) _ _ (by decide) (by kernel_rfl) (by kernel_rfl) (run_equalIn_nm w 9997 _ _) ?_
  exact run_eqFields_nil w _ _ _
section
variable {H : Type} {enc : TypeId × Value → H} {w : World} {base : Nat} {spare : Nat → Bool} {held : Bool} {fuel : Nat}
theorem len9 {l : List Value} (h : l.length = 9) : ∃ c0 c1 c2 c3 c4 c5 c6 c7 c8, l = [c0, c1, c2, c3, c4, c5, c6, c7, c8] := by
  match l, h with
  | [c0, c1, c2, c3, c4, c5, c6, c7, c8], _ => exact ⟨c0, c1, c2, c3, c4, c5, c6, c7, c8, rfl⟩
theorem cells_ch : Tryz.prog.cellsOf 108 = 9 := by kernel_rfl
set_option maxRecDepth 100000 in
theorem ch_of {cs : List Value} {x : DataW H × List MemPlace} (h : DataW.trod enc Tryz.prog w base spare held fuel 108 cs = some x) : ∃ v : Ch, True ∧ cs = (Cel.cs v).toList := by
  obtain ⟨xs, m, _, _, hl, hxl, hg⟩ := DataW.trod_struct Tryz.underlying108 h
  rw [cells_ch] at hl
  have g0 : DataW.trod enc Tryz.prog w base spare held m 3 ((cs.drop 0).take (Tryz.prog.cellsOf 3)) = xs[0]? := hg 0 _ rfl
  rw [cells_int] at g0
  have g1 : DataW.trod enc Tryz.prog w base spare held m 24 ((cs.drop 1).take (Tryz.prog.cellsOf 24)) = xs[1]? := hg 1 _ rfl
  rw [cells_nm] at g1
  have hxl8 : xs.length = 2 := hxl
  have hx : ∀ i, i < 2 → ∃ y, xs[i]? = some y := fun i hi => ⟨_, List.getElem?_eq_getElem (by omega)⟩
  obtain ⟨y0, e0⟩ := hx 0 (by omega)
  obtain ⟨y1, e1⟩ := hx 1 (by omega)
  obtain ⟨n0, a0, _, w0⟩ := DataW.trod_int Tryz.underlying3 (g0.trans e0)
  obtain ⟨p1, a1⟩ := nm_of (g1.trans e1)
  refine ⟨⟨n0, p1⟩, trivial, ?_⟩
  have q0 := at_take1 a0
  obtain ⟨c0, c1, c2, c3, c4, c5, c6, c7, c8, rfl⟩ := len9 hl
  simp at q0 a1
  obtain ⟨rfl, rfl, rfl, rfl, rfl, rfl, rfl, rfl⟩ := a1
  subst q0
  rfl
set_option maxRecDepth 100000 in
theorem open_CS {v : Value} {r : Reach} {b0 : Nat} {d : DataW H} {p : List MemPlace} (hv : Value.okWide Tryz.prog w r b0 109 v) (h : DataW.Trod enc Tryz.prog w base (fun _ => true) held 109 v d p) : ∃ l : List Ch, GS (fun _ => True) w v l :=
  open_sl (α := Ch) (fun _ => True) Tryz.underlying109 cells_ch ch_of hv h
end
end Go.Proofs.YtnjkbgcfpbbglaaGreat
