/- An argument that is an outcome: opened. -/
import Derived.Test.YtphnfhonmbbddaaGreatGJ
import Derived.Test.YtphnfhonmbbddaaGreatGE
namespace Go.Proofs.YtphnfhonmbbddaaGreat
open Go Go.RowKit Go.ChangeShapes Go.WideShapes Go.Deep
set_option linter.unusedVariables false
section
variable {H : Type} {enc : TypeId × Value → H} {w : World} {base : Nat} {spare : Nat → Bool} {held : Bool} {fuel : Nat}
theorem cells_oc : Tryz.prog.cellsOf 27 = 11 := by kernel_rfl
theorem len11 {α : Type} {l : List α} (h : l.length = 11) : ∃ a0 a1 a2 a3 a4 a5 a6 a7 a8 a9 a10, l = [a0, a1, a2, a3, a4, a5, a6, a7, a8, a9, a10] := by
  match l, h with
  | [a0, a1, a2, a3, a4, a5, a6, a7, a8, a9, a10], _ => exact ⟨a0, a1, a2, a3, a4, a5, a6, a7, a8, a9, a10, rfl⟩
set_option maxRecDepth 100000 in
theorem oc_of {cs : List Value} {x : DataW H × List MemPlace} (h : DataW.trod enc Tryz.prog w base spare held fuel 27 cs = some x) : ∃ v : Oc, cs = v.cs.toList := by
  obtain ⟨xs, m, _, _, hl, hxl, hg⟩ := DataW.trod_struct Tryz.underlying27 h
  rw [cells_oc] at hl
  have g0 : DataW.trod enc Tryz.prog w base spare held m 3 ((cs.drop 0).take (Tryz.prog.cellsOf 3)) = xs[0]? := hg 0 _ rfl
  rw [cells_int] at g0
  have g1 : DataW.trod enc Tryz.prog w base spare held m 3 ((cs.drop 1).take (Tryz.prog.cellsOf 3)) = xs[1]? := hg 1 _ rfl
  rw [cells_int] at g1
  have g2 : DataW.trod enc Tryz.prog w base spare held m 3 ((cs.drop 2).take (Tryz.prog.cellsOf 3)) = xs[2]? := hg 2 _ rfl
  rw [cells_int] at g2
  have g3 : DataW.trod enc Tryz.prog w base spare held m 24 ((cs.drop 3).take (Tryz.prog.cellsOf 24)) = xs[3]? := hg 3 _ rfl
  rw [cells_nm] at g3
  have hxl8 : xs.length = 4 := hxl
  have hx : ∀ i, i < 4 → ∃ y, xs[i]? = some y := fun i hi => ⟨_, List.getElem?_eq_getElem (by omega)⟩
  obtain ⟨y0, e0⟩ := hx 0 (by omega)
  obtain ⟨y1, e1⟩ := hx 1 (by omega)
  obtain ⟨y2, e2⟩ := hx 2 (by omega)
  obtain ⟨y3, e3⟩ := hx 3 (by omega)
  obtain ⟨n0, a0, _, w0⟩ := DataW.trod_int Tryz.underlying3 (g0.trans e0)
  obtain ⟨n1, a1, _, w1⟩ := DataW.trod_int Tryz.underlying3 (g1.trans e1)
  obtain ⟨n2, a2, _, w2⟩ := DataW.trod_int Tryz.underlying3 (g2.trans e2)
  obtain ⟨p3, a3⟩ := nm_of (g3.trans e3)
  refine ⟨⟨n0, n1, n2, p3⟩, ?_⟩
  have q0 := at_take1 a0
  have q1 := at_take1 a1
  have q2 := at_take1 a2
  obtain ⟨c0, c1, c2, c3, c4, c5, c6, c7, c8, c9, c10, rfl⟩ := len11 hl
  simp at q0 q1 q2 a3
  obtain ⟨rfl, rfl, rfl, rfl, rfl, rfl, rfl, rfl⟩ := a3
  subst q0 q1 q2
  rfl
set_option maxRecDepth 100000 in
theorem open_O {v : Value} {r : Reach} {b0 : Nat} {d : DataW H} {p : List MemPlace} (hv : Value.okWide Tryz.prog w r b0 27 v) (h : DataW.Trod enc Tryz.prog w base spare held 27 v d p) : ∃ x : Oc, v = .agg x.cs := by
  obtain ⟨cs, rfl, _⟩ := okWide_struct Tryz.underlying27 hv
  obtain ⟨fuel, hf⟩ := h
  obtain ⟨x, he⟩ := oc_of hf
  refine ⟨x, ?_⟩
  congr 1
  have : cs.toList = x.cs.toList := he
  exact Array.toList_inj.1 this
end
end Go.Proofs.YtphnfhonmbbddaaGreat
