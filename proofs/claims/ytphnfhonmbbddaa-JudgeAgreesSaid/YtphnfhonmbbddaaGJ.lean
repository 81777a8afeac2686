/- Arguments that are votes, names, slices of votes: opened. -/
import Derived.ProofKit
import Derived.OpenShut
import Derived.Deep.Slices
import Derived.Test.YtphnfhonmbbddaaGC
namespace Go.Proofs.Ytphnfhonmbbddaa
open Go Go.RowKit Go.ChangeShapes Go.WideShapes Go.Deep
set_option linter.unusedVariables false

section
variable {H : Type} {enc : TypeId × Value → H} {w : World} {base : Nat} {spare : Nat → Bool} {held : Bool} {fuel : Nat}
theorem len8 {l : List Value} (h : l.length = 8) : ∃ c0 c1 c2 c3 c4 c5 c6 c7, l = [c0, c1, c2, c3, c4, c5, c6, c7] := by
  match l, h with
  | [c0, c1, c2, c3, c4, c5, c6, c7], _ => exact ⟨c0, c1, c2, c3, c4, c5, c6, c7, rfl⟩
theorem len22 {l : List Value} (h : l.length = 22) : ∃ c0 c1 c2 c3 c4 c5 c6 c7 c8 c9 c10 c11 c12 c13 c14 c15 c16 c17 c18 c19 c20 c21, l = [c0, c1, c2, c3, c4, c5, c6, c7, c8, c9, c10, c11, c12, c13, c14, c15, c16, c17, c18, c19, c20, c21] := by
  match l, h with
  | [c0, c1, c2, c3, c4, c5, c6, c7, c8, c9, c10, c11, c12, c13, c14, c15, c16, c17, c18, c19, c20, c21], _ => exact ⟨c0, c1, c2, c3, c4, c5, c6, c7, c8, c9, c10, c11, c12, c13, c14, c15, c16, c17, c18, c19, c20, c21, rfl⟩
theorem at_take1 {cs : List Value} {i : Nat} {a : Value} (h : (cs.drop i).take 1 = [a]) : cs[i]? = some a := by
  have : ((cs.drop i).take 1)[0]? = some a := by rw [h]; rfl
  simpa [List.getElem?_take, List.getElem?_drop] using this
theorem cells_u8 : Try.prog.cellsOf 5 = 1 := by kernel_rfl
theorem cells_int : Try.prog.cellsOf 3 = 1 := by kernel_rfl
theorem cells_mask : Try.prog.cellsOf 32 = 1 := by kernel_rfl
theorem cells_nm : Try.prog.cellsOf 54 = 8 := by kernel_rfl
theorem cells_vt : Try.prog.cellsOf 68 = 22 := by kernel_rfl
theorem u8_of {n : Int} (h : (Lit.int .u8 n).wf = true) : ∃ b : UInt8, n = (b.toNat : Int) := by
  simp [Lit.wf, IntKind.min, IntKind.max, IntKind.signed, IntKind.bits] at h
  refine ⟨UInt8.ofNat n.toNat, ?_⟩
  simp
  omega
theorem w64_ofL {m : Int} (h : (Lit.int .i64 m).wf = true) : W64 m := by
  simp [Lit.wf, IntKind.min, IntKind.max, IntKind.signed, IntKind.bits] at h
  unfold W64
  omega
theorem nm_of {cs : List Value} {x : DataW H × List MemPlace} (h : DataW.trod enc Try.prog w base spare held fuel 54 cs = some x) : ∃ n : Nm, cs = n.cs.toList := by
  obtain ⟨xs, m, _, _, hl, hxl, hi⟩ := DataW.trod_array nm_under h
  rw [cells_nm] at hl
  rw [cells_u8] at hi
  have hb : ∀ i, i < 8 → ∃ b : UInt8, cs[i]? = some (.int .u8 (b.toNat : Int)) := by
    intro i h8
    have hx := hi i h8
    rw [Nat.mul_one, List.getElem?_eq_getElem (by omega)] at hx
    obtain ⟨n, hn, _, hwf⟩ := DataW.trod_int u8_under hx
    obtain ⟨b, rfl⟩ := u8_of hwf
    exact ⟨b, at_take1 hn⟩
  obtain ⟨b0, h0⟩ := hb 0 (by omega)
  obtain ⟨b1, h1⟩ := hb 1 (by omega)
  obtain ⟨b2, h2⟩ := hb 2 (by omega)
  obtain ⟨b3, h3⟩ := hb 3 (by omega)
  obtain ⟨b4, h4⟩ := hb 4 (by omega)
  obtain ⟨b5, h5⟩ := hb 5 (by omega)
  obtain ⟨b6, h6⟩ := hb 6 (by omega)
  obtain ⟨b7, h7⟩ := hb 7 (by omega)
  refine ⟨⟨b0, b1, b2, b3, b4, b5, b6, b7⟩, ?_⟩
  obtain ⟨c0, c1, c2, c3, c4, c5, c6, c7, rfl⟩ := len8 hl
  simp at h0 h1 h2 h3 h4 h5 h6 h7
  subst h0 h1 h2 h3 h4 h5 h6 h7
  rfl
theorem vt_of {cs : List Value} {x : DataW H × List MemPlace} (h : DataW.trod enc Try.prog w base spare held fuel 68 cs = some x) : ∃ v : Vt, v.Ok ∧ cs = v.cs.toList := by
  obtain ⟨xs, m, _, _, hl, hxl, hg⟩ := DataW.trod_struct Try.underlying68 h
  rw [cells_vt] at hl
  have g0 : DataW.trod enc Try.prog w base spare held m 3 ((cs.drop 0).take (Try.prog.cellsOf 3)) = xs[0]? := hg 0 _ rfl
  rw [cells_int] at g0
  have g1 : DataW.trod enc Try.prog w base spare held m 3 ((cs.drop 1).take (Try.prog.cellsOf 3)) = xs[1]? := hg 1 _ rfl
  rw [cells_int] at g1
  have g2 : DataW.trod enc Try.prog w base spare held m 3 ((cs.drop 2).take (Try.prog.cellsOf 3)) = xs[2]? := hg 2 _ rfl
  rw [cells_int] at g2
  have g3 : DataW.trod enc Try.prog w base spare held m 3 ((cs.drop 3).take (Try.prog.cellsOf 3)) = xs[3]? := hg 3 _ rfl
  rw [cells_int] at g3
  have g4 : DataW.trod enc Try.prog w base spare held m 3 ((cs.drop 4).take (Try.prog.cellsOf 3)) = xs[4]? := hg 4 _ rfl
  rw [cells_int] at g4
  have g5 : DataW.trod enc Try.prog w base spare held m 32 ((cs.drop 5).take (Try.prog.cellsOf 32)) = xs[5]? := hg 5 _ rfl
  rw [cells_mask] at g5
  have g6 : DataW.trod enc Try.prog w base spare held m 54 ((cs.drop 6).take (Try.prog.cellsOf 54)) = xs[6]? := hg 6 _ rfl
  rw [cells_nm] at g6
  have g7 : DataW.trod enc Try.prog w base spare held m 54 ((cs.drop 14).take (Try.prog.cellsOf 54)) = xs[7]? := hg 7 _ rfl
  rw [cells_nm] at g7
  have hxl8 : xs.length = 8 := hxl
  have hx : ∀ i, i < 8 → ∃ y, xs[i]? = some y := fun i hi => ⟨_, List.getElem?_eq_getElem (by omega)⟩
  obtain ⟨y0, e0⟩ := hx 0 (by omega)
  obtain ⟨y1, e1⟩ := hx 1 (by omega)
  obtain ⟨y2, e2⟩ := hx 2 (by omega)
  obtain ⟨y3, e3⟩ := hx 3 (by omega)
  obtain ⟨y4, e4⟩ := hx 4 (by omega)
  obtain ⟨y5, e5⟩ := hx 5 (by omega)
  obtain ⟨y6, e6⟩ := hx 6 (by omega)
  obtain ⟨y7, e7⟩ := hx 7 (by omega)
  obtain ⟨n0, a0, _, w0⟩ := DataW.trod_int Try.underlying3 (g0.trans e0)
  obtain ⟨n1, a1, _, w1⟩ := DataW.trod_int Try.underlying3 (g1.trans e1)
  obtain ⟨n2, a2, _, w2⟩ := DataW.trod_int Try.underlying3 (g2.trans e2)
  obtain ⟨n3, a3, _, w3⟩ := DataW.trod_int Try.underlying3 (g3.trans e3)
  obtain ⟨n4, a4, _, w4⟩ := DataW.trod_int Try.underlying3 (g4.trans e4)
  obtain ⟨n5, a5, _, w5⟩ := DataW.trod_int Try.underlying32 (g5.trans e5)
  obtain ⟨p6, a6⟩ := nm_of (g6.trans e6)
  obtain ⟨p7, a7⟩ := nm_of (g7.trans e7)
  refine ⟨⟨n0, n1, n2, n3, n4, n5, p6, p7⟩, ⟨w64_ofL w0, w64_ofL w1, w64_ofL w2, w64_ofL w3, w64_ofL w4, w64_ofL w5⟩, ?_⟩
  have q0 := at_take1 a0
  have q1 := at_take1 a1
  have q2 := at_take1 a2
  have q3 := at_take1 a3
  have q4 := at_take1 a4
  have q5 := at_take1 a5
  obtain ⟨c0, c1, c2, c3, c4, c5, c6, c7, c8, c9, c10, c11, c12, c13, c14, c15, c16, c17, c18, c19, c20, c21, rfl⟩ := len22 hl
  simp at q0 q1 q2 q3 q4 q5 a6 a7
  obtain ⟨rfl, rfl, rfl, rfl, rfl, rfl, rfl, rfl⟩ := a6
  obtain ⟨rfl, rfl, rfl, rfl, rfl, rfl, rfl, rfl⟩ := a7
  subst q0 q1 q2 q3 q4 q5
  rfl
set_option maxRecDepth 100000 in
/-- A vote by value. -/
theorem open_V {v : Value} {r : Reach} {b0 : Nat} {d : DataW H} {p : List MemPlace} (hv : Value.okWide Try.prog w r b0 68 v) (h : DataW.Trod enc Try.prog w base spare held 68 v d p) : ∃ x : Vt, v = .agg x.cs ∧ x.Ok := by
  obtain ⟨cs, rfl, hs⟩ := okWide_struct Try.underlying68 hv
  obtain ⟨fuel, hf⟩ := h
  obtain ⟨x, hx, he⟩ := vt_of hf
  refine ⟨x, ?_, hx⟩
  congr 1
  have : cs.toList = x.cs.toList := he
  exact Array.toList_inj.1 this
instance : Inhabited Vt := ⟨⟨0, 0, 0, 0, 0, 0, Nm.zero, Nm.zero⟩⟩
/-- What is known of a slice of votes that came in. -/
def VS (w : World) (v : Value) (l : List Vt) : Prop := ∃ A c, v = .slice A l.length c ∧ l.length ≤ c ∧ c ≤ maxLen ∧ RdV w A l ∧ ∀ u ∈ l, u.Ok
set_option maxRecDepth 100000 in
theorem open_VS {v : Value} {r : Reach} {b0 : Nat} {d : DataW H} {p : List MemPlace} (hv : Value.okWide Try.prog w r b0 55 v) (h : DataW.Trod enc Try.prog w base (fun _ => true) held 55 v d p) : ∃ l : List Vt, VS w v l := by
  obtain ⟨a0, len, cap, rfl⟩ := okWide_slice Try.underlying55 hv
  obtain ⟨fuel, hf⟩ := h
  rcases open_slice Try.underlying55 hf with ⟨hcs, _⟩ | ⟨a, len', cap', m, n, D, Pl, hcs, hb, hl, hm, hmm, _, hi⟩
  · simp [Value.cells] at hcs
    obtain ⟨rfl, rfl, rfl⟩ := hcs
    exact ⟨[], none, 0, rfl, Nat.le_refl _, Nat.zero_le _, fun j hj => by simp at hj, fun u hu => by cases hu⟩
  · simp [Value.cells] at hcs
    obtain ⟨rfl, rfl, rfl⟩ := hcs
    have hlm : len ≤ m := by rw [hmm]; simpa using hl
    have hex : ∀ i, i < len → ∃ u : Vt, u.Ok ∧ w.cells? base (a.add (i * 22)) 22 = some u.cs.toList := by
      intro i hil
      obtain ⟨cs', hc, ht⟩ := hi i (by omega)
      rw [cells_vt] at hc
      obtain ⟨u, hu, rfl⟩ := vt_of ht
      exact ⟨u, hu, hc⟩
    obtain ⟨V, hV⟩ := choose_lt (α := Vt) (p := fun i u => u.Ok ∧ w.cells? base (a.add (i * 22)) 22 = some u.cs.toList) hex
    have hll : ((List.range len).map V).length = len := by simp
    refine ⟨(List.range len).map V, some a, cap, by rw [hll], by omega, hm, fun j hj => ?_, fun u hu => ?_⟩
    · rw [hll] at hj
      obtain ⟨_, hc⟩ := hV j hj
      obtain ⟨_, _, hat⟩ := World.cells?_some hc
      have h0 := hat 0 (by omega)
      obtain ⟨b, off, spot⟩ := a
      have hspot : spot = none := by
        obtain ⟨_, hcz⟩ := hV 0 (by omega)
        obtain ⟨_, _, hatz⟩ := World.cells?_some hcz
        have hc0 : w.cell? ((Addr.mk b off spot).add (0 * 22) |>.add 0) = some (.int .i64 (V 0).kind) := (hatz 0 (by omega)).trans (by simpa using Vt.cs_0 (V 0))
        have := World.cell?_spot hc0
        simpa [Addr.add] using this
      subst hspot
      refine ⟨b, off, rfl, ?_, fun t u hu => ?_⟩
      · have hc0 : w.cell? ((Addr.mk b off none).add (j * 22) |>.add 0) = some (.int .i64 (V j).kind) := h0.trans (by simpa using Vt.cs_0 (V j))
        rw [Addr.add_mid, Addr.add_mid] at hc0
        by_cases hg : b < w.heap.size
        · exact hg
        · simp [World.cell?, Array.getElem?_eq_none (Nat.le_of_not_lt hg)] at hc0
      · have hu' : (V j).cs[t]? = some u := by simpa using hu
        have ht : t < 22 := by have := (Array.getElem?_eq_some_iff.1 hu').1; rwa [Vt.cs_size] at this
        have h1 := hat t ht
        rw [Addr.add_mid, Addr.add_mid] at h1
        rw [h1]; simpa using hu'
    · simp at hu
      obtain ⟨i, hi', rfl⟩ := hu
      exact (hV i hi').1
end
end Go.Proofs.Ytphnfhonmbbddaa

/- An argument that is a name: opened. -/
namespace Go.Proofs.Ytphnfhonmbbddaa
open Go Go.RowKit Go.ChangeShapes Go.WideShapes Go.Deep
set_option linter.unusedVariables false
section
variable {H : Type} {enc : TypeId × Value → H} {w : World} {base : Nat} {spare : Nat → Bool} {held : Bool}
set_option maxRecDepth 100000 in
theorem open_N {v : Value} {r : Reach} {b0 : Nat} {d : DataW H} {p : List MemPlace} (hv : Value.okWide Try.prog w r b0 54 v) (h : DataW.Trod enc Try.prog w base spare held 54 v d p) : ∃ x : Nm, v = .agg x.cs := by
  simp only [Value.okWide, nm_under] at hv
  obtain ⟨cs, rfl, _⟩ := hv
  obtain ⟨fuel, hf⟩ := h
  obtain ⟨x, he⟩ := nm_of hf
  refine ⟨x, ?_⟩
  congr 1
  have : cs.toList = x.cs.toList := he
  exact Array.toList_inj.1 this
end
end Go.Proofs.Ytphnfhonmbbddaa
