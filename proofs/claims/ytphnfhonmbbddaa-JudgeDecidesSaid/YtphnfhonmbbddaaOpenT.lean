/- Slices of slices as arguments; tables of the judge. -/
import Derived.Test.YtphnfhonmbbddaaOpenI
import Derived.Test.YtphnfhonmbbddaaTb
namespace Go.Proofs.Ytphnfhonmbbddaa
open Go Go.RowKit Go.ChangeShapes Go.WideShapes Go.Deep
set_option linter.unusedVariables false
section
variable {H : Type} {enc : TypeId × Value → H} {w : World} {base : Nat} {held : Bool} {fuel : Nat}
/-- What is known of a slice that came in, as an element. -/
structure HdOk {α : Type} [Cel α] (ok : α → Prop) (w : World) (h : Hd α) : Prop where
  len : h.l.length ≤ h.c
  cap : h.c ≤ maxLen
  rd : Rd w h.A h.l
  els : ∀ u ∈ h.l, ok u
set_option maxRecDepth 100000 in
theorem sl_of {α : Type} [Cel α] [Inhabited α] {st et : TypeId} (ok : α → Prop) (hu : Try.prog.underlying st = some (.slice et)) (hsz : Try.prog.cellsOf et = Cel.sz α) (hof : ∀ {cs : List Value} {fuel : Nat} {x : DataW H × List MemPlace}, DataW.trod enc Try.prog w base (fun _ => true) held fuel et cs = some x → ∃ v : α, ok v ∧ cs = (Cel.cs v).toList)
    {cs : List Value} {x : DataW H × List MemPlace} (hf : DataW.trod enc Try.prog w base (fun _ => true) held fuel st cs = some x) : ∃ h : Hd α, HdOk ok w h ∧ cs = (Cel.cs h).toList := by
  rcases open_slice hu hf with ⟨hcs, _⟩ | ⟨a, len, cap, m, n, D, Pl, hcs, hb, hl, hm, hmm, _, hi⟩
  · subst hcs
    exact ⟨Hd.zero, ⟨Nat.le_refl _, Nat.zero_le _, fun j hj => absurd hj (Nat.not_lt_zero _), fun u hu => by cases hu⟩, rfl⟩
  · subst hcs
    have hlm : len ≤ m := by rw [hmm]; simpa using hl
    have hz := Cel.pos (α := α)
    have hex : ∀ i, i < len → ∃ u : α, ok u ∧ w.cells? base (a.add (i * Cel.sz α)) (Cel.sz α) = some (Cel.cs u).toList := by
      intro i hil
      obtain ⟨cs', hc, ht⟩ := hi i (by omega)
      rw [hsz] at hc
      obtain ⟨u, hu, rfl⟩ := hof ht
      exact ⟨u, hu, hc⟩
    obtain ⟨V, hV⟩ := choose_lt (α := α) (p := fun i u => ok u ∧ w.cells? base (a.add (i * Cel.sz α)) (Cel.sz α) = some (Cel.cs u).toList) hex
    have hll : ((List.range len).map V).length = len := by simp
    have hfirst : ∀ i, i < len → ∃ x, (Cel.cs (V i)).toList[0]? = some x := fun i _ => ⟨_, List.getElem?_eq_getElem (by simp [Cel.size]; omega)⟩
    refine ⟨⟨some a, (List.range len).map V, cap⟩, ⟨by show ((List.range len).map V).length ≤ cap; rw [hll]; exact hl, hm, fun j hj => ?_, fun u hu => ?_⟩, by show _ = [Value.slice (some a) ((List.range len).map V).length cap]; rw [hll]⟩
    · have hj2 : j < len := by
        have h0 : j < ((List.range len).map V).length := hj
        rwa [hll] at h0
      obtain ⟨_, hc⟩ := hV j hj2
      obtain ⟨_, _, hat⟩ := World.cells?_some hc
      obtain ⟨b, off, spot⟩ := a
      have hspot : spot = none := by
        obtain ⟨_, hcz⟩ := hV 0 (by omega)
        obtain ⟨_, _, hatz⟩ := World.cells?_some hcz
        obtain ⟨x, hx⟩ := hfirst 0 (by omega)
        have hc0 : w.cell? ((Addr.mk b off spot).add (0 * Cel.sz α) |>.add 0) = some x := (hatz 0 (by omega)).trans hx
        have := World.cell?_spot hc0
        simpa [Addr.add] using this
      subst hspot
      refine ⟨b, off, rfl, ?_, fun t u hu => ?_⟩
      · obtain ⟨x, hx⟩ := hfirst j hj2
        have hc0 : w.cell? ((Addr.mk b off none).add (j * Cel.sz α) |>.add 0) = some x := (hat 0 (by omega)).trans hx
        rw [Addr.add_mid, Addr.add_mid] at hc0
        by_cases hg : b < w.heap.size
        · exact hg
        · simp [World.cell?, Array.getElem?_eq_none (Nat.le_of_not_lt hg)] at hc0
      · have hu' : (Cel.cs (V j)).toList[t]? = some u := by simpa using hu
        have ht : t < Cel.sz α := by have := (List.getElem?_eq_some_iff.1 hu').1; simpa [Cel.size] using this
        have h1 := hat t ht
        rw [Addr.add_mid, Addr.add_mid] at h1
        rw [h1]; exact hu'
    · have hu : u ∈ (List.range len).map V := hu
      simp at hu
      obtain ⟨i, hi', rfl⟩ := hu
      exact (hV i hi').1
theorem HdOk.arr_in {hs : Hd (Hd Int)} (h : HdOk (fun x : Hd Int => HdOk W64 w x) w hs) : ∀ x ∈ hs.l, Rd w x.A x.l := fun x hx => (h.els x hx).rd
set_option maxRecDepth 100000 in
/-- A table by value. -/
theorem open_T {v : Value} {r : Reach} {b0 : Nat} {d : DataW H} {p : List MemPlace} (hv : Value.okWide Try.prog w r b0 24 v) (h : DataW.Trod enc Try.prog w base (fun _ => true) held 24 v d p) : ∃ t : Tb, v = .agg t.cs ∧ TbRd w t ∧ TbLen t := by
  obtain ⟨cs, rfl, hs⟩ := okWide_struct Try.underlying24 hv
  obtain ⟨fuel, hf⟩ := h
  have c1 : Try.prog.cellsOf 45 = 1 := by kernel_rfl
  have c2 : Try.prog.cellsOf 22 = 1 := by kernel_rfl
  have c3 : Try.prog.cellsOf 24 = 2 := by kernel_rfl
  obtain ⟨xs, m, _, _, hl, hxl, hg⟩ := DataW.trod_struct Try.underlying24 hf
  rw [c3] at hl
  have g0 : DataW.trod enc Try.prog w base (fun _ => true) held m 22 (((Value.agg cs).cells.toList.drop 0).take (Try.prog.cellsOf 22)) = xs[0]? := hg 0 _ rfl
  have g1 : DataW.trod enc Try.prog w base (fun _ => true) held m 22 (((Value.agg cs).cells.toList.drop 1).take (Try.prog.cellsOf 22)) = xs[1]? := hg 1 _ rfl
  rw [c2] at g0 g1
  have hxl2 : xs.length = 2 := hxl
  obtain ⟨y0, e0⟩ : ∃ y, xs[0]? = some y := ⟨_, List.getElem?_eq_getElem (by omega)⟩
  obtain ⟨y1, e1⟩ : ∃ y, xs[1]? = some y := ⟨_, List.getElem?_eq_getElem (by omega)⟩
  have inner : ∀ {cs : List Value} {fuel : Nat} {x : DataW H × List MemPlace}, DataW.trod enc Try.prog w base (fun _ => true) held fuel 45 cs = some x → ∃ v : Hd Int, HdOk W64 w v ∧ cs = (Cel.cs v).toList := fun h => sl_of W64 Try.underlying45 cells_int int_of h
  obtain ⟨h1, k1, q1⟩ := sl_of (fun x : Hd Int => HdOk W64 w x) Try.underlying22 c1 inner (g0.trans e0)
  obtain ⟨h2, k2, q2⟩ := sl_of (fun x : Hd Int => HdOk W64 w x) Try.underlying22 c1 inner (g1.trans e1)
  refine ⟨⟨h1.A, h1.l, h1.c, h2.A, h2.l, h2.c⟩, ?_, ⟨k1.rd, k2.rd, k1.arr_in, k2.arr_in⟩, ⟨Nat.le_trans k1.len k1.cap, Nat.le_trans k2.len k2.cap, fun x hx => Nat.le_trans (k1.els x hx).len (k1.els x hx).cap, fun x hx => Nat.le_trans (k2.els x hx).len (k2.els x hx).cap⟩⟩
  congr 1
  have hl2 : cs.toList.length = 2 := hl
  have q1' : (cs.toList.drop 0).take 1 = [.slice h1.A h1.l.length h1.c] := q1
  have q2' : (cs.toList.drop 1).take 1 = [.slice h2.A h2.l.length h2.c] := q2
  apply Array.toList_inj.1
  show cs.toList = [.slice h1.A h1.l.length h1.c, .slice h2.A h2.l.length h2.c]
  match hh : cs.toList, hl2 with
  | [a, b], _ =>
    rw [hh] at q1' q2'
    simp at q1' q2'
    rw [q1', q2']
end
end Go.Proofs.Ytphnfhonmbbddaa
