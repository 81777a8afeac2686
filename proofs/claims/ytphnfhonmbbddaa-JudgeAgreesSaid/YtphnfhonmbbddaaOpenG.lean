/- Arguments that are slices, opened; names, numbers. -/
import Derived.Test.YtphnfhonmbbddaaGJ
import Derived.Test.YtphnfhonmbbddaaGE
namespace Go.Proofs.Ytphnfhonmbbddaa
open Go Go.RowKit Go.ChangeShapes Go.WideShapes Go.Deep
set_option linter.unusedVariables false
/-- What is known of a slice that came in. -/
def GS {α : Type} [Cel α] (ok : α → Prop) (w : World) (v : Value) (l : List α) : Prop := ∃ A c, v = .slice A l.length c ∧ l.length ≤ c ∧ c ≤ maxLen ∧ Rd w A l ∧ ∀ u ∈ l, ok u
section
variable {H : Type} {enc : TypeId × Value → H} {w : World} {base : Nat} {held : Bool} {fuel : Nat}
set_option maxRecDepth 100000 in
theorem open_sl {α : Type} [Cel α] [Inhabited α] {st et : TypeId} (ok : α → Prop) (hu : Try.prog.underlying st = some (.slice et)) (hsz : Try.prog.cellsOf et = Cel.sz α) (hof : ∀ {cs : List Value} {fuel : Nat} {x : DataW H × List MemPlace}, DataW.trod enc Try.prog w base (fun _ => true) held fuel et cs = some x → ∃ v : α, ok v ∧ cs = (Cel.cs v).toList)
    {v : Value} {r : Reach} {b0 : Nat} {d : DataW H} {p : List MemPlace} (hv : Value.okWide Try.prog w r b0 st v) (h : DataW.Trod enc Try.prog w base (fun _ => true) held st v d p) : ∃ l : List α, GS ok w v l := by
  obtain ⟨a0, len, cap, rfl⟩ := okWide_slice hu hv
  obtain ⟨fuel, hf⟩ := h
  rcases open_slice hu hf with ⟨hcs, _⟩ | ⟨a, len', cap', m, n, D, Pl, hcs, hb, hl, hm, hmm, _, hi⟩
  · simp [Value.cells] at hcs
    obtain ⟨rfl, rfl, rfl⟩ := hcs
    exact ⟨[], none, 0, rfl, Nat.le_refl _, Nat.zero_le _, fun j hj => by simp at hj, fun u hu => by cases hu⟩
  · simp [Value.cells] at hcs
    obtain ⟨rfl, rfl, rfl⟩ := hcs
    have hlm : len ≤ m := by rw [hmm]; simpa using hl
    have hz := Cel.pos (α := α)
    have hex : ∀ i, i < len → ∃ u : α, ok u ∧ w.cells? base (a.add (i * Cel.sz α)) (Cel.sz α) = some (Cel.cs u).toList := by
      intro i hil
      obtain ⟨cs', hc, ht⟩ := hi i (by omega)
      rw [hsz] at hc
      obtain ⟨u, hu, rfl⟩ := hof ht
      exact ⟨u, hu, hc⟩
    obtain ⟨V, hV⟩ := choose_lt (α := α) (p := fun i u => ok u ∧ w.cells? base (a.add (i * Cel.sz α)) (Cel.sz α) = some (Cel.cs u).toList) hex
    have hll : ((List.range len).map V).length = len := by simp
    have hfirst : ∀ i, i < len → ∃ x, (Cel.cs (V i)).toList[0]? = some x := fun i _ => ⟨_, List.getElem?_eq_getElem (by simp [Cel.size]; omega)⟩
    refine ⟨(List.range len).map V, some a, cap, by rw [hll], by omega, hm, fun j hj => ?_, fun u hu => ?_⟩
    · rw [hll] at hj
      obtain ⟨_, hc⟩ := hV j hj
      obtain ⟨_, _, hat⟩ := World.cells?_some hc
      obtain ⟨b, off, spot⟩ := a
      have hspot : spot = none := by
        obtain ⟨_, hcz⟩ := hV 0 (by omega)
        obtain ⟨_, _, hatz⟩ := World.cells?_some hcz
        obtain ⟨x, hx⟩ := hfirst 0 (by omega)
        have hc0 : w.cell? ((Addr.mk b off spot).add (0 * Cel.sz α) |>.add 0) = some x := (hatz 0 (by omega)).trans hx
        have := World.cell?_spot hc0
        simpa [Addr.add] using this
      subst hspot
      refine ⟨b, off, rfl, ?_, fun t u hu => ?_⟩
      · obtain ⟨x, hx⟩ := hfirst j hj
        have hc0 : w.cell? ((Addr.mk b off none).add (j * Cel.sz α) |>.add 0) = some x := (hat 0 (by omega)).trans hx
        rw [Addr.add_mid, Addr.add_mid] at hc0
        by_cases hg : b < w.heap.size
        · exact hg
        · simp [World.cell?, Array.getElem?_eq_none (Nat.le_of_not_lt hg)] at hc0
      · have hu' : (Cel.cs (V j)).toList[t]? = some u := by simpa using hu
        have ht : t < Cel.sz α := by have := (List.getElem?_eq_some_iff.1 hu').1; simpa [Cel.size] using this
        have h1 := hat t ht
        rw [Addr.add_mid, Addr.add_mid] at h1
        rw [h1]; exact hu'
    · simp at hu
      obtain ⟨i, hi', rfl⟩ := hu
      exact (hV i hi').1
end
end Go.Proofs.Ytphnfhonmbbddaa
