/- ints; the walk of CommitteeSets. -/
import Derived.Deep.QuietTactic
import Derived.BigQuiet
import Derived.Deep.Draws
import Derived.Test.YthhgdkodhokefaaLaw6c
namespace Go.Proofs.Ythhgdkodhokefaa
open Go Go.RowKit
set_option linter.unusedVariables false

/-- A slice of ints that reads as a list of naturals. -/
def RdN (w : World) (A : Option Addr) (l : List Nat) : Prop :=
  ∀ j (h : j < l.length), ∃ b off, A = some ⟨b, off, none⟩ ∧ b < w.heap.size ∧ w.cell? ⟨b, off + j, none⟩ = some (.int .i64 (l[j] : Int))
theorem RdN.of_own {w : World} {base : Nat} {e : TypeId} {A : Option Addr} {c : Nat} {l : List Nat} (h : w.ownsRow base e 1 (.slice A l.length c) l.length (l.map fun i : Nat => Value.int .i64 (i : Int))) : RdN w A l := by
  intro j hj
  obtain ⟨g, hA, hc⟩ := own_cell h j hj
  refine ⟨g, 0, hA, ?_, by simpa using hc⟩
  by_cases hg : g < w.heap.size
  · exact hg
  · simp [World.cell?, Array.getElem?_eq_none (Nat.le_of_not_lt hg)] at hc
theorem RdN.below {w w' : World} {A : Option Addr} {l : List Nat} (h : RdN w A l) (hb : Below w.heap.size w w') : RdN w' A l := by
  intro j hj
  obtain ⟨b, off, hA, hlt, hc⟩ := h j hj
  exact ⟨b, off, hA, Nat.lt_of_lt_of_le hlt hb.size, (hb.cell (p := ⟨b, off + j, none⟩) hlt).trans hc⟩
theorem below_drewN {B : Nat} {a w : World} (h : Below B a w) (n : Nat) : Below B a (w.drewN n) := ⟨h.os, h.tape, h.output, h.size, h.block⟩
end Go.Proofs.Ythhgdkodhokefaa
