/- Lowest and Select of the reference. -/
import Derived.Deep.QuietTactic
import Derived.BigQuiet
import Derived.Test.YthhgdkodhokefaaLaw6a
namespace Go.Proofs.Ythhgdkodhokefaa
open Go Go.RowKit
set_option linter.unusedVariables false

theorem own_cell {w : World} {base : Nat} {e : TypeId} {A : Option Addr} {c : Nat} {l : List Nat} (h : w.ownsRow base e 1 (.slice A l.length c) l.length (l.map fun i : Nat => Value.int .i64 (i : Int))) (j : Nat) (hj : j < l.length) :
    ∃ g, A = some ⟨g, 0, none⟩ ∧ w.cell? ⟨g, j, none⟩ = some (.int .i64 (l[j] : Int)) := by
  rcases h.2 with ⟨h1, h2⟩ | ⟨g, cap, cur, hv, hb, hg, hnc, hm, hs, ht⟩
  · omega
  · injection hv with hA hn hc
    refine ⟨g, hA, ?_⟩
    have hcur : cur.toList[j]? = some (.int .i64 (l[j] : Int)) := by
      have : (cur.toList.take (l.length * 1))[j]? = some (.int .i64 (l[j] : Int)) := by rw [ht]; simp [hj]
      rw [List.getElem?_take] at this
      split at this
      · exact this
      · cases this
    simp [World.cell?, hg]
    simpa using hcur
theorem take_next (l : List Nat) (j : Nat) (h : j < l.length) : ofIds (l.take (j + 1)) = bits .or .i64 (ofIds (l.take j)) (2 ^ l[j]) := by
  rw [List.take_succ_eq_append_getElem h, ofIds_snoc]
end Go.Proofs.Ythhgdkodhokefaa
