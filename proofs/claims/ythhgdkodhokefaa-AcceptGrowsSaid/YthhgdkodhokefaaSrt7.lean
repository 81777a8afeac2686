/- sort.Slice over a slice that the call owns. -/
import Derived.Test.YthhgdkodhokefaaSrt6
namespace Go.Proofs.Ythhgdkodhokefaa
open Go Go.RowKit
set_option linter.unusedVariables false

section
variable {α : Type} [Cel α] [Inhabited α]
omit [Inhabited α] in
theorem rowb_of {e : TypeId} {A : Option Addr} {c : Nat} {l : List α} {Hr : List (Nat × Obj)} (h : RowIs e (Cel.sz α) A l.length c (cells l) Hr) (h0 : 0 < l.length) :
    ∃ g tail, A = some ⟨g, 0, none⟩ ∧ Hr = [(g, .cells (rowb l.toArray tail) e (0, 0))] ∧ ∀ d : List α, d.length = l.length → RowIs e (Cel.sz α) A l.length c (cells d) [(g, .cells (rowb d.toArray tail) e (0, 0))] := by
  generalize hn : l.length = n at h
  generalize hx : cells l = xs at h
  cases h with
  | nil => omega
  | row g cap n cur xs h1 h2 h3 h4 h5 =>
    subst hn
    have hz := Cel.pos (α := α)
    refine ⟨g, cur.toList.drop (l.length * Cel.sz α), rfl, ?_, fun d hd => RowIs.row g c l.length _ (cells d) h1 h2 ?_ ?_ (by rw [cells_len, hd])⟩
    · have : rowb l.toArray (cur.toList.drop (l.length * Cel.sz α)) = cur := by
        unfold rowb
        rw [show l.toArray.toList = l from rfl, hx, ← h4, List.take_append_drop, Array.toArray_toList]
      rw [this]
    · rw [rowb_size]
      simp only [List.size_toArray, List.length_drop, Array.length_toList, h3, hd]
      have : l.length * Cel.sz α ≤ c * Cel.sz α := Nat.mul_le_mul_right _ h1
      omega
    · unfold rowb
      rw [show (cells d.toArray.toList ++ cur.toList.drop (l.length * Cel.sz α)).toArray.toList = cells d ++ cur.toList.drop (l.length * Cel.sz α) from rfl, List.take_left' (by rw [cells_len, hd])]
/-- Ascending: no later one is less than an earlier one. -/
def Asc (lt : α → α → Bool) (l : List α) : Prop := ∀ i j (hi : i < l.length) (hj : j < l.length), i < j → lt l[j] l[i] = false
theorem sliceR_c {t e : TypeId} (hT : SortTy t e (Cel.sz α)) {w00 : World} {A : Option Addr} {c : Nat} {l : List α} {Hr H0 : List (Nat × Obj)} {lt : α → α → Bool} {kf : Nat} {lb : Array Value} (hrow : RowIs e (Cel.sz α) A l.length c (cells l) Hr) (hn : l.length ≤ 1000) (hent : Enters Try.prog kf)
    (hless : ∀ (d : List α) (w : World) (i j : Nat) (hi : i < d.length) (hj : j < d.length), d.length = l.length → Rd w A d → (∀ p ∈ H0, w.heap[p.1]? = some p.2) → Ret Try.prog kf (#[.int .i64 (i : Int), .int .i64 (j : Int)] ++ lb) w (.bool (lt d[i] d[j]))) (hswo : Sort.SWO lt) (w : World) (hst : St w00 (Hr ++ H0) w) :
    Calls Try.prog 67 #[.iface t (.slice A l.length c), .func (.func kf) #[] lb] w fun rr w' => ∃ gs : List α × List (Nat × Obj), (gs.1.Perm l ∧ Asc lt gs.1 ∧ RowIs e (Cel.sz α) A l.length c (cells gs.1) gs.2) ∧ rr = .returned (.tuple #[]) ∧ St w00 (gs.2 ++ H0) w' := by
  by_cases h0 : l.length = 0
  · rw [h0]
    refine (slice0_c (α := α) hT hent w hst).mono ?_
    rintro rr w' ⟨h1, h2⟩
    refine ⟨(l, Hr), ⟨List.Perm.refl _, fun i j hi => by simp only at hi; omega, ?_⟩, h1, h2⟩
    rw [← h0]; exact hrow
  · obtain ⟨g, tail, hA, hHr, hall⟩ := rowb_of hrow (by omega)
    subst hA hHr
    refine (slice_c (α := α) (tail := tail) (lt := lt) hT (by omega) hn hent ?_ hswo l.toArray (by simp) w hst).mono ?_
    · intro H' d w x y i j hd hx hy hi hj hw
      subst hx hy
      have hr := hall d.toList (by simpa using hd)
      have hi' : i < d.toList.length := by simp; omega
      have hj' : j < d.toList.length := by simp; omega
      have hrd : Rd w (some ⟨g, 0, none⟩) d.toList := (Arr.row (w0 := w00) hr rfl (by simpa using hd.symm) (H' ++ H0)).rd hw
      have := hless d.toList w i j hi' hj' (by simpa using hd) hrd (fun p hp => (hw.has p (List.mem_cons_of_mem _ (List.mem_append_right _ hp))).2)
      rw [getElem!_pos d i (by omega), getElem!_pos d j (by omega)]
      simpa using this
    · rintro rr w' ⟨gs, ⟨h1, h2⟩, h3, h4⟩
      have hsz : gs.size = l.length := by simpa using h1.1
      refine ⟨(gs.toList, [(g, .cells (rowb gs tail) e (0, 0))]), ⟨?_, ?_, ?_⟩, h3, h4⟩
      · have h5 := h1.2.2
        rw [Array.extract_eq_self_of_le (by omega), Array.extract_eq_self_of_le (by simp)] at h5
        exact h5
      · intro i j hi hj hij
        have hi' : i < gs.size := by simpa using hi
        have hj' : j < gs.size := by simpa using hj
        have := h2 i j (by omega) hij (by omega)
        rw [getElem!_pos gs i hi', getElem!_pos gs j hj'] at this
        simpa using this
      · exact hall gs.toList (by simpa using hsz)
end
end Go.Proofs.Ythhgdkodhokefaa
