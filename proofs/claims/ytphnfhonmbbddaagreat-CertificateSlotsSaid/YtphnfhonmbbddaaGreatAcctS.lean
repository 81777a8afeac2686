/- Conflicts; what is known of accepted votes. -/
import Derived.Test.YtphnfhonmbbddaaGreatL12d
namespace Go.Proofs.YtphnfhonmbbddaaGreat
open Go Go.RowKit
set_option linter.unusedVariables false

def keyB (u : Vt) (z : Vt) : Bool := ((((u.kind == z.kind) && (u.par == z.par)) && (u.slot == z.slot)) && (u.round == z.round)) && (u.signer == z.signer)
def confB (u : Vt) (z : Vt) : Bool := (((u != z) && (keyB u z)) && (validB u)) && (validB z)
theorem any_snoc {α : Type} {l : List α} {p : α → Bool} {j : Nat} (hj : j < l.length) : ((l.take j).any p || p l[j]) = (l.take (j + 1)).any p := by
  rw [List.take_succ_eq_append_getElem hj, List.any_append]; simp
theorem conf_intro {u z : Vt} (h1 : u ≠ z) (h2 : validB u = true) (h3 : validB z = true) (h4 : u.kind = z.kind) (h5 : u.par = z.par) (h6 : u.slot = z.slot) (h7 : u.round = z.round) (h8 : u.signer = z.signer) : confB u z = true := by
  unfold confB keyB
  have e1 : (u != z) = true := by simpa [bne] using h1
  rw [e1, h2, h3, h4, h5, h6, h7, h8]
  simp
theorem conf_out {u z : Vt} (h : confB u z = true) : u ≠ z ∧ validB u = true ∧ validB z = true ∧ u.kind = z.kind ∧ u.par = z.par ∧ u.slot = z.slot ∧ u.round = z.round ∧ u.signer = z.signer := by
  unfold confB keyB at h
  simp only [Bool.and_eq_true, beq_iff_eq, bne_iff_ne] at h
  obtain ⟨⟨⟨h1, ⟨⟨⟨h2, h3⟩, h4⟩, h5⟩, h6⟩, h7⟩, h8⟩ := h
  exact ⟨h1, h7, h8, h2, h3, h4, h5, h6⟩
theorem own_slot {s : Int} {l : List Vt} {v : Vt} (h : v ∈ ownF s l) : v.slot = s := by
  unfold ownF ownP at h
  rw [List.mem_filter] at h
  simp only [Bool.and_eq_true, beq_iff_eq] at h
  exact h.2.1
theorem own_sub {s : Int} {l : List Vt} {v : Vt} (h : v ∈ ownF s l) : v ∈ l := (List.mem_filter.1 h).1
theorem ocOf_some {s : Int} {v : Vt} {o : Oc} (h : ocOf s v = some o) : v.kind = 4 ∧ v.choice ≠ 2 ∧ o = ⟨s, v.round, v.choice, v.val⟩ := by
  unfold ocOf at h
  split at h
  · rename_i hc
    simp only [Bool.and_eq_true, beq_iff_eq, bne_iff_ne] at hc
    exact ⟨hc.1, hc.2, (Option.some.inj h).symm⟩
  · cases h
/-- What is known of a set of accepted votes of one slot. -/
structure AccS (m : Int) (p : Nm) (s : Int) (a : List Vt) : Prop where
  par : ∀ v ∈ a, v.par = p
  slot : ∀ v ∈ a, v.slot = s
  ok : ∀ v ∈ a, validB v = true ∧ v.kind ≤ 4 ∧ hasB m v.signer = true ∧ hasB m v.slot = true
  allow : ∀ v ∈ a, allowB m v a = true
theorem accS (m : Int) (p : Nm) (s : Int) (l : List Vt) : AccS m p s (accV m p (ownF s l)) :=
  ⟨fun v hv => (accV_mem hv).2, fun v hv => own_slot (accV_mem hv).1, fun v hv => accV_has hv, fun v hv => accV_allow hv⟩
theorem AccS.sg {m : Int} {p : Nm} {s : Int} {a : List Vt} (h : AccS m p s a) : ∀ v ∈ a, 0 ≤ v.signer ∧ v.signer < 10 := fun v hv => hasB_lt (h.ok v hv).2.2.1
theorem size_pos {m : Int} {i : Int} (h : hasB m i = true) : 1 ≤ size m := by
  rw [hasB_iff] at h
  obtain ⟨k, _, hk⟩ := h
  exact List.length_pos_of_mem hk
theorem quorum_pos {n : Nat} (h : 1 ≤ n) : 1 ≤ quorum (n : Int) := by unfold quorum; split <;> omega
theorem size_some {m : Int} (h : 1 ≤ size m) : ∃ i : Int, hasB m i = true := by
  unfold size at h
  obtain ⟨k, hk⟩ := List.exists_mem_of_length_pos (show 0 < (ids m).length by omega)
  exact ⟨k, (hasB_iff _ _).2 ⟨k, rfl, hk⟩⟩
theorem sup_sub {v m : Int} (h : bits .andNot .i64 v m = 0) {i : Nat} (hi : mb v i = true) : mb m i = true := by
  have := congrArg (fun z => mb z i) h
  simp only [mb_andNot, mb_zero, hi, Bool.true_and, Bool.not_eq_false'] at this
  exact this
end Go.Proofs.YtphnfhonmbbddaaGreat
