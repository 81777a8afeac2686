/- The walks of AcceptApart and AcceptGrows. -/
import Derived.Test.YtphnfhonmbbddaaOut
import Derived.Test.YtphnfhonmbbddaaGE
import Derived.Test.YtphnfhonmbbddaaGJ
namespace Go.Proofs.Ytphnfhonmbbddaa
open Go Go.RowKit
set_option linter.unusedVariables false

def apP (s : Int) (p : Nm) (v : Vt) : Bool := ((v.slot == s) && (v.par == p)) && (decide (v.kind ≤ 4))
theorem accV_congr {m : Int} {p : Nm} {l l' : List Vt} (h : ascV p l = ascV p l') : accV m p l = accV m p l' := by unfold accV; rw [h]
theorem apart (m : Int) (p : Nm) (s : Int) (l : List Vt) : outV m p (l.filter (apP s p)) s = outV m p l s := by
  unfold outV
  rw [accV_congr (l' := ownF s l)]
  unfold ascV ownF
  rw [List.filter_filter, List.filter_filter, List.filter_filter]
  congr 1
  refine List.filter_congr fun x _ => ?_
  unfold ownP apP
  cases x.par == p <;> cases x.slot == s <;> cases decide (x.kind ≤ 4) <;> rfl
theorem ascV_ext {p : Nm} {l l' : List Vt} (h : ∀ u, u ∈ l ↔ u ∈ l') : ascV p l = ascV p l' := strict_ext (ascV_strict _ _) (ascV_strict _ _) fun x => by rw [ascV_mem, ascV_mem, h x]
theorem accV_mono {m : Int} {p : Nm} {l l' : List Vt} (hs : ∀ u ∈ l, u ∈ l') : ∀ v ∈ accV m p l, v ∈ accV m p l' := by
  have hb := accV_built m p l
  have key : ∀ n, ∀ v ∈ (accV m p l).take n, v ∈ accV m p l' := by
    intro n
    induction n with
    | zero => intro v hv; simp at hv
    | succ n ih =>
      intro v hv
      by_cases hn : n < (accV m p l).length
      · rw [List.take_succ_eq_append_getElem hn, List.mem_append] at hv
        rcases hv with hv | hv
        · exact ih v hv
        · simp only [List.mem_singleton] at hv
          have ha : allowB m v ((accV m p l).take n) = true := hb _ v ((accV m p l).drop (n + 1)) (by rw [hv]; simp)
          have hv2 : v ∈ accV m p l := by rw [hv]; exact List.getElem_mem _
          have hm := accV_mem hv2
          by_cases hin : v ∈ accV m p l'
          · exact hin
          · have h1 := accV_closed (m := m) (hs v hm.1) hm.2 hin
            rw [allowB_mono ih ha] at h1; cases h1
      · rw [List.take_of_length_le (by omega)] at hv ih
        exact ih v hv
  intro v hv
  exact key (accV m p l).length v (by rw [List.take_length]; exact hv)
theorem sgMask_mono {κ : Type} [Cel κ] [DecidableEq κ] {f : Vt → Option κ} {a b : List Vt} {o : κ} (ha : ∀ v ∈ a, 0 ≤ v.signer ∧ v.signer < 10) (hb : ∀ v ∈ b, 0 ≤ v.signer ∧ v.signer < 10) (h : ∀ v ∈ a, v ∈ b) : size (sgMask f a o) ≤ size (sgMask f b o) := by
  refine size_mono fun i hi hm => ?_
  rw [mb_sgMask f _ o ha i hi, List.any_eq_true] at hm
  rw [mb_sgMask f _ o hb i hi, List.any_eq_true]
  obtain ⟨v, h1, h2⟩ := hm
  exact ⟨v, h v h1, h2⟩
theorem outV_mem {m : Int} {p : Nm} {l : List Vt} {s : Int} {o : Oc} : o ∈ outV m p l s ↔ (∃ v ∈ accV m p (ownF s l), ocOf s v = some o) ∧ quorum (size m) ≤ (size (sgMask (ocOf s) (accV m p (ownF s l)) o) : Int) := sgOut_mem
theorem outV_mono {m : Int} {p : Nm} {l l' : List Vt} {s : Int} (hs : ∀ u ∈ l, u ∈ l') {o : Oc} (h : o ∈ outV m p l s) : o ∈ outV m p l' s := by
  have hsub : ∀ v ∈ accV m p (ownF s l), v ∈ accV m p (ownF s l') := accV_mono fun u hu => by
    unfold ownF at *
    rw [List.mem_filter] at *
    exact ⟨hs u hu.1, hu.2⟩
  rw [outV_mem] at *
  obtain ⟨⟨v, h1, h2⟩, h3⟩ := h
  have := sgMask_mono (f := ocOf s) (o := o) (fun v hv => accV_sg hv) (fun v hv => accV_sg hv) hsub
  exact ⟨⟨v, hsub v h1, h2⟩, by omega⟩
theorem decB_iff {m : Int} {p : Nm} {l : List Vt} {o : Oc} : decB m p l o = true ↔ o ∈ outV m p l o.slot := by
  unfold decB
  rw [List.any_eq_true]
  exact ⟨fun ⟨x, h1, h2⟩ => by rw [beq_iff_eq] at h2; exact h2 ▸ h1, fun h => ⟨o, h, by simp⟩⟩
theorem grow1 {m : Int} {p : Nm} {l l' : List Vt} {j : Nat} {hj : j < (accV m p l).length} (hs : ∀ u ∈ l, u ∈ l') (h : (!((accV m p l').any (fun x => x == (accV m p l)[j]))) = true) : False := by
  have : (accV m p l').any (fun x => x == (accV m p l)[j]) = true := List.any_eq_true.2 ⟨_, accV_mono hs _ (List.getElem_mem hj), by simp⟩
  rw [this] at h; cases h
theorem grow2 {m : Int} {p : Nm} {l l' : List Vt} {s : Int} {j : Nat} {hj : j < (outV m p l s).length} (hs : ∀ u ∈ l, u ∈ l') (h : ((!(decB m p l' (outV m p l s)[j])) || ((outV m p l s)[j].slot != s)) = true) : False := by
  have h1 := List.getElem_mem hj
  have h2 := out_slot h1
  have h3 : decB m p l' (outV m p l s)[j] = true := by
    rw [decB_iff, h2]; exact outV_mono hs h1
  rw [h3, h2] at h; simp at h
theorem grow3 {m : Int} {p : Nm} {l l' : List Vt} (h : ∀ u, u ∈ l ↔ u ∈ l') : accV m p l = accV m p l' := accV_congr (ascV_ext h)
end Go.Proofs.Ytphnfhonmbbddaa
