/- Plain facts on the proposal phase. -/
import Derived.Test.YtphnfhonmbbddaaBc
import Derived.Test.YtphnfhonmbbddaaGJ
namespace Go.Proofs.Ytphnfhonmbbddaa
open Go Go.RowKit
set_option linter.unusedVariables false

theorem mb_sgMask64 {κ : Type} [Cel κ] [DecidableEq κ] (f : Vt → Option κ) (a : List Vt) (o : κ) (hs : ∀ v ∈ a, 0 ≤ v.signer ∧ v.signer < 10) (i : Nat) (hi : i < 64) : mb (sgMask f a o) i = a.any (fun v => decide (f v = some o) && (v.signer == (i : Int))) := by
  have : (∀ v ∈ a, 0 ≤ v.signer ∧ v.signer < 10) → mb (sgMask f a o) i = a.any (fun v => decide (f v = some o) && (v.signer == (i : Int))) := by
    refine snocI (p := fun a => (∀ v ∈ a, 0 ≤ v.signer ∧ v.signer < 10) → mb (sgMask f a o) i = a.any (fun v => decide (f v = some o) && (v.signer == (i : Int)))) (fun _ => ?_) (fun a v ih => fun hs => ?_) a
    · show mb 0 i = _; rw [mb_zero]; rfl
    · have ih' := ih fun u hu => hs u (by simp [hu])
      have hv := hs v (by simp)
      rw [sgMask_snoc, List.any_append]
      by_cases hf : f v = some o
      · rw [if_pos hf]
        simp only [mb_or, ih', mb_pow _ _ hi, List.any_cons, List.any_nil, hf, decide_true, Bool.true_and, Bool.or_false]
        congr 1
        rw [Bool.eq_iff_iff]; simp; omega
      · rw [if_neg hf, ih']
        simp [hf]
  exact this hs
theorem accB (m : Int) (p : Nm) (s : Int) (l : List Vt) : AccS m p s (bsV m p l s) :=
  ⟨fun v hv => (accV_mem hv).2, fun v hv => by
    have := (List.mem_filter.1 (accV_mem hv).1).2
    simpa [slP] using this, fun v hv => accV_has hv, fun v hv => accV_allow hv⟩
theorem kOf_some {k : Int} {v : Vt} {x : Nm} : kOf k v = some x ↔ v.kind = k ∧ v.val = x := by
  unfold kOf
  by_cases h : v.kind = k
  · rw [if_pos (by simpa using h)]; simp [h]
  · rw [if_neg (by simpa using h)]; simp [h]
theorem pkV_mem {q : Int} {mp : List (Nm × Int)} {x : Nm} : x ∈ pkV q mp ↔ ∃ y, (x, y) ∈ mp ∧ x ≠ Nm.zero ∧ q ≤ (size y : Int) := by
  unfold pkV
  rw [(isort_perm hless _).mem_iff, List.mem_map]
  constructor
  · rintro ⟨⟨x', y⟩, h, rfl⟩
    rw [List.mem_filter] at h
    have h2 := h.2
    unfold pkP at h2
    simp only [Bool.and_eq_true, bne_iff_ne, decide_eq_true_eq] at h2
    exact ⟨y, h.1, h2.1, h2.2⟩
  · rintro ⟨y, h1, h2, h3⟩
    refine ⟨(x, y), List.mem_filter.2 ⟨h1, ?_⟩, rfl⟩
    unfold pkP
    simp only [Bool.and_eq_true, bne_iff_ne, decide_eq_true_eq]
    exact ⟨h2, h3⟩
theorem pkV_nodup {q : Int} {mp : List (Nm × Int)} (h : (mp.map (·.1)).Nodup) : (pkV q mp).Nodup := by
  unfold pkV
  rw [(isort_perm hless _).nodup_iff]
  exact (List.Sublist.map _ List.filter_sublist).nodup h
theorem cer_mem {m : Int} {p : Nm} {l : List Vt} {s : Int} {x : Nm} : x ∈ cerV m p l s ↔ (∃ v ∈ bsV m p l s, v.kind = 2 ∧ v.val = x) ∧ x ≠ Nm.zero ∧ quorum (size m) ≤ (size (echV m p l s x) : Int) := by
  unfold cerV echV
  rw [pkV_mem, sgMap_val]
  constructor
  · rintro ⟨y, h1, h2, h3⟩
    rw [sgMap_mem] at h1
    obtain ⟨⟨v, hv, e⟩, rfl⟩ := h1
    exact ⟨⟨v, hv, kOf_some.1 e⟩, h2, h3⟩
  · rintro ⟨⟨v, hv, e⟩, h2, h3⟩
    exact ⟨_, sgMap_mem.2 ⟨⟨v, hv, kOf_some.2 e⟩, rfl⟩, h2, h3⟩
theorem pro_mem {m : Int} {p : Nm} {l : List Vt} {s : Int} {x : Nm} : x ∈ proV m p l s ↔ (∃ v ∈ bsV m p l s, v.kind = 1 ∧ v.val = x) ∧ x ≠ Nm.zero := by
  unfold proV
  rw [pkV_mem]
  constructor
  · rintro ⟨y, h1, h2, h3⟩
    rw [sgMap_mem] at h1
    obtain ⟨⟨v, hv, e⟩, rfl⟩ := h1
    exact ⟨⟨v, hv, kOf_some.1 e⟩, h2⟩
  · rintro ⟨⟨v, hv, e⟩, h2⟩
    refine ⟨_, sgMap_mem.2 ⟨⟨v, hv, kOf_some.2 e⟩, rfl⟩, h2, ?_⟩
    have hb := (accB m p s l).sg v hv
    have : v.signer.toNat ∈ ids (sgMask (kOf 1) (bsV m p l s) x) := by
      rw [mem_ids]
      refine ⟨by omega, ?_⟩
      rw [mb_sgMask _ _ _ (accB m p s l).sg _ (by omega), List.any_eq_true]
      refine ⟨v, hv, ?_⟩
      rw [Bool.and_eq_true, decide_eq_true_eq, beq_iff_eq]
      exact ⟨kOf_some.2 e, by omega⟩
    have := List.length_pos_of_mem this
    unfold size
    omega
/-- An accepted echo has a proposal behind it. -/
theorem echo_prop {m : Int} {p : Nm} {s : Int} {a : List Vt} (h : AccS m p s a) {v : Vt} (hv : v ∈ a) (hk : v.kind = 2) : ∃ u ∈ a, u.kind = 1 ∧ u.val = v.val := by
  have ha := h.allow v hv
  unfold allowB judB propB at ha
  simp [hk] at ha
  obtain ⟨_, u, hu, _, h2⟩ := ha
  unfold poB at h2
  simp only [Bool.and_eq_true, beq_iff_eq] at h2
  have := (sameB_iff _ _).1 h2.2
  exact ⟨u, hu, h2.1, this.2.symm⟩
theorem cer_pro {m : Int} {p : Nm} {l : List Vt} {s : Int} {x : Nm} (h : x ∈ cerV m p l s) : x ∈ proV m p l s := by
  obtain ⟨⟨v, hv, hk, e⟩, h2, _⟩ := cer_mem.1 h
  obtain ⟨u, hu, u1, u2⟩ := echo_prop (accB m p s l) hv hk
  exact pro_mem.2 ⟨⟨u, hu, u1, u2.trans e⟩, h2⟩
theorem ech_sub {m : Int} {p : Nm} {l : List Vt} {s : Int} {x : Nm} {i : Nat} (hi : i < 64) (h : mb (echV m p l s x) i = true) : mb m i = true := by
  unfold echV at h
  rw [sgMap_val, mb_sgMask64 _ _ _ (accB m p s l).sg i hi, List.any_eq_true] at h
  obtain ⟨v, hv, h⟩ := h
  rw [Bool.and_eq_true, beq_iff_eq] at h
  have h2 := ((accB m p s l).ok v hv).2.2.1
  have h3 := hasB_lt h2
  rw [h.2, hasB_nat _ _ (by omega)] at h2
  exact h2
theorem ech_and {m : Int} {p : Nm} {l : List Vt} {s : Int} {x : Nm} : bits .andNot .i64 (echV m p l s x) m = 0 := by
  refine mb_ext (w64_andNot _ _) (by unfold W64; omega) fun i hi => ?_
  rw [mb_andNot, mb_zero]
  cases h : mb (echV m p l s x) i with
  | false => rfl
  | true => rw [ech_sub hi h]; rfl
theorem pk_asc {q : Int} {mp : List (Nm × Int)} (h : (mp.map (·.1)).Nodup) {i j : Nat} (hi : i < (pkV q mp).length) (hj : j < (pkV q mp).length) (hij : i < j) : hless (pkV q mp)[i] (pkV q mp)[j] = true := by
  have hup : Up hless (pkV q mp) := swo_up hless_swo _
  have h1 := (List.pairwise_iff_getElem.1 hup) i j hi hj hij
  have h2 := (List.pairwise_iff_getElem.1 (pkV_nodup (q := q) h)) i j hi hj hij
  by_cases h3 : hless (pkV q mp)[i] (pkV q mp)[j] = true
  · exact h3
  · exact absurd (hless_tot (by simpa using h3) h1) h2
end Go.Proofs.Ytphnfhonmbbddaa
