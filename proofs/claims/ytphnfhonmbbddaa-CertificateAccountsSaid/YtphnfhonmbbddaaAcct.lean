/- The plain law of accountability. -/
import Derived.Test.YtphnfhonmbbddaaAcctS
namespace Go.Proofs.Ytphnfhonmbbddaa
open Go Go.RowKit
set_option linter.unusedVariables false

/-- A Precommit of a value has a Prevote of it behind it. -/
theorem prec_prev {m : Int} {p : Nm} {s : Int} {a : List Vt} (h : AccS m p s a) {v : Vt} (hv : v ∈ a) (hk : v.kind = 4) (hc : v.choice ≠ 2) : ∃ u ∈ a, u.kind = 3 ∧ u.round = v.round ∧ u.choice = v.choice ∧ u.val = v.val := by
  obtain ⟨_, hp⟩ := allow_prec (h.allow v hv) hk
  unfold precB at hp
  rw [if_pos (by simpa using hc)] at hp
  obtain ⟨g1, g2, g3⟩ := sup_iff.1 hp
  have hq := quorum_pos (size_pos (h.ok v hv).2.2.1)
  obtain ⟨i, hi⟩ := size_some (m := v.support) (by omega)
  obtain ⟨u, hu, _, k2⟩ := g3 i hi
  simp only [prB, Bool.and_eq_true, beq_iff_eq] at k2
  have := (sameB_iff _ _).1 k2.2
  exact ⟨u, (List.mem_filter.1 hu).1, k2.1.1, k2.1.2, this.1.symm, this.2.symm⟩
/-- A Prevote of a later round has one of the round before it. -/
theorem prev_prev {m : Int} {p : Nm} {s : Int} {a : List Vt} (h : AccS m p s a) {v : Vt} (hv : v ∈ a) (hk : v.kind = 3) (hr : 2 ≤ v.round) : ∃ u ∈ a, u.kind = 3 ∧ u.round = v.round - 1 ∧ u.choice = v.choice ∧ u.val = v.val := by
  obtain ⟨hval, hp⟩ := allow_prev (h.allow v hv) hk
  have hr1 : (v.round == 1) = false := by simp; omega
  unfold prevB at hp
  rw [hr1] at hp
  simp only [Bool.false_eq_true, if_false, Bool.or_eq_true, Bool.and_eq_true, List.any_eq_true] at hp
  have hc : v.choice ≠ 2 := by
    intro hc
    unfold validB restB btw at hval
    simp [hk, hc] at hval
  rcases hp with ⟨_, u, hu, hh⟩ | ⟨_, u, hu, hh⟩
  · have h2 := hh.2
    simp only [pvB, Bool.and_eq_true, beq_iff_eq] at h2
    have h3 := (sameB_iff _ _).1 h2.2
    have hu' := (List.mem_filter.1 hu).1
    obtain ⟨z, hz, z1, z2, z3, z4⟩ := prec_prev h hu' h2.1.1 (by rw [← h3.1]; exact hc)
    exact ⟨z, hz, z1, z2.trans h2.1.2, z3.trans h3.1.symm, z4.trans h3.2.symm⟩
  · simp only [pbB, Bool.and_eq_true, beq_iff_eq] at hh
    have h3 := (sameB_iff _ _).1 hh.2
    exact ⟨u, (List.mem_filter.1 hu).1, hh.1.1, hh.1.2, h3.1.symm, h3.2.symm⟩
theorem prev_down {m : Int} {p : Nm} {s : Int} {a : List Vt} (h : AccS m p s a) {v : Vt} (hv : v ∈ a) (hk : v.kind = 3) : ∀ (n : Nat), 1 ≤ v.round - n → ∃ u ∈ a, u.kind = 3 ∧ u.round = v.round - n ∧ u.choice = v.choice ∧ u.val = v.val
  | 0, _ => ⟨v, hv, hk, by simp, rfl, rfl⟩
  | n + 1, hn => by
    obtain ⟨u, hu, u1, u2, u3, u4⟩ := prev_down h hv hk n (by omega)
    obtain ⟨z, hz, z1, z2, z3, z4⟩ := prev_prev h hu u1 (by omega)
    exact ⟨z, hz, z1, by omega, z3.trans u3, z4.trans u4⟩
/-- Members of a set of which each has votes in conflict in the two lists. -/
def Torn (m : Int) (p : Nm) (a b : List Vt) (X : Int) : Prop := ∀ i, i < 10 → mb X i = true → mb m i = true ∧ ∃ u ∈ a, ∃ z ∈ b, u.signer = (i : Int) ∧ z.signer = (i : Int) ∧ u.par = p ∧ confB u z = true
theorem mask_has {m : Int} {p : Nm} {s : Int} {a : List Vt} (h : AccS m p s a) {o : Oc} {i : Nat} (hi : i < 10) (hm : mb (sgMask (ocOf s) a o) i = true) : mb m i = true ∧ ∃ u ∈ a, u.signer = (i : Int) ∧ u.kind = 4 ∧ u.choice ≠ 2 ∧ u.round = o.round ∧ u.choice = o.choice ∧ u.val = o.val := by
  rw [mb_sgMask _ _ _ h.sg i hi, List.any_eq_true] at hm
  obtain ⟨u, hu, h2⟩ := hm
  simp only [Bool.and_eq_true, decide_eq_true_eq, beq_iff_eq] at h2
  obtain ⟨g1, g2, g3⟩ := ocOf_some h2.1
  have hs := (h.ok u hu).2.2.1
  rw [h2.2, hasB_nat _ _ hi] at hs
  exact ⟨hs, u, hu, h2.2, g1, g2, by rw [g3], by rw [g3], by rw [g3]⟩
theorem meet_sets {m x y : Int} {q : Int} (hx : q ≤ (size x : Int)) (hy : q ≤ (size y : Int)) (h1 : ∀ i, i < 10 → mb x i = true → mb m i = true) (h2 : ∀ i, i < 10 → mb y i = true → mb m i = true) : 2 * q - (size m : Int) ≤ (size (bits .and .i64 x y) : Int) := by
  have := meet3 (c := m) (a := x) (b := y) (x := bits .and .i64 x y) h1 h2 (fun i _ ha hb => by rw [mb_and, ha, hb]; rfl)
  omega
/-- What a Prevote of another value in the round behind a decision convicts. -/
theorem lock_sets {m : Int} {p : Nm} {s : Int} {a b : List Vt} (ha : AccS m p s a) (hb : AccS m p s b) {x : Oc} {y : Vt} (hx : quorum (size m) ≤ (size (sgMask (ocOf s) a x) : Int)) (hy : y ∈ b) (hk : y.kind = 3) (hr : y.round = x.round + 1) (h1 : 1 ≤ x.round) (hne : ¬ (x.choice = y.choice ∧ x.val = y.val)) :
    ∃ X, 2 * quorum (size m) - (size m : Int) ≤ (size X : Int) ∧ (∀ i, i < 10 → mb X i = true → mb m i = true ∧ ∃ u ∈ a, ∃ z ∈ b, u.signer = (i : Int) ∧ z.signer = (i : Int) ∧ u.par = p ∧ confB u z = true ∧ confB z u = true) := by
  obtain ⟨hval, hp⟩ := allow_prev (hb.allow y hy) hk
  have hr1 : (y.round == 1) = false := by simp; omega
  unfold prevB at hp
  rw [hr1] at hp
  simp only [Bool.false_eq_true, if_false, Bool.or_eq_true, Bool.and_eq_true] at hp
  have hsup : bits .andNot .i64 y.support m = 0 ∧ (size y.support : Int) = quorum (size m) ∧ ∀ i, hasB y.support i = true → ∃ u ∈ b, u.signer = i ∧ u.kind = 4 ∧ u.round = y.round - 1 ∧ (sameB y u = true ∨ u.choice = 2) := by
    rcases hp with ⟨h1, _⟩ | ⟨h1, _⟩
    · obtain ⟨g1, g2, g3⟩ := sup_iff.1 h1
      refine ⟨g1, g2, fun i hi => ?_⟩
      obtain ⟨u, hu, k1, k2⟩ := g3 i hi
      simp only [Bool.or_eq_true, pvB, pmB, Bool.and_eq_true, beq_iff_eq] at k2
      rcases k2 with k2 | k2
      · exact ⟨u, (List.mem_filter.1 hu).1, k1, k2.1.1, k2.1.2, .inl k2.2⟩
      · exact ⟨u, (List.mem_filter.1 hu).1, k1, k2.1.1, k2.1.2, .inr k2.2⟩
    · obtain ⟨g1, g2, g3⟩ := sup_iff.1 h1
      refine ⟨g1, g2, fun i hi => ?_⟩
      obtain ⟨u, hu, k1, k2⟩ := g3 i hi
      simp only [pmB, Bool.and_eq_true, beq_iff_eq] at k2
      exact ⟨u, (List.mem_filter.1 hu).1, k1, k2.1.1, k2.1.2, .inr k2.2⟩
  obtain ⟨s1, s2, s3⟩ := hsup
  refine ⟨bits .and .i64 (sgMask (ocOf s) a x) y.support, meet_sets hx (by omega) (fun i hi h => (mask_has ha hi h).1) (fun i hi h => sup_sub s1 h), fun i hi hm => ?_⟩
  rw [mb_and, Bool.and_eq_true] at hm
  obtain ⟨g0, u, hu, u1, u2, u3, u4, u5, u6⟩ := mask_has ha hi hm.1
  obtain ⟨z, hz, z1, z2, z3, z4⟩ := s3 (i : Int) (by rw [hasB_nat _ _ hi]; exact hm.2)
  have hne2 : u ≠ z := by
    rintro rfl
    rcases z4 with z4 | z4
    · have := (sameB_iff _ _).1 z4
      exact hne ⟨u5.symm.trans this.1.symm, u6.symm.trans this.2.symm⟩
    · exact u3 z4
  refine ⟨g0, u, hu, z, hz, u1, z1, ha.par u hu, ?_, ?_⟩
  · exact conf_intro hne2 (ha.ok u hu).1 (hb.ok z hz).1 (by omega) ((ha.par u hu).trans (hb.par z hz).symm) ((ha.slot u hu).trans (hb.slot z hz).symm) (by omega) (by omega)
  · exact conf_intro (Ne.symm hne2) (hb.ok z hz).1 (ha.ok u hu).1 (by omega) ((hb.par z hz).trans (ha.par u hu).symm) ((hb.slot z hz).trans (ha.slot u hu).symm) (by omega) (by omega)
theorem oc_round {m : Int} {p : Nm} {s : Int} {a : List Vt} (ha : AccS m p s a) {x : Oc} (h : ∃ v ∈ a, ocOf s v = some x) : 1 ≤ x.round ∧ x.round ≤ 12 ∧ ∃ v ∈ a, v.kind = 4 ∧ v.choice ≠ 2 ∧ v.round = x.round ∧ v.choice = x.choice ∧ v.val = x.val := by
  obtain ⟨v, hv, e⟩ := h
  obtain ⟨g1, g2, g3⟩ := ocOf_some e
  have hval := (ha.ok v hv).1
  have : 1 ≤ v.round ∧ v.round ≤ 12 := by
    unfold validB restB btw at hval
    simp [g1] at hval
    omega
  exact ⟨by rw [g3]; exact this.1, by rw [g3]; exact this.2, v, hv, g1, g2, by rw [g3], by rw [g3], by rw [g3]⟩
/-- The accountability theorem, in sets. -/
theorem accounts0 {m : Int} {p : Nm} {s : Int} {a b : List Vt} (ha : AccS m p s a) (hb : AccS m p s b) {x y : Oc} (ex : ∃ v ∈ a, ocOf s v = some x) (ey : ∃ v ∈ b, ocOf s v = some y) (hx : quorum (size m) ≤ (size (sgMask (ocOf s) a x) : Int)) (hy : quorum (size m) ≤ (size (sgMask (ocOf s) b y) : Int)) (hne : ¬ (x.choice = y.choice ∧ x.val = y.val)) :
    ∃ X, 2 * quorum (size m) - (size m : Int) ≤ (size X : Int) ∧ Torn m p a b X := by
  obtain ⟨rx, rx2, vx, hvx, x1, x2, x3, x4, x5⟩ := oc_round ha ex
  obtain ⟨ry, ry2, vy, hvy, y1, y2, y3, y4, y5⟩ := oc_round hb ey
  rcases Int.lt_trichotomy x.round y.round with hlt | heq | hgt
  · obtain ⟨z, hz, z1, z2, z3, z4⟩ := prec_prev hb hvy y1 y2
    obtain ⟨z', hz', w1, w2, w3, w4⟩ := prev_down hb hz z1 (y.round - (x.round + 1)).toNat (by omega)
    obtain ⟨X, h1, h2⟩ := lock_sets ha hb hx hz' w1 (by omega) rx (fun h => hne ⟨h.1.trans (w3.trans (z3.trans y4)), h.2.trans (w4.trans (z4.trans y5))⟩)
    exact ⟨X, h1, fun i hi hm => by
      obtain ⟨g0, u, hu, z, hz, e1, e2, e3, e4, _⟩ := h2 i hi hm
      exact ⟨g0, u, hu, z, hz, e1, e2, e3, e4⟩⟩
  · refine ⟨_, meet_sets hx hy (fun i hi h => (mask_has ha hi h).1) (fun i hi h => (mask_has hb hi h).1), fun i hi hm => ?_⟩
    rw [mb_and, Bool.and_eq_true] at hm
    obtain ⟨g0, u, hu, u1, u2, u3, u4, u5, u6⟩ := mask_has ha hi hm.1
    obtain ⟨_, z, hz, z1, z2, z3, z4, z5, z6⟩ := mask_has hb hi hm.2
    refine ⟨g0, u, hu, z, hz, u1, z1, ha.par u hu, conf_intro (fun e => ?_) (ha.ok u hu).1 (hb.ok z hz).1 (by omega) ((ha.par u hu).trans (hb.par z hz).symm) ((ha.slot u hu).trans (hb.slot z hz).symm) (by omega) (by omega)⟩
    subst e
    exact hne ⟨u5.symm.trans z5, u6.symm.trans z6⟩
  · obtain ⟨z, hz, z1, z2, z3, z4⟩ := prec_prev ha hvx x1 x2
    obtain ⟨z', hz', w1, w2, w3, w4⟩ := prev_down ha hz z1 (x.round - (y.round + 1)).toNat (by omega)
    obtain ⟨X, h1, h2⟩ := lock_sets hb ha hy hz' w1 (by omega) ry (fun h => hne ⟨(h.1.trans (w3.trans (z3.trans x4))).symm, (h.2.trans (w4.trans (z4.trans x5))).symm⟩)
    exact ⟨X, h1, fun i hi hm => by
      obtain ⟨g0, u, hu, z, hz, e1, e2, e3, _, e5⟩ := h2 i hi hm
      exact ⟨g0, z, hz, u, hu, e2, e1, ha.par z hz, e5⟩⟩
theorem accounts {m : Int} {p : Nm} {s : Int} {l l' : List Vt} {x y : Oc} (hx : x ∈ outV m p l s) (hy : y ∈ outV m p l' s) (hne : ¬ (x.choice = y.choice ∧ x.val = y.val)) :
    ∃ X, 2 * quorum (size m) - (size m : Int) ≤ (size X : Int) ∧ Torn m p (accV m p (ownF s l)) (accV m p (ownF s l')) X := by
  rw [outV_mem] at hx hy
  exact accounts0 (accS m p s l) (accS m p s l') hx.1 hy.1 hx.2 hy.2 hne
theorem Torn.mono {m : Int} {p : Nm} {a b a' b' : List Vt} {X : Int} (h : Torn m p a b X) (ha : ∀ u ∈ a, u ∈ a') (hb : ∀ u ∈ b, u ∈ b') : Torn m p a' b' X := fun i hi hm => by
  obtain ⟨g0, u, hu, z, hz, r⟩ := h i hi hm
  exact ⟨g0, u, ha u hu, z, hb z hz, r⟩
theorem acc_own {m : Int} {p : Nm} {s : Int} {l : List Vt} : ∀ u ∈ accV m p (ownF s l), u ∈ accV m p l := accV_mono fun u hu => own_sub hu
end Go.Proofs.Ytphnfhonmbbddaa
