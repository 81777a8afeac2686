/- The reference's Allowed is the program's. -/
import Derived.Test.YtphnfhonmbbddaaGreatR11b
import Derived.Test.YtphnfhonmbbddaaGreatGE
namespace Go.Proofs.YtphnfhonmbbddaaGreat
open Go Go.RowKit
set_option linter.unusedVariables false

theorem cnt_eq {m : Int} {v u : Vt} (hs : hasB m v.slot = true) (hk : u.kind ≤ 4) : rcntD m v u = cntB m v u := by
  unfold rcntD cntB
  by_cases h : u.slot = v.slot
  · rw [h, hs]
    simp only [hk, decide_true, beq_self_eq_true, Bool.and_true]
    cases (u.par == v.par) <;> cases hasB m u.signer <;> cases validB u <;> rfl
  · have : (u.slot == v.slot) = false := by simpa using h
    rw [this]; simp
theorem said_iff {m : Int} {v : Vt} {a : List Vt} {s k r : Int} {mx : Bool} (hs : hasB m v.slot = true) (hk : k ≤ 4) :
    saidB m v a s k r mx = true ↔ ∃ u ∈ a.filter (cntB m v), u.signer = s ∧ u.kind = k ∧ u.round = r ∧ ((mx = true ∧ u.choice = 2) ∨ (mx = false ∧ sameB v u = true)) := by
  unfold saidB
  rw [List.any_eq_true]
  constructor
  · rintro ⟨u, hu, hp⟩
    unfold saidP at hp
    simp only [Bool.and_eq_true, Bool.or_eq_true, beq_iff_eq, Bool.not_eq_true'] at hp
    obtain ⟨⟨⟨⟨h1, h2⟩, h3⟩, h4⟩, h5⟩ := hp
    refine ⟨u, List.mem_filter.2 ⟨hu, ?_⟩, h1, h2, h3, h4⟩
    rw [← cnt_eq hs (by omega)]; exact h5
  · rintro ⟨u, hu, h1, h2, h3, h4⟩
    rw [List.mem_filter] at hu
    refine ⟨u, hu.1, ?_⟩
    unfold saidP
    simp only [Bool.and_eq_true, Bool.or_eq_true, beq_iff_eq, Bool.not_eq_true']
    exact ⟨⟨⟨⟨h1, h2⟩, h3⟩, h4⟩, by rw [cnt_eq hs (by omega)]; exact hu.2⟩
theorem exact_iff {m s : Int} (h0 : bits .andNot .i64 s 1023 = 0) : exactB m s = true ↔ bits .andNot .i64 s m = 0 ∧ (size s : Int) = quorum (size m) := by
  unfold exactB
  rw [Bool.and_eq_true, beq_iff_eq, idsI_length]
  have hkey : ((idsI s).all (fun i => hasB m i) = true) ↔ bits .andNot .i64 s m = 0 := by
    rw [List.all_eq_true]
    have hb : ∀ i, i < 64 → mb s i = true → i < 10 := by
      intro i hi hm
      have := congrArg (fun x => mb x i) h0
      simp only [mb_andNot, mb_zero, hm, Bool.true_and, Bool.not_eq_false'] at this
      rw [show (1023 : Int) = 2 ^ 10 - 1 from rfl, mb_pow_sub 10 i hi] at this
      simpa using this
    constructor
    · intro h
      refine mb_ext (w64_andNot _ _) (by unfold W64; omega) fun i hi => ?_
      rw [mb_andNot, mb_zero]
      cases hs : mb s i with
      | false => rfl
      | true =>
        have h10 := hb i hi hs
        have := h (i : Int) (mem_idsI.2 (by rw [hasB_nat _ _ h10]; exact hs))
        rw [hasB_nat _ _ h10] at this
        rw [this]; rfl
    · intro h x hx
      rw [mem_idsI, hasB_iff] at hx
      obtain ⟨k, rfl, hk⟩ := hx
      rw [mem_ids] at hk
      rw [hasB_nat _ _ hk.1]
      have := congrArg (fun x => mb x k) h
      simp only [mb_andNot, mb_zero, hk.2, Bool.true_and, Bool.not_eq_false'] at this
      exact this
  rw [hkey]
theorem all_iff {m : Int} {v : Vt} {a : List Vt} {k r : Int} {p : Vt → Bool} (hs : hasB m v.slot = true) (hv : validB v = true) (hk : k ≤ 4) (hp : ∀ u ∈ a.filter (cntB m v), (p u = true ↔ u.kind = k ∧ u.round = r ∧ sameB v u = true)) :
    allR m v a k r = true ↔ supB m (quorum (size m)) (a.filter (cntB m v)) v p = true := by
  unfold allR
  rw [Bool.and_eq_true, exact_iff (valid_sup hv), sup_iff, List.all_eq_true]
  constructor
  · rintro ⟨h1, h2, h3⟩
    refine ⟨h2, h3, fun i hi => ?_⟩
    obtain ⟨u, hu, g1, g2, g3, g4⟩ := (said_iff hs hk).1 (h1 i (mem_idsI.2 hi))
    exact ⟨u, hu, g1, (hp u hu).2 ⟨g2, g3, by simpa using g4⟩⟩
  · rintro ⟨h2, h3, h1⟩
    refine ⟨fun i hi => ?_, h2, h3⟩
    obtain ⟨u, hu, g1, g2⟩ := h1 i (mem_idsI.1 hi)
    obtain ⟨g3, g4, g5⟩ := (hp u hu).1 g2
    exact (said_iff hs hk).2 ⟨u, hu, g1, g3, g4, .inr ⟨rfl, g5⟩⟩
theorem exists10 {m : Int} {v : Vt} {a : List Vt} {k r : Int} {p : Vt → Bool} (hs : hasB m v.slot = true) (hk : k ≤ 4) (hp : ∀ u ∈ a.filter (cntB m v), (p u = true ↔ u.kind = k ∧ u.round = r ∧ sameB v u = true)) :
    upto10.any (fun i => saidB m v a i k r false) = true ↔ (a.filter (cntB m v)).any p = true := by
  rw [List.any_eq_true, List.any_eq_true]
  constructor
  · rintro ⟨i, _, h⟩
    obtain ⟨u, hu, g1, g2, g3, g4⟩ := (said_iff hs hk).1 h
    exact ⟨u, hu, (hp u hu).2 ⟨g2, g3, by simpa using g4⟩⟩
  · rintro ⟨u, hu, h⟩
    obtain ⟨g3, g4, g5⟩ := (hp u hu).1 h
    have hval := cnt_valid (List.mem_filter.1 hu).2
    exact ⟨u.signer, mem_upto10.2 (valid_signer hval), (said_iff hs hk).2 ⟨u, hu, rfl, g3, g4, .inr ⟨rfl, g5⟩⟩⟩
theorem adopt_iff {m : Int} {v : Vt} {a : List Vt} (hs : hasB m v.slot = true) (hv : validB v = true) :
    adoptR m v a = true ↔ (supB m (quorum (size m)) (a.filter (cntB m v)) v (fun u => pvB v u || pmB v u) && (a.filter (cntB m v)).any (fun u => hasB v.support u.signer && pvB v u)) = true := by
  unfold adoptR adE adO
  rw [Bool.and_eq_true, Bool.and_eq_true, exact_iff (valid_sup hv), Bool.and_eq_true, sup_iff, List.all_eq_true, List.any_eq_true, List.any_eq_true]
  have hpv : ∀ u, pvB v u = true ↔ u.kind = 4 ∧ u.round = v.round - 1 ∧ sameB v u = true := by
    intro u; unfold pvB; simp only [Bool.and_eq_true, beq_iff_eq, and_assoc]
  have hpm : ∀ u, pmB v u = true ↔ u.kind = 4 ∧ u.round = v.round - 1 ∧ u.choice = 2 := by
    intro u; unfold pmB; simp only [Bool.and_eq_true, beq_iff_eq, and_assoc]
  constructor
  · rintro ⟨h1, ⟨i, hi, h2⟩, h3, h4⟩
    refine ⟨⟨h3, h4, fun i hi => ?_⟩, ?_⟩
    · have := h1 i (mem_idsI.2 hi)
      rw [Bool.or_eq_true] at this
      rcases this with h | h
      · obtain ⟨u, hu, g1, g2, g3, g4⟩ := (said_iff hs (by omega)).1 h
        exact ⟨u, hu, g1, by rw [Bool.or_eq_true]; exact .inl ((hpv u).2 ⟨g2, g3, by simpa using g4⟩)⟩
      · obtain ⟨u, hu, g1, g2, g3, g4⟩ := (said_iff hs (by omega)).1 h
        exact ⟨u, hu, g1, by rw [Bool.or_eq_true]; exact .inr ((hpm u).2 ⟨g2, g3, by simpa using g4⟩)⟩
    · obtain ⟨u, hu, g1, g2, g3, g4⟩ := (said_iff hs (by omega)).1 h2
      exact ⟨u, hu, by rw [Bool.and_eq_true]; exact ⟨by rw [g1]; exact mem_idsI.1 hi, (hpv u).2 ⟨g2, g3, by simpa using g4⟩⟩⟩
  · rintro ⟨⟨h3, h4, h1⟩, u, hu, h2⟩
    refine ⟨fun i hi => ?_, ?_, h3, h4⟩
    · obtain ⟨u, hu, g1, g2⟩ := h1 i (mem_idsI.1 hi)
      rw [Bool.or_eq_true] at g2 ⊢
      rcases g2 with g2 | g2
      · obtain ⟨k1, k2, k3⟩ := (hpv u).1 g2
        exact .inl ((said_iff hs (by omega)).2 ⟨u, hu, g1, k1, k2, .inr ⟨rfl, k3⟩⟩)
      · obtain ⟨k1, k2, k3⟩ := (hpm u).1 g2
        exact .inr ((said_iff hs (by omega)).2 ⟨u, hu, g1, k1, k2, .inl ⟨rfl, k3⟩⟩)
    · rw [Bool.and_eq_true] at h2
      obtain ⟨k1, k2, k3⟩ := (hpv u).1 h2.2
      exact ⟨u.signer, mem_idsI.2 h2.1, (said_iff hs (by omega)).2 ⟨u, hu, rfl, k1, k2, .inr ⟨rfl, k3⟩⟩⟩
theorem carry_iff {m : Int} {v : Vt} {a : List Vt} (hs : hasB m v.slot = true) (hv : validB v = true) :
    carryR m v a = true ↔ (supB m (quorum (size m)) (a.filter (cntB m v)) v (pmB v) && (a.filter (cntB m v)).any (pbB v)) = true := by
  have hpm : ∀ u, pmB v u = true ↔ u.kind = 4 ∧ u.round = v.round - 1 ∧ u.choice = 2 := by
    intro u; unfold pmB; simp only [Bool.and_eq_true, beq_iff_eq, and_assoc]
  have hpb : ∀ u ∈ a.filter (cntB m v), (pbB v u = true ↔ u.kind = 3 ∧ u.round = v.round - 1 ∧ sameB v u = true) := by
    intro u _; unfold pbB; simp only [Bool.and_eq_true, beq_iff_eq, and_assoc]
  have hq : (upto10.any (carQ m v a) = true) ↔ (a.filter (cntB m v)).any (pbB v) = true := exists10 hs (by omega) hpb
  unfold carryR carP
  rw [Bool.and_eq_true, Bool.and_eq_true, exact_iff (valid_sup hv), Bool.and_eq_true, sup_iff, List.all_eq_true, hq]
  constructor
  · rintro ⟨h1, ⟨h3, h4⟩, h5⟩
    refine ⟨⟨h3, h4, fun i hi => ?_⟩, h5⟩
    obtain ⟨u, hu, g1, g2, g3, g4⟩ := (said_iff hs (by omega)).1 (h1 i (mem_idsI.2 hi))
    exact ⟨u, hu, g1, (hpm u).2 ⟨g2, g3, by simpa using g4⟩⟩
  · rintro ⟨⟨h3, h4, h1⟩, h5⟩
    refine ⟨fun i hi => ?_, ⟨h3, h4⟩, h5⟩
    obtain ⟨u, hu, g1, g2⟩ := h1 i (mem_idsI.1 hi)
    obtain ⟨k1, k2, k3⟩ := (hpm u).1 g2
    exact (said_iff hs (by omega)).2 ⟨u, hu, g1, k1, k2, .inl ⟨rfl, k3⟩⟩
/-- The fold of 'two'. -/
theorem two_inv (m : Int) (v : Vt) (l : List Vt) : (twoS m v l).2.2.1 = !(l.filter (fun u => !twoSkip m v u)).isEmpty ∧ (∀ u0 r, l.filter (fun u => !twoSkip m v u) = u0 :: r → (twoS m v l).2.1 = u0) ∧
    (twoS m v l).2.2.2 = unl (l.filter (fun u => !twoSkip m v u)) ∧ ∀ i, i < 10 → mb (twoS m v l).1 i = (l.filter (fun u => !twoSkip m v u)).any (fun u => u.signer == (i : Int)) := by
  refine snoc_ind (p := fun l => (twoS m v l).2.2.1 = !(l.filter (fun u => !twoSkip m v u)).isEmpty ∧ (∀ u0 r, l.filter (fun u => !twoSkip m v u) = u0 :: r → (twoS m v l).2.1 = u0) ∧
    (twoS m v l).2.2.2 = unl (l.filter (fun u => !twoSkip m v u)) ∧ ∀ i, i < 10 → mb (twoS m v l).1 i = (l.filter (fun u => !twoSkip m v u)).any (fun u => u.signer == (i : Int))) ?_ ?_ l
  · exact ⟨rfl, (fun u0 r h => by cases h), rfl, fun i hi => by show mb 0 i = _; rw [mb_zero]; rfl⟩
  · intro l u ⟨h1, h2, h3, h4⟩
    have hst : twoS m v (l ++ [u]) = twoStep m v (twoS m v l) u := by unfold twoS; rw [List.foldl_append]; rfl
    rw [hst, List.filter_append]
    unfold twoStep
    generalize hms : l.filter (fun u => !twoSkip m v u) = ms at *
    generalize twoS m v l = s at *
    cases hsk : twoSkip m v u with
    | true => simp only [List.filter_cons, hsk, List.filter_nil, Bool.not_true, cond_true]; simpa using ⟨h1, h2, h3, h4⟩
    | false =>
      have hsg : hasB v.support u.signer = true := by
        unfold twoSkip at hsk
        simp only [Bool.or_eq_false_iff, Bool.not_eq_false'] at hsk
        exact hsk.1.2
      have hsb := hasB_lt hsg
      have hbit : bitD u.signer = 2 ^ u.signer.toNat := by
        unfold bitD
        have e1 : (decide (u.signer < 0) || decide (10 ≤ u.signer)) = false := by simp; omega
        rw [e1]; rfl
      simp only [List.filter_cons, hsk, List.filter_nil, Bool.not_false, cond_false, if_true]
      refine ⟨by simp, fun u0 r h => ?_, ?_, fun i hi => ?_⟩
      · rw [h1]
        cases ms with
        | nil => simp at h; simp [h.1]
        | cons a t => simp at h; simp [h2 a t rfl, h.1]
      · rw [unl_snoc, h3, h1]
        cases ms with
        | nil => simp [unlike]
        | cons a t => simp [unlike, h2 a t rfl]
      · rw [mb_or, h4 i hi, hbit, mb_pow _ _ (by omega), List.any_append]
        congr 1
        simp
        rw [Bool.eq_iff_iff]; simp; omega
theorem two_iff {m : Int} {v : Vt} {a : List Vt} (hs : hasB m v.slot = true) (hv : validB v = true) :
    twoR m v a = true ↔ (supB m (quorum (size m)) (a.filter (cntB m v)) v (prB v) && unl ((a.filter (cntB m v)).filter (fun u => prB v u && hasB v.support u.signer))) = true := by
  obtain ⟨_, _, h3, h4⟩ := two_inv m v a
  have hms : a.filter (fun u => !twoSkip m v u) = (a.filter (cntB m v)).filter (fun u => prB v u && hasB v.support u.signer) := by
    rw [List.filter_filter]
    refine List.filter_congr fun u _ => ?_
    unfold twoSkip prB
    by_cases hk : u.kind = 3
    · rw [cnt_eq hs (by omega)]
      simp [hk, bne]
    · have : (u.kind == 3) = false := by simpa using hk
      simp [this, bne]
  rw [hms] at h3 h4
  unfold twoR
  rw [Bool.and_eq_true, Bool.and_eq_true, exact_iff (valid_sup hv), Bool.and_eq_true, sup_iff, h3, beq_iff_eq]
  generalize (twoS m v a).1 = hv' at *
  have hsub : ∀ i, i < 10 → mb hv' i = true → mb v.support i = true := by
    intro i hi hm
    rw [h4 i hi, List.any_eq_true] at hm
    obtain ⟨u, hu, he⟩ := hm
    have := (List.mem_filter.1 hu).2
    rw [Bool.and_eq_true] at this
    have e : u.signer = (i : Int) := by simpa using he
    rw [e, hasB_nat _ _ hi] at this
    exact this.2
  have hids : ids hv' = (ids v.support).filter (mb hv') := by
    unfold ids
    rw [List.filter_filter]
    refine List.filter_congr fun i hi => ?_
    have hi' : i < 10 := by simpa using hi
    cases hc : mb hv' i with
    | false => rfl
    | true => rw [hsub i hi' hc]; rfl
  have hsz : ((size hv' : Int) = (size v.support : Int)) ↔ ∀ i, i ∈ ids v.support → mb hv' i = true := by
    have e1 : ((size hv' : Int) = (size v.support : Int)) ↔ (ids hv').length = (ids v.support).length := by unfold size; omega
    rw [e1, hids]
    constructor
    · intro h i hi
      have := (List.filter_sublist (l := ids v.support) (p := mb hv')).eq_of_length h
      rw [← this] at hi
      exact (List.mem_filter.1 hi).2
    · intro h
      rw [List.filter_eq_self.2 h]
  rw [hsz]
  constructor
  · rintro ⟨⟨h1, h2⟩, h5, h6⟩
    refine ⟨⟨h5, h6, fun i hi => ?_⟩, h1⟩
    rw [hasB_iff] at hi
    obtain ⟨k, rfl, hk⟩ := hi
    have hk10 := ((mem_ids _ _).1 hk).1
    have := h2 k hk
    rw [h4 k hk10, List.any_eq_true] at this
    obtain ⟨u, hu, he⟩ := this
    obtain ⟨g1, g2⟩ := List.mem_filter.1 hu
    rw [Bool.and_eq_true] at g2
    exact ⟨u, g1, by simpa using he, g2.1⟩
  · rintro ⟨⟨h5, h6, h2⟩, h1⟩
    refine ⟨⟨h1, fun k hk => ?_⟩, h5, h6⟩
    have hk10 := ((mem_ids _ _).1 hk).1
    have hkB : hasB v.support (k : Int) = true := by rw [hasB_iff]; exact ⟨k, rfl, hk⟩
    obtain ⟨u, hu, g1, g2⟩ := h2 (k : Int) hkB
    rw [h4 k hk10, List.any_eq_true]
    exact ⟨u, List.mem_filter.2 ⟨hu, by rw [Bool.and_eq_true, g1]; exact ⟨g2, hkB⟩⟩, by simpa using g1⟩
/-- The reference's Allowed is the program's. -/
theorem rallow_eq (m : Int) (v : Vt) (a : List Vt) : rallowB m v a = allowB m v a := by
  have hno : notokB m v = !okB m v := by
    unfold notokB okB
    cases validB v <;> cases decide (4 < v.kind) <;> cases hasB m v.signer <;> cases hasB m v.slot <;> rfl
  unfold rallowB allowB
  rw [hno]
  cases hok : okB m v with
  | false => rfl
  | true =>
    have hok' := hok
    unfold okB at hok'
    simp only [Bool.and_eq_true] at hok'
    obtain ⟨⟨⟨hv, hk4⟩, _⟩, hs⟩ := hok'
    simp only [Bool.not_true, cond_false, Bool.true_and]
    unfold judB
    cases h1 : (v.kind == 1) with
    | true => rfl
    | false =>
      cases h2 : (v.kind == 2) with
      | true =>
        simp only [cond_true, cond_false, if_true, Bool.false_eq_true, if_false]
        refine bool_ext ?_
        unfold propB
        refine exists10 hs (by omega) fun u hu => ?_
        have hval := cnt_valid (List.mem_filter.1 hu).2
        unfold poB
        simp only [Bool.and_eq_true, beq_iff_eq]
        exact ⟨fun h => ⟨h.1, valid_kind2 hval (.inl h.1), h.2⟩, fun h => ⟨h.1, h.2.2⟩⟩
      | false =>
        cases h3 : (v.kind == 3) with
        | true =>
          simp only [cond_true, cond_false, if_true, Bool.false_eq_true, if_false, Bool.true_and]
          unfold prevB
          cases hr : (v.round == 1) with
          | true =>
            simp only [cond_true, if_true]
            congr 1
            refine bool_ext (all_iff hs hv (by omega) fun u hu => ?_)
            have hval := cnt_valid (List.mem_filter.1 hu).2
            unfold peB
            simp only [Bool.and_eq_true, beq_iff_eq]
            exact ⟨fun h => ⟨h.1, valid_kind2 hval (.inr h.1), h.2⟩, fun h => ⟨h.1, h.2.2⟩⟩
          | false =>
            simp only [cond_false, Bool.false_eq_true, if_false]
            rw [bool_ext (adopt_iff hs hv), bool_ext (carry_iff hs hv)]
        | false =>
          simp only [cond_false, Bool.false_eq_true, if_false, Bool.false_and]
          unfold precB
          cases hc : (v.choice == 2) with
          | true =>
            have : (v.choice != 2) = false := by simpa [bne] using hc
            simp only [cond_true, this, Bool.false_eq_true, if_false]
            exact bool_ext (two_iff hs hv)
          | false =>
            have : (v.choice != 2) = true := by simpa [bne] using hc
            simp only [cond_false, this, if_true]
            refine bool_ext (all_iff hs hv (by omega) fun u hu => ?_)
            unfold prB
            simp only [Bool.and_eq_true, beq_iff_eq, and_assoc]
end Go.Proofs.YtphnfhonmbbddaaGreat
