/- Plain law: what an honest member votes next is allowed, and new. -/
import Derived.Test.YtnjkbgcfpbbglaaGreatL16p
import Derived.Test.YtnjkbgcfpbbglaaGreatBcP
namespace Go.Proofs.YtnjkbgcfpbbglaaGreat
open Go Go.RowKit
set_option linter.unusedVariables false

theorem low_ids (x q : Int) : ids (lowest x q) = (ids x).take q.toNat := by
  unfold lowest; exact ids_ofIds_sub (List.take_sublist _ _)
theorem low_size {x q : Int} (h0 : 0 ≤ q) (h : q ≤ (size x : Int)) : (size (lowest x q) : Int) = q := by
  unfold size at *; rw [low_ids, List.length_take]; omega
theorem low_mb {x q : Int} {i : Nat} (hi : i < 64) (h : mb (lowest x q) i = true) : i < 10 ∧ mb x i = true := by
  unfold lowest at h
  rw [mb_ofIds _ _ hi, decide_eq_true_eq] at h
  exact (mem_ids x i).1 (List.mem_of_mem_take h)
theorem w64_low (x q : Int) : W64 (lowest x q) := w64_ofIds _
theorem andNot_zero {x y : Int} (h : ∀ i, i < 64 → mb x i = true → mb y i = true) : bits .andNot .i64 x y = 0 := by
  refine mb_ext (w64_andNot _ _) (by unfold W64; omega) fun i hi => ?_
  rw [mb_andNot, mb_zero]
  cases hx : mb x i with
  | false => rfl
  | true => rw [h i hi hx]; rfl
theorem mb_1023 {i : Nat} (hi : i < 10) : mb 1023 i = true := by
  have := mb_pow_sub 10 i (by omega)
  rw [show ((2 : Int) ^ 10 - 1) = 1023 from rfl] at this
  rw [this]; simpa using hi
theorem size_or {a b : Int} (h : ∀ i, i < 10 → mb a i = true → mb b i = false) : size (bits .or .i64 a b) = size a + size b := by
  have key : ∀ l : List Nat, (∀ i ∈ l, i < 10) → (l.filter (mb (bits .or .i64 a b))).length = (l.filter (mb a)).length + (l.filter (mb b)).length := by
    intro l
    induction l with
    | nil => intro _; rfl
    | cons i l ih =>
      intro hl
      have hi := h i (hl i (by simp))
      have ih' := ih (fun k hk => hl k (by simp [hk]))
      have e := mb_or a b i
      simp only [List.filter_cons]
      cases ha : mb a i <;> cases hb : mb b i <;> simp_all <;> omega
  exact key (List.range 10) (fun i hi => by simpa using hi)
theorem size_diff {a b : Int} (h : ∀ i, i < 10 → mb b i = true → mb a i = true) : size (bits .andNot .i64 a b) + size b = size a := by
  have key : ∀ l : List Nat, (∀ i ∈ l, i < 10) → (l.filter (mb (bits .andNot .i64 a b))).length + (l.filter (mb b)).length = (l.filter (mb a)).length := by
    intro l
    induction l with
    | nil => intro _; rfl
    | cons i l ih =>
      intro hl
      have hi := h i (hl i (by simp))
      have ih' := ih (fun k hk => hl k (by simp [hk]))
      have e := mb_andNot a b i
      simp only [List.filter_cons]
      cases ha : mb a i <;> cases hb : mb b i <;> simp_all <;> omega
  exact key (List.range 10) (fun i hi => by simpa using hi)
theorem val_ch {u : Vt} (h : validB u = true) : u.choice = 1 ↔ u.val ≠ Nm.zero := by
  unfold validB at h
  simp only [Bool.and_eq_true, Bool.not_eq_true'] at h
  have h2 := h.1.1.2
  cases hc : (u.choice == 1) <;> cases hv : (u.val == Nm.zero) <;> rw [hc, hv] at h2 <;> simp_all
theorem kind_ch {u : Vt} (h : validB u = true) : (u.kind = 1 ∨ u.kind = 2 → u.choice = 1) ∧ (u.kind = 3 → (u.choice = 0 ∨ u.choice = 1) ∧ 1 ≤ u.round ∧ u.round ≤ 12) ∧ (u.kind = 4 → (u.choice = 0 ∨ u.choice = 1 ∨ u.choice = 2) ∧ 1 ≤ u.round ∧ u.round ≤ 12) := by
  unfold validB restB btw at h
  refine ⟨fun hk => ?_, fun hk => ?_, fun hk => ?_⟩
  · rcases hk with hk | hk <;> simp [hk] at h <;> omega
  · simp [hk] at h; omega
  · simp [hk] at h; omega
section
variable {m : Int} {p : Nm} {l : List Vt} {s z : Int} {held : List Nm} {wt : Bool} {a : List Vt} {v : Vt}
theorem spP_iff {v : Vt} : spP s p v = true ↔ v.slot = s ∧ v.par = p := by simp [spP]
theorem accSp (m : Int) (p : Nm) (s : Int) (l : List Vt) : AccS m p s (accV m p (l.filter (spP s p))) :=
  ⟨fun v hv => (accV_mem hv).2, fun v hv => (spP_iff.1 (List.mem_filter.1 (accV_mem hv).1).2).1, fun v hv => accV_has hv, fun v hv => accV_allow hv⟩
theorem bs_own : bsV m p (l.filter (spP s p)) s = accV m p (l.filter (spP s p)) := by
  unfold bsV
  congr 1
  rw [List.filter_eq_self]
  intro v hv
  have := (List.mem_filter.1 hv).2
  simp [slP, (spP_iff.1 this).1]
theorem own_acc : ∀ u ∈ accV m p (l.filter (spP s p)), u ∈ accV m p l := accV_mono fun u hu => (List.mem_filter.1 hu).1
theorem who_mb (hA : AccS m p s a) {k r : Int} {F : Vt → Bool} {i : Nat} (hi : i < 64) : mb (whoM a k r F) i = true ↔ ∃ u ∈ a, u.kind = k ∧ u.round = r ∧ F u = true ∧ u.signer = (i : Int) := by
  rw [mb_whoM a k r F hA.sg i hi, List.any_eq_true]
  simp only [whoP, Bool.and_eq_true, beq_iff_eq]
  constructor
  · rintro ⟨u, hu, ⟨⟨h1, h2⟩, h3⟩, h4⟩; exact ⟨u, hu, h1, h2, h3, h4⟩
  · rintro ⟨u, hu, h1, h2, h3, h4⟩; exact ⟨u, hu, ⟨⟨h1, h2⟩, h3⟩, h4⟩
theorem mem_sub (hA : AccS m p s a) {u : Vt} (hu : u ∈ a) {i : Nat} (h : u.signer = (i : Int)) : i < 10 ∧ mb m i = true := by
  have h2 := (hA.ok u hu).2.2.1
  rw [h] at h2
  have h3 := hasB_lt h2
  rw [hasB_nat _ _ (by omega)] at h2
  exact ⟨by omega, h2⟩
theorem sup_mk {q : Int} {F : Vt → Bool} (hs : ∀ i, i < 64 → mb v.support i = true → mb m i = true ∧ ∃ u ∈ a, u.signer = (i : Int) ∧ F u = true) (hz : (size v.support : Int) = q) : supB m q a v F = true := by
  rw [sup_iff]
  refine ⟨andNot_zero fun i hi h => (hs i hi h).1, hz, fun i hi => ?_⟩
  have hl := hasB_lt hi
  obtain ⟨n, rfl⟩ := Int.eq_ofNat_of_zero_le hl.1
  rw [hasB_nat _ _ (by omega)] at hi
  exact (hs n (by omega) hi).2
theorem cnt_all (hA : AccS m p s a) (h1 : v.par = p) (h2 : v.slot = s) : a.filter (cntB m v) = a := by
  rw [List.filter_eq_self]
  intro u hu
  have h := hA.ok u hu
  unfold cntB
  rw [h.1, hA.par u hu, hA.slot u hu, h.2.2.1, h1, h2]
  simpa using h.2.1
theorem valid_mk (hk : 1 ≤ v.kind ∧ v.kind ≤ 4) (hz : hasB m v.signer = true) (hv : v.choice = 1 ↔ v.val ≠ Nm.zero) (hp : ∀ i, i < 64 → mb v.support i = true → i < 10) (hr : restB v = true) : validB v = true := by
  have hl := hasB_lt hz
  have e1 : bits .andNot .i64 v.support 1023 = 0 := andNot_zero fun i hi h => mb_1023 (hp i hi h)
  have e2 : ((v.choice == 1) == (v.val == Nm.zero)) = false := by
    by_cases h : v.choice = 1
    · have := hv.1 h; simp [h, this]
    · have : v.val = Nm.zero := Classical.byContradiction fun h2 => h (hv.2 h2)
      simp [h, this]
  unfold validB btw
  rw [e1, e2, hr]
  simp
  omega
theorem prevB1 {q : Int} (h : v.round = 1) : prevB m q a v = ((v.choice == 0) || supB m q a v (peB v)) := by unfold prevB; simp [h]
theorem jud2 {q : Int} (h : v.kind = 2) : judB m q v a = propB v a := by unfold judB; simp [h]
theorem jud3 {q : Int} (h : v.kind = 3) : judB m q v a = prevB m q a v := by unfold judB; simp [h]
theorem jud4 {q : Int} (h : v.kind = 4) : judB m q v a = precB m q a v := by unfold judB; simp [h]
structure NextIs (m : Int) (p : Nm) (s z : Int) (own a : List Vt) (v : Vt) : Prop where
  kind : v.kind = 2 ∨ v.kind = 3 ∨ v.kind = 4
  slot : v.slot = s
  par : v.par = p
  sg : v.signer = z
  ok : validB v = true
  new : sgnB z own v.kind v.round = false
  jud : judB m (quorum (size m)) v a = true
  w : W64 v.support
theorem w64_0 : W64 0 := by unfold W64; omega
theorem echo_is (hz : hasB m z = true) (hs : hasB m s = true) (h : echoN (mkVtr m p l s z) held = some v) : NextIs m p s z (l.filter (spP s p)) (accV m p (l.filter (spP s p))) v := by
  unfold echoN at h
  cases hg : (mkVtr m p l s z).sg 2 0 with
  | true => rw [hg] at h; cases h
  | false =>
    rw [hg, cond_false, Option.map_eq_some_iff] at h
    obtain ⟨n, hn, rfl⟩ := h
    have hm : n ∈ proV m p (l.filter (spP s p)) s := List.mem_of_find?_eq_some hn
    obtain ⟨⟨u, hu, u1, u2⟩, h0⟩ := pro_mem.1 hm
    have hA := accSp m p s l
    rw [bs_own] at hu
    have hs' := hasB_lt hs
    have uc := (kind_ch (hA.ok u hu).1).1 (.inl u1)
    refine ⟨.inl rfl, rfl, rfl, rfl, valid_mk (m := m) ?_ hz ?_ ?_ ?_, hg, ?_, w64_0⟩
    · show 1 ≤ (2 : Int) ∧ (2 : Int) ≤ 4; omega
    · show (1 : Int) = 1 ↔ n ≠ Nm.zero; simp [h0]
    · intro i hi h; exact absurd (show mb 0 i = true from h) (by rw [mb_zero]; simp)
    · show restB (⟨2, s, 0, 1, z, 0, p, n⟩ : Vt) = true
      unfold restB btw; simp; omega
    · rw [jud2 rfl]
      exact List.any_eq_true.2 ⟨u, hu, by simp [poB, sameB, u1, u2, uc, Vtr.mk', mkV]⟩
theorem ech_mb {l : List Vt} {x : Nm} {i : Nat} (hi : i < 64) (h : mb (echV m p l s x) i = true) : ∃ u ∈ bsV m p l s, u.kind = 2 ∧ u.val = x ∧ u.signer = (i : Int) := by
  unfold echV at h
  rw [sgMap_val, mb_sgMask64 _ _ _ (accB m p s l).sg i hi, List.any_eq_true] at h
  obtain ⟨u, hu, h⟩ := h
  rw [Bool.and_eq_true, beq_iff_eq, decide_eq_true_eq, kOf_some] at h
  exact ⟨u, hu, h.1.1, h.1.2, h.2⟩
theorem quo_nn (m : Int) : 0 ≤ quorum (size m) := (quorum_bd _ (size_le m)).1
theorem first_is (hz : hasB m z = true) (hs : hasB m s = true) (h : firstN (mkVtr m p l s z) wt = some v) : NextIs m p s z (l.filter (spP s p)) (accV m p (l.filter (spP s p))) v := by
  unfold firstN at h
  cases hg : (mkVtr m p l s z).sg 3 1 with
  | true => rw [hg] at h; cases h
  | false =>
    rw [hg, cond_false] at h
    have hA := accSp m p s l
    have hs' := hasB_lt hs
    have h' : (match cerV m p (l.filter (spP s p)) s with | c :: _ => some (mkV s z p 3 1 ⟨1, c⟩ (lowest (echV m p (l.filter (spP s p)) s c) (quorum (size m)))) | [] => bif wt then some (mkV s z p 3 1 Vl.zero 0) else none) = some v := h
    cases hc : cerV m p (l.filter (spP s p)) s with
    | nil =>
      rw [hc] at h'
      cases hw : wt with
      | false => rw [hw] at h'; cases h'
      | true =>
        rw [hw] at h'
        obtain rfl := Option.some.inj h'
        refine ⟨.inr (.inl rfl), rfl, rfl, rfl, valid_mk (m := m) ?_ hz ?_ ?_ ?_, hg, ?_, w64_0⟩
        · show 1 ≤ (3 : Int) ∧ (3 : Int) ≤ 4; omega
        · show (0 : Int) = 1 ↔ Nm.zero ≠ Nm.zero; simp
        · intro i hi h; exact absurd (show mb 0 i = true from h) (by rw [mb_zero]; simp)
        · show restB (⟨3, s, 1, 0, z, 0, p, Nm.zero⟩ : Vt) = true
          unfold restB btw; simp; omega
        · rw [jud3 rfl]
          show prevB m _ _ (⟨3, s, 1, 0, z, 0, p, Nm.zero⟩ : Vt) = true
          unfold prevB; simp
    | cons c r =>
      rw [hc] at h'
      have hm : c ∈ cerV m p (l.filter (spP s p)) s := by rw [hc]; simp
      obtain ⟨_, h0, hq⟩ := cer_mem.1 hm
      obtain rfl := Option.some.inj h'
      have hb : ∀ i, i < 64 → mb (lowest (echV m p (l.filter (spP s p)) s c) (quorum (size m))) i = true → i < 10 ∧ mb m i = true ∧ ∃ u ∈ accV m p (l.filter (spP s p)), u.signer = (i : Int) ∧ u.kind = 2 ∧ u.val = c ∧ u.choice = 1 := by
        intro i hi h
        obtain ⟨u, hu, u1, u2, u3⟩ := ech_mb hi (low_mb hi h).2
        rw [bs_own] at hu
        have := mem_sub hA hu u3
        exact ⟨this.1, this.2, u, hu, u3, u1, u2, (kind_ch (hA.ok u hu).1).1 (.inr u1)⟩
      refine ⟨.inr (.inl rfl), rfl, rfl, rfl, valid_mk (m := m) ?_ hz ?_ ?_ ?_, hg, ?_, w64_low _ _⟩
      · show 1 ≤ (3 : Int) ∧ (3 : Int) ≤ 4; omega
      · show (1 : Int) = 1 ↔ c ≠ Nm.zero; simp [h0]
      · intro i hi h; exact (hb i hi h).1
      · show restB (⟨3, s, 1, 1, z, lowest (echV m p (l.filter (spP s p)) s c) (quorum (size m)), p, c⟩ : Vt) = true
        unfold restB btw; simp; omega
      · rw [jud3 rfl]
        show prevB m _ _ (⟨3, s, 1, 1, z, lowest (echV m p (l.filter (spP s p)) s c) (quorum (size m)), p, c⟩ : Vt) = true
        rw [prevB1 rfl, Bool.or_eq_true]
        refine .inr (sup_mk (fun i hi h => ?_) (low_size (quo_nn m) hq))
        obtain ⟨_, h1, u, hu, h2, h3, h4, h5⟩ := hb i hi h
        exact ⟨h1, u, hu, h2, by simp [peB, sameB, h3, h4, h5]⟩
theorem vals_out {k r : Int} {x : Vl} (hA : AccS m p s a) (h : x ∈ valsL a k r) : ∃ u ∈ a, u.kind = k ∧ u.round = r ∧ u.choice = x.ch ∧ u.val = x.nm ∧ x.ch ≠ 2 := by
  obtain ⟨u, hu, h1, rfl⟩ := valsL_mem.1 h
  unfold vlP at h1
  simp only [Bool.and_eq_true, beq_iff_eq, bne_iff_ne] at h1
  exact ⟨u, hu, h1.1.1, h1.1.2, rfl, rfl, h1.2⟩
theorem isV_iff {x : Vl} {u : Vt} : isV x u = true ↔ u.choice = x.ch ∧ u.val = x.nm := by
  unfold isV vlOf
  rw [beq_iff_eq]
  constructor
  · rintro rfl; exact ⟨rfl, rfl⟩
  · rintro ⟨h1, h2⟩; cases x; simp_all
theorem who_low (hA : AccS m p s a) {k r q : Int} {F : Vt → Bool} {i : Nat} (hi : i < 64) (h : mb (lowest (whoM a k r F) q) i = true) : i < 10 ∧ mb m i = true ∧ ∃ u ∈ a, u.signer = (i : Int) ∧ u.kind = k ∧ u.round = r ∧ F u = true := by
  obtain ⟨u, hu, h1, h2, h3, h4⟩ := (who_mb hA hi).1 (low_mb hi h).2
  have := mem_sub hA hu h4
  exact ⟨this.1, this.2, u, hu, h4, h1, h2, h3⟩
theorem prec_is (hz : hasB m z = true) (hs : hasB m s = true) {r : Int} (r1 : 1 ≤ r) (r2 : r ≤ 12) (h : precN (mkVtr m p l s z) r = some v) : NextIs m p s z (l.filter (spP s p)) (accV m p (l.filter (spP s p))) v := by
  have hA := accSp m p s l
  have hs' := hasB_lt hs
  unfold precN at h
  cases hg : ((!((mkVtr m p l s z).sg 3 r)) || (mkVtr m p l s z).sg 4 r) with
  | true => rw [hg] at h; cases h
  | false =>
    rw [hg, cond_false] at h
    have hn : sgnB z (l.filter (spP s p)) 4 r = false := (Bool.or_eq_false_iff.1 hg).2
    obtain ⟨b, hb⟩ : ∃ b, b = accV m p (l.filter (spP s p)) := ⟨_, rfl⟩
    have h' : (match (valsL b 3 r).find? (fun x => decide (quorum (size m) ≤ (size (whoM b 3 r (isV x)) : Int))) with
      | some x => some (mkV s z p 4 r x (lowest (whoM b 3 r (isV x)) (quorum (size m))))
      | none => bif decide (quorum (size m) ≤ (size (whoM b 3 r anyV) : Int)) then some (mkV s z p 4 r ⟨2, Nm.zero⟩ (lowest (whoM b 3 r anyV) (quorum (size m)))) else none) = some v := by rw [hb]; exact h
    rw [← hb] at hA ⊢
    clear h
    split at h'
    · rename_i x hf
      obtain rfl := Option.some.inj h'
      have hq := List.find?_some hf
      rw [decide_eq_true_eq] at hq
      obtain ⟨u, hu, u1, u2, u3, u4, x2⟩ := vals_out hA (List.mem_of_find?_eq_some hf)
      have uk := (kind_ch (hA.ok u hu).1).2.1 u1
      have uv := val_ch (hA.ok u hu).1
      rw [u3, u4] at uv
      refine ⟨.inr (.inr rfl), rfl, rfl, rfl, valid_mk (m := m) ?_ hz uv ?_ ?_, hn, ?_, w64_low _ _⟩
      · show 1 ≤ (4 : Int) ∧ (4 : Int) ≤ 4; omega
      · intro i hi h; exact (who_low hA hi h).1
      · show restB (⟨4, s, r, x.ch, z, lowest (whoM b 3 r (isV x)) (quorum (size m)), p, x.nm⟩ : Vt) = true
        unfold restB btw; simp; omega
      · rw [jud4 rfl]
        show precB m _ _ (⟨4, s, r, x.ch, z, lowest (whoM b 3 r (isV x)) (quorum (size m)), p, x.nm⟩ : Vt) = true
        unfold precB
        rw [if_pos (by simpa using x2)]
        refine sup_mk (fun i hi h => ?_) (low_size (quo_nn m) hq)
        obtain ⟨_, h1, y, hy, y1, y2, y3, y4⟩ := who_low hA hi h
        have y5 := isV_iff.1 y4
        exact ⟨h1, y, hy, y1, by simp [prB, sameB, y2, y3, y5.1, y5.2]⟩
    · rename_i hf
      cases hq : decide (quorum (size m) ≤ (size (whoM b 3 r anyV) : Int)) with
      | false => rw [hq] at h'; cases h'
      | true =>
        rw [hq] at h'
        rw [decide_eq_true_eq] at hq
        obtain rfl := Option.some.inj h'
        have hsz := low_size (quo_nn m) hq
        refine ⟨.inr (.inr rfl), rfl, rfl, rfl, valid_mk (m := m) ?_ hz ?_ ?_ ?_, hn, ?_, w64_low _ _⟩
        · show 1 ≤ (4 : Int) ∧ (4 : Int) ≤ 4; omega
        · show (2 : Int) = 1 ↔ Nm.zero ≠ Nm.zero; simp
        · intro i hi h; exact (who_low hA hi h).1
        · show restB (⟨4, s, r, 2, z, lowest (whoM b 3 r anyV) (quorum (size m)), p, Nm.zero⟩ : Vt) = true
          unfold restB btw; simp; omega
        · rw [jud4 rfl]
          show precB m _ _ (⟨4, s, r, 2, z, lowest (whoM b 3 r anyV) (quorum (size m)), p, Nm.zero⟩ : Vt) = true
          unfold precB
          rw [if_neg (by simp), Bool.and_eq_true]
          refine ⟨sup_mk (fun i hi h => ?_) hsz, ?_⟩
          · obtain ⟨_, h1, y, hy, y1, y2, y3, y4⟩ := who_low hA hi h
            exact ⟨h1, y, hy, y1, by simp [prB, y2, y3]⟩
          · rw [unl_iff]
            refine Classical.byContradiction fun hno => ?_
            have hall : ∀ u ∈ b, u.kind = 3 → u.round = r → hasB (lowest (whoM b 3 r anyV) (quorum (size m))) u.signer = true → ∀ y ∈ b, y.kind = 3 → y.round = r → hasB (lowest (whoM b 3 r anyV) (quorum (size m))) y.signer = true → u.choice = y.choice ∧ u.val = y.val := by
              intro u hu u1 u2 u3 y hy y1 y2 y3
              refine Classical.byContradiction fun hne => hno ?_
              refine ⟨u, List.mem_filter.2 ⟨hu, by simp [prB, u1, u2, u3]⟩, y, List.mem_filter.2 ⟨hy, by simp [prB, y1, y2, y3]⟩, ?_⟩
              cases hsb : sameB u y with
              | false => rfl
              | true => exact absurd ((sameB_iff _ _).1 hsb) hne
            have hq1 : 1 ≤ quorum (size m) := quorum_pos (size_pos hs)
            obtain ⟨i, hi⟩ := size_some (m := lowest (whoM b 3 r anyV) (quorum (size m))) (by omega)
            have hil := hasB_lt hi
            obtain ⟨n, rfl⟩ := Int.eq_ofNat_of_zero_le hil.1
            have hi2 := hi
            rw [hasB_nat _ _ (by omega)] at hi2
            obtain ⟨_, _, u, hu, u1, u2, u3, _⟩ := who_low hA (by omega) hi2
            have uk := (kind_ch (hA.ok u hu).1).2.1 u2
            have hx : vlOf u ∈ valsL b 3 r := valsL_mem.2 ⟨u, hu, by unfold vlP; simp [u2, u3]; omega, rfl⟩
            have hneg := List.find?_eq_none.1 hf _ hx
            apply hneg
            rw [decide_eq_true_eq]
            have : size (lowest (whoM b 3 r anyV) (quorum (size m))) ≤ size (whoM b 3 r (isV (vlOf u))) := by
              refine size_mono fun k hk h => ?_
              obtain ⟨_, _, y, hy, y1, y2, y3, _⟩ := who_low hA (show k < 64 by omega) h
              have hyh : hasB (lowest (whoM b 3 r anyV) (quorum (size m))) y.signer = true := by rw [y1, hasB_nat _ _ hk]; exact h
              have e := hall y hy y2 y3 hyh u hu u2 u3 (by rw [u1]; exact hi)
              exact (who_mb hA (by omega)).2 ⟨y, hy, y2, y3, isV_iff.2 e, y1⟩
            omega
theorem prev_is (hz : hasB m z = true) (hs : hasB m s = true) {r : Int} (r1 : 1 ≤ r) (r2 : r < 12) (h : prevN (mkVtr m p l s z) r = some v) : NextIs m p s z (l.filter (spP s p)) (accV m p (l.filter (spP s p))) v := by
  have hA := accSp m p s l
  have hs' := hasB_lt hs
  unfold prevN at h
  cases hg : ((!((mkVtr m p l s z).sg 4 r)) || (mkVtr m p l s z).sg 3 (r + 1)) with
  | true => rw [hg] at h; cases h
  | false =>
    rw [hg, cond_false] at h
    have hn : sgnB z (l.filter (spP s p)) 3 (r + 1) = false := (Bool.or_eq_false_iff.1 hg).2
    have hq1 : 1 ≤ quorum (size m) := quorum_pos (size_pos hs)
    have hcar : ∀ x, carN (mkVtr m p l s z) r = some x → x ∈ valsL (accV m p (l.filter (spP s p))) 3 r := by
      intro x hx
      unfold carN at hx
      have hx' : (match valsL (accV m p (l.filter (spP s p))) 3 r with | [] => none | [x] => some x | x :: y :: _ => bif (((r + 1) % 2 == 1) && (x.ch == 0)) then some y else some x) = some x := hx
      revert hx'
      cases valsL (accV m p (l.filter (spP s p))) 3 r with
      | nil => intro h; cases h
      | cons y t => cases t with
        | nil => intro h; obtain rfl := Option.some.inj h; simp
        | cons y2 t =>
          intro h
          cases hc : (((r + 1) % 2 == 1) && (y.ch == 0)) with
          | true => simp only [hc, cond_true] at h; obtain rfl := Option.some.inj h; simp
          | false => simp only [hc, cond_false] at h; obtain rfl := Option.some.inj h; simp
    obtain ⟨b, hb⟩ : ∃ b, b = accV m p (l.filter (spP s p)) := ⟨_, rfl⟩
    have h' : (match (valsL b 4 r).find? (fun x => decide (quorum (size m) ≤ (size (bits .or .i64 (whoM b 4 r (isV x)) (whoM b 4 r mixV)) : Int))) with
      | some x => some (mkV s z p 3 (r + 1) x (bits .or .i64 (lowest (whoM b 4 r (isV x)) 1) (lowest (bits .andNot .i64 (bits .or .i64 (whoM b 4 r (isV x)) (whoM b 4 r mixV)) (lowest (whoM b 4 r (isV x)) 1)) (quorum (size m) - 1))))
      | none => bif decide (quorum (size m) ≤ (size (whoM b 4 r mixV) : Int)) then (carN (mkVtr m p l s z) r).map (fun x => mkV s z p 3 (r + 1) x (lowest (whoM b 4 r mixV) (quorum (size m)))) else none) = some v := by rw [hb]; exact h
    rw [← hb] at hA hcar ⊢
    clear h
    have hmix : ∀ u ∈ b, u.kind = 4 → mixV u = true → u.choice = 2 := fun u _ _ h => by simpa [mixV] using h
    split at h'
    · rename_i x hf
      obtain rfl := Option.some.inj h'
      have hq := List.find?_some hf
      rw [decide_eq_true_eq] at hq
      obtain ⟨u, hu, u1, u2, u3, u4, x2⟩ := vals_out hA (List.mem_of_find?_eq_some hf)
      have uk := (kind_ch (hA.ok u hu).1).2.2 u1
      have uv := val_ch (hA.ok u hu).1
      rw [u3, u4] at uv
      obtain ⟨m1, hm1⟩ : ∃ m1, m1 = whoM b 4 r (isV x) := ⟨_, rfl⟩
      obtain ⟨mx, hmx⟩ : ∃ mx, mx = whoM b 4 r mixV := ⟨_, rfl⟩
      rw [← hm1, ← hmx] at hq
      rw [← hm1, ← hmx]
      have hus := hA.sg u hu
      have hum : mb m1 u.signer.toNat = true := by
        rw [hm1]; exact (who_mb hA (by omega)).2 ⟨u, hu, u1, u2, isV_iff.2 ⟨u3, u4⟩, by omega⟩
      have h1s : 1 ≤ size m1 := List.length_pos_of_mem ((mem_ids m1 u.signer.toNat).2 ⟨by omega, hum⟩)
      have ho1 : (size (lowest m1 1) : Int) = 1 := low_size (by omega) (by omega)
      have hsubo : ∀ i, i < 10 → mb (lowest m1 1) i = true → mb (bits .or .i64 m1 mx) i = true := fun i hi h => by rw [mb_or, (low_mb (by omega) h).2]; rfl
      have hd := size_diff hsubo
      have hlo : (size (lowest (bits .andNot .i64 (bits .or .i64 m1 mx) (lowest m1 1)) (quorum (size m) - 1)) : Int) = quorum (size m) - 1 := low_size (by omega) (by omega)
      have hdis : ∀ i, i < 10 → mb (lowest m1 1) i = true → mb (lowest (bits .andNot .i64 (bits .or .i64 m1 mx) (lowest m1 1)) (quorum (size m) - 1)) i = false := by
        intro i hi h
        cases hc : mb (lowest (bits .andNot .i64 (bits .or .i64 m1 mx) (lowest m1 1)) (quorum (size m) - 1)) i with
        | false => rfl
        | true =>
          have := (low_mb (by omega) hc).2
          rw [mb_andNot, h] at this
          simp at this
      have hsz : (size (bits .or .i64 (lowest m1 1) (lowest (bits .andNot .i64 (bits .or .i64 m1 mx) (lowest m1 1)) (quorum (size m) - 1))) : Int) = quorum (size m) := by
        rw [size_or hdis]; omega
      obtain ⟨S, hS⟩ : ∃ S, S = bits .or .i64 (lowest m1 1) (lowest (bits .andNot .i64 (bits .or .i64 m1 mx) (lowest m1 1)) (quorum (size m) - 1)) := ⟨_, rfl⟩
      have hb2 : ∀ i, i < 64 → mb S i = true → mb m1 i = true ∨ mb mx i = true := by
        intro i hi h
        rw [hS, mb_or, Bool.or_eq_true] at h
        rcases h with h | h
        · exact .inl (low_mb hi h).2
        · have := (low_mb hi h).2
          rw [mb_andNot, Bool.and_eq_true, mb_or, Bool.or_eq_true] at this
          exact this.1
      have hb3 : ∀ i, i < 64 → mb S i = true → i < 10 ∧ mb m i = true ∧ ∃ y ∈ b, y.signer = (i : Int) ∧ y.kind = 4 ∧ y.round = r ∧ ((y.choice = x.ch ∧ y.val = x.nm) ∨ y.choice = 2) := by
        intro i hi h
        rcases hb2 i hi h with h | h
        · rw [hm1] at h
          obtain ⟨y, hy, y1, y2, y3, y4⟩ := (who_mb hA hi).1 h
          have := mem_sub hA hy y4
          exact ⟨this.1, this.2, y, hy, y4, y1, y2, .inl (isV_iff.1 y3)⟩
        · rw [hmx] at h
          obtain ⟨y, hy, y1, y2, y3, y4⟩ := (who_mb hA hi).1 h
          have := mem_sub hA hy y4
          exact ⟨this.1, this.2, y, hy, y4, y1, y2, .inr (hmix y hy y1 y3)⟩
      rw [← hS] at hsz ⊢
      refine ⟨.inr (.inl rfl), rfl, rfl, rfl, valid_mk (m := m) ?_ hz uv ?_ ?_, hn, ?_, by rw [hS]; exact w64_or _ _⟩
      · show 1 ≤ (3 : Int) ∧ (3 : Int) ≤ 4; omega
      · intro i hi h; exact (hb3 i hi h).1
      · show restB (⟨3, s, r + 1, x.ch, z, S, p, x.nm⟩ : Vt) = true
        have e : (r + 1 != 1) = true := by simp; omega
        unfold restB btw; simp only [e]; simp; omega
      · rw [jud3 rfl]
        show prevB m _ _ (⟨3, s, r + 1, x.ch, z, S, p, x.nm⟩ : Vt) = true
        have e : ¬ ((r + 1 == 1) = true) := by simp; omega
        unfold prevB
        rw [if_neg e, Bool.or_eq_true, Bool.and_eq_true]
        have er : r + 1 - 1 = r := by omega
        refine .inl ⟨sup_mk (fun i hi h => ?_) hsz, ?_⟩
        · obtain ⟨_, h1, y, hy, y1, y2, y3, y4⟩ := hb3 i hi h
          refine ⟨h1, y, hy, y1, ?_⟩
          rw [Bool.or_eq_true]
          rcases y4 with y4 | y4
          · left; simp [pvB, sameB, y2, y3, y4.1, y4.2, er]
          · right; simp [pmB, y2, y3, y4, er]
        · obtain ⟨i, hi⟩ := size_some (m := lowest m1 1) (by omega)
          have hil := hasB_lt hi
          obtain ⟨n, rfl⟩ := Int.eq_ofNat_of_zero_le hil.1
          rw [hasB_nat _ _ (by omega)] at hi
          have hi2 := (low_mb (by omega) hi).2
          rw [hm1] at hi2
          obtain ⟨y, hy, y1, y2, y3, y4⟩ := (who_mb hA (by omega)).1 hi2
          have y5 := isV_iff.1 y3
          refine List.any_eq_true.2 ⟨y, hy, ?_⟩
          rw [Bool.and_eq_true]
          refine ⟨?_, by simp [pvB, sameB, y1, y2, y5.1, y5.2, er]⟩
          show hasB S y.signer = true
          rw [y4, hasB_nat _ _ (by omega), hS, mb_or, hi]; rfl
    · rename_i hf
      cases hq : decide (quorum (size m) ≤ (size (whoM b 4 r mixV) : Int)) with
      | false => rw [hq] at h'; cases h'
      | true =>
        rw [hq, cond_true, Option.map_eq_some_iff] at h'
        rw [decide_eq_true_eq] at hq
        obtain ⟨x, hx, rfl⟩ := h'
        have hsz := low_size (quo_nn m) hq
        obtain ⟨u, hu, u1, u2, u3, u4, x2⟩ := vals_out hA (hcar x hx)
        have uk := (kind_ch (hA.ok u hu).1).2.1 u1
        have uv := val_ch (hA.ok u hu).1
        rw [u3, u4] at uv
        refine ⟨.inr (.inl rfl), rfl, rfl, rfl, valid_mk (m := m) ?_ hz uv ?_ ?_, hn, ?_, w64_low _ _⟩
        · show 1 ≤ (3 : Int) ∧ (3 : Int) ≤ 4; omega
        · intro i hi h; exact (who_low hA hi h).1
        · show restB (⟨3, s, r + 1, x.ch, z, lowest (whoM b 4 r mixV) (quorum (size m)), p, x.nm⟩ : Vt) = true
          have e : (r + 1 != 1) = true := by simp; omega
          unfold restB btw; simp only [e]; simp; omega
        · rw [jud3 rfl]
          show prevB m _ _ (⟨3, s, r + 1, x.ch, z, lowest (whoM b 4 r mixV) (quorum (size m)), p, x.nm⟩ : Vt) = true
          have e : ¬ ((r + 1 == 1) = true) := by simp; omega
          have er : r + 1 - 1 = r := by omega
          unfold prevB
          rw [if_neg e, Bool.or_eq_true, Bool.and_eq_true, Bool.and_eq_true]
          refine .inr ⟨sup_mk (fun i hi h => ?_) hsz, ?_⟩
          · obtain ⟨_, h1, y, hy, y1, y2, y3, y4⟩ := who_low hA hi h
            have y5 := hmix y hy y2 y4
            exact ⟨h1, y, hy, y1, by simp [pmB, y2, y3, y5, er]⟩
          · exact List.any_eq_true.2 ⟨u, hu, by simp [pbB, sameB, u1, u2, u3, u4, er]⟩
/-- What is due next is a new vote that is allowed. -/
theorem next_is (h : nextN m p l s z held wt = some v) : (hasB m z = true ∧ hasB m s = true) ∧ NextIs m p s z (l.filter (spP s p)) (accV m p (l.filter (spP s p))) v := by
  unfold nextN at h
  cases hg : (((!(hasB m z)) || (!(hasB m s))) || decide (0 < ((((outV m p l s).length : Nat)) : Int))) with
  | true => rw [hg] at h; cases h
  | false =>
    rw [hg, cond_false] at h
    have hg2 := (Bool.or_eq_false_iff.1 (Bool.or_eq_false_iff.1 hg).1)
    have hz : hasB m z = true := by simpa using hg2.1
    have hs : hasB m s = true := by simpa using hg2.2
    refine ⟨⟨hz, hs⟩, ?_⟩
    rw [Option.or_eq_some_iff, Option.or_eq_some_iff] at h
    rcases h with (h | ⟨_, h⟩) | ⟨_, h⟩
    · exact echo_is hz hs h
    · exact first_is hz hs h
    · unfold roundsN at h
      obtain ⟨i, hi, h⟩ := List.exists_of_findSome?_eq_some h
      have hi' : i < 12 := by simpa using hi
      unfold roundN at h
      rw [Option.or_eq_some_iff] at h
      rcases h with h | ⟨_, h⟩
      · exact prec_is hz hs (by omega) (by omega) h
      · cases hr : decide (((i : Int) + 1) < 12) with
        | false => rw [hr] at h; cases h
        | true =>
          rw [hr, cond_true] at h
          rw [decide_eq_true_eq] at hr
          exact prev_is hz hs (by omega) hr h
theorem next_allow (h : nextN m p l s z held wt = some v) : allowB m v (accV m p l) = true := by
  obtain ⟨⟨hz, hs⟩, hv⟩ := next_is h
  refine allowB_mono (own_acc (s := s)) ?_
  unfold allowB okB
  rw [cnt_all (accSp m p s l) hv.par hv.slot, hv.ok, hv.sg, hv.slot, hz, hs, hv.jud]
  have := hv.kind
  simp; omega
theorem next_new (h : nextN m p l s z held wt = some v) {u : Vt} (hu : u ∈ l) (hv : validB u = true) : keyB v u = false := by
  obtain ⟨_, hn⟩ := next_is h
  cases hk : keyB v u with
  | false => rfl
  | true =>
    unfold keyB at hk
    simp only [Bool.and_eq_true, beq_iff_eq] at hk
    obtain ⟨⟨⟨⟨h1, h2⟩, h3⟩, h4⟩, h5⟩ := hk
    have hnew := hn.new
    have : sgnB z (l.filter (spP s p)) v.kind v.round = true := sgnB_iff.2 ⟨u, List.mem_filter.2 ⟨hu, spP_iff.2 ⟨by rw [← h3]; exact hn.slot, by rw [← h2]; exact hn.par⟩⟩, by rw [← h5]; exact hn.sg, hv, h1.symm, h4.symm⟩
    rw [hnew] at this; cases this
/-- The number of a vote's key, among those of one member in one slot. -/
def cod (v : Vt) : Nat := if v.kind = 2 then 0 else if v.kind = 3 then v.round.toNat else 12 + v.round.toNat
structure OwnIs (p : Nm) (s z : Int) (v : Vt) : Prop where
  kind : v.kind = 2 ∨ v.kind = 3 ∨ v.kind = 4
  slot : v.slot = s
  par : v.par = p
  sg : v.signer = z
  ok : validB v = true
theorem OwnIs.cod_lt (h : OwnIs p s z v) : cod v < 25 := by
  have hc := kind_ch h.ok
  unfold cod
  rcases h.kind with hk | hk | hk
  · simp [hk]
  · have := hc.2.1 hk; simp [hk]; omega
  · have := hc.2.2 hk; simp [hk]; omega
theorem OwnIs.key {u : Vt} (h : OwnIs p s z v) (h2 : OwnIs p s z u) (e : cod v = cod u) : keyB v u = true := by
  have hc := kind_ch h.ok
  have hd := kind_ch h2.ok
  have hv0 : v.kind = 2 → v.round = 0 := fun h' => valid_kind2 h.ok (.inr h')
  have hu0 : u.kind = 2 → u.round = 0 := fun h' => valid_kind2 h2.ok (.inr h')
  have hkr : v.kind = u.kind ∧ v.round = u.round := by
    unfold cod at e
    rcases h.kind with hk | hk | hk <;> rcases h2.kind with hk2 | hk2 | hk2 <;> simp [hk, hk2] at e hc hd hv0 hu0 ⊢ <;> omega
  unfold keyB
  rw [hkr.1, hkr.2, h.slot, h.par, h.sg, h2.slot, h2.par, h2.sg]
  simp
structure OwnV (p : Nm) (s z : Int) (hv own : List Vt) : Prop where
  mem : ∀ u ∈ own, u ∈ hv
  is : ∀ u ∈ own, OwnIs p s z u
  nd : (own.map cod).Nodup
theorem OwnV.nil {hv : List Vt} : OwnV p s z hv [] := ⟨fun u hu => (by cases hu), fun u hu => (by cases hu), by simp⟩
theorem OwnV.len {hv own : List Vt} (h : OwnV p s z hv own) : own.length ≤ 25 := by
  have := nodup_len (n := 25) h.nd (fun k hk => by
    obtain ⟨u, hu, rfl⟩ := List.mem_map.1 hk
    exact (h.is u hu).cod_lt)
  simpa using this
theorem OwnV.more {hv own : List Vt} (h : OwnV p s z hv own) (r : List Vt) : OwnV p s z (hv ++ r) own := ⟨fun u hu => List.mem_append_left _ (h.mem u hu), h.is, h.nd⟩
theorem keyB_symm {u v : Vt} (h : keyB u v = true) : keyB v u = true := by
  unfold keyB at *
  simp only [Bool.and_eq_true, beq_iff_eq] at *
  obtain ⟨⟨⟨⟨h1, h2⟩, h3⟩, h4⟩, h5⟩ := h
  exact ⟨⟨⟨⟨h1.symm, h2.symm⟩, h3.symm⟩, h4.symm⟩, h5.symm⟩
theorem OwnV.new {hv own : List Vt} (h : OwnV p s z hv own) (hn : nextN m p hv s z held wt = some v) {u : Vt} (hu : u ∈ own) : keyB u v = false := by
  cases hk : keyB u v with
  | false => rfl
  | true =>
    have := next_new hn (h.mem u hu) (h.is u hu).ok
    rw [keyB_symm hk] at this; cases this
theorem OwnV.step {hv own : List Vt} (h : OwnV p s z hv own) (hn : nextN m p hv s z held wt = some v) : OwnV p s z (hv ++ [v]) (own ++ [v]) := by
  obtain ⟨_, hi⟩ := next_is hn
  have hvi : OwnIs p s z v := ⟨hi.kind, hi.slot, hi.par, hi.sg, hi.ok⟩
  refine ⟨fun u hu => ?_, fun u hu => ?_, ?_⟩
  · rcases List.mem_append.1 hu with hu | hu
    · exact List.mem_append_left _ (h.mem u hu)
    · exact List.mem_append_right _ hu
  · rcases List.mem_append.1 hu with hu | hu
    · exact h.is u hu
    · simp only [List.mem_singleton] at hu; subst hu; exact hvi
  · rw [List.map_append, List.nodup_append]
    refine ⟨h.nd, by simp, fun x hx y hy e => ?_⟩
    obtain ⟨u, hu, rfl⟩ := List.mem_map.1 hx
    simp only [List.map_cons, List.map_nil, List.mem_singleton] at hy
    subst hy
    have := (h.is u hu).key hvi e
    rw [h.new hn hu] at this; cases this
end
end Go.Proofs.YtnjkbgcfpbbglaaGreat
