/- What the judge calls decidable is what the accepted votes decide: the induction over the rounds (plain). -/
import Derived.Test.YtphnfhonmbbddaaJaP
namespace Go.Proofs.Ytphnfhonmbbddaa
open Go Go.RowKit
set_option linter.unusedVariables false

/-- A set of accepted votes of the table's votes. -/
structure AgS (P C : List (List Int)) (n k : Nat) (a : List Vt) : Prop where
  acc : AccS (allM n) Nm.zero 0 a
  sub : ∀ v ∈ a, v ∈ votV P C n k
  cl : ∀ v ∈ votV P C n k, allowB (allM n) v a = true → v ∈ a
section
variable {P C : List (List Int)} {n k : Nat} {a : List Vt} {v u : Vt} {r i c qn : Nat} {s : Int}
theorem vot_own (h : v ∈ votV P C n k) : v.par = Nm.zero ∧ v.slot = 0 ∧ v.kind ≤ 4 := by
  rcases mem_vot.1 h with rfl | ⟨m, _, rfl⟩ | ⟨r, m, c, s, _, _, _, _, _, h⟩
  · exact ⟨rfl, rfl, by decide⟩
  · exact ⟨rfl, rfl, by show (2 : Int) ≤ 4; decide⟩
  · rcases h with ⟨_, _, rfl⟩ | ⟨_, rfl⟩
    · exact ⟨rfl, rfl, by show (3 : Int) ≤ 4; decide⟩
    · exact ⟨rfl, rfl, by show (4 : Int) ≤ 4; decide⟩
theorem agS (P C : List (List Int)) (n k : Nat) : AgS P C n k (accV (allM n) Nm.zero (ownF 0 (votV P C n k))) := by
  refine ⟨accS _ _ _ _, fun v hv => own_sub (accV_mem hv).1, fun v hv ha => ?_⟩
  obtain ⟨h1, h2, h3⟩ := vot_own hv
  by_cases hn : v ∈ accV (allM n) Nm.zero (ownF 0 (votV P C n k))
  · exact hn
  · have hw : v ∈ ownF 0 (votV P C n k) := List.mem_filter.2 ⟨hv, by unfold ownP; rw [h2, decide_eq_true h3]; rfl⟩
    rw [accV_closed hw h1 hn] at ha
    cases ha
theorem AgS.jud (h : AgS P C n k a) (h1 : 1 ≤ n) (h7 : n ≤ 7) (hp : v.par = Nm.zero) (hs : v.slot = 0) : allowB (allM n) v a = (okB (allM n) v && judB (allM n) (quorum (n : Int)) v a) := by
  have e : a.filter (cntB (allM n) v) = a := by
    rw [List.filter_eq_self]
    intro u hu
    obtain ⟨o1, o2, o3, _⟩ := h.acc.ok u hu
    unfold cntB
    rw [o1, h.acc.par u hu, h.acc.slot u hu, hp, hs, o3, decide_eq_true o2]
    simp
  unfold allowB
  rw [e, size_all h1 h7]
theorem AgS.jud_in (h : AgS P C n k a) (h1 : 1 ≤ n) (h7 : n ≤ 7) (hv : v ∈ a) : judB (allM n) (quorum (n : Int)) v a = true := by
  have := h.acc.allow v hv
  rw [h.jud h1 h7 (h.acc.par v hv) (h.acc.slot v hv), Bool.and_eq_true] at this
  exact this.2
theorem AgS.put (h : AgS P C n k a) (h1 : 1 ≤ n) (h7 : n ≤ 7) (hv : v ∈ votV P C n k) (ho : okB (allM n) v = true) (hj : judB (allM n) (quorum (n : Int)) v a = true) : v ∈ a := by
  obtain ⟨p1, p2, _⟩ := vot_own hv
  refine h.cl v hv ?_
  rw [h.jud h1 h7 p1 p2, ho, hj]; rfl
theorem one_ne : (oneN == Nm.zero) = false := by decide
theorem has_zero (h1 : 1 ≤ n) (h7 : n ≤ 7) : hasB (allM n) 0 = true := by
  have := has_all h7 0
  rw [show ((0 : Nat) : Int) = 0 from rfl] at this
  rw [this]; exact decide_eq_true (by omega)
theorem ok_pro (h1 : 1 ≤ n) (h7 : n ≤ 7) : okB (allM n) proV = true := by
  have e : validB proV = true := by decide +kernel
  unfold okB
  rw [e, show proV.signer = 0 from rfl, show proV.slot = 0 from rfl, has_zero h1 h7]; rfl
theorem ok_ech (h1 : 1 ≤ n) (h7 : n ≤ 7) (hi : i < n) : okB (allM n) (echV i) = true := by
  have e : validB (echV i) = true := by
    unfold validB restB btw echV
    have hb : bits .andNot .i64 0 1023 = 0 := sup_zero
    simp only [hb, one_ne]
    simp
    omega
  unfold okB
  rw [e, show (echV i).signer = (i : Int) from rfl, show (echV i).slot = 0 from rfl, has_zero h1 h7, has_all h7, decide_eq_true hi]; rfl
theorem val_ok (hc : c < 3) : (((c : Int) == 1) == (valC c == Nm.zero)) = false := by
  have h : c = 0 ∨ c = 1 ∨ c = 2 := by omega
  rcases h with rfl | rfl | rfl <;> decide
theorem ok_pv (h1 : 1 ≤ n) (h7 : n ≤ 7) (hi : i < n) (hr : r < 12) (hc : c < 2) (hs : bits .andNot .i64 s 1023 = 0) (h0 : r = 0 → c = 0 → s = 0) : okB (allM n) (pvV r i c s) = true := by
  have e : validB (pvV r i c s) = true := by
    unfold validB restB btw pvV
    simp only [hs, val_ok (c := c) (by omega)]
    simp
    refine ⟨by omega, by omega, by omega, ?_⟩
    by_cases hr0 : r = 0
    · by_cases hc0 : c = 0
      · exact .inr (h0 hr0 hc0)
      · exact .inl (.inr hc0)
    · exact .inl (.inl (by omega))
  unfold okB
  rw [e, show (pvV r i c s).signer = (i : Int) from rfl, show (pvV r i c s).slot = 0 from rfl, has_zero h1 h7, has_all h7, decide_eq_true hi]; rfl
theorem ok_pc (h1 : 1 ≤ n) (h7 : n ≤ 7) (hi : i < n) (hr : r < 12) (hc : c < 3) (hs : bits .andNot .i64 s 1023 = 0) : okB (allM n) (pcV r i c s) = true := by
  have e : validB (pcV r i c s) = true := by
    unfold validB restB btw pcV
    simp only [hs, val_ok hc]
    simp
    omega
  unfold okB
  rw [e, show (pcV r i c s).signer = (i : Int) from rfl, show (pcV r i c s).slot = 0 from rfl, has_zero h1 h7, has_all h7, decide_eq_true hi]; rfl
/-- An accepted Prevote, or Precommit, of a member. -/
def PV (a : List Vt) (r i c : Nat) : Prop := ∃ s, pvV r i c s ∈ a
def PC (a : List Vt) (r i c : Nat) : Prop := ∃ s, pcV r i c s ∈ a
theorem AgS.kind3 (h : AgS P C n k a) (hu : u ∈ a) (hk : u.kind = 3) (hr : u.round = ((r + 1 : Nat) : Int)) : ∃ i c s, i < n ∧ c < 2 ∧ u = pvV r i c s ∧ mb (ent P r i) c = true := by
  rcases mem_vot.1 (h.sub u hu) with rfl | ⟨m, _, rfl⟩ | ⟨r', m, c, s, _, hm, hc, _, _, h⟩
  · cases hk
  · cases hk
  · rcases h with ⟨hb, hc2, rfl⟩ | ⟨_, rfl⟩
    · have hr' : ((r' + 1 : Nat) : Int) = ((r + 1 : Nat) : Int) := hr
      obtain rfl : r' = r := by omega
      exact ⟨m, c, _, hm, by omega, rfl, hb⟩
    · cases hk
theorem AgS.kind4 (h : AgS P C n k a) (hu : u ∈ a) (hk : u.kind = 4) : ∃ r i c s, r < k ∧ i < n ∧ c < 3 ∧ u = pcV r i c s ∧ mb (ent C r i) c = true := by
  rcases mem_vot.1 (h.sub u hu) with rfl | ⟨m, _, rfl⟩ | ⟨r', m, c, s, hr, hm, hc, _, _, h⟩
  · cases hk
  · cases hk
  · rcases h with ⟨_, _, rfl⟩ | ⟨hb, rfl⟩
    · cases hk
    · exact ⟨r', m, c, _, hr, hm, hc, rfl, hb⟩
theorem AgS.pv (h : AgS P C n k a) (hu : u ∈ a) (hk : u.kind = 3) (hr : u.round = ((r + 1 : Nat) : Int)) (hs : u.signer = (i : Int)) : ∃ c, c < 2 ∧ PV a r i c ∧ u.choice = (c : Int) := by
  obtain ⟨i', c, s, hi, hc, rfl, _⟩ := h.kind3 hu hk hr
  obtain rfl : i' = i := Int.ofNat.inj hs
  exact ⟨c, hc, ⟨s, hu⟩, rfl⟩
theorem AgS.pc (h : AgS P C n k a) (hu : u ∈ a) (hk : u.kind = 4) (hr : u.round = ((r + 1 : Nat) : Int)) (hs : u.signer = (i : Int)) : ∃ c, c < 3 ∧ PC a r i c ∧ u.choice = (c : Int) := by
  obtain ⟨r', i', c, s, _, hi, hc, rfl, _⟩ := h.kind4 hu hk
  have hr' : ((r' + 1 : Nat) : Int) = ((r + 1 : Nat) : Int) := hr
  obtain rfl : r' = r := by omega
  obtain rfl : i' = i := Int.ofNat.inj hs
  exact ⟨c, hc, ⟨s, hu⟩, rfl⟩
theorem PV.bit (h : AgS P C n k a) (hp : PV a r i c) : i < n ∧ c < 2 ∧ mb (ent P r i) c = true := by
  obtain ⟨s, hs⟩ := hp
  obtain ⟨i', c', s', h1, h2, e, h3⟩ := h.kind3 hs rfl rfl
  have e1 : (i : Int) = (i' : Int) := congrArg Vt.signer e
  have e2 : (c : Int) = (c' : Int) := congrArg Vt.choice e
  obtain rfl : i = i' := by omega
  obtain rfl : c = c' := by omega
  exact ⟨h1, h2, h3⟩
theorem PC.bit (h : AgS P C n k a) (hp : PC a r i c) : i < n ∧ c < 3 ∧ mb (ent C r i) c = true := by
  obtain ⟨s, hs⟩ := hp
  obtain ⟨r', i', c', s', _, h1, h2, e, h3⟩ := h.kind4 hs rfl
  have e0 : ((r + 1 : Nat) : Int) = ((r' + 1 : Nat) : Int) := congrArg Vt.round e
  have e1 : (i : Int) = (i' : Int) := congrArg Vt.signer e
  have e2 : (c : Int) = (c' : Int) := congrArg Vt.choice e
  obtain rfl : r = r' := by omega
  obtain rfl : i = i' := by omega
  obtain rfl : c = c' := by omega
  exact ⟨h1, h2, h3⟩
theorem quorum_rng (h1 : 1 ≤ n) : ∃ qn : Nat, quorum (n : Int) = (qn : Int) ∧ 1 ≤ qn ∧ qn ≤ n := by
  refine ⟨(quorum (n : Int)).toNat, ?_, ?_, ?_⟩ <;> unfold quorum <;> split <;> omega
/-- There is a support of any members. -/
theorem any_mask (h7 : n ≤ 7) (hq : qn ≤ n) : ∃ s : Nat, s < 2 ^ n ∧ size (s : Int) = qn ∧ ∀ i, mb (s : Int) i = true → i < n := by
  obtain ⟨s, h1, h2, h3, _⟩ := choose_mask (n := n) (q := qn) (fun _ => true) (fun _ => false) h7 (by
    have : cntI n (fun i => true && false) = 0 := cnt_zero fun i _ => rfl
    omega) (by rw [cnt_true]; exact hq)
  exact ⟨s, h1, h2, fun i hi => (h3 i hi).1⟩
theorem AgS.pro (h : AgS P C n k a) (h1 : 1 ≤ n) (h7 : n ≤ 7) : proV ∈ a :=
  h.put h1 h7 (mem_vot.2 (.inl rfl)) (ok_pro h1 h7) rfl
theorem AgS.ech (h : AgS P C n k a) (h1 : 1 ≤ n) (h7 : n ≤ 7) (hi : i < n) : echV i ∈ a := by
  refine h.put h1 h7 (mem_vot.2 (.inr (.inl ⟨i, hi, rfl⟩))) (ok_ech h1 h7 hi) ?_
  show propB (echV i) a = true
  exact List.any_eq_true.2 ⟨proV, h.pro h1 h7, by unfold poB sameB echV proV; simp⟩
/-- The Prevotes of the first round. -/
theorem AgS.first (h : AgS P C n k a) (hv : VF P C n k) (i c : Nat) (hc : c < 2) : PV a 0 i c ↔ i < n ∧ mb (ent P 0 i) c = true := by
  have h1 := hv.n1
  have h7 := hv.n7
  refine ⟨fun hp => ⟨(hp.bit h).1, (hp.bit h).2.2⟩, fun ⟨hi, hb⟩ => ?_⟩
  obtain ⟨qn, hq, _, hqn⟩ := quorum_rng h1
  obtain ⟨s, s1, s2, s3⟩ := any_mask (n := n) h7 hqn
  have hcc : c = 0 ∨ c = 1 := by omega
  have hin : pvV 0 i c (spV 0 c s) ∈ votV P C n k := mem_vot.2 (.inr (.inr ⟨0, i, c, s, hv.k1, hi, by omega, s1, by rw [s2, hq], .inl ⟨hb, by omega, rfl⟩⟩))
  refine ⟨spV 0 c s, h.put h1 h7 hin ?_ ?_⟩
  · refine ok_pv h1 h7 hi (by decide) hc ?_ (fun _ h0 => by rw [h0]; rfl)
    rcases hcc with rfl | rfl
    · exact sup_zero
    · exact (sup_all h7 s1).2
  · show prevB _ _ a (pvV 0 i c (spV 0 c s)) = true
    unfold prevB
    rw [if_pos (show ((pvV 0 i c (spV 0 c s)).round == 1) = true from rfl), Bool.or_eq_true]
    rcases hcc with rfl | rfl
    · exact .inl rfl
    · refine .inr (sup_iff.2 ⟨(sup_all h7 s1).1, by show (size ((s : Nat) : Int) : Int) = _; rw [s2, hq], fun j hj => ?_⟩)
      obtain ⟨j, rfl, hj1, _⟩ := has_nat (show hasB (s : Int) j = true from hj)
      exact ⟨echV j, h.ech h1 h7 (s3 j hj1), rfl, by unfold peB sameB echV pvV valC; simp⟩
theorem size_one {s : Int} (h : size s = 1) {x y : Nat} (hx : x < 10) (hy : y < 10) (h1 : mb s x = true) (h2 : mb s y = true) : x = y := by
  unfold size at h
  obtain ⟨z, hz⟩ := List.length_eq_one_iff.1 h
  have a1 : x ∈ ids s := (mem_ids s x).2 ⟨hx, h1⟩
  have a2 : y ∈ ids s := (mem_ids s y).2 ⟨hy, h2⟩
  rw [hz, List.mem_singleton] at a1 a2
  rw [a1, a2]
theorem both_iff {pl : List Int} {q : Int} (hq : 1 ≤ q) (hl : pl.length = n) (hb : ∀ i, 0 ≤ pl.getD i 0 ∧ pl.getD i 0 ≤ 3) (c3 : countV pl 3 = (cntI n (fun i => bitI pl 0 i || bitI pl 1 i) : Int)) (c1 : countV pl 1 = (cntI n (bitI pl 0) : Int)) (c2 : countV pl 2 = (cntI n (bitI pl 1) : Int)) :
    bothV pl q = true ↔ q ≤ (cntI n (fun i => bitI pl 0 i || bitI pl 1 i) : Int) ∧ ∃ x y, x < n ∧ y < n ∧ bitI pl 0 x = true ∧ bitI pl 1 y = true ∧ (q = 1 → x = y) := by
  unfold bothV
  constructor
  · intro h
    cases hc : (((decide (countV pl 3 < q)) || (countV pl 1 == 0)) || (countV pl 2 == 0)) with
    | true => rw [hc] at h; cases h
    | false =>
      rw [hc, cond_false] at h
      simp only [Bool.or_eq_false_iff, decide_eq_false_iff_not, beq_eq_false_iff_ne] at hc
      refine ⟨by omega, ?_⟩
      cases hq1 : decide (1 < q) with
      | true =>
        have := of_decide_eq_true hq1
        obtain ⟨x, hx, hx1⟩ := cnt_pos (n := n) (f := bitI pl 0) (by omega)
        obtain ⟨y, hy, hy1⟩ := cnt_pos (n := n) (f := bitI pl 1) (by omega)
        exact ⟨x, y, hx, hy, hx1, hy1, fun h => by omega⟩
      | false =>
        rw [hq1, cond_false] at h
        obtain ⟨e, he, h3⟩ := List.any_eq_true.1 h
        obtain ⟨j, hj, rfl⟩ := List.mem_iff_getElem.1 he
        have g : pl.getD j 0 = pl[j] := by rw [List.getD_eq_getElem?_getD, List.getElem?_eq_getElem hj]; rfl
        have h3 : (pl[j] == 3) = true := h3
        rw [← g, eq3_mb (hb j).1 (hb j).2, Bool.and_eq_true] at h3
        exact ⟨j, j, by omega, by omega, h3.1, h3.2, fun _ => rfl⟩
  · rintro ⟨h0, x, y, hx, hy, hx1, hy1, he⟩
    have p1 := cnt_pos_of hx hx1
    have p2 := cnt_pos_of hy hy1
    have hc : (((decide (countV pl 3 < q)) || (countV pl 1 == 0)) || (countV pl 2 == 0)) = false := by
      simp only [Bool.or_eq_false_iff, decide_eq_false_iff_not, beq_eq_false_iff_ne]
      omega
    rw [hc, cond_false]
    cases hq1 : decide (1 < q) with
    | true => rfl
    | false =>
      have := of_decide_eq_false hq1
      have e := he (by omega)
      subst e
      rw [cond_false, List.any_eq_true]
      have hj : x < pl.length := by omega
      have g : pl.getD x 0 = pl[x] := by rw [List.getD_eq_getElem?_getD, List.getElem?_eq_getElem hj]; rfl
      refine ⟨pl[x], List.getElem_mem hj, ?_⟩
      show (pl[x] == 3) = true
      rw [← g, eq3_mb (hb x).1 (hb x).2, Bool.and_eq_true]
      exact ⟨hx1, hy1⟩
theorem pair_of (hc : c < 2) : ∃ d x y, Pair d c x y := by
  have h : c = 0 ∨ c = 1 := by omega
  rcases h with rfl | rfl
  · exact ⟨1, 2, 1, .inr ⟨rfl, rfl, rfl, rfl⟩⟩
  · exact ⟨0, 1, 2, .inl ⟨rfl, rfl, rfl, rfl⟩⟩
theorem com_iff {q : Int} : bitI (comT P C q r) c i = true ↔ mb (ent C r i) c = true ∧ mb (posT P C q r) c = true := by
  unfold bitI comT ent
  rw [kept_getD, mb_and, Bool.and_eq_true]
theorem same_pv {r' i' c' : Nat} {s' : Int} (h : (c : Int) = (c' : Int)) {k1 k2 : Int} {r1 r2 s1 s2 : Int} {i1 i2 : Int} : sameB ⟨k1, 0, r1, (c : Int), i1, s1, Nm.zero, valC c⟩ ⟨k2, 0, r2, (c' : Int), i2, s2, Nm.zero, valC c'⟩ = true := by
  obtain rfl : c = c' := Int.ofNat.inj h
  unfold sameB; simp
/-- The Precommits of a round, out of its Prevotes. -/
theorem AgS.com (h : AgS P C n k a) (hv : VF P C n k) (hr : r < k) (hP : ∀ i c, c < 2 → (PV a r i c ↔ i < n ∧ bitI (plT P C (quorum (n : Int)) r) c i = true)) (i c : Nat) (hc : c < 3) : PC a r i c ↔ i < n ∧ bitI (comT P C (quorum (n : Int)) r) c i = true := by
  have h1 := hv.n1
  have h7 := hv.n7
  have k3 := hv.k3
  obtain ⟨qn, hq, hq1, hqn⟩ := quorum_rng h1
  obtain ⟨l1, l2⟩ := plT_rows (q := quorum (n : Int)) hv r hr
  obtain ⟨c1, c2, c3⟩ := cntP1 (q := quorum (n : Int)) hv hr
  obtain ⟨_, _, _, _, p2⟩ := posT_f (P := P) (C := C) (q := quorum (n : Int)) r
  have hbi := both_iff (q := quorum (n : Int)) (by omega) l1 l2 c3 c1 c2
  have sg : ∀ {u : Vt}, u ∈ a → u.kind = 3 → u.round = ((r + 1 : Nat) : Int) → ∀ j : Nat, u.signer = (j : Int) → ∃ c, c < 2 ∧ (j < n ∧ bitI (plT P C (quorum (n : Int)) r) c j = true) ∧ u.choice = (c : Int) := fun {u} hu hk hr j hs => by
    obtain ⟨c, hc, hp, he⟩ := h.pv hu hk hr hs
    exact ⟨c, hc, (hP j c hc).1 hp, he⟩
  rw [com_iff]
  constructor
  · rintro ⟨s, hs⟩
    obtain ⟨hi, _, hb⟩ := PC.bit h ⟨s, hs⟩
    refine ⟨hi, hb, ?_⟩
    have hj : precB (allM n) (quorum (n : Int)) a (pcV r i c s) = true := h.jud_in h1 h7 hs
    unfold precB at hj
    by_cases hc2 : c < 2
    · rw [if_pos (by show ((c : Int) != 2) = true; rw [bne_iff_ne]; omega), sup_iff] at hj
      obtain ⟨_, j2, j3⟩ := hj
      have e2 : (size s : Int) = quorum (n : Int) := j2
      obtain ⟨d, x, y, hp⟩ := pair_of hc2
      obtain ⟨_, _, f3, _, f5⟩ := hp.com (q := quorum (n : Int)) hv hr
      have : size s ≤ cntI n (bitI (plT P C (quorum (n : Int)) r) c) := size_cnt fun j hj10 hjb => by
        obtain ⟨u, hu, hsu, hpu⟩ := j3 (j : Int) (bit_has hj10 hjb)
        rw [Bool.and_eq_true] at hpu
        unfold prB at hpu
        rw [Bool.and_eq_true, beq_iff_eq, beq_iff_eq] at hpu
        obtain ⟨c', hc', hx, he⟩ := sg hu hpu.1.1 hpu.1.2 j hsu
        have hsame := (sameB_iff _ _).1 hpu.2
        have : (c : Int) = u.choice := hsame.1
        obtain rfl : c = c' := by omega
        exact hx
      rw [f5, f3]
      exact decide_eq_true (by omega)
    · obtain rfl : c = 2 := by omega
      rw [if_neg (by show ¬ (((2 : Nat) : Int) != 2) = true; decide), Bool.and_eq_true, sup_iff, unl_iff] at hj
      obtain ⟨⟨_, j2, j3⟩, x, hx, y, hy, hxy⟩ := hj
      have e2 : (size s : Int) = quorum (n : Int) := j2
      rw [p2, hbi]
      have in_s : ∀ j, j < 10 → mb s j = true → j < n ∧ (bitI (plT P C (quorum (n : Int)) r) 0 j || bitI (plT P C (quorum (n : Int)) r) 1 j) = true := fun j hj10 hjb => by
        obtain ⟨u, hu, hsu, hpu⟩ := j3 (j : Int) (bit_has hj10 hjb)
        unfold prB at hpu
        rw [Bool.and_eq_true, beq_iff_eq, beq_iff_eq] at hpu
        obtain ⟨c', hc', ⟨hx, hx2⟩, _⟩ := sg hu hpu.1 hpu.2 j hsu
        have hcc : c' = 0 ∨ c' = 1 := by omega
        rcases hcc with rfl | rfl
        · exact ⟨hx, by rw [hx2]; rfl⟩
        · exact ⟨hx, by rw [hx2, Bool.or_true]⟩
      refine ⟨by have := size_cnt in_s; omega, ?_⟩
      have get : ∀ {z : Vt}, z ∈ a.filter (fun u => prB (pcV r i 2 s) u && hasB (pcV r i 2 s).support u.signer) → ∃ j c' s', j < 10 ∧ c' < 2 ∧ mb s j = true ∧ (j < n ∧ bitI (plT P C (quorum (n : Int)) r) c' j = true) ∧ z = pvV r j c' s' := fun {z} hz => by
        rw [List.mem_filter, Bool.and_eq_true] at hz
        obtain ⟨hza, hzp, hzs⟩ := hz
        unfold prB at hzp
        rw [Bool.and_eq_true, beq_iff_eq, beq_iff_eq] at hzp
        obtain ⟨j, c', s', hj, hc', rfl, _⟩ := h.kind3 hza hzp.1 hzp.2
        obtain ⟨j', ej, hj1, hj10⟩ := has_nat (show hasB s (j : Int) = true from hzs)
        obtain rfl : j = j' := Int.ofNat.inj ej
        exact ⟨j, c', s', hj10, hc', hj1, (hP j c' hc').1 ⟨s', hza⟩, rfl⟩
      obtain ⟨j, cx, sx, g1, g2, g3, ⟨g4, g5⟩, rfl⟩ := get hx
      obtain ⟨j', cy, sy, g1', g2', g3', ⟨g4', g5'⟩, rfl⟩ := get hy
      have hne : cx ≠ cy := fun e => by
        subst e
        have : sameB (pvV r j cx sx) (pvV r j' cx sy) = true := by unfold sameB pvV; simp
        rw [this] at hxy; cases hxy
      have hone : quorum (n : Int) = 1 → j = j' := fun e => size_one (by omega) g1 g1' g3 g3'
      have hcc : (cx = 0 ∧ cy = 1) ∨ (cx = 1 ∧ cy = 0) := by omega
      rcases hcc with ⟨rfl, rfl⟩ | ⟨rfl, rfl⟩
      · exact ⟨j, j', g4, g4', g5, g5', hone⟩
      · exact ⟨j', j, g4', g4, g5', g5, fun e => (hone e).symm⟩
  · rintro ⟨hi, hb, hp⟩
    have fin : ∀ s : Nat, s < 2 ^ n → size (s : Int) = qn → judB (allM n) (quorum (n : Int)) (pcV r i c s) a = true → PC a r i c := fun s s1 s2 hj =>
      ⟨(s : Int), h.put h1 h7 (mem_vot.2 (.inr (.inr ⟨r, i, c, s, hr, hi, hc, s1, by rw [s2, hq], .inr ⟨hb, rfl⟩⟩))) (ok_pc h1 h7 hi (by omega) hc (sup_all h7 s1).2) hj⟩
    by_cases hc2 : c < 2
    · obtain ⟨d, x, y, hpr⟩ := pair_of hc2
      obtain ⟨_, _, f3, _, f5⟩ := hpr.com (q := quorum (n : Int)) hv hr
      rw [f5, f3, decide_eq_true_eq] at hp
      obtain ⟨s, s1, s2, s3, _⟩ := choose_mask (n := n) (q := qn) (bitI (plT P C (quorum (n : Int)) r) c) (fun _ => false) h7 (by
        have : cntI n (fun i => bitI (plT P C (quorum (n : Int)) r) c i && false) = 0 := cnt_zero fun i _ => Bool.and_false _
        omega) (by omega)
      refine fin s s1 s2 ?_
      show precB _ _ a (pcV r i c s) = true
      unfold precB
      rw [if_pos (by show ((c : Int) != 2) = true; rw [bne_iff_ne]; omega)]
      refine sup_iff.2 ⟨(sup_all h7 s1).1, by show (size ((s : Nat) : Int) : Int) = _; rw [s2, hq], fun j hj => ?_⟩
      obtain ⟨j, rfl, hj1, _⟩ := has_nat (show hasB (s : Int) j = true from hj)
      obtain ⟨s', hs'⟩ := (hP j c hc2).2 (s3 j hj1)
      exact ⟨_, hs', rfl, by unfold prB sameB pvV pcV; simp⟩
    · obtain rfl : c = 2 := by omega
      rw [p2, hbi] at hp
      obtain ⟨g0, x, y, hx, hy, hx1, hy1, he⟩ := hp
      have hlt : cntI n (fun i => (bitI (plT P C (quorum (n : Int)) r) 0 i || bitI (plT P C (quorum (n : Int)) r) 1 i) && (decide (i = x) || decide (i = y))) ≤ qn := by
        by_cases hqe : qn = 1
        · have e := he (by omega)
          subst e
          have e2 : (fun i => (bitI (plT P C (quorum (n : Int)) r) 0 i || bitI (plT P C (quorum (n : Int)) r) 1 i) && (decide (i = x) || decide (i = x))) = fun i => (bitI (plT P C (quorum (n : Int)) r) 0 i || bitI (plT P C (quorum (n : Int)) r) 1 i) && decide (i = x) := funext fun i => by rw [Bool.or_self]
          rw [e2]
          have := (cnt_eq_le (fun i => bitI (plT P C (quorum (n : Int)) r) 0 i || bitI (plT P C (quorum (n : Int)) r) 1 i) x n).1
          omega
        · have := cnt_two (fun i => bitI (plT P C (quorum (n : Int)) r) 0 i || bitI (plT P C (quorum (n : Int)) r) 1 i) x y n
          omega
      obtain ⟨s, s1, s2, s3, s4⟩ := choose_mask (n := n) (q := qn) (fun i => bitI (plT P C (quorum (n : Int)) r) 0 i || bitI (plT P C (quorum (n : Int)) r) 1 i) (fun i => decide (i = x) || decide (i = y)) h7 hlt (by omega)
      have sx := s4 x hx (by rw [hx1]; rfl) (by simp)
      have sy := s4 y hy (by rw [hy1, Bool.or_true]) (by simp)
      refine fin s s1 s2 ?_
      show precB _ _ a (pcV r i 2 s) = true
      unfold precB
      rw [if_neg (by show ¬ (((2 : Nat) : Int) != 2) = true; decide), Bool.and_eq_true]
      obtain ⟨tx, htx⟩ := (hP x 0 (by decide)).2 ⟨hx, hx1⟩
      obtain ⟨ty, hty⟩ := (hP y 1 (by decide)).2 ⟨hy, hy1⟩
      refine ⟨sup_iff.2 ⟨(sup_all h7 s1).1, by show (size ((s : Nat) : Int) : Int) = _; rw [s2, hq], fun j hj => ?_⟩, (unl_iff _).2 ⟨pvV r x 0 tx, ?_, pvV r y 1 ty, ?_, by unfold sameB pvV; simp⟩⟩
      · obtain ⟨j, rfl, hj1, _⟩ := has_nat (show hasB (s : Int) j = true from hj)
        obtain ⟨g1, g2⟩ := s3 j hj1
        rw [Bool.or_eq_true] at g2
        rcases g2 with g2 | g2
        · obtain ⟨s', hs'⟩ := (hP j 0 (by decide)).2 ⟨g1, g2⟩
          exact ⟨_, hs', rfl, by unfold prB pvV pcV; simp⟩
        · obtain ⟨s', hs'⟩ := (hP j 1 (by decide)).2 ⟨g1, g2⟩
          exact ⟨_, hs', rfl, by unfold prB pvV pcV; simp⟩
      · refine List.mem_filter.2 ⟨htx, ?_⟩
        have : hasB (s : Int) (x : Int) = true := bit_has (by omega) sx
        rw [Bool.and_eq_true]
        exact ⟨by unfold prB pvV pcV; simp, this⟩
      · refine List.mem_filter.2 ⟨hty, ?_⟩
        have : hasB (s : Int) (y : Int) = true := bit_has (by omega) sy
        rw [Bool.and_eq_true]
        exact ⟨by unfold prB pvV pcV; simp, this⟩
/-- The Prevotes of the next round. -/
theorem AgS.next (h : AgS P C n k a) (hv : VF P C n k) (hr : r + 1 < k) (hP : ∀ i c, c < 2 → (PV a r i c ↔ i < n ∧ bitI (plT P C (quorum (n : Int)) r) c i = true)) (hC : ∀ i c, c < 3 → (PC a r i c ↔ i < n ∧ bitI (comT P C (quorum (n : Int)) r) c i = true)) (i c : Nat) (hc : c < 2) : PV a (r + 1) i c ↔ i < n ∧ bitI (plT P C (quorum (n : Int)) (r + 1)) c i = true := by
  have h1 := hv.n1
  have h7 := hv.n7
  have k3 := hv.k3
  obtain ⟨qn, hq, hq1, hqn⟩ := quorum_rng h1
  obtain ⟨d, x, y, hpr⟩ := pair_of hc
  obtain ⟨_, f2, f3, f4, _⟩ := hpr.com (q := quorum (n : Int)) hv (Nat.lt_of_succ_lt hr)
  obtain ⟨g1, _, _, _, _⟩ := hpr.symm.com (q := quorum (n : Int)) hv (Nat.lt_of_succ_lt hr)
  obtain ⟨_, _, v3, _⟩ := cntV1 (q := quorum (n : Int)) hv (Nat.lt_of_succ_lt hr)
  have hbit : bitI (plT P C (quorum (n : Int)) (r + 1)) c i = true ↔ mb (ent P (r + 1) i) c = true ∧ mb (nxT P C (quorum (n : Int)) r) c = true := by
    unfold bitI ent
    rw [plT_succ r (by rw [hv.pl]; exact hr), kept_getD, mb_and, Bool.and_eq_true]
  have hnx : mb (nxT P C (quorum (n : Int)) r) c = true ↔ (quorum (n : Int) ≤ (cntI n (fun i => bitI (comT P C (quorum (n : Int)) r) c i || bitI (comT P C (quorum (n : Int)) r) 2 i) : Int) ∧ 0 < cntI n (bitI (comT P C (quorum (n : Int)) r) c)) ∨ (quorum (n : Int) ≤ (cntI n (bitI (comT P C (quorum (n : Int)) r) 2) : Int) ∧ 0 < cntI n (bitI (plT P C (quorum (n : Int)) r) c)) := by
    rw [f4]
    unfold nxB
    rw [f2, g1, v3, f3, Bool.or_eq_true, Bool.and_eq_true, Bool.and_eq_true, decide_eq_true_eq, decide_eq_true_eq, decide_eq_true_eq, decide_eq_true_eq, Int.natCast_pos, Int.natCast_pos]
  rw [hbit, hnx]
  have rnd : ∀ {s : Int} {u : Vt}, u.round = (pvV (r + 1) i c s).round - 1 → u.round = ((r + 1 : Nat) : Int) := fun {s u} hu => by
    have : (pvV (r + 1) i c s).round = ((r + 1 + 1 : Nat) : Int) := rfl
    rw [hu, this]; omega
  have rnd2 : ∀ {s : Int}, ((r + 1 : Nat) : Int) = (pvV (r + 1) i c s).round - 1 := fun {s} => by
    have : (pvV (r + 1) i c s).round = ((r + 1 + 1 : Nat) : Int) := rfl
    rw [this]; omega
  have ne1 : ∀ {s : Int}, ¬ ((pvV (r + 1) i c s).round == 1) = true := fun {s} => by
    have : (pvV (r + 1) i c s).round = ((r + 1 + 1 : Nat) : Int) := rfl
    rw [this, beq_iff_eq]; omega
  constructor
  · rintro ⟨s, hs⟩
    obtain ⟨hi, _, hb⟩ := PV.bit h ⟨s, hs⟩
    refine ⟨hi, hb, ?_⟩
    have hj : prevB (allM n) (quorum (n : Int)) a (pvV (r + 1) i c s) = true := h.jud_in h1 h7 hs
    unfold prevB at hj
    rw [if_neg ne1, Bool.or_eq_true, Bool.and_eq_true, Bool.and_eq_true, sup_iff, sup_iff] at hj
    have val : ∀ {u : Vt} {j : Nat}, u ∈ a → pvB (pvV (r + 1) i c s) u = true → u.signer = (j : Int) → j < n ∧ bitI (comT P C (quorum (n : Int)) r) c j = true := fun {u j} hu hp hsu => by
      unfold pvB at hp
      rw [Bool.and_eq_true, Bool.and_eq_true, beq_iff_eq, beq_iff_eq] at hp
      obtain ⟨c', hc', hx, he⟩ := h.pc hu hp.1.1 (rnd hp.1.2) hsu
      have : (c : Int) = u.choice := ((sameB_iff _ _).1 hp.2).1
      obtain rfl : c = c' := by omega
      exact (hC j c hc').1 hx
    have mix : ∀ {u : Vt} {j : Nat}, u ∈ a → pmB (pvV (r + 1) i c s) u = true → u.signer = (j : Int) → j < n ∧ bitI (comT P C (quorum (n : Int)) r) 2 j = true := fun {u j} hu hp hsu => by
      unfold pmB at hp
      rw [Bool.and_eq_true, Bool.and_eq_true, beq_iff_eq, beq_iff_eq, beq_iff_eq] at hp
      obtain ⟨c', hc', hx, he⟩ := h.pc hu hp.1.1 (rnd hp.1.2) hsu
      have hp2 := hp.2
      obtain rfl : c' = 2 := by omega
      exact (hC j 2 hc').1 hx
    have e2 : ∀ z : Int, (size (pvV (r + 1) i c s).support : Int) = z → (size s : Int) = z := fun z hz => hz
    rcases hj with ⟨⟨_, j2, j3⟩, hany⟩ | ⟨⟨_, j2, j3⟩, hany⟩
    · have e2 := e2 _ j2
      have : size s ≤ cntI n (fun i => bitI (comT P C (quorum (n : Int)) r) c i || bitI (comT P C (quorum (n : Int)) r) 2 i) := size_cnt fun j hj10 hjb => by
        obtain ⟨u, hu, hsu, hpu⟩ := j3 (j : Int) (bit_has hj10 hjb)
        rw [Bool.or_eq_true] at hpu
        rcases hpu with hpu | hpu
        · obtain ⟨b1, b2⟩ := val hu hpu hsu
          exact ⟨b1, by rw [b2]; rfl⟩
        · obtain ⟨b1, b2⟩ := mix hu hpu hsu
          exact ⟨b1, by rw [b2, Bool.or_true]⟩
      obtain ⟨u, hu, hpu⟩ := List.any_eq_true.1 hany
      rw [Bool.and_eq_true] at hpu
      obtain ⟨j, ej, _, _⟩ := has_nat hpu.1
      obtain ⟨b1, b2⟩ := val hu hpu.2 ej
      exact .inl ⟨by omega, cnt_pos_of b1 b2⟩
    · have e2 := e2 _ j2
      have : size s ≤ cntI n (bitI (comT P C (quorum (n : Int)) r) 2) := size_cnt fun j hj10 hjb => by
        obtain ⟨u, hu, hsu, hpu⟩ := j3 (j : Int) (bit_has hj10 hjb)
        exact mix hu hpu hsu
      obtain ⟨u, hu, hpu⟩ := List.any_eq_true.1 hany
      unfold pbB at hpu
      rw [Bool.and_eq_true, Bool.and_eq_true, beq_iff_eq, beq_iff_eq] at hpu
      obtain ⟨j, c', s', hj, hc', rfl, _⟩ := h.kind3 hu hpu.1.1 (rnd hpu.1.2)
      have : (c : Int) = (c' : Int) := ((sameB_iff _ _).1 hpu.2).1
      obtain rfl : c = c' := by omega
      obtain ⟨b1, b2⟩ := (hP j c hc').1 ⟨s', hu⟩
      exact .inr ⟨by omega, cnt_pos_of b1 b2⟩
  · rintro ⟨hi, hb, hp⟩
    have fin : ∀ s : Nat, s < 2 ^ n → size (s : Int) = qn → judB (allM n) (quorum (n : Int)) (pvV (r + 1) i c s) a = true → PV a (r + 1) i c := fun s s1 s2 hj =>
      ⟨(s : Int), h.put h1 h7 (mem_vot.2 (.inr (.inr ⟨r + 1, i, c, s, hr, hi, by omega, s1, by rw [s2, hq], .inl ⟨hb, by omega, rfl⟩⟩))) (ok_pv h1 h7 hi (by omega) hc (sup_all h7 s1).2 (fun e => by omega)) hj⟩
    rcases hp with ⟨hp1, hp2⟩ | ⟨hp1, hp2⟩
    · obtain ⟨x, hx, hx1⟩ := cnt_pos hp2
      have hlt : cntI n (fun i => (bitI (comT P C (quorum (n : Int)) r) c i || bitI (comT P C (quorum (n : Int)) r) 2 i) && decide (i = x)) ≤ qn := by
        have := (cnt_eq_le (fun i => bitI (comT P C (quorum (n : Int)) r) c i || bitI (comT P C (quorum (n : Int)) r) 2 i) x n).1
        omega
      obtain ⟨s, s1, s2, s3, s4⟩ := choose_mask (n := n) (q := qn) (fun i => bitI (comT P C (quorum (n : Int)) r) c i || bitI (comT P C (quorum (n : Int)) r) 2 i) (fun i => decide (i = x)) h7 hlt (by omega)
      have sx := s4 x hx (by rw [hx1]; rfl) (by simp)
      refine fin s s1 s2 ?_
      show prevB _ _ a (pvV (r + 1) i c s) = true
      unfold prevB
      rw [if_neg ne1, Bool.or_eq_true, Bool.and_eq_true]
      obtain ⟨tx, htx⟩ := (hC x c (by omega)).2 ⟨hx, hx1⟩
      refine .inl ⟨sup_iff.2 ⟨(sup_all h7 s1).1, by show (size ((s : Nat) : Int) : Int) = _; rw [s2, hq], fun j hj => ?_⟩, List.any_eq_true.2 ⟨_, htx, ?_⟩⟩
      · obtain ⟨j, rfl, hj1, _⟩ := has_nat (show hasB (s : Int) j = true from hj)
        obtain ⟨b1, b2⟩ := s3 j hj1
        rw [Bool.or_eq_true] at b2
        rcases b2 with b2 | b2
        · obtain ⟨s', hs'⟩ := (hC j c (by omega)).2 ⟨b1, b2⟩
          refine ⟨_, hs', rfl, ?_⟩
          rw [Bool.or_eq_true]
          left
          unfold pvB
          rw [← rnd2]
          unfold sameB pvV pcV; simp
        · obtain ⟨s', hs'⟩ := (hC j 2 (by omega)).2 ⟨b1, b2⟩
          refine ⟨_, hs', rfl, ?_⟩
          rw [Bool.or_eq_true]
          right
          unfold pmB
          rw [← rnd2]
          unfold pcV; simp
      · have : hasB (s : Int) (x : Int) = true := bit_has (by omega) sx
        rw [Bool.and_eq_true]
        refine ⟨this, ?_⟩
        unfold pvB
        rw [← rnd2]
        unfold sameB pvV pcV; simp
    · obtain ⟨x, hx, hx1⟩ := cnt_pos hp2
      obtain ⟨s, s1, s2, s3, _⟩ := choose_mask (n := n) (q := qn) (bitI (comT P C (quorum (n : Int)) r) 2) (fun _ => false) h7 (by
        have : cntI n (fun i => bitI (comT P C (quorum (n : Int)) r) 2 i && false) = 0 := cnt_zero fun i _ => Bool.and_false _
        omega) (by omega)
      refine fin s s1 s2 ?_
      show prevB _ _ a (pvV (r + 1) i c s) = true
      unfold prevB
      rw [if_neg ne1, Bool.or_eq_true, Bool.and_eq_true, Bool.and_eq_true]
      obtain ⟨tx, htx⟩ := (hP x c hc).2 ⟨hx, hx1⟩
      refine .inr ⟨sup_iff.2 ⟨(sup_all h7 s1).1, by show (size ((s : Nat) : Int) : Int) = _; rw [s2, hq], fun j hj => ?_⟩, List.any_eq_true.2 ⟨_, htx, ?_⟩⟩
      · obtain ⟨j, rfl, hj1, _⟩ := has_nat (show hasB (s : Int) j = true from hj)
        obtain ⟨s', hs'⟩ := (hC j 2 (by omega)).2 (s3 j hj1)
        refine ⟨_, hs', rfl, ?_⟩
        unfold pmB
        rw [← rnd2]
        unfold pcV; simp
      · unfold pbB
        rw [← rnd2]
        unfold sameB pvV; simp
theorem AgS.all (h : AgS P C n k a) (hv : VF P C n k) : ∀ r, r < k → (∀ i c, c < 2 → (PV a r i c ↔ i < n ∧ bitI (plT P C (quorum (n : Int)) r) c i = true)) ∧ ∀ i c, c < 3 → (PC a r i c ↔ i < n ∧ bitI (comT P C (quorum (n : Int)) r) c i = true)
  | 0, hr => by
    have h0 : ∀ i c, c < 2 → (PV a 0 i c ↔ i < n ∧ bitI (plT P C (quorum (n : Int)) 0) c i = true) := h.first hv
    exact ⟨h0, h.com hv hr h0⟩
  | r + 1, hr => by
    obtain ⟨h0, h1⟩ := h.all hv r (Nat.lt_of_succ_lt hr)
    have h2 := h.next hv hr h0 h1
    exact ⟨h2, h.com hv hr h2⟩
/-- What is decided. -/
theorem AgS.out (h : AgS P C n k a) (hv : VF P C n k) (o : Oc) : ((∃ v ∈ a, ocOf 0 v = some o) ∧ quorum (n : Int) ≤ (size (sgMask (ocOf 0) a o) : Int)) ↔ ∃ r c d x y, r < k ∧ Pair d c x y ∧ o = ⟨0, ((r + 1 : Nat) : Int), (c : Int), valC c⟩ ∧ dcd P C (quorum (n : Int)) r y = true := by
  have h1 := hv.n1
  have h7 := hv.n7
  obtain ⟨qn, hq, hq1, hqn⟩ := quorum_rng h1
  have oc : ∀ r i c s, c < 2 → ocOf 0 (pcV r i c s) = some ⟨0, ((r + 1 : Nat) : Int), (c : Int), valC c⟩ := fun r i c s hc => by
    unfold ocOf
    rw [if_pos]
    · rfl
    · rw [Bool.and_eq_true, bne_iff_ne]
      exact ⟨rfl, by show ((c : Nat) : Int) ≠ 2; omega⟩
  have un : ∀ {v : Vt}, v ∈ a → ocOf 0 v = some o → ∃ r i c s, r < k ∧ i < n ∧ c < 2 ∧ v = pcV r i c s ∧ o = ⟨0, ((r + 1 : Nat) : Int), (c : Int), valC c⟩ := fun {v} hv' ho => by
    obtain ⟨e1, e2, e3⟩ := ocOf_some ho
    obtain ⟨r, i, c, s, hr, hi, hc, rfl, _⟩ := h.kind4 hv' e1
    have e2 : (c : Int) ≠ 2 := e2
    exact ⟨r, i, c, s, hr, hi, by omega, rfl, e3⟩
  have mask : ∀ r c : Nat, r < k → c < 2 → o = ⟨0, ((r + 1 : Nat) : Int), (c : Int), valC c⟩ → ∀ i, i < 10 → (mb (sgMask (ocOf 0) a o) i = true ↔ PC a r i c) := fun r c hr hc ho i hi => by
    rw [mb_sgMask _ _ _ h.acc.sg i hi, List.any_eq_true]
    constructor
    · rintro ⟨u, hu, hp⟩
      rw [Bool.and_eq_true, decide_eq_true_eq, beq_iff_eq] at hp
      obtain ⟨r', i', c', s', _, _, _, rfl, he⟩ := un hu hp.1
      rw [ho, Oc.mk.injEq] at he
      obtain ⟨_, e1, e2, _⟩ := he
      obtain rfl : r = r' := by omega
      obtain rfl : c = c' := by omega
      obtain rfl : i' = i := Int.ofNat.inj hp.2
      exact ⟨s', hu⟩
    · rintro ⟨s, hs⟩
      exact ⟨_, hs, by rw [Bool.and_eq_true, decide_eq_true_eq, beq_iff_eq]; exact ⟨by rw [oc r i c s hc, ho], rfl⟩⟩
  constructor
  · rintro ⟨⟨v, hva, hvo⟩, hsz⟩
    obtain ⟨r, i, c, s, hr, hi, hc, _, ho⟩ := un hva hvo
    obtain ⟨d, x, y, hp⟩ := pair_of hc
    refine ⟨r, c, d, x, y, hr, hp, ho, ?_⟩
    rw [dcd_iff hv hr hp.symm]
    have := size_cnt (n := n) (s := sgMask (ocOf 0) a o) (f := bitI (comT P C (quorum (n : Int)) r) c) (fun j hj hb => (((h.all hv r hr).2 j c (by omega)).1 ((mask r c hr hc ho j hj).1 hb)))
    omega
  · rintro ⟨r, c, d, x, y, hr, hp, ho, hd⟩
    have hc : c < 2 := by rcases hp with ⟨_, rfl, _⟩ | ⟨_, rfl, _⟩ <;> decide
    rw [dcd_iff hv hr hp.symm] at hd
    have all := (h.all hv r hr).2
    refine ⟨?_, ?_⟩
    · obtain ⟨i, hi, hb⟩ := cnt_pos (n := n) (f := bitI (comT P C (quorum (n : Int)) r) c) (by omega)
      obtain ⟨s, hs⟩ := (all i c (by omega)).2 ⟨hi, hb⟩
      exact ⟨_, hs, by rw [oc r i c s hc, ho]⟩
    · have := cnt_size (n := n) (s := sgMask (ocOf 0) a o) (f := bitI (comT P C (quorum (n : Int)) r) c) h7 (fun j hj hb => (mask r c hr hc ho j (by omega)).2 ((all j c (by omega)).2 ⟨hj, hb⟩))
      omega
/-- The law. -/
theorem agrees_law (hv : VF P C n k) : (∀ o ∈ outV (allM n) Nm.zero (votV P C n k) 0, o.choice = 0 ∨ o.choice = 1) ∧ ((outV (allM n) Nm.zero (votV P C n k) 0).any (fun o => o.choice == 0)) = (decV P C).1 ∧ ((outV (allM n) Nm.zero (votV P C n k) 0).any (fun o => o.choice == 1)) = (decV P C).2 := by
  have h1 := hv.n1
  have h7 := hv.n7
  have hA := agS P C n k
  have hout : ∀ o, o ∈ outV (allM n) Nm.zero (votV P C n k) 0 ↔ ∃ r c d x y, r < k ∧ Pair d c x y ∧ o = ⟨0, ((r + 1 : Nat) : Int), (c : Int), valC c⟩ ∧ dcd P C (quorum (n : Int)) r y = true := fun o => by
    unfold outV
    rw [sgOut_mem, size_all h1 h7]
    exact hA.out hv o
  have hdec : (decV P C).1 = (List.range k).any (fun s => dcd P C (quorum (n : Int)) s 1) ∧ (decV P C).2 = (List.range k).any (fun s => dcd P C (quorum (n : Int)) s 2) := by
    obtain ⟨a, b, c, d⟩ := dec_any (P := P) (C := C) (q := quorum (n : Int)) k
    obtain ⟨e, f⟩ := and_bit a b
    unfold decV
    rw [hv.valid, cond_true, (hv.pr 0 hv.k1).1, hv.pl]
    exact ⟨e.trans c, f.trans d⟩
  have key : ∀ {c d : Nat} {x y : Int}, Pair d c x y → ((outV (allM n) Nm.zero (votV P C n k) 0).any (fun o => o.choice == (c : Int))) = (List.range k).any (fun s => dcd P C (quorum (n : Int)) s y) := fun {c d x y} hp => by
    apply bool_ext
    rw [List.any_eq_true, List.any_eq_true]
    constructor
    · rintro ⟨o, ho, hc⟩
      obtain ⟨r, c', d', x', y', hr, hp', rfl, hd⟩ := (hout o).1 ho
      have hc : (c' : Int) = (c : Int) := eq_of_beq hc
      obtain rfl : c' = c := by omega
      have : y' = y := by
        rcases hp with ⟨_, rfl, _, rfl⟩ | ⟨_, rfl, _, rfl⟩ <;> rcases hp' with ⟨_, h, _, rfl⟩ | ⟨_, h, _, rfl⟩ <;> first | rfl | (exfalso; revert h; decide)
      rw [this] at hd
      exact ⟨r, List.mem_range.2 hr, hd⟩
    · rintro ⟨r, hr, hd⟩
      exact ⟨_, (hout _).2 ⟨r, c, d, x, y, List.mem_range.1 hr, hp, rfl, hd⟩, by simp⟩
  refine ⟨fun o ho => ?_, ?_, ?_⟩
  · obtain ⟨r, c, d, x, y, _, hp, rfl, _⟩ := (hout o).1 ho
    rcases hp with ⟨_, rfl, _⟩ | ⟨_, rfl, _⟩
    · exact .inr rfl
    · exact .inl rfl
  · rw [hdec.1]; exact key (c := 0) (d := 1) (x := 2) (y := 1) (.inr ⟨rfl, rfl, rfl, rfl⟩)
  · rw [hdec.2]; exact key (c := 1) (d := 0) (x := 1) (y := 2) (.inl ⟨rfl, rfl, rfl, rfl⟩)
/-- How many votes there are. -/
theorem flat_len {α : Type} {l : List Nat} {f : Nat → List α} {m : Nat} (h : ∀ x ∈ l, (f x).length ≤ m) : (l.flatMap f).length ≤ l.length * m := by
  induction l with
  | nil => simp
  | cons x l ih =>
    rw [List.flatMap_cons, List.length_append, List.length_cons, Nat.succ_mul]
    have h1 := h x List.mem_cons_self
    have h2 := ih fun y hy => h y (List.mem_cons_of_mem _ hy)
    omega
theorem vtK_len (q : Int) (r m c s : Nat) : (vtK P C q r m c s).length ≤ 2 := by
  unfold vtK
  cases ((size (s : Int) : Int) != q) <;> cases (mb (ent P r m) c && (c != 2)) <;> cases mb (ent C r m) c <;> simp
theorem vtC_len (q : Int) (r m c : Nat) : (vtC P C n q r m c).length ≤ 2 ^ n * 2 := by
  have := flat_len (l := List.range (2 ^ n)) (f := vtK P C q r m c) (m := 2) fun s _ => vtK_len q r m c s
  rwa [List.length_range] at this
theorem vtM_len (q : Int) (r m : Nat) : (vtM P C n q r m).length ≤ 3 * (2 ^ n * 2) := by
  have := flat_len (l := List.range 3) (f := vtC P C n q r m) (m := 2 ^ n * 2) fun c _ => vtC_len q r m c
  rwa [List.length_range] at this
theorem vtR_len (q : Int) (r : Nat) : (vtR P C n q r).length ≤ n * (3 * (2 ^ n * 2)) := by
  have := flat_len (l := List.range n) (f := vtM P C n q r) (m := 3 * (2 ^ n * 2)) fun m _ => vtM_len q r m
  rwa [List.length_range] at this
end

end Go.Proofs.Ytphnfhonmbbddaa
