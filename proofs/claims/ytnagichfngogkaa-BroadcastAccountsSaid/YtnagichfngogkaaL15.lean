/- The walks of the laws of the proposal phase. -/
import Derived.Test.YtnagichfngogkaaBc
import Derived.Test.YtnagichfngogkaaGJ
namespace Go.Proofs.Ytnagichfngogkaa
open Go Go.RowKit
set_option linter.unusedVariables false

theorem take_allcut15_c {α : Type} {l : List α} (h : ¬ (250 : Int) < (l.length : Int)) : (l.take 250).length = l.length := by simp; omega
set_option maxRecDepth 100000 in
set_option maxHeartbeats 2000000 in
theorem cut15_c (l : List Vt) (A : Option Addr) (c : Nat) (w : World) (h1 : l.length ≤ c) (h2 : c ≤ maxLen) (hr : Rd w A l) : Calls Try.prog 11 #[.slice A (l.length) c] w (fun rr w' => rr = .returned (.slice A ((l.take 250).length) c) ∧ Below w.heap.size w w') := by
  refine calls_W (n := 9) Try.func11 rfl [(0, .slice A (l.length) c)] rfl ⟨by kernel_rfl, by kernel_rfl⟩ ?_
  refine W.weak (Ψ := St w []) (fun w' h => by rw [h]; exact St.start w) ?_
  refine W.seq ?_
  refine W.region [(0, false)] (by kernel_rfl) ?_
  refine T.pure 2 (.slice none (0) 0) (by kernel_rfl) (fun w => by kernel_rfl) ?_
  refine T.nil ?_
  refine QN.seq ?_
  refine W.seq ?_
  refine W.seq ?_
  refine W.region [(0, false), (1, false), (2, false)] (by kernel_rfl) ?_
  refine T.pure 3 (.slice A (l.length) c) (by kernel_rfl) (fun w => by kernel_rfl) ?_
  refine T.pure 4 (.int .i64 (((l.length : Nat) : Int))) (by kernel_rfl) (fun w => by kernel_rfl) ?_
  refine T.pure 5 (.bool (decide (250 < ((l.length : Nat) : Int)))) (by kernel_rfl) (fun w => by kernel_rfl) ?_
  refine T.nil ?_
  refine QN.seq ?_
  refine W.cond (decide (250 < ((l.length : Nat) : Int))) (by kernel_rfl) (fun h1 => ?_) (fun h1 => ?_)
  · skip
    have h1' := of_decide_eq_true h1
    refine W.seq ?_
    refine W.region [(0, false), (1, false), (2, false)] (by kernel_rfl) ?_
    refine T.pure 6 (.slice A (l.length) c) (by kernel_rfl) (fun w => by kernel_rfl) ?_
    have hsl2 : (l.take 250).length = 250 := by first | (simp; done) | (simp; omega)
    refine T.sliceTo 7 25 43 A (l.length) c (250) ((l.take 250).length) (by kernel_rfl) (by kernel_rfl) (by kernel_rfl) (by kernel_rfl) (by omega) (by omega) ?_
    refine T.pure 2 (.slice A ((l.take 250).length) c) (by kernel_rfl) (fun w => by kernel_rfl) ?_
    refine T.nil ?_
    refine QN.seq ?_
    refine W.ret ?_
    refine QN.thenRet ?_
    refine QN.done (.inl rfl) 2 (.slice A ((l.take 250).length) c) rfl (by kernel_rfl) (fun w hw => ⟨?_, hw.below⟩)
    exact rfl
  · skip
    have h1' := of_decide_eq_false h1
    refine W.skip ?_
    refine QN.seq ?_
    refine W.seq ?_
    refine W.region [(0, false), (1, false)] (by kernel_rfl) ?_
    refine T.pure 8 (.slice A (l.length) c) (by kernel_rfl) (fun w => by kernel_rfl) ?_
    refine T.pure 2 (.slice A (l.length) c) (by kernel_rfl) (fun w => by kernel_rfl) ?_
    refine T.nil ?_
    refine QN.seq ?_
    refine W.ret ?_
    refine QN.done (.inl rfl) 2 (.slice A (l.length) c) rfl (by kernel_rfl) (fun w hw => ⟨?_, hw.below⟩)
    exact congrArg (fun n => Ending.returned (.slice A n c)) (take_allcut15_c (by omega)).symm
theorem mb_sgMask64 {κ : Type} [Cel κ] [DecidableEq κ] (f : Vt → Option κ) (a : List Vt) (o : κ) (hs : ∀ v ∈ a, 0 ≤ v.signer ∧ v.signer < 10) (i : Nat) (hi : i < 64) : mb (sgMask f a o) i = a.any (fun v => decide (f v = some o) && (v.signer == (i : Int))) := by
  have : (∀ v ∈ a, 0 ≤ v.signer ∧ v.signer < 10) → mb (sgMask f a o) i = a.any (fun v => decide (f v = some o) && (v.signer == (i : Int))) := by
    refine snocI (p := fun a => (∀ v ∈ a, 0 ≤ v.signer ∧ v.signer < 10) → mb (sgMask f a o) i = a.any (fun v => decide (f v = some o) && (v.signer == (i : Int)))) (fun _ => ?_) (fun a v ih => fun hs => ?_) a
    · show mb 0 i = _; rw [mb_zero]; rfl
    · have ih' := ih fun u hu => hs u (by simp [hu])
      have hv := hs v (by simp)
      rw [sgMask_snoc, List.any_append]
      by_cases hf : f v = some o
      · rw [if_pos hf]
        simp only [mb_or, ih', mb_pow _ _ hi, List.any_cons, List.any_nil, hf, decide_true, Bool.true_and, Bool.or_false]
        congr 1
        rw [Bool.eq_iff_iff]; simp; omega
      · rw [if_neg hf, ih']
        simp [hf]
  exact this hs
theorem accB (m : Int) (p : Nm) (s : Int) (l : List Vt) : AccS m p s (bsV m p l s) :=
  ⟨fun v hv => (accV_mem hv).2, fun v hv => by
    have := (List.mem_filter.1 (accV_mem hv).1).2
    simpa [slP] using this, fun v hv => accV_has hv, fun v hv => accV_allow hv⟩
theorem kOf_some {k : Int} {v : Vt} {x : Nm} : kOf k v = some x ↔ v.kind = k ∧ v.val = x := by
  unfold kOf
  by_cases h : v.kind = k
  · rw [if_pos (by simpa using h)]; simp [h]
  · rw [if_neg (by simpa using h)]; simp [h]
theorem pkV_mem {q : Int} {mp : List (Nm × Int)} {x : Nm} : x ∈ pkV q mp ↔ ∃ y, (x, y) ∈ mp ∧ x ≠ Nm.zero ∧ q ≤ (size y : Int) := by
  unfold pkV
  rw [(isort_perm hless _).mem_iff, List.mem_map]
  constructor
  · rintro ⟨⟨x', y⟩, h, rfl⟩
    rw [List.mem_filter] at h
    have h2 := h.2
    unfold pkP at h2
    simp only [Bool.and_eq_true, bne_iff_ne, decide_eq_true_eq] at h2
    exact ⟨y, h.1, h2.1, h2.2⟩
  · rintro ⟨y, h1, h2, h3⟩
    refine ⟨(x, y), List.mem_filter.2 ⟨h1, ?_⟩, rfl⟩
    unfold pkP
    simp only [Bool.and_eq_true, bne_iff_ne, decide_eq_true_eq]
    exact ⟨h2, h3⟩
theorem pkV_nodup {q : Int} {mp : List (Nm × Int)} (h : (mp.map (·.1)).Nodup) : (pkV q mp).Nodup := by
  unfold pkV
  rw [(isort_perm hless _).nodup_iff]
  exact (List.Sublist.map _ List.filter_sublist).nodup h
theorem cer_mem {m : Int} {p : Nm} {l : List Vt} {s : Int} {x : Nm} : x ∈ cerV m p l s ↔ (∃ v ∈ bsV m p l s, v.kind = 2 ∧ v.val = x) ∧ x ≠ Nm.zero ∧ quorum (size m) ≤ (size (echV m p l s x) : Int) := by
  unfold cerV echV
  rw [pkV_mem, sgMap_val]
  constructor
  · rintro ⟨y, h1, h2, h3⟩
    rw [sgMap_mem] at h1
    obtain ⟨⟨v, hv, e⟩, rfl⟩ := h1
    exact ⟨⟨v, hv, kOf_some.1 e⟩, h2, h3⟩
  · rintro ⟨⟨v, hv, e⟩, h2, h3⟩
    exact ⟨_, sgMap_mem.2 ⟨⟨v, hv, kOf_some.2 e⟩, rfl⟩, h2, h3⟩
theorem pro_mem {m : Int} {p : Nm} {l : List Vt} {s : Int} {x : Nm} : x ∈ proV m p l s ↔ (∃ v ∈ bsV m p l s, v.kind = 1 ∧ v.val = x) ∧ x ≠ Nm.zero := by
  unfold proV
  rw [pkV_mem]
  constructor
  · rintro ⟨y, h1, h2, h3⟩
    rw [sgMap_mem] at h1
    obtain ⟨⟨v, hv, e⟩, rfl⟩ := h1
    exact ⟨⟨v, hv, kOf_some.1 e⟩, h2⟩
  · rintro ⟨⟨v, hv, e⟩, h2⟩
    refine ⟨_, sgMap_mem.2 ⟨⟨v, hv, kOf_some.2 e⟩, rfl⟩, h2, ?_⟩
    have hb := (accB m p s l).sg v hv
    have : v.signer.toNat ∈ ids (sgMask (kOf 1) (bsV m p l s) x) := by
      rw [mem_ids]
      refine ⟨by omega, ?_⟩
      rw [mb_sgMask _ _ _ (accB m p s l).sg _ (by omega), List.any_eq_true]
      refine ⟨v, hv, ?_⟩
      rw [Bool.and_eq_true, decide_eq_true_eq, beq_iff_eq]
      exact ⟨kOf_some.2 e, by omega⟩
    have := List.length_pos_of_mem this
    unfold size
    omega
/-- An accepted echo has a proposal behind it. -/
theorem echo_prop {m : Int} {p : Nm} {s : Int} {a : List Vt} (h : AccS m p s a) {v : Vt} (hv : v ∈ a) (hk : v.kind = 2) : ∃ u ∈ a, u.kind = 1 ∧ u.val = v.val := by
  have ha := h.allow v hv
  unfold allowB judB propB at ha
  simp [hk] at ha
  obtain ⟨_, u, hu, _, h2⟩ := ha
  unfold poB at h2
  simp only [Bool.and_eq_true, beq_iff_eq] at h2
  have := (sameB_iff _ _).1 h2.2
  exact ⟨u, hu, h2.1, this.2.symm⟩
theorem cer_pro {m : Int} {p : Nm} {l : List Vt} {s : Int} {x : Nm} (h : x ∈ cerV m p l s) : x ∈ proV m p l s := by
  obtain ⟨⟨v, hv, hk, e⟩, h2, _⟩ := cer_mem.1 h
  obtain ⟨u, hu, u1, u2⟩ := echo_prop (accB m p s l) hv hk
  exact pro_mem.2 ⟨⟨u, hu, u1, u2.trans e⟩, h2⟩
theorem ech_sub {m : Int} {p : Nm} {l : List Vt} {s : Int} {x : Nm} {i : Nat} (hi : i < 64) (h : mb (echV m p l s x) i = true) : mb m i = true := by
  unfold echV at h
  rw [sgMap_val, mb_sgMask64 _ _ _ (accB m p s l).sg i hi, List.any_eq_true] at h
  obtain ⟨v, hv, h⟩ := h
  rw [Bool.and_eq_true, beq_iff_eq] at h
  have h2 := ((accB m p s l).ok v hv).2.2.1
  have h3 := hasB_lt h2
  rw [h.2, hasB_nat _ _ (by omega)] at h2
  exact h2
theorem ech_and {m : Int} {p : Nm} {l : List Vt} {s : Int} {x : Nm} : bits .andNot .i64 (echV m p l s x) m = 0 := by
  refine mb_ext (w64_andNot _ _) (by unfold W64; omega) fun i hi => ?_
  rw [mb_andNot, mb_zero]
  cases h : mb (echV m p l s x) i with
  | false => rfl
  | true => rw [ech_sub hi h]; rfl
theorem pk_asc {q : Int} {mp : List (Nm × Int)} (h : (mp.map (·.1)).Nodup) {i j : Nat} (hi : i < (pkV q mp).length) (hj : j < (pkV q mp).length) (hij : i < j) : hless (pkV q mp)[i] (pkV q mp)[j] = true := by
  have hup : Up hless (pkV q mp) := swo_up hless_swo _
  have h1 := (List.pairwise_iff_getElem.1 hup) i j hi hj hij
  have h2 := (List.pairwise_iff_getElem.1 (pkV_nodup (q := q) h)) i j hi hj hij
  by_cases h3 : hless (pkV q mp)[i] (pkV q mp)[j] = true
  · exact h3
  · exact absurd (hless_tot (by simpa using h3) h1) h2
theorem proposed_w {m : Int} {p : Nm} {l : List Vt} {s : Int} {j : Nat} {hj : j < (cerV m p l s).length} {hj' : j - 1 < (cerV m p l s).length} {fo : Bool} (hfo : fo = (proV m p l s).any (fun x => x == (cerV m p l s)[j]))
    (h : ((((!fo) || ((decide (0 < (j : Int))) && (!(hless (cerV m p l s)[j - 1] (cerV m p l s)[j])))) || ((bits .andNot .i64 (echV m p l s (cerV m p l s)[j]) m) != 0)) || (decide ((size (echV m p l s (cerV m p l s)[j]) : Int) < quorum (size m)))) = true) : False := by
  have hm := List.getElem_mem hj
  have h1 : fo = true := by rw [hfo]; exact List.any_eq_true.2 ⟨_, cer_pro hm, by simp⟩
  have h2 := (cer_mem.1 hm).2.2
  rw [h1, ech_and] at h
  simp only [Bool.not_true, Bool.false_or, bne_self_eq_false, Bool.or_false, Bool.or_eq_true, Bool.and_eq_true, decide_eq_true_eq, Bool.not_eq_true'] at h
  rcases h with ⟨h3, h4⟩ | h3
  · have h5 : hless (cerV m p l s)[j - 1] (cerV m p l s)[j] = true := pk_asc (sgMap_keys _ _) hj' hj (by omega)
    rw [h4] at h5; cases h5
  · omega
theorem bcacc_w {m : Int} {p : Nm} {l l' : List Vt} {s : Int} {j k : Nat} {hj : j < (cerV m p l s).length} {hk : k < (cerV m p l' s).length} (h : (((cerV m p l s)[j] != (cerV m p l' s)[k]) && (decide ((size (bits .and .i64 (echV m p l s (cerV m p l s)[j]) (echV m p l' s (cerV m p l' s)[k])) : Int) < (2 * quorum (size m)) - (size m : Int)))) = true) : False := by
  simp only [Bool.and_eq_true, decide_eq_true_eq] at h
  have h1 := (cer_mem.1 (List.getElem_mem hj)).2.2
  have h2 := (cer_mem.1 (List.getElem_mem hk)).2.2
  have := meet_sets h1 h2 (fun i hi h => ech_sub (by omega) h) (fun i hi h => ech_sub (by omega) h)
  omega
def oneP (p : Nm) (s : Int) (u z : Vt) : Bool := ((((u.kind == 1) && (u.signer == s)) && (u.slot == s)) && (u.par == p)) && (confB u z)
theorem prop_self {m : Int} {p : Nm} {s : Int} {a : List Vt} (h : AccS m p s a) {v : Vt} (hv : v ∈ a) (hk : v.kind = 1) : v.signer = s := by
  have ha := h.allow v hv
  unfold allowB judB at ha
  simp [hk] at ha
  rw [ha.2, h.slot v hv]
theorem le_one {α : Type} {l : List α} (hn : l.Nodup) (h : ∀ x ∈ l, ∀ y ∈ l, x = y) : l.length ≤ 1 := by
  match l, hn, h with
  | [], _, _ => simp
  | [_], _, _ => simp
  | x :: y :: r, hn, h =>
    have := h x (by simp) y (by simp)
    subst this
    simp at hn
theorem one_pro {m : Int} {p : Nm} {l : List Vt} {s : Int} (h : ∀ i k (hi : i < l.length) (hk : k < i), oneP p s l[i] (l[k]'(by omega)) = false) {x y : Nm} (hx : x ∈ proV m p l s) (hy : y ∈ proV m p l s) : x = y := by
  obtain ⟨⟨u, hu, u1, u2⟩, _⟩ := pro_mem.1 hx
  obtain ⟨⟨z, hz, z1, z2⟩, _⟩ := pro_mem.1 hy
  by_cases e : x = y
  · exact e
  · exfalso
    have hA := accB m p s l
    have hul : u ∈ l := (List.mem_filter.1 (accV_mem hu).1).1
    have hzl : z ∈ l := (List.mem_filter.1 (accV_mem hz).1).1
    obtain ⟨i, hi, ei⟩ := List.mem_iff_getElem.1 hul
    obtain ⟨k, hk, ek⟩ := List.mem_iff_getElem.1 hzl
    have hne : u ≠ z := fun e2 => by subst e2; exact e (u2.symm.trans z2)
    have su := prop_self hA hu u1
    have sz := prop_self hA hz z1
    have ru := valid_kind2 (hA.ok u hu).1 (.inl u1)
    have rz := valid_kind2 (hA.ok z hz).1 (.inl z1)
    have c1 : confB u z = true := conf_intro hne (hA.ok u hu).1 (hA.ok z hz).1 (by omega) ((hA.par u hu).trans (hA.par z hz).symm) ((hA.slot u hu).trans (hA.slot z hz).symm) (by omega) (by omega)
    have c2 : confB z u = true := conf_intro (Ne.symm hne) (hA.ok z hz).1 (hA.ok u hu).1 (by omega) ((hA.par z hz).trans (hA.par u hu).symm) ((hA.slot z hz).trans (hA.slot u hu).symm) (by omega) (by omega)
    have p1 : oneP p s u z = true := by unfold oneP; rw [c1, u1, su, hA.slot u hu, hA.par u hu]; simp
    have p2 : oneP p s z u = true := by unfold oneP; rw [c2, z1, sz, hA.slot z hz, hA.par z hz]; simp
    rcases Nat.lt_trichotomy i k with h1 | h1 | h1
    · have := h k i hk h1
      rw [ei, ek, p2] at this; cases this
    · subst h1; exact hne (ei.symm.trans ek)
    · have := h i k hi h1
      rw [ei, ek, p1] at this; cases this
theorem one_w {m : Int} {p : Nm} {l : List Vt} {s : Int} (h : ∀ i k (hi : i < l.length) (hk : k < i), oneP p s l[i] (l[k]'(by omega)) = false) :
    (((decide (((((cerV m p l s).length : Nat)) : Int) ≤ 1)) && (decide (((((proV m p l s).length : Nat)) : Int) ≤ 1))) && true) = true := by
  have h1 : (proV m p l s).length ≤ 1 := le_one (pkV_nodup (sgMap_keys _ _)) fun x hx y hy => one_pro h hx hy
  have h2 : (cerV m p l s).length ≤ 1 := le_one (pkV_nodup (sgMap_keys _ _)) fun x hx y hy => one_pro h (cer_pro hx) (cer_pro hy)
  simp only [Bool.and_true, Bool.and_eq_true, decide_eq_true_eq]
  omega
set_option maxRecDepth 100000 in
set_option maxHeartbeats 2000000 in
theorem awake15_c (w : World) : Calls Try.prog 16 #[] w (fun rr w' => rr = .returned (.bool (true)) ∧ Below w.heap.size w w') := by
  refine calls_W (n := 30) Try.func16 rfl [] rfl ⟨by kernel_rfl, by kernel_rfl⟩ ?_
  refine W.weak (Ψ := St w []) (fun w' h => by rw [h]; exact St.start w) ?_
  refine W.seq ?_
  refine W.region [(0, false)] (by kernel_rfl) ?_
  refine T.pure 0 (.bool (false)) (by kernel_rfl) (fun w => by kernel_rfl) ?_
  refine T.nil ?_
  refine QN.seq ?_
  refine W.seq ?_
  refine W.region [(0, false), (1, false), (2, false)] (by kernel_rfl) ?_
  refine T.pure 4 (.agg (({ Nm.zero with b0 := 1 } : Nm)).cs) (by kernel_rfl) (fun w => by kernel_rfl) ?_
  refine T.alloc 1 24 (Nm.zero).cs (by kernel_rfl) (by kernel_rfl) (by kernel_rfl) (fun _ _ _ => trivial) (fun b1 => ?_)
  refine T.storeP 24 b1 0 (.agg (({ Nm.zero with b0 := 1 } : Nm)).cs) (Nm.zero).cs (({ Nm.zero with b0 := 1 } : Nm)).cs 24 (by kernel_rfl) (by kernel_rfl) (by kernel_rfl) (by kernel_rfl) (by kernel_rfl) (by kernel_rfl) (List.Perm.refl _) (fun _ _ => trivial) ?_
  refine T.nil ?_
  refine QN.seq ?_
  refine W.seq ?_
  refine W.region [(0, false), (1, false), (2, false), (3, false), (4, false), (5, false)] (by kernel_rfl) ?_
  refine T.loadR false 5 (({ Nm.zero with b0 := 1 } : Nm)).cs 24 b1 0 (by kernel_rfl) (by kernel_rfl) (by kernel_rfl) (by kernel_rfl) (fun w h => St.rangeM h (({ Nm.zero with b0 := 1 } : Nm)).cs (.head _) (by kernel_rfl)) ?_
  refine T.pure 6 (.agg ((⟨1, 0, 0, 1, 0, 0, Nm.zero, ({ Nm.zero with b0 := 1 } : Nm)⟩ : Vt)).cs) (by kernel_rfl) (fun w => by kernel_rfl) ?_
  refine T.loadR false 7 (({ Nm.zero with b0 := 1 } : Nm)).cs 24 b1 0 (by kernel_rfl) (by kernel_rfl) (by kernel_rfl) (by kernel_rfl) (fun w h => St.rangeM h (({ Nm.zero with b0 := 1 } : Nm)).cs (.head _) (by kernel_rfl)) ?_
  refine T.pure 8 (.agg ((⟨2, 0, 0, 1, 0, 0, Nm.zero, ({ Nm.zero with b0 := 1 } : Nm)⟩ : Vt)).cs) (by kernel_rfl) (fun w => by kernel_rfl) ?_
  refine T.lit 9 25 43 2 #[(0, .agg ((⟨1, 0, 0, 1, 0, 0, Nm.zero, ({ Nm.zero with b0 := 1 } : Nm)⟩ : Vt)).cs), (1, .agg ((⟨2, 0, 0, 1, 0, 0, Nm.zero, ({ Nm.zero with b0 := 1 } : Nm)⟩ : Vt)).cs)] (cells ([(⟨1, 0, 0, 1, 0, 0, Nm.zero, ({ Nm.zero with b0 := 1 } : Nm)⟩ : Vt), (⟨2, 0, 0, 1, 0, 0, Nm.zero, ({ Nm.zero with b0 := 1 } : Nm)⟩ : Vt)] : List Vt)).toArray (by kernel_rfl) (by kernel_rfl) (by kernel_rfl) (by kernel_rfl) (fun _ _ _ => trivial) (fun b2 => ?_)
  refine T.pure 2 (.slice (some ⟨b2, 0, none⟩) (2) 2) (by kernel_rfl) (fun w => by kernel_rfl) ?_
  refine T.nil ?_
  refine QN.seq ?_
  refine W.seq ?_
  refine W.region [(0, false), (1, false), (2, false), (3, false)] (by kernel_rfl) ?_
  refine T.pure 10 (.agg (Nm.zero).cs) (by kernel_rfl) (fun w => by kernel_rfl) ?_
  refine T.pure 11 (.slice (some ⟨b2, 0, none⟩) (2) 2) (by kernel_rfl) (fun w => by kernel_rfl) ?_
  refine T.callR 12 12 #[.int .i64 (1), .agg (Nm.zero).cs, .slice (some ⟨b2, 0, none⟩) (2) 2, .int .i64 (0)] 24 8 (cerV 1 Nm.zero ([(⟨1, 0, 0, 1, 0, 0, Nm.zero, ({ Nm.zero with b0 := 1 } : Nm)⟩ : Vt), (⟨2, 0, 0, 1, 0, 0, Nm.zero, ({ Nm.zero with b0 := 1 } : Nm)⟩ : Vt)]) 0).length (cells (cerV 1 Nm.zero ([(⟨1, 0, 0, 1, 0, 0, Nm.zero, ({ Nm.zero with b0 := 1 } : Nm)⟩ : Vt), (⟨2, 0, 0, 1, 0, 0, Nm.zero, ({ Nm.zero with b0 := 1 } : Nm)⟩ : Vt)]) 0)) (by kernel_rfl) (by kernel_rfl) ent12 (fun w hw => certified_c 1 Nm.zero ([(⟨1, 0, 0, 1, 0, 0, Nm.zero, ({ Nm.zero with b0 := 1 } : Nm)⟩ : Vt), (⟨2, 0, 0, 1, 0, 0, Nm.zero, ({ Nm.zero with b0 := 1 } : Nm)⟩ : Vt)]) 0 (some ⟨b2, 0, none⟩) 2 w (by first | assumption | exact w64_and _ _ | exact w64_or _ _ | exact w64_andNot _ _ | (unfold W64; omega)) (by intro u hu; simp only [List.mem_cons, List.not_mem_nil, or_false] at hu; rcases hu with rfl | rfl <;> (unfold W64; decide)) (by first | omega | (simp; done) | (simp; omega)) (Arr.rd (Arr.lit (.head _)) hw)) (fun _ _ _ => trivial) (fun A3 c4 Hr5 hrow6 => ?_)
  refine T.pure 3 (.slice A3 ((cerV 1 Nm.zero ([(⟨1, 0, 0, 1, 0, 0, Nm.zero, ({ Nm.zero with b0 := 1 } : Nm)⟩ : Vt), (⟨2, 0, 0, 1, 0, 0, Nm.zero, ({ Nm.zero with b0 := 1 } : Nm)⟩ : Vt)]) 0).length) c4) (by kernel_rfl) (fun w => by kernel_rfl) ?_
  refine T.nil ?_
  refine QN.seq ?_
  refine W.seq ?_
  refine W.drawn (Ψ := St w (Hr5 ++ [(b2, Obj.cells (cells ([(⟨1, 0, 0, 1, 0, 0, Nm.zero, ({ Nm.zero with b0 := 1 } : Nm)⟩ : Vt), (⟨2, 0, 0, 1, 0, 0, Nm.zero, ({ Nm.zero with b0 := 1 } : Nm)⟩ : Vt)] : List Vt)).toArray 43 (0, 0)), (b1, Obj.cells (({ Nm.zero with b0 := 1 } : Nm)).cs 24 (0, 0))])) (St w (Hr5 ++ [(b2, Obj.cells (cells ([(⟨1, 0, 0, 1, 0, 0, Nm.zero, ({ Nm.zero with b0 := 1 } : Nm)⟩ : Vt), (⟨2, 0, 0, 1, 0, 0, Nm.zero, ({ Nm.zero with b0 := 1 } : Nm)⟩ : Vt)] : List Vt)).toArray 43 (0, 0)), (b1, Obj.cells (({ Nm.zero with b0 := 1 } : Nm)).cs 24 (0, 0))])) [(0, true), (1, true), (2, true), (3, true), (4, true), (5, true), (6, true), (7, true), (8, true), (9, true), (10, true), (11, true), (12, true), (13, true), (14, false), (15, true), (16, true), (17, false)] hmx (by kernel_rfl) (NoPanic.then (NoPanic.body)) (fun w h => h.drew) (fun w h => h) ?_
  have hc1 : 0 < (cerV 1 Nm.zero ([(⟨1, 0, 0, 1, 0, 0, Nm.zero, ({ Nm.zero with b0 := 1 } : Nm)⟩ : Vt), (⟨2, 0, 0, 1, 0, 0, Nm.zero, ({ Nm.zero with b0 := 1 } : Nm)⟩ : Vt)]) 0).length := by decide +kernel
  refine T.pure 13 (.slice A3 ((cerV 1 Nm.zero ([(⟨1, 0, 0, 1, 0, 0, Nm.zero, ({ Nm.zero with b0 := 1 } : Nm)⟩ : Vt), (⟨2, 0, 0, 1, 0, 0, Nm.zero, ({ Nm.zero with b0 := 1 } : Nm)⟩ : Vt)]) 0).length) c4) (by kernel_rfl) (fun w => by kernel_rfl) ?_
  refine T.pure 14 (.int .i64 ((((cerV 1 Nm.zero ([(⟨1, 0, 0, 1, 0, 0, Nm.zero, ({ Nm.zero with b0 := 1 } : Nm)⟩ : Vt), (⟨2, 0, 0, 1, 0, 0, Nm.zero, ({ Nm.zero with b0 := 1 } : Nm)⟩ : Vt)]) 0).length : Nat) : Int))) (by kernel_rfl) (fun w => by kernel_rfl) ?_
  refine T.pure 15 (.bool ((((cerV 1 Nm.zero ([(⟨1, 0, 0, 1, 0, 0, Nm.zero, ({ Nm.zero with b0 := 1 } : Nm)⟩ : Vt), (⟨2, 0, 0, 1, 0, 0, Nm.zero, ({ Nm.zero with b0 := 1 } : Nm)⟩ : Vt)]) 0).length : Nat) : Int) == 1)) (by kernel_rfl) (fun w => by kernel_rfl) ?_
  refine T.pure 16 (.bool ((((cerV 1 Nm.zero ([(⟨1, 0, 0, 1, 0, 0, Nm.zero, ({ Nm.zero with b0 := 1 } : Nm)⟩ : Vt), (⟨2, 0, 0, 1, 0, 0, Nm.zero, ({ Nm.zero with b0 := 1 } : Nm)⟩ : Vt)]) 0).length : Nat) : Int) == 1)) (by kernel_rfl) (fun w => by kernel_rfl) ?_
  refine T.blk [(4, true), (5, true), (6, true), (7, true), (8, true)] [(9, true), (10, true), (11, true), (12, true), (13, true), (14, false), (15, true), (16, true), (17, false)] 3 true ((((cerV 1 Nm.zero ([(⟨1, 0, 0, 1, 0, 0, Nm.zero, ({ Nm.zero with b0 := 1 } : Nm)⟩ : Vt), (⟨2, 0, 0, 1, 0, 0, Nm.zero, ({ Nm.zero with b0 := 1 } : Nm)⟩ : Vt)]) 0).length : Nat) : Int) == 1) 16 21 (.bool (((cerV 1 Nm.zero ([(⟨1, 0, 0, 1, 0, 0, Nm.zero, ({ Nm.zero with b0 := 1 } : Nm)⟩ : Vt), (⟨2, 0, 0, 1, 0, 0, Nm.zero, ({ Nm.zero with b0 := 1 } : Nm)⟩ : Vt)]) 0)[0]'hc1) == ({ Nm.zero with b0 := 1 } : Nm))) (by kernel_rfl) (by kernel_rfl) (by kernel_rfl) (fun hg7 => ?_) ?_
  · have hg7_ := hg7
    have hg7' := eq_of_beq hg7
    refine T.pure 17 (.slice A3 ((cerV 1 Nm.zero ([(⟨1, 0, 0, 1, 0, 0, Nm.zero, ({ Nm.zero with b0 := 1 } : Nm)⟩ : Vt), (⟨2, 0, 0, 1, 0, 0, Nm.zero, ({ Nm.zero with b0 := 1 } : Nm)⟩ : Vt)]) 0).length) c4) (by kernel_rfl) (fun w => by kernel_rfl) ?_
    obtain ⟨b8, o9, hA10, hr11⟩ := (Arr.row hrow6 (rfl) (rfl) _) 0 hc1
    refine T.index 18 27 24 8 A3 ((cerV 1 Nm.zero ([(⟨1, 0, 0, 1, 0, 0, Nm.zero, ({ Nm.zero with b0 := 1 } : Nm)⟩ : Vt), (⟨2, 0, 0, 1, 0, 0, Nm.zero, ({ Nm.zero with b0 := 1 } : Nm)⟩ : Vt)]) 0).length) c4 (0) (0) b8 o9 (by kernel_rfl) (by kernel_rfl) (by kernel_rfl) (by kernel_rfl) hA10 (by omega) (by omega) ?_
    refine T.loadR true 19 (((cerV 1 Nm.zero ([(⟨1, 0, 0, 1, 0, 0, Nm.zero, ({ Nm.zero with b0 := 1 } : Nm)⟩ : Vt), (⟨2, 0, 0, 1, 0, 0, Nm.zero, ({ Nm.zero with b0 := 1 } : Nm)⟩ : Vt)]) 0)[0]'hc1)).cs 24 b8 (o9 + 0 * 8) (by kernel_rfl) (by kernel_rfl) (by kernel_rfl) (by kernel_rfl) hr11 ?_
    refine T.loadR true 20 (({ Nm.zero with b0 := 1 } : Nm)).cs 24 b1 0 (by kernel_rfl) (by kernel_rfl) (by kernel_rfl) (by kernel_rfl) (fun w h => St.rangeM h (({ Nm.zero with b0 := 1 } : Nm)).cs (List.mem_append_right _ (.tail _ (.head _))) (by kernel_rfl)) ?_
    refine T.eqq 21 (((cerV 1 Nm.zero ([(⟨1, 0, 0, 1, 0, 0, Nm.zero, ({ Nm.zero with b0 := 1 } : Nm)⟩ : Vt), (⟨2, 0, 0, 1, 0, 0, Nm.zero, ({ Nm.zero with b0 := 1 } : Nm)⟩ : Vt)]) 0)[0]'hc1) == ({ Nm.zero with b0 := 1 } : Nm)) (((cerV 1 Nm.zero ([(⟨1, 0, 0, 1, 0, 0, Nm.zero, ({ Nm.zero with b0 := 1 } : Nm)⟩ : Vt), (⟨2, 0, 0, 1, 0, 0, Nm.zero, ({ Nm.zero with b0 := 1 } : Nm)⟩ : Vt)]) 0)[0]'hc1) == ({ Nm.zero with b0 := 1 } : Nm)) false 24 (((cerV 1 Nm.zero ([(⟨1, 0, 0, 1, 0, 0, Nm.zero, ({ Nm.zero with b0 := 1 } : Nm)⟩ : Vt), (⟨2, 0, 0, 1, 0, 0, Nm.zero, ({ Nm.zero with b0 := 1 } : Nm)⟩ : Vt)]) 0)[0]'hc1)).cs (({ Nm.zero with b0 := 1 } : Nm)).cs (by kernel_rfl) (by kernel_rfl) (by kernel_rfl) (by kernel_rfl) (fun w => eq_nm w ((cerV 1 Nm.zero ([(⟨1, 0, 0, 1, 0, 0, Nm.zero, ({ Nm.zero with b0 := 1 } : Nm)⟩ : Vt), (⟨2, 0, 0, 1, 0, 0, Nm.zero, ({ Nm.zero with b0 := 1 } : Nm)⟩ : Vt)]) 0)[0]'hc1) ({ Nm.zero with b0 := 1 } : Nm)) ?_
    exact T.blkEnd (by kernel_rfl) (fun w h => h)
  refine T.and 22 ((((cerV 1 Nm.zero ([(⟨1, 0, 0, 1, 0, 0, Nm.zero, ({ Nm.zero with b0 := 1 } : Nm)⟩ : Vt), (⟨2, 0, 0, 1, 0, 0, Nm.zero, ({ Nm.zero with b0 := 1 } : Nm)⟩ : Vt)]) 0).length : Nat) : Int) == 1) (((cerV 1 Nm.zero ([(⟨1, 0, 0, 1, 0, 0, Nm.zero, ({ Nm.zero with b0 := 1 } : Nm)⟩ : Vt), (⟨2, 0, 0, 1, 0, 0, Nm.zero, ({ Nm.zero with b0 := 1 } : Nm)⟩ : Vt)]) 0)[0]'hc1) == ({ Nm.zero with b0 := 1 } : Nm)) (by kernel_rfl) (by kernel_rfl) ?_
  refine T.pure 23 (.bool (((((cerV 1 Nm.zero ([(⟨1, 0, 0, 1, 0, 0, Nm.zero, ({ Nm.zero with b0 := 1 } : Nm)⟩ : Vt), (⟨2, 0, 0, 1, 0, 0, Nm.zero, ({ Nm.zero with b0 := 1 } : Nm)⟩ : Vt)]) 0).length : Nat) : Int) == 1) && (((cerV 1 Nm.zero ([(⟨1, 0, 0, 1, 0, 0, Nm.zero, ({ Nm.zero with b0 := 1 } : Nm)⟩ : Vt), (⟨2, 0, 0, 1, 0, 0, Nm.zero, ({ Nm.zero with b0 := 1 } : Nm)⟩ : Vt)]) 0)[0]'hc1) == ({ Nm.zero with b0 := 1 } : Nm)))) (by kernel_rfl) (fun w => by kernel_rfl) ?_
  refine T.blk [(11, true), (12, true), (13, true), (14, false), (15, true)] [(16, true), (17, false)] 10 true (((((cerV 1 Nm.zero ([(⟨1, 0, 0, 1, 0, 0, Nm.zero, ({ Nm.zero with b0 := 1 } : Nm)⟩ : Vt), (⟨2, 0, 0, 1, 0, 0, Nm.zero, ({ Nm.zero with b0 := 1 } : Nm)⟩ : Vt)]) 0).length : Nat) : Int) == 1) && (((cerV 1 Nm.zero ([(⟨1, 0, 0, 1, 0, 0, Nm.zero, ({ Nm.zero with b0 := 1 } : Nm)⟩ : Vt), (⟨2, 0, 0, 1, 0, 0, Nm.zero, ({ Nm.zero with b0 := 1 } : Nm)⟩ : Vt)]) 0)[0]'hc1) == ({ Nm.zero with b0 := 1 } : Nm))) 23 28 (.bool ((echV 1 Nm.zero ([(⟨1, 0, 0, 1, 0, 0, Nm.zero, ({ Nm.zero with b0 := 1 } : Nm)⟩ : Vt), (⟨2, 0, 0, 1, 0, 0, Nm.zero, ({ Nm.zero with b0 := 1 } : Nm)⟩ : Vt)]) 0 ({ Nm.zero with b0 := 1 } : Nm)) == 1)) (by kernel_rfl) (by kernel_rfl) (by kernel_rfl) (fun hg12 => ?_) ?_
  · have hg12_ := hg12
    have hg12l := (Bool.and_eq_true_iff.1 hg12).1
    have hg12r := (Bool.and_eq_true_iff.1 hg12).2
    have hg12l' := eq_of_beq hg12l
    refine T.pure 24 (.agg (Nm.zero).cs) (by kernel_rfl) (fun w => by kernel_rfl) ?_
    refine T.pure 25 (.slice (some ⟨b2, 0, none⟩) (2) 2) (by kernel_rfl) (fun w => by kernel_rfl) ?_
    refine T.loadR true 26 (({ Nm.zero with b0 := 1 } : Nm)).cs 24 b1 0 (by kernel_rfl) (by kernel_rfl) (by kernel_rfl) (by kernel_rfl) (fun w h => St.rangeM h (({ Nm.zero with b0 := 1 } : Nm)).cs (List.mem_append_right _ (.tail _ (.head _))) (by kernel_rfl)) ?_
    refine T.callP 27 14 #[.int .i64 (1), .agg (Nm.zero).cs, .slice (some ⟨b2, 0, none⟩) (2) 2, .int .i64 (0), .agg (({ Nm.zero with b0 := 1 } : Nm)).cs] (.int .i64 (echV 1 Nm.zero ([(⟨1, 0, 0, 1, 0, 0, Nm.zero, ({ Nm.zero with b0 := 1 } : Nm)⟩ : Vt), (⟨2, 0, 0, 1, 0, 0, Nm.zero, ({ Nm.zero with b0 := 1 } : Nm)⟩ : Vt)]) 0 ({ Nm.zero with b0 := 1 } : Nm))) (by kernel_rfl) (by kernel_rfl) ent14 (fun w hw => echoers_c 1 Nm.zero ([(⟨1, 0, 0, 1, 0, 0, Nm.zero, ({ Nm.zero with b0 := 1 } : Nm)⟩ : Vt), (⟨2, 0, 0, 1, 0, 0, Nm.zero, ({ Nm.zero with b0 := 1 } : Nm)⟩ : Vt)]) 0 ({ Nm.zero with b0 := 1 } : Nm) (some ⟨b2, 0, none⟩) 2 w (by first | assumption | exact w64_and _ _ | exact w64_or _ _ | exact w64_andNot _ _ | (unfold W64; omega)) (by intro u hu; simp only [List.mem_cons, List.not_mem_nil, or_false] at hu; rcases hu with rfl | rfl <;> (unfold W64; decide)) (by first | omega | (simp; done) | (simp; omega)) (Arr.rd (Arr.lit (List.mem_append_right _ (.head _))) hw)) (fun w h => h) ?_
    refine T.pure 28 (.bool ((echV 1 Nm.zero ([(⟨1, 0, 0, 1, 0, 0, Nm.zero, ({ Nm.zero with b0 := 1 } : Nm)⟩ : Vt), (⟨2, 0, 0, 1, 0, 0, Nm.zero, ({ Nm.zero with b0 := 1 } : Nm)⟩ : Vt)]) 0 ({ Nm.zero with b0 := 1 } : Nm)) == 1)) (by kernel_rfl) (fun w => by kernel_rfl) ?_
    exact T.blkEnd (by kernel_rfl) (fun w h => h)
  refine T.and 29 (((((cerV 1 Nm.zero ([(⟨1, 0, 0, 1, 0, 0, Nm.zero, ({ Nm.zero with b0 := 1 } : Nm)⟩ : Vt), (⟨2, 0, 0, 1, 0, 0, Nm.zero, ({ Nm.zero with b0 := 1 } : Nm)⟩ : Vt)]) 0).length : Nat) : Int) == 1) && (((cerV 1 Nm.zero ([(⟨1, 0, 0, 1, 0, 0, Nm.zero, ({ Nm.zero with b0 := 1 } : Nm)⟩ : Vt), (⟨2, 0, 0, 1, 0, 0, Nm.zero, ({ Nm.zero with b0 := 1 } : Nm)⟩ : Vt)]) 0)[0]'hc1) == ({ Nm.zero with b0 := 1 } : Nm))) ((echV 1 Nm.zero ([(⟨1, 0, 0, 1, 0, 0, Nm.zero, ({ Nm.zero with b0 := 1 } : Nm)⟩ : Vt), (⟨2, 0, 0, 1, 0, 0, Nm.zero, ({ Nm.zero with b0 := 1 } : Nm)⟩ : Vt)]) 0 ({ Nm.zero with b0 := 1 } : Nm)) == 1) (by kernel_rfl) (by kernel_rfl) ?_
  refine T.pure 0 (.bool ((((((cerV 1 Nm.zero ([(⟨1, 0, 0, 1, 0, 0, Nm.zero, ({ Nm.zero with b0 := 1 } : Nm)⟩ : Vt), (⟨2, 0, 0, 1, 0, 0, Nm.zero, ({ Nm.zero with b0 := 1 } : Nm)⟩ : Vt)]) 0).length : Nat) : Int) == 1) && (((cerV 1 Nm.zero ([(⟨1, 0, 0, 1, 0, 0, Nm.zero, ({ Nm.zero with b0 := 1 } : Nm)⟩ : Vt), (⟨2, 0, 0, 1, 0, 0, Nm.zero, ({ Nm.zero with b0 := 1 } : Nm)⟩ : Vt)]) 0)[0]'hc1) == ({ Nm.zero with b0 := 1 } : Nm))) && ((echV 1 Nm.zero ([(⟨1, 0, 0, 1, 0, 0, Nm.zero, ({ Nm.zero with b0 := 1 } : Nm)⟩ : Vt), (⟨2, 0, 0, 1, 0, 0, Nm.zero, ({ Nm.zero with b0 := 1 } : Nm)⟩ : Vt)]) 0 ({ Nm.zero with b0 := 1 } : Nm)) == 1))) (by kernel_rfl) (fun w => by kernel_rfl) ?_
  refine T.nil ?_
  refine QN.seq ?_
  refine W.ret ?_
  refine QN.done (.inl rfl) 0 (.bool ((((((cerV 1 Nm.zero ([(⟨1, 0, 0, 1, 0, 0, Nm.zero, ({ Nm.zero with b0 := 1 } : Nm)⟩ : Vt), (⟨2, 0, 0, 1, 0, 0, Nm.zero, ({ Nm.zero with b0 := 1 } : Nm)⟩ : Vt)]) 0).length : Nat) : Int) == 1) && (((cerV 1 Nm.zero ([(⟨1, 0, 0, 1, 0, 0, Nm.zero, ({ Nm.zero with b0 := 1 } : Nm)⟩ : Vt), (⟨2, 0, 0, 1, 0, 0, Nm.zero, ({ Nm.zero with b0 := 1 } : Nm)⟩ : Vt)]) 0)[0]'hc1) == ({ Nm.zero with b0 := 1 } : Nm))) && ((echV 1 Nm.zero ([(⟨1, 0, 0, 1, 0, 0, Nm.zero, ({ Nm.zero with b0 := 1 } : Nm)⟩ : Vt), (⟨2, 0, 0, 1, 0, 0, Nm.zero, ({ Nm.zero with b0 := 1 } : Nm)⟩ : Vt)]) 0 ({ Nm.zero with b0 := 1 } : Nm)) == 1))) rfl (by kernel_rfl) (fun w hw => ⟨?_, hw.below⟩)
  exact ret_bool ((by decide +kernel : ∀ hc1 : 0 < (cerV 1 Nm.zero ([(⟨1, 0, 0, 1, 0, 0, Nm.zero, ({ Nm.zero with b0 := 1 } : Nm)⟩ : Vt), (⟨2, 0, 0, 1, 0, 0, Nm.zero, ({ Nm.zero with b0 := 1 } : Nm)⟩ : Vt)]) 0).length, ((((((cerV 1 Nm.zero ([(⟨1, 0, 0, 1, 0, 0, Nm.zero, ({ Nm.zero with b0 := 1 } : Nm)⟩ : Vt), (⟨2, 0, 0, 1, 0, 0, Nm.zero, ({ Nm.zero with b0 := 1 } : Nm)⟩ : Vt)]) 0).length : Nat) : Int) == 1) && (((cerV 1 Nm.zero ([(⟨1, 0, 0, 1, 0, 0, Nm.zero, ({ Nm.zero with b0 := 1 } : Nm)⟩ : Vt), (⟨2, 0, 0, 1, 0, 0, Nm.zero, ({ Nm.zero with b0 := 1 } : Nm)⟩ : Vt)]) 0)[0]'hc1) == ({ Nm.zero with b0 := 1 } : Nm))) && ((echV 1 Nm.zero ([(⟨1, 0, 0, 1, 0, 0, Nm.zero, ({ Nm.zero with b0 := 1 } : Nm)⟩ : Vt), (⟨2, 0, 0, 1, 0, 0, Nm.zero, ({ Nm.zero with b0 := 1 } : Nm)⟩ : Vt)]) 0 ({ Nm.zero with b0 := 1 } : Nm)) == 1)) = true) hc1)
set_option maxRecDepth 100000 in
set_option maxHeartbeats 2000000 in
theorem BroadcastProposed_c (m : Int) (p : Nm) (a : List Vt) (s : Int) (A : Option Addr) (c : Nat) (w : World) (hm : W64 m) (hok : ∀ u ∈ a, u.Ok) (h1 : a.length ≤ c) (h2 : c ≤ maxLen) (hr : Rd w A a) : Calls Try.prog 4 #[.int .i64 (m), .agg (p).cs, .slice A (a.length) c, .int .i64 (s)] w (fun rr w' => rr = .returned (.bool (true)) ∧ Below w.heap.size w w') := by
  have ht : (a.take 250).length ≤ 250 := List.length_take_le _ _
  have hz := size_le m
  have hq := quorum_bd _ hz
  have hce := cerV_len m p (a.take 250) s
  have hpr := proV_len m p (a.take 250) s
  refine calls_W (n := 94) Try.func4 rfl [(0, .int .i64 (m)), (1, .agg (p).cs), (2, .slice A (a.length) c), (3, .int .i64 (s))] rfl ⟨by kernel_rfl, by kernel_rfl⟩ ?_
  refine W.weak (Ψ := St w []) (fun w' h => by rw [h]; exact St.start w) ?_
  refine W.seq ?_
  refine W.region [(0, false), (1, false)] (by kernel_rfl) ?_
  refine T.box 5 24 (.agg (p).cs) ((p).cs) (by kernel_rfl) (by kernel_rfl) (by kernel_rfl) (fun _ _ _ => trivial) (fun b1 => ?_)
  refine T.pure 8 (.bool (false)) (by kernel_rfl) (fun w => by kernel_rfl) ?_
  refine T.nil ?_
  refine QN.seq ?_
  refine W.seq ?_
  refine W.region [(0, false), (1, false), (2, false)] (by kernel_rfl) ?_
  refine T.pure 15 (.slice A (a.length) c) (by kernel_rfl) (fun w => by kernel_rfl) ?_
  refine T.callP 16 11 #[.slice A (a.length) c] (.slice A ((a.take 250).length) c) (by kernel_rfl) (by kernel_rfl) ent11 (fun w hw => cut15_c a A c w h1 h2 (Arr.rd (Rd.arr hr _) hw)) (fun _ _ => trivial) ?_
  refine T.pure 2 (.slice A ((a.take 250).length) c) (by kernel_rfl) (fun w => by kernel_rfl) ?_
  refine T.nil ?_
  refine QN.seq ?_
  refine W.seq ?_
  refine W.drawn (Ψ := St w [(b1, Obj.cells (p).cs 24 (0, 0))]) (St w [(b1, Obj.cells (p).cs 24 (0, 0))]) [(0, true), (1, true), (2, true), (3, true), (5, true), (6, true), (7, true), (8, true), (4, false), (9, false), (10, false), (11, false)] hmx (by kernel_rfl) (NoPanic.then (NoPanic.body)) (fun w h => h.drew) (fun w h => h) ?_
  refine T.pure 17 (.int .i64 (m)) (by kernel_rfl) (fun w => by kernel_rfl) ?_
  refine T.loadR true 18 (p).cs 24 b1 0 (by kernel_rfl) (by kernel_rfl) (by kernel_rfl) (by kernel_rfl) (fun w h => St.rangeM h (p).cs (.head _) (by kernel_rfl)) ?_
  refine T.pure 19 (.slice A ((a.take 250).length) c) (by kernel_rfl) (fun w => by kernel_rfl) ?_
  refine T.pure 20 (.int .i64 (s)) (by kernel_rfl) (fun w => by kernel_rfl) ?_
  refine T.pure 22 (.int .i64 (m)) (by kernel_rfl) (fun w => by kernel_rfl) ?_
  refine T.loadR true 23 (p).cs 24 b1 0 (by kernel_rfl) (by kernel_rfl) (by kernel_rfl) (by kernel_rfl) (fun w h => St.rangeM h (p).cs (.head _) (by kernel_rfl)) ?_
  refine T.pure 24 (.slice A ((a.take 250).length) c) (by kernel_rfl) (fun w => by kernel_rfl) ?_
  refine T.pure 25 (.int .i64 (s)) (by kernel_rfl) (fun w => by kernel_rfl) ?_
  refine T.callR 21 17 #[.int .i64 (m), .agg (p).cs, .slice A ((a.take 250).length) c, .int .i64 (s)] 24 8 (proV m p (a.take 250) s).length (cells (proV m p (a.take 250) s)) (by kernel_rfl) (by kernel_rfl) ent17 (fun w hw => proposals_c m p (a.take 250) s A c w (by first | assumption | exact w64_and _ _ | exact w64_or _ _ | exact w64_andNot _ _ | (unfold W64; omega)) (fun u hu => (hok u (List.mem_of_mem_take hu)).support) (by first | omega | (simp; done) | (simp; omega)) (Arr.rd ((Rd.arr hr _).take _) hw)) (fun Hr4 => (fun w h => (h.perm (((List.Perm.refl _).append_left Hr4).trans List.perm_middle)).part ((List.nil_sublist _).cons_cons _))) (fun A2 c3 Hr4 hrow5 => ?_)
  refine T.callR 26 12 #[.int .i64 (m), .agg (p).cs, .slice A ((a.take 250).length) c, .int .i64 (s)] 24 8 (cerV m p (a.take 250) s).length (cells (cerV m p (a.take 250) s)) (by kernel_rfl) (by kernel_rfl) ent12 (fun w hw => certified_c m p (a.take 250) s A c w (by first | assumption | exact w64_and _ _ | exact w64_or _ _ | exact w64_andNot _ _ | (unfold W64; omega)) (fun u hu => (hok u (List.mem_of_mem_take hu)).support) (by first | omega | (simp; done) | (simp; omega)) (Arr.rd ((Rd.arr hr _).take _) hw)) (fun Hr8 => (fun w h => (h.perm (((((List.Perm.refl _).append_left Hr4).trans List.perm_middle).append_left Hr8).trans List.perm_middle)).part ((List.nil_sublist _).cons_cons _))) (fun A6 c7 Hr8 hrow9 => ?_)
  refine T.pure 9 (.slice A2 ((proV m p (a.take 250) s).length) c3) (by kernel_rfl) (fun w => by kernel_rfl) ?_
  refine T.pure 10 (.slice A6 ((cerV m p (a.take 250) s).length) c7) (by kernel_rfl) (fun w => by kernel_rfl) ?_
  refine T.nil ?_
  refine QN.seq ?_
  refine W.seq ?_
  refine W.seq ?_
  refine W.region [(0, false)] (by kernel_rfl) ?_
  refine T.pure 11 (.int .i64 (0)) (by kernel_rfl) (fun w => by kernel_rfl) ?_
  refine T.nil ?_
  refine QN.seq ?_
  refine W.block ?_
  refine W.loop (σ := Nat) (fun gs => gs ≤ (cerV m p (a.take 250) s).length) (fun gs => [(0, .int .i64 (m)), (2, .slice A ((a.take 250).length) c), (3, .int .i64 (s)), (5, .pointer (some ⟨b1, 0, none⟩)), (9, .slice A2 ((proV m p (a.take 250) s).length) c3), (10, .slice A6 ((cerV m p (a.take 250) s).length) c7), (11, .int .i64 ((gs : Int)))]) (fun gs => St w (Hr8 ++ (Hr4 ++ [(b1, Obj.cells (p).cs 24 (0, 0))]))) (fun gs => (cerV m p (a.take 250) s).length - gs) (0) ?_ (by kernel_rfl) (fun w h => h) ?_
  · show 0 ≤ (cerV m p (a.take 250) s).length
    exact Nat.zero_le _
  rintro j hI_
  obtain hj : j ≤ (cerV m p (a.take 250) s).length := hI_
  show W _ _ [(0, .int .i64 (m)), (2, .slice A ((a.take 250).length) c), (3, .int .i64 (s)), (5, .pointer (some ⟨b1, 0, none⟩)), (9, .slice A2 ((proV m p (a.take 250) s).length) c3), (10, .slice A6 ((cerV m p (a.take 250) s).length) c7), (11, .int .i64 ((j : Int)))] (St w (Hr8 ++ (Hr4 ++ [(b1, Obj.cells (p).cs 24 (0, 0))]))) _ _
  refine W.seq ?_
  refine W.seq ?_
  refine W.region [(0, false), (1, false), (2, false), (3, false)] (by kernel_rfl) ?_
  refine T.pure 27 (.int .i64 ((j : Int))) (by kernel_rfl) (fun w => by kernel_rfl) ?_
  refine T.pure 28 (.slice A6 ((cerV m p (a.take 250) s).length) c7) (by kernel_rfl) (fun w => by kernel_rfl) ?_
  refine T.pure 29 (.int .i64 ((((cerV m p (a.take 250) s).length : Nat) : Int))) (by kernel_rfl) (fun w => by kernel_rfl) ?_
  refine T.pure 30 (.bool (decide ((j : Int) < (((cerV m p (a.take 250) s).length : Nat) : Int)))) (by kernel_rfl) (fun w => by kernel_rfl) ?_
  refine T.nil ?_
  refine QN.seq ?_
  refine W.cond (decide ((j : Int) < (((cerV m p (a.take 250) s).length : Nat) : Int))) (by kernel_rfl) (fun h10 => ?_) (fun h10 => ?_)
  · skip
    have h10' := of_decide_eq_true h10
    have hl11 : j < (cerV m p (a.take 250) s).length := by omega
    refine W.skip ?_
    refine QN.seq ?_
    refine W.seq ?_
    refine W.block ?_
    refine W.seq ?_
    refine W.region [(0, false)] (by kernel_rfl) ?_
    refine T.pure 12 (.bool (false)) (by kernel_rfl) (fun w => by kernel_rfl) ?_
    refine T.nil ?_
    refine QN.seq ?_
    refine W.seq ?_
    refine W.seq ?_
    refine W.region [(0, false)] (by kernel_rfl) ?_
    refine T.pure 13 (.int .i64 (0)) (by kernel_rfl) (fun w => by kernel_rfl) ?_
    refine T.nil ?_
    refine QN.seq ?_
    refine W.block ?_
    refine W.loop (σ := Nat × Bool) (fun gs => gs.1 ≤ (proV m p (a.take 250) s).length ∧ gs.2 = ((proV m p (a.take 250) s).take gs.1).any (fun x => x == ((cerV m p (a.take 250) s)[j]'hl11))) (fun gs => [(0, .int .i64 (m)), (2, .slice A ((a.take 250).length) c), (3, .int .i64 (s)), (5, .pointer (some ⟨b1, 0, none⟩)), (9, .slice A2 ((proV m p (a.take 250) s).length) c3), (10, .slice A6 ((cerV m p (a.take 250) s).length) c7), (11, .int .i64 ((j : Int))), (12, .bool (gs.2)), (13, .int .i64 ((gs.1 : Int))), (27, .int .i64 ((j : Int))), (28, .slice A6 ((cerV m p (a.take 250) s).length) c7), (29, .int .i64 ((((cerV m p (a.take 250) s).length : Nat) : Int))), (30, .bool (decide ((j : Int) < (((cerV m p (a.take 250) s).length : Nat) : Int))))]) (fun gs => St w (Hr8 ++ (Hr4 ++ [(b1, Obj.cells (p).cs 24 (0, 0))]))) (fun gs => (proV m p (a.take 250) s).length - gs.1) (0, false) ?_ (by kernel_rfl) (fun w h => h) ?_
    · show 0 ≤ (proV m p (a.take 250) s).length ∧ false = ((proV m p (a.take 250) s).take 0).any (fun x => x == ((cerV m p (a.take 250) s)[j]'hl11))
      exact ⟨Nat.zero_le _, rfl⟩
    rintro ⟨k2, fo⟩ hI_
    obtain ⟨hk2, hfo⟩ : k2 ≤ (proV m p (a.take 250) s).length ∧ fo = ((proV m p (a.take 250) s).take k2).any (fun x => x == ((cerV m p (a.take 250) s)[j]'hl11)) := hI_
    show W _ _ [(0, .int .i64 (m)), (2, .slice A ((a.take 250).length) c), (3, .int .i64 (s)), (5, .pointer (some ⟨b1, 0, none⟩)), (9, .slice A2 ((proV m p (a.take 250) s).length) c3), (10, .slice A6 ((cerV m p (a.take 250) s).length) c7), (11, .int .i64 ((j : Int))), (12, .bool (fo)), (13, .int .i64 ((k2 : Int))), (27, .int .i64 ((j : Int))), (28, .slice A6 ((cerV m p (a.take 250) s).length) c7), (29, .int .i64 ((((cerV m p (a.take 250) s).length : Nat) : Int))), (30, .bool (decide ((j : Int) < (((cerV m p (a.take 250) s).length : Nat) : Int))))] (St w (Hr8 ++ (Hr4 ++ [(b1, Obj.cells (p).cs 24 (0, 0))]))) _ _
    refine W.seq ?_
    refine W.seq ?_
    refine W.region [(0, false), (1, false), (2, false), (3, false)] (by kernel_rfl) ?_
    refine T.pure 33 (.int .i64 ((k2 : Int))) (by kernel_rfl) (fun w => by kernel_rfl) ?_
    refine T.pure 34 (.slice A2 ((proV m p (a.take 250) s).length) c3) (by kernel_rfl) (fun w => by kernel_rfl) ?_
    refine T.pure 35 (.int .i64 ((((proV m p (a.take 250) s).length : Nat) : Int))) (by kernel_rfl) (fun w => by kernel_rfl) ?_
    refine T.pure 36 (.bool (decide ((k2 : Int) < (((proV m p (a.take 250) s).length : Nat) : Int)))) (by kernel_rfl) (fun w => by kernel_rfl) ?_
    refine T.nil ?_
    refine QN.seq ?_
    refine W.cond (decide ((k2 : Int) < (((proV m p (a.take 250) s).length : Nat) : Int))) (by kernel_rfl) (fun h12 => ?_) (fun h12 => ?_)
    · skip
      have h12' := of_decide_eq_true h12
      have hl13 : k2 < (proV m p (a.take 250) s).length := by omega
      refine W.skip ?_
      refine QN.seq ?_
      refine W.seq ?_
      refine W.block ?_
      refine W.drawn (Ψ := St w (Hr8 ++ (Hr4 ++ [(b1, Obj.cells (p).cs 24 (0, 0))]))) (St w (Hr8 ++ (Hr4 ++ [(b1, Obj.cells (p).cs 24 (0, 0))]))) [(0, true), (1, true), (2, true), (3, true), (4, true), (5, true), (6, true), (7, true), (8, true), (9, true), (10, true), (11, true), (12, false)] hmx (by kernel_rfl) (NoPanic.inBlock (NoPanic.then (NoPanic.then (NoPanic.inBlock (NoPanic.then (NoPanic.inBlock (NoPanic.then (NoPanic.then (NoPanic.inBlock (NoPanic.then (NoPanic.body))))))))))) (fun w h => h.drew) (fun w h => h) ?_
      refine T.pure 39 (.bool (fo)) (by kernel_rfl) (fun w => by kernel_rfl) ?_
      refine T.pure 40 (.bool (fo)) (by kernel_rfl) (fun w => by kernel_rfl) ?_
      refine T.blk [(2, true), (3, true), (4, true), (5, true), (6, true), (7, true), (8, true), (9, true), (10, true)] [(11, true), (12, false)] 1 false (fo) 40 49 (.bool (((proV m p (a.take 250) s)[k2]'hl13) == ((cerV m p (a.take 250) s)[j]'hl11))) (by kernel_rfl) (by kernel_rfl) (by kernel_rfl) (fun hg14 => ?_) ?_
      · have hg14_ := hg14
        refine T.pure 41 (.slice A2 ((proV m p (a.take 250) s).length) c3) (by kernel_rfl) (fun w => by kernel_rfl) ?_
        refine T.pure 42 (.int .i64 ((k2 : Int))) (by kernel_rfl) (fun w => by kernel_rfl) ?_
        obtain ⟨b15, o16, hA17, hr18⟩ := ((show Arr (St _ (Hr8 ++ (Hr4 ++ [(b1, Obj.cells (p).cs 24 (0, 0))]))) A2 (proV m p (a.take 250) s) from (Arr.row hrow5 (rfl) (rfl) (Hr8 ++ [(b1, Obj.cells (p).cs 24 (0, 0))])).weak (fun w h => h.perm (((List.Perm.refl _).append_left Hr8).trans (List.perm_append_comm_assoc _ _ _))))) k2 hl13
        refine T.index 43 27 24 8 A2 ((proV m p (a.take 250) s).length) c3 ((k2 : Int)) (k2) b15 o16 (by kernel_rfl) (by kernel_rfl) (by kernel_rfl) (by kernel_rfl) hA17 (rfl) (by omega) ?_
        refine T.loadR true 44 (((proV m p (a.take 250) s)[k2]'hl13)).cs 24 b15 (o16 + k2 * 8) (by kernel_rfl) (by kernel_rfl) (by kernel_rfl) (by kernel_rfl) hr18 ?_
        refine T.pure 45 (.slice A6 ((cerV m p (a.take 250) s).length) c7) (by kernel_rfl) (fun w => by kernel_rfl) ?_
        refine T.pure 46 (.int .i64 ((j : Int))) (by kernel_rfl) (fun w => by kernel_rfl) ?_
        obtain ⟨b19, o20, hA21, hr22⟩ := (Arr.row hrow9 (rfl) (rfl) _) j hl11
        refine T.index 47 27 24 8 A6 ((cerV m p (a.take 250) s).length) c7 ((j : Int)) (j) b19 o20 (by kernel_rfl) (by kernel_rfl) (by kernel_rfl) (by kernel_rfl) hA21 (rfl) (by omega) ?_
        refine T.loadR true 48 (((cerV m p (a.take 250) s)[j]'hl11)).cs 24 b19 (o20 + j * 8) (by kernel_rfl) (by kernel_rfl) (by kernel_rfl) (by kernel_rfl) hr22 ?_
        refine T.eqq 49 (((proV m p (a.take 250) s)[k2]'hl13) == ((cerV m p (a.take 250) s)[j]'hl11)) (((proV m p (a.take 250) s)[k2]'hl13) == ((cerV m p (a.take 250) s)[j]'hl11)) false 24 (((proV m p (a.take 250) s)[k2]'hl13)).cs (((cerV m p (a.take 250) s)[j]'hl11)).cs (by kernel_rfl) (by kernel_rfl) (by kernel_rfl) (by kernel_rfl) (fun w => eq_nm w ((proV m p (a.take 250) s)[k2]'hl13) ((cerV m p (a.take 250) s)[j]'hl11)) ?_
        exact T.blkEnd (by kernel_rfl) (fun w h => h)
      refine T.or 50 (fo) (((proV m p (a.take 250) s)[k2]'hl13) == ((cerV m p (a.take 250) s)[j]'hl11)) (by kernel_rfl) (by kernel_rfl) ?_
      refine T.pure 12 (.bool (fo || (((proV m p (a.take 250) s)[k2]'hl13) == ((cerV m p (a.take 250) s)[j]'hl11)))) (by kernel_rfl) (fun w => by kernel_rfl) ?_
      refine T.nil ?_
      refine QN.blkNormal ?_
      refine QN.seq ?_
      refine W.region [(0, false), (1, false), (2, false)] (by kernel_rfl) ?_
      refine T.pure 37 (.int .i64 ((k2 : Int))) (by kernel_rfl) (fun w => by kernel_rfl) ?_
      refine T.pureE 38 (.int .i64 (IntKind.i64.wrap ((k2 : Int) + 1))) (.int .i64 ((k2 : Int) + 1)) (by kernel_rfl) (fun w => by kernel_rfl) (wrap_int (by omega) (by omega)) ?_
      refine T.pure 13 (.int .i64 ((k2 : Int) + 1)) (by kernel_rfl) (fun w => by kernel_rfl) ?_
      refine T.nil ?_
      refine QN.back (k2 + 1, fo || (((proV m p (a.take 250) s)[k2]'hl13) == ((cerV m p (a.take 250) s)[j]'hl11))) ?_ ?_ (by kernel_rfl) (fun w h => h)
      · show (k2 + 1) ≤ (proV m p (a.take 250) s).length ∧ (fo || (((proV m p (a.take 250) s)[k2]'hl13) == ((cerV m p (a.take 250) s)[j]'hl11))) = ((proV m p (a.take 250) s).take (k2 + 1)).any (fun x => x == ((cerV m p (a.take 250) s)[j]'hl11))
        exact ⟨by omega, by rw [hfo]; exact any_snoc (p := fun x => x == ((cerV m p (a.take 250) s)[j]'hl11)) (by omega)⟩
      · show (proV m p (a.take 250) s).length - (k2 + 1) < (proV m p (a.take 250) s).length - k2; omega
    · skip
      have h12' := of_decide_eq_false h12
      refine W.exit ?_
      refine QN.thenExit ?_
      refine QN.thenExit ?_
      refine QN.blkHit ?_
      refine QN.seq ?_
      refine W.seq ?_
      refine W.drawn (Ψ := St w (Hr8 ++ (Hr4 ++ [(b1, Obj.cells (p).cs 24 (0, 0))]))) (St w (Hr8 ++ (Hr4 ++ [(b1, Obj.cells (p).cs 24 (0, 0))]))) [(0, true), (1, true), (2, true), (3, true), (4, true), (5, true), (6, true), (7, true), (8, false), (9, false)] hmx (by kernel_rfl) (NoPanic.then (NoPanic.inBlock (NoPanic.then (NoPanic.then (NoPanic.inBlock (NoPanic.then (NoPanic.body))))))) (fun w h => h.drew) (fun w h => h) ?_
      refine T.pure 51 (.int .i64 (m)) (by kernel_rfl) (fun w => by kernel_rfl) ?_
      refine T.loadR true 52 (p).cs 24 b1 0 (by kernel_rfl) (by kernel_rfl) (by kernel_rfl) (by kernel_rfl) (fun w h => St.rangeM h (p).cs (List.mem_append_right _ (List.mem_append_right _ (.head _))) (by kernel_rfl)) ?_
      refine T.pure 53 (.slice A ((a.take 250).length) c) (by kernel_rfl) (fun w => by kernel_rfl) ?_
      refine T.pure 54 (.int .i64 (s)) (by kernel_rfl) (fun w => by kernel_rfl) ?_
      refine T.pure 55 (.slice A6 ((cerV m p (a.take 250) s).length) c7) (by kernel_rfl) (fun w => by kernel_rfl) ?_
      refine T.pure 56 (.int .i64 ((j : Int))) (by kernel_rfl) (fun w => by kernel_rfl) ?_
      obtain ⟨b23, o24, hA25, hr26⟩ := (Arr.row hrow9 (rfl) (rfl) _) j hl11
      refine T.index 57 27 24 8 A6 ((cerV m p (a.take 250) s).length) c7 ((j : Int)) (j) b23 o24 (by kernel_rfl) (by kernel_rfl) (by kernel_rfl) (by kernel_rfl) hA25 (rfl) (by omega) ?_
      refine T.loadR true 58 (((cerV m p (a.take 250) s)[j]'hl11)).cs 24 b23 (o24 + j * 8) (by kernel_rfl) (by kernel_rfl) (by kernel_rfl) (by kernel_rfl) hr26 ?_
      refine T.callP 59 14 #[.int .i64 (m), .agg (p).cs, .slice A ((a.take 250).length) c, .int .i64 (s), .agg (((cerV m p (a.take 250) s)[j]'hl11)).cs] (.int .i64 (echV m p (a.take 250) s ((cerV m p (a.take 250) s)[j]'hl11))) (by kernel_rfl) (by kernel_rfl) ent14 (fun w hw => echoers_c m p (a.take 250) s ((cerV m p (a.take 250) s)[j]'hl11) A c w (by first | assumption | exact w64_and _ _ | exact w64_or _ _ | exact w64_andNot _ _ | (unfold W64; omega)) (fun u hu => (hok u (List.mem_of_mem_take hu)).support) (by first | omega | (simp; done) | (simp; omega)) (Arr.rd ((Rd.arr hr _).take _) hw)) (fun w h => h) ?_
      refine T.pure 14 (.int .i64 (echV m p (a.take 250) s ((cerV m p (a.take 250) s)[j]'hl11))) (by kernel_rfl) (fun w => by kernel_rfl) ?_
      refine T.nil ?_
      refine QN.seq ?_
      refine W.seq ?_
      refine W.drawn (Ψ := St w (Hr8 ++ (Hr4 ++ [(b1, Obj.cells (p).cs 24 (0, 0))]))) (St w (Hr8 ++ (Hr4 ++ [(b1, Obj.cells (p).cs 24 (0, 0))]))) [(0, true), (1, true), (2, true), (3, true), (4, true), (5, true), (6, true), (7, true), (8, true), (9, true), (10, true), (11, true), (12, true), (13, true), (14, true), (15, false), (16, true), (17, true), (18, true), (19, true), (20, true), (21, true), (22, true), (23, true), (24, true), (25, true), (26, true), (28, true), (27, false), (29, false), (30, false), (31, true), (32, true)] hmx (by kernel_rfl) (NoPanic.then (NoPanic.inBlock (NoPanic.then (NoPanic.then (NoPanic.inBlock (NoPanic.then (NoPanic.body))))))) (fun w h => h.drew) (fun w h => h) ?_
      have hlp : j - 1 < (cerV m p (a.take 250) s).length := by omega
      refine T.pure 60 (.bool (fo)) (by kernel_rfl) (fun w => by kernel_rfl) ?_
      refine T.pure 61 (.bool (!fo)) (by kernel_rfl) (fun w => by kernel_rfl) ?_
      refine T.pure 62 (.bool (!fo)) (by kernel_rfl) (fun w => by kernel_rfl) ?_
      refine T.blk [(3, true), (4, true), (5, true), (6, true), (7, true), (8, true), (9, true), (10, true), (11, true), (12, true), (13, true), (14, true), (15, false), (16, true), (17, true)] [(18, true), (19, true), (20, true), (21, true), (22, true), (23, true), (24, true), (25, true), (26, true), (28, true), (27, false), (29, false), (30, false), (31, true), (32, true)] 2 false (!fo) 62 77 (.bool ((decide (0 < (j : Int))) && (!(hless ((cerV m p (a.take 250) s)[(j - 1)]'hlp) ((cerV m p (a.take 250) s)[j]'hl11))))) (by kernel_rfl) (by kernel_rfl) (by kernel_rfl) (fun hg27 => ?_) ?_
      · have hg27_ := hg27
        have hg27n := not_eq_false hg27
        refine T.pure 63 (.int .i64 ((j : Int))) (by kernel_rfl) (fun w => by kernel_rfl) ?_
        refine T.pure 64 (.bool (decide (0 < (j : Int)))) (by kernel_rfl) (fun w => by kernel_rfl) ?_
        refine T.pure 65 (.bool (decide (0 < (j : Int)))) (by kernel_rfl) (fun w => by kernel_rfl) ?_
        refine T.blk [(6, true), (7, true), (8, true), (9, true), (10, true), (11, true), (12, true), (13, true), (14, true), (15, false), (16, true)] [(17, true)] 5 true (decide (0 < (j : Int))) 65 76 (.bool (!(hless ((cerV m p (a.take 250) s)[(j - 1)]'hlp) ((cerV m p (a.take 250) s)[j]'hl11)))) (by kernel_rfl) (by kernel_rfl) (by kernel_rfl) (fun hg28 => ?_) ?_
        · have hg28_ := hg28
          have hg28' := of_decide_eq_true hg28
          refine T.pure 66 (.slice A6 ((cerV m p (a.take 250) s).length) c7) (by kernel_rfl) (fun w => by kernel_rfl) ?_
          refine T.pure 67 (.int .i64 ((j : Int))) (by kernel_rfl) (fun w => by kernel_rfl) ?_
          refine T.pureE 68 (.int .i64 (IntKind.i64.wrap ((j : Int) - 1))) (.int .i64 ((j : Int) - 1)) (by kernel_rfl) (fun w => by kernel_rfl) (wrap_int (by omega) (by omega)) ?_
          obtain ⟨b29, o30, hA31, hr32⟩ := (Arr.row hrow9 (rfl) (rfl) _) (j - 1) hlp
          refine T.index 69 27 24 8 A6 ((cerV m p (a.take 250) s).length) c7 ((j : Int) - 1) ((j - 1)) b29 o30 (by kernel_rfl) (by kernel_rfl) (by kernel_rfl) (by kernel_rfl) hA31 (by omega) (by omega) ?_
          refine T.loadR true 70 (((cerV m p (a.take 250) s)[(j - 1)]'hlp)).cs 24 b29 (o30 + (j - 1) * 8) (by kernel_rfl) (by kernel_rfl) (by kernel_rfl) (by kernel_rfl) hr32 ?_
          refine T.pure 71 (.slice A6 ((cerV m p (a.take 250) s).length) c7) (by kernel_rfl) (fun w => by kernel_rfl) ?_
          refine T.pure 72 (.int .i64 ((j : Int))) (by kernel_rfl) (fun w => by kernel_rfl) ?_
          obtain ⟨b33, o34, hA35, hr36⟩ := (Arr.row hrow9 (rfl) (rfl) _) j hl11
          refine T.index 73 27 24 8 A6 ((cerV m p (a.take 250) s).length) c7 ((j : Int)) (j) b33 o34 (by kernel_rfl) (by kernel_rfl) (by kernel_rfl) (by kernel_rfl) hA35 (rfl) (by omega) ?_
          refine T.loadR true 74 (((cerV m p (a.take 250) s)[j]'hl11)).cs 24 b33 (o34 + j * 8) (by kernel_rfl) (by kernel_rfl) (by kernel_rfl) (by kernel_rfl) hr36 ?_
          refine T.callP 75 18 #[.agg (((cerV m p (a.take 250) s)[(j - 1)]'hlp)).cs, .agg (((cerV m p (a.take 250) s)[j]'hl11)).cs] (.bool (hless ((cerV m p (a.take 250) s)[(j - 1)]'hlp) ((cerV m p (a.take 250) s)[j]'hl11))) (by kernel_rfl) (by kernel_rfl) ent18 (fun w hw => hless_c ((cerV m p (a.take 250) s)[(j - 1)]'hlp) ((cerV m p (a.take 250) s)[j]'hl11) w) (fun w h => h) ?_
          refine T.pure 76 (.bool (!(hless ((cerV m p (a.take 250) s)[(j - 1)]'hlp) ((cerV m p (a.take 250) s)[j]'hl11)))) (by kernel_rfl) (fun w => by kernel_rfl) ?_
          exact T.blkEnd (by kernel_rfl) (fun w h => h)
        refine T.and 77 (decide (0 < (j : Int))) (!(hless ((cerV m p (a.take 250) s)[(j - 1)]'hlp) ((cerV m p (a.take 250) s)[j]'hl11))) (by kernel_rfl) (by kernel_rfl) ?_
        exact T.blkEnd (by kernel_rfl) (fun w h => h)
      refine T.or 78 (!fo) ((decide (0 < (j : Int))) && (!(hless ((cerV m p (a.take 250) s)[(j - 1)]'hlp) ((cerV m p (a.take 250) s)[j]'hl11)))) (by kernel_rfl) (by kernel_rfl) ?_
      refine T.pure 79 (.bool ((!fo) || ((decide (0 < (j : Int))) && (!(hless ((cerV m p (a.take 250) s)[(j - 1)]'hlp) ((cerV m p (a.take 250) s)[j]'hl11)))))) (by kernel_rfl) (fun w => by kernel_rfl) ?_
      refine T.blk [(20, true), (21, true), (22, true), (23, true)] [(24, true), (25, true), (26, true), (28, true), (27, false), (29, false), (30, false), (31, true), (32, true)] 19 false ((!fo) || ((decide (0 < (j : Int))) && (!(hless ((cerV m p (a.take 250) s)[(j - 1)]'hlp) ((cerV m p (a.take 250) s)[j]'hl11))))) 79 83 (.bool ((bits .andNot .i64 (echV m p (a.take 250) s ((cerV m p (a.take 250) s)[j]'hl11)) m) != 0)) (by kernel_rfl) (by kernel_rfl) (by kernel_rfl) (fun hg37 => ?_) ?_
      · have hg37_ := hg37
        have hg37l := (Bool.or_eq_false_iff.1 hg37).1
        have hg37r := (Bool.or_eq_false_iff.1 hg37).2
        have hg37ln := not_eq_false hg37l
        refine T.pure 80 (.int .i64 (echV m p (a.take 250) s ((cerV m p (a.take 250) s)[j]'hl11))) (by kernel_rfl) (fun w => by kernel_rfl) ?_
        refine T.pure 81 (.int .i64 (m)) (by kernel_rfl) (fun w => by kernel_rfl) ?_
        refine T.pure 82 (.int .i64 (bits .andNot .i64 (echV m p (a.take 250) s ((cerV m p (a.take 250) s)[j]'hl11)) m)) (by kernel_rfl) (fun w => by kernel_rfl) ?_
        refine T.pure 83 (.bool ((bits .andNot .i64 (echV m p (a.take 250) s ((cerV m p (a.take 250) s)[j]'hl11)) m) != 0)) (by kernel_rfl) (fun w => by kernel_rfl) ?_
        exact T.blkEnd (by kernel_rfl) (fun w h => h)
      refine T.or 84 ((!fo) || ((decide (0 < (j : Int))) && (!(hless ((cerV m p (a.take 250) s)[(j - 1)]'hlp) ((cerV m p (a.take 250) s)[j]'hl11))))) ((bits .andNot .i64 (echV m p (a.take 250) s ((cerV m p (a.take 250) s)[j]'hl11)) m) != 0) (by kernel_rfl) (by kernel_rfl) ?_
      refine T.pure 85 (.bool (((!fo) || ((decide (0 < (j : Int))) && (!(hless ((cerV m p (a.take 250) s)[(j - 1)]'hlp) ((cerV m p (a.take 250) s)[j]'hl11))))) || ((bits .andNot .i64 (echV m p (a.take 250) s ((cerV m p (a.take 250) s)[j]'hl11)) m) != 0))) (by kernel_rfl) (fun w => by kernel_rfl) ?_
      refine T.blk [(26, true), (28, true), (27, false), (29, false), (30, false), (31, true)] [(32, true)] 25 false (((!fo) || ((decide (0 < (j : Int))) && (!(hless ((cerV m p (a.take 250) s)[(j - 1)]'hlp) ((cerV m p (a.take 250) s)[j]'hl11))))) || ((bits .andNot .i64 (echV m p (a.take 250) s ((cerV m p (a.take 250) s)[j]'hl11)) m) != 0)) 85 91 (.bool (decide ((size (echV m p (a.take 250) s ((cerV m p (a.take 250) s)[j]'hl11)) : Int) < (quorum (size m : Int))))) (by kernel_rfl) (by kernel_rfl) (by kernel_rfl) (fun hg38 => ?_) ?_
      · have hg38_ := hg38
        have hg38l := (Bool.or_eq_false_iff.1 hg38).1
        have hg38r := (Bool.or_eq_false_iff.1 hg38).2
        have hg38ll := (Bool.or_eq_false_iff.1 hg38l).1
        have hg38lr := (Bool.or_eq_false_iff.1 hg38l).2
        have hg38lln := not_eq_false hg38ll
        refine T.pure 86 (.int .i64 (echV m p (a.take 250) s ((cerV m p (a.take 250) s)[j]'hl11))) (by kernel_rfl) (fun w => by kernel_rfl) ?_
        refine T.pure 88 (.int .i64 (m)) (by kernel_rfl) (fun w => by kernel_rfl) ?_
        refine T.callP 87 13 #[.int .i64 (echV m p (a.take 250) s ((cerV m p (a.take 250) s)[j]'hl11))] (.int .i64 ((size (echV m p (a.take 250) s ((cerV m p (a.take 250) s)[j]'hl11)) : Int))) (by kernel_rfl) (by kernel_rfl) ent13 (fun w hw => Ret.same (size_c _ w)) (fun w h => h) ?_
        refine T.callP 89 13 #[.int .i64 (m)] (.int .i64 ((size m : Int))) (by kernel_rfl) (by kernel_rfl) ent13 (fun w hw => Ret.same (size_c _ w)) (fun w h => h) ?_
        refine T.callP 90 15 #[.int .i64 ((size m : Int))] (.int .i64 (quorum (size m : Int))) (by kernel_rfl) (by kernel_rfl) ent15 (fun w hw => Ret.same (quorum_c _ w (by unfold W64; omega))) (fun w h => h) ?_
        refine T.pure 91 (.bool (decide ((size (echV m p (a.take 250) s ((cerV m p (a.take 250) s)[j]'hl11)) : Int) < (quorum (size m : Int))))) (by kernel_rfl) (fun w => by kernel_rfl) ?_
        exact T.blkEnd (by kernel_rfl) (fun w h => h)
      refine T.or 92 (((!fo) || ((decide (0 < (j : Int))) && (!(hless ((cerV m p (a.take 250) s)[(j - 1)]'hlp) ((cerV m p (a.take 250) s)[j]'hl11))))) || ((bits .andNot .i64 (echV m p (a.take 250) s ((cerV m p (a.take 250) s)[j]'hl11)) m) != 0)) (decide ((size (echV m p (a.take 250) s ((cerV m p (a.take 250) s)[j]'hl11)) : Int) < (quorum (size m : Int)))) (by kernel_rfl) (by kernel_rfl) ?_
      refine T.nil ?_
      refine QN.seq ?_
      refine W.cond ((((!fo) || ((decide (0 < (j : Int))) && (!(hless ((cerV m p (a.take 250) s)[(j - 1)]'hlp) ((cerV m p (a.take 250) s)[j]'hl11))))) || ((bits .andNot .i64 (echV m p (a.take 250) s ((cerV m p (a.take 250) s)[j]'hl11)) m) != 0)) || (decide ((size (echV m p (a.take 250) s ((cerV m p (a.take 250) s)[j]'hl11)) : Int) < (quorum (size m : Int))))) (by kernel_rfl) (fun h39 => ?_) (fun h39 => ?_)
      · skip
        refine W.seq ?_
        refine W.region [(0, false)] (by kernel_rfl) ?_
        refine T.pure 8 (.bool (false)) (by kernel_rfl) (fun w => by kernel_rfl) ?_
        refine T.nil ?_
        refine QN.seq ?_
        refine W.ret ?_
        refine QN.blkRet ?_
        refine QN.thenRet ?_
        refine QN.thenRet ?_
        refine QN.blkRet ?_
        refine QN.thenRet ?_
        refine QN.done (.inl rfl) 8 (.bool (false)) rfl (by kernel_rfl) (fun w hw => ⟨?_, hw.below⟩)
        exact (proposed_w (by rw [hfo, take_end (by omega)]) h39).elim
      · skip
        have h39l := (Bool.or_eq_false_iff.1 h39).1
        have h39r := (Bool.or_eq_false_iff.1 h39).2
        have h39ll := (Bool.or_eq_false_iff.1 h39l).1
        have h39lr := (Bool.or_eq_false_iff.1 h39l).2
        have h39lll := (Bool.or_eq_false_iff.1 h39ll).1
        have h39llr := (Bool.or_eq_false_iff.1 h39ll).2
        have h39llln := not_eq_false h39lll
        have h39r' := of_decide_eq_false h39r
        refine W.skip ?_
        refine QN.blkNormal ?_
        refine QN.seq ?_
        refine W.region [(0, false), (1, false), (2, false)] (by kernel_rfl) ?_
        refine T.pure 31 (.int .i64 ((j : Int))) (by kernel_rfl) (fun w => by kernel_rfl) ?_
        refine T.pureE 32 (.int .i64 (IntKind.i64.wrap ((j : Int) + 1))) (.int .i64 ((j : Int) + 1)) (by kernel_rfl) (fun w => by kernel_rfl) (wrap_int (by omega) (by omega)) ?_
        refine T.pure 11 (.int .i64 ((j : Int) + 1)) (by kernel_rfl) (fun w => by kernel_rfl) ?_
        refine T.nil ?_
        refine QN.back (j + 1) ?_ ?_ (by kernel_rfl) (fun w h => h)
        · show (j + 1) ≤ (cerV m p (a.take 250) s).length
          omega
        · show (cerV m p (a.take 250) s).length - (j + 1) < (cerV m p (a.take 250) s).length - j; omega
  · skip
    have h10' := of_decide_eq_false h10
    refine W.exit ?_
    refine QN.thenExit ?_
    refine QN.thenExit ?_
    refine QN.blkHit ?_
    refine QN.seq ?_
    refine W.seq ?_
    refine W.region [(0, false), (1, false)] (by kernel_rfl) ?_
    refine T.callP 93 16 #[] (.bool (true)) (by kernel_rfl) (by kernel_rfl) ent16 (fun w hw => awake15_c w) (fun _ _ => trivial) ?_
    refine T.pure 8 (.bool (true)) (by kernel_rfl) (fun w => by kernel_rfl) ?_
    refine T.nil ?_
    refine QN.seq ?_
    refine W.ret ?_
    refine QN.done (.inl rfl) 8 (.bool (true)) rfl (by kernel_rfl) (fun w hw => ⟨?_, hw.below⟩)
    exact rfl
theorem BroadcastProposed_w (w : World) (a0 : Int) (v1 : Value) (x1 : Nm) (v2 : Value) (x2 : List Vt) (a3 : Int) (h0 : W64 a0) (h1 : v1 = .agg x1.cs) (h2 : VS w v2 x2) (h3 : W64 a3) : Calls Try.prog 4 #[.int .i64 a0, v1, v2, .int .i64 a3] w fun e w' => e = .returned (.bool true) ∧ Below w.heap.size w w' := by
  obtain rfl := h1
  obtain ⟨A2, c2, rfl, l2, m2, r2, k2⟩ := h2
  exact BroadcastProposed_c _ _ _ _ _ _ w h0 k2 l2 m2 r2.rd
set_option maxRecDepth 100000 in
set_option maxHeartbeats 2000000 in
theorem BroadcastAccounts_c (m : Int) (p : Nm) (a b : List Vt) (s : Int) (A B : Option Addr) (c d : Nat) (w : World) (hm : W64 m) (hok : ∀ u ∈ a, u.Ok) (hok2 : ∀ u ∈ b, u.Ok) (h1 : a.length ≤ c) (h2 : c ≤ maxLen) (hr : Rd w A a) (h3 : b.length ≤ d) (h4 : d ≤ maxLen) (hrb : Rd w B b) : Calls Try.prog 3 #[.int .i64 (m), .agg (p).cs, .slice A (a.length) c, .slice B (b.length) d, .int .i64 (s)] w (fun rr w' => rr = .returned (.bool (true)) ∧ Below w.heap.size w w') := by
  have ht : (a.take 250).length ≤ 250 := List.length_take_le _ _
  have hz := size_le m
  have hq := quorum_bd _ hz
  have hce := cerV_len m p (a.take 250) s
  have hpr := proV_len m p (a.take 250) s
  have ht2 : (b.take 250).length ≤ 250 := List.length_take_le _ _
  have hce2 := cerV_len m p (b.take 250) s
  refine calls_W (n := 84) Try.func3 rfl [(0, .int .i64 (m)), (1, .agg (p).cs), (2, .slice A (a.length) c), (3, .slice B (b.length) d), (4, .int .i64 (s))] rfl ⟨by kernel_rfl, by kernel_rfl⟩ ?_
  refine W.weak (Ψ := St w []) (fun w' h => by rw [h]; exact St.start w) ?_
  refine W.seq ?_
  refine W.region [(0, false), (1, false)] (by kernel_rfl) ?_
  refine T.box 6 24 (.agg (p).cs) ((p).cs) (by kernel_rfl) (by kernel_rfl) (by kernel_rfl) (fun _ _ _ => trivial) (fun b1 => ?_)
  refine T.pure 10 (.bool (false)) (by kernel_rfl) (fun w => by kernel_rfl) ?_
  refine T.nil ?_
  refine QN.seq ?_
  refine W.seq ?_
  refine W.region [(0, false), (1, false), (2, false), (3, false), (4, false), (5, false)] (by kernel_rfl) ?_
  refine T.pure 17 (.slice A (a.length) c) (by kernel_rfl) (fun w => by kernel_rfl) ?_
  refine T.callP 18 11 #[.slice A (a.length) c] (.slice A ((a.take 250).length) c) (by kernel_rfl) (by kernel_rfl) ent11 (fun w hw => cut15_c a A c w h1 h2 (Arr.rd (Rd.arr hr _) hw)) (fun _ _ => trivial) ?_
  refine T.pure 19 (.slice B (b.length) d) (by kernel_rfl) (fun w => by kernel_rfl) ?_
  refine T.callP 20 11 #[.slice B (b.length) d] (.slice B ((b.take 250).length) d) (by kernel_rfl) (by kernel_rfl) ent11 (fun w hw => cut15_c b B d w h3 h4 (Arr.rd (Rd.arr hrb _) hw)) (fun _ _ => trivial) ?_
  refine T.pure 2 (.slice A ((a.take 250).length) c) (by kernel_rfl) (fun w => by kernel_rfl) ?_
  refine T.pure 3 (.slice B ((b.take 250).length) d) (by kernel_rfl) (fun w => by kernel_rfl) ?_
  refine T.nil ?_
  refine QN.seq ?_
  refine W.seq ?_
  refine W.drawn (Ψ := St w [(b1, Obj.cells (p).cs 24 (0, 0))]) (St w [(b1, Obj.cells (p).cs 24 (0, 0))]) [(0, true), (1, true), (2, true), (3, true), (5, true), (6, true), (7, true), (8, true), (4, false), (9, false), (10, false), (11, false)] hmx (by kernel_rfl) (NoPanic.then (NoPanic.body)) (fun w h => h.drew) (fun w h => h) ?_
  refine T.pure 21 (.int .i64 (m)) (by kernel_rfl) (fun w => by kernel_rfl) ?_
  refine T.loadR true 22 (p).cs 24 b1 0 (by kernel_rfl) (by kernel_rfl) (by kernel_rfl) (by kernel_rfl) (fun w h => St.rangeM h (p).cs (.head _) (by kernel_rfl)) ?_
  refine T.pure 23 (.slice A ((a.take 250).length) c) (by kernel_rfl) (fun w => by kernel_rfl) ?_
  refine T.pure 24 (.int .i64 (s)) (by kernel_rfl) (fun w => by kernel_rfl) ?_
  refine T.pure 26 (.int .i64 (m)) (by kernel_rfl) (fun w => by kernel_rfl) ?_
  refine T.loadR true 27 (p).cs 24 b1 0 (by kernel_rfl) (by kernel_rfl) (by kernel_rfl) (by kernel_rfl) (fun w h => St.rangeM h (p).cs (.head _) (by kernel_rfl)) ?_
  refine T.pure 28 (.slice B ((b.take 250).length) d) (by kernel_rfl) (fun w => by kernel_rfl) ?_
  refine T.pure 29 (.int .i64 (s)) (by kernel_rfl) (fun w => by kernel_rfl) ?_
  refine T.callR 25 12 #[.int .i64 (m), .agg (p).cs, .slice A ((a.take 250).length) c, .int .i64 (s)] 24 8 (cerV m p (a.take 250) s).length (cells (cerV m p (a.take 250) s)) (by kernel_rfl) (by kernel_rfl) ent12 (fun w hw => certified_c m p (a.take 250) s A c w (by first | assumption | exact w64_and _ _ | exact w64_or _ _ | exact w64_andNot _ _ | (unfold W64; omega)) (fun u hu => (hok u (List.mem_of_mem_take hu)).support) (by first | omega | (simp; done) | (simp; omega)) (Arr.rd ((Rd.arr hr _).take _) hw)) (fun Hr4 => (fun w h => (h.perm (((List.Perm.refl _).append_left Hr4).trans List.perm_middle)).part ((List.nil_sublist _).cons_cons _))) (fun A2 c3 Hr4 hrow5 => ?_)
  refine T.callR 30 12 #[.int .i64 (m), .agg (p).cs, .slice B ((b.take 250).length) d, .int .i64 (s)] 24 8 (cerV m p (b.take 250) s).length (cells (cerV m p (b.take 250) s)) (by kernel_rfl) (by kernel_rfl) ent12 (fun w hw => certified_c m p (b.take 250) s B d w (by first | assumption | exact w64_and _ _ | exact w64_or _ _ | exact w64_andNot _ _ | (unfold W64; omega)) (fun u hu => (hok2 u (List.mem_of_mem_take hu)).support) (by first | omega | (simp; done) | (simp; omega)) (Arr.rd ((Rd.arr hrb _).take _) hw)) (fun Hr8 => (fun w h => (h.perm (((((List.Perm.refl _).append_left Hr4).trans List.perm_middle).append_left Hr8).trans List.perm_middle)).part ((List.nil_sublist _).cons_cons _))) (fun A6 c7 Hr8 hrow9 => ?_)
  refine T.pure 11 (.slice A2 ((cerV m p (a.take 250) s).length) c3) (by kernel_rfl) (fun w => by kernel_rfl) ?_
  refine T.pure 12 (.slice A6 ((cerV m p (b.take 250) s).length) c7) (by kernel_rfl) (fun w => by kernel_rfl) ?_
  refine T.nil ?_
  refine QN.seq ?_
  refine W.seq ?_
  refine W.region [(0, false), (1, false), (2, false)] (by kernel_rfl) ?_
  refine T.pure 31 (.int .i64 (m)) (by kernel_rfl) (fun w => by kernel_rfl) ?_
  refine T.callP 32 13 #[.int .i64 (m)] (.int .i64 ((size m : Int))) (by kernel_rfl) (by kernel_rfl) ent13 (fun w hw => Ret.same (size_c _ w)) (fun _ _ => trivial) ?_
  refine T.pure 13 (.int .i64 ((size m : Int))) (by kernel_rfl) (fun w => by kernel_rfl) ?_
  refine T.nil ?_
  refine QN.seq ?_
  refine W.seq ?_
  refine W.seq ?_
  refine W.region [(0, false)] (by kernel_rfl) ?_
  refine T.pure 14 (.int .i64 (0)) (by kernel_rfl) (fun w => by kernel_rfl) ?_
  refine T.nil ?_
  refine QN.seq ?_
  refine W.block ?_
  refine W.loop (σ := Nat) (fun gs => gs ≤ (cerV m p (a.take 250) s).length) (fun gs => [(0, .int .i64 (m)), (2, .slice A ((a.take 250).length) c), (3, .slice B ((b.take 250).length) d), (4, .int .i64 (s)), (6, .pointer (some ⟨b1, 0, none⟩)), (11, .slice A2 ((cerV m p (a.take 250) s).length) c3), (12, .slice A6 ((cerV m p (b.take 250) s).length) c7), (13, .int .i64 ((size m : Int))), (14, .int .i64 ((gs : Int)))]) (fun gs => St w (Hr8 ++ (Hr4 ++ [(b1, Obj.cells (p).cs 24 (0, 0))]))) (fun gs => (cerV m p (a.take 250) s).length - gs) (0) ?_ (by kernel_rfl) (fun w h => h) ?_
  · show 0 ≤ (cerV m p (a.take 250) s).length
    exact Nat.zero_le _
  rintro j hI_
  obtain hj : j ≤ (cerV m p (a.take 250) s).length := hI_
  show W _ _ [(0, .int .i64 (m)), (2, .slice A ((a.take 250).length) c), (3, .slice B ((b.take 250).length) d), (4, .int .i64 (s)), (6, .pointer (some ⟨b1, 0, none⟩)), (11, .slice A2 ((cerV m p (a.take 250) s).length) c3), (12, .slice A6 ((cerV m p (b.take 250) s).length) c7), (13, .int .i64 ((size m : Int))), (14, .int .i64 ((j : Int)))] (St w (Hr8 ++ (Hr4 ++ [(b1, Obj.cells (p).cs 24 (0, 0))]))) _ _
  refine W.seq ?_
  refine W.seq ?_
  refine W.region [(0, false), (1, false), (2, false), (3, false)] (by kernel_rfl) ?_
  refine T.pure 33 (.int .i64 ((j : Int))) (by kernel_rfl) (fun w => by kernel_rfl) ?_
  refine T.pure 34 (.slice A2 ((cerV m p (a.take 250) s).length) c3) (by kernel_rfl) (fun w => by kernel_rfl) ?_
  refine T.pure 35 (.int .i64 ((((cerV m p (a.take 250) s).length : Nat) : Int))) (by kernel_rfl) (fun w => by kernel_rfl) ?_
  refine T.pure 36 (.bool (decide ((j : Int) < (((cerV m p (a.take 250) s).length : Nat) : Int)))) (by kernel_rfl) (fun w => by kernel_rfl) ?_
  refine T.nil ?_
  refine QN.seq ?_
  refine W.cond (decide ((j : Int) < (((cerV m p (a.take 250) s).length : Nat) : Int))) (by kernel_rfl) (fun h10 => ?_) (fun h10 => ?_)
  · skip
    have h10' := of_decide_eq_true h10
    have hl11 : j < (cerV m p (a.take 250) s).length := by omega
    refine W.skip ?_
    refine QN.seq ?_
    refine W.seq ?_
    refine W.block ?_
    refine W.seq ?_
    refine W.region [(0, false)] (by kernel_rfl) ?_
    refine T.pure 15 (.int .i64 (0)) (by kernel_rfl) (fun w => by kernel_rfl) ?_
    refine T.nil ?_
    refine QN.seq ?_
    refine W.block ?_
    refine W.loop (σ := Nat) (fun gs => gs ≤ (cerV m p (b.take 250) s).length) (fun gs => [(0, .int .i64 (m)), (2, .slice A ((a.take 250).length) c), (3, .slice B ((b.take 250).length) d), (4, .int .i64 (s)), (6, .pointer (some ⟨b1, 0, none⟩)), (11, .slice A2 ((cerV m p (a.take 250) s).length) c3), (12, .slice A6 ((cerV m p (b.take 250) s).length) c7), (13, .int .i64 ((size m : Int))), (14, .int .i64 ((j : Int))), (15, .int .i64 ((gs : Int))), (33, .int .i64 ((j : Int))), (34, .slice A2 ((cerV m p (a.take 250) s).length) c3), (35, .int .i64 ((((cerV m p (a.take 250) s).length : Nat) : Int))), (36, .bool (decide ((j : Int) < (((cerV m p (a.take 250) s).length : Nat) : Int))))]) (fun gs => St w (Hr8 ++ (Hr4 ++ [(b1, Obj.cells (p).cs 24 (0, 0))]))) (fun gs => (cerV m p (b.take 250) s).length - gs) (0) ?_ (by kernel_rfl) (fun w h => h) ?_
    · show 0 ≤ (cerV m p (b.take 250) s).length
      exact Nat.zero_le _
    rintro k2 hI_
    obtain hk2 : k2 ≤ (cerV m p (b.take 250) s).length := hI_
    show W _ _ [(0, .int .i64 (m)), (2, .slice A ((a.take 250).length) c), (3, .slice B ((b.take 250).length) d), (4, .int .i64 (s)), (6, .pointer (some ⟨b1, 0, none⟩)), (11, .slice A2 ((cerV m p (a.take 250) s).length) c3), (12, .slice A6 ((cerV m p (b.take 250) s).length) c7), (13, .int .i64 ((size m : Int))), (14, .int .i64 ((j : Int))), (15, .int .i64 ((k2 : Int))), (33, .int .i64 ((j : Int))), (34, .slice A2 ((cerV m p (a.take 250) s).length) c3), (35, .int .i64 ((((cerV m p (a.take 250) s).length : Nat) : Int))), (36, .bool (decide ((j : Int) < (((cerV m p (a.take 250) s).length : Nat) : Int))))] (St w (Hr8 ++ (Hr4 ++ [(b1, Obj.cells (p).cs 24 (0, 0))]))) _ _
    refine W.seq ?_
    refine W.seq ?_
    refine W.region [(0, false), (1, false), (2, false), (3, false)] (by kernel_rfl) ?_
    refine T.pure 39 (.int .i64 ((k2 : Int))) (by kernel_rfl) (fun w => by kernel_rfl) ?_
    refine T.pure 40 (.slice A6 ((cerV m p (b.take 250) s).length) c7) (by kernel_rfl) (fun w => by kernel_rfl) ?_
    refine T.pure 41 (.int .i64 ((((cerV m p (b.take 250) s).length : Nat) : Int))) (by kernel_rfl) (fun w => by kernel_rfl) ?_
    refine T.pure 42 (.bool (decide ((k2 : Int) < (((cerV m p (b.take 250) s).length : Nat) : Int)))) (by kernel_rfl) (fun w => by kernel_rfl) ?_
    refine T.nil ?_
    refine QN.seq ?_
    refine W.cond (decide ((k2 : Int) < (((cerV m p (b.take 250) s).length : Nat) : Int))) (by kernel_rfl) (fun h12 => ?_) (fun h12 => ?_)
    · skip
      have h12' := of_decide_eq_true h12
      have hl13 : k2 < (cerV m p (b.take 250) s).length := by omega
      refine W.skip ?_
      refine QN.seq ?_
      refine W.seq ?_
      refine W.block ?_
      refine W.seq ?_
      refine W.drawn (Ψ := St w (Hr8 ++ (Hr4 ++ [(b1, Obj.cells (p).cs 24 (0, 0))]))) (St w (Hr8 ++ (Hr4 ++ [(b1, Obj.cells (p).cs 24 (0, 0))]))) [(0, true), (1, true), (2, true), (3, true), (4, true), (5, true), (6, true), (7, true), (9, true), (10, true), (11, true), (12, true), (13, true), (14, true), (15, true), (16, true), (8, false), (17, false), (18, true), (19, false)] hmx (by kernel_rfl) (NoPanic.then (NoPanic.inBlock (NoPanic.then (NoPanic.then (NoPanic.inBlock (NoPanic.inBlock (NoPanic.then (NoPanic.then (NoPanic.inBlock (NoPanic.then (NoPanic.body))))))))))) (fun w h => h.drew) (fun w h => h) ?_
      refine T.pure 45 (.int .i64 (m)) (by kernel_rfl) (fun w => by kernel_rfl) ?_
      refine T.loadR true 46 (p).cs 24 b1 0 (by kernel_rfl) (by kernel_rfl) (by kernel_rfl) (by kernel_rfl) (fun w h => St.rangeM h (p).cs (List.mem_append_right _ (List.mem_append_right _ (.head _))) (by kernel_rfl)) ?_
      refine T.pure 47 (.slice A ((a.take 250).length) c) (by kernel_rfl) (fun w => by kernel_rfl) ?_
      refine T.pure 48 (.int .i64 (s)) (by kernel_rfl) (fun w => by kernel_rfl) ?_
      refine T.pure 49 (.slice A2 ((cerV m p (a.take 250) s).length) c3) (by kernel_rfl) (fun w => by kernel_rfl) ?_
      refine T.pure 50 (.int .i64 ((j : Int))) (by kernel_rfl) (fun w => by kernel_rfl) ?_
      obtain ⟨b14, o15, hA16, hr17⟩ := ((show Arr (St _ (Hr8 ++ (Hr4 ++ [(b1, Obj.cells (p).cs 24 (0, 0))]))) A2 (cerV m p (a.take 250) s) from (Arr.row hrow5 (rfl) (rfl) (Hr8 ++ [(b1, Obj.cells (p).cs 24 (0, 0))])).weak (fun w h => h.perm (((List.Perm.refl _).append_left Hr8).trans (List.perm_append_comm_assoc _ _ _))))) j hl11
      refine T.index 51 27 24 8 A2 ((cerV m p (a.take 250) s).length) c3 ((j : Int)) (j) b14 o15 (by kernel_rfl) (by kernel_rfl) (by kernel_rfl) (by kernel_rfl) hA16 (rfl) (by omega) ?_
      refine T.loadR true 52 (((cerV m p (a.take 250) s)[j]'hl11)).cs 24 b14 (o15 + j * 8) (by kernel_rfl) (by kernel_rfl) (by kernel_rfl) (by kernel_rfl) hr17 ?_
      refine T.pure 54 (.int .i64 (m)) (by kernel_rfl) (fun w => by kernel_rfl) ?_
      refine T.loadR true 55 (p).cs 24 b1 0 (by kernel_rfl) (by kernel_rfl) (by kernel_rfl) (by kernel_rfl) (fun w h => St.rangeM h (p).cs (List.mem_append_right _ (List.mem_append_right _ (.head _))) (by kernel_rfl)) ?_
      refine T.pure 56 (.slice B ((b.take 250).length) d) (by kernel_rfl) (fun w => by kernel_rfl) ?_
      refine T.pure 57 (.int .i64 (s)) (by kernel_rfl) (fun w => by kernel_rfl) ?_
      refine T.pure 58 (.slice A6 ((cerV m p (b.take 250) s).length) c7) (by kernel_rfl) (fun w => by kernel_rfl) ?_
      refine T.pure 59 (.int .i64 ((k2 : Int))) (by kernel_rfl) (fun w => by kernel_rfl) ?_
      obtain ⟨b18, o19, hA20, hr21⟩ := (Arr.row hrow9 (rfl) (rfl) _) k2 hl13
      refine T.index 60 27 24 8 A6 ((cerV m p (b.take 250) s).length) c7 ((k2 : Int)) (k2) b18 o19 (by kernel_rfl) (by kernel_rfl) (by kernel_rfl) (by kernel_rfl) hA20 (rfl) (by omega) ?_
      refine T.loadR true 61 (((cerV m p (b.take 250) s)[k2]'hl13)).cs 24 b18 (o19 + k2 * 8) (by kernel_rfl) (by kernel_rfl) (by kernel_rfl) (by kernel_rfl) hr21 ?_
      refine T.callP 53 14 #[.int .i64 (m), .agg (p).cs, .slice A ((a.take 250).length) c, .int .i64 (s), .agg (((cerV m p (a.take 250) s)[j]'hl11)).cs] (.int .i64 (echV m p (a.take 250) s ((cerV m p (a.take 250) s)[j]'hl11))) (by kernel_rfl) (by kernel_rfl) ent14 (fun w hw => echoers_c m p (a.take 250) s ((cerV m p (a.take 250) s)[j]'hl11) A c w (by first | assumption | exact w64_and _ _ | exact w64_or _ _ | exact w64_andNot _ _ | (unfold W64; omega)) (fun u hu => (hok u (List.mem_of_mem_take hu)).support) (by first | omega | (simp; done) | (simp; omega)) (Arr.rd ((Rd.arr hr _).take _) hw)) (fun w h => h) ?_
      refine T.callP 62 14 #[.int .i64 (m), .agg (p).cs, .slice B ((b.take 250).length) d, .int .i64 (s), .agg (((cerV m p (b.take 250) s)[k2]'hl13)).cs] (.int .i64 (echV m p (b.take 250) s ((cerV m p (b.take 250) s)[k2]'hl13))) (by kernel_rfl) (by kernel_rfl) ent14 (fun w hw => echoers_c m p (b.take 250) s ((cerV m p (b.take 250) s)[k2]'hl13) B d w (by first | assumption | exact w64_and _ _ | exact w64_or _ _ | exact w64_andNot _ _ | (unfold W64; omega)) (fun u hu => (hok2 u (List.mem_of_mem_take hu)).support) (by first | omega | (simp; done) | (simp; omega)) (Arr.rd ((Rd.arr hrb _).take _) hw)) (fun w h => h) ?_
      refine T.pure 63 (.int .i64 (bits .and .i64 (echV m p (a.take 250) s ((cerV m p (a.take 250) s)[j]'hl11)) (echV m p (b.take 250) s ((cerV m p (b.take 250) s)[k2]'hl13)))) (by kernel_rfl) (fun w => by kernel_rfl) ?_
      refine T.pure 16 (.int .i64 (bits .and .i64 (echV m p (a.take 250) s ((cerV m p (a.take 250) s)[j]'hl11)) (echV m p (b.take 250) s ((cerV m p (b.take 250) s)[k2]'hl13)))) (by kernel_rfl) (fun w => by kernel_rfl) ?_
      refine T.nil ?_
      refine QN.seq ?_
      refine W.seq ?_
      refine W.drawn (Ψ := St w (Hr8 ++ (Hr4 ++ [(b1, Obj.cells (p).cs 24 (0, 0))]))) (St w (Hr8 ++ (Hr4 ++ [(b1, Obj.cells (p).cs 24 (0, 0))]))) [(0, true), (1, true), (2, true), (3, true), (4, true), (5, true), (6, true), (7, true), (8, true), (9, true), (10, true), (12, true), (15, true), (11, false), (13, false), (14, true), (16, true), (17, true), (18, true)] hmx (by kernel_rfl) (NoPanic.then (NoPanic.inBlock (NoPanic.then (NoPanic.then (NoPanic.inBlock (NoPanic.inBlock (NoPanic.then (NoPanic.then (NoPanic.inBlock (NoPanic.then (NoPanic.body))))))))))) (fun w h => h.drew) (fun w h => h) ?_
      refine T.pure 64 (.slice A2 ((cerV m p (a.take 250) s).length) c3) (by kernel_rfl) (fun w => by kernel_rfl) ?_
      refine T.pure 65 (.int .i64 ((j : Int))) (by kernel_rfl) (fun w => by kernel_rfl) ?_
      obtain ⟨b22, o23, hA24, hr25⟩ := ((show Arr (St _ (Hr8 ++ (Hr4 ++ [(b1, Obj.cells (p).cs 24 (0, 0))]))) A2 (cerV m p (a.take 250) s) from (Arr.row hrow5 (rfl) (rfl) (Hr8 ++ [(b1, Obj.cells (p).cs 24 (0, 0))])).weak (fun w h => h.perm (((List.Perm.refl _).append_left Hr8).trans (List.perm_append_comm_assoc _ _ _))))) j hl11
      refine T.index 66 27 24 8 A2 ((cerV m p (a.take 250) s).length) c3 ((j : Int)) (j) b22 o23 (by kernel_rfl) (by kernel_rfl) (by kernel_rfl) (by kernel_rfl) hA24 (rfl) (by omega) ?_
      refine T.loadR true 67 (((cerV m p (a.take 250) s)[j]'hl11)).cs 24 b22 (o23 + j * 8) (by kernel_rfl) (by kernel_rfl) (by kernel_rfl) (by kernel_rfl) hr25 ?_
      refine T.pure 68 (.slice A6 ((cerV m p (b.take 250) s).length) c7) (by kernel_rfl) (fun w => by kernel_rfl) ?_
      refine T.pure 69 (.int .i64 ((k2 : Int))) (by kernel_rfl) (fun w => by kernel_rfl) ?_
      obtain ⟨b26, o27, hA28, hr29⟩ := (Arr.row hrow9 (rfl) (rfl) _) k2 hl13
      refine T.index 70 27 24 8 A6 ((cerV m p (b.take 250) s).length) c7 ((k2 : Int)) (k2) b26 o27 (by kernel_rfl) (by kernel_rfl) (by kernel_rfl) (by kernel_rfl) hA28 (rfl) (by omega) ?_
      refine T.loadR true 71 (((cerV m p (b.take 250) s)[k2]'hl13)).cs 24 b26 (o27 + k2 * 8) (by kernel_rfl) (by kernel_rfl) (by kernel_rfl) (by kernel_rfl) hr29 ?_
      refine T.eqq 72 (((cerV m p (a.take 250) s)[j]'hl11) != ((cerV m p (b.take 250) s)[k2]'hl13)) (((cerV m p (a.take 250) s)[j]'hl11) == ((cerV m p (b.take 250) s)[k2]'hl13)) true 24 (((cerV m p (a.take 250) s)[j]'hl11)).cs (((cerV m p (b.take 250) s)[k2]'hl13)).cs (by kernel_rfl) (by kernel_rfl) (by kernel_rfl) (by kernel_rfl) (fun w => eq_nm w ((cerV m p (a.take 250) s)[j]'hl11) ((cerV m p (b.take 250) s)[k2]'hl13)) ?_
      refine T.pure 73 (.bool (((cerV m p (a.take 250) s)[j]'hl11) != ((cerV m p (b.take 250) s)[k2]'hl13))) (by kernel_rfl) (fun w => by kernel_rfl) ?_
      refine T.blk [(10, true), (12, true), (15, true), (11, false), (13, false), (14, true), (16, true), (17, true)] [(18, true)] 9 true (((cerV m p (a.take 250) s)[j]'hl11) != ((cerV m p (b.take 250) s)[k2]'hl13)) 73 81 (.bool (decide ((size (bits .and .i64 (echV m p (a.take 250) s ((cerV m p (a.take 250) s)[j]'hl11)) (echV m p (b.take 250) s ((cerV m p (b.take 250) s)[k2]'hl13))) : Int) < ((2 * (quorum (size m : Int))) - (size m : Int))))) (by kernel_rfl) (by kernel_rfl) (by kernel_rfl) (fun hg30 => ?_) ?_
      · have hg30_ := hg30
        refine T.pure 74 (.int .i64 (bits .and .i64 (echV m p (a.take 250) s ((cerV m p (a.take 250) s)[j]'hl11)) (echV m p (b.take 250) s ((cerV m p (b.take 250) s)[k2]'hl13)))) (by kernel_rfl) (fun w => by kernel_rfl) ?_
        refine T.pure 76 (.int .i64 ((size m : Int))) (by kernel_rfl) (fun w => by kernel_rfl) ?_
        refine T.pure 79 (.int .i64 ((size m : Int))) (by kernel_rfl) (fun w => by kernel_rfl) ?_
        refine T.callP 75 13 #[.int .i64 (bits .and .i64 (echV m p (a.take 250) s ((cerV m p (a.take 250) s)[j]'hl11)) (echV m p (b.take 250) s ((cerV m p (b.take 250) s)[k2]'hl13)))] (.int .i64 ((size (bits .and .i64 (echV m p (a.take 250) s ((cerV m p (a.take 250) s)[j]'hl11)) (echV m p (b.take 250) s ((cerV m p (b.take 250) s)[k2]'hl13))) : Int))) (by kernel_rfl) (by kernel_rfl) ent13 (fun w hw => Ret.same (size_c _ w)) (fun w h => h) ?_
        refine T.callP 77 15 #[.int .i64 ((size m : Int))] (.int .i64 (quorum (size m : Int))) (by kernel_rfl) (by kernel_rfl) ent15 (fun w hw => Ret.same (quorum_c _ w (by unfold W64; omega))) (fun w h => h) ?_
        refine T.pureE 78 (.int .i64 (IntKind.i64.wrap (2 * (quorum (size m : Int))))) (.int .i64 (2 * (quorum (size m : Int)))) (by kernel_rfl) (fun w => by kernel_rfl) (wrap_int (by omega) (by omega)) ?_
        refine T.pureE 80 (.int .i64 (IntKind.i64.wrap ((2 * (quorum (size m : Int))) - (size m : Int)))) (.int .i64 ((2 * (quorum (size m : Int))) - (size m : Int))) (by kernel_rfl) (fun w => by kernel_rfl) (wrap_int (by omega) (by omega)) ?_
        refine T.pure 81 (.bool (decide ((size (bits .and .i64 (echV m p (a.take 250) s ((cerV m p (a.take 250) s)[j]'hl11)) (echV m p (b.take 250) s ((cerV m p (b.take 250) s)[k2]'hl13))) : Int) < ((2 * (quorum (size m : Int))) - (size m : Int))))) (by kernel_rfl) (fun w => by kernel_rfl) ?_
        exact T.blkEnd (by kernel_rfl) (fun w h => h)
      refine T.and 82 (((cerV m p (a.take 250) s)[j]'hl11) != ((cerV m p (b.take 250) s)[k2]'hl13)) (decide ((size (bits .and .i64 (echV m p (a.take 250) s ((cerV m p (a.take 250) s)[j]'hl11)) (echV m p (b.take 250) s ((cerV m p (b.take 250) s)[k2]'hl13))) : Int) < ((2 * (quorum (size m : Int))) - (size m : Int)))) (by kernel_rfl) (by kernel_rfl) ?_
      refine T.nil ?_
      refine QN.seq ?_
      refine W.cond ((((cerV m p (a.take 250) s)[j]'hl11) != ((cerV m p (b.take 250) s)[k2]'hl13)) && (decide ((size (bits .and .i64 (echV m p (a.take 250) s ((cerV m p (a.take 250) s)[j]'hl11)) (echV m p (b.take 250) s ((cerV m p (b.take 250) s)[k2]'hl13))) : Int) < ((2 * (quorum (size m : Int))) - (size m : Int))))) (by kernel_rfl) (fun h31 => ?_) (fun h31 => ?_)
      · skip
        have h31l := (Bool.and_eq_true_iff.1 h31).1
        have h31r := (Bool.and_eq_true_iff.1 h31).2
        have h31r' := of_decide_eq_true h31r
        refine W.seq ?_
        refine W.region [(0, false)] (by kernel_rfl) ?_
        refine T.pure 10 (.bool (false)) (by kernel_rfl) (fun w => by kernel_rfl) ?_
        refine T.nil ?_
        refine QN.seq ?_
        refine W.ret ?_
        refine QN.blkRet ?_
        refine QN.thenRet ?_
        refine QN.thenRet ?_
        refine QN.blkRet ?_
        refine QN.blkRet ?_
        refine QN.thenRet ?_
        refine QN.thenRet ?_
        refine QN.blkRet ?_
        refine QN.thenRet ?_
        refine QN.done (.inl rfl) 10 (.bool (false)) rfl (by kernel_rfl) (fun w hw => ⟨?_, hw.below⟩)
        exact (bcacc_w h31).elim
      · skip
        refine W.skip ?_
        refine QN.blkNormal ?_
        refine QN.seq ?_
        refine W.region [(0, false), (1, false), (2, false)] (by kernel_rfl) ?_
        refine T.pure 43 (.int .i64 ((k2 : Int))) (by kernel_rfl) (fun w => by kernel_rfl) ?_
        refine T.pureE 44 (.int .i64 (IntKind.i64.wrap ((k2 : Int) + 1))) (.int .i64 ((k2 : Int) + 1)) (by kernel_rfl) (fun w => by kernel_rfl) (wrap_int (by omega) (by omega)) ?_
        refine T.pure 15 (.int .i64 ((k2 : Int) + 1)) (by kernel_rfl) (fun w => by kernel_rfl) ?_
        refine T.nil ?_
        refine QN.back (k2 + 1) ?_ ?_ (by kernel_rfl) (fun w h => h)
        · show (k2 + 1) ≤ (cerV m p (b.take 250) s).length
          omega
        · show (cerV m p (b.take 250) s).length - (k2 + 1) < (cerV m p (b.take 250) s).length - k2; omega
    · skip
      have h12' := of_decide_eq_false h12
      refine W.exit ?_
      refine QN.thenExit ?_
      refine QN.thenExit ?_
      refine QN.blkHit ?_
      refine QN.blkNormal ?_
      refine QN.seq ?_
      refine W.region [(0, false), (1, false), (2, false)] (by kernel_rfl) ?_
      refine T.pure 37 (.int .i64 ((j : Int))) (by kernel_rfl) (fun w => by kernel_rfl) ?_
      refine T.pureE 38 (.int .i64 (IntKind.i64.wrap ((j : Int) + 1))) (.int .i64 ((j : Int) + 1)) (by kernel_rfl) (fun w => by kernel_rfl) (wrap_int (by omega) (by omega)) ?_
      refine T.pure 14 (.int .i64 ((j : Int) + 1)) (by kernel_rfl) (fun w => by kernel_rfl) ?_
      refine T.nil ?_
      refine QN.back (j + 1) ?_ ?_ (by kernel_rfl) (fun w h => h)
      · show (j + 1) ≤ (cerV m p (a.take 250) s).length
        omega
      · show (cerV m p (a.take 250) s).length - (j + 1) < (cerV m p (a.take 250) s).length - j; omega
  · skip
    have h10' := of_decide_eq_false h10
    refine W.exit ?_
    refine QN.thenExit ?_
    refine QN.thenExit ?_
    refine QN.blkHit ?_
    refine QN.seq ?_
    refine W.seq ?_
    refine W.region [(0, false), (1, false)] (by kernel_rfl) ?_
    refine T.callP 83 16 #[] (.bool (true)) (by kernel_rfl) (by kernel_rfl) ent16 (fun w hw => awake15_c w) (fun _ _ => trivial) ?_
    refine T.pure 10 (.bool (true)) (by kernel_rfl) (fun w => by kernel_rfl) ?_
    refine T.nil ?_
    refine QN.seq ?_
    refine W.ret ?_
    refine QN.done (.inl rfl) 10 (.bool (true)) rfl (by kernel_rfl) (fun w hw => ⟨?_, hw.below⟩)
    exact rfl
theorem BroadcastAccounts_w (w : World) (a0 : Int) (v1 : Value) (x1 : Nm) (v2 : Value) (x2 : List Vt) (v3 : Value) (x3 : List Vt) (a4 : Int) (h0 : W64 a0) (h1 : v1 = .agg x1.cs) (h2 : VS w v2 x2) (h3 : VS w v3 x3) (h4 : W64 a4) : Calls Try.prog 3 #[.int .i64 a0, v1, v2, v3, .int .i64 a4] w fun e w' => e = .returned (.bool true) ∧ Below w.heap.size w w' := by
  obtain rfl := h1
  obtain ⟨A2, c2, rfl, l2, m2, r2, k2⟩ := h2
  obtain ⟨A3, c3, rfl, l3, m3, r3, k3⟩ := h3
  exact BroadcastAccounts_c _ _ _ _ _ _ _ _ _ w h0 k2 k3 l2 m2 r2.rd l3 m3 r3.rd
set_option maxRecDepth 100000 in
set_option maxHeartbeats 2000000 in
theorem BroadcastOne_c (m : Int) (p : Nm) (a : List Vt) (s : Int) (A : Option Addr) (c : Nat) (w : World) (hm : W64 m) (hok : ∀ u ∈ a, u.Ok) (h1 : a.length ≤ c) (h2 : c ≤ maxLen) (hr : Rd w A a) : Calls Try.prog 7 #[.int .i64 (m), .agg (p).cs, .slice A (a.length) c, .int .i64 (s)] w (fun rr w' => rr = .returned (.bool (true)) ∧ Below w.heap.size w w') := by
  have ht : (a.take 250).length ≤ 250 := List.length_take_le _ _
  have hz := size_le m
  have hq := quorum_bd _ hz
  have hce := cerV_len m p (a.take 250) s
  have hpr := proV_len m p (a.take 250) s
  refine calls_W (n := 88) Try.func7 rfl [(0, .int .i64 (m)), (1, .agg (p).cs), (2, .slice A (a.length) c), (3, .int .i64 (s))] rfl ⟨by kernel_rfl, by kernel_rfl⟩ ?_
  refine W.weak (Ψ := St w []) (fun w' h => by rw [h]; exact St.start w) ?_
  refine W.seq ?_
  refine W.region [(0, false), (1, false)] (by kernel_rfl) ?_
  refine T.box 5 24 (.agg (p).cs) ((p).cs) (by kernel_rfl) (by kernel_rfl) (by kernel_rfl) (fun _ _ _ => trivial) (fun b1 => ?_)
  refine T.pure 8 (.bool (false)) (by kernel_rfl) (fun w => by kernel_rfl) ?_
  refine T.nil ?_
  refine QN.seq ?_
  refine W.seq ?_
  refine W.region [(0, false), (1, false), (2, false)] (by kernel_rfl) ?_
  refine T.pure 11 (.slice A (a.length) c) (by kernel_rfl) (fun w => by kernel_rfl) ?_
  refine T.callP 12 11 #[.slice A (a.length) c] (.slice A ((a.take 250).length) c) (by kernel_rfl) (by kernel_rfl) ent11 (fun w hw => cut15_c a A c w h1 h2 (Arr.rd (Rd.arr hr _) hw)) (fun _ _ => trivial) ?_
  refine T.pure 2 (.slice A ((a.take 250).length) c) (by kernel_rfl) (fun w => by kernel_rfl) ?_
  refine T.nil ?_
  refine QN.seq ?_
  refine W.seq ?_
  refine W.seq ?_
  refine W.region [(0, false)] (by kernel_rfl) ?_
  refine T.pure 9 (.int .i64 (0)) (by kernel_rfl) (fun w => by kernel_rfl) ?_
  refine T.nil ?_
  refine QN.seq ?_
  refine W.block ?_
  refine W.loop (σ := Nat) (fun gs => gs ≤ (a.take 250).length ∧ ∀ i k (hi : i < (a.take 250).length) (hk : k < i), i < gs → oneP p s (a.take 250)[i] ((a.take 250)[k]'(by omega)) = false) (fun gs => [(0, .int .i64 (m)), (2, .slice A ((a.take 250).length) c), (3, .int .i64 (s)), (5, .pointer (some ⟨b1, 0, none⟩)), (9, .int .i64 ((gs : Int)))]) (fun gs => St w [(b1, Obj.cells (p).cs 24 (0, 0))]) (fun gs => (a.take 250).length - gs) (0) ?_ (by kernel_rfl) (fun w h => h) ?_
  · show 0 ≤ (a.take 250).length ∧ ∀ i k (hi : i < (a.take 250).length) (hk : k < i), i < 0 → oneP p s (a.take 250)[i] ((a.take 250)[k]'(by omega)) = false
    exact ⟨Nat.zero_le _, fun i k hi hk h => absurd h (by omega)⟩
  rintro j hI_
  obtain ⟨hj, hone⟩ : j ≤ (a.take 250).length ∧ ∀ i k (hi : i < (a.take 250).length) (hk : k < i), i < j → oneP p s (a.take 250)[i] ((a.take 250)[k]'(by omega)) = false := hI_
  show W _ _ [(0, .int .i64 (m)), (2, .slice A ((a.take 250).length) c), (3, .int .i64 (s)), (5, .pointer (some ⟨b1, 0, none⟩)), (9, .int .i64 ((j : Int)))] (St w [(b1, Obj.cells (p).cs 24 (0, 0))]) _ _
  refine W.seq ?_
  refine W.seq ?_
  refine W.region [(0, false), (1, false), (2, false), (3, false)] (by kernel_rfl) ?_
  refine T.pure 13 (.int .i64 ((j : Int))) (by kernel_rfl) (fun w => by kernel_rfl) ?_
  refine T.pure 14 (.slice A ((a.take 250).length) c) (by kernel_rfl) (fun w => by kernel_rfl) ?_
  refine T.pure 15 (.int .i64 ((((a.take 250).length : Nat) : Int))) (by kernel_rfl) (fun w => by kernel_rfl) ?_
  refine T.pure 16 (.bool (decide ((j : Int) < (((a.take 250).length : Nat) : Int)))) (by kernel_rfl) (fun w => by kernel_rfl) ?_
  refine T.nil ?_
  refine QN.seq ?_
  refine W.cond (decide ((j : Int) < (((a.take 250).length : Nat) : Int))) (by kernel_rfl) (fun h2 => ?_) (fun h2 => ?_)
  · skip
    have h2' := of_decide_eq_true h2
    have hl3 : j < (a.take 250).length := by omega
    refine W.skip ?_
    refine QN.seq ?_
    refine W.seq ?_
    refine W.block ?_
    refine W.seq ?_
    refine W.region [(0, false)] (by kernel_rfl) ?_
    refine T.pure 10 (.int .i64 (0)) (by kernel_rfl) (fun w => by kernel_rfl) ?_
    refine T.nil ?_
    refine QN.seq ?_
    refine W.block ?_
    refine W.loop (σ := Nat) (fun gs => gs ≤ j ∧ ∀ k (hk : k < j), k < gs → oneP p s ((a.take 250)[j]'hl3) ((a.take 250)[k]'(by omega)) = false) (fun gs => [(0, .int .i64 (m)), (2, .slice A ((a.take 250).length) c), (3, .int .i64 (s)), (5, .pointer (some ⟨b1, 0, none⟩)), (9, .int .i64 ((j : Int))), (10, .int .i64 ((gs : Int))), (13, .int .i64 ((j : Int))), (14, .slice A ((a.take 250).length) c), (15, .int .i64 ((((a.take 250).length : Nat) : Int))), (16, .bool (decide ((j : Int) < (((a.take 250).length : Nat) : Int))))]) (fun gs => St w [(b1, Obj.cells (p).cs 24 (0, 0))]) (fun gs => j - gs) (0) ?_ (by kernel_rfl) (fun w h => h) ?_
    · show 0 ≤ j ∧ ∀ k (hk : k < j), k < 0 → oneP p s ((a.take 250)[j]'hl3) ((a.take 250)[k]'(by omega)) = false
      exact ⟨Nat.zero_le _, fun k hk h => absurd h (by omega)⟩
    rintro k2 hI_
    obtain ⟨hk2, hin⟩ : k2 ≤ j ∧ ∀ k (hk : k < j), k < k2 → oneP p s ((a.take 250)[j]'hl3) ((a.take 250)[k]'(by omega)) = false := hI_
    show W _ _ [(0, .int .i64 (m)), (2, .slice A ((a.take 250).length) c), (3, .int .i64 (s)), (5, .pointer (some ⟨b1, 0, none⟩)), (9, .int .i64 ((j : Int))), (10, .int .i64 ((k2 : Int))), (13, .int .i64 ((j : Int))), (14, .slice A ((a.take 250).length) c), (15, .int .i64 ((((a.take 250).length : Nat) : Int))), (16, .bool (decide ((j : Int) < (((a.take 250).length : Nat) : Int))))] (St w [(b1, Obj.cells (p).cs 24 (0, 0))]) _ _
    refine W.seq ?_
    refine W.seq ?_
    refine W.region [(0, false), (1, false), (2, false)] (by kernel_rfl) ?_
    refine T.pure 19 (.int .i64 ((k2 : Int))) (by kernel_rfl) (fun w => by kernel_rfl) ?_
    refine T.pure 20 (.int .i64 ((j : Int))) (by kernel_rfl) (fun w => by kernel_rfl) ?_
    refine T.pure 21 (.bool (decide ((k2 : Int) < (j : Int)))) (by kernel_rfl) (fun w => by kernel_rfl) ?_
    refine T.nil ?_
    refine QN.seq ?_
    refine W.cond (decide ((k2 : Int) < (j : Int))) (by kernel_rfl) (fun h4 => ?_) (fun h4 => ?_)
    · skip
      have h4' := of_decide_eq_true h4
      refine W.skip ?_
      refine QN.seq ?_
      refine W.seq ?_
      refine W.block ?_
      refine W.seq ?_
      refine W.drawn (Ψ := St w [(b1, Obj.cells (p).cs 24 (0, 0))]) (St w [(b1, Obj.cells (p).cs 24 (0, 0))]) [(0, true), (1, true), (2, true), (3, true), (4, true), (5, true), (6, true), (7, true), (8, true), (9, true), (10, true), (11, true), (12, true), (13, true), (14, true), (15, true), (16, true), (17, true), (18, true), (19, true), (20, true), (21, true), (22, true), (23, true), (24, true), (25, true), (26, true), (27, true), (28, true), (29, true), (30, true), (31, true), (32, true), (33, true), (34, true), (35, true), (36, true), (37, true), (38, true), (39, true), (40, true), (41, true), (42, false), (43, true)] hmx (by kernel_rfl) (NoPanic.then (NoPanic.inBlock (NoPanic.then (NoPanic.then (NoPanic.inBlock (NoPanic.inBlock (NoPanic.then (NoPanic.then (NoPanic.inBlock (NoPanic.then (NoPanic.body))))))))))) (fun w h => h.drew) (fun w h => h) ?_
      have hlk : k2 < (a.take 250).length := by omega
      refine T.pure 24 (.slice A ((a.take 250).length) c) (by kernel_rfl) (fun w => by kernel_rfl) ?_
      refine T.pure 25 (.int .i64 ((j : Int))) (by kernel_rfl) (fun w => by kernel_rfl) ?_
      obtain ⟨b5, o6, hA7, hr8⟩ := ((Rd.arr hr _).take _) j hl3
      refine T.index 26 25 43 22 A ((a.take 250).length) c ((j : Int)) (j) b5 o6 (by kernel_rfl) (by kernel_rfl) (by kernel_rfl) (by kernel_rfl) hA7 (rfl) (by omega) ?_
      refine T.pure 27 (.pointer (some ⟨b5, o6 + j * 22, none⟩)) (by kernel_rfl) (fun w => by kernel_rfl) ?_
      refine T.load true 28 (.int .i64 ((((a.take 250)[j]'hl3)).kind)) 3 b5 (o6 + j * 22) (by kernel_rfl) (by kernel_rfl) (by kernel_rfl) (fun w h => cell_of_range (hr8 w h) 0 (by kernel_rfl)) ?_
      refine T.pure 29 (.bool (((((a.take 250)[j]'hl3)).kind) == 1)) (by kernel_rfl) (fun w => by kernel_rfl) ?_
      refine T.pure 30 (.bool (((((a.take 250)[j]'hl3)).kind) == 1)) (by kernel_rfl) (fun w => by kernel_rfl) ?_
      refine T.blk [(7, true), (8, true), (9, true), (10, true), (11, true), (12, true), (13, true)] [(14, true), (15, true), (16, true), (17, true), (18, true), (19, true), (20, true), (21, true), (22, true), (23, true), (24, true), (25, true), (26, true), (27, true), (28, true), (29, true), (30, true), (31, true), (32, true), (33, true), (34, true), (35, true), (36, true), (37, true), (38, true), (39, true), (40, true), (41, true), (42, false), (43, true)] 6 true (((((a.take 250)[j]'hl3)).kind) == 1) 30 37 (.bool (((((a.take 250)[j]'hl3)).signer) == s)) (by kernel_rfl) (by kernel_rfl) (by kernel_rfl) (fun hg9 => ?_) ?_
      · have hg9_ := hg9
        refine T.pure 31 (.slice A ((a.take 250).length) c) (by kernel_rfl) (fun w => by kernel_rfl) ?_
        refine T.pure 32 (.int .i64 ((j : Int))) (by kernel_rfl) (fun w => by kernel_rfl) ?_
        obtain ⟨b10, o11, hA12, hr13⟩ := ((Rd.arr hr _).take _) j hl3
        refine T.index 33 25 43 22 A ((a.take 250).length) c ((j : Int)) (j) b10 o11 (by kernel_rfl) (by kernel_rfl) (by kernel_rfl) (by kernel_rfl) hA12 (rfl) (by omega) ?_
        refine T.pure 34 (.pointer (some ⟨b10, o11 + j * 22 + 4, none⟩)) (by kernel_rfl) (fun w => by kernel_rfl) ?_
        refine T.load true 35 (.int .i64 ((((a.take 250)[j]'hl3)).signer)) 3 b10 (o11 + j * 22 + 4) (by kernel_rfl) (by kernel_rfl) (by kernel_rfl) (fun w h => cell_of_range (hr13 w h) 4 (by kernel_rfl)) ?_
        refine T.pure 36 (.int .i64 (s)) (by kernel_rfl) (fun w => by kernel_rfl) ?_
        refine T.pure 37 (.bool (((((a.take 250)[j]'hl3)).signer) == s)) (by kernel_rfl) (fun w => by kernel_rfl) ?_
        exact T.blkEnd (by kernel_rfl) (fun w h => h)
      refine T.and 38 (((((a.take 250)[j]'hl3)).kind) == 1) (((((a.take 250)[j]'hl3)).signer) == s) (by kernel_rfl) (by kernel_rfl) ?_
      refine T.pure 39 (.bool ((((((a.take 250)[j]'hl3)).kind) == 1) && (((((a.take 250)[j]'hl3)).signer) == s))) (by kernel_rfl) (fun w => by kernel_rfl) ?_
      refine T.blk [(16, true), (17, true), (18, true), (19, true), (20, true), (21, true), (22, true)] [(23, true), (24, true), (25, true), (26, true), (27, true), (28, true), (29, true), (30, true), (31, true), (32, true), (33, true), (34, true), (35, true), (36, true), (37, true), (38, true), (39, true), (40, true), (41, true), (42, false), (43, true)] 15 true ((((((a.take 250)[j]'hl3)).kind) == 1) && (((((a.take 250)[j]'hl3)).signer) == s)) 39 46 (.bool (((((a.take 250)[j]'hl3)).slot) == s)) (by kernel_rfl) (by kernel_rfl) (by kernel_rfl) (fun hg14 => ?_) ?_
      · have hg14_ := hg14
        have hg14l := (Bool.and_eq_true_iff.1 hg14).1
        have hg14r := (Bool.and_eq_true_iff.1 hg14).2
        refine T.pure 40 (.slice A ((a.take 250).length) c) (by kernel_rfl) (fun w => by kernel_rfl) ?_
        refine T.pure 41 (.int .i64 ((j : Int))) (by kernel_rfl) (fun w => by kernel_rfl) ?_
        obtain ⟨b15, o16, hA17, hr18⟩ := ((Rd.arr hr _).take _) j hl3
        refine T.index 42 25 43 22 A ((a.take 250).length) c ((j : Int)) (j) b15 o16 (by kernel_rfl) (by kernel_rfl) (by kernel_rfl) (by kernel_rfl) hA17 (rfl) (by omega) ?_
        refine T.pure 43 (.pointer (some ⟨b15, o16 + j * 22 + 1, none⟩)) (by kernel_rfl) (fun w => by kernel_rfl) ?_
        refine T.load true 44 (.int .i64 ((((a.take 250)[j]'hl3)).slot)) 3 b15 (o16 + j * 22 + 1) (by kernel_rfl) (by kernel_rfl) (by kernel_rfl) (fun w h => cell_of_range (hr18 w h) 1 (by kernel_rfl)) ?_
        refine T.pure 45 (.int .i64 (s)) (by kernel_rfl) (fun w => by kernel_rfl) ?_
        refine T.pure 46 (.bool (((((a.take 250)[j]'hl3)).slot) == s)) (by kernel_rfl) (fun w => by kernel_rfl) ?_
        exact T.blkEnd (by kernel_rfl) (fun w h => h)
      refine T.and 47 ((((((a.take 250)[j]'hl3)).kind) == 1) && (((((a.take 250)[j]'hl3)).signer) == s)) (((((a.take 250)[j]'hl3)).slot) == s) (by kernel_rfl) (by kernel_rfl) ?_
      refine T.pure 48 (.bool (((((((a.take 250)[j]'hl3)).kind) == 1) && (((((a.take 250)[j]'hl3)).signer) == s)) && (((((a.take 250)[j]'hl3)).slot) == s))) (by kernel_rfl) (fun w => by kernel_rfl) ?_
      refine T.blk [(25, true), (26, true), (27, true), (28, true), (29, true), (30, true), (31, true)] [(32, true), (33, true), (34, true), (35, true), (36, true), (37, true), (38, true), (39, true), (40, true), (41, true), (42, false), (43, true)] 24 true (((((((a.take 250)[j]'hl3)).kind) == 1) && (((((a.take 250)[j]'hl3)).signer) == s)) && (((((a.take 250)[j]'hl3)).slot) == s)) 48 55 (.bool (((((a.take 250)[j]'hl3)).par) == p)) (by kernel_rfl) (by kernel_rfl) (by kernel_rfl) (fun hg19 => ?_) ?_
      · have hg19_ := hg19
        have hg19l := (Bool.and_eq_true_iff.1 hg19).1
        have hg19r := (Bool.and_eq_true_iff.1 hg19).2
        have hg19ll := (Bool.and_eq_true_iff.1 hg19l).1
        have hg19lr := (Bool.and_eq_true_iff.1 hg19l).2
        refine T.pure 49 (.slice A ((a.take 250).length) c) (by kernel_rfl) (fun w => by kernel_rfl) ?_
        refine T.pure 50 (.int .i64 ((j : Int))) (by kernel_rfl) (fun w => by kernel_rfl) ?_
        obtain ⟨b20, o21, hA22, hr23⟩ := ((Rd.arr hr _).take _) j hl3
        refine T.index 51 25 43 22 A ((a.take 250).length) c ((j : Int)) (j) b20 o21 (by kernel_rfl) (by kernel_rfl) (by kernel_rfl) (by kernel_rfl) hA22 (rfl) (by omega) ?_
        refine T.pure 52 (.pointer (some ⟨b20, o21 + j * 22 + 6, none⟩)) (by kernel_rfl) (fun w => by kernel_rfl) ?_
        refine T.loadR true 53 ((((a.take 250)[j]'hl3)).par).cs 24 b20 (o21 + j * 22 + 6) (by kernel_rfl) (by kernel_rfl) (by kernel_rfl) (by kernel_rfl) (fun w h => range_of_range (hr23 w h) 6 ((((a.take 250)[j]'hl3)).par).cs (by kernel_rfl)) ?_
        refine T.loadR true 54 (p).cs 24 b1 0 (by kernel_rfl) (by kernel_rfl) (by kernel_rfl) (by kernel_rfl) (fun w h => St.rangeM h (p).cs (.head _) (by kernel_rfl)) ?_
        refine T.eqq 55 (((((a.take 250)[j]'hl3)).par) == p) (((((a.take 250)[j]'hl3)).par) == p) false 24 ((((a.take 250)[j]'hl3)).par).cs (p).cs (by kernel_rfl) (by kernel_rfl) (by kernel_rfl) (by kernel_rfl) (fun w => eq_nm w ((((a.take 250)[j]'hl3)).par) p) ?_
        exact T.blkEnd (by kernel_rfl) (fun w h => h)
      refine T.and 56 (((((((a.take 250)[j]'hl3)).kind) == 1) && (((((a.take 250)[j]'hl3)).signer) == s)) && (((((a.take 250)[j]'hl3)).slot) == s)) (((((a.take 250)[j]'hl3)).par) == p) (by kernel_rfl) (by kernel_rfl) ?_
      refine T.pure 57 (.bool ((((((((a.take 250)[j]'hl3)).kind) == 1) && (((((a.take 250)[j]'hl3)).signer) == s)) && (((((a.take 250)[j]'hl3)).slot) == s)) && (((((a.take 250)[j]'hl3)).par) == p))) (by kernel_rfl) (fun w => by kernel_rfl) ?_
      refine T.blk [(34, true), (35, true), (36, true), (37, true), (38, true), (39, true), (40, true), (41, true), (42, false)] [(43, true)] 33 true ((((((((a.take 250)[j]'hl3)).kind) == 1) && (((((a.take 250)[j]'hl3)).signer) == s)) && (((((a.take 250)[j]'hl3)).slot) == s)) && (((((a.take 250)[j]'hl3)).par) == p)) 57 66 (.bool (confB ((a.take 250)[j]'hl3) ((a.take 250)[k2]'hlk))) (by kernel_rfl) (by kernel_rfl) (by kernel_rfl) (fun hg24 => ?_) ?_
      · have hg24_ := hg24
        have hg24l := (Bool.and_eq_true_iff.1 hg24).1
        have hg24r := (Bool.and_eq_true_iff.1 hg24).2
        have hg24ll := (Bool.and_eq_true_iff.1 hg24l).1
        have hg24lr := (Bool.and_eq_true_iff.1 hg24l).2
        have hg24lll := (Bool.and_eq_true_iff.1 hg24ll).1
        have hg24llr := (Bool.and_eq_true_iff.1 hg24ll).2
        refine T.pure 58 (.slice A ((a.take 250).length) c) (by kernel_rfl) (fun w => by kernel_rfl) ?_
        refine T.pure 59 (.int .i64 ((j : Int))) (by kernel_rfl) (fun w => by kernel_rfl) ?_
        obtain ⟨b25, o26, hA27, hr28⟩ := ((Rd.arr hr _).take _) j hl3
        refine T.index 60 25 43 22 A ((a.take 250).length) c ((j : Int)) (j) b25 o26 (by kernel_rfl) (by kernel_rfl) (by kernel_rfl) (by kernel_rfl) hA27 (rfl) (by omega) ?_
        refine T.loadR true 61 (((a.take 250)[j]'hl3)).cs 43 b25 (o26 + j * 22) (by kernel_rfl) (by kernel_rfl) (by kernel_rfl) (by kernel_rfl) hr28 ?_
        refine T.pure 62 (.slice A ((a.take 250).length) c) (by kernel_rfl) (fun w => by kernel_rfl) ?_
        refine T.pure 63 (.int .i64 ((k2 : Int))) (by kernel_rfl) (fun w => by kernel_rfl) ?_
        obtain ⟨b29, o30, hA31, hr32⟩ := ((Rd.arr hr _).take _) k2 hlk
        refine T.index 64 25 43 22 A ((a.take 250).length) c ((k2 : Int)) (k2) b29 o30 (by kernel_rfl) (by kernel_rfl) (by kernel_rfl) (by kernel_rfl) hA31 (rfl) (by omega) ?_
        refine T.loadR true 65 (((a.take 250)[k2]'hlk)).cs 43 b29 (o30 + k2 * 22) (by kernel_rfl) (by kernel_rfl) (by kernel_rfl) (by kernel_rfl) hr32 ?_
        refine T.callP 66 25 #[.agg (((a.take 250)[j]'hl3)).cs, .agg (((a.take 250)[k2]'hlk)).cs] (.bool (confB ((a.take 250)[j]'hl3) ((a.take 250)[k2]'hlk))) (by kernel_rfl) (by kernel_rfl) ent25 (fun w hw => conflict_c _ _ w) (fun w h => h) ?_
        exact T.blkEnd (by kernel_rfl) (fun w h => h)
      refine T.and 67 ((((((((a.take 250)[j]'hl3)).kind) == 1) && (((((a.take 250)[j]'hl3)).signer) == s)) && (((((a.take 250)[j]'hl3)).slot) == s)) && (((((a.take 250)[j]'hl3)).par) == p)) (confB ((a.take 250)[j]'hl3) ((a.take 250)[k2]'hlk)) (by kernel_rfl) (by kernel_rfl) ?_
      refine T.nil ?_
      refine QN.seq ?_
      refine W.cond (((((((((a.take 250)[j]'hl3)).kind) == 1) && (((((a.take 250)[j]'hl3)).signer) == s)) && (((((a.take 250)[j]'hl3)).slot) == s)) && (((((a.take 250)[j]'hl3)).par) == p)) && (confB ((a.take 250)[j]'hl3) ((a.take 250)[k2]'hlk))) (by kernel_rfl) (fun h33 => ?_) (fun h33 => ?_)
      · skip
        have h33l := (Bool.and_eq_true_iff.1 h33).1
        have h33r := (Bool.and_eq_true_iff.1 h33).2
        have h33ll := (Bool.and_eq_true_iff.1 h33l).1
        have h33lr := (Bool.and_eq_true_iff.1 h33l).2
        have h33lll := (Bool.and_eq_true_iff.1 h33ll).1
        have h33llr := (Bool.and_eq_true_iff.1 h33ll).2
        have h33llll := (Bool.and_eq_true_iff.1 h33lll).1
        have h33lllr := (Bool.and_eq_true_iff.1 h33lll).2
        refine W.seq ?_
        refine W.region [(0, false), (1, false)] (by kernel_rfl) ?_
        refine T.callP 68 16 #[] (.bool (true)) (by kernel_rfl) (by kernel_rfl) ent16 (fun w hw => awake15_c w) (fun _ _ => trivial) ?_
        refine T.pure 8 (.bool (true)) (by kernel_rfl) (fun w => by kernel_rfl) ?_
        refine T.nil ?_
        refine QN.seq ?_
        refine W.ret ?_
        refine QN.blkRet ?_
        refine QN.thenRet ?_
        refine QN.thenRet ?_
        refine QN.blkRet ?_
        refine QN.blkRet ?_
        refine QN.thenRet ?_
        refine QN.thenRet ?_
        refine QN.blkRet ?_
        refine QN.thenRet ?_
        refine QN.done (.inl rfl) 8 (.bool (true)) rfl (by kernel_rfl) (fun w hw => ⟨?_, hw.below⟩)
        exact rfl
      · skip
        refine W.skip ?_
        refine QN.blkNormal ?_
        refine QN.seq ?_
        refine W.region [(0, false), (1, false), (2, false)] (by kernel_rfl) ?_
        refine T.pure 22 (.int .i64 ((k2 : Int))) (by kernel_rfl) (fun w => by kernel_rfl) ?_
        refine T.pureE 23 (.int .i64 (IntKind.i64.wrap ((k2 : Int) + 1))) (.int .i64 ((k2 : Int) + 1)) (by kernel_rfl) (fun w => by kernel_rfl) (wrap_int (by omega) (by omega)) ?_
        refine T.pure 10 (.int .i64 ((k2 : Int) + 1)) (by kernel_rfl) (fun w => by kernel_rfl) ?_
        refine T.nil ?_
        refine QN.back (k2 + 1) ?_ ?_ (by kernel_rfl) (fun w h => h)
        · show (k2 + 1) ≤ j ∧ ∀ k (hk : k < j), k < (k2 + 1) → oneP p s ((a.take 250)[j]'hl3) ((a.take 250)[k]'(by omega)) = false
          exact ⟨by omega, fun k hk h => by
              by_cases e : k < k2
              · exact hin k hk e
              · obtain rfl : k = k2 := by omega
                exact h33⟩
        · show j - (k2 + 1) < j - k2; omega
    · skip
      have h4' := of_decide_eq_false h4
      refine W.exit ?_
      refine QN.thenExit ?_
      refine QN.thenExit ?_
      refine QN.blkHit ?_
      refine QN.blkNormal ?_
      refine QN.seq ?_
      refine W.region [(0, false), (1, false), (2, false)] (by kernel_rfl) ?_
      refine T.pure 17 (.int .i64 ((j : Int))) (by kernel_rfl) (fun w => by kernel_rfl) ?_
      refine T.pureE 18 (.int .i64 (IntKind.i64.wrap ((j : Int) + 1))) (.int .i64 ((j : Int) + 1)) (by kernel_rfl) (fun w => by kernel_rfl) (wrap_int (by omega) (by omega)) ?_
      refine T.pure 9 (.int .i64 ((j : Int) + 1)) (by kernel_rfl) (fun w => by kernel_rfl) ?_
      refine T.nil ?_
      refine QN.back (j + 1) ?_ ?_ (by kernel_rfl) (fun w h => h)
      · show (j + 1) ≤ (a.take 250).length ∧ ∀ i k (hi : i < (a.take 250).length) (hk : k < i), i < (j + 1) → oneP p s (a.take 250)[i] ((a.take 250)[k]'(by omega)) = false
        exact ⟨by omega, fun i k hi hk h => by
            by_cases e : i < j
            · exact hone i k hi hk e
            · obtain rfl : i = j := by omega
              exact hin k hk (by omega)⟩
      · show (a.take 250).length - (j + 1) < (a.take 250).length - j; omega
  · skip
    have h2' := of_decide_eq_false h2
    refine W.exit ?_
    refine QN.thenExit ?_
    refine QN.thenExit ?_
    refine QN.blkHit ?_
    refine QN.seq ?_
    refine W.seq ?_
    refine W.region [(0, false), (1, false), (2, false), (3, false), (4, false), (5, false), (6, false), (7, false), (8, false), (9, false), (10, false), (11, false), (12, false), (13, false), (14, false), (15, false), (16, false), (17, false), (18, false), (19, false)] (by kernel_rfl) ?_
    refine T.pure 69 (.int .i64 (m)) (by kernel_rfl) (fun w => by kernel_rfl) ?_
    refine T.loadR false 70 (p).cs 24 b1 0 (by kernel_rfl) (by kernel_rfl) (by kernel_rfl) (by kernel_rfl) (fun w h => St.rangeM h (p).cs (.head _) (by kernel_rfl)) ?_
    refine T.pure 71 (.slice A ((a.take 250).length) c) (by kernel_rfl) (fun w => by kernel_rfl) ?_
    refine T.pure 72 (.int .i64 (s)) (by kernel_rfl) (fun w => by kernel_rfl) ?_
    refine T.callR 73 12 #[.int .i64 (m), .agg (p).cs, .slice A ((a.take 250).length) c, .int .i64 (s)] 24 8 (cerV m p (a.take 250) s).length (cells (cerV m p (a.take 250) s)) (by kernel_rfl) (by kernel_rfl) ent12 (fun w hw => certified_c m p (a.take 250) s A c w (by first | assumption | exact w64_and _ _ | exact w64_or _ _ | exact w64_andNot _ _ | (unfold W64; omega)) (fun u hu => (hok u (List.mem_of_mem_take hu)).support) (by first | omega | (simp; done) | (simp; omega)) (Arr.rd ((Rd.arr hr _).take _) hw)) (fun _ _ _ => trivial) (fun A34 c35 Hr36 hrow37 => ?_)
    refine T.pure 74 (.int .i64 ((((cerV m p (a.take 250) s).length : Nat) : Int))) (by kernel_rfl) (fun w => by kernel_rfl) ?_
    refine T.pure 75 (.bool (decide ((((cerV m p (a.take 250) s).length : Nat) : Int) ≤ 1))) (by kernel_rfl) (fun w => by kernel_rfl) ?_
    refine T.pure 76 (.bool (decide ((((cerV m p (a.take 250) s).length : Nat) : Int) ≤ 1))) (by kernel_rfl) (fun w => by kernel_rfl) ?_
    refine T.blk [(8, false), (9, false), (10, false), (11, false), (12, false), (13, false), (14, false)] [(15, false), (16, false), (17, false), (18, false), (19, false)] 7 true (decide ((((cerV m p (a.take 250) s).length : Nat) : Int) ≤ 1)) 76 83 (.bool (decide ((((proV m p (a.take 250) s).length : Nat) : Int) ≤ 1))) (by kernel_rfl) (by kernel_rfl) (by kernel_rfl) (fun hg38 => ?_) ?_
    · have hg38_ := hg38
      have hg38' := of_decide_eq_true hg38
      refine T.pure 77 (.int .i64 (m)) (by kernel_rfl) (fun w => by kernel_rfl) ?_
      refine T.loadR false 78 (p).cs 24 b1 0 (by kernel_rfl) (by kernel_rfl) (by kernel_rfl) (by kernel_rfl) (fun w h => St.rangeM h (p).cs (List.mem_append_right _ (.head _)) (by kernel_rfl)) ?_
      refine T.pure 79 (.slice A ((a.take 250).length) c) (by kernel_rfl) (fun w => by kernel_rfl) ?_
      refine T.pure 80 (.int .i64 (s)) (by kernel_rfl) (fun w => by kernel_rfl) ?_
      refine T.callR 81 17 #[.int .i64 (m), .agg (p).cs, .slice A ((a.take 250).length) c, .int .i64 (s)] 24 8 (proV m p (a.take 250) s).length (cells (proV m p (a.take 250) s)) (by kernel_rfl) (by kernel_rfl) ent17 (fun w hw => proposals_c m p (a.take 250) s A c w (by first | assumption | exact w64_and _ _ | exact w64_or _ _ | exact w64_andNot _ _ | (unfold W64; omega)) (fun u hu => (hok u (List.mem_of_mem_take hu)).support) (by first | omega | (simp; done) | (simp; omega)) (Arr.rd ((Rd.arr hr _).take _) hw)) (fun _ _ _ => trivial) (fun A39 c40 Hr41 hrow42 => ?_)
      refine T.pure 82 (.int .i64 ((((proV m p (a.take 250) s).length : Nat) : Int))) (by kernel_rfl) (fun w => by kernel_rfl) ?_
      refine T.pure 83 (.bool (decide ((((proV m p (a.take 250) s).length : Nat) : Int) ≤ 1))) (by kernel_rfl) (fun w => by kernel_rfl) ?_
      exact T.blkEnd (by kernel_rfl) (fun w h => (h.perm ((((List.Perm.refl _).append_left Hr41).trans (List.perm_append_comm_assoc _ _ _)).trans ((((List.Perm.refl _).append_left Hr41).trans List.perm_middle).append_left Hr36))).part (List.Sublist.append (List.Sublist.refl _) ((List.nil_sublist _).cons_cons _)))
    refine T.and 84 (decide ((((cerV m p (a.take 250) s).length : Nat) : Int) ≤ 1)) (decide ((((proV m p (a.take 250) s).length : Nat) : Int) ≤ 1)) (by kernel_rfl) (by kernel_rfl) ?_
    refine T.pure 85 (.bool ((decide ((((cerV m p (a.take 250) s).length : Nat) : Int) ≤ 1)) && (decide ((((proV m p (a.take 250) s).length : Nat) : Int) ≤ 1)))) (by kernel_rfl) (fun w => by kernel_rfl) ?_
    refine T.blk [(17, false)] [(18, false), (19, false)] 16 true ((decide ((((cerV m p (a.take 250) s).length : Nat) : Int) ≤ 1)) && (decide ((((proV m p (a.take 250) s).length : Nat) : Int) ≤ 1))) 85 86 (.bool (true)) (by kernel_rfl) (by kernel_rfl) (by kernel_rfl) (fun hg43 => ?_) ?_
    · have hg43_ := hg43
      have hg43l := (Bool.and_eq_true_iff.1 hg43).1
      have hg43r := (Bool.and_eq_true_iff.1 hg43).2
      have hg43l' := of_decide_eq_true hg43l
      have hg43r' := of_decide_eq_true hg43r
      refine T.callP 86 16 #[] (.bool (true)) (by kernel_rfl) (by kernel_rfl) ent16 (fun w hw => awake15_c w) (fun _ _ => trivial) ?_
      exact T.blkEnd (by kernel_rfl) (fun w h => h)
    refine T.and 87 ((decide ((((cerV m p (a.take 250) s).length : Nat) : Int) ≤ 1)) && (decide ((((proV m p (a.take 250) s).length : Nat) : Int) ≤ 1))) (true) (by kernel_rfl) (by kernel_rfl) ?_
    refine T.pure 8 (.bool (((decide ((((cerV m p (a.take 250) s).length : Nat) : Int) ≤ 1)) && (decide ((((proV m p (a.take 250) s).length : Nat) : Int) ≤ 1))) && true)) (by kernel_rfl) (fun w => by kernel_rfl) ?_
    refine T.nil ?_
    refine QN.seq ?_
    refine W.ret ?_
    refine QN.done (.inl rfl) 8 (.bool (((decide ((((cerV m p (a.take 250) s).length : Nat) : Int) ≤ 1)) && (decide ((((proV m p (a.take 250) s).length : Nat) : Int) ≤ 1))) && true)) rfl (by kernel_rfl) (fun w hw => ⟨?_, hw.below⟩)
    exact ret_bool (one_w (l := a.take 250) (fun i k hi hk => hone i k hi hk (by omega)))
theorem BroadcastOne_w (w : World) (a0 : Int) (v1 : Value) (x1 : Nm) (v2 : Value) (x2 : List Vt) (a3 : Int) (h0 : W64 a0) (h1 : v1 = .agg x1.cs) (h2 : VS w v2 x2) (h3 : W64 a3) : Calls Try.prog 7 #[.int .i64 a0, v1, v2, .int .i64 a3] w fun e w' => e = .returned (.bool true) ∧ Below w.heap.size w w' := by
  obtain rfl := h1
  obtain ⟨A2, c2, rfl, l2, m2, r2, k2⟩ := h2
  exact BroadcastOne_c _ _ _ _ _ _ w h0 k2 l2 m2 r2.rd
end Go.Proofs.Ytnagichfngogkaa
