/- Plain laws: a closure stands alone, decides the same, sheds the rest, convicts. -/
import Derived.Test.YtphnfhonmbbddaaCe2
import Derived.Test.YtphnfhonmbbddaaPair
namespace Go.Proofs.Ytphnfhonmbbddaa
open Go Go.RowKit
set_option linter.unusedVariables false

theorem clV_len (m : Int) (p : Nm) (l : List Vt) (o : Oc) : (clV m p l o).length ≤ l.length := by
  unfold clV
  cases decB m p l o with
  | true => exact Nat.le_trans (List.length_filter_le _ _) (slV_len m p l o.slot)
  | false => simp
theorem clV_acc {m : Int} {p : Nm} {l : List Vt} {o : Oc} {u : Vt} (h : u ∈ clV m p l o) : u ∈ accV m p l ∧ u.slot = o.slot := by
  unfold clV at h
  cases hd : decB m p l o with
  | true =>
    rw [hd, cond_true] at h
    have h1 := List.mem_filter.1 (clo_sub u h)
    exact ⟨h1.1, by have := h1.2; unfold slP at this; simpa using this⟩
  | false => rw [hd] at h; cases h
theorem clV_mem {m : Int} {p : Nm} {l : List Vt} {o : Oc} {u : Vt} (h : u ∈ clV m p l o) : u ∈ l := (accV_mem (clV_acc h).1).1
theorem accS_sl (m : Int) (p : Nm) (s : Int) (l : List Vt) : AccS m p s (slV m p l s) := by rw [← accV_ownF]; exact accS m p s l
theorem sl_self {m : Int} {p : Nm} {s : Int} {c : List Vt} (hs : Strict c) (hA : AccS m p s c) : accV m p c = c ∧ slV m p c s = c := by
  have h1 := accV_self hs hA.par hA.allow
  refine ⟨h1, ?_⟩
  unfold slV
  rw [h1, List.filter_eq_self]
  intro u hu
  unfold slP
  simpa using hA.slot u hu
theorem out_sl {m : Int} {p : Nm} {l : List Vt} {s : Int} {o : Oc} : o ∈ outV m p l s ↔ (∃ v ∈ slV m p l s, ocOf s v = some o) ∧ quorum (size m) ≤ (size (sgMask (ocOf s) (slV m p l s) o) : Int) := by rw [outV_mem, accV_ownF]
theorem ouF_iff {o : Oc} {i : Int} {w : Vt} : ouF o i w = true ↔ w.signer = i ∧ w.kind = 4 ∧ w.round = o.round ∧ w.choice = o.choice ∧ w.val = o.val := by
  unfold ouF
  simp only [Bool.and_eq_true, beq_iff_eq]
  constructor
  · rintro ⟨⟨⟨⟨h1, h2⟩, h3⟩, h4⟩, h5⟩; exact ⟨h1, h2, h3, h4, h5⟩
  · rintro ⟨h1, h2, h3, h4, h5⟩; exact ⟨⟨⟨⟨h1, h2⟩, h3⟩, h4⟩, h5⟩
theorem fm_sub {f : Int → Option Vt} (hf : ∀ i w, f i = some w → w.signer = i) : ∀ l : List Int, ((l.filterMap f).map (·.signer)).Sublist l
  | [] => List.Sublist.refl _
  | i :: l => by
    rw [List.filterMap_cons]
    cases h : f i with
    | none => exact (fm_sub hf l).cons _
    | some w => simp only [List.map_cons]; rw [hf i w h]; exact (fm_sub hf l).cons_cons _
theorem idsI_nodup (m : Int) : (idsI m).Nodup := by
  unfold idsI
  rw [List.Nodup, List.pairwise_map]
  exact List.Pairwise.imp (fun {a b} h e => h (by omega)) (ids_nodup m)
section
variable {m : Int} {p : Nm} {s : Int} {a : List Vt} {o : Oc}
theorem find_signer {i : Int} {w : Vt} (h : a.find? (ouF o i) = some w) : w.signer = i := (ouF_iff.1 (find_out h).1).1
theorem staP_many (hA : AccS m p s a) (hq : quorum (size m) ≤ (size (sgMask (ocOf s) a o) : Int)) : quorum (size m) ≤ ((staP a o (idsI m)).length : Int) := by
  have hl : (staP a o (idsI m)).length = ((staP a o (idsI m)).map (·.signer)).length := by simp
  have h1 : ((ids (sgMask (ocOf s) a o)).map (fun k : Nat => (k : Int))).length ≤ ((staP a o (idsI m)).map (·.signer)).length := by
    refine List.Nodup.length_le_of_subset ?_ ?_
    · rw [List.Nodup, List.pairwise_map]
      exact List.Pairwise.imp (fun {a b} h e => h (by omega)) (ids_nodup _)
    · intro i hi
      obtain ⟨k, hk, rfl⟩ := List.mem_map.1 hi
      rw [mem_ids] at hk
      obtain ⟨hm, u, hu, u1, u2, u3, u4, u5, u6⟩ := mask_has hA hk.1 hk.2
      obtain ⟨w, h3, h4, h5⟩ := find_ex (F := ouF o (k : Int)) hu (ouF_iff.2 ⟨u1, u2, u4, u5, u6⟩)
      refine List.mem_map.2 ⟨w, List.mem_filterMap.2 ⟨(k : Int), mem_idsI.2 (by rw [hasB_nat _ _ hk.1]; exact hm), h3⟩, find_signer h3⟩
  rw [hl]
  have e : (ids (sgMask (ocOf s) a o)).length = size (sgMask (ocOf s) a o) := rfl
  rw [List.length_map] at h1
  omega
theorem staL_q (hA : AccS m p s a) (hq : quorum (size m) ≤ (size (sgMask (ocOf s) a o) : Int)) : ((staL m a o).length : Int) = quorum (size m) := by
  have h1 := staP_many hA hq
  have h0 := quorum_ge (size m)
  show (((staP a o (idsI m)).take (quorum (size m)).toNat).length : Int) = _
  rw [List.length_take]
  omega
/-- The closure decides what was decided. -/
theorem clo_out (hA : AccS m p s a) (ho : ∃ v ∈ a, ocOf s v = some o) (hq : quorum (size m) ≤ (size (sgMask (ocOf s) a o) : Int)) : (∃ v ∈ cloL m a o, ocOf s v = some o) ∧ quorum (size m) ≤ (size (sgMask (ocOf s) (cloL m a o) o) : Int) := by
  obtain ⟨v0, hv0, e0⟩ := ho
  obtain ⟨g1, g2, g3⟩ := ocOf_some e0
  have hlen := staL_q hA hq
  have hin : ∀ w ∈ staL m a o, w ∈ cloL m a o ∧ ocOf s w = some o ∧ hasB m w.signer = true := fun w hw => by
    have hc : w ∈ cloL m a o := clo_mem.2 (.start hw)
    obtain ⟨i, hi, hf⟩ := List.mem_filterMap.1 (List.mem_of_mem_take hw)
    have h1 := ouF_iff.1 (find_out hf).1
    refine ⟨hc, ?_, (hA.ok w (sta_sub w hw)).2.2.1⟩
    unfold ocOf
    rw [if_pos (by rw [h1.2.1, h1.2.2.2.1, g3]; simp; exact g2), h1.2.2.1, h1.2.2.2.1, h1.2.2.2.2, g3]
  have hAc := clo_acc (o := o) hA
  have hq1 : 1 ≤ quorum (size m) := quorum_pos (size_pos (hA.ok v0 hv0).2.2.1)
  refine ⟨?_, ?_⟩
  · have : 0 < (staL m a o).length := by omega
    obtain ⟨w, hw⟩ := List.exists_mem_of_length_pos this
    exact ⟨w, (hin w hw).1, (hin w hw).2.1⟩
  · have h1 : ((staL m a o).map (·.signer)).length ≤ ((ids (sgMask (ocOf s) (cloL m a o) o)).map (fun k : Nat => (k : Int))).length := by
      refine List.Nodup.length_le_of_subset ?_ ?_
      · refine List.Pairwise.sublist ?_ (idsI_nodup m)
        exact List.Sublist.trans ((List.take_sublist _ _).map _) (fm_sub (f := fun i => a.find? (ouF o i)) (fun i w h => find_signer h) (idsI m))
      · intro i hi
        obtain ⟨w, hw, rfl⟩ := List.mem_map.1 hi
        obtain ⟨h2, h3, h4⟩ := hin w hw
        obtain ⟨b1, b2⟩ := hasB_lt h4
        refine List.mem_map.2 ⟨w.signer.toNat, ?_, by omega⟩
        rw [mem_ids, mb_sgMask _ _ _ hAc.sg _ (by omega)]
        refine ⟨by omega, List.any_eq_true.2 ⟨w, h2, ?_⟩⟩
        simp [h3]
        omega
    rw [List.length_map, List.length_map] at h1
    have e : (ids (sgMask (ocOf s) (cloL m a o) o)).length = size (sgMask (ocOf s) (cloL m a o) o) := rfl
    omega
end
theorem clV_dec {m : Int} {p : Nm} {l : List Vt} {s : Int} {o : Oc} (h : o ∈ outV m p l s) : decB m p l o = true ∧ clV m p l o = cloL m (slV m p l s) o ∧ o.slot = s := by
  have hs := out_slot h
  have hd : decB m p l o = true := by rw [decB_iff, hs]; exact h
  refine ⟨hd, ?_, hs⟩
  unfold clV
  rw [hd, cond_true, hs]
theorem clV_stands {m : Int} {p : Nm} {l : List Vt} {s : Int} {o : Oc} (h : o ∈ outV m p l s) : accV m p (clV m p l o) = clV m p l o ∧ o ∈ outV m p (clV m p l o) s := by
  obtain ⟨hd, he, hs⟩ := clV_dec h
  rw [he]
  have hA := accS_sl m p s l
  have h2 := sl_self (clo_strict (o := o) (slV_strict m p l s)) (clo_acc (o := o) hA)
  refine ⟨h2.1, ?_⟩
  rw [out_sl] at h ⊢
  rw [h2.2]
  exact clo_out hA h.1 h.2
theorem stands1 {m : Int} {p : Nm} {l : List Vt} {s : Int} {j : Nat} {hj : j < (outV m p l s).length} (h : (((!(decB m p l (outV m p l s)[j])) || (!(decB m p (clV m p l (outV m p l s)[j]) (outV m p l s)[j]))) || (!(accV m p (clV m p l (outV m p l s)[j]) == clV m p l (outV m p l s)[j]))) = true) : False := by
  have hx := List.getElem_mem hj
  obtain ⟨hd, _, hs⟩ := clV_dec hx
  have h2 := clV_stands hx
  have h3 : decB m p (clV m p l (outV m p l s)[j]) (outV m p l s)[j] = true := by rw [decB_iff, hs]; exact h2.2
  rw [hd, h3, h2.1] at h
  simp at h
theorem stands2 {m : Int} {p : Nm} {l : List Vt} {s : Int} {j k : Nat} {hj : j < (outV m p l s).length} {hk : k < (clV m p l (outV m p l s)[j]).length} (h : ((!((accV m p l).any (fun x => x == (clV m p l (outV m p l s)[j])[k]))) || ((clV m p l (outV m p l s)[j])[k].slot != s)) = true) : False := by
  have hx := List.getElem_mem hj
  obtain ⟨_, _, hs⟩ := clV_dec hx
  have h2 := clV_acc (List.getElem_mem hk)
  have h3 : (accV m p l).any (fun x => x == (clV m p l (outV m p l s)[j])[k]) = true := List.any_eq_true.2 ⟨_, h2.1, by simp⟩
  rw [h3, h2.2, hs] at h
  simp at h
section
variable {m : Int} {p : Nm} {s : Int} {a c : List Vt} {v : Vt} {P : Vt → Bool}
theorem find_part {F : Vt → Bool} {w : Vt} (h : a.find? F = some w) (hP : P w = true) : (a.filter P).find? F = some w := by
  induction a with
  | nil => cases h
  | cons x a ih =>
    rw [List.find?_cons] at h
    rw [List.filter_cons]
    cases hF : F x with
    | true =>
      rw [hF] at h
      simp only [Option.some.injEq] at h
      subst h
      rw [if_pos hP, List.find?_cons, hF]
    | false =>
      rw [hF] at h
      cases hx : P x with
      | true => rw [if_pos rfl, List.find?_cons, hF]; exact ih h
      | false => exact ih h
theorem find_part0 {F : Vt → Bool} (h : a.find? F = none) : (a.filter P).find? F = none := by
  rw [List.find?_eq_none] at h ⊢
  exact fun x hx => h x (List.mem_filter.1 hx).1
theorem find_same (hc : c = a.filter P) {F : Vt → Bool} (h : ∀ w, a.find? F = some w → w ∈ c) : c.find? F = a.find? F := by
  cases hf : a.find? F with
  | none => rw [hc]; exact find_part0 hf
  | some w =>
    have hw := h w hf
    rw [hc] at hw ⊢
    exact find_part hf (List.mem_filter.1 hw).2
theorem pk_same (hc : c = a.filter P) {F : Vt → Bool} (h : ∀ w ∈ pkF a F, w ∈ c) : pkF c F = pkF a F := by
  unfold pkF
  rw [find_same hc (fun w hw => h w (pkF_mem.2 hw))]
theorem fm_same (hc : c = a.filter P) {G : Int → Vt → Bool} {is : List Int} (h : ∀ w ∈ is.flatMap (fun i => pkF a (G i)), w ∈ c) : is.flatMap (fun i => pkF c (G i)) = is.flatMap (fun i => pkF a (G i)) := by
  rw [List.flatMap_def, List.flatMap_def]
  congr 1
  refine List.map_congr_left fun i hi => pk_same hc fun w hw => h w (List.mem_flatMap.2 ⟨i, hi, hw⟩)
theorem adp_mono {b : List Vt} (hs : ∀ u ∈ a, u ∈ b) (h : adp m a v = true) : adp m b v = true := by
  unfold adp at h ⊢
  rw [Bool.and_eq_true] at h ⊢
  refine ⟨sup_to h.1 fun i _ u hu h1 h2 => ⟨u, hs u hu, h1, h2⟩, ?_⟩
  obtain ⟨u, hu, h1⟩ := List.any_eq_true.1 h.2
  exact List.any_eq_true.2 ⟨u, hs u hu, h1⟩
/-- What adopts a Prevote is among what it needs. -/
theorem adp_need (hA : AccS m p s a) (hv : v ∈ a) (hk : v.kind = 3) (hr : v.round ≠ 1) (hn : ∀ u ∈ latL m a v, u ∈ c) (hd : adp m a v = true) : adp m c v = true := by
  have had := ad_eq hA hv hk hr
  unfold latL at hn
  rw [had, hd, cond_true] at hn
  have hd' := hd
  unfold adp at hd'
  rw [Bool.and_eq_true] at hd'
  unfold adp
  rw [Bool.and_eq_true]
  have hval : ∀ i, hasB v.support i = true → ∀ u ∈ a, u.signer = i → pvB v u = true → ∃ w ∈ c, w.signer = i ∧ pvB v w = true := by
    intro i hi u hu h1 h2
    rw [pvB_iff] at h2
    obtain ⟨w, h3, h4, h5⟩ := find_ex (F := supF v 4 (v.round - 1) i) hu (supF_iff.2 ⟨h1, h2⟩)
    rw [supF_iff] at h4
    refine ⟨w, hn w (List.mem_flatMap.2 ⟨i, mem_idsI.2 hi, ?_⟩), h4.1, pvB_iff.2 h4.2⟩
    unfold adI
    rw [h3]
    exact pkF_mem.2 h3
  refine ⟨sup_to hd'.1 fun i hi u hu h1 h2 => ?_, ?_⟩
  · by_cases hex : ∃ u ∈ a, u.signer = i ∧ pvB v u = true
    · obtain ⟨u2, hu2, h3, h4⟩ := hex
      obtain ⟨w, hw, h5, h6⟩ := hval i hi u2 hu2 h3 h4
      exact ⟨w, hw, h5, by rw [h6]; rfl⟩
    · have h2' : pmB v u = true := by
        rw [Bool.or_eq_true] at h2
        rcases h2 with h2 | h2
        · exact absurd ⟨u, hu, h1, h2⟩ hex
        · exact h2
      rw [pmB_iff] at h2'
      obtain ⟨w, h3, h4, h5⟩ := find_ex (F := mxF i (v.round - 1)) hu (mxF_iff.2 ⟨h1, h2'⟩)
      rw [mxF_iff] at h4
      have hno : a.find? (supF v 4 (v.round - 1) i) = none := by
        rw [List.find?_eq_none]
        intro y hy hF
        rw [supF_iff] at hF
        exact hex ⟨y, hy, hF.1, pvB_iff.2 hF.2⟩
      refine ⟨w, hn w (List.mem_flatMap.2 ⟨i, mem_idsI.2 hi, ?_⟩), h4.1, by rw [pmB_iff.2 h4.2]; simp⟩
      unfold adI
      rw [hno]
      exact pkF_mem.2 h3
  · obtain ⟨u, hu, h1⟩ := List.any_eq_true.1 hd'.2
    rw [Bool.and_eq_true] at h1
    obtain ⟨w, hw, h2, h3⟩ := hval u.signer h1.1 u hu rfl h1.2
    exact List.any_eq_true.2 ⟨w, hw, by rw [h2, h1.1, h3]; rfl⟩
/-- What a vote needs is the same in a part that holds it. -/
theorem need_same (hA : AccS m p s a) (hC : AccS m p s c) (hc : c = a.filter P) (hv : v ∈ c) (hn : ∀ u ∈ needL m a v, u ∈ c) : needL m c v = needL m a v := by
  have hva : v ∈ a := by rw [hc] at hv; exact (List.mem_filter.1 hv).1
  have hsub : ∀ u ∈ c, u ∈ a := fun u hu => by rw [hc] at hu; exact (List.mem_filter.1 hu).1
  unfold needL at hn ⊢
  cases h1 : (v.kind == 2) with
  | true => rw [h1, cond_true] at hn; rw [cond_true, cond_true]; exact pk_same hc hn
  | false =>
    rw [h1, cond_false] at hn
    rw [cond_false, cond_false]
    cases h2 : ((v.kind == 3) && (v.round == 1)) with
    | true => rw [h2, cond_true] at hn; rw [cond_true, cond_true]; exact fm_same hc hn
    | false =>
      rw [h2, cond_false] at hn
      rw [cond_false, cond_false]
      cases h3 : (v.kind == 3) with
      | true =>
        rw [h3, cond_true] at hn
        rw [cond_true, cond_true]
        have hk : v.kind = 3 := by simpa using h3
        have hr : v.round ≠ 1 := fun e => by rw [h3, e] at h2; simp at h2
        have e1 := ad_eq hA hva hk hr
        have e2 := ad_eq hC hv hk hr
        have e3 : adB m c v = adB m a v := by
          rw [e1, e2]
          refine bool_ext ⟨fun h => adp_mono hsub h, fun h => adp_need hA hva hk hr hn h⟩
        unfold latL at hn ⊢
        rw [e3]
        cases h4 : adB m a v with
        | true =>
          rw [h4, cond_true] at hn
          rw [cond_true, cond_true, List.flatMap_def, List.flatMap_def]
          congr 1
          refine List.map_congr_left fun i hi => ?_
          have hni : ∀ w ∈ adI a v i, w ∈ c := fun w hw => hn w (List.mem_flatMap.2 ⟨i, hi, hw⟩)
          unfold adI at hni ⊢
          have e5 : (c.find? (supF v 4 (v.round - 1) i)) = (a.find? (supF v 4 (v.round - 1) i)) := find_same hc fun w hw => hni w (by rw [hw]; exact pkF_mem.2 hw)
          rw [e5]
          cases h5 : (a.find? (supF v 4 (v.round - 1) i)).isSome with
          | true => rw [h5, cond_true] at hni; rw [cond_true, cond_true]; exact pk_same hc hni
          | false => rw [h5, cond_false] at hni; rw [cond_false, cond_false]; exact pk_same hc hni
        | false =>
          rw [h4, cond_false] at hn
          rw [cond_false, cond_false, fm_same hc (fun w hw => hn w (List.mem_append_left _ hw)), pk_same hc (fun w hw => hn w (List.mem_append_right _ hw))]
      | false =>
        rw [h3, cond_false] at hn
        rw [cond_false, cond_false]
        cases h4 : ((v.kind == 4) && (v.choice == 2)) with
        | true =>
          rw [h4, cond_true] at hn
          rw [cond_true, cond_true]
          unfold mxL at hn ⊢
          have hni : ∀ i ∈ idsI v.support, c.find? (pvF i v.round) = a.find? (pvF i v.round) := fun i hi => find_same hc fun w hw => hn w (List.mem_append_left _ (List.mem_flatMap.2 ⟨i, hi, pkF_mem.2 hw⟩))
          have hw : ∀ i ∈ idsI v.support, mxW c v i = mxW a v i := fun i hi => by unfold mxW; rw [hni i hi]
          have hf : mxFi c v = mxFi a v := by
            unfold mxFi
            revert hw
            cases idsI v.support with
            | nil => intro _; rfl
            | cons i t => intro hw; exact hw i (by simp)
          have hd : mxDi c v = mxDi a v := by
            unfold mxDi
            rw [hf, Bool.eq_iff_iff, List.any_eq_true, List.any_eq_true]
            constructor
            · rintro ⟨i, hi, h5⟩; exact ⟨i, hi, by rw [← hw i hi]; exact h5⟩
            · rintro ⟨i, hi, h5⟩; exact ⟨i, hi, by rw [hw i hi]; exact h5⟩
          rw [fm_same hc (fun w hw => hn w (List.mem_append_left _ hw)), hd, hf]
          cases h5 : mxDi a v with
          | true => rfl
          | false =>
            rw [h5, cond_false] at hn
            rw [cond_false, cond_false, pk_same hc (fun w hw => hn w (List.mem_append_right _ hw))]
        | false =>
          rw [h4, cond_false] at hn
          rw [cond_false, cond_false]
          cases h5 : (v.kind == 4) with
          | true => rw [h5, cond_true] at hn; rw [cond_true, cond_true]; exact fm_same hc hn
          | false => rfl
end
theorem take_same {f g : Int → Option Vt} : ∀ (l : List Int) (q : Nat), (∀ i ∈ l, f i = none → g i = none) → (∀ i ∈ l, ∀ w, f i = some w → w ∈ (l.filterMap f).take q → g i = some w) → (∀ i w, f i = some w → w.signer = i) → l.Nodup → (l.filterMap g).take q = (l.filterMap f).take q
  | [], q, _, _, _, _ => rfl
  | i :: l, q, h0, h1, hs, hn => by
    rw [List.nodup_cons] at hn
    rw [List.filterMap_cons, List.filterMap_cons]
    cases hf : f i with
    | none =>
      rw [h0 i (by simp) hf]
      refine take_same l q (fun k hk => h0 k (by simp [hk])) (fun k hk w hw hm => h1 k (by simp [hk]) w hw ?_) hs hn.2
      rw [List.filterMap_cons, hf]; exact hm
    | some w =>
      cases q with
      | zero => simp
      | succ q =>
        have hg : g i = some w := h1 i (by simp) w hf (by rw [List.filterMap_cons, hf]; simp)
        rw [hg]
        simp only [List.take_succ_cons]
        congr 1
        refine take_same l q (fun k hk => h0 k (by simp [hk])) (fun k hk u hu hm => h1 k (by simp [hk]) u hu ?_) hs hn.2
        rw [List.filterMap_cons, hf]
        simp only [List.take_succ_cons]
        exact List.mem_cons_of_mem _ hm
open Classical in
theorem clo_all {m : Int} {c : List Vt} {o : Oc} (h : ∀ v ∈ c, Clo (needL m c) (staL m c o) v) : cloL m c o = c := by
  unfold cloL
  rw [List.filter_eq_self]
  intro v hv
  rw [decide_eq_true_eq]
  exact h v hv
/-- The closure of the closure is the closure. -/
theorem clo_clo {m : Int} {p : Nm} {s : Int} {a : List Vt} {o : Oc} (hA : AccS m p s a) : cloL m (cloL m a o) o = cloL m a o := by
  have hC := clo_acc (o := o) hA
  have hsta : staL m (cloL m a o) o = staL m a o := by
    unfold staL
    refine take_same (idsI m) _ (fun i _ h => ?_) (fun i _ w h hm => ?_) (fun i w h => find_signer h) (idsI_nodup m)
    · rw [List.find?_eq_none] at h ⊢
      exact fun x hx => h x (clo_sub x hx)
    · have hc : w ∈ cloL m a o := clo_mem.2 (.start hm)
      refine find_part h ?_
      exact (List.mem_filter.1 hc).2
  refine clo_all fun v hv => ?_
  rw [hsta]
  have key : ∀ v, Clo (needL m a) (staL m a o) v → Clo (needL m (cloL m a o)) (staL m a o) v := by
    intro v h
    induction h with
    | start h => exact .start h
    | step h1 h2 ih =>
      have hv := clo_mem.2 h1
      have e := need_same hA hC rfl hv (clo_need hv)
      exact .step ih (by rw [e]; exact h2)
  exact key v (clo_mem.1 hv)
theorem sheds1 {m : Int} {p : Nm} {l r : List Vt} {s : Int} {j : Nat} {hj : j < (outV m p l s).length} (h : (((!(decB m p (clV m p l (outV m p l s)[j]) (outV m p l s)[j])) || (!(clV m p l (outV m p l s)[j] == clV m p (clV m p l (outV m p l s)[j]) (outV m p l s)[j]))) || (!(decB m p (([] ++ r) ++ clV m p l (outV m p l s)[j]) (outV m p l s)[j]))) = true) : False := by
  have hx := List.getElem_mem hj
  obtain ⟨hd, he, hs⟩ := clV_dec hx
  have h2 := clV_stands hx
  obtain ⟨hd2, he2, _⟩ := clV_dec h2.2
  have h3 : decB m p (([] ++ r) ++ clV m p l (outV m p l s)[j]) (outV m p l s)[j] = true := by
    rw [decB_iff, hs]
    exact outV_mono (fun u hu => List.mem_append_right _ hu) h2.2
  have hA := accS_sl m p s l
  have h4 : clV m p (clV m p l (outV m p l s)[j]) (outV m p l s)[j] = clV m p l (outV m p l s)[j] := by
    rw [he2, he, (sl_self (clo_strict (o := (outV m p l s)[j]) (slV_strict m p l s)) (clo_acc (o := (outV m p l s)[j]) hA)).2]
    exact clo_clo hA
  rw [hd2, h3, h4] at h
  simp at h
theorem conf_sg {u z : Vt} (h : confB u z = true) : 0 ≤ u.signer ∧ u.signer < 10 := valid_signer (conf_out h).2.1
theorem caccounts {m : Int} {p : Nm} {l l' : List Vt} {s : Int} {x y : Oc} {mk : Int} (hx : x ∈ outV m p l s) (hy : y ∈ outV m p l' s) (hne : ((x.choice == y.choice) && (x.val == y.val)) = false) (hmk : mk = pairM confB (clV m p l x) (clV m p l' y)) (h : (decide ((size (bits .and .i64 mk m) : Int) < 2 * quorum (size m) - (size m : Int))) = true) : False := by
  obtain ⟨hd, he, hs⟩ := clV_dec hx
  obtain ⟨hd', he', hs'⟩ := clV_dec hy
  have hA := accS_sl m p s l
  have hB := accS_sl m p s l'
  have h1 := clo_out hA (out_sl.1 hx).1 (out_sl.1 hx).2
  have h2 := clo_out hB (out_sl.1 hy).1 (out_sl.1 hy).2
  obtain ⟨X, h3, h4⟩ := accounts0 (clo_acc hA) (clo_acc hB) h1.1 h2.1 h1.2 h2.2 (fun e => by rw [e.1, e.2] at hne; simp at hne)
  have h5 : size X ≤ size (bits .and .i64 mk m) := by
    refine size_mono fun i hi hm => ?_
    obtain ⟨g0, u, hu, z, hz, e1, e2, e3, e4⟩ := h4 i hi hm
    rw [mb_and, g0, Bool.and_true, hmk, mb_pairM (fun u z h => conf_sg h) _ _ _ hi, he, he']
    exact List.any_eq_true.2 ⟨u, hu, List.any_eq_true.2 ⟨z, hz, by rw [e4, e1]; simp⟩⟩
  have := of_decide_eq_true h
  omega
end Go.Proofs.Ytphnfhonmbbddaa
