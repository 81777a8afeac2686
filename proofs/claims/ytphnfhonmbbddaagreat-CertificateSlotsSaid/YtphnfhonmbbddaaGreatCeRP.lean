/- The reference's closure is the closure. -/
import Derived.Test.YtphnfhonmbbddaaGreatCeR
import Derived.Test.YtphnfhonmbbddaaGreatCe2
import Derived.Test.YtphnfhonmbbddaaGreatLaw11q
namespace Go.Proofs.YtphnfhonmbbddaaGreat
open Go Go.RowKit
set_option linter.unusedVariables false

theorem low_ids (x q : Int) : ids (lowest x q) = (ids x).take q.toNat := by
  unfold lowest; exact ids_ofIds_sub (List.take_sublist _ _)
theorem find_congr {a : List Vt} {F G : Vt → Bool} (h : ∀ u ∈ a, F u = G u) : a.find? F = a.find? G := by
  induction a with
  | nil => rfl
  | cons x a ih =>
    rw [List.find?_cons, List.find?_cons, h x (by simp), ih fun u hu => h u (by simp [hu])]
theorem pk_congr {a : List Vt} {F G : Vt → Bool} (h : ∀ u ∈ a, F u = G u) : pkO a F = pkF a G := by
  unfold pkO pkF
  rw [find_congr h]
theorem fm_congr {α β : Type} {is : List α} {G H : α → List β} (h : ∀ i ∈ is, G i = H i) : is.flatMap G = is.flatMap H := by
  rw [List.flatMap_def, List.flatMap_def]
  congr 1
  exact List.map_congr_left h
theorem ids_pos {x : Int} {i : Int} (h : i ∈ idsI x) : decide (i < 0) = false := by
  have := hasB_lt (mem_idsI.1 h)
  simp; omega
theorem mem_len (l : List Vt) : (((l.length : Nat) : Int) == 0) = l.isEmpty := by cases l <;> simp <;> omega
theorem pkO_isSome (a : List Vt) (F : Vt → Bool) : ((((pkO a F).length : Nat) : Int) == 0) = !(a.find? F).isSome := by
  unfold pkO
  cases a.find? F <;> simp
section
variable {m : Int} {p : Nm} {s : Int} {a : List Vt} {v : Vt} {o : Oc}
theorem like_pk (r : Int) (u : Vt) : rpk (-1) 3 r v.choice v.val u = likP v 3 r u := by
  unfold rpk likP
  simp
theorem sup_pk {i k r : Int} (hi : decide (i < 0) = false) (u : Vt) : rpk i k r v.choice v.val u = supF v k r i u := by
  unfold rpk supF likP
  rw [hi, Bool.false_or]
  simp only [Bool.and_assoc]
theorem mix_pk {i r : Int} (hi : decide (i < 0) = false) (u : Vt) (hu : validB u = true) : rpk i 4 r 2 Nm.zero u = mxF i r u := by
  unfold rpk mxF
  rw [hi, Bool.false_or]
  by_cases hc : u.choice = 2
  · have hz : u.val = Nm.zero := by
      unfold validB at hu
      simp only [Bool.and_eq_true] at hu
      have h1 := hu.1.1.2
      rw [hc] at h1
      simpa using h1
    rw [hz]; simp
  · have : (u.choice == 2) = false := by simpa using hc
    rw [this]; simp
theorem adopt_adp (hA : AccS m p s a) (hv : v ∈ a) : adoptR m v a = adp m a v := by
  have hok := hA.ok v hv
  have h := adopt_iff (m := m) (v := v) (a := a) hok.2.2.2 hok.1
  rw [cnt_sub hA (fun u hu => hu) (hA.par v hv) (hA.slot v hv)] at h
  exact bool_ext h
theorem unl_eq (f w : Vt) : (!(sameB f w)) = mxD1 f w := by
  unfold sameB mxD1
  rw [Bool.not_and]
  have e1 : (f.choice == w.choice) = (w.choice == f.choice) := BEq.comm
  have e2 : (f.val == w.val) = (w.val == f.val) := BEq.comm
  rw [e1, e2]; rfl
theorem rmx_eq (f u : Vt) : rmx v f u = unF v f u := by
  unfold rmx unF likP
  have e1 : sameB f u = ((u.choice == f.choice) && (u.val == f.val)) := by
    unfold sameB
    have e1 : (f.choice == u.choice) = (u.choice == f.choice) := BEq.comm
    have e2 : (f.val == u.val) = (u.val == f.val) := BEq.comm
    rw [e1, e2]
  rw [e1]
  cases hasB v.support u.signer <;> cases (u.kind == 3) <;> cases (u.round == v.round) <;> cases (u.choice == f.choice) <;> cases (u.val == f.val) <;> rfl
theorem mix_eq (hA : AccS m p s a) (hv : v ∈ a) (hk : v.kind = 4) (hc : v.choice = 2) : mixR v a = mxL a v := by
  have hal := hA.allow v hv
  have hok := hA.ok v hv
  unfold allowB at hal
  rw [cnt_sub hA (fun u hu => hu) (hA.par v hv) (hA.slot v hv), Bool.and_eq_true, jud4 hk] at hal
  have hj := hal.2
  unfold precB at hj
  rw [if_neg (by simp [hc]), Bool.and_eq_true] at hj
  have hq1 : 1 ≤ quorum (size m) := quorum_pos (size_pos hok.2.2.2)
  have hq := (sup_iff.1 hj.1).2.1
  have hfind : ∀ i ∈ idsI v.support, pkF a (pvF i v.round) = [mxW a v i] := by
    intro i hi
    obtain ⟨u, hu, h1, h2⟩ := (sup_iff.1 hj.1).2.2 i (mem_idsI.1 hi)
    unfold prB at h2
    rw [Bool.and_eq_true, beq_iff_eq, beq_iff_eq] at h2
    obtain ⟨w, h3, _, _⟩ := find_ex (F := pvF i v.round) hu (pvF_iff.2 ⟨h1, h2⟩)
    rw [pkF_some h3]
    unfold mxW
    rw [h3]; rfl
  have hO : mixO v a = (idsI v.support).map (mxW a v) := by
    unfold mixO
    rw [fm_congr hfind]
    generalize idsI v.support = is
    induction is with
    | nil => rfl
    | cons i is ih => rw [List.flatMap_cons, ih]; rfl
  have hlen : 0 < (idsI v.support).length := by rw [idsI_length]; omega
  have hh : hd0 (mixO v a) = mxFi a v := by
    rw [hO]
    unfold mxFi
    revert hlen
    cases idsI v.support with
    | nil => intro h; simp at h
    | cons i is => intro _; rfl
  have hany : (mixO v a).any (fun u => !(sameB (hd0 (mixO v a)) u)) = mxDi a v := by
    rw [hh, hO]
    unfold mxDi
    rw [List.any_map]
    congr 1
    funext i
    exact unl_eq _ _
  have h0 : decide (0 < (mixO v a).length) = true := by rw [hO]; simpa using hlen
  unfold mixR mxL
  rw [hany, h0, cond_true, hh]
  have he : pkF a (rmx v (mxFi a v)) = pkF a (unF v (mxFi a v)) := by
    unfold pkF
    rw [find_congr fun u _ => rmx_eq _ u]
  rw [he]
  cases mxDi a v with
  | true => rw [cond_true, cond_true, List.append_nil]; rfl
  | false => rfl
/-- What the reference says that an accepted vote needs. -/
theorem rneed_eq (hA : AccS m p s a) (hv : v ∈ a) : rneedL m a v = needL m a v := by
  have hok := hA.ok v hv
  have hval := hok.1
  unfold validB restB btw at hval
  unfold rneedL needL rn1
  rcases need_kind hok.1 hok.2.1 with hk | hk | hk | hk
  · simp [hk]
  · simp [hk] at hval
    have hc : v.choice = 1 := by omega
    have e1 : pkO a (rpk (-1) 1 0 1 v.val) = pkF a (likP v 1 0) := pk_congr fun u _ => by unfold rpk likP; rw [hc]; simp
    simp [hk, e1]
  · by_cases hr : v.round = 1
    · by_cases hc : v.choice = 0
      · have hs : v.support = 0 := by simp [hk, hr, hc] at hval; omega
        have e0 : idsI v.support = [] := by rw [hs]; decide
        simp [hk, hr, hc, supL, e0]
      · have e0 : (v.choice == 0) = false := by simpa using hc
        have e1 : (idsI v.support).flatMap (fun i => pkO a (rpk i 2 0 v.choice v.val)) = supL a v 2 0 := fm_congr fun i hi => pk_congr fun u _ => sup_pk (ids_pos hi) u
        simp [hk, hr, e0, e1]
    · have er : (v.round == 1) = false := by simpa using hr
      have hr1 : 1 < v.round := by simp [hk] at hval; omega
      have ed : decide (1 < v.round) = true := by simpa using hr1
      have h1 := adopt_adp hA hv
      have h2 := ad_eq hA hv hk hr
      have e2 : ∀ i ∈ idsI v.support, pkO a (rpk i 4 (v.round - 1) 2 Nm.zero) = pkF a (mxF i (v.round - 1)) := fun i hi => pk_congr fun u hu => mix_pk (ids_pos hi) u (hA.ok u hu).1
      have e1 : ∀ i ∈ idsI v.support, pkO a (rpk i 4 (v.round - 1) v.choice v.val) = pkF a (supF v 4 (v.round - 1) i) := fun i hi => pk_congr fun u _ => sup_pk (ids_pos hi) u
      have e3 : pkO a (rpk (-1) 3 (v.round - 1) v.choice v.val) = pkF a (likP v 3 (v.round - 1)) := pk_congr fun u _ => like_pk _ u
      unfold latL
      rw [h2, h1]
      cases hd : adp m a v with
      | true =>
        have e4 : (idsI v.support).flatMap (rG a v true) = (idsI v.support).flatMap (adI a v) := fm_congr fun i hi => by
          unfold rG adI
          rw [pkO_isSome, e2 i hi, e1 i hi]
          have e5 : a.find? (rpk i 4 (v.round - 1) v.choice v.val) = a.find? (supF v 4 (v.round - 1) i) := find_congr fun u _ => sup_pk (ids_pos hi) u
          rw [e5]
          cases (a.find? (supF v 4 (v.round - 1) i)).isSome <;> rfl
        simp [hk, er, ed, e4]
      | false =>
        have e4 : (idsI v.support).flatMap (rG a v false) = (idsI v.support).flatMap (fun i => pkF a (mxF i (v.round - 1))) := fm_congr fun i hi => by
          unfold rG
          rw [Bool.not_false, Bool.true_or, cond_true, e2 i hi]
        simp [hk, er, ed, e4, e3]
  · by_cases hc : v.choice = 2
    · have e := mix_eq hA hv hk hc
      simp [hk, hc, e]
    · have ec : (v.choice == 2) = false := by simpa using hc
      have e1 : (idsI v.support).flatMap (fun i => pkO a (rpk i 3 v.round v.choice v.val)) = supL a v 3 v.round := fm_congr fun i hi => pk_congr fun u _ => sup_pk (ids_pos hi) u
      simp [hk, ec, e1]
/-- Where the reference begins. -/
def rstaL (m : Int) (a : List Vt) (o : Oc) : List Vt := (idsI (lowest (whoM a 4 o.round (isV ⟨o.choice, o.val⟩)) (quorum (size m : Int)))).flatMap (fun i => pkO a (rpk i 4 o.round o.choice o.val))
theorem ou_pk {i : Int} (hi : decide (i < 0) = false) (u : Vt) : rpk i 4 o.round o.choice o.val u = ouF o i u := by
  unfold rpk ouF
  rw [hi, Bool.false_or]
theorem fm_filter {f : Int → Option Vt} : ∀ l : List Int, l.filterMap f = (l.filter (fun i => (f i).isSome)).filterMap f
  | [] => rfl
  | i :: l => by
    rw [List.filterMap_cons, List.filter_cons]
    cases h : f i with
    | none => simp only [Option.isSome_none, Bool.false_eq_true, if_false]; exact fm_filter l
    | some w => simp only [Option.isSome_some, if_true]; rw [List.filterMap_cons, h, fm_filter l]
theorem fm_take {f : Int → Option Vt} : ∀ (l : List Int) (q : Nat), (∀ i ∈ l, (f i).isSome = true) → (l.filterMap f).take q = (l.take q).flatMap (fun i => (f i).toList)
  | [], q, _ => by simp
  | i :: l, 0, _ => by simp
  | i :: l, q + 1, h => by
    obtain ⟨w, hw⟩ := Option.isSome_iff_exists.1 (h i (by simp))
    rw [List.filterMap_cons, hw, List.take_succ_cons, List.take_succ_cons, List.flatMap_cons, hw, fm_take l q fun k hk => h k (by simp [hk])]
    rfl
theorem rsta_eq (hA : AccS m p s a) : rstaL m a o = staL m a o := by
  let W := whoM a 4 o.round (isV ⟨o.choice, o.val⟩)
  have hW : W = whoM a 4 o.round (isV ⟨o.choice, o.val⟩) := rfl
  have hf : ∀ k : Nat, k < 10 → mb W k = (a.find? (ouF o (k : Int))).isSome := by
    intro k hk
    rw [hW, mb_whoM _ _ _ _ hA.sg _ (by omega), Bool.eq_iff_iff, List.any_eq_true, List.find?_isSome]
    constructor
    · rintro ⟨u, hu, h⟩
      rw [Bool.and_eq_true, beq_iff_eq] at h
      refine ⟨u, hu, ?_⟩
      have h1 := h.1
      unfold whoP at h1
      rw [isV_eq] at h1
      simp only [Bool.and_eq_true, beq_iff_eq] at h1
      unfold ouF
      simp only [Bool.and_eq_true, beq_iff_eq]
      exact ⟨⟨⟨⟨h.2, h1.1.1⟩, h1.1.2⟩, h1.2.1⟩, h1.2.2⟩
    · rintro ⟨u, hu, h⟩
      unfold ouF at h
      simp only [Bool.and_eq_true, beq_iff_eq] at h
      refine ⟨u, hu, ?_⟩
      unfold whoP
      rw [isV_eq]
      simp only [Bool.and_eq_true, beq_iff_eq]
      exact ⟨⟨⟨h.1.1.1.2, h.1.1.2⟩, h.1.2, h.2⟩, h.1.1.1.1⟩
  have hids : ids W = (ids m).filter (fun k : Nat => (a.find? (ouF o (k : Int))).isSome) := by
    unfold ids
    rw [List.filter_filter]
    refine List.filter_congr fun k hk => ?_
    have hk10 : k < 10 := by simpa using hk
    rw [hf k hk10]
    cases h : (a.find? (ouF o (k : Int))).isSome with
    | false => simp
    | true =>
      rw [List.find?_isSome] at h
      obtain ⟨u, hu, h2⟩ := h
      unfold ouF at h2
      simp only [Bool.and_eq_true, beq_iff_eq] at h2
      have h3 := (hA.ok u hu).2.2.1
      rw [h2.1.1.1.1, hasB_nat _ _ hk10] at h3
      rw [h3]; rfl
  have hI : idsI W = (idsI m).filter (fun i => (a.find? (ouF o i)).isSome) := by
    unfold idsI
    rw [hids, List.filter_map]; rfl
  unfold rstaL staL
  rw [fm_filter (f := fun i => a.find? (ouF o i)), ← hI, fm_take _ _ (fun i hi => by rw [hI] at hi; exact (List.mem_filter.1 hi).2)]
  have hl : idsI (lowest W (quorum (size m : Int))) = (idsI W).take (quorum (size m : Int)).toNat := by
    unfold idsI
    rw [low_ids, List.map_take]
  rw [← hW, hl]
  refine fm_congr fun i hi => ?_
  have hi' := List.mem_of_mem_take hi
  have : pkO a (rpk i 4 o.round o.choice o.val) = pkF a (ouF o i) := pk_congr fun u _ => ou_pk (ids_pos hi') u
  exact this
end
/-- What holds between the steps of the reference's search. -/
structure ReI (N : Vt → List Vt) (S a todo done : List Vt) : Prop where
  nod : done.Nodup
  d : ∀ u ∈ done, u ∈ a ∧ Clo N S u
  t : ∀ u ∈ todo, u ∈ a ∧ Clo N S u
  st : ∀ u ∈ S, u ∈ done ∨ u ∈ todo
  nd : ∀ v ∈ done, ∀ u ∈ N v, u ∈ done ∨ u ∈ todo
  len : todo.length ≤ 11 + 11 * done.length
section
variable {N : Vt → List Vt} {S a todo done : List Vt}
theorem ReI.start (hS : ∀ u ∈ S, u ∈ a) (hl : S.length ≤ 11) : ReI N S a S [] := ⟨by simp, by simp, fun u hu => ⟨hS u hu, .start hu⟩, fun u hu => .inr hu, by simp, by simp; omega⟩
theorem ReI.dlen (h : ReI N S a todo done) : done.length ≤ a.length := List.Nodup.length_le_of_subset h.nod fun u hu => (h.d u hu).1
theorem drop_one {l : List Vt} (h0 : 0 < l.length) : l = l[0] :: l.drop 1 := by
  cases l with
  | nil => simp at h0
  | cons x l => rfl
theorem ReI.old (h : ReI N S a todo done) (h0 : 0 < todo.length) (hold : done.any (fun x => x == todo[0]) = true) : ReI N S a (todo.drop 1) done := by
  have e := drop_one h0
  obtain ⟨x, hx, h2⟩ := List.any_eq_true.1 hold
  rw [beq_iff_eq] at h2
  rw [h2] at hx
  have key : ∀ u, u ∈ done ∨ u ∈ todo → u ∈ done ∨ u ∈ todo.drop 1 := fun u hu => by
    rcases hu with hu | hu
    · exact .inl hu
    · rw [e] at hu
      rcases List.mem_cons.1 hu with rfl | hu
      · exact .inl hx
      · exact .inr hu
  refine ⟨h.nod, h.d, fun u hu => h.t u (List.mem_of_mem_drop hu), fun u hu => key u (h.st u hu), fun v hv u hu => key u (h.nd v hv u hu), ?_⟩
  have := h.len
  rw [List.length_drop]; omega
theorem ReI.fresh (h : ReI N S a todo done) (h0 : 0 < todo.length) (hold : done.any (fun x => x == todo[0]) = false) (hN : ∀ u ∈ N todo[0], u ∈ a) (hl : (N todo[0]).length ≤ 11) : ReI N S a (todo.drop 1 ++ N todo[0]) (done ++ [todo[0]]) := by
  have e := drop_one h0
  have hv := h.t todo[0] (List.getElem_mem h0)
  have key : ∀ u, u ∈ done ∨ u ∈ todo → u ∈ done ++ [todo[0]] ∨ u ∈ todo.drop 1 ++ N todo[0] := fun u hu => by
    rcases hu with hu | hu
    · exact .inl (by simp [hu])
    · rw [e] at hu
      rcases List.mem_cons.1 hu with rfl | hu
      · exact .inl (List.mem_append_right _ (List.mem_singleton.2 rfl))
      · exact .inr (List.mem_append_left _ hu)
  refine ⟨?_, fun u hu => ?_, fun u hu => ?_, fun u hu => key u (h.st u hu), fun v hv2 u hu => ?_, ?_⟩
  · rw [List.nodup_append]
    refine ⟨h.nod, by simp, fun x hx y hy e2 => ?_⟩
    rw [List.mem_singleton] at hy
    have := List.any_eq_false.1 hold x hx
    rw [e2, hy] at this
    simp at this
  · rcases List.mem_append.1 hu with hu | hu
    · exact h.d u hu
    · rw [List.mem_singleton] at hu; rw [hu]; exact hv
  · rcases List.mem_append.1 hu with hu | hu
    · exact h.t u (List.mem_of_mem_drop hu)
    · exact ⟨hN u hu, .step hv.2 hu⟩
  · rcases List.mem_append.1 hv2 with hv2 | hv2
    · exact key u (h.nd v hv2 u hu)
    · rw [List.mem_singleton] at hv2
      rw [hv2] at hu
      exact .inr (List.mem_append_right _ hu)
  · have := h.len
    rw [List.length_append, List.length_append, List.length_drop, List.length_singleton]
    omega
theorem ReI.fin (h : ReI N S a todo done) (ht : ¬ (0 : Int) < (todo.length : Int)) (u : Vt) : u ∈ done ↔ Clo N S u := by
  have hn : todo = [] := List.eq_nil_of_length_eq_zero (by omega)
  subst hn
  refine ⟨fun hu => (h.d u hu).2, fun hu => ?_⟩
  induction hu with
  | start hs => exact (h.st _ hs).resolve_right (by simp)
  | step _ hu ih => exact (h.nd _ ih _ hu).resolve_right (by simp)
end
theorem clo_half {N N' : Vt → List Vt} {S a : List Vt} (hS : ∀ u ∈ S, u ∈ a) (hN : ∀ v ∈ a, ∀ u ∈ N v, u ∈ N' v ∧ u ∈ a) {v : Vt} (h : Clo N S v) : v ∈ a ∧ Clo N' S v := by
  induction h with
  | start h => exact ⟨hS _ h, .start h⟩
  | step _ h ih => exact ⟨(hN _ ih.1 _ h).2, .step ih.2 (hN _ ih.1 _ h).1⟩
theorem clo_eq {N N' : Vt → List Vt} {S a : List Vt} (hS : ∀ u ∈ S, u ∈ a) (hN : ∀ v ∈ a, N v = N' v) (hsub : ∀ v, ∀ u ∈ N' v, u ∈ a) {v : Vt} : Clo N S v ↔ Clo N' S v :=
  ⟨fun h => (clo_half hS (fun v hv u hu => by rw [hN v hv] at hu; exact ⟨hu, hsub v u hu⟩) h).2, fun h => (clo_half hS (fun v hv u hu => ⟨by rw [hN v hv]; exact hu, hsub v u hu⟩) h).2⟩
theorem re_fin {m : Int} {p : Nm} {s : Int} {a todo done : List Vt} {o : Oc} (hs : Strict a) (hA : AccS m p s a) (h : ReI (rneedL m a) (rstaL m a o) a todo done) (ht : ¬ (0 : Int) < (todo.length : Int)) : srtV done = cloL m a o := by
  refine strict_ext (srtV_strict _) (clo_strict hs) fun x => ?_
  rw [srtV_mem, h.fin ht, clo_mem, rsta_eq hA]
  exact clo_eq sta_sub (fun v hv => rneed_eq hA hv) (fun v u hu => need_sub u hu)
theorem rneed_len {m : Int} {a : List Vt} {v : Vt} : (rneedL m a v).length ≤ 11 := by
  have h1 := mixR_len v a
  have hi := idsI_length v.support
  have hz := size_le v.support
  have hk : ∀ G : Int → List Vt, (∀ i, (G i).length ≤ 1) → ((idsI v.support).flatMap G).length ≤ 10 := fun G hG => by
    have h := fm_len hG (idsI v.support) (idsI v.support).length
    rw [List.take_length] at h
    omega
  unfold rneedL
  have b : ∀ (c : Bool) (x y : List Vt), x.length ≤ 11 → y.length ≤ 11 → (bif c then x else y).length ≤ 11 := fun c x y hx hy => by cases c <;> assumption
  refine b _ _ _ (by simp) (b _ _ _ ?_ (b _ _ _ h1 (b _ _ _ (b _ _ _ ?_ ?_) (b _ _ _ ?_ ?_))))
  · have := pkO_len a (rpk (-1) 1 0 1 v.val); omega
  · rw [List.length_append]
    have := pkO_len a (rpk (-1) 3 (v.round - 1) v.choice v.val)
    have := hk _ (rG_len a v (adoptR m v a)); omega
  · have := hk _ (rG_len a v (adoptR m v a)); omega
  · have := hk (fun i => pkO a (rpk i 2 0 v.choice v.val)) (fun i => pkO_len a _); omega
  · have := hk (fun i => pkO a (rpk i 3 v.round v.choice v.val)) (fun i => pkO_len a _); omega

end Go.Proofs.YtphnfhonmbbddaaGreat
