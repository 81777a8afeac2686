/- The plain law of closures: what a decision needs, and that it stands alone. -/
import Derived.Test.YtphnfhonmbbddaaGreatJudP
namespace Go.Proofs.YtphnfhonmbbddaaGreat
open Go Go.RowKit
set_option linter.unusedVariables false

/-- A vote w of a kind and round with the value of v. -/
def likP (v : Vt) (k r : Int) (w : Vt) : Bool := (((w.kind == k) && (w.round == r)) && (w.choice == v.choice)) && (w.val == v.val)
def supF (v : Vt) (k r i : Int) (w : Vt) : Bool := (w.signer == i) && (likP v k r w)
def mxF (i r : Int) (w : Vt) : Bool := (((w.signer == i) && (w.kind == 4)) && (w.round == r)) && (w.choice == 2)
def pvF (i r : Int) (w : Vt) : Bool := ((w.signer == i) && (w.kind == 3)) && (w.round == r)
def pkF (a : List Vt) (F : Vt → Bool) : List Vt := (a.find? F).toList
def supL (a : List Vt) (v : Vt) (k r : Int) : List Vt := (idsI v.support).flatMap (fun i => pkF a (supF v k r i))
def adB (m : Int) (a : List Vt) (v : Vt) : Bool := allowB m v (a.filter (fun w => w.kind == 4))
def adI (a : List Vt) (v : Vt) (i : Int) : List Vt := bif (a.find? (supF v 4 (v.round - 1) i)).isSome then pkF a (supF v 4 (v.round - 1) i) else pkF a (mxF i (v.round - 1))
def latL (m : Int) (a : List Vt) (v : Vt) : List Vt := bif adB m a v then (idsI v.support).flatMap (adI a v) else (idsI v.support).flatMap (fun i => pkF a (mxF i (v.round - 1))) ++ pkF a (likP v 3 (v.round - 1))
def mxW (a : List Vt) (v : Vt) (i : Int) : Vt := (a.find? (pvF i v.round)).getD Vt.zero
def mxFi (a : List Vt) (v : Vt) : Vt := match idsI v.support with | [] => Vt.zero | i :: _ => mxW a v i
def mxD1 (f w : Vt) : Bool := (w.choice != f.choice) || (w.val != f.val)
def mxDi (a : List Vt) (v : Vt) : Bool := (idsI v.support).any (fun i => mxD1 (mxFi a v) (mxW a v i))
def unF (v f w : Vt) : Bool := (((w.kind == 3) && (w.round == v.round)) && (hasB v.support w.signer)) && (!(likP f 3 v.round w))
def mxL (a : List Vt) (v : Vt) : List Vt := (idsI v.support).flatMap (fun i => pkF a (pvF i v.round)) ++ (bif mxDi a v then [] else pkF a (unF v (mxFi a v)))
/-- What justifies a vote. -/
def needL (m : Int) (a : List Vt) (v : Vt) : List Vt :=
  bif v.kind == 2 then pkF a (likP v 1 0) else bif (v.kind == 3) && (v.round == 1) then supL a v 2 0 else bif v.kind == 3 then latL m a v else bif (v.kind == 4) && (v.choice == 2) then mxL a v else bif v.kind == 4 then supL a v 3 v.round else []
def ouF (o : Oc) (i : Int) (w : Vt) : Bool := ((((w.signer == i) && (w.kind == 4)) && (w.round == o.round)) && (w.choice == o.choice)) && (w.val == o.val)
def staL (m : Int) (a : List Vt) (o : Oc) : List Vt := ((idsI m).filterMap (fun i => a.find? (ouF o i))).take (quorum (size m)).toNat
inductive Clo (N : Vt → List Vt) (S : List Vt) : Vt → Prop
  | start {v : Vt} : v ∈ S → Clo N S v
  | step {v u : Vt} : Clo N S v → u ∈ N v → Clo N S u
open Classical in
/-- The closure of a decision. -/
noncomputable def cloL (m : Int) (a : List Vt) (o : Oc) : List Vt := a.filter (fun v => decide (Clo (needL m a) (staL m a o) v))
theorem pkF_mem {a : List Vt} {F : Vt → Bool} {u : Vt} : u ∈ pkF a F ↔ a.find? F = some u := by
  unfold pkF
  cases a.find? F <;> simp [eq_comm]
theorem find_ex {a : List Vt} {F : Vt → Bool} {u : Vt} (hu : u ∈ a) (hF : F u = true) : ∃ w, a.find? F = some w ∧ F w = true ∧ w ∈ a := by
  cases h : a.find? F with
  | none => exact absurd hF (by simpa using List.find?_eq_none.1 h u hu)
  | some w => exact ⟨w, rfl, List.find?_some h, List.mem_of_find?_eq_some h⟩
theorem find_out {a : List Vt} {F : Vt → Bool} {u : Vt} (h : a.find? F = some u) : F u = true ∧ u ∈ a := ⟨List.find?_some h, List.mem_of_find?_eq_some h⟩
theorem likP_iff {v w : Vt} {k r : Int} : likP v k r w = true ↔ w.kind = k ∧ w.round = r ∧ w.choice = v.choice ∧ w.val = v.val := by
  unfold likP
  simp only [Bool.and_eq_true, beq_iff_eq]
  constructor
  · rintro ⟨⟨⟨h1, h2⟩, h3⟩, h4⟩; exact ⟨h1, h2, h3, h4⟩
  · rintro ⟨h1, h2, h3, h4⟩; exact ⟨⟨⟨h1, h2⟩, h3⟩, h4⟩
theorem supF_iff {v w : Vt} {k r i : Int} : supF v k r i w = true ↔ w.signer = i ∧ w.kind = k ∧ w.round = r ∧ w.choice = v.choice ∧ w.val = v.val := by
  unfold supF
  rw [Bool.and_eq_true, beq_iff_eq, likP_iff]
theorem mxF_iff {w : Vt} {i r : Int} : mxF i r w = true ↔ w.signer = i ∧ w.kind = 4 ∧ w.round = r ∧ w.choice = 2 := by
  unfold mxF
  simp only [Bool.and_eq_true, beq_iff_eq]
  constructor
  · rintro ⟨⟨⟨h1, h2⟩, h3⟩, h4⟩; exact ⟨h1, h2, h3, h4⟩
  · rintro ⟨h1, h2, h3, h4⟩; exact ⟨⟨⟨h1, h2⟩, h3⟩, h4⟩
theorem pvF_iff {w : Vt} {i r : Int} : pvF i r w = true ↔ w.signer = i ∧ w.kind = 3 ∧ w.round = r := by
  unfold pvF
  simp only [Bool.and_eq_true, beq_iff_eq]
  constructor
  · rintro ⟨⟨h1, h2⟩, h3⟩; exact ⟨h1, h2, h3⟩
  · rintro ⟨h1, h2, h3⟩; exact ⟨⟨h1, h2⟩, h3⟩
section
variable {m : Int} {p : Nm} {s : Int} {a c : List Vt} {v : Vt}
theorem cnt_sub (hA : AccS m p s a) (hc : ∀ u ∈ c, u ∈ a) (h1 : v.par = p) (h2 : v.slot = s) : c.filter (cntB m v) = c := by
  rw [List.filter_eq_self]
  intro u hu
  have h := hA.ok u (hc u hu)
  unfold cntB
  rw [h.1, hA.par u (hc u hu), hA.slot u (hc u hu), h.2.2.1, h1, h2]
  simpa using h.2.1
theorem sup_to {q : Int} {F G : Vt → Bool} (h : supB m q a v F = true) (hn : ∀ i, hasB v.support i = true → ∀ u ∈ a, u.signer = i → F u = true → ∃ w ∈ c, w.signer = i ∧ G w = true) : supB m q c v G = true := by
  rw [sup_iff] at *
  exact ⟨h.1, h.2.1, fun i hi => by
    obtain ⟨u, hu, h1, h2⟩ := h.2.2 i hi
    exact hn i hi u hu h1 h2⟩
theorem low_round {u : Vt} (h : validB u = true) (hk : u.kind = 1 ∨ u.kind = 2) : u.round = 0 := valid_kind2 h hk
theorem need_kind (h : validB v = true) (hk : v.kind ≤ 4) : v.kind = 1 ∨ v.kind = 2 ∨ v.kind = 3 ∨ v.kind = 4 := by
  unfold validB btw at h
  simp at h
  omega
def adp (m : Int) (a : List Vt) (v : Vt) : Bool := supB m (quorum (size m)) a v (fun u => pvB v u || pmB v u) && a.any (fun u => hasB v.support u.signer && pvB v u)
theorem pvB_iff {u : Vt} : pvB v u = true ↔ u.kind = 4 ∧ u.round = v.round - 1 ∧ u.choice = v.choice ∧ u.val = v.val := by
  unfold pvB
  rw [Bool.and_eq_true, Bool.and_eq_true, beq_iff_eq, beq_iff_eq, sameB_iff]
  constructor
  · rintro ⟨⟨h1, h2⟩, h3, h4⟩; exact ⟨h1, h2, h3.symm, h4.symm⟩
  · rintro ⟨h1, h2, h3, h4⟩; exact ⟨⟨h1, h2⟩, h3.symm, h4.symm⟩
theorem pmB_iff {u : Vt} : pmB v u = true ↔ u.kind = 4 ∧ u.round = v.round - 1 ∧ u.choice = 2 := by
  unfold pmB
  rw [Bool.and_eq_true, Bool.and_eq_true, beq_iff_eq, beq_iff_eq, beq_iff_eq]
  constructor
  · rintro ⟨⟨h1, h2⟩, h3⟩; exact ⟨h1, h2, h3⟩
  · rintro ⟨h1, h2, h3⟩; exact ⟨⟨h1, h2⟩, h3⟩
theorem ad_eq (hA : AccS m p s a) (hv : v ∈ a) (hk : v.kind = 3) (hr : v.round ≠ 1) : adB m a v = adp m a v := by
  have ho : okB m v = true := by
    have h := hA.ok v hv
    unfold okB
    rw [h.1, h.2.2.1, h.2.2.2]
    simp; omega
  have hsub : ∀ u ∈ a.filter (fun w => w.kind == 4), u ∈ a := fun u hu => (List.mem_filter.1 hu).1
  unfold adB allowB
  rw [ho, Bool.true_and, cnt_sub hA hsub (hA.par v hv) (hA.slot v hv), jud3 hk]
  unfold prevB
  rw [if_neg (by simpa using hr)]
  have h2 : (a.filter (fun w => w.kind == 4)).any (pbB v) = false := by
    rw [List.any_eq_false]
    intro u hu
    have := (List.mem_filter.1 hu).2
    unfold pbB
    have e : (u.kind == 3) = false := by simp at this ⊢; omega
    rw [e]; simp
  rw [h2, Bool.and_false, Bool.or_false]
  unfold adp
  refine bool_ext ?_
  rw [Bool.and_eq_true, Bool.and_eq_true]
  constructor
  · rintro ⟨h3, h4⟩
    refine ⟨sup_to h3 (fun i hi u hu h5 h6 => ⟨u, hsub u hu, h5, h6⟩), ?_⟩
    obtain ⟨u, hu, h5⟩ := List.any_eq_true.1 h4
    exact List.any_eq_true.2 ⟨u, hsub u hu, h5⟩
  · rintro ⟨h3, h4⟩
    refine ⟨sup_to h3 (fun i hi u hu h5 h6 => ⟨u, List.mem_filter.2 ⟨hu, ?_⟩, h5, h6⟩), ?_⟩
    · rw [Bool.or_eq_true, pvB_iff, pmB_iff] at h6
      rcases h6 with h6 | h6 <;> simp [h6.1]
    · obtain ⟨u, hu, h5⟩ := List.any_eq_true.1 h4
      refine List.any_eq_true.2 ⟨u, List.mem_filter.2 ⟨hu, ?_⟩, h5⟩
      rw [Bool.and_eq_true, pvB_iff] at h5
      simp [h5.2.1]
theorem need_supL (hv : v.kind = 3 ∧ v.round = 1) : needL m a v = supL a v 2 0 := by unfold needL; simp [hv.1, hv.2]
theorem supL_mem {k r : Int} {i : Int} {w : Vt} (hi : hasB v.support i = true) (h : a.find? (supF v k r i) = some w) : w ∈ supL a v k r := List.mem_flatMap.2 ⟨i, mem_idsI.2 hi, pkF_mem.2 h⟩
/-- A vote is allowed by what it needs. -/
theorem need_allow (hA : AccS m p s a) (hv : v ∈ a) (hc : ∀ u ∈ c, u ∈ a) (hn : ∀ u ∈ needL m a v, u ∈ c) : allowB m v c = true := by
  have hal := hA.allow v hv
  have hok := hA.ok v hv
  have hpar := hA.par v hv
  have hslot := hA.slot v hv
  unfold allowB at hal ⊢
  rw [cnt_sub hA hc hpar hslot]
  rw [cnt_sub hA (fun u hu => hu) hpar hslot] at hal
  rw [Bool.and_eq_true] at hal ⊢
  refine ⟨hal.1, ?_⟩
  have hj := hal.2
  rcases need_kind hok.1 hok.2.1 with hk | hk | hk | hk
  · unfold judB at hj ⊢
    simp [hk] at hj ⊢
    exact hj
  · rw [jud2 hk] at hj ⊢
    obtain ⟨u, hu, h1⟩ := List.any_eq_true.1 hj
    unfold poB at h1
    rw [Bool.and_eq_true, beq_iff_eq, sameB_iff] at h1
    obtain ⟨w, h2, h3, h4⟩ := find_ex (F := likP v 1 0) hu (likP_iff.2 ⟨h1.1, low_round (hA.ok u hu).1 (.inl h1.1), h1.2.1.symm, h1.2.2.symm⟩)
    have hw : w ∈ c := hn w (by unfold needL; simp [hk]; exact pkF_mem.2 h2)
    rw [likP_iff] at h3
    exact List.any_eq_true.2 ⟨w, hw, by unfold poB sameB; simp [h3.1, h3.2.2.1, h3.2.2.2]⟩
  · rw [jud3 hk] at hj ⊢
    by_cases hr : v.round = 1
    · rw [prevB1 hr, Bool.or_eq_true] at hj ⊢
      rcases hj with hj | hj
      · exact .inl hj
      · refine .inr (sup_to hj fun i hi u hu h1 h2 => ?_)
        unfold peB at h2
        rw [Bool.and_eq_true, beq_iff_eq, sameB_iff] at h2
        obtain ⟨w, h3, h4, h5⟩ := find_ex (F := supF v 2 0 i) hu (supF_iff.2 ⟨h1, h2.1, low_round (hA.ok u hu).1 (.inr h2.1), h2.2.1.symm, h2.2.2.symm⟩)
        rw [supF_iff] at h4
        exact ⟨w, hn w (by rw [need_supL ⟨hk, hr⟩]; exact supL_mem hi h3), h4.1, by unfold peB sameB; simp [h4.2.1, h4.2.2.2.1, h4.2.2.2.2]⟩
    · have er : (v.round == 1) = false := by simpa using hr
      have hL : needL m a v = latL m a v := by unfold needL; simp [hk, er]
      rw [hL] at hn
      have had := ad_eq hA hv hk hr
      unfold prevB at hj ⊢
      rw [if_neg (by simpa using hr)] at hj ⊢
      have hj' : (adp m a v || (supB m (quorum (size m)) a v (pmB v) && a.any (pbB v))) = true := hj
      rw [Bool.or_eq_true] at hj' ⊢
      cases hd : adp m a v with
      | true =>
        left
        unfold latL at hn
        rw [had, hd, cond_true] at hn
        have hd' := hd
        unfold adp at hd'
        rw [Bool.and_eq_true] at hd' ⊢
        have hval : ∀ i, hasB v.support i = true → ∀ u ∈ a, u.signer = i → pvB v u = true → ∃ w ∈ c, w.signer = i ∧ pvB v w = true := by
          intro i hi u hu h1 h2
          rw [pvB_iff] at h2
          obtain ⟨w, h3, h4, h5⟩ := find_ex (F := supF v 4 (v.round - 1) i) hu (supF_iff.2 ⟨h1, h2⟩)
          rw [supF_iff] at h4
          refine ⟨w, hn w (List.mem_flatMap.2 ⟨i, mem_idsI.2 hi, ?_⟩), h4.1, pvB_iff.2 h4.2⟩
          unfold adI
          rw [h3]
          exact pkF_mem.2 h3
        refine ⟨sup_to hd'.1 fun i hi u hu h1 h2 => ?_, ?_⟩
        · by_cases hex : ∃ u ∈ a, u.signer = i ∧ pvB v u = true
          · obtain ⟨u2, hu2, h3, h4⟩ := hex
            obtain ⟨w, hw, h5, h6⟩ := hval i hi u2 hu2 h3 h4
            exact ⟨w, hw, h5, by rw [h6]; rfl⟩
          · have h2' : pmB v u = true := by
              rw [Bool.or_eq_true] at h2
              rcases h2 with h2 | h2
              · exact absurd ⟨u, hu, h1, h2⟩ hex
              · exact h2
            rw [pmB_iff] at h2'
            obtain ⟨w, h3, h4, h5⟩ := find_ex (F := mxF i (v.round - 1)) hu (mxF_iff.2 ⟨h1, h2'⟩)
            rw [mxF_iff] at h4
            have hno : a.find? (supF v 4 (v.round - 1) i) = none := by
              rw [List.find?_eq_none]
              intro y hy hF
              rw [supF_iff] at hF
              exact hex ⟨y, hy, hF.1, pvB_iff.2 hF.2⟩
            refine ⟨w, hn w (List.mem_flatMap.2 ⟨i, mem_idsI.2 hi, ?_⟩), h4.1, by rw [pmB_iff.2 h4.2]; simp⟩
            unfold adI
            rw [hno]
            exact pkF_mem.2 h3
        · obtain ⟨u, hu, h1⟩ := List.any_eq_true.1 hd'.2
          rw [Bool.and_eq_true] at h1
          obtain ⟨w, hw, h2, h3⟩ := hval u.signer h1.1 u hu rfl h1.2
          exact List.any_eq_true.2 ⟨w, hw, by rw [h2, h1.1, h3]; rfl⟩
      | false =>
        right
        rw [hd] at hj'
        have h9 : (supB m (quorum (size m)) a v (pmB v) && a.any (pbB v)) = true := by simpa using hj'
        unfold latL at hn
        rw [had, hd, cond_false] at hn
        rw [Bool.and_eq_true] at h9 ⊢
        refine ⟨sup_to h9.1 fun i hi u hu h1 h2 => ?_, ?_⟩
        · rw [pmB_iff] at h2
          obtain ⟨w, h3, h4, h5⟩ := find_ex (F := mxF i (v.round - 1)) hu (mxF_iff.2 ⟨h1, h2⟩)
          rw [mxF_iff] at h4
          exact ⟨w, hn w (List.mem_append_left _ (List.mem_flatMap.2 ⟨i, mem_idsI.2 hi, pkF_mem.2 h3⟩)), h4.1, pmB_iff.2 h4.2⟩
        · obtain ⟨u, hu, h1⟩ := List.any_eq_true.1 h9.2
          unfold pbB at h1
          rw [Bool.and_eq_true, Bool.and_eq_true, beq_iff_eq, beq_iff_eq, sameB_iff] at h1
          obtain ⟨w, h3, h4, h5⟩ := find_ex (F := likP v 3 (v.round - 1)) hu (likP_iff.2 ⟨h1.1.1, h1.1.2, h1.2.1.symm, h1.2.2.symm⟩)
          rw [likP_iff] at h4
          exact List.any_eq_true.2 ⟨w, hn w (List.mem_append_right _ (pkF_mem.2 h3)), by unfold pbB sameB; simp [h4.1, h4.2.1, h4.2.2.1, h4.2.2.2]⟩
  · rw [jud4 hk] at hj ⊢
    unfold precB at hj ⊢
    by_cases hc2 : v.choice = 2
    · have hL : needL m a v = mxL a v := by unfold needL; simp [hk, hc2]
      rw [hL] at hn
      have e : ¬ ((v.choice != 2) = true) := by simp [hc2]
      rw [if_neg e, Bool.and_eq_true] at hj ⊢
      have hfind : ∀ i, hasB v.support i = true → ∃ w, a.find? (pvF i v.round) = some w ∧ w ∈ c ∧ w.signer = i ∧ w.kind = 3 ∧ w.round = v.round := by
        intro i hi
        obtain ⟨u, hu, h1, h2⟩ := (sup_iff.1 hj.1).2.2 i hi
        unfold prB at h2
        rw [Bool.and_eq_true, beq_iff_eq, beq_iff_eq] at h2
        obtain ⟨w, h3, h4, h5⟩ := find_ex (F := pvF i v.round) hu (pvF_iff.2 ⟨h1, h2⟩)
        rw [pvF_iff] at h4
        exact ⟨w, h3, hn w (List.mem_append_left _ (List.mem_flatMap.2 ⟨i, mem_idsI.2 hi, pkF_mem.2 h3⟩)), h4⟩
      refine ⟨sup_to hj.1 fun i hi u hu h1 h2 => ?_, ?_⟩
      · obtain ⟨w, _, h3, h4, h5, h6⟩ := hfind i hi
        exact ⟨w, h3, h4, by unfold prB; simp [h5, h6]⟩
      · rw [unl_iff] at hj ⊢
        have hq := (sup_iff.1 hj.1).2.1
        have hq1 : 1 ≤ quorum (size m) := quorum_pos (size_pos hok.2.2.2)
        obtain ⟨f0, hf0, hfi⟩ : ∃ i, hasB v.support i = true ∧ mxFi a v = mxW a v i := by
          cases hl : idsI v.support with
          | nil =>
            have := idsI_length v.support
            rw [hl] at this
            simp at this
            omega
          | cons i t => exact ⟨i, mem_idsI.1 (by rw [hl]; simp), by unfold mxFi; rw [hl]⟩
        obtain ⟨w0, hw0, hc0, g1, g2, g3⟩ := hfind f0 hf0
        have hf : mxFi a v = w0 := by rw [hfi]; unfold mxW; rw [hw0]; rfl
        have in0 : w0 ∈ c.filter (fun u => prB v u && hasB v.support u.signer) := List.mem_filter.2 ⟨hc0, by unfold prB; simp [g1, g2, g3, hf0]⟩
        cases hdi : mxDi a v with
        | true =>
          have hdi' := hdi
          unfold mxDi at hdi'
          obtain ⟨i, hi, hne⟩ := List.any_eq_true.1 hdi'
          obtain ⟨w, hw, hcw, k1, k2, k3⟩ := hfind i (mem_idsI.1 hi)
          have hmw : mxW a v i = w := by unfold mxW; rw [hw]; rfl
          rw [hf, hmw] at hne
          refine ⟨w0, in0, w, List.mem_filter.2 ⟨hcw, by unfold prB; simp [k1, k2, k3, mem_idsI.1 hi]⟩, ?_⟩
          cases hs : sameB w0 w with
          | false => rfl
          | true =>
            rw [sameB_iff] at hs
            unfold mxD1 at hne
            rw [hs.1, hs.2] at hne
            simp at hne
        | false =>
          obtain ⟨x, hx, y, hy, hxy⟩ := hj.2
          have hu : ∃ u ∈ a, u.kind = 3 ∧ u.round = v.round ∧ hasB v.support u.signer = true ∧ sameB w0 u = false := by
            rw [List.mem_filter, Bool.and_eq_true] at hx hy
            unfold prB at hx hy
            rw [Bool.and_eq_true, beq_iff_eq, beq_iff_eq] at hx hy
            cases h1 : sameB w0 x with
            | false => exact ⟨x, hx.1, hx.2.1.1, hx.2.1.2, hx.2.2, h1⟩
            | true =>
              refine ⟨y, hy.1, hy.2.1.1, hy.2.1.2, hy.2.2, ?_⟩
              cases h2 : sameB w0 y with
              | false => rfl
              | true =>
                rw [sameB_iff] at h1 h2
                have : sameB x y = true := (sameB_iff _ _).2 ⟨h1.1.symm.trans h2.1, h1.2.symm.trans h2.2⟩
                rw [this] at hxy; cases hxy
          obtain ⟨u, hu, u1, u2, u3, u4⟩ := hu
          have hF : unF v w0 u = true := by
            unfold unF
            have : likP w0 3 v.round u = false := by
              cases hl : likP w0 3 v.round u with
              | false => rfl
              | true =>
                rw [likP_iff] at hl
                rw [(sameB_iff w0 u).2 ⟨hl.2.2.1.symm, hl.2.2.2.symm⟩] at u4; cases u4
            rw [this, u1, u2, u3]; simp
          obtain ⟨w, h3, h4, h5⟩ := find_ex hu hF
          have hwc : w ∈ c := hn w (by
            unfold mxL
            rw [hdi, cond_false, hf]
            exact List.mem_append_right _ (pkF_mem.2 h3))
          unfold unF at h4
          simp only [Bool.and_eq_true, beq_iff_eq, Bool.not_eq_true'] at h4
          refine ⟨w0, in0, w, List.mem_filter.2 ⟨hwc, by unfold prB; simp [h4.1.1.1, h4.1.1.2, h4.1.2]⟩, ?_⟩
          cases hs : sameB w0 w with
          | false => rfl
          | true =>
            rw [sameB_iff] at hs
            have : likP w0 3 v.round w = true := likP_iff.2 ⟨h4.1.1.1, h4.1.1.2, hs.1.symm, hs.2.symm⟩
            rw [h4.2] at this; cases this
    · have ec : (v.choice == 2) = false := by simpa using hc2
      have hL : needL m a v = supL a v 3 v.round := by unfold needL; simp [hk, ec]
      rw [hL] at hn
      have e : (v.choice != 2) = true := by simpa using hc2
      rw [if_pos e] at hj ⊢
      refine sup_to hj fun i hi u hu h1 h2 => ?_
      unfold prB at h2
      rw [Bool.and_eq_true, Bool.and_eq_true, beq_iff_eq, beq_iff_eq, sameB_iff] at h2
      obtain ⟨w, h3, h4, h5⟩ := find_ex (F := supF v 3 v.round i) hu (supF_iff.2 ⟨h1, h2.1.1, h2.1.2, h2.2.1.symm, h2.2.2.symm⟩)
      rw [supF_iff] at h4
      exact ⟨w, hn w (supL_mem hi h3), h4.1, by unfold prB sameB; simp [h4.2.1, h4.2.2.1, h4.2.2.2.1, h4.2.2.2.2]⟩
end
theorem flat_pk {is : List Int} {G : Int → List Vt} {a : List Vt} (h : ∀ i, ∀ u ∈ G i, u ∈ a) : ∀ u ∈ is.flatMap G, u ∈ a := fun u hu => by
  obtain ⟨i, _, h1⟩ := List.mem_flatMap.1 hu
  exact h i u h1
theorem pkF_sub {a : List Vt} {F : Vt → Bool} : ∀ u ∈ pkF a F, u ∈ a := fun u hu => (find_out (pkF_mem.1 hu)).2
theorem need_sub {m : Int} {a : List Vt} {v : Vt} : ∀ u ∈ needL m a v, u ∈ a := by
  intro u hu
  unfold needL at hu
  cases h1 : (v.kind == 2) with
  | true => rw [h1, cond_true] at hu; exact pkF_sub u hu
  | false =>
    rw [h1, cond_false] at hu
    cases h2 : ((v.kind == 3) && (v.round == 1)) with
    | true => rw [h2, cond_true] at hu; exact flat_pk (fun i => pkF_sub) u hu
    | false =>
      rw [h2, cond_false] at hu
      cases h3 : (v.kind == 3) with
      | true =>
        rw [h3, cond_true] at hu
        unfold latL at hu
        cases h4 : adB m a v with
        | true =>
          rw [h4, cond_true] at hu
          refine flat_pk (fun i => ?_) u hu
          unfold adI
          cases (a.find? (supF v 4 (v.round - 1) i)).isSome <;> exact pkF_sub
        | false =>
          rw [h4, cond_false] at hu
          rcases List.mem_append.1 hu with hu | hu
          · exact flat_pk (fun i => pkF_sub) u hu
          · exact pkF_sub u hu
      | false =>
        rw [h3, cond_false] at hu
        cases h4 : ((v.kind == 4) && (v.choice == 2)) with
        | true =>
          rw [h4, cond_true] at hu
          unfold mxL at hu
          rcases List.mem_append.1 hu with hu | hu
          · exact flat_pk (fun i => pkF_sub) u hu
          · cases h5 : mxDi a v with
            | true => rw [h5] at hu; cases hu
            | false => rw [h5, cond_false] at hu; exact pkF_sub u hu
        | false =>
          rw [h4, cond_false] at hu
          cases h5 : (v.kind == 4) with
          | true => rw [h5, cond_true] at hu; exact flat_pk (fun i => pkF_sub) u hu
          | false => rw [h5, cond_false] at hu; cases hu
section
variable {m : Int} {p : Nm} {s : Int} {a : List Vt} {o : Oc}
theorem sta_sub : ∀ u ∈ staL m a o, u ∈ a := fun u hu => by
  obtain ⟨i, _, h⟩ := List.mem_filterMap.1 (List.mem_of_mem_take hu)
  exact (find_out h).2
open Classical in
theorem clo_mem {v : Vt} : v ∈ cloL m a o ↔ Clo (needL m a) (staL m a o) v := by
  unfold cloL
  rw [List.mem_filter, decide_eq_true_eq]
  refine ⟨fun h => h.2, fun h => ⟨?_, h⟩⟩
  cases h with
  | start h => exact sta_sub _ h
  | step _ h => exact need_sub _ h
theorem clo_sub : ∀ u ∈ cloL m a o, u ∈ a := fun u hu => (List.mem_filter.1 hu).1
theorem clo_need {v : Vt} (hv : v ∈ cloL m a o) : ∀ u ∈ needL m a v, u ∈ cloL m a o := fun u hu => clo_mem.2 (.step (clo_mem.1 hv) hu)
/-- A closure is what is known of accepted votes of one slot. -/
theorem clo_acc (hA : AccS m p s a) : AccS m p s (cloL m a o) :=
  ⟨fun v hv => hA.par v (clo_sub v hv), fun v hv => hA.slot v (clo_sub v hv), fun v hv => hA.ok v (clo_sub v hv), fun v hv => need_allow hA (clo_sub v hv) clo_sub (clo_need hv)⟩
theorem clo_strict (hs : Strict a) : Strict (cloL m a o) := List.Pairwise.sublist List.filter_sublist hs
end
theorem accV_self {m : Int} {p : Nm} {c : List Vt} (hs : Strict c) (hp : ∀ v ∈ c, v.par = p) (ha : ∀ v ∈ c, allowB m v c = true) : accV m p c = c := by
  refine strict_ext (accV_strict m p c) hs fun x => ⟨fun h => (accV_mem h).1, fun hx => ?_⟩
  have key : ∀ k, k ≤ c.length → ∀ u ∈ c.take k, u ∈ accV m p c := by
    intro k
    induction k with
    | zero => intro _ u hu; simp at hu
    | succ k ih =>
      intro hk u hu
      have ih' := ih (by omega)
      rw [List.take_succ_eq_append_getElem (by omega), List.mem_append, List.mem_singleton] at hu
      rcases hu with hu | rfl
      · exact ih' u hu
      · have hm : c[k] ∈ c := List.getElem_mem (by omega)
        refine Classical.byContradiction fun hn => ?_
        have h1 := accV_closed (m := m) (p := p) hm (hp _ hm) hn
        have h2 := allow_local (ha _ hm)
        have h3 : allowB m c[k] (accV m p c) = true := allow_cnt (fun y hy hcn => by
          obtain ⟨hyc, hrel⟩ := List.mem_filter.1 hy
          have hsl : y.slot = c[k].slot := by
            unfold cntB at hcn
            simp only [Bool.and_eq_true, beq_iff_eq] at hcn
            exact hcn.1.1.2
          have hlt := rel_less ((hp y hyc).trans (hp _ hm).symm) hsl hrel
          obtain ⟨j, hj, rfl⟩ := List.mem_iff_getElem.1 hyc
          have hjk : j < k := by
            rcases Nat.lt_trichotomy j k with h | h | h
            · exact h
            · subst h
              rw [show vless c[j] c[j] = false from vless_swo.irrefl _] at hlt; cases hlt
            · have := List.pairwise_iff_getElem.1 hs k j (by omega) hj h
              rw [vless_asym this] at hlt; cases hlt
          exact ih' _ (List.mem_iff_getElem.2 ⟨j, by simp; omega, by simp⟩)) h2
        rw [h1] at h3; cases h3
  exact key c.length (Nat.le_refl _) x (by rw [List.take_length]; exact hx)
end Go.Proofs.YtphnfhonmbbddaaGreat
