/- The judge's search: forks need liars, and enough liars make one (plain). -/
import Derived.Test.YtphnfhonmbbddaaJsP
import Derived.Test.YtphnfhonmbbddaaJgP
namespace Go.Proofs.Ytphnfhonmbbddaa
open Go Go.RowKit
set_option linter.unusedVariables false

theorem ent_mod {L : List (List Int)} {a b : Nat} {x : Int} (ha : a < L.length) (hb : b < (L.getD a []).length) (r m : Nat) : ((L.modify a (fun l => l.set b x)).getD r []).getD m 0 = if r = a ∧ m = b then x else (L.getD r []).getD m 0 := by
  rw [getD_modify _ _ _ _ ha]
  by_cases h : a = r
  · subst h
    rw [if_pos rfl, List.getD_eq_getElem?_getD, List.getElem?_set]
    by_cases hm : b = m
    · subst hm
      rw [if_pos rfl, if_pos hb, if_pos ⟨rfl, rfl⟩]; rfl
    · rw [if_neg hm, if_neg (fun h => hm h.2.symm), ← List.getD_eq_getElem?_getD]
  · rw [if_neg h, if_neg (fun h' => h h'.1.symm)]
theorem ent_zero (R : List (List Int)) (n r m : Nat) : ((R ++ [List.replicate n 0]).getD r []).getD m 0 = (R.getD r []).getD m 0 := by
  by_cases h : r < R.length
  · rw [List.getD_eq_getElem?_getD (l := R ++ _), List.getElem?_append_left h, ← List.getD_eq_getElem?_getD]
  · have e : R.getD r [] = [] := by rw [List.getD_eq_getElem?_getD, List.getElem?_eq_none (by omega)]; rfl
    rw [e]
    rw [List.getD_eq_getElem?_getD (l := R ++ _), List.getElem?_append_right (by omega)]
    cases hd : r - R.length with
    | zero =>
      show (List.replicate n (0 : Int)).getD m 0 = _
      rw [List.getD_eq_getElem?_getD, List.getElem?_replicate]
      split <;> rfl
    | succ j => rfl
section
variable {n r0 N : Nat} {v : List P2} {lz t need : Int}
theorem tabA_ent (R : List (List Int)) (i r m : Nat) : ((tabA n R i).getD r []).getD m 0 = (R.getD r []).getD m 0 := by
  unfold tabA
  cases ((i % n : Nat) : Int) == 0 with
  | true => exact ent_zero R n r m
  | false => rfl
theorem tab_ent (hn1 : 1 ≤ n) (hn7 : n ≤ 7) (f : Nat → Int) : ∀ (k r m : Nat), m < n → ((tabR n f k).getD r []).getD m 0 = if r * n + m < k then f (r * n + m) else 0
  | 0, r, m, _ => by rw [if_neg (Nat.not_lt_zero _)]; rfl
  | k + 1, r, m, hm => by
    have ih := tab_ent hn1 hn7 f k r m hm
    obtain ⟨h1, h2⟩ := tabR_rows f hn1 hn7 k
    obtain ⟨_, h4, h5⟩ := tabA_rows hn1 hn7 h1 h2
    have hrow : ((tabA n (tabR n f k) k).getD (k / n) []).length = n := by
      rw [List.getD_eq_getElem?_getD, List.getElem?_eq_getElem h4]; exact h5 _ (List.getElem_mem _)
    have hkn := Nat.mod_lt k (show n > 0 by omega)
    have hk := Nat.div_add_mod k n
    rw [tabR_succ]
    unfold tabS
    rw [ent_mod h4 (by rw [hrow]; exact hkn), tabA_ent, ih]
    have hc := Nat.mul_comm r n
    by_cases he : r = k / n ∧ m = k % n
    · obtain ⟨rfl, rfl⟩ := he
      have e : k / n * n + k % n = k := by omega
      rw [if_pos ⟨rfl, rfl⟩, e, if_pos (Nat.lt_succ_self k)]
    · rw [if_neg he]
      have hne : r * n + m ≠ k := fun e => he (by
        obtain ⟨e1, e2⟩ := div_parts (n := n) (q := r) (r := m) (k := k) hm (by omega)
        exact ⟨e2.symm, e1.symm⟩)
      by_cases hlt : r * n + m < k
      · rw [if_pos hlt, if_pos (by omega)]
      · rw [if_neg hlt, if_neg (by omega)]
theorem tb_rows (hn1 : 1 ≤ n) (hn7 : n ≤ 7) (f : Nat → Int) (hN : 1 ≤ N) : ((tabR n f N).getD 0 []).length = n := by
  obtain ⟨h1, h2⟩ := tabR_rows f hn1 hn7 N
  have h0 : 0 < (tabR n f N).length := by rw [h1]; exact Nat.div_pos (by omega) (by omega)
  rw [List.getD_eq_getElem?_getD, List.getElem?_eq_getElem h0]
  exact h2 _ (List.getElem_mem _)
theorem fork_need (hn1 : 1 ≤ n) (hn7 : n ≤ 7) (hN : 1 ≤ v.length) (hf : forkT n v = true) : validV (tbX n v) (tbY n v) = true ∧ 2 * quorum (n : Int) - (n : Int) ≤ sizT n v := by
  have hv : validV (tbX n v) (tbY n v) = true := by
    cases hx : validV (tbX n v) (tbY n v) with
    | true => rfl
    | false =>
      unfold forkT forkB decV at hf
      rw [hx] at hf; cases hf
  refine ⟨hv, ?_⟩
  unfold forkT forkB at hf
  rw [Bool.and_eq_true] at hf
  have h := forks_law hv (Prod.ext hf.1 hf.2)
  rw [show ((tbX n v).getD 0 []).length = n from tb_rows hn1 hn7 _ hN] at h
  exact h
theorem pairs_false : ∀ p ∈ pairsV false, size p.x ≤ 1 ∧ size p.y ≤ 1 := by decide +kernel
theorem size_zero : size 0 = 0 := by decide +kernel
theorem ch_get {i : Nat} (h : i < (chA n lz N).length) : (chA n lz N)[i] = chJ n lz i := by simp [chA]
/-- Whoever is no liar has no two choices. -/
theorem one_choice (hn1 : 1 ≤ n) (hv : v ∈ allV (chA n lz N)) {r m : Nat} (hm : m < n) (hl : lz ≤ (m : Int)) : size (if r * n + m < v.length then (v.getD (r * n + m) P2.zero).x else 0) ≤ 1 ∧ size (if r * n + m < v.length then (v.getD (r * n + m) P2.zero).y else 0) ≤ 1 := by
  obtain ⟨h1, h2⟩ := mem_all.1 hv
  by_cases h : r * n + m < v.length
  · rw [if_pos h, if_pos h]
    have h3 := h2 (r * n + m) (by omega)
    rw [ch_get] at h3
    unfold chJ at h3
    have e : (r * n + m) % n = m := by rw [Nat.mul_comm, Nat.mul_add_mod, Nat.mod_eq_of_lt hm]
    rw [e, decide_eq_false (by omega)] at h3
    exact pairs_false _ h3
  · rw [if_neg h, if_neg h, size_zero]
    exact ⟨Nat.zero_le _, Nat.zero_le _⟩
theorem cnt_below (lz : Nat) : ∀ k, ((List.range k).filter (fun i => decide (i < lz))).length ≤ lz ∧ ((List.range k).filter (fun i => decide (i < lz))).length ≤ k
  | 0 => ⟨Nat.zero_le _, Nat.le_refl _⟩
  | k + 1 => by
    obtain ⟨h1, h2⟩ := cnt_below lz k
    rw [List.range_succ, List.filter_append, List.length_append]
    by_cases h : k < lz
    · have e : ([k].filter (fun i => decide (i < lz))).length = 1 := by simp [h]
      omega
    · have e : ([k].filter (fun i => decide (i < lz))).length = 0 := by simp [h]
      omega
theorem conf_few {lz : Nat} (hn1 : 1 ≤ n) (hn7 : n ≤ 7) (hN : 1 ≤ v.length) (hv : v ∈ allV (chA n (lz : Int) N)) (hval : validV (tbX n v) (tbY n v) = true) : sizT n v ≤ (lz : Int) := by
  have vf := VF.of hval
  rw [show ((tbX n v).getD 0 []).length = n from tb_rows hn1 hn7 _ hN] at vf
  have key : ∀ i, i ∈ List.range 10 → mb (confV (tbX n v) (tbY n v)) i = true → decide (i < lz) = true := fun i hi hb => by
    have hi := List.mem_range.1 hi
    unfold confV at hb
    rw [hval, cond_true, mb_confT2 vf i (by omega) _ (Nat.le_refl _), Bool.and_eq_true] at hb
    have hin := of_decide_eq_true hb.1
    have hb2 := hb.2
    unfold cfmB at hb2
    obtain ⟨r, hr, hm⟩ := List.any_eq_true.1 hb2
    rcases Nat.lt_or_ge i lz with hlt | hge
    · exact decide_eq_true hlt
    · exfalso
      obtain ⟨o1, o2⟩ := one_choice (r := r) hn1 hv hin (by omega)
      unfold manyC tbX tbY at hm
      rw [tab_ent hn1 hn7 _ _ _ _ hin, tab_ent hn1 hn7 _ _ _ _ hin, Bool.or_eq_true, decide_eq_true_eq, decide_eq_true_eq] at hm
      omega
  have h1 : size (confV (tbX n v) (tbY n v)) ≤ ((List.range 10).filter (fun i => decide (i < lz))).length := by
    unfold size ids
    exact filter_mono_len key
  have := (cnt_below lz 10).1
  unfold sizT
  omega
theorem search_least (hn1 : 1 ≤ n) (hn7 : n ≤ 7) (hr : 1 ≤ r0) (hb : badS n r0 lz = false) (ht : totT n lz (n * r0) = some t) (hq : 2 * quorum (n : Int) - (n : Int) = need) (hv : v ∈ allV (chA n lz (n * r0))) (hf : forkT n v = true) (hs : sizT n v = need) : ∃ f, searchV n r0 lz = (t, f, need, 0) ∧ 0 < f := by
  have hm : v ∈ forksL n (chA n lz (n * r0)) := List.mem_filter.2 ⟨hv, hf⟩
  have hne := List.length_pos_of_mem hm
  refine ⟨((forksL n (chA n lz (n * r0))).length : Int), ?_, by omega⟩
  rw [search_val hb ht]
  have e : leastL ((forksL n (chA n lz (n * r0))).map (sizT n)) = need := by
    rcases least_spec (siz_pos n (forksL n (chA n lz (n * r0)))) with ⟨h3, _⟩ | ⟨h3, h4⟩
    · rw [List.map_eq_nil_iff] at h3
      rw [h3] at hm; cases hm
    · have h5 := h4 _ (List.mem_map_of_mem hm)
      obtain ⟨u, hu, e⟩ := List.mem_map.1 h3
      obtain ⟨hu1, hu2⟩ := List.mem_filter.1 hu
      have hul : 1 ≤ u.length := by
        rw [(mem_all.1 hu1).1]
        simp only [chA, List.length_map, List.length_range]
        exact Nat.mul_le_mul hn1 hr
      have h6 := (fork_need hn1 hn7 hul hu2).2
      rw [e] at h6
      omega
  rw [e]
theorem search_none {lz : Nat} (hn1 : 1 ≤ n) (hn7 : n ≤ 7) (hr : 1 ≤ r0) (hb : badS n r0 lz = false) (ht : totT n lz (n * r0) = some t) (hq : (lz : Int) < 2 * quorum (n : Int) - (n : Int)) : searchV n r0 lz = (t, 0, -1, 0) := by
  have h0 : forksL n (chA n lz (n * r0)) = [] := by
    rw [List.eq_nil_iff_forall_not_mem]
    intro u hu
    obtain ⟨hu1, hu2⟩ := List.mem_filter.1 hu
    have hul : 1 ≤ u.length := by
      rw [(mem_all.1 hu1).1]
      simp only [chA, List.length_map, List.length_range]
      exact Nat.mul_le_mul hn1 hr
    obtain ⟨h1, h2⟩ := fork_need hn1 hn7 hul hu2
    have := conf_few hn1 hn7 hul hu1 h1
    omega
  rw [search_val hb ht, h0]; rfl
end
theorem mem_pairs {b : Bool} (k : Nat) (hk : k < 32) (h : okP b k = true) : (⟨((k / 8 : Nat) : Int), ((k % 8 : Nat) : Int)⟩ : P2) ∈ pairsV b := List.mem_map.2 ⟨k, List.mem_filter.2 ⟨List.mem_range.2 hk, h⟩, rfl⟩
/-- A table in the search, by the places of its choices. -/
theorem mem_tab {n N : Nat} {lz : Int} (ks : List Nat) (hl : ks.length = N) (h : ((List.range N).all fun i => decide (ks.getD i 0 < 32) && okP (decide (((i % n : Nat) : Int) < lz)) (ks.getD i 0)) = true) : ks.map (fun k => (⟨((k / 8 : Nat) : Int), ((k % 8 : Nat) : Int)⟩ : P2)) ∈ allV (chA n lz N) := by
  rw [mem_all]
  refine ⟨by simp [chA, hl], fun i hi => ?_⟩
  have hN : i < N := by simpa [chA] using hi
  have h1 := List.all_eq_true.1 h i (List.mem_range.2 hN)
  rw [Bool.and_eq_true, decide_eq_true_eq] at h1
  have hk : i < ks.length := by omega
  rw [List.getD_eq_getElem?_getD, List.getElem?_eq_getElem hk] at h1
  rw [ch_get, List.getD_eq_getElem?_getD, List.getElem?_map, List.getElem?_eq_getElem hk]
  exact mem_pairs _ h1.1 h1.2
theorem tight1 : (∃ f, searchV 1 1 1 = (32, f, 1, 0) ∧ 0 < f) ∧ searchV 1 1 0 = (12, 0, -1, 0) :=
  ⟨search_least (n := 1) (r0 := 1) (lz := 1) (by decide) (by decide) (by decide) (by decide +kernel) (by decide +kernel) (by decide +kernel) (mem_tab [27] rfl (by decide +kernel)) (by decide +kernel) (by decide +kernel),
   search_none (n := 1) (r0 := 1) (lz := 0) (by decide) (by decide) (by decide) (by decide +kernel) (by decide +kernel) (by decide +kernel)⟩
theorem tight2 : (∃ f, searchV 2 1 2 = (1024, f, 2, 0) ∧ 0 < f) ∧ searchV 2 1 1 = (384, 0, -1, 0) :=
  ⟨search_least (n := 2) (r0 := 1) (lz := 2) (by decide) (by decide) (by decide) (by decide +kernel) (by decide +kernel) (by decide +kernel) (mem_tab [27, 27] rfl (by decide +kernel)) (by decide +kernel) (by decide +kernel),
   search_none (n := 2) (r0 := 1) (lz := 1) (by decide) (by decide) (by decide) (by decide +kernel) (by decide +kernel) (by decide +kernel)⟩
theorem tight3 : (∃ f, searchV 3 1 3 = (32768, f, 3, 0) ∧ 0 < f) ∧ searchV 3 1 2 = (12288, 0, -1, 0) :=
  ⟨search_least (n := 3) (r0 := 1) (lz := 3) (by decide) (by decide) (by decide) (by decide +kernel) (by decide +kernel) (by decide +kernel) (mem_tab [27, 27, 27] rfl (by decide +kernel)) (by decide +kernel) (by decide +kernel),
   search_none (n := 3) (r0 := 1) (lz := 2) (by decide) (by decide) (by decide) (by decide +kernel) (by decide +kernel) (by decide +kernel)⟩
theorem tight4 : (∃ f, searchV 4 1 2 = (147456, f, 2, 0) ∧ 0 < f) ∧ searchV 4 1 1 = (55296, 0, -1, 0) :=
  ⟨search_least (n := 4) (r0 := 1) (lz := 2) (by decide) (by decide) (by decide) (by decide +kernel) (by decide +kernel) (by decide +kernel) (mem_tab [27, 27, 9, 18] rfl (by decide +kernel)) (by decide +kernel) (by decide +kernel),
   search_none (n := 4) (r0 := 1) (lz := 1) (by decide) (by decide) (by decide) (by decide +kernel) (by decide +kernel) (by decide +kernel)⟩
theorem rounds2 : ∃ f, searchV 1 2 1 = (1024, f, 1, 0) ∧ 0 < f :=
  search_least (n := 1) (r0 := 2) (lz := 1) (by decide) (by decide) (by decide) (by decide +kernel) (by decide +kernel) (by decide +kernel) (mem_tab [27, 27] rfl (by decide +kernel)) (by decide +kernel) (by decide +kernel)
theorem rounds3 : ∃ f, searchV 1 3 1 = (32768, f, 1, 0) ∧ 0 < f :=
  search_least (n := 1) (r0 := 3) (lz := 1) (by decide) (by decide) (by decide) (by decide +kernel) (by decide +kernel) (by decide +kernel) (mem_tab [27, 27, 27] rfl (by decide +kernel)) (by decide +kernel) (by decide +kernel)

end Go.Proofs.Ytphnfhonmbbddaa
