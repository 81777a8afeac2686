/- The judge's tables: whoever signs more makes nothing undecidable (plain). -/
import Derived.Test.YtphnfhonmbbddaaJfP
import Derived.Test.YtphnfhonmbbddaaJ14
namespace Go.Proofs.Ytphnfhonmbbddaa
open Go Go.RowKit
set_option linter.unusedVariables false

/-- An entry of a table. -/
def ent (R : List (List Int)) (r i : Nat) : Int := (R.getD r []).getD i 0
/-- Every choice that stands in the one stands in the other. -/
def Sub (P P' : List (List Int)) (n k : Nat) : Prop := ∀ r i c, r < k → i < n → mb (ent P r i) c = true → mb (ent P' r i) c = true
section
variable {P C P' C' : List (List Int)} {q : Int} {n k : Nat}
theorem both_mono {l l' : List Int} (hl : l.length = n) (hl' : l'.length = n) (hb : ∀ i, 0 ≤ l.getD i 0 ∧ l.getD i 0 ≤ 3) (hb' : ∀ i, 0 ≤ l'.getD i 0 ∧ l'.getD i 0 ≤ 3) (h : ∀ i c, i < n → bitI l c i = true → bitI l' c i = true) (hv : bothV l q = true) : bothV l' q = true := by
  have cm : ∀ {x : Int} {f : List Int → Nat → Bool}, (∀ l : List Int, (∀ i, 0 ≤ l.getD i 0 ∧ l.getD i 0 ≤ 3) → ∀ i, hitB x (l.getD i 0) = f l i) → (∀ i, i < n → f l i = true → f l' i = true) → countV l x ≤ countV l' x := fun {x f} hf hm => by
    rw [countV_cnt hl, countV_cnt hl']
    have := cnt_mono (n := n) (f := fun i => hitB x (l.getD i 0)) (g := fun i => hitB x (l'.getD i 0)) (fun i hi hx => by
      rw [hf l' hb' i]
      exact hm i hi (by rw [← hf l hb i]; exact hx))
    omega
  have c1 : countV l 1 ≤ countV l' 1 := cm (f := fun l i => bitI l 0 i) (fun l hb i => (hit_mb (hb i).1 (by have := (hb i).2; omega)).1) (fun i hi => h i 0 hi)
  have c2 : countV l 2 ≤ countV l' 2 := cm (f := fun l i => bitI l 1 i) (fun l hb i => (hit_mb (hb i).1 (by have := (hb i).2; omega)).2.1) (fun i hi => h i 1 hi)
  have c3 : countV l 3 ≤ countV l' 3 := cm (f := fun l i => bitI l 0 i || bitI l 1 i) (fun l hb i => (hit_mb (hb i).1 (by have := (hb i).2; omega)).2.2.2.1) (fun i hi hx => by
    rw [Bool.or_eq_true] at hx ⊢
    exact hx.imp (h i 0 hi) (h i 1 hi))
  have z1 : 0 ≤ countV l 1 := by unfold countV; omega
  have z2 : 0 ≤ countV l 2 := by unfold countV; omega
  unfold bothV at *
  cases hc : (((decide (countV l 3 < q)) || (countV l 1 == 0)) || (countV l 2 == 0)) with
  | true => rw [hc] at hv; cases hv
  | false =>
    rw [hc, cond_false] at hv
    simp only [Bool.or_eq_false_iff, decide_eq_false_iff_not, beq_eq_false_iff_ne] at hc
    have hc' : (((decide (countV l' 3 < q)) || (countV l' 1 == 0)) || (countV l' 2 == 0)) = false := by
      simp only [Bool.or_eq_false_iff, decide_eq_false_iff_not, beq_eq_false_iff_ne]
      omega
    rw [hc', cond_false]
    cases hq : decide (1 < q) with
    | true => rfl
    | false =>
      rw [hq, cond_false, List.any_eq_true] at hv
      rw [cond_false, List.any_eq_true]
      obtain ⟨e, he, h3⟩ := hv
      obtain ⟨i, hi, rfl⟩ := List.mem_iff_getElem.1 he
      have g : l.getD i 0 = l[i] := by rw [List.getD_eq_getElem?_getD, List.getElem?_eq_getElem hi]; rfl
      have hi' : i < l'.length := by omega
      have g' : l'.getD i 0 = l'[i] := by rw [List.getD_eq_getElem?_getD, List.getElem?_eq_getElem hi']; rfl
      have h3' : (l[i] == 3) = true := h3
      rw [← g, eq3_mb (hb i).1 (hb i).2, Bool.and_eq_true] at h3'
      refine ⟨l'[i], List.getElem_mem hi', ?_⟩
      show (l'[i] == 3) = true
      rw [← g', eq3_mb (hb' i).1 (hb' i).2, Bool.and_eq_true]
      exact ⟨h i 0 (by omega) h3'.1, h i 1 (by omega) h3'.2⟩
theorem dec_mono {a b : Int} (h : a ≤ b) {q : Int} (hd : decide (q ≤ a) = true) : decide (q ≤ b) = true := decide_eq_true (by have := of_decide_eq_true hd; omega)
/-- What is possible grows. -/
theorem pos_mono (hv : VF P C n k) (hv' : VF P' C' n k) {r : Nat} (hr : r < k) (h : ∀ i c, i < n → bitI (plT P C q r) c i = true → bitI (plT P' C' q r) c i = true) (c : Nat) (hc : c < 3) (hp : mb (posT P C q r) c = true) : mb (posT P' C' q r) c = true := by
  obtain ⟨_, _, p0, p1, p2⟩ := posT_f (P := P) (C := C) (q := q) r
  obtain ⟨_, _, p0', p1', p2'⟩ := posT_f (P := P') (C := C') (q := q) r
  obtain ⟨a1, a2, _⟩ := cntP1 (q := q) hv hr
  obtain ⟨b1, b2, _⟩ := cntP1 (q := q) hv' hr
  obtain ⟨l1, l2⟩ := plT_rows (q := q) hv r hr
  obtain ⟨l1', l2'⟩ := plT_rows (q := q) hv' r hr
  have hcc : c = 0 ∨ c = 1 ∨ c = 2 := by omega
  rcases hcc with rfl | rfl | rfl
  · rw [p0, a1] at hp
    rw [p0', b1]
    exact dec_mono (by have := cnt_mono fun i hi => h i 0 hi; omega) hp
  · rw [p1, a2] at hp
    rw [p1', b2]
    exact dec_mono (by have := cnt_mono fun i hi => h i 1 hi; omega) hp
  · rw [p2] at hp
    rw [p2']
    exact both_mono l1 l1' l2 l2' h hp
theorem com_mono (hv : VF P C n k) (hv' : VF P' C' n k) (hC : Sub C C' n k) {r : Nat} (hr : r < k) (h : ∀ i c, i < n → bitI (plT P C q r) c i = true → bitI (plT P' C' q r) c i = true) (i c : Nat) (hi : i < n) (hc : c < 3) (hb : bitI (comT P C q r) c i = true) : bitI (comT P' C' q r) c i = true := by
  have h1 := com_bit hv hr c i hb
  unfold bitI comT
  rw [kept_getD, mb_and, Bool.and_eq_true]
  exact ⟨hC r i c hr hi h1.1, pos_mono hv hv' hr h c hc h1.2⟩
theorem nx_mono (hv : VF P C n k) (hv' : VF P' C' n k) (hC : Sub C C' n k) {r : Nat} (hr : r < k) (h : ∀ i c, i < n → bitI (plT P C q r) c i = true → bitI (plT P' C' q r) c i = true) {c d : Nat} {x y : Int} (hp : Pair c d x y) (hn : mb (nxT P C q r) d = true) : mb (nxT P' C' q r) d = true := by
  obtain ⟨_, o1, q1, n1, _⟩ := hp.com (q := q) hv hr
  obtain ⟨_, o2, q2, n2, _⟩ := hp.com (q := q) hv' hr
  obtain ⟨x1, _, _, _, _⟩ := hp.symm.com (q := q) hv hr
  obtain ⟨x2, _, _, _, _⟩ := hp.symm.com (q := q) hv' hr
  obtain ⟨_, _, f1, _⟩ := cntV1 (q := q) hv hr
  obtain ⟨_, _, f2, _⟩ := cntV1 (q := q) hv' hr
  have hd2 : d < 3 := by rcases hp with ⟨_, rfl, _⟩ | ⟨_, rfl, _⟩ <;> decide
  have cm := fun (e : Nat) (he : e < 3) (i : Nat) (hi : i < n) => com_mono (q := q) hv hv' hC hr h i e hi he
  have m1 : cntI n (fun i => bitI (comT P C q r) d i || bitI (comT P C q r) 2 i) ≤ cntI n (fun i => bitI (comT P' C' q r) d i || bitI (comT P' C' q r) 2 i) := cnt_mono fun i hi hx => by
    rw [Bool.or_eq_true] at hx ⊢
    exact hx.imp (cm d hd2 i hi) (cm 2 (by decide) i hi)
  have m2 := cnt_mono (cm d hd2)
  have m3 := cnt_mono (cm 2 (by decide))
  have m4 := cnt_mono fun i hi => h i d hi
  rw [n1] at hn
  rw [n2]
  unfold nxB at *
  rw [o1, f1, x1, q1, Bool.or_eq_true, Bool.and_eq_true, Bool.and_eq_true] at hn
  rw [o2, f2, x2, q2, Bool.or_eq_true, Bool.and_eq_true, Bool.and_eq_true]
  exact hn.imp (fun h => ⟨dec_mono (by omega) h.1, decide_eq_true (by have := of_decide_eq_true h.2; omega)⟩) (fun h => ⟨dec_mono (by omega) h.1, decide_eq_true (by have := of_decide_eq_true h.2; omega)⟩)
theorem pl_mono (hv : VF P C n k) (hv' : VF P' C' n k) (hP : Sub P P' n k) (hC : Sub C C' n k) : ∀ r, r < k → ∀ i c, i < n → bitI (plT P C q r) c i = true → bitI (plT P' C' q r) c i = true
  | 0, hr => fun i c hi h => hP 0 i c hr hi h
  | r + 1, hr => fun i c hi h => by
    have hr' := Nat.lt_of_succ_lt hr
    have ih := pl_mono hv hv' hP hC r hr'
    unfold bitI at *
    rw [plT_succ r (by rw [hv.pl]; exact hr), kept_getD, mb_and, Bool.and_eq_true] at h
    rw [plT_succ r (by rw [hv'.pl]; exact hr), kept_getD, mb_and, Bool.and_eq_true]
    refine ⟨hP (r + 1) i c hr hi h.1, ?_⟩
    by_cases hc : c < 2
    · have hcc : c = 0 ∨ c = 1 := by omega
      rcases hcc with rfl | rfl
      · exact nx_mono hv hv' hC hr' ih (.inr ⟨rfl, rfl, rfl, rfl⟩) h.2
      · exact nx_mono hv hv' hC hr' ih (.inl ⟨rfl, rfl, rfl, rfl⟩) h.2
    · exfalso
      obtain ⟨a, b⟩ := getD_rng (by decide) (hv.pr (r + 1) hr).2 i
      have h1 := h.1
      rcases small4 a b with e | e | e | e <;> rw [e] at h1
      · rw [mb_zero] at h1; cases h1
      all_goals
        by_cases h64 : c < 64
        · have := mb_nat
          first
            | (rw [show ((1 : Int)) = ((1 : Nat) : Int) from rfl, mb_nat 1 c h64, Nat.testBit_lt_two_pow (Nat.lt_of_lt_of_le (by decide : (1 : Nat) < 2 ^ 2) (Nat.pow_le_pow_right (by decide) (by omega)))] at h1; cases h1)
            | (rw [show ((2 : Int)) = ((2 : Nat) : Int) from rfl, mb_nat 2 c h64, Nat.testBit_lt_two_pow (Nat.lt_of_lt_of_le (by decide : (2 : Nat) < 2 ^ 2) (Nat.pow_le_pow_right (by decide) (by omega)))] at h1; cases h1)
            | (rw [show ((3 : Int)) = ((3 : Nat) : Int) from rfl, mb_nat 3 c h64, Nat.testBit_lt_two_pow (Nat.lt_of_lt_of_le (by decide : (3 : Nat) < 2 ^ 2) (Nat.pow_le_pow_right (by decide) (by omega)))] at h1; cases h1)
        · rw [mb_ge _ _ (by omega)] at h1; cases h1
theorem dcd_mono (hv : VF P C n k) (hv' : VF P' C' n k) (hP : Sub P P' n k) (hC : Sub C C' n k) {r : Nat} (hr : r < k) {c d : Nat} {x y : Int} (hp : Pair c d x y) (h : dcd P C q r x = true) : dcd P' C' q r x = true := by
  rw [dcd_iff hv hr hp] at h
  rw [dcd_iff hv' hr hp]
  have hc2 : c < 3 := by rcases hp with ⟨rfl, _⟩ | ⟨rfl, _⟩ <;> decide
  have := cnt_mono (n := n) fun i hi => com_mono (q := q) hv hv' hC hr (pl_mono hv hv' hP hC r hr) i c hi hc2
  omega
/-- The law. -/
theorem grows_dec (h : validV P C = true) (h' : validV P' C' = true) (hn : (P.getD 0 []).length = n) (hn' : (P'.getD 0 []).length = n) (hk : P.length = k) (hk' : P'.length = k) (hP : Sub P P' n k) (hC : Sub C C' n k) : ((decV P C).1 = true → (decV P' C').1 = true) ∧ ((decV P C).2 = true → (decV P' C').2 = true) := by
  have v := VF.of h
  have v' := VF.of h'
  rw [hn, hk] at v
  rw [hn', hk'] at v'
  unfold decV
  rw [h, h', cond_true, cond_true, hn, hn', hk, hk']
  obtain ⟨a, b, c, d⟩ := dec_any (P := P) (C := C) (q := quorum ((n : Nat) : Int)) k
  obtain ⟨a', b', c', d'⟩ := dec_any (P := P') (C := C') (q := quorum ((n : Nat) : Int)) k
  obtain ⟨e, f⟩ := and_bit a b
  obtain ⟨e', f'⟩ := and_bit a' b'
  simp only [e, f, e', f', c, d, c', d']
  refine ⟨fun hx => ?_, fun hx => ?_⟩
  · obtain ⟨r, hr, h1⟩ := List.any_eq_true.1 hx
    exact List.any_eq_true.2 ⟨r, hr, dcd_mono v v' hP hC (List.mem_range.1 hr) (.inl ⟨rfl, rfl, rfl, rfl⟩) h1⟩
  · obtain ⟨r, hr, h1⟩ := List.any_eq_true.1 hx
    exact List.any_eq_true.2 ⟨r, hr, dcd_mono v v' hP hC (List.mem_range.1 hr) (.inr ⟨rfl, rfl, rfl, rfl⟩) h1⟩
theorem mb_confT2 (hv : VF P C n k) (i : Nat) (hi : i < 64) : ∀ r, r ≤ k → mb (confT P C r) i = (decide (i < n) && cfmB P C r i)
  | 0, _ => by unfold confT cfmB; simp [mb_zero]
  | r + 1, hr => by
    rw [confT_succ, mb_confI _ _ _ hi, mb_confT2 hv i hi r (by omega), (hv.pr r (by omega)).1]
    unfold cfmB
    rw [List.range_succ, List.any_append]
    cases decide (i < n) <;> simp
theorem many_mono (hv : VF P C n k) (hv' : VF P' C' n k) (hP : Sub P P' n k) (hC : Sub C C' n k) {r i : Nat} (hr : r < k) (hi : i < n) (h : manyC P C r i = true) : manyC P' C' r i = true := by
  obtain ⟨a, b⟩ := getD_rng (by decide) (hv.pr r hr).2 i
  obtain ⟨a', b'⟩ := getD_rng (by decide) (hv'.pr r hr).2 i
  obtain ⟨c, d⟩ := getD_rng (by decide) (hv.cr r hr).2 i
  obtain ⟨c', d'⟩ := getD_rng (by decide) (hv'.cr r hr).2 i
  have p := fun e => hP r i e hr hi
  have c9 := fun e => hC r i e hr hi
  unfold ent at p c9
  unfold manyC at *
  rw [many_mb a (by omega), many_mb c d] at h
  rw [many_mb a' (by omega), many_mb c' d']
  simp only [Bool.or_eq_true, Bool.and_eq_true] at h ⊢
  exact h.imp (fun h => h.imp (fun h => h.imp (fun h => ⟨p 0 h.1, p 1 h.2⟩) (fun h => ⟨p 0 h.1, p 2 h.2⟩)) (fun h => ⟨p 1 h.1, p 2 h.2⟩)) (fun h => h.imp (fun h => h.imp (fun h => ⟨c9 0 h.1, c9 1 h.2⟩) (fun h => ⟨c9 0 h.1, c9 2 h.2⟩)) (fun h => ⟨c9 1 h.1, c9 2 h.2⟩))
theorem grows_conf (h : validV P C = true) (h' : validV P' C' = true) (hn : (P.getD 0 []).length = n) (hn' : (P'.getD 0 []).length = n) (hk : P.length = k) (hk' : P'.length = k) (hP : Sub P P' n k) (hC : Sub C C' n k) : bits .andNot .i64 (confV P C) (confV P' C') = 0 := by
  have v := VF.of h
  have v' := VF.of h'
  rw [hn, hk] at v
  rw [hn', hk'] at v'
  apply mb_ext (w64_andNot _ _) ⟨by decide, by decide⟩
  intro i hi
  rw [mb_andNot, mb_zero]
  unfold confV
  rw [h, h', cond_true, cond_true, hk, hk', mb_confT2 v i hi k (Nat.le_refl _), mb_confT2 v' i hi k (Nat.le_refl _)]
  cases hin : decide (i < n) with
  | false => rfl
  | true =>
    rw [Bool.true_and, Bool.true_and]
    cases hx : cfmB P C k i with
    | false => rfl
    | true =>
      have : cfmB P' C' k i = true := by
        unfold cfmB at *
        obtain ⟨r, hr, h1⟩ := List.any_eq_true.1 hx
        exact List.any_eq_true.2 ⟨r, hr, many_mono v v' hP hC (List.mem_range.1 hr) (of_decide_eq_true hin) h1⟩
      rw [this]; rfl
theorem VF.valid (hv : VF P C n k) : validV P C = true := by
  have n0 : (P.getD 0 []).length = n := (hv.pr 0 hv.k1).1
  have h1 := hv.n1; have h7 := hv.n7; have k1 := hv.k1; have k3 := hv.k3
  have hc : (((decide ((P.length : Int) < 1)) || (decide (3 < (P.length : Int)))) || ((C.length : Int) != (P.length : Int))) = false := by
    rw [hv.pl, hv.cl, decide_eq_false (by omega), decide_eq_false (by omega)]
    simp
  have f : ∀ {L : List (List Int)} {hi : Int}, L.length = k → (∀ r, r < k → (L.getD r []).length = n ∧ ∀ e ∈ L.getD r [], 0 ≤ e ∧ e ≤ hi) → fitsV L ((n : Nat) : Int) hi = true := fun {L hi} hL hr => by
    unfold fitsV
    rw [List.all_eq_true]
    intro x hx
    obtain ⟨r, hr1, rfl⟩ := List.mem_iff_getElem.1 hx
    have g : L.getD r [] = L[r] := by rw [List.getD_eq_getElem?_getD, List.getElem?_eq_getElem hr1]; rfl
    obtain ⟨a, b⟩ := hr r (by omega)
    rw [g] at a b
    refine fit_yes (by rw [a]; simp) ?_
    rw [List.any_eq_false]
    intro e he
    have := b e he
    unfold outB
    simp only [Bool.or_eq_true, decide_eq_true_eq, not_or]
    omega
  unfold validV
  rw [hc, cond_false, n0, f hv.pl hv.pr, f hv.cl hv.cr]
  simp only [Bool.and_true, Bool.and_eq_true, decide_eq_true_eq]
  omega
end
theorem or_small4 {a b : Int} (ha : 0 ≤ a) (ha7 : a ≤ 3) (hb : 0 ≤ b) (hb7 : b ≤ 3) : 0 ≤ bits .or .i64 a b ∧ bits .or .i64 a b ≤ 3 := by
  rcases small4 ha ha7 with rfl | rfl | rfl | rfl <;> rcases small4 hb hb7 with rfl | rfl | rfl | rfl <;> decide +kernel
theorem or_small {a b : Int} (ha : 0 ≤ a) (ha7 : a ≤ 7) (hb : 0 ≤ b) (hb7 : b ≤ 7) : 0 ≤ bits .or .i64 a b ∧ bits .or .i64 a b ≤ 7 := by
  rcases small8 ha ha7 with rfl | rfl | rfl | rfl | rfl | rfl | rfl | rfl <;> rcases small8 hb hb7 with rfl | rfl | rfl | rfl | rfl | rfl | rfl | rfl <;> decide +kernel
/-- Rows that are joined with others, up to a place. -/
structure OrInv (U T R : List (List Int)) (n k r m : Nat) : Prop where
  len : R.length = k
  row : ∀ s, s < k → (R.getD s []).length = n
  at_ : ∀ s i, s < k → i < n → ent R s i = if s < r ∨ (s = r ∧ i < m) then bits .or .i64 (ent U s i) (ent T s i) else ent U s i
section
variable {U T R : List (List Int)} {n k r m : Nat}
theorem OrInv.zero (hl : U.length = k) (hr : ∀ s, s < k → (U.getD s []).length = n) : OrInv U T U n k 0 0 := ⟨hl, hr, fun s i _ _ => by rw [if_neg (by omega)]⟩
theorem OrInv.next (h : OrInv U T R n k r m) (hm : n ≤ m) : OrInv U T R n k (r + 1) 0 := ⟨h.len, h.row, fun s i hs hi => by
  rw [h.at_ s i hs hi]
  have : (s < r ∨ (s = r ∧ i < m)) ↔ (s < r + 1 ∨ (s = r + 1 ∧ i < 0)) := by omega
  simp only [this]⟩
theorem getD_modify (L : List (List Int)) (r s : Nat) (f : List Int → List Int) (hr : r < L.length) : (L.modify r f).getD s [] = if r = s then f (L.getD s []) else L.getD s [] := by
  rw [List.getD_eq_getElem?_getD, List.getElem?_modify, List.getD_eq_getElem?_getD]
  by_cases h : r = s
  · subst h
    rw [List.getElem?_eq_getElem hr]
    simp
  · simp [h]
theorem OrInv.step (h : OrInv U T R n k r m) (hr : r < k) (hm : m < n) : OrInv U T (R.modify r (fun l => l.set m (bits .or .i64 (ent R r m) (ent T r m)))) n k r (m + 1) := by
  have hrl : r < R.length := by rw [h.len]; exact hr
  refine ⟨by rw [List.length_modify]; exact h.len, fun s hs => ?_, fun s i hs hi => ?_⟩
  · rw [getD_modify _ _ _ _ hrl]
    split
    · rw [List.length_set]; exact h.row s hs
    · exact h.row s hs
  · have e1 : ent (R.modify r (fun l => l.set m (bits .or .i64 (ent R r m) (ent T r m)))) s i = if r = s ∧ m = i then bits .or .i64 (ent R r m) (ent T r m) else ent R s i := by
      unfold ent
      rw [getD_modify _ _ _ _ hrl]
      by_cases hrs : r = s
      · subst hrs
        have hl := h.row r hr
        generalize R.getD r [] = l at *
        rw [if_pos rfl, List.getD_eq_getElem?_getD, List.getD_eq_getElem?_getD, List.getElem?_set]
        by_cases hmi : m = i
        · subst hmi
          simp [show m < l.length by omega]
        · simp [hmi]
      · rw [if_neg hrs, if_neg (by omega)]
    rw [e1]
    have h0 := h.at_ s i hs hi
    by_cases hc : r = s ∧ m = i
    · obtain ⟨rfl, rfl⟩ := hc
      rw [if_pos ⟨rfl, rfl⟩, if_pos (by omega), h.at_ r m hr hm, if_neg (by omega)]
    · rw [if_neg hc, h0]
      have : (s < r ∨ (s = r ∧ i < m)) ↔ (s < r ∨ (s = r ∧ i < m + 1)) := by omega
      simp only [this]
theorem OrInv.sub (h : OrInv U T R n k k 0) : Sub T R n k := fun s i c hs hi hb => by
  rw [h.at_ s i hs hi, if_pos (by omega), mb_or, hb, Bool.or_true]
theorem ent_rng {L : List (List Int)} {hi : Int} (h0 : 0 ≤ hi) (h : ∀ s, s < k → (L.getD s []).length = n ∧ ∀ e ∈ L.getD s [], 0 ≤ e ∧ e ≤ hi) {s : Nat} (hs : s < k) (i : Nat) : 0 ≤ ent L s i ∧ ent L s i ≤ hi := getD_rng h0 (h s hs).2 i
theorem mem_ent {L : List (List Int)} {s : Nat} (hl : (L.getD s []).length = n) {e : Int} (he : e ∈ L.getD s []) : ∃ i, i < n ∧ e = ent L s i := by
  obtain ⟨i, hi, rfl⟩ := List.mem_iff_getElem.1 he
  exact ⟨i, by omega, by unfold ent; rw [List.getD_eq_getElem?_getD (l := L.getD s []), List.getElem?_eq_getElem hi]; rfl⟩
theorem or_valid {U C T D R S : List (List Int)} (hu : VF U C n k) (ht : VF T D n k) (h1 : OrInv U T R n k k 0) (h2 : OrInv C D S n k k 0) : VF R S n k := by
  refine ⟨hu.n1, hu.n7, hu.k1, hu.k3, h1.len, h2.len, fun s hs => ⟨h1.row s hs, fun e he => ?_⟩, fun s hs => ⟨h2.row s hs, fun e he => ?_⟩⟩
  · obtain ⟨i, hi, rfl⟩ := mem_ent (h1.row s hs) he
    rw [h1.at_ s i hs hi, if_pos (by omega)]
    have a := ent_rng (by decide) hu.pr hs i
    have b := ent_rng (by decide) ht.pr hs i
    exact or_small4 a.1 a.2 b.1 b.2
  · obtain ⟨i, hi, rfl⟩ := mem_ent (h2.row s hs) he
    rw [h2.at_ s i hs hi, if_pos (by omega)]
    have a := ent_rng (by decide) hu.cr hs i
    have b := ent_rng (by decide) ht.cr hs i
    exact or_small a.1 a.2 b.1 b.2
end
end Go.Proofs.Ytphnfhonmbbddaa
