/- The walks of the laws of the superblock. -/
import Derived.Test.YtnagichfngogkaaSb
import Derived.Test.YtnagichfngogkaaGJ
import Derived.Test.YtnagichfngogkaaPair
namespace Go.Proofs.Ytnagichfngogkaa
open Go Go.RowKit
set_option linter.unusedVariables false

theorem take_allcut17_c {α : Type} {l : List α} (h : ¬ (250 : Int) < (l.length : Int)) : (l.take 250).length = l.length := by simp; omega
set_option maxRecDepth 100000 in
set_option maxHeartbeats 2000000 in
theorem cut17_c (l : List Vt) (A : Option Addr) (c : Nat) (w : World) (h1 : l.length ≤ c) (h2 : c ≤ maxLen) (hr : Rd w A l) : Calls Try.prog 26 #[.slice A (l.length) c] w (fun rr w' => rr = .returned (.slice A ((l.take 250).length) c) ∧ Below w.heap.size w w') := by
  refine calls_W (n := 9) Try.func26 rfl [(0, .slice A (l.length) c)] rfl ⟨by kernel_rfl, by kernel_rfl⟩ ?_
  refine W.weak (Ψ := St w []) (fun w' h => by rw [h]; exact St.start w) ?_
  refine W.seq ?_
  refine W.region [(0, false)] (by kernel_rfl) ?_
  refine T.pure 2 (.slice none (0) 0) (by kernel_rfl) (fun w => by kernel_rfl) ?_
  refine T.nil ?_
  refine QN.seq ?_
  refine W.seq ?_
  refine W.seq ?_
  refine W.region [(0, false), (1, false), (2, false)] (by kernel_rfl) ?_
  refine T.pure 3 (.slice A (l.length) c) (by kernel_rfl) (fun w => by kernel_rfl) ?_
  refine T.pure 4 (.int .i64 (((l.length : Nat) : Int))) (by kernel_rfl) (fun w => by kernel_rfl) ?_
  refine T.pure 5 (.bool (decide (250 < ((l.length : Nat) : Int)))) (by kernel_rfl) (fun w => by kernel_rfl) ?_
  refine T.nil ?_
  refine QN.seq ?_
  refine W.cond (decide (250 < ((l.length : Nat) : Int))) (by kernel_rfl) (fun h1 => ?_) (fun h1 => ?_)
  · skip
    have h1' := of_decide_eq_true h1
    refine W.seq ?_
    refine W.region [(0, false), (1, false), (2, false)] (by kernel_rfl) ?_
    refine T.pure 6 (.slice A (l.length) c) (by kernel_rfl) (fun w => by kernel_rfl) ?_
    have hsl2 : (l.take 250).length = 250 := by first | (simp; done) | (simp; omega)
    refine T.sliceTo 7 25 43 A (l.length) c (250) ((l.take 250).length) (by kernel_rfl) (by kernel_rfl) (by kernel_rfl) (by kernel_rfl) (by omega) (by omega) ?_
    refine T.pure 2 (.slice A ((l.take 250).length) c) (by kernel_rfl) (fun w => by kernel_rfl) ?_
    refine T.nil ?_
    refine QN.seq ?_
    refine W.ret ?_
    refine QN.thenRet ?_
    refine QN.done (.inl rfl) 2 (.slice A ((l.take 250).length) c) rfl (by kernel_rfl) (fun w hw => ⟨?_, hw.below⟩)
    exact rfl
  · skip
    have h1' := of_decide_eq_false h1
    refine W.skip ?_
    refine QN.seq ?_
    refine W.seq ?_
    refine W.region [(0, false), (1, false)] (by kernel_rfl) ?_
    refine T.pure 8 (.slice A (l.length) c) (by kernel_rfl) (fun w => by kernel_rfl) ?_
    refine T.pure 2 (.slice A (l.length) c) (by kernel_rfl) (fun w => by kernel_rfl) ?_
    refine T.nil ?_
    refine QN.seq ?_
    refine W.ret ?_
    refine QN.done (.inl rfl) 2 (.slice A (l.length) c) rfl (by kernel_rfl) (fun w hw => ⟨?_, hw.below⟩)
    exact congrArg (fun n => Ending.returned (.slice A n c)) (take_allcut17_c (by omega)).symm
theorem decV_len (m : Int) (p : Nm) (l : List Vt) : (decV m p l).length ≤ 10 := by
  have := idsI_len m
  unfold decV
  split
  · rw [List.length_map]; exact this
  · simp
theorem hd_mem {m : Int} {p : Nm} {l : List Vt} {i : Int} (h : neV m p l i = true) : hdV m p l i ∈ outV m p l i := by
  unfold neV at h
  simp only [Bool.not_eq_true', beq_eq_false_iff_ne] at h
  have h0 : 0 < (outV m p l i).length := by omega
  unfold hdV
  rw [getElem!_pos (outV m p l i) 0 h0]
  exact List.getElem_mem _
theorem decF_ok {m : Int} {p : Nm} {l : List Vt} (h : decF m p l = true) : decOK m p l = true ∧ 0 < (idsI m).length ∧ decV m p l = (idsI m).map (hdV m p l) := by
  unfold decF at h
  simp only [Bool.and_eq_true, decide_eq_true_eq] at h
  exact ⟨h.1, by omega, by unfold decV; rw [if_pos h.1]⟩
theorem dec_each {m : Int} {p : Nm} {l : List Vt} (h : decOK m p l = true) {i : Int} (hi : i ∈ idsI m) : hdV m p l i ∈ outV m p l i := hd_mem (List.all_eq_true.1 h i hi)
theorem zip_map {α β : Type} (l : List α) (g : α → β) (P : α × β → Bool) : (l.zip (l.map g)).all P = l.all (fun i => P (i, g i)) := by
  induction l with
  | nil => rfl
  | cons a l ih => simp only [List.map_cons, List.zip_cons_cons, List.all_cons, ih]
theorem crt_dec {m : Int} {p : Nm} {l l' : List Vt} (hs : ∀ u ∈ l, u ∈ l') (h : decF m p l = true) : crtB m p l' (chV (decV m p l)) = true := by
  obtain ⟨h1, h2, h3⟩ := decF_ok h
  have h4 := idsI_length m
  unfold crtB
  have e1 : (chV (decV m p l)).length = size m := by rw [chV_len, h3, List.length_map, h4]
  have e2 : ((((size m : Nat) : Int) != ((((chV (decV m p l)).length : Nat)) : Int)) || (((((chV (decV m p l)).length : Nat)) : Int) == 0)) = false := by
    rw [e1]; simp; omega
  rw [e2, cond_false, h3]
  unfold chV
  rw [List.map_map, zip_map, List.all_eq_true]
  intro i hi
  have hm := dec_each h1 hi
  have hsl := out_slot hm
  have : (outV m p l' i).any (fun (o : Oc) => o.val == (hdV m p l i).val) = true := List.any_eq_true.2 ⟨_, outV_mono hs hm, by simp⟩
  simp only [crP, Function.comp, chOf, hsl, this]
  simp
theorem crt_mono {m : Int} {p : Nm} {l l' : List Vt} {cs : List Ch} (hs : ∀ u ∈ l, u ∈ l') (h : crtB m p l cs = true) : crtB m p l' cs = true := by
  unfold crtB at *
  cases hc : ((((size m : Nat) : Int) != (((cs.length : Nat)) : Int)) || ((((cs.length : Nat)) : Int) == 0)) with
  | true => rw [hc] at h; cases h
  | false =>
    rw [hc, cond_false, List.all_eq_true] at h
    rw [cond_false, List.all_eq_true]
    intro z hz
    have h1 := h z hz
    unfold crP at *
    simp only [Bool.not_eq_true', Bool.or_eq_false_iff, Bool.not_eq_false', List.any_eq_true] at *
    obtain ⟨h2, o, ho, h3⟩ := h1
    exact ⟨h2, o, outV_mono hs ho, h3⟩
theorem sgrow1 {m : Int} {p : Nm} {l l' : List Vt} (hs : ∀ u ∈ l, u ∈ l') (h : ((decF m p l) && (!(crtB m p l' (chV (decV m p l))))) = true) : False := by
  rw [Bool.and_eq_true] at h
  rw [crt_dec hs h.1] at h
  simp at h
theorem sgrow2 {m : Int} {p : Nm} {l l' : List Vt} {cs : List Ch} (hs : ∀ u ∈ l, u ∈ l') : (((!(crtB m p l cs)) || (crtB m p l' cs)) && true) = true := by
  cases h : crtB m p l cs with
  | false => rfl
  | true => rw [crt_mono hs h]; rfl
def poV (m : Int) (p : Nm) (l : List Vt) (i : Int) : Bool := decide (0 < ((((outV m p l i).length : Nat)) : Int))
theorem po_ne (m : Int) (p : Nm) (l : List Vt) (i : Int) : poV m p l i = neV m p l i := by
  unfold poV neV
  rw [Bool.eq_iff_iff]
  simp only [decide_eq_true_eq, Bool.not_eq_true', beq_eq_false_iff_ne]
  omega
theorem wh_step {m : Int} {p : Nm} {l : List Vt} {wh b : Bool} {j : Nat} (h : wh = (b && ((idsI m).take j).all (poV m p l))) (hj : j < (idsI m).length) : (wh && (decide (0 < ((((outV m p l (idsI m)[j]).length : Nat)) : Int)))) = (b && ((idsI m).take (j + 1)).all (poV m p l)) := by
  rw [List.take_succ_eq_append_getElem hj, List.all_append, h]
  simp [poV, Bool.and_assoc]
theorem wh_dec {m : Int} {p : Nm} {l : List Vt} {wh : Bool} (h : wh = (decide (0 < ((((idsI m).length : Nat)) : Int)) && (idsI m).all (poV m p l))) : wh = decF m p l := by
  rw [h]
  unfold decF decOK
  rw [show poV m p l = neV m p l from funext fun i => po_ne m p l i, Bool.and_comm]
theorem sdec1 {m : Int} {p : Nm} {l : List Vt} {wh : Bool} (h : wh = (decide (0 < ((((idsI m).length : Nat)) : Int)) && (idsI m).all (poV m p l))) (h2 : (((decF m p l) != wh) || ((!(decF m p l)) && (((((decV m p l).length : Nat)) : Int) != 0))) = true) : False := by
  rw [wh_dec h] at h2
  cases hd : decF m p l with
  | true => rw [hd] at h2; simp at h2
  | false =>
    rw [hd] at h2
    simp only [bne_self_eq_false, Bool.not_false, Bool.true_and, Bool.false_or, bne_iff_ne] at h2
    apply h2
    unfold decF at hd
    unfold decV
    split
    · rename_i hk
      rw [hk] at hd
      simp only [Bool.true_and, decide_eq_false_iff_not] at hd
      rw [List.length_map]; omega
    · rfl
theorem sdec2 {m : Int} {p : Nm} {l : List Vt} (h : (!(decF m p l)) = false) (h2 : (((((decV m p l).length : Nat)) : Int) != ((((idsI m).length : Nat)) : Int)) = true) : False := by
  obtain ⟨_, _, h3⟩ := decF_ok (not_eq_false h)
  rw [h3] at h2; simp at h2
theorem sdec3 {m : Int} {p : Nm} {l : List Vt} {j : Nat} {hj : j < (decV m p l).length} {hj2 : j < (idsI m).length} (h : (((((decV m p l).length : Nat)) : Int) != ((((idsI m).length : Nat)) : Int)) = false) (h2 : (((decV m p l)[j].slot != (idsI m)[j]) || (!(decB m p l (decV m p l)[j]))) = true) : False := by
  have hok : decOK m p l = true := by
    by_cases hk : decOK m p l = true
    · exact hk
    · exfalso
      have : decV m p l = [] := by unfold decV; rw [if_neg hk]
      rw [this] at hj; simp at hj
  have h3 : decV m p l = (idsI m).map (hdV m p l) := by unfold decV; rw [if_pos hok]
  have h4 : (decV m p l)[j] = hdV m p l (idsI m)[j] := by simp [h3]
  have hm := dec_each hok (List.getElem_mem hj2)
  have hsl := out_slot hm
  have h5 : decB m p l (decV m p l)[j] = true := by rw [decB_iff, h4, hsl]; exact hm
  rw [h5, h4, hsl] at h2
  simp at h2
theorem sdec4 {m : Int} {p : Nm} {l : List Vt} (h : (!(decF m p l)) = false) : ((crtB m p l (chV (decV m p l))) && true) = true := by
  rw [crt_dec (fun u hu => hu) (not_eq_false h)]; rfl
def sbP (u z : Vt) : Bool := (u.signer == z.signer) && (confB u z)
theorem sbP_sg (u z : Vt) (h : sbP u z = true) : 0 ≤ u.signer ∧ u.signer < 10 := by
  unfold sbP at h
  rw [Bool.and_eq_true] at h
  exact valid_signer (conf_out h.2).2.1
theorem sbacc_w {m : Int} {p : Nm} {l l' : List Vt} {mk : Int} (h : (((!(decF m p l)) || (!(decF m p l'))) || ((chV (decV m p l)) == (chV (decV m p l')))) = false) (hmk : mk = pairM sbP l l') :
    (((decide ((2 * quorum (size m)) - (size m : Int) ≤ (size (bits .and .i64 mk m) : Int))) && (decide (third (size m) ≤ (size (bits .and .i64 mk m) : Int)))) && true) = true := by
  subst hmk
  simp only [Bool.or_eq_false_iff, Bool.not_eq_false', beq_eq_false_iff_ne] at h
  obtain ⟨⟨h1, h2⟩, h3⟩ := h
  obtain ⟨a1, _, a3⟩ := decF_ok h1
  obtain ⟨b1, _, b3⟩ := decF_ok h2
  have hex : ∃ i ∈ idsI m, (hdV m p l i).val ≠ (hdV m p l' i).val := by
    apply Classical.byContradiction
    intro hn
    apply h3
    rw [a3, b3]
    unfold chV
    rw [List.map_map, List.map_map]
    refine List.map_congr_left fun i hi => ?_
    have e : (hdV m p l i).val = (hdV m p l' i).val := by
      apply Classical.byContradiction
      intro hne
      exact hn ⟨i, hi, hne⟩
    simp only [Function.comp, chOf, out_slot (dec_each a1 hi), out_slot (dec_each b1 hi), e]
  obtain ⟨i, hi, hne⟩ := hex
  obtain ⟨X, h4, h5⟩ := accounts (dec_each a1 hi) (dec_each b1 hi) (fun e => hne e.2)
  have h6 : size X ≤ size (bits .and .i64 (pairM sbP l l') m) := by
    refine size_mono fun k hk hm => ?_
    obtain ⟨g0, u, hu, z, hz, e1, e2, e3, e4⟩ := h5 k hk hm
    rw [mb_and, g0, Bool.and_true, mb_pairM sbP_sg _ _ _ hk, List.any_eq_true]
    refine ⟨u, (accV_mem (acc_own u hu)).1, List.any_eq_true.2 ⟨z, (accV_mem (acc_own z hz)).1, ?_⟩⟩
    unfold sbP
    rw [e4, e1, e2]; simp
  have ht := third_le (size m)
  simp only [Bool.and_true, Bool.and_eq_true, decide_eq_true_eq]
  omega
set_option maxRecDepth 100000 in
set_option maxHeartbeats 2000000 in
theorem awake17_c (w : World) : Calls Try.prog 30 #[] w (fun rr w' => rr = .returned (.bool (true)) ∧ Below w.heap.size w w') := by
  refine calls_W (n := 39) Try.func30 rfl [] rfl ⟨by kernel_rfl, by kernel_rfl⟩ ?_
  refine W.weak (Ψ := St w []) (fun w' h => by rw [h]; exact St.start w) ?_
  refine W.seq ?_
  refine W.region [(0, false)] (by kernel_rfl) ?_
  refine T.pure 0 (.bool (false)) (by kernel_rfl) (fun w => by kernel_rfl) ?_
  refine T.nil ?_
  refine QN.seq ?_
  refine W.seq ?_
  refine W.region [(0, false), (1, false), (2, false), (3, false)] (by kernel_rfl) ?_
  refine T.pure 6 (.agg ((⟨3, 0, 1, 0, 0, 0, Nm.zero, Nm.zero⟩ : Vt)).cs) (by kernel_rfl) (fun w => by kernel_rfl) ?_
  refine T.pure 7 (.agg ((⟨4, 0, 1, 0, 0, 1, Nm.zero, Nm.zero⟩ : Vt)).cs) (by kernel_rfl) (fun w => by kernel_rfl) ?_
  refine T.lit 8 25 43 2 #[(0, .agg ((⟨3, 0, 1, 0, 0, 0, Nm.zero, Nm.zero⟩ : Vt)).cs), (1, .agg ((⟨4, 0, 1, 0, 0, 1, Nm.zero, Nm.zero⟩ : Vt)).cs)] (cells ([(⟨3, 0, 1, 0, 0, 0, Nm.zero, Nm.zero⟩ : Vt), (⟨4, 0, 1, 0, 0, 1, Nm.zero, Nm.zero⟩ : Vt)] : List Vt)).toArray (by kernel_rfl) (by kernel_rfl) (by kernel_rfl) (by kernel_rfl) (fun _ _ _ => trivial) (fun b1 => ?_)
  refine T.pure 1 (.slice (some ⟨b1, 0, none⟩) (2) 2) (by kernel_rfl) (fun w => by kernel_rfl) ?_
  refine T.nil ?_
  refine QN.seq ?_
  refine W.seq ?_
  refine W.region [(0, false), (1, false), (2, false), (3, false), (4, false), (5, false), (6, false), (7, false)] (by kernel_rfl) ?_
  refine T.pure 10 (.agg (Nm.zero).cs) (by kernel_rfl) (fun w => by kernel_rfl) ?_
  refine T.pure 11 (.slice (some ⟨b1, 0, none⟩) (2) 2) (by kernel_rfl) (fun w => by kernel_rfl) ?_
  refine T.callG (β := Option Addr × Nat × List (Nat × Obj)) 12 27 #[.int .i64 (1), .agg (Nm.zero).cs, .slice (some ⟨b1, 0, none⟩) (2) 2] (fun gs => .tuple #[.slice gs.1 ((decV 1 Nm.zero ([(⟨3, 0, 1, 0, 0, 0, Nm.zero, Nm.zero⟩ : Vt), (⟨4, 0, 1, 0, 0, 1, Nm.zero, Nm.zero⟩ : Vt)])).length) gs.2.1, .bool (decF 1 Nm.zero ([(⟨3, 0, 1, 0, 0, 0, Nm.zero, Nm.zero⟩ : Vt), (⟨4, 0, 1, 0, 0, 1, Nm.zero, Nm.zero⟩ : Vt)]))]) (fun gs => St w (gs.2.2 ++ [(b1, Obj.cells (cells ([(⟨3, 0, 1, 0, 0, 0, Nm.zero, Nm.zero⟩ : Vt), (⟨4, 0, 1, 0, 0, 1, Nm.zero, Nm.zero⟩ : Vt)] : List Vt)).toArray 43 (0, 0))])) (fun gs => RowIs 39 11 gs.1 (decV 1 Nm.zero ([(⟨3, 0, 1, 0, 0, 0, Nm.zero, Nm.zero⟩ : Vt), (⟨4, 0, 1, 0, 0, 1, Nm.zero, Nm.zero⟩ : Vt)])).length gs.2.1 (cells (decV 1 Nm.zero ([(⟨3, 0, 1, 0, 0, 0, Nm.zero, Nm.zero⟩ : Vt), (⟨4, 0, 1, 0, 0, 1, Nm.zero, Nm.zero⟩ : Vt)]))) gs.2.2) (by kernel_rfl) (by kernel_rfl) ent27 ?_ (fun _ _ _ => trivial) ?_
  · exact fun w hw => (decide_c 1 Nm.zero ([(⟨3, 0, 1, 0, 0, 0, Nm.zero, Nm.zero⟩ : Vt), (⟨4, 0, 1, 0, 0, 1, Nm.zero, Nm.zero⟩ : Vt)]) (some ⟨b1, 0, none⟩) 2 w (by first | assumption | exact w64_and _ _ | exact w64_or _ _ | exact w64_andNot _ _ | (unfold W64; omega)) ((show ∀ u ∈ [(⟨3, 0, 1, 0, 0, 0, Nm.zero, Nm.zero⟩ : Vt), (⟨4, 0, 1, 0, 0, 1, Nm.zero, Nm.zero⟩ : Vt)], W64 u.support from by intro u hu; simp only [List.mem_cons, List.not_mem_nil, or_false] at hu; rcases hu with rfl | rfl <;> (unfold W64; decide))) (by first | omega | (simp; done) | (simp; omega)) (Arr.rd (Arr.lit (.head _)) hw)).mono fun r w' ⟨A, c, Hr, h1, h2, h3⟩ => ⟨(A, c, Hr), h2, h1, hw.join h3⟩
  rintro ⟨A2, c3, Hr4⟩ hp_
  have hp5 : RowIs 39 11 A2 (decV 1 Nm.zero ([(⟨3, 0, 1, 0, 0, 0, Nm.zero, Nm.zero⟩ : Vt), (⟨4, 0, 1, 0, 0, 1, Nm.zero, Nm.zero⟩ : Vt)])).length c3 (cells (decV 1 Nm.zero ([(⟨3, 0, 1, 0, 0, 0, Nm.zero, Nm.zero⟩ : Vt), (⟨4, 0, 1, 0, 0, 1, Nm.zero, Nm.zero⟩ : Vt)]))) Hr4 := hp_
  refine T.pure 9 (.tuple #[.slice A2 ((decV 1 Nm.zero ([(⟨3, 0, 1, 0, 0, 0, Nm.zero, Nm.zero⟩ : Vt), (⟨4, 0, 1, 0, 0, 1, Nm.zero, Nm.zero⟩ : Vt)])).length) c3, .bool (decF 1 Nm.zero ([(⟨3, 0, 1, 0, 0, 0, Nm.zero, Nm.zero⟩ : Vt), (⟨4, 0, 1, 0, 0, 1, Nm.zero, Nm.zero⟩ : Vt)]))]) (by kernel_rfl) (fun w => by kernel_rfl) ?_
  refine T.pure 13 (.slice A2 ((decV 1 Nm.zero ([(⟨3, 0, 1, 0, 0, 0, Nm.zero, Nm.zero⟩ : Vt), (⟨4, 0, 1, 0, 0, 1, Nm.zero, Nm.zero⟩ : Vt)])).length) c3) (by kernel_rfl) (fun w => by kernel_rfl) ?_
  refine T.pure 14 (.bool (decF 1 Nm.zero ([(⟨3, 0, 1, 0, 0, 0, Nm.zero, Nm.zero⟩ : Vt), (⟨4, 0, 1, 0, 0, 1, Nm.zero, Nm.zero⟩ : Vt)]))) (by kernel_rfl) (fun w => by kernel_rfl) ?_
  refine T.pure 2 (.slice A2 ((decV 1 Nm.zero ([(⟨3, 0, 1, 0, 0, 0, Nm.zero, Nm.zero⟩ : Vt), (⟨4, 0, 1, 0, 0, 1, Nm.zero, Nm.zero⟩ : Vt)])).length) c3) (by kernel_rfl) (fun w => by kernel_rfl) ?_
  refine T.pure 3 (.bool (decF 1 Nm.zero ([(⟨3, 0, 1, 0, 0, 0, Nm.zero, Nm.zero⟩ : Vt), (⟨4, 0, 1, 0, 0, 1, Nm.zero, Nm.zero⟩ : Vt)]))) (by kernel_rfl) (fun w => by kernel_rfl) ?_
  refine T.nil ?_
  refine QN.seq ?_
  refine W.seq ?_
  refine W.region [(0, false), (1, false), (2, false), (3, false), (4, false), (5, false), (6, false), (7, false), (8, false)] (by kernel_rfl) ?_
  refine T.pure 16 (.agg (Nm.zero).cs) (by kernel_rfl) (fun w => by kernel_rfl) ?_
  refine T.pure 17 (.slice (some ⟨b1, 0, none⟩) (2) 2) (by kernel_rfl) (fun w => by kernel_rfl) ?_
  have hsl6 : (([(⟨3, 0, 1, 0, 0, 0, Nm.zero, Nm.zero⟩ : Vt), (⟨4, 0, 1, 0, 0, 1, Nm.zero, Nm.zero⟩ : Vt)]).take 1).length = 1 := by first | (simp; done) | (simp; omega)
  refine T.sliceTo 18 25 43 (some ⟨b1, 0, none⟩) (2) 2 (1) ((([(⟨3, 0, 1, 0, 0, 0, Nm.zero, Nm.zero⟩ : Vt), (⟨4, 0, 1, 0, 0, 1, Nm.zero, Nm.zero⟩ : Vt)]).take 1).length) (by kernel_rfl) (by kernel_rfl) (by kernel_rfl) (by kernel_rfl) (by omega) (by omega) ?_
  refine T.callG (β := Option Addr × Nat × List (Nat × Obj)) 19 27 #[.int .i64 (1), .agg (Nm.zero).cs, .slice (some ⟨b1, 0, none⟩) ((([(⟨3, 0, 1, 0, 0, 0, Nm.zero, Nm.zero⟩ : Vt), (⟨4, 0, 1, 0, 0, 1, Nm.zero, Nm.zero⟩ : Vt)]).take 1).length) 2] (fun gs => .tuple #[.slice gs.1 ((decV 1 Nm.zero (([(⟨3, 0, 1, 0, 0, 0, Nm.zero, Nm.zero⟩ : Vt), (⟨4, 0, 1, 0, 0, 1, Nm.zero, Nm.zero⟩ : Vt)]).take 1)).length) gs.2.1, .bool (decF 1 Nm.zero (([(⟨3, 0, 1, 0, 0, 0, Nm.zero, Nm.zero⟩ : Vt), (⟨4, 0, 1, 0, 0, 1, Nm.zero, Nm.zero⟩ : Vt)]).take 1))]) (fun gs => St w (gs.2.2 ++ (Hr4 ++ [(b1, Obj.cells (cells ([(⟨3, 0, 1, 0, 0, 0, Nm.zero, Nm.zero⟩ : Vt), (⟨4, 0, 1, 0, 0, 1, Nm.zero, Nm.zero⟩ : Vt)] : List Vt)).toArray 43 (0, 0))]))) (fun gs => RowIs 39 11 gs.1 (decV 1 Nm.zero (([(⟨3, 0, 1, 0, 0, 0, Nm.zero, Nm.zero⟩ : Vt), (⟨4, 0, 1, 0, 0, 1, Nm.zero, Nm.zero⟩ : Vt)]).take 1)).length gs.2.1 (cells (decV 1 Nm.zero (([(⟨3, 0, 1, 0, 0, 0, Nm.zero, Nm.zero⟩ : Vt), (⟨4, 0, 1, 0, 0, 1, Nm.zero, Nm.zero⟩ : Vt)]).take 1))) gs.2.2) (by kernel_rfl) (by kernel_rfl) ent27 ?_ (fun _ _ _ => trivial) ?_
  · exact fun w hw => (decide_c 1 Nm.zero (([(⟨3, 0, 1, 0, 0, 0, Nm.zero, Nm.zero⟩ : Vt), (⟨4, 0, 1, 0, 0, 1, Nm.zero, Nm.zero⟩ : Vt)]).take 1) (some ⟨b1, 0, none⟩) 2 w (by first | assumption | exact w64_and _ _ | exact w64_or _ _ | exact w64_andNot _ _ | (unfold W64; omega)) (fun u hu => (show ∀ u ∈ [(⟨3, 0, 1, 0, 0, 0, Nm.zero, Nm.zero⟩ : Vt), (⟨4, 0, 1, 0, 0, 1, Nm.zero, Nm.zero⟩ : Vt)], W64 u.support from by intro u hu; simp only [List.mem_cons, List.not_mem_nil, or_false] at hu; rcases hu with rfl | rfl <;> (unfold W64; decide)) u (List.mem_of_mem_take hu)) (by first | omega | (simp; done) | (simp; omega)) (Arr.rd ((Arr.lit (List.mem_append_right _ (.head _))).take _) hw)).mono fun r w' ⟨A, c, Hr, h1, h2, h3⟩ => ⟨(A, c, Hr), h2, h1, hw.join h3⟩
  rintro ⟨A7, c8, Hr9⟩ hp_
  have hp10 : RowIs 39 11 A7 (decV 1 Nm.zero (([(⟨3, 0, 1, 0, 0, 0, Nm.zero, Nm.zero⟩ : Vt), (⟨4, 0, 1, 0, 0, 1, Nm.zero, Nm.zero⟩ : Vt)]).take 1)).length c8 (cells (decV 1 Nm.zero (([(⟨3, 0, 1, 0, 0, 0, Nm.zero, Nm.zero⟩ : Vt), (⟨4, 0, 1, 0, 0, 1, Nm.zero, Nm.zero⟩ : Vt)]).take 1))) Hr9 := hp_
  refine T.pure 15 (.tuple #[.slice A7 ((decV 1 Nm.zero (([(⟨3, 0, 1, 0, 0, 0, Nm.zero, Nm.zero⟩ : Vt), (⟨4, 0, 1, 0, 0, 1, Nm.zero, Nm.zero⟩ : Vt)]).take 1)).length) c8, .bool (decF 1 Nm.zero (([(⟨3, 0, 1, 0, 0, 0, Nm.zero, Nm.zero⟩ : Vt), (⟨4, 0, 1, 0, 0, 1, Nm.zero, Nm.zero⟩ : Vt)]).take 1))]) (by kernel_rfl) (fun w => by kernel_rfl) ?_
  refine T.pure 20 (.slice A7 ((decV 1 Nm.zero (([(⟨3, 0, 1, 0, 0, 0, Nm.zero, Nm.zero⟩ : Vt), (⟨4, 0, 1, 0, 0, 1, Nm.zero, Nm.zero⟩ : Vt)]).take 1)).length) c8) (by kernel_rfl) (fun w => by kernel_rfl) ?_
  refine T.pure 21 (.bool (decF 1 Nm.zero (([(⟨3, 0, 1, 0, 0, 0, Nm.zero, Nm.zero⟩ : Vt), (⟨4, 0, 1, 0, 0, 1, Nm.zero, Nm.zero⟩ : Vt)]).take 1))) (by kernel_rfl) (fun w => by kernel_rfl) ?_
  refine T.pure 4 (.slice A7 ((decV 1 Nm.zero (([(⟨3, 0, 1, 0, 0, 0, Nm.zero, Nm.zero⟩ : Vt), (⟨4, 0, 1, 0, 0, 1, Nm.zero, Nm.zero⟩ : Vt)]).take 1)).length) c8) (by kernel_rfl) (fun w => by kernel_rfl) ?_
  refine T.pure 5 (.bool (decF 1 Nm.zero (([(⟨3, 0, 1, 0, 0, 0, Nm.zero, Nm.zero⟩ : Vt), (⟨4, 0, 1, 0, 0, 1, Nm.zero, Nm.zero⟩ : Vt)]).take 1))) (by kernel_rfl) (fun w => by kernel_rfl) ?_
  refine T.nil ?_
  refine QN.seq ?_
  refine W.seq ?_
  refine W.region [(0, false), (1, false), (2, false), (3, false), (4, false), (5, false), (6, false), (7, false), (8, false), (9, false), (10, false), (11, false), (12, false), (13, false), (14, false), (15, false), (16, false), (17, false)] (by kernel_rfl) ?_
  refine T.pure 22 (.bool (decF 1 Nm.zero ([(⟨3, 0, 1, 0, 0, 0, Nm.zero, Nm.zero⟩ : Vt), (⟨4, 0, 1, 0, 0, 1, Nm.zero, Nm.zero⟩ : Vt)]))) (by kernel_rfl) (fun w => by kernel_rfl) ?_
  refine T.pure 23 (.bool (decF 1 Nm.zero ([(⟨3, 0, 1, 0, 0, 0, Nm.zero, Nm.zero⟩ : Vt), (⟨4, 0, 1, 0, 0, 1, Nm.zero, Nm.zero⟩ : Vt)]))) (by kernel_rfl) (fun w => by kernel_rfl) ?_
  refine T.blk [(2, false), (3, false)] [(4, false), (5, false), (6, false), (7, false), (8, false), (9, false), (10, false), (11, false), (12, false), (13, false), (14, false), (15, false), (16, false), (17, false)] 1 true (decF 1 Nm.zero ([(⟨3, 0, 1, 0, 0, 0, Nm.zero, Nm.zero⟩ : Vt), (⟨4, 0, 1, 0, 0, 1, Nm.zero, Nm.zero⟩ : Vt)])) 23 25 (.bool (!(decF 1 Nm.zero (([(⟨3, 0, 1, 0, 0, 0, Nm.zero, Nm.zero⟩ : Vt), (⟨4, 0, 1, 0, 0, 1, Nm.zero, Nm.zero⟩ : Vt)]).take 1)))) (by kernel_rfl) (by kernel_rfl) (by kernel_rfl) (fun hg11 => ?_) ?_
  · have hg11_ := hg11
    refine T.pure 24 (.bool (decF 1 Nm.zero (([(⟨3, 0, 1, 0, 0, 0, Nm.zero, Nm.zero⟩ : Vt), (⟨4, 0, 1, 0, 0, 1, Nm.zero, Nm.zero⟩ : Vt)]).take 1))) (by kernel_rfl) (fun w => by kernel_rfl) ?_
    refine T.pure 25 (.bool (!(decF 1 Nm.zero (([(⟨3, 0, 1, 0, 0, 0, Nm.zero, Nm.zero⟩ : Vt), (⟨4, 0, 1, 0, 0, 1, Nm.zero, Nm.zero⟩ : Vt)]).take 1)))) (by kernel_rfl) (fun w => by kernel_rfl) ?_
    exact T.blkEnd (by kernel_rfl) (fun w h => h)
  refine T.and 26 (decF 1 Nm.zero ([(⟨3, 0, 1, 0, 0, 0, Nm.zero, Nm.zero⟩ : Vt), (⟨4, 0, 1, 0, 0, 1, Nm.zero, Nm.zero⟩ : Vt)])) (!(decF 1 Nm.zero (([(⟨3, 0, 1, 0, 0, 0, Nm.zero, Nm.zero⟩ : Vt), (⟨4, 0, 1, 0, 0, 1, Nm.zero, Nm.zero⟩ : Vt)]).take 1))) (by kernel_rfl) (by kernel_rfl) ?_
  refine T.pure 27 (.bool ((decF 1 Nm.zero ([(⟨3, 0, 1, 0, 0, 0, Nm.zero, Nm.zero⟩ : Vt), (⟨4, 0, 1, 0, 0, 1, Nm.zero, Nm.zero⟩ : Vt)])) && (!(decF 1 Nm.zero (([(⟨3, 0, 1, 0, 0, 0, Nm.zero, Nm.zero⟩ : Vt), (⟨4, 0, 1, 0, 0, 1, Nm.zero, Nm.zero⟩ : Vt)]).take 1))))) (by kernel_rfl) (fun w => by kernel_rfl) ?_
  refine T.blk [(6, false), (7, false), (8, false)] [(9, false), (10, false), (11, false), (12, false), (13, false), (14, false), (15, false), (16, false), (17, false)] 5 true ((decF 1 Nm.zero ([(⟨3, 0, 1, 0, 0, 0, Nm.zero, Nm.zero⟩ : Vt), (⟨4, 0, 1, 0, 0, 1, Nm.zero, Nm.zero⟩ : Vt)])) && (!(decF 1 Nm.zero (([(⟨3, 0, 1, 0, 0, 0, Nm.zero, Nm.zero⟩ : Vt), (⟨4, 0, 1, 0, 0, 1, Nm.zero, Nm.zero⟩ : Vt)]).take 1)))) 27 30 (.bool ((((decV 1 Nm.zero ([(⟨3, 0, 1, 0, 0, 0, Nm.zero, Nm.zero⟩ : Vt), (⟨4, 0, 1, 0, 0, 1, Nm.zero, Nm.zero⟩ : Vt)])).length : Nat) : Int) == 1)) (by kernel_rfl) (by kernel_rfl) (by kernel_rfl) (fun hg12 => ?_) ?_
  · have hg12_ := hg12
    have hg12l := (Bool.and_eq_true_iff.1 hg12).1
    have hg12r := (Bool.and_eq_true_iff.1 hg12).2
    have hg12rn := not_eq_true hg12r
    refine T.pure 28 (.slice A2 ((decV 1 Nm.zero ([(⟨3, 0, 1, 0, 0, 0, Nm.zero, Nm.zero⟩ : Vt), (⟨4, 0, 1, 0, 0, 1, Nm.zero, Nm.zero⟩ : Vt)])).length) c3) (by kernel_rfl) (fun w => by kernel_rfl) ?_
    refine T.pure 29 (.int .i64 ((((decV 1 Nm.zero ([(⟨3, 0, 1, 0, 0, 0, Nm.zero, Nm.zero⟩ : Vt), (⟨4, 0, 1, 0, 0, 1, Nm.zero, Nm.zero⟩ : Vt)])).length : Nat) : Int))) (by kernel_rfl) (fun w => by kernel_rfl) ?_
    refine T.pure 30 (.bool ((((decV 1 Nm.zero ([(⟨3, 0, 1, 0, 0, 0, Nm.zero, Nm.zero⟩ : Vt), (⟨4, 0, 1, 0, 0, 1, Nm.zero, Nm.zero⟩ : Vt)])).length : Nat) : Int) == 1)) (by kernel_rfl) (fun w => by kernel_rfl) ?_
    exact T.blkEnd (by kernel_rfl) (fun w h => h)
  refine T.and 31 ((decF 1 Nm.zero ([(⟨3, 0, 1, 0, 0, 0, Nm.zero, Nm.zero⟩ : Vt), (⟨4, 0, 1, 0, 0, 1, Nm.zero, Nm.zero⟩ : Vt)])) && (!(decF 1 Nm.zero (([(⟨3, 0, 1, 0, 0, 0, Nm.zero, Nm.zero⟩ : Vt), (⟨4, 0, 1, 0, 0, 1, Nm.zero, Nm.zero⟩ : Vt)]).take 1)))) ((((decV 1 Nm.zero ([(⟨3, 0, 1, 0, 0, 0, Nm.zero, Nm.zero⟩ : Vt), (⟨4, 0, 1, 0, 0, 1, Nm.zero, Nm.zero⟩ : Vt)])).length : Nat) : Int) == 1) (by kernel_rfl) (by kernel_rfl) ?_
  refine T.pure 32 (.bool (((decF 1 Nm.zero ([(⟨3, 0, 1, 0, 0, 0, Nm.zero, Nm.zero⟩ : Vt), (⟨4, 0, 1, 0, 0, 1, Nm.zero, Nm.zero⟩ : Vt)])) && (!(decF 1 Nm.zero (([(⟨3, 0, 1, 0, 0, 0, Nm.zero, Nm.zero⟩ : Vt), (⟨4, 0, 1, 0, 0, 1, Nm.zero, Nm.zero⟩ : Vt)]).take 1)))) && ((((decV 1 Nm.zero ([(⟨3, 0, 1, 0, 0, 0, Nm.zero, Nm.zero⟩ : Vt), (⟨4, 0, 1, 0, 0, 1, Nm.zero, Nm.zero⟩ : Vt)])).length : Nat) : Int) == 1))) (by kernel_rfl) (fun w => by kernel_rfl) ?_
  refine T.blk [(11, false), (12, false), (13, false), (14, false), (15, false)] [(16, false), (17, false)] 10 true (((decF 1 Nm.zero ([(⟨3, 0, 1, 0, 0, 0, Nm.zero, Nm.zero⟩ : Vt), (⟨4, 0, 1, 0, 0, 1, Nm.zero, Nm.zero⟩ : Vt)])) && (!(decF 1 Nm.zero (([(⟨3, 0, 1, 0, 0, 0, Nm.zero, Nm.zero⟩ : Vt), (⟨4, 0, 1, 0, 0, 1, Nm.zero, Nm.zero⟩ : Vt)]).take 1)))) && ((((decV 1 Nm.zero ([(⟨3, 0, 1, 0, 0, 0, Nm.zero, Nm.zero⟩ : Vt), (⟨4, 0, 1, 0, 0, 1, Nm.zero, Nm.zero⟩ : Vt)])).length : Nat) : Int) == 1)) 32 37 (.bool (crtB 1 Nm.zero ([(⟨3, 0, 1, 0, 0, 0, Nm.zero, Nm.zero⟩ : Vt), (⟨4, 0, 1, 0, 0, 1, Nm.zero, Nm.zero⟩ : Vt)]) ([(⟨0, Nm.zero⟩ : Ch)]))) (by kernel_rfl) (by kernel_rfl) (by kernel_rfl) (fun hg13 => ?_) ?_
  · have hg13_ := hg13
    have hg13l := (Bool.and_eq_true_iff.1 hg13).1
    have hg13r := (Bool.and_eq_true_iff.1 hg13).2
    have hg13ll := (Bool.and_eq_true_iff.1 hg13l).1
    have hg13lr := (Bool.and_eq_true_iff.1 hg13l).2
    have hg13lrn := not_eq_true hg13lr
    have hg13r' := eq_of_beq hg13r
    refine T.pure 33 (.agg (Nm.zero).cs) (by kernel_rfl) (fun w => by kernel_rfl) ?_
    refine T.pure 34 (.slice (some ⟨b1, 0, none⟩) (2) 2) (by kernel_rfl) (fun w => by kernel_rfl) ?_
    refine T.pure 35 (.agg ((⟨0, Nm.zero⟩ : Ch)).cs) (by kernel_rfl) (fun w => by kernel_rfl) ?_
    refine T.lit 36 45 73 1 #[(0, .agg ((⟨0, Nm.zero⟩ : Ch)).cs)] (cells ([(⟨0, Nm.zero⟩ : Ch)] : List Ch)).toArray (by kernel_rfl) (by kernel_rfl) (by kernel_rfl) (by kernel_rfl) (fun _ _ _ => trivial) (fun b14 => ?_)
    refine T.callP 37 28 #[.int .i64 (1), .agg (Nm.zero).cs, .slice (some ⟨b1, 0, none⟩) (2) 2, .slice (some ⟨b14, 0, none⟩) (1) 1] (.bool (crtB 1 Nm.zero ([(⟨3, 0, 1, 0, 0, 0, Nm.zero, Nm.zero⟩ : Vt), (⟨4, 0, 1, 0, 0, 1, Nm.zero, Nm.zero⟩ : Vt)]) ([(⟨0, Nm.zero⟩ : Ch)]))) (by kernel_rfl) (by kernel_rfl) ent28 (fun w hw => sbcert_c 1 Nm.zero ([(⟨3, 0, 1, 0, 0, 0, Nm.zero, Nm.zero⟩ : Vt), (⟨4, 0, 1, 0, 0, 1, Nm.zero, Nm.zero⟩ : Vt)]) ([(⟨0, Nm.zero⟩ : Ch)]) (some ⟨b1, 0, none⟩) 2 (some ⟨b14, 0, none⟩) 1 w (by first | assumption | exact w64_and _ _ | exact w64_or _ _ | exact w64_andNot _ _ | (unfold W64; omega)) ((show ∀ u ∈ [(⟨3, 0, 1, 0, 0, 0, Nm.zero, Nm.zero⟩ : Vt), (⟨4, 0, 1, 0, 0, 1, Nm.zero, Nm.zero⟩ : Vt)], W64 u.support from by intro u hu; simp only [List.mem_cons, List.not_mem_nil, or_false] at hu; rcases hu with rfl | rfl <;> (unfold W64; decide))) (by first | omega | (simp; done) | (simp; omega)) (Arr.rd (Arr.lit (.tail _ (List.mem_append_right _ (List.mem_append_right _ (.head _))))) hw) (Arr.rd (Arr.lit (.head _)) hw)) (fun _ _ => trivial) ?_
    exact T.blkEnd (by kernel_rfl) (fun w h => (h.perm ((((List.Perm.refl _).cons _).trans List.perm_middle.symm).trans (((((List.Perm.refl _).cons _).trans List.perm_middle.symm).trans ((((List.Perm.refl _).cons _).trans (List.Perm.swap _ _ _)).append_left Hr4)).append_left Hr9))).part (List.Sublist.append (List.Sublist.refl _) (List.Sublist.append (List.Sublist.refl _) ((List.nil_sublist _).cons_cons _))))
  refine T.and 38 (((decF 1 Nm.zero ([(⟨3, 0, 1, 0, 0, 0, Nm.zero, Nm.zero⟩ : Vt), (⟨4, 0, 1, 0, 0, 1, Nm.zero, Nm.zero⟩ : Vt)])) && (!(decF 1 Nm.zero (([(⟨3, 0, 1, 0, 0, 0, Nm.zero, Nm.zero⟩ : Vt), (⟨4, 0, 1, 0, 0, 1, Nm.zero, Nm.zero⟩ : Vt)]).take 1)))) && ((((decV 1 Nm.zero ([(⟨3, 0, 1, 0, 0, 0, Nm.zero, Nm.zero⟩ : Vt), (⟨4, 0, 1, 0, 0, 1, Nm.zero, Nm.zero⟩ : Vt)])).length : Nat) : Int) == 1)) (crtB 1 Nm.zero ([(⟨3, 0, 1, 0, 0, 0, Nm.zero, Nm.zero⟩ : Vt), (⟨4, 0, 1, 0, 0, 1, Nm.zero, Nm.zero⟩ : Vt)]) ([(⟨0, Nm.zero⟩ : Ch)])) (by kernel_rfl) (by kernel_rfl) ?_
  refine T.pure 0 (.bool ((((decF 1 Nm.zero ([(⟨3, 0, 1, 0, 0, 0, Nm.zero, Nm.zero⟩ : Vt), (⟨4, 0, 1, 0, 0, 1, Nm.zero, Nm.zero⟩ : Vt)])) && (!(decF 1 Nm.zero (([(⟨3, 0, 1, 0, 0, 0, Nm.zero, Nm.zero⟩ : Vt), (⟨4, 0, 1, 0, 0, 1, Nm.zero, Nm.zero⟩ : Vt)]).take 1)))) && ((((decV 1 Nm.zero ([(⟨3, 0, 1, 0, 0, 0, Nm.zero, Nm.zero⟩ : Vt), (⟨4, 0, 1, 0, 0, 1, Nm.zero, Nm.zero⟩ : Vt)])).length : Nat) : Int) == 1)) && (crtB 1 Nm.zero ([(⟨3, 0, 1, 0, 0, 0, Nm.zero, Nm.zero⟩ : Vt), (⟨4, 0, 1, 0, 0, 1, Nm.zero, Nm.zero⟩ : Vt)]) ([(⟨0, Nm.zero⟩ : Ch)])))) (by kernel_rfl) (fun w => by kernel_rfl) ?_
  refine T.nil ?_
  refine QN.seq ?_
  refine W.ret ?_
  refine QN.done (.inl rfl) 0 (.bool ((((decF 1 Nm.zero ([(⟨3, 0, 1, 0, 0, 0, Nm.zero, Nm.zero⟩ : Vt), (⟨4, 0, 1, 0, 0, 1, Nm.zero, Nm.zero⟩ : Vt)])) && (!(decF 1 Nm.zero (([(⟨3, 0, 1, 0, 0, 0, Nm.zero, Nm.zero⟩ : Vt), (⟨4, 0, 1, 0, 0, 1, Nm.zero, Nm.zero⟩ : Vt)]).take 1)))) && ((((decV 1 Nm.zero ([(⟨3, 0, 1, 0, 0, 0, Nm.zero, Nm.zero⟩ : Vt), (⟨4, 0, 1, 0, 0, 1, Nm.zero, Nm.zero⟩ : Vt)])).length : Nat) : Int) == 1)) && (crtB 1 Nm.zero ([(⟨3, 0, 1, 0, 0, 0, Nm.zero, Nm.zero⟩ : Vt), (⟨4, 0, 1, 0, 0, 1, Nm.zero, Nm.zero⟩ : Vt)]) ([(⟨0, Nm.zero⟩ : Ch)])))) rfl (by kernel_rfl) (fun w hw => ⟨?_, hw.below⟩)
  exact ret_bool (by decide +kernel)
set_option maxRecDepth 100000 in
set_option maxHeartbeats 2000000 in
theorem SuperblockGrows_c (m : Int) (p : Nm) (a b : List Vt) (cs : List Ch) (Acs : Option Addr) (ccs : Nat) (A B : Option Addr) (c d : Nat) (w : World) (hm : W64 m) (hok : ∀ u ∈ a, u.Ok) (hok2 : ∀ u ∈ b, u.Ok) (h1 : a.length ≤ c) (h2 : c ≤ maxLen) (hr : Rd w A a) (h3 : b.length ≤ d) (h4 : d ≤ maxLen) (hrb : Rd w B b) (hrc : Rd w Acs cs) : Calls Try.prog 8 #[.int .i64 (m), .agg (p).cs, .slice A (a.length) c, .slice B (b.length) d, .slice Acs (cs.length) ccs] w (fun rr w' => rr = .returned (.bool (true)) ∧ Below w.heap.size w w') := by
  have ht : (a.take 250).length ≤ 250 := List.length_take_le _ _
  have hz := size_le m
  have hq := quorum_bd _ hz
  have hdl := decV_len m p (a.take 250)
  have ht2 : (b.take 250).length ≤ 250 := List.length_take_le _ _
  have hdl2 := decV_len m p (b.take 250)
  refine calls_W (n := 56) Try.func8 rfl [(0, .int .i64 (m)), (1, .agg (p).cs), (2, .slice A (a.length) c), (3, .slice B (b.length) d), (4, .slice Acs (cs.length) ccs)] rfl ⟨by kernel_rfl, by kernel_rfl⟩ ?_
  refine W.weak (Ψ := St w []) (fun w' h => by rw [h]; exact St.start w) ?_
  refine W.seq ?_
  refine W.region [(0, false), (1, false)] (by kernel_rfl) ?_
  refine T.box 6 24 (.agg (p).cs) ((p).cs) (by kernel_rfl) (by kernel_rfl) (by kernel_rfl) (fun _ _ _ => trivial) (fun b1 => ?_)
  refine T.pure 10 (.bool (false)) (by kernel_rfl) (fun w => by kernel_rfl) ?_
  refine T.nil ?_
  refine QN.seq ?_
  refine W.seq ?_
  refine W.region [(0, false), (1, false), (2, false), (3, false), (4, false), (5, false)] (by kernel_rfl) ?_
  refine T.pure 14 (.slice A (a.length) c) (by kernel_rfl) (fun w => by kernel_rfl) ?_
  refine T.callP 15 26 #[.slice A (a.length) c] (.slice A ((a.take 250).length) c) (by kernel_rfl) (by kernel_rfl) ent26 (fun w hw => cut17_c a A c w h1 h2 (Arr.rd (Rd.arr hr _) hw)) (fun _ _ => trivial) ?_
  refine T.pure 16 (.slice B (b.length) d) (by kernel_rfl) (fun w => by kernel_rfl) ?_
  refine T.callP 17 26 #[.slice B (b.length) d] (.slice B ((b.take 250).length) d) (by kernel_rfl) (by kernel_rfl) ent26 (fun w hw => cut17_c b B d w h3 h4 (Arr.rd (Rd.arr hrb _) hw)) (fun _ _ => trivial) ?_
  refine T.pure 2 (.slice A ((a.take 250).length) c) (by kernel_rfl) (fun w => by kernel_rfl) ?_
  refine T.pure 3 (.slice B ((b.take 250).length) d) (by kernel_rfl) (fun w => by kernel_rfl) ?_
  refine T.nil ?_
  refine QN.seq ?_
  refine W.seq ?_
  refine W.region [(0, false), (1, false), (2, false), (3, false), (4, false), (5, false)] (by kernel_rfl) ?_
  refine T.lit0 18 25 43 (by kernel_rfl) (by kernel_rfl) (by kernel_rfl) (by kernel_rfl) (fun _ _ _ => trivial) (fun b2 => ?_)
  refine T.pure 19 (.slice B ((b.take 250).length) d) (by kernel_rfl) (fun w => by kernel_rfl) ?_
  refine T.appD 20 25 43 64 (some ⟨b2, 0, none⟩) 0 ([] : List Vt) [(b2, Obj.cells #[] 43 (0, 0))] B d (b.take 250 : List Vt) (List.Perm.refl _) (by kernel_rfl) (by kernel_rfl) (by kernel_rfl) (by kernel_rfl) (RowIs.row b2 0 0 #[] [] (Nat.le_refl _) (Nat.zero_le _) rfl rfl rfl) ((Rd.arr hrb _).take _) (by unfold maxLen; first | omega | (simp; omega)) (by first | omega | (simp; omega)) (fun _ _ _ => trivial) (fun A3 c4 Hr5 hrow6 => ?_)
  refine T.pure 21 (.slice A ((a.take 250).length) c) (by kernel_rfl) (fun w => by kernel_rfl) ?_
  refine T.appD 22 25 43 64 A3 c4 (([] : List Vt) ++ (b.take 250) : List Vt) Hr5 A c (a.take 250 : List Vt) (List.Perm.refl _) (by kernel_rfl) (by kernel_rfl) (by kernel_rfl) (by kernel_rfl) hrow6 ((Rd.arr hr _).take _) (by unfold maxLen; first | omega | (simp; omega)) (by first | omega | (simp; omega)) (fun _ _ _ => trivial) (fun A7 c8 Hr9 hrow10 => ?_)
  refine T.pure 11 (.slice A7 (((([] : List Vt) ++ (b.take 250)) ++ (a.take 250)).length) c8) (by kernel_rfl) (fun w => by kernel_rfl) ?_
  refine T.nil ?_
  refine QN.seq ?_
  refine W.seq ?_
  refine W.seq ?_
  refine W.region [(0, false), (1, false), (2, false), (3, false), (4, false), (5, false), (6, false), (7, false), (8, false)] (by kernel_rfl) ?_
  refine T.pure 24 (.int .i64 (m)) (by kernel_rfl) (fun w => by kernel_rfl) ?_
  refine T.loadR false 25 (p).cs 24 b1 0 (by kernel_rfl) (by kernel_rfl) (by kernel_rfl) (by kernel_rfl) (fun w h => St.rangeM h (p).cs (List.mem_append_right _ (.head _)) (by kernel_rfl)) ?_
  refine T.pure 26 (.slice A ((a.take 250).length) c) (by kernel_rfl) (fun w => by kernel_rfl) ?_
  refine T.callG (β := Option Addr × Nat × List (Nat × Obj)) 27 27 #[.int .i64 (m), .agg (p).cs, .slice A ((a.take 250).length) c] (fun gs => .tuple #[.slice gs.1 ((decV m p (a.take 250)).length) gs.2.1, .bool (decF m p (a.take 250))]) (fun gs => St w (gs.2.2 ++ (Hr9 ++ [(b1, Obj.cells (p).cs 24 (0, 0))]))) (fun gs => RowIs 39 11 gs.1 (decV m p (a.take 250)).length gs.2.1 (cells (decV m p (a.take 250))) gs.2.2) (by kernel_rfl) (by kernel_rfl) ent27 ?_ (fun _ _ _ => trivial) ?_
  · exact fun w hw => (decide_c m p (a.take 250) A c w (by first | assumption | exact w64_and _ _ | exact w64_or _ _ | exact w64_andNot _ _ | (unfold W64; omega)) (fun u hu => (hok u (List.mem_of_mem_take hu)).support) (by first | omega | (simp only [chV_len]; omega) | (simp only [List.length_append, List.length_nil]; omega)) (Arr.rd ((Rd.arr hr _).take _) hw)).mono fun r w' ⟨A, c, Hr, h1, h2, h3⟩ => ⟨(A, c, Hr), h2, h1, hw.join h3⟩
  rintro ⟨A11, c12, Hr13⟩ hp_
  have hp14 : RowIs 39 11 A11 (decV m p (a.take 250)).length c12 (cells (decV m p (a.take 250))) Hr13 := hp_
  refine T.pure 23 (.tuple #[.slice A11 ((decV m p (a.take 250)).length) c12, .bool (decF m p (a.take 250))]) (by kernel_rfl) (fun w => by kernel_rfl) ?_
  refine T.pure 28 (.slice A11 ((decV m p (a.take 250)).length) c12) (by kernel_rfl) (fun w => by kernel_rfl) ?_
  refine T.pure 29 (.bool (decF m p (a.take 250))) (by kernel_rfl) (fun w => by kernel_rfl) ?_
  refine T.pure 12 (.slice A11 ((decV m p (a.take 250)).length) c12) (by kernel_rfl) (fun w => by kernel_rfl) ?_
  refine T.pure 13 (.bool (decF m p (a.take 250))) (by kernel_rfl) (fun w => by kernel_rfl) ?_
  refine T.nil ?_
  refine QN.seq ?_
  refine W.seq ?_
  refine W.drawn (Ψ := St w (Hr13 ++ (Hr9 ++ [(b1, Obj.cells (p).cs 24 (0, 0))]))) (St w (Hr13 ++ (Hr9 ++ [(b1, Obj.cells (p).cs 24 (0, 0))]))) [(0, true), (1, true), (2, true), (3, true), (4, true), (5, true), (6, false), (7, false), (8, true), (9, true)] hmx (by kernel_rfl) (NoPanic.then (NoPanic.then (NoPanic.body))) (fun w h => h.drew) (fun w h => h) ?_
  refine T.pure 30 (.bool (decF m p (a.take 250))) (by kernel_rfl) (fun w => by kernel_rfl) ?_
  refine T.pure 31 (.bool (decF m p (a.take 250))) (by kernel_rfl) (fun w => by kernel_rfl) ?_
  refine T.blk [(2, true), (3, true), (4, true), (5, true), (6, false), (7, false), (8, true)] [(9, true)] 1 true (decF m p (a.take 250)) 31 38 (.bool (!(crtB m p ((([] : List Vt) ++ (b.take 250)) ++ (a.take 250)) (chV (decV m p (a.take 250)))))) (by kernel_rfl) (by kernel_rfl) (by kernel_rfl) (fun hg15 => ?_) ?_
  · have hg15_ := hg15
    refine T.pure 32 (.int .i64 (m)) (by kernel_rfl) (fun w => by kernel_rfl) ?_
    refine T.loadR true 33 (p).cs 24 b1 0 (by kernel_rfl) (by kernel_rfl) (by kernel_rfl) (by kernel_rfl) (fun w h => St.rangeM h (p).cs (List.mem_append_right _ (List.mem_append_right _ (.head _))) (by kernel_rfl)) ?_
    refine T.pure 34 (.slice A7 (((([] : List Vt) ++ (b.take 250)) ++ (a.take 250)).length) c8) (by kernel_rfl) (fun w => by kernel_rfl) ?_
    refine T.pure 35 (.slice A11 ((decV m p (a.take 250)).length) c12) (by kernel_rfl) (fun w => by kernel_rfl) ?_
    refine T.callR 36 29 #[.slice A11 ((decV m p (a.take 250)).length) c12] 73 9 (chV (decV m p (a.take 250))).length (cells (chV (decV m p (a.take 250)))) (by kernel_rfl) (by kernel_rfl) ent29 (fun w hw => choices_c (decV m p (a.take 250)) A11 c12 w (by first | omega | (simp only [chV_len]; omega) | (simp only [List.length_append, List.length_nil]; omega)) (Arr.rd (Arr.row hp14 (rfl) (rfl) _) hw)) (fun Hr18 => (fun w h => (h.perm ((((List.Perm.refl _).append_left Hr18).trans (List.perm_append_comm_assoc _ _ _)).trans (((((List.Perm.refl _).append_left Hr18).trans (List.perm_append_comm_assoc _ _ _)).trans ((((List.Perm.refl _).append_left Hr18).trans List.perm_middle).append_left Hr9)).append_left Hr13))).part (List.Sublist.append (List.Sublist.refl _) (List.Sublist.append (List.Sublist.refl _) ((List.nil_sublist _).cons_cons _))))) (fun A16 c17 Hr18 hrow19 => ?_)
    refine T.callP 37 28 #[.int .i64 (m), .agg (p).cs, .slice A7 (((([] : List Vt) ++ (b.take 250)) ++ (a.take 250)).length) c8, .slice A16 ((chV (decV m p (a.take 250))).length) c17] (.bool (crtB m p ((([] : List Vt) ++ (b.take 250)) ++ (a.take 250)) (chV (decV m p (a.take 250))))) (by kernel_rfl) (by kernel_rfl) ent28 (fun w hw => sbcert_c m p ((([] : List Vt) ++ (b.take 250)) ++ (a.take 250)) (chV (decV m p (a.take 250))) A7 c8 A16 c17 w (by first | assumption | exact w64_and _ _ | exact w64_or _ _ | exact w64_andNot _ _ | (unfold W64; omega)) (fun u hu => by simp only [List.mem_append, List.not_mem_nil, false_or] at hu; rcases hu with hu | hu <;> first | exact (hok u (List.mem_of_mem_take hu)).support | exact (hok2 u (List.mem_of_mem_take hu)).support) (by first | omega | (simp only [chV_len]; omega) | (simp only [List.length_append, List.length_nil]; omega)) (Arr.rd ((show Arr (St _ (Hr18 ++ (Hr13 ++ (Hr9 ++ [(b1, Obj.cells (p).cs 24 (0, 0))])))) A7 ((([] : List Vt) ++ (b.take 250)) ++ (a.take 250)) from (Arr.row hrow10 (rfl) (rfl) (Hr18 ++ (Hr13 ++ [(b1, Obj.cells (p).cs 24 (0, 0))]))).weak (fun w h => h.perm (((((List.Perm.refl _).append_left Hr13).trans (List.perm_append_comm_assoc _ _ _)).append_left Hr18).trans (List.perm_append_comm_assoc _ _ _))))) hw) (Arr.rd (Arr.row hrow19 (rfl) (rfl) _) hw)) (fun w h => (h.perm ((((List.Perm.refl _).append_left Hr18).trans (List.perm_append_comm_assoc _ _ _)).trans (((((List.Perm.refl _).append_left Hr18).trans (List.perm_append_comm_assoc _ _ _)).trans ((((List.Perm.refl _).append_left Hr18).trans List.perm_middle).append_left Hr9)).append_left Hr13))).part (List.Sublist.append (List.Sublist.refl _) (List.Sublist.append (List.Sublist.refl _) ((List.nil_sublist _).cons_cons _)))) ?_
    refine T.pure 38 (.bool (!(crtB m p ((([] : List Vt) ++ (b.take 250)) ++ (a.take 250)) (chV (decV m p (a.take 250)))))) (by kernel_rfl) (fun w => by kernel_rfl) ?_
    exact T.blkEnd (by kernel_rfl) (fun w h => (h.perm ((((List.Perm.refl _).append_left Hr18).trans (List.perm_append_comm_assoc _ _ _)).trans (((((List.Perm.refl _).append_left Hr18).trans (List.perm_append_comm_assoc _ _ _)).trans ((((List.Perm.refl _).append_left Hr18).trans List.perm_middle).append_left Hr9)).append_left Hr13))).part (List.Sublist.append (List.Sublist.refl _) (List.Sublist.append (List.Sublist.refl _) ((List.nil_sublist _).cons_cons _))))
  refine T.and 39 (decF m p (a.take 250)) (!(crtB m p ((([] : List Vt) ++ (b.take 250)) ++ (a.take 250)) (chV (decV m p (a.take 250))))) (by kernel_rfl) (by kernel_rfl) ?_
  refine T.nil ?_
  refine QN.seq ?_
  refine W.cond ((decF m p (a.take 250)) && (!(crtB m p ((([] : List Vt) ++ (b.take 250)) ++ (a.take 250)) (chV (decV m p (a.take 250)))))) (by kernel_rfl) (fun h20 => ?_) (fun h20 => ?_)
  · skip
    have h20l := (Bool.and_eq_true_iff.1 h20).1
    have h20r := (Bool.and_eq_true_iff.1 h20).2
    have h20rn := not_eq_true h20r
    refine W.seq ?_
    refine W.region [(0, false)] (by kernel_rfl) ?_
    refine T.pure 10 (.bool (false)) (by kernel_rfl) (fun w => by kernel_rfl) ?_
    refine T.nil ?_
    refine QN.seq ?_
    refine W.ret ?_
    refine QN.thenRet ?_
    refine QN.done (.inl rfl) 10 (.bool (false)) rfl (by kernel_rfl) (fun w hw => ⟨?_, hw.below⟩)
    exact (sgrow1 (l := a.take 250) (by intro u hu; simp [hu]) h20).elim
  · skip
    refine W.skip ?_
    refine QN.seq ?_
    refine W.seq ?_
    refine W.region [(0, false), (1, false), (2, false), (3, false), (4, false), (5, false), (6, false), (7, false), (8, false), (9, false), (10, false), (11, false), (12, false), (13, false), (14, false), (15, false), (16, false)] (by kernel_rfl) ?_
    refine T.pure 40 (.int .i64 (m)) (by kernel_rfl) (fun w => by kernel_rfl) ?_
    refine T.loadR false 41 (p).cs 24 b1 0 (by kernel_rfl) (by kernel_rfl) (by kernel_rfl) (by kernel_rfl) (fun w h => St.rangeM h (p).cs (List.mem_append_right _ (List.mem_append_right _ (.head _))) (by kernel_rfl)) ?_
    refine T.pure 42 (.slice A ((a.take 250).length) c) (by kernel_rfl) (fun w => by kernel_rfl) ?_
    refine T.pure 43 (.slice Acs (cs.length) ccs) (by kernel_rfl) (fun w => by kernel_rfl) ?_
    refine T.callP 44 28 #[.int .i64 (m), .agg (p).cs, .slice A ((a.take 250).length) c, .slice Acs (cs.length) ccs] (.bool (crtB m p (a.take 250) cs)) (by kernel_rfl) (by kernel_rfl) ent28 (fun w hw => sbcert_c m p (a.take 250) cs A c Acs ccs w (by first | assumption | exact w64_and _ _ | exact w64_or _ _ | exact w64_andNot _ _ | (unfold W64; omega)) (fun u hu => (hok u (List.mem_of_mem_take hu)).support) (by first | omega | (simp only [chV_len]; omega) | (simp only [List.length_append, List.length_nil]; omega)) (Arr.rd ((Rd.arr hr _).take _) hw) (Arr.rd (Rd.arr hrc _) hw)) (fun _ _ => trivial) ?_
    refine T.pure 45 (.bool (!(crtB m p (a.take 250) cs))) (by kernel_rfl) (fun w => by kernel_rfl) ?_
    refine T.pure 46 (.bool (!(crtB m p (a.take 250) cs))) (by kernel_rfl) (fun w => by kernel_rfl) ?_
    refine T.blk [(7, false), (8, false), (9, false), (10, false), (11, false)] [(12, false), (13, false), (14, false), (15, false), (16, false)] 6 false (!(crtB m p (a.take 250) cs)) 46 51 (.bool (crtB m p ((([] : List Vt) ++ (b.take 250)) ++ (a.take 250)) cs)) (by kernel_rfl) (by kernel_rfl) (by kernel_rfl) (fun hg21 => ?_) ?_
    · have hg21_ := hg21
      have hg21n := not_eq_false hg21
      refine T.pure 47 (.int .i64 (m)) (by kernel_rfl) (fun w => by kernel_rfl) ?_
      refine T.loadR false 48 (p).cs 24 b1 0 (by kernel_rfl) (by kernel_rfl) (by kernel_rfl) (by kernel_rfl) (fun w h => St.rangeM h (p).cs (List.mem_append_right _ (List.mem_append_right _ (.head _))) (by kernel_rfl)) ?_
      refine T.pure 49 (.slice A7 (((([] : List Vt) ++ (b.take 250)) ++ (a.take 250)).length) c8) (by kernel_rfl) (fun w => by kernel_rfl) ?_
      refine T.pure 50 (.slice Acs (cs.length) ccs) (by kernel_rfl) (fun w => by kernel_rfl) ?_
      refine T.callP 51 28 #[.int .i64 (m), .agg (p).cs, .slice A7 (((([] : List Vt) ++ (b.take 250)) ++ (a.take 250)).length) c8, .slice Acs (cs.length) ccs] (.bool (crtB m p ((([] : List Vt) ++ (b.take 250)) ++ (a.take 250)) cs)) (by kernel_rfl) (by kernel_rfl) ent28 (fun w hw => sbcert_c m p ((([] : List Vt) ++ (b.take 250)) ++ (a.take 250)) cs A7 c8 Acs ccs w (by first | assumption | exact w64_and _ _ | exact w64_or _ _ | exact w64_andNot _ _ | (unfold W64; omega)) (fun u hu => by simp only [List.mem_append, List.not_mem_nil, false_or] at hu; rcases hu with hu | hu <;> first | exact (hok u (List.mem_of_mem_take hu)).support | exact (hok2 u (List.mem_of_mem_take hu)).support) (by first | omega | (simp only [chV_len]; omega) | (simp only [List.length_append, List.length_nil]; omega)) (Arr.rd ((show Arr (St _ (Hr13 ++ (Hr9 ++ [(b1, Obj.cells (p).cs 24 (0, 0))]))) A7 ((([] : List Vt) ++ (b.take 250)) ++ (a.take 250)) from (Arr.row hrow10 (rfl) (rfl) (Hr13 ++ [(b1, Obj.cells (p).cs 24 (0, 0))])).weak (fun w h => h.perm (((List.Perm.refl _).append_left Hr13).trans (List.perm_append_comm_assoc _ _ _))))) hw) (Arr.rd (Rd.arr hrc _) hw)) (fun _ _ => trivial) ?_
      exact T.blkEnd (by kernel_rfl) (fun w h => h)
    refine T.or 52 (!(crtB m p (a.take 250) cs)) (crtB m p ((([] : List Vt) ++ (b.take 250)) ++ (a.take 250)) cs) (by kernel_rfl) (by kernel_rfl) ?_
    refine T.pure 53 (.bool ((!(crtB m p (a.take 250) cs)) || (crtB m p ((([] : List Vt) ++ (b.take 250)) ++ (a.take 250)) cs))) (by kernel_rfl) (fun w => by kernel_rfl) ?_
    refine T.blk [(14, false)] [(15, false), (16, false)] 13 true ((!(crtB m p (a.take 250) cs)) || (crtB m p ((([] : List Vt) ++ (b.take 250)) ++ (a.take 250)) cs)) 53 54 (.bool (true)) (by kernel_rfl) (by kernel_rfl) (by kernel_rfl) (fun hg22 => ?_) ?_
    · have hg22_ := hg22
      refine T.callP 54 30 #[] (.bool (true)) (by kernel_rfl) (by kernel_rfl) ent30 (fun w hw => awake17_c w) (fun _ _ => trivial) ?_
      exact T.blkEnd (by kernel_rfl) (fun w h => h)
    refine T.and 55 ((!(crtB m p (a.take 250) cs)) || (crtB m p ((([] : List Vt) ++ (b.take 250)) ++ (a.take 250)) cs)) (true) (by kernel_rfl) (by kernel_rfl) ?_
    refine T.pure 10 (.bool (((!(crtB m p (a.take 250) cs)) || (crtB m p ((([] : List Vt) ++ (b.take 250)) ++ (a.take 250)) cs)) && true)) (by kernel_rfl) (fun w => by kernel_rfl) ?_
    refine T.nil ?_
    refine QN.seq ?_
    refine W.ret ?_
    refine QN.done (.inl rfl) 10 (.bool (((!(crtB m p (a.take 250) cs)) || (crtB m p ((([] : List Vt) ++ (b.take 250)) ++ (a.take 250)) cs)) && true)) rfl (by kernel_rfl) (fun w hw => ⟨?_, hw.below⟩)
    exact ret_bool (sgrow2 (l := a.take 250) (by intro u hu; simp [hu]))
theorem SuperblockGrows_w (w : World) (a0 : Int) (v1 : Value) (x1 : Nm) (v2 : Value) (x2 : List Vt) (v3 : Value) (x3 : List Vt) (v4 : Value) (x4 : List Ch) (h0 : W64 a0) (h1 : v1 = .agg x1.cs) (h2 : VS w v2 x2) (h3 : VS w v3 x3) (h4 : GS (fun _ => True) w v4 x4) : Calls Try.prog 8 #[.int .i64 a0, v1, v2, v3, v4] w fun e w' => e = .returned (.bool true) ∧ Below w.heap.size w w' := by
  obtain rfl := h1
  obtain ⟨A2, c2, rfl, l2, m2, r2, k2⟩ := h2
  obtain ⟨A3, c3, rfl, l3, m3, r3, k3⟩ := h3
  obtain ⟨A4, c4, rfl, l4, m4, r4, k4⟩ := h4
  exact SuperblockGrows_c _ _ _ _ _ _ _ _ _ _ _ w h0 k2 k3 l2 m2 r2.rd l3 m3 r3.rd r4
set_option maxRecDepth 100000 in
set_option maxHeartbeats 2000000 in
theorem SuperblockDecides_c (m : Int) (p : Nm) (a : List Vt) (A : Option Addr) (c : Nat) (w : World) (hm : W64 m) (hok : ∀ u ∈ a, u.Ok) (h1 : a.length ≤ c) (h2 : c ≤ maxLen) (hr : Rd w A a) : Calls Try.prog 9 #[.int .i64 (m), .agg (p).cs, .slice A (a.length) c] w (fun rr w' => rr = .returned (.bool (true)) ∧ Below w.heap.size w w') := by
  have ht : (a.take 250).length ≤ 250 := List.length_take_le _ _
  have hz := size_le m
  have hq := quorum_bd _ hz
  have hdl := decV_len m p (a.take 250)
  refine calls_W (n := 102) Try.func9 rfl [(0, .int .i64 (m)), (1, .agg (p).cs), (2, .slice A (a.length) c)] rfl ⟨by kernel_rfl, by kernel_rfl⟩ ?_
  refine W.weak (Ψ := St w []) (fun w' h => by rw [h]; exact St.start w) ?_
  refine W.seq ?_
  refine W.region [(0, false), (1, false)] (by kernel_rfl) ?_
  refine T.box 4 24 (.agg (p).cs) ((p).cs) (by kernel_rfl) (by kernel_rfl) (by kernel_rfl) (fun _ _ _ => trivial) (fun b1 => ?_)
  refine T.pure 6 (.bool (false)) (by kernel_rfl) (fun w => by kernel_rfl) ?_
  refine T.nil ?_
  refine QN.seq ?_
  refine W.seq ?_
  refine W.region [(0, false), (1, false), (2, false)] (by kernel_rfl) ?_
  refine T.pure 13 (.slice A (a.length) c) (by kernel_rfl) (fun w => by kernel_rfl) ?_
  refine T.callP 14 26 #[.slice A (a.length) c] (.slice A ((a.take 250).length) c) (by kernel_rfl) (by kernel_rfl) ent26 (fun w hw => cut17_c a A c w h1 h2 (Arr.rd (Rd.arr hr _) hw)) (fun _ _ => trivial) ?_
  refine T.pure 2 (.slice A ((a.take 250).length) c) (by kernel_rfl) (fun w => by kernel_rfl) ?_
  refine T.nil ?_
  refine QN.seq ?_
  refine W.seq ?_
  refine W.region [(0, false), (1, false), (2, false), (3, false), (4, false), (5, false), (6, false), (7, false), (8, false)] (by kernel_rfl) ?_
  refine T.pure 16 (.int .i64 (m)) (by kernel_rfl) (fun w => by kernel_rfl) ?_
  refine T.loadR false 17 (p).cs 24 b1 0 (by kernel_rfl) (by kernel_rfl) (by kernel_rfl) (by kernel_rfl) (fun w h => St.rangeM h (p).cs (.head _) (by kernel_rfl)) ?_
  refine T.pure 18 (.slice A ((a.take 250).length) c) (by kernel_rfl) (fun w => by kernel_rfl) ?_
  refine T.callG (β := Option Addr × Nat × List (Nat × Obj)) 19 27 #[.int .i64 (m), .agg (p).cs, .slice A ((a.take 250).length) c] (fun gs => .tuple #[.slice gs.1 ((decV m p (a.take 250)).length) gs.2.1, .bool (decF m p (a.take 250))]) (fun gs => St w (gs.2.2 ++ [(b1, Obj.cells (p).cs 24 (0, 0))])) (fun gs => RowIs 39 11 gs.1 (decV m p (a.take 250)).length gs.2.1 (cells (decV m p (a.take 250))) gs.2.2) (by kernel_rfl) (by kernel_rfl) ent27 ?_ (fun _ _ _ => trivial) ?_
  · exact fun w hw => (decide_c m p (a.take 250) A c w (by first | assumption | exact w64_and _ _ | exact w64_or _ _ | exact w64_andNot _ _ | (unfold W64; omega)) (fun u hu => (hok u (List.mem_of_mem_take hu)).support) (by first | omega | (simp only [chV_len]; omega) | (simp only [List.length_append, List.length_nil]; omega)) (Arr.rd ((Rd.arr hr _).take _) hw)).mono fun r w' ⟨A, c, Hr, h1, h2, h3⟩ => ⟨(A, c, Hr), h2, h1, hw.join h3⟩
  rintro ⟨A2, c3, Hr4⟩ hp_
  have hp5 : RowIs 39 11 A2 (decV m p (a.take 250)).length c3 (cells (decV m p (a.take 250))) Hr4 := hp_
  refine T.pure 15 (.tuple #[.slice A2 ((decV m p (a.take 250)).length) c3, .bool (decF m p (a.take 250))]) (by kernel_rfl) (fun w => by kernel_rfl) ?_
  refine T.pure 20 (.slice A2 ((decV m p (a.take 250)).length) c3) (by kernel_rfl) (fun w => by kernel_rfl) ?_
  refine T.pure 21 (.bool (decF m p (a.take 250))) (by kernel_rfl) (fun w => by kernel_rfl) ?_
  refine T.pure 7 (.slice A2 ((decV m p (a.take 250)).length) c3) (by kernel_rfl) (fun w => by kernel_rfl) ?_
  refine T.pure 8 (.bool (decF m p (a.take 250))) (by kernel_rfl) (fun w => by kernel_rfl) ?_
  refine T.nil ?_
  refine QN.seq ?_
  refine W.seq ?_
  refine W.region [(0, false), (1, false), (2, false)] (by kernel_rfl) ?_
  refine T.pure 22 (.int .i64 (m)) (by kernel_rfl) (fun w => by kernel_rfl) ?_
  refine T.callR 23 31 #[.int .i64 (m)] 3 1 (idsI m).length (cells (idsI m)) (by kernel_rfl) (by kernel_rfl) ent31 (fun w hw => ids_r _ (by first | assumption | exact w64_and _ _ | exact w64_or _ _ | exact w64_andNot _ _ | (unfold W64; omega)) w) (fun _ _ _ => trivial) (fun A6 c7 Hr8 hrow9 => ?_)
  refine T.pure 9 (.slice A6 ((idsI m).length) c7) (by kernel_rfl) (fun w => by kernel_rfl) ?_
  refine T.nil ?_
  refine QN.seq ?_
  refine W.seq ?_
  refine W.region [(0, false), (1, false), (2, false), (3, false)] (by kernel_rfl) ?_
  refine T.pure 24 (.slice A6 ((idsI m).length) c7) (by kernel_rfl) (fun w => by kernel_rfl) ?_
  refine T.pure 25 (.int .i64 ((((idsI m).length : Nat) : Int))) (by kernel_rfl) (fun w => by kernel_rfl) ?_
  refine T.pure 26 (.bool (decide (0 < (((idsI m).length : Nat) : Int)))) (by kernel_rfl) (fun w => by kernel_rfl) ?_
  refine T.pure 10 (.bool (decide (0 < (((idsI m).length : Nat) : Int)))) (by kernel_rfl) (fun w => by kernel_rfl) ?_
  refine T.nil ?_
  refine QN.seq ?_
  refine W.seq ?_
  refine W.seq ?_
  refine W.region [(0, false)] (by kernel_rfl) ?_
  refine T.pure 11 (.int .i64 (0)) (by kernel_rfl) (fun w => by kernel_rfl) ?_
  refine T.nil ?_
  refine QN.seq ?_
  refine W.block ?_
  have hii := idsI_length m
  refine W.loop (σ := Nat × Bool) (fun gs => gs.1 ≤ (idsI m).length ∧ gs.2 = (decide (0 < ((((idsI m).length : Nat)) : Int)) && ((idsI m).take gs.1).all (poV m p (a.take 250)))) (fun gs => [(0, .int .i64 (m)), (2, .slice A ((a.take 250).length) c), (4, .pointer (some ⟨b1, 0, none⟩)), (6, .bool (false)), (7, .slice A2 ((decV m p (a.take 250)).length) c3), (8, .bool (decF m p (a.take 250))), (9, .slice A6 ((idsI m).length) c7), (10, .bool (gs.2)), (11, .int .i64 ((gs.1 : Int)))]) (fun gs => St w (Hr8 ++ (Hr4 ++ [(b1, Obj.cells (p).cs 24 (0, 0))]))) (fun gs => (idsI m).length - gs.1) (0, decide (0 < ((((idsI m).length : Nat)) : Int))) ?_ (by kernel_rfl) (fun w h => h) ?_
  · show 0 ≤ (idsI m).length ∧ (decide (0 < ((((idsI m).length : Nat)) : Int))) = (decide (0 < ((((idsI m).length : Nat)) : Int)) && ((idsI m).take 0).all (poV m p (a.take 250)))
    exact ⟨Nat.zero_le _, by simp⟩
  rintro ⟨j, wh⟩ hI_
  obtain ⟨hj, hwh⟩ : j ≤ (idsI m).length ∧ wh = (decide (0 < ((((idsI m).length : Nat)) : Int)) && ((idsI m).take j).all (poV m p (a.take 250))) := hI_
  show W _ _ [(0, .int .i64 (m)), (2, .slice A ((a.take 250).length) c), (4, .pointer (some ⟨b1, 0, none⟩)), (6, .bool (false)), (7, .slice A2 ((decV m p (a.take 250)).length) c3), (8, .bool (decF m p (a.take 250))), (9, .slice A6 ((idsI m).length) c7), (10, .bool (wh)), (11, .int .i64 ((j : Int)))] (St w (Hr8 ++ (Hr4 ++ [(b1, Obj.cells (p).cs 24 (0, 0))]))) _ _
  refine W.seq ?_
  refine W.seq ?_
  refine W.region [(0, false), (1, false), (2, false), (3, false)] (by kernel_rfl) ?_
  refine T.pure 27 (.int .i64 ((j : Int))) (by kernel_rfl) (fun w => by kernel_rfl) ?_
  refine T.pure 28 (.slice A6 ((idsI m).length) c7) (by kernel_rfl) (fun w => by kernel_rfl) ?_
  refine T.pure 29 (.int .i64 ((((idsI m).length : Nat) : Int))) (by kernel_rfl) (fun w => by kernel_rfl) ?_
  refine T.pure 30 (.bool (decide ((j : Int) < (((idsI m).length : Nat) : Int)))) (by kernel_rfl) (fun w => by kernel_rfl) ?_
  refine T.nil ?_
  refine QN.seq ?_
  refine W.cond (decide ((j : Int) < (((idsI m).length : Nat) : Int))) (by kernel_rfl) (fun h10 => ?_) (fun h10 => ?_)
  · skip
    have h10' := of_decide_eq_true h10
    have hl11 : j < (idsI m).length := by omega
    refine W.skip ?_
    refine QN.seq ?_
    refine W.seq ?_
    refine W.block ?_
    refine W.drawn (Ψ := St w (Hr8 ++ (Hr4 ++ [(b1, Obj.cells (p).cs 24 (0, 0))]))) (St w (Hr8 ++ (Hr4 ++ [(b1, Obj.cells (p).cs 24 (0, 0))]))) [(0, true), (1, true), (2, true), (3, true), (4, true), (5, true), (6, true), (7, true), (8, true), (9, false), (10, true), (11, true), (12, true), (13, false)] hmx (by kernel_rfl) (NoPanic.inBlock (NoPanic.then (NoPanic.then (NoPanic.inBlock (NoPanic.then (NoPanic.body)))))) (fun w h => h.drew) (fun w h => h) ?_
    refine T.pure 33 (.bool (wh)) (by kernel_rfl) (fun w => by kernel_rfl) ?_
    refine T.pure 34 (.bool (wh)) (by kernel_rfl) (fun w => by kernel_rfl) ?_
    refine T.blk [(2, true), (3, true), (4, true), (5, true), (6, true), (7, true), (8, true), (9, false), (10, true), (11, true)] [(12, true), (13, false)] 1 true (wh) 34 44 (.bool (decide (0 < (((outV m p (a.take 250) ((idsI m)[j]'hl11)).length : Nat) : Int)))) (by kernel_rfl) (by kernel_rfl) (by kernel_rfl) (fun hg12 => ?_) ?_
    · have hg12_ := hg12
      refine T.pure 35 (.int .i64 (m)) (by kernel_rfl) (fun w => by kernel_rfl) ?_
      refine T.loadR true 36 (p).cs 24 b1 0 (by kernel_rfl) (by kernel_rfl) (by kernel_rfl) (by kernel_rfl) (fun w h => St.rangeM h (p).cs (List.mem_append_right _ (List.mem_append_right _ (.head _))) (by kernel_rfl)) ?_
      refine T.pure 37 (.slice A ((a.take 250).length) c) (by kernel_rfl) (fun w => by kernel_rfl) ?_
      refine T.pure 38 (.slice A6 ((idsI m).length) c7) (by kernel_rfl) (fun w => by kernel_rfl) ?_
      refine T.pure 39 (.int .i64 ((j : Int))) (by kernel_rfl) (fun w => by kernel_rfl) ?_
      obtain ⟨b13, o14, hA15, hr16⟩ := (Arr.row hrow9 (rfl) (rfl) _) j hl11
      refine T.index 40 51 3 1 A6 ((idsI m).length) c7 ((j : Int)) (j) b13 o14 (by kernel_rfl) (by kernel_rfl) (by kernel_rfl) (by kernel_rfl) hA15 (rfl) (by omega) ?_
      refine T.load true 41 (.int .i64 (((idsI m)[j]'hl11))) 3 b13 (o14 + j * 1) (by kernel_rfl) (by kernel_rfl) (by kernel_rfl) (fun w h => cell_of_range (hr16 w h) 0 (by kernel_rfl)) ?_
      have hol := outV_len m p (a.take 250) (((idsI m)[j]'hl11))
      refine T.callR 42 20 #[.int .i64 (m), .agg (p).cs, .slice A ((a.take 250).length) c, .int .i64 (((idsI m)[j]'hl11))] 39 11 (outV m p (a.take 250) ((idsI m)[j]'hl11)).length (cells (outV m p (a.take 250) ((idsI m)[j]'hl11))) (by kernel_rfl) (by kernel_rfl) ent20 (fun w hw => outcomes_c m p (a.take 250) ((idsI m)[j]'hl11) A c w (by first | assumption | exact w64_and _ _ | exact w64_or _ _ | exact w64_andNot _ _ | (unfold W64; omega)) (fun u hu => (hok u (List.mem_of_mem_take hu)).support) (by first | omega | (simp only [chV_len]; omega) | (simp only [List.length_append, List.length_nil]; omega)) (Arr.rd ((Rd.arr hr _).take _) hw)) (fun Hr19 => (fun w h => (h.perm ((((List.Perm.refl _).append_left Hr19).trans (List.perm_append_comm_assoc _ _ _)).trans (((((List.Perm.refl _).append_left Hr19).trans (List.perm_append_comm_assoc _ _ _)).trans ((((List.Perm.refl _).append_left Hr19).trans List.perm_middle).append_left Hr4)).append_left Hr8))).part (List.Sublist.append (List.Sublist.refl _) (List.Sublist.append (List.Sublist.refl _) ((List.nil_sublist _).cons_cons _))))) (fun A17 c18 Hr19 hrow20 => ?_)
      refine T.pure 43 (.int .i64 ((((outV m p (a.take 250) ((idsI m)[j]'hl11)).length : Nat) : Int))) (by kernel_rfl) (fun w => by kernel_rfl) ?_
      refine T.pure 44 (.bool (decide (0 < (((outV m p (a.take 250) ((idsI m)[j]'hl11)).length : Nat) : Int)))) (by kernel_rfl) (fun w => by kernel_rfl) ?_
      exact T.blkEnd (by kernel_rfl) (fun w h => (h.perm ((((List.Perm.refl _).append_left Hr19).trans (List.perm_append_comm_assoc _ _ _)).trans (((((List.Perm.refl _).append_left Hr19).trans (List.perm_append_comm_assoc _ _ _)).trans ((((List.Perm.refl _).append_left Hr19).trans List.perm_middle).append_left Hr4)).append_left Hr8))).part (List.Sublist.append (List.Sublist.refl _) (List.Sublist.append (List.Sublist.refl _) ((List.nil_sublist _).cons_cons _))))
    refine T.and 45 (wh) (decide (0 < (((outV m p (a.take 250) ((idsI m)[j]'hl11)).length : Nat) : Int))) (by kernel_rfl) (by kernel_rfl) ?_
    refine T.pure 10 (.bool (wh && (decide (0 < (((outV m p (a.take 250) ((idsI m)[j]'hl11)).length : Nat) : Int))))) (by kernel_rfl) (fun w => by kernel_rfl) ?_
    refine T.nil ?_
    refine QN.blkNormal ?_
    refine QN.seq ?_
    refine W.region [(0, false), (1, false), (2, false)] (by kernel_rfl) ?_
    refine T.pure 31 (.int .i64 ((j : Int))) (by kernel_rfl) (fun w => by kernel_rfl) ?_
    refine T.pureE 32 (.int .i64 (IntKind.i64.wrap ((j : Int) + 1))) (.int .i64 ((j : Int) + 1)) (by kernel_rfl) (fun w => by kernel_rfl) (wrap_int (by omega) (by omega)) ?_
    refine T.pure 11 (.int .i64 ((j : Int) + 1)) (by kernel_rfl) (fun w => by kernel_rfl) ?_
    refine T.nil ?_
    refine QN.back (j + 1, wh && (decide (0 < (((outV m p (a.take 250) ((idsI m)[j]'hl11)).length : Nat) : Int)))) ?_ ?_ (by kernel_rfl) (fun w h => h)
    · show (j + 1) ≤ (idsI m).length ∧ (wh && (decide (0 < (((outV m p (a.take 250) ((idsI m)[j]'hl11)).length : Nat) : Int)))) = (decide (0 < ((((idsI m).length : Nat)) : Int)) && ((idsI m).take (j + 1)).all (poV m p (a.take 250)))
      exact ⟨by omega, wh_step hwh (by omega)⟩
    · show (idsI m).length - (j + 1) < (idsI m).length - j; omega
  · skip
    have h10' := of_decide_eq_false h10
    refine W.exit ?_
    refine QN.thenExit ?_
    refine QN.thenExit ?_
    refine QN.blkHit ?_
    refine QN.seq ?_
    refine W.seq ?_
    refine W.seq ?_
    refine W.region [(0, false), (1, false), (2, false), (3, false), (4, false), (5, false), (6, false), (7, false), (8, false), (9, false), (10, false), (11, false)] (by kernel_rfl) ?_
    refine T.pure 46 (.bool (decF m p (a.take 250))) (by kernel_rfl) (fun w => by kernel_rfl) ?_
    refine T.pure 47 (.bool (wh)) (by kernel_rfl) (fun w => by kernel_rfl) ?_
    refine T.pure 48 (.bool ((decF m p (a.take 250)) != wh)) (by kernel_rfl) (fun w => by kernel_rfl) ?_
    refine T.pure 49 (.bool ((decF m p (a.take 250)) != wh)) (by kernel_rfl) (fun w => by kernel_rfl) ?_
    refine T.blk [(4, false), (5, false), (6, false), (7, false), (8, false), (9, false), (10, false)] [(11, false)] 3 false ((decF m p (a.take 250)) != wh) 49 56 (.bool ((!(decF m p (a.take 250))) && ((((decV m p (a.take 250)).length : Nat) : Int) != 0))) (by kernel_rfl) (by kernel_rfl) (by kernel_rfl) (fun hg21 => ?_) ?_
    · have hg21_ := hg21
      refine T.pure 50 (.bool (decF m p (a.take 250))) (by kernel_rfl) (fun w => by kernel_rfl) ?_
      refine T.pure 51 (.bool (!(decF m p (a.take 250)))) (by kernel_rfl) (fun w => by kernel_rfl) ?_
      refine T.pure 52 (.bool (!(decF m p (a.take 250)))) (by kernel_rfl) (fun w => by kernel_rfl) ?_
      refine T.blk [(7, false), (8, false), (9, false)] [(10, false)] 6 true (!(decF m p (a.take 250))) 52 55 (.bool ((((decV m p (a.take 250)).length : Nat) : Int) != 0)) (by kernel_rfl) (by kernel_rfl) (by kernel_rfl) (fun hg22 => ?_) ?_
      · have hg22_ := hg22
        have hg22n := not_eq_true hg22
        refine T.pure 53 (.slice A2 ((decV m p (a.take 250)).length) c3) (by kernel_rfl) (fun w => by kernel_rfl) ?_
        refine T.pure 54 (.int .i64 ((((decV m p (a.take 250)).length : Nat) : Int))) (by kernel_rfl) (fun w => by kernel_rfl) ?_
        refine T.pure 55 (.bool ((((decV m p (a.take 250)).length : Nat) : Int) != 0)) (by kernel_rfl) (fun w => by kernel_rfl) ?_
        exact T.blkEnd (by kernel_rfl) (fun w h => h)
      refine T.and 56 (!(decF m p (a.take 250))) ((((decV m p (a.take 250)).length : Nat) : Int) != 0) (by kernel_rfl) (by kernel_rfl) ?_
      exact T.blkEnd (by kernel_rfl) (fun w h => h)
    refine T.or 57 ((decF m p (a.take 250)) != wh) ((!(decF m p (a.take 250))) && ((((decV m p (a.take 250)).length : Nat) : Int) != 0)) (by kernel_rfl) (by kernel_rfl) ?_
    refine T.nil ?_
    refine QN.seq ?_
    refine W.cond (((decF m p (a.take 250)) != wh) || ((!(decF m p (a.take 250))) && ((((decV m p (a.take 250)).length : Nat) : Int) != 0))) (by kernel_rfl) (fun h23 => ?_) (fun h23 => ?_)
    · skip
      refine W.seq ?_
      refine W.region [(0, false)] (by kernel_rfl) ?_
      refine T.pure 6 (.bool (false)) (by kernel_rfl) (fun w => by kernel_rfl) ?_
      refine T.nil ?_
      refine QN.seq ?_
      refine W.ret ?_
      refine QN.thenRet ?_
      refine QN.done (.inl rfl) 6 (.bool (false)) rfl (by kernel_rfl) (fun w hw => ⟨?_, hw.below⟩)
      exact (sdec1 (by rw [hwh, take_end (by omega)]) h23).elim
    · skip
      have h23l := (Bool.or_eq_false_iff.1 h23).1
      have h23r := (Bool.or_eq_false_iff.1 h23).2
      refine W.skip ?_
      refine QN.seq ?_
      refine W.seq ?_
      refine W.seq ?_
      refine W.region [(0, false), (1, false)] (by kernel_rfl) ?_
      refine T.pure 58 (.bool (decF m p (a.take 250))) (by kernel_rfl) (fun w => by kernel_rfl) ?_
      refine T.pure 59 (.bool (!(decF m p (a.take 250)))) (by kernel_rfl) (fun w => by kernel_rfl) ?_
      refine T.nil ?_
      refine QN.seq ?_
      refine W.cond (!(decF m p (a.take 250))) (by kernel_rfl) (fun h24 => ?_) (fun h24 => ?_)
      · skip
        have h24n := not_eq_true h24
        refine W.seq ?_
        refine W.region [(0, false), (1, false)] (by kernel_rfl) ?_
        refine T.callP 60 30 #[] (.bool (true)) (by kernel_rfl) (by kernel_rfl) ent30 (fun w hw => awake17_c w) (fun _ _ => trivial) ?_
        refine T.pure 6 (.bool (true)) (by kernel_rfl) (fun w => by kernel_rfl) ?_
        refine T.nil ?_
        refine QN.seq ?_
        refine W.ret ?_
        refine QN.thenRet ?_
        refine QN.done (.inl rfl) 6 (.bool (true)) rfl (by kernel_rfl) (fun w hw => ⟨?_, hw.below⟩)
        exact rfl
      · skip
        have h24n := not_eq_false h24
        refine W.skip ?_
        refine QN.seq ?_
        refine W.seq ?_
        refine W.seq ?_
        refine W.region [(0, false), (1, false), (2, false), (3, false), (4, false)] (by kernel_rfl) ?_
        refine T.pure 61 (.slice A2 ((decV m p (a.take 250)).length) c3) (by kernel_rfl) (fun w => by kernel_rfl) ?_
        refine T.pure 62 (.int .i64 ((((decV m p (a.take 250)).length : Nat) : Int))) (by kernel_rfl) (fun w => by kernel_rfl) ?_
        refine T.pure 63 (.slice A6 ((idsI m).length) c7) (by kernel_rfl) (fun w => by kernel_rfl) ?_
        refine T.pure 64 (.int .i64 ((((idsI m).length : Nat) : Int))) (by kernel_rfl) (fun w => by kernel_rfl) ?_
        refine T.pure 65 (.bool ((((decV m p (a.take 250)).length : Nat) : Int) != (((idsI m).length : Nat) : Int))) (by kernel_rfl) (fun w => by kernel_rfl) ?_
        refine T.nil ?_
        refine QN.seq ?_
        refine W.cond ((((decV m p (a.take 250)).length : Nat) : Int) != (((idsI m).length : Nat) : Int)) (by kernel_rfl) (fun h25 => ?_) (fun h25 => ?_)
        · skip
          refine W.seq ?_
          refine W.region [(0, false)] (by kernel_rfl) ?_
          refine T.pure 6 (.bool (false)) (by kernel_rfl) (fun w => by kernel_rfl) ?_
          refine T.nil ?_
          refine QN.seq ?_
          refine W.ret ?_
          refine QN.thenRet ?_
          refine QN.done (.inl rfl) 6 (.bool (false)) rfl (by kernel_rfl) (fun w hw => ⟨?_, hw.below⟩)
          exact (sdec2 h24 h25).elim
        · skip
          refine W.skip ?_
          refine QN.seq ?_
          refine W.seq ?_
          refine W.seq ?_
          refine W.region [(0, false)] (by kernel_rfl) ?_
          refine T.pure 12 (.int .i64 (0)) (by kernel_rfl) (fun w => by kernel_rfl) ?_
          refine T.nil ?_
          refine QN.seq ?_
          refine W.block ?_
          have hdi : (decV m p (a.take 250)).length = (idsI m).length := by have hbn := h25; simp only [bne_eq_false_iff_eq] at hbn; omega
          refine W.loop (σ := Nat) (fun gs => gs ≤ (decV m p (a.take 250)).length) (fun gs => [(0, .int .i64 (m)), (2, .slice A ((a.take 250).length) c), (4, .pointer (some ⟨b1, 0, none⟩)), (7, .slice A2 ((decV m p (a.take 250)).length) c3), (9, .slice A6 ((idsI m).length) c7), (12, .int .i64 ((gs : Int)))]) (fun gs => St w (Hr8 ++ (Hr4 ++ [(b1, Obj.cells (p).cs 24 (0, 0))]))) (fun gs => (decV m p (a.take 250)).length - gs) (0) ?_ (by kernel_rfl) (fun w h => h) ?_
          · show 0 ≤ (decV m p (a.take 250)).length
            exact Nat.zero_le _
          rintro k hI_
          obtain hk : k ≤ (decV m p (a.take 250)).length := hI_
          show W _ _ [(0, .int .i64 (m)), (2, .slice A ((a.take 250).length) c), (4, .pointer (some ⟨b1, 0, none⟩)), (7, .slice A2 ((decV m p (a.take 250)).length) c3), (9, .slice A6 ((idsI m).length) c7), (12, .int .i64 ((k : Int)))] (St w (Hr8 ++ (Hr4 ++ [(b1, Obj.cells (p).cs 24 (0, 0))]))) _ _
          refine W.seq ?_
          refine W.seq ?_
          refine W.region [(0, false), (1, false), (2, false), (3, false)] (by kernel_rfl) ?_
          refine T.pure 66 (.int .i64 ((k : Int))) (by kernel_rfl) (fun w => by kernel_rfl) ?_
          refine T.pure 67 (.slice A2 ((decV m p (a.take 250)).length) c3) (by kernel_rfl) (fun w => by kernel_rfl) ?_
          refine T.pure 68 (.int .i64 ((((decV m p (a.take 250)).length : Nat) : Int))) (by kernel_rfl) (fun w => by kernel_rfl) ?_
          refine T.pure 69 (.bool (decide ((k : Int) < (((decV m p (a.take 250)).length : Nat) : Int)))) (by kernel_rfl) (fun w => by kernel_rfl) ?_
          refine T.nil ?_
          refine QN.seq ?_
          refine W.cond (decide ((k : Int) < (((decV m p (a.take 250)).length : Nat) : Int))) (by kernel_rfl) (fun h26 => ?_) (fun h26 => ?_)
          · skip
            have h26' := of_decide_eq_true h26
            have hl27 : k < (decV m p (a.take 250)).length := by omega
            refine W.skip ?_
            refine QN.seq ?_
            refine W.seq ?_
            refine W.block ?_
            refine W.seq ?_
            refine W.drawn (Ψ := St w (Hr8 ++ (Hr4 ++ [(b1, Obj.cells (p).cs 24 (0, 0))]))) (St w (Hr8 ++ (Hr4 ++ [(b1, Obj.cells (p).cs 24 (0, 0))]))) [(0, true), (1, true), (2, true), (3, true), (4, true), (5, true), (6, true), (7, true), (8, true), (9, true), (10, true), (11, true), (12, true), (13, true), (14, true), (15, true), (16, true), (17, true), (18, false), (19, true), (20, true)] hmx (by kernel_rfl) (NoPanic.then (NoPanic.inBlock (NoPanic.then (NoPanic.then (NoPanic.inBlock (NoPanic.then (NoPanic.body))))))) (fun w h => h.drew) (fun w h => h) ?_
            refine T.pure 72 (.slice A2 ((decV m p (a.take 250)).length) c3) (by kernel_rfl) (fun w => by kernel_rfl) ?_
            refine T.pure 73 (.int .i64 ((k : Int))) (by kernel_rfl) (fun w => by kernel_rfl) ?_
            obtain ⟨b28, o29, hA30, hr31⟩ := ((show Arr (St _ (Hr8 ++ (Hr4 ++ [(b1, Obj.cells (p).cs 24 (0, 0))]))) A2 (decV m p (a.take 250)) from (Arr.row hp5 (rfl) (rfl) (Hr8 ++ [(b1, Obj.cells (p).cs 24 (0, 0))])).weak (fun w h => h.perm (((List.Perm.refl _).append_left Hr8).trans (List.perm_append_comm_assoc _ _ _))))) k hl27
            refine T.index 74 36 39 11 A2 ((decV m p (a.take 250)).length) c3 ((k : Int)) (k) b28 o29 (by kernel_rfl) (by kernel_rfl) (by kernel_rfl) (by kernel_rfl) hA30 (rfl) (by omega) ?_
            refine T.pure 75 (.pointer (some ⟨b28, o29 + k * 11, none⟩)) (by kernel_rfl) (fun w => by kernel_rfl) ?_
            refine T.load true 76 (.int .i64 ((((decV m p (a.take 250))[k]'hl27)).slot)) 3 b28 (o29 + k * 11) (by kernel_rfl) (by kernel_rfl) (by kernel_rfl) (fun w h => cell_of_range (hr31 w h) 0 (by kernel_rfl)) ?_
            refine T.pure 77 (.slice A6 ((idsI m).length) c7) (by kernel_rfl) (fun w => by kernel_rfl) ?_
            refine T.pure 78 (.int .i64 ((k : Int))) (by kernel_rfl) (fun w => by kernel_rfl) ?_
            have hl36 : k < (idsI m).length := by omega
            obtain ⟨b32, o33, hA34, hr35⟩ := (Arr.row hrow9 (rfl) (rfl) _) k hl36
            refine T.index 79 51 3 1 A6 ((idsI m).length) c7 ((k : Int)) (k) b32 o33 (by kernel_rfl) (by kernel_rfl) (by kernel_rfl) (by kernel_rfl) hA34 (rfl) (by omega) ?_
            refine T.load true 80 (.int .i64 (((idsI m)[k]'hl36))) 3 b32 (o33 + k * 1) (by kernel_rfl) (by kernel_rfl) (by kernel_rfl) (fun w h => cell_of_range (hr35 w h) 0 (by kernel_rfl)) ?_
            refine T.pure 81 (.bool (((((decV m p (a.take 250))[k]'hl27)).slot) != ((idsI m)[k]'hl36))) (by kernel_rfl) (fun w => by kernel_rfl) ?_
            refine T.pure 82 (.bool (((((decV m p (a.take 250))[k]'hl27)).slot) != ((idsI m)[k]'hl36))) (by kernel_rfl) (fun w => by kernel_rfl) ?_
            refine T.blk [(11, true), (12, true), (13, true), (14, true), (15, true), (16, true), (17, true), (18, false), (19, true)] [(20, true)] 10 false (((((decV m p (a.take 250))[k]'hl27)).slot) != ((idsI m)[k]'hl36)) 82 91 (.bool (!(decB m p (a.take 250) ((decV m p (a.take 250))[k]'hl27)))) (by kernel_rfl) (by kernel_rfl) (by kernel_rfl) (fun hg37 => ?_) ?_
            · have hg37_ := hg37
              refine T.pure 83 (.int .i64 (m)) (by kernel_rfl) (fun w => by kernel_rfl) ?_
              refine T.loadR true 84 (p).cs 24 b1 0 (by kernel_rfl) (by kernel_rfl) (by kernel_rfl) (by kernel_rfl) (fun w h => St.rangeM h (p).cs (List.mem_append_right _ (List.mem_append_right _ (.head _))) (by kernel_rfl)) ?_
              refine T.pure 85 (.slice A ((a.take 250).length) c) (by kernel_rfl) (fun w => by kernel_rfl) ?_
              refine T.pure 86 (.slice A2 ((decV m p (a.take 250)).length) c3) (by kernel_rfl) (fun w => by kernel_rfl) ?_
              refine T.pure 87 (.int .i64 ((k : Int))) (by kernel_rfl) (fun w => by kernel_rfl) ?_
              obtain ⟨b38, o39, hA40, hr41⟩ := ((show Arr (St _ (Hr8 ++ (Hr4 ++ [(b1, Obj.cells (p).cs 24 (0, 0))]))) A2 (decV m p (a.take 250)) from (Arr.row hp5 (rfl) (rfl) (Hr8 ++ [(b1, Obj.cells (p).cs 24 (0, 0))])).weak (fun w h => h.perm (((List.Perm.refl _).append_left Hr8).trans (List.perm_append_comm_assoc _ _ _))))) k hl27
              refine T.index 88 36 39 11 A2 ((decV m p (a.take 250)).length) c3 ((k : Int)) (k) b38 o39 (by kernel_rfl) (by kernel_rfl) (by kernel_rfl) (by kernel_rfl) hA40 (rfl) (by omega) ?_
              refine T.loadR true 89 (((decV m p (a.take 250))[k]'hl27)).cs 39 b38 (o39 + k * 11) (by kernel_rfl) (by kernel_rfl) (by kernel_rfl) (by kernel_rfl) hr41 ?_
              refine T.callP 90 32 #[.int .i64 (m), .agg (p).cs, .slice A ((a.take 250).length) c, .agg (((decV m p (a.take 250))[k]'hl27)).cs] (.bool (decB m p (a.take 250) ((decV m p (a.take 250))[k]'hl27))) (by kernel_rfl) (by kernel_rfl) ent32 (fun w hw => decided_c m p (a.take 250) ((decV m p (a.take 250))[k]'hl27) A c w (by first | assumption | exact w64_and _ _ | exact w64_or _ _ | exact w64_andNot _ _ | (unfold W64; omega)) (fun u hu => (hok u (List.mem_of_mem_take hu)).support) (by first | omega | (simp only [chV_len]; omega) | (simp only [List.length_append, List.length_nil]; omega)) (Arr.rd ((Rd.arr hr _).take _) hw)) (fun w h => h) ?_
              refine T.pure 91 (.bool (!(decB m p (a.take 250) ((decV m p (a.take 250))[k]'hl27)))) (by kernel_rfl) (fun w => by kernel_rfl) ?_
              exact T.blkEnd (by kernel_rfl) (fun w h => h)
            refine T.or 92 (((((decV m p (a.take 250))[k]'hl27)).slot) != ((idsI m)[k]'hl36)) (!(decB m p (a.take 250) ((decV m p (a.take 250))[k]'hl27))) (by kernel_rfl) (by kernel_rfl) ?_
            refine T.nil ?_
            refine QN.seq ?_
            refine W.cond ((((((decV m p (a.take 250))[k]'hl27)).slot) != ((idsI m)[k]'hl36)) || (!(decB m p (a.take 250) ((decV m p (a.take 250))[k]'hl27)))) (by kernel_rfl) (fun h42 => ?_) (fun h42 => ?_)
            · skip
              refine W.seq ?_
              refine W.region [(0, false)] (by kernel_rfl) ?_
              refine T.pure 6 (.bool (false)) (by kernel_rfl) (fun w => by kernel_rfl) ?_
              refine T.nil ?_
              refine QN.seq ?_
              refine W.ret ?_
              refine QN.blkRet ?_
              refine QN.thenRet ?_
              refine QN.thenRet ?_
              refine QN.blkRet ?_
              refine QN.thenRet ?_
              refine QN.done (.inl rfl) 6 (.bool (false)) rfl (by kernel_rfl) (fun w hw => ⟨?_, hw.below⟩)
              exact (sdec3 h25 h42).elim
            · skip
              have h42l := (Bool.or_eq_false_iff.1 h42).1
              have h42r := (Bool.or_eq_false_iff.1 h42).2
              have h42rn := not_eq_false h42r
              refine W.skip ?_
              refine QN.blkNormal ?_
              refine QN.seq ?_
              refine W.region [(0, false), (1, false), (2, false)] (by kernel_rfl) ?_
              refine T.pure 70 (.int .i64 ((k : Int))) (by kernel_rfl) (fun w => by kernel_rfl) ?_
              refine T.pureE 71 (.int .i64 (IntKind.i64.wrap ((k : Int) + 1))) (.int .i64 ((k : Int) + 1)) (by kernel_rfl) (fun w => by kernel_rfl) (wrap_int (by omega) (by omega)) ?_
              refine T.pure 12 (.int .i64 ((k : Int) + 1)) (by kernel_rfl) (fun w => by kernel_rfl) ?_
              refine T.nil ?_
              refine QN.back (k + 1) ?_ ?_ (by kernel_rfl) (fun w h => h)
              · show (k + 1) ≤ (decV m p (a.take 250)).length
                omega
              · show (decV m p (a.take 250)).length - (k + 1) < (decV m p (a.take 250)).length - k; omega
          · skip
            have h26' := of_decide_eq_false h26
            refine W.exit ?_
            refine QN.thenExit ?_
            refine QN.thenExit ?_
            refine QN.blkHit ?_
            refine QN.seq ?_
            refine W.seq ?_
            refine W.drawn (Ψ := St w (Hr8 ++ (Hr4 ++ [(b1, Obj.cells (p).cs 24 (0, 0))]))) (St w (Hr8 ++ (Hr4 ++ [(b1, Obj.cells (p).cs 24 (0, 0))]))) [(0, true), (1, true), (2, true), (3, true), (4, false), (5, false), (6, true), (7, false), (8, true), (9, false)] hmx (by kernel_rfl) (NoPanic.then (NoPanic.body)) (fun w h => h.drew) (fun w h => h) ?_
            refine T.pure 93 (.int .i64 (m)) (by kernel_rfl) (fun w => by kernel_rfl) ?_
            refine T.loadR true 94 (p).cs 24 b1 0 (by kernel_rfl) (by kernel_rfl) (by kernel_rfl) (by kernel_rfl) (fun w h => St.rangeM h (p).cs (List.mem_append_right _ (List.mem_append_right _ (.head _))) (by kernel_rfl)) ?_
            refine T.pure 95 (.slice A ((a.take 250).length) c) (by kernel_rfl) (fun w => by kernel_rfl) ?_
            refine T.pure 96 (.slice A2 ((decV m p (a.take 250)).length) c3) (by kernel_rfl) (fun w => by kernel_rfl) ?_
            refine T.callR 97 29 #[.slice A2 ((decV m p (a.take 250)).length) c3] 73 9 (chV (decV m p (a.take 250))).length (cells (chV (decV m p (a.take 250)))) (by kernel_rfl) (by kernel_rfl) ent29 (fun w hw => choices_c (decV m p (a.take 250)) A2 c3 w (by first | omega | (simp only [chV_len]; omega) | (simp only [List.length_append, List.length_nil]; omega)) (Arr.rd ((show Arr (St _ (Hr8 ++ (Hr4 ++ [(b1, Obj.cells (p).cs 24 (0, 0))]))) A2 (decV m p (a.take 250)) from (Arr.row hp5 (rfl) (rfl) (Hr8 ++ [(b1, Obj.cells (p).cs 24 (0, 0))])).weak (fun w h => h.perm (((List.Perm.refl _).append_left Hr8).trans (List.perm_append_comm_assoc _ _ _))))) hw)) (fun Hr45 => (fun w h => (h.perm ((((List.Perm.refl _).append_left Hr45).trans (List.perm_append_comm_assoc _ _ _)).trans (((((List.Perm.refl _).append_left Hr45).trans (List.perm_append_comm_assoc _ _ _)).trans ((((List.Perm.refl _).append_left Hr45).trans List.perm_middle).append_left Hr4)).append_left Hr8))).part (List.Sublist.append (List.Sublist.refl _) (List.Sublist.append (List.Sublist.refl _) ((List.nil_sublist _).cons_cons _))))) (fun A43 c44 Hr45 hrow46 => ?_)
            refine T.callP 98 28 #[.int .i64 (m), .agg (p).cs, .slice A ((a.take 250).length) c, .slice A43 ((chV (decV m p (a.take 250))).length) c44] (.bool (crtB m p (a.take 250) (chV (decV m p (a.take 250))))) (by kernel_rfl) (by kernel_rfl) ent28 (fun w hw => sbcert_c m p (a.take 250) (chV (decV m p (a.take 250))) A c A43 c44 w (by first | assumption | exact w64_and _ _ | exact w64_or _ _ | exact w64_andNot _ _ | (unfold W64; omega)) (fun u hu => (hok u (List.mem_of_mem_take hu)).support) (by first | omega | (simp only [chV_len]; omega) | (simp only [List.length_append, List.length_nil]; omega)) (Arr.rd ((Rd.arr hr _).take _) hw) (Arr.rd (Arr.row hrow46 (rfl) (rfl) _) hw)) (fun w h => (h.perm ((((List.Perm.refl _).append_left Hr45).trans (List.perm_append_comm_assoc _ _ _)).trans (((((List.Perm.refl _).append_left Hr45).trans (List.perm_append_comm_assoc _ _ _)).trans ((((List.Perm.refl _).append_left Hr45).trans List.perm_middle).append_left Hr4)).append_left Hr8))).part (List.Sublist.append (List.Sublist.refl _) (List.Sublist.append (List.Sublist.refl _) ((List.nil_sublist _).cons_cons _)))) ?_
            refine T.pure 99 (.bool (crtB m p (a.take 250) (chV (decV m p (a.take 250))))) (by kernel_rfl) (fun w => by kernel_rfl) ?_
            refine T.blk [(7, false)] [(8, true), (9, false)] 6 true (crtB m p (a.take 250) (chV (decV m p (a.take 250)))) 99 100 (.bool (true)) (by kernel_rfl) (by kernel_rfl) (by kernel_rfl) (fun hg47 => ?_) ?_
            · have hg47_ := hg47
              refine T.callP 100 30 #[] (.bool (true)) (by kernel_rfl) (by kernel_rfl) ent30 (fun w hw => awake17_c w) (fun w h => (h.perm ((((List.Perm.refl _).append_left Hr45).trans (List.perm_append_comm_assoc _ _ _)).trans (((((List.Perm.refl _).append_left Hr45).trans (List.perm_append_comm_assoc _ _ _)).trans ((((List.Perm.refl _).append_left Hr45).trans List.perm_middle).append_left Hr4)).append_left Hr8))).part (List.Sublist.append (List.Sublist.refl _) (List.Sublist.append (List.Sublist.refl _) ((List.nil_sublist _).cons_cons _)))) ?_
              exact T.blkEnd (by kernel_rfl) (fun w h => h)
            refine T.and 101 (crtB m p (a.take 250) (chV (decV m p (a.take 250)))) (true) (by kernel_rfl) (by kernel_rfl) ?_
            refine T.pure 6 (.bool ((crtB m p (a.take 250) (chV (decV m p (a.take 250)))) && true)) (by kernel_rfl) (fun w => by kernel_rfl) ?_
            refine T.nil ?_
            refine QN.seq ?_
            refine W.ret ?_
            refine QN.done (.inl rfl) 6 (.bool ((crtB m p (a.take 250) (chV (decV m p (a.take 250)))) && true)) rfl (by kernel_rfl) (fun w hw => ⟨?_, hw.below⟩)
            exact ret_bool (sdec4 h24)
theorem SuperblockDecides_w (w : World) (a0 : Int) (v1 : Value) (x1 : Nm) (v2 : Value) (x2 : List Vt) (h0 : W64 a0) (h1 : v1 = .agg x1.cs) (h2 : VS w v2 x2) : Calls Try.prog 9 #[.int .i64 a0, v1, v2] w fun e w' => e = .returned (.bool true) ∧ Below w.heap.size w w' := by
  obtain rfl := h1
  obtain ⟨A2, c2, rfl, l2, m2, r2, k2⟩ := h2
  exact SuperblockDecides_c _ _ _ _ _ w h0 k2 l2 m2 r2.rd
set_option maxRecDepth 100000 in
set_option maxHeartbeats 2000000 in
theorem SuperblockAccounts_c (m : Int) (p : Nm) (a b : List Vt) (A B : Option Addr) (c d : Nat) (w : World) (hm : W64 m) (hok : ∀ u ∈ a, u.Ok) (hok2 : ∀ u ∈ b, u.Ok) (h1 : a.length ≤ c) (h2 : c ≤ maxLen) (hr : Rd w A a) (h3 : b.length ≤ d) (h4 : d ≤ maxLen) (hrb : Rd w B b) : Calls Try.prog 10 #[.int .i64 (m), .agg (p).cs, .slice A (a.length) c, .slice B (b.length) d] w (fun rr w' => rr = .returned (.bool (true)) ∧ Below w.heap.size w w') := by
  have ht : (a.take 250).length ≤ 250 := List.length_take_le _ _
  have hz := size_le m
  have hq := quorum_bd _ hz
  have hdl := decV_len m p (a.take 250)
  have ht2 : (b.take 250).length ≤ 250 := List.length_take_le _ _
  have hdl2 := decV_len m p (b.take 250)
  refine calls_W (n := 116) Try.func10 rfl [(0, .int .i64 (m)), (1, .agg (p).cs), (2, .slice A (a.length) c), (3, .slice B (b.length) d)] rfl ⟨by kernel_rfl, by kernel_rfl⟩ ?_
  refine W.weak (Ψ := St w []) (fun w' h => by rw [h]; exact St.start w) ?_
  refine W.seq ?_
  refine W.region [(0, false), (1, false)] (by kernel_rfl) ?_
  refine T.box 5 24 (.agg (p).cs) ((p).cs) (by kernel_rfl) (by kernel_rfl) (by kernel_rfl) (fun _ _ _ => trivial) (fun b1 => ?_)
  refine T.pure 8 (.bool (false)) (by kernel_rfl) (fun w => by kernel_rfl) ?_
  refine T.nil ?_
  refine QN.seq ?_
  refine W.seq ?_
  refine W.region [(0, false), (1, false), (2, false), (3, false), (4, false), (5, false)] (by kernel_rfl) ?_
  refine T.pure 17 (.slice A (a.length) c) (by kernel_rfl) (fun w => by kernel_rfl) ?_
  refine T.callP 18 26 #[.slice A (a.length) c] (.slice A ((a.take 250).length) c) (by kernel_rfl) (by kernel_rfl) ent26 (fun w hw => cut17_c a A c w h1 h2 (Arr.rd (Rd.arr hr _) hw)) (fun _ _ => trivial) ?_
  refine T.pure 19 (.slice B (b.length) d) (by kernel_rfl) (fun w => by kernel_rfl) ?_
  refine T.callP 20 26 #[.slice B (b.length) d] (.slice B ((b.take 250).length) d) (by kernel_rfl) (by kernel_rfl) ent26 (fun w hw => cut17_c b B d w h3 h4 (Arr.rd (Rd.arr hrb _) hw)) (fun _ _ => trivial) ?_
  refine T.pure 2 (.slice A ((a.take 250).length) c) (by kernel_rfl) (fun w => by kernel_rfl) ?_
  refine T.pure 3 (.slice B ((b.take 250).length) d) (by kernel_rfl) (fun w => by kernel_rfl) ?_
  refine T.nil ?_
  refine QN.seq ?_
  refine W.seq ?_
  refine W.region [(0, false), (1, false), (2, false), (3, false), (4, false), (5, false), (6, false), (7, false), (8, false)] (by kernel_rfl) ?_
  refine T.pure 22 (.int .i64 (m)) (by kernel_rfl) (fun w => by kernel_rfl) ?_
  refine T.loadR false 23 (p).cs 24 b1 0 (by kernel_rfl) (by kernel_rfl) (by kernel_rfl) (by kernel_rfl) (fun w h => St.rangeM h (p).cs (.head _) (by kernel_rfl)) ?_
  refine T.pure 24 (.slice A ((a.take 250).length) c) (by kernel_rfl) (fun w => by kernel_rfl) ?_
  refine T.callG (β := Option Addr × Nat × List (Nat × Obj)) 25 27 #[.int .i64 (m), .agg (p).cs, .slice A ((a.take 250).length) c] (fun gs => .tuple #[.slice gs.1 ((decV m p (a.take 250)).length) gs.2.1, .bool (decF m p (a.take 250))]) (fun gs => St w (gs.2.2 ++ [(b1, Obj.cells (p).cs 24 (0, 0))])) (fun gs => RowIs 39 11 gs.1 (decV m p (a.take 250)).length gs.2.1 (cells (decV m p (a.take 250))) gs.2.2) (by kernel_rfl) (by kernel_rfl) ent27 ?_ (fun _ _ _ => trivial) ?_
  · exact fun w hw => (decide_c m p (a.take 250) A c w (by first | assumption | exact w64_and _ _ | exact w64_or _ _ | exact w64_andNot _ _ | (unfold W64; omega)) (fun u hu => (hok u (List.mem_of_mem_take hu)).support) (by first | omega | (simp only [chV_len]; omega) | (simp only [List.length_append, List.length_nil]; omega)) (Arr.rd ((Rd.arr hr _).take _) hw)).mono fun r w' ⟨A, c, Hr, h1, h2, h3⟩ => ⟨(A, c, Hr), h2, h1, hw.join h3⟩
  rintro ⟨A2, c3, Hr4⟩ hp_
  have hp5 : RowIs 39 11 A2 (decV m p (a.take 250)).length c3 (cells (decV m p (a.take 250))) Hr4 := hp_
  refine T.pure 21 (.tuple #[.slice A2 ((decV m p (a.take 250)).length) c3, .bool (decF m p (a.take 250))]) (by kernel_rfl) (fun w => by kernel_rfl) ?_
  refine T.pure 26 (.slice A2 ((decV m p (a.take 250)).length) c3) (by kernel_rfl) (fun w => by kernel_rfl) ?_
  refine T.pure 27 (.bool (decF m p (a.take 250))) (by kernel_rfl) (fun w => by kernel_rfl) ?_
  refine T.pure 9 (.slice A2 ((decV m p (a.take 250)).length) c3) (by kernel_rfl) (fun w => by kernel_rfl) ?_
  refine T.pure 10 (.bool (decF m p (a.take 250))) (by kernel_rfl) (fun w => by kernel_rfl) ?_
  refine T.nil ?_
  refine QN.seq ?_
  refine W.seq ?_
  refine W.region [(0, false), (1, false), (2, false), (3, false), (4, false), (5, false), (6, false), (7, false), (8, false)] (by kernel_rfl) ?_
  refine T.pure 29 (.int .i64 (m)) (by kernel_rfl) (fun w => by kernel_rfl) ?_
  refine T.loadR false 30 (p).cs 24 b1 0 (by kernel_rfl) (by kernel_rfl) (by kernel_rfl) (by kernel_rfl) (fun w h => St.rangeM h (p).cs (List.mem_append_right _ (.head _)) (by kernel_rfl)) ?_
  refine T.pure 31 (.slice B ((b.take 250).length) d) (by kernel_rfl) (fun w => by kernel_rfl) ?_
  refine T.callG (β := Option Addr × Nat × List (Nat × Obj)) 32 27 #[.int .i64 (m), .agg (p).cs, .slice B ((b.take 250).length) d] (fun gs => .tuple #[.slice gs.1 ((decV m p (b.take 250)).length) gs.2.1, .bool (decF m p (b.take 250))]) (fun gs => St w (gs.2.2 ++ (Hr4 ++ [(b1, Obj.cells (p).cs 24 (0, 0))]))) (fun gs => RowIs 39 11 gs.1 (decV m p (b.take 250)).length gs.2.1 (cells (decV m p (b.take 250))) gs.2.2) (by kernel_rfl) (by kernel_rfl) ent27 ?_ (fun _ _ _ => trivial) ?_
  · exact fun w hw => (decide_c m p (b.take 250) B d w (by first | assumption | exact w64_and _ _ | exact w64_or _ _ | exact w64_andNot _ _ | (unfold W64; omega)) (fun u hu => (hok2 u (List.mem_of_mem_take hu)).support) (by first | omega | (simp only [chV_len]; omega) | (simp only [List.length_append, List.length_nil]; omega)) (Arr.rd ((Rd.arr hrb _).take _) hw)).mono fun r w' ⟨A, c, Hr, h1, h2, h3⟩ => ⟨(A, c, Hr), h2, h1, hw.join h3⟩
  rintro ⟨A6, c7, Hr8⟩ hp_
  have hp9 : RowIs 39 11 A6 (decV m p (b.take 250)).length c7 (cells (decV m p (b.take 250))) Hr8 := hp_
  refine T.pure 28 (.tuple #[.slice A6 ((decV m p (b.take 250)).length) c7, .bool (decF m p (b.take 250))]) (by kernel_rfl) (fun w => by kernel_rfl) ?_
  refine T.pure 33 (.slice A6 ((decV m p (b.take 250)).length) c7) (by kernel_rfl) (fun w => by kernel_rfl) ?_
  refine T.pure 34 (.bool (decF m p (b.take 250))) (by kernel_rfl) (fun w => by kernel_rfl) ?_
  refine T.pure 11 (.slice A6 ((decV m p (b.take 250)).length) c7) (by kernel_rfl) (fun w => by kernel_rfl) ?_
  refine T.pure 12 (.bool (decF m p (b.take 250))) (by kernel_rfl) (fun w => by kernel_rfl) ?_
  refine T.nil ?_
  refine QN.seq ?_
  refine W.seq ?_
  refine W.seq ?_
  refine W.region [(0, false), (1, false), (2, false), (3, false), (4, false), (5, false), (6, false), (7, false), (8, false), (9, false), (10, false), (11, false), (12, false)] (by kernel_rfl) ?_
  refine T.pure 35 (.bool (decF m p (a.take 250))) (by kernel_rfl) (fun w => by kernel_rfl) ?_
  refine T.pure 36 (.bool (!(decF m p (a.take 250)))) (by kernel_rfl) (fun w => by kernel_rfl) ?_
  refine T.pure 37 (.bool (!(decF m p (a.take 250)))) (by kernel_rfl) (fun w => by kernel_rfl) ?_
  refine T.blk [(3, false), (4, false)] [(5, false), (6, false), (7, false), (8, false), (9, false), (10, false), (11, false), (12, false)] 2 false (!(decF m p (a.take 250))) 37 39 (.bool (!(decF m p (b.take 250)))) (by kernel_rfl) (by kernel_rfl) (by kernel_rfl) (fun hg10 => ?_) ?_
  · have hg10_ := hg10
    have hg10n := not_eq_false hg10
    refine T.pure 38 (.bool (decF m p (b.take 250))) (by kernel_rfl) (fun w => by kernel_rfl) ?_
    refine T.pure 39 (.bool (!(decF m p (b.take 250)))) (by kernel_rfl) (fun w => by kernel_rfl) ?_
    exact T.blkEnd (by kernel_rfl) (fun w h => h)
  refine T.or 40 (!(decF m p (a.take 250))) (!(decF m p (b.take 250))) (by kernel_rfl) (by kernel_rfl) ?_
  refine T.pure 41 (.bool ((!(decF m p (a.take 250))) || (!(decF m p (b.take 250))))) (by kernel_rfl) (fun w => by kernel_rfl) ?_
  refine T.blk [(7, false), (8, false), (9, false), (10, false), (11, false)] [(12, false)] 6 false ((!(decF m p (a.take 250))) || (!(decF m p (b.take 250)))) 41 46 (.bool ((chV (decV m p (a.take 250))) == (chV (decV m p (b.take 250))))) (by kernel_rfl) (by kernel_rfl) (by kernel_rfl) (fun hg11 => ?_) ?_
  · have hg11_ := hg11
    have hg11l := (Bool.or_eq_false_iff.1 hg11).1
    have hg11r := (Bool.or_eq_false_iff.1 hg11).2
    have hg11ln := not_eq_false hg11l
    have hg11rn := not_eq_false hg11r
    refine T.pure 42 (.slice A2 ((decV m p (a.take 250)).length) c3) (by kernel_rfl) (fun w => by kernel_rfl) ?_
    refine T.callR 43 29 #[.slice A2 ((decV m p (a.take 250)).length) c3] 73 9 (chV (decV m p (a.take 250))).length (cells (chV (decV m p (a.take 250)))) (by kernel_rfl) (by kernel_rfl) ent29 (fun w hw => choices_c (decV m p (a.take 250)) A2 c3 w (by first | omega | (simp only [chV_len]; omega) | (simp only [List.length_append, List.length_nil]; omega)) (Arr.rd ((show Arr (St _ (Hr8 ++ (Hr4 ++ [(b1, Obj.cells (p).cs 24 (0, 0))]))) A2 (decV m p (a.take 250)) from (Arr.row hp5 (rfl) (rfl) (Hr8 ++ [(b1, Obj.cells (p).cs 24 (0, 0))])).weak (fun w h => h.perm (((List.Perm.refl _).append_left Hr8).trans (List.perm_append_comm_assoc _ _ _))))) hw)) (fun _ _ _ => trivial) (fun A12 c13 Hr14 hrow15 => ?_)
    refine T.pure 44 (.slice A6 ((decV m p (b.take 250)).length) c7) (by kernel_rfl) (fun w => by kernel_rfl) ?_
    refine T.callR 45 29 #[.slice A6 ((decV m p (b.take 250)).length) c7] 73 9 (chV (decV m p (b.take 250))).length (cells (chV (decV m p (b.take 250)))) (by kernel_rfl) (by kernel_rfl) ent29 (fun w hw => choices_c (decV m p (b.take 250)) A6 c7 w (by first | omega | (simp only [chV_len]; omega) | (simp only [List.length_append, List.length_nil]; omega)) (Arr.rd ((show Arr (St _ (Hr14 ++ (Hr8 ++ (Hr4 ++ [(b1, Obj.cells (p).cs 24 (0, 0))])))) A6 (decV m p (b.take 250)) from (Arr.row hp9 (rfl) (rfl) (Hr14 ++ (Hr4 ++ [(b1, Obj.cells (p).cs 24 (0, 0))]))).weak (fun w h => h.perm (((List.Perm.refl _).append_left Hr14).trans (List.perm_append_comm_assoc _ _ _))))) hw)) (fun _ _ _ => trivial) (fun A16 c17 Hr18 hrow19 => ?_)
    refine T.callP 46 33 #[.slice A12 ((chV (decV m p (a.take 250))).length) c13, .slice A16 ((chV (decV m p (b.take 250))).length) c17] (.bool ((chV (decV m p (a.take 250))) == (chV (decV m p (b.take 250))))) (by kernel_rfl) (by kernel_rfl) ent33 (fun w hw => samec_c (chV (decV m p (a.take 250))) (chV (decV m p (b.take 250))) A12 c13 A16 c17 w (by first | omega | (simp only [chV_len]; omega) | (simp only [List.length_append, List.length_nil]; omega)) (by first | omega | (simp only [chV_len]; omega) | (simp only [List.length_append, List.length_nil]; omega)) (Arr.rd ((show Arr (St _ (Hr18 ++ (Hr14 ++ (Hr8 ++ (Hr4 ++ [(b1, Obj.cells (p).cs 24 (0, 0))]))))) A12 (chV (decV m p (a.take 250))) from (Arr.row hrow15 (rfl) (rfl) (Hr18 ++ (Hr8 ++ (Hr4 ++ [(b1, Obj.cells (p).cs 24 (0, 0))])))).weak (fun w h => h.perm (((List.Perm.refl _).append_left Hr18).trans (List.perm_append_comm_assoc _ _ _))))) hw) (Arr.rd (Arr.row hrow19 (rfl) (rfl) _) hw)) (fun _ _ => trivial) ?_
    exact T.blkEnd (by kernel_rfl) (fun w h => (h.perm ((((((List.Perm.refl _).append_left Hr14).trans (List.perm_append_comm_assoc _ _ _)).append_left Hr18).trans (List.perm_append_comm_assoc _ _ _)).trans (((((((List.Perm.refl _).append_left Hr14).trans (List.perm_append_comm_assoc _ _ _)).append_left Hr18).trans (List.perm_append_comm_assoc _ _ _)).trans ((((((List.Perm.refl _).append_left Hr14).trans List.perm_middle).append_left Hr18).trans List.perm_middle).append_left Hr4)).append_left Hr8))).part (List.Sublist.append (List.Sublist.refl _) (List.Sublist.append (List.Sublist.refl _) ((List.nil_sublist _).cons_cons _))))
  refine T.or 47 ((!(decF m p (a.take 250))) || (!(decF m p (b.take 250)))) ((chV (decV m p (a.take 250))) == (chV (decV m p (b.take 250)))) (by kernel_rfl) (by kernel_rfl) ?_
  refine T.nil ?_
  refine QN.seq ?_
  refine W.cond (((!(decF m p (a.take 250))) || (!(decF m p (b.take 250)))) || ((chV (decV m p (a.take 250))) == (chV (decV m p (b.take 250))))) (by kernel_rfl) (fun h20 => ?_) (fun h20 => ?_)
  · skip
    refine W.seq ?_
    refine W.region [(0, false), (1, false)] (by kernel_rfl) ?_
    refine T.callP 48 30 #[] (.bool (true)) (by kernel_rfl) (by kernel_rfl) ent30 (fun w hw => awake17_c w) (fun _ _ => trivial) ?_
    refine T.pure 8 (.bool (true)) (by kernel_rfl) (fun w => by kernel_rfl) ?_
    refine T.nil ?_
    refine QN.seq ?_
    refine W.ret ?_
    refine QN.thenRet ?_
    refine QN.done (.inl rfl) 8 (.bool (true)) rfl (by kernel_rfl) (fun w hw => ⟨?_, hw.below⟩)
    exact rfl
  · skip
    have h20l := (Bool.or_eq_false_iff.1 h20).1
    have h20r := (Bool.or_eq_false_iff.1 h20).2
    have h20ll := (Bool.or_eq_false_iff.1 h20l).1
    have h20lr := (Bool.or_eq_false_iff.1 h20l).2
    have h20lln := not_eq_false h20ll
    have h20lrn := not_eq_false h20lr
    refine W.skip ?_
    refine QN.seq ?_
    refine W.seq ?_
    refine W.region [(0, false)] (by kernel_rfl) ?_
    refine T.pure 13 (.int .i64 (0)) (by kernel_rfl) (fun w => by kernel_rfl) ?_
    refine T.nil ?_
    refine QN.seq ?_
    refine W.seq ?_
    refine W.seq ?_
    refine W.region [(0, false)] (by kernel_rfl) ?_
    refine T.pure 14 (.int .i64 (0)) (by kernel_rfl) (fun w => by kernel_rfl) ?_
    refine T.nil ?_
    refine QN.seq ?_
    refine W.block ?_
    refine W.loop (σ := Nat × Int) (fun gs => gs.1 ≤ (a.take 250).length ∧ gs.2 = pairM sbP ((a.take 250).take gs.1) (b.take 250)) (fun gs => [(0, .int .i64 (m)), (2, .slice A ((a.take 250).length) c), (3, .slice B ((b.take 250).length) d), (8, .bool (false)), (13, .int .i64 (gs.2)), (14, .int .i64 ((gs.1 : Int)))]) (fun gs => St w (Hr8 ++ (Hr4 ++ [(b1, Obj.cells (p).cs 24 (0, 0))]))) (fun gs => (a.take 250).length - gs.1) (0, 0) ?_ (by kernel_rfl) (fun w h => h) ?_
    · show 0 ≤ (a.take 250).length ∧ 0 = pairM sbP ((a.take 250).take 0) (b.take 250)
      exact ⟨Nat.zero_le _, rfl⟩
    rintro ⟨j, mk⟩ hI_
    obtain ⟨hj, hmk⟩ : j ≤ (a.take 250).length ∧ mk = pairM sbP ((a.take 250).take j) (b.take 250) := hI_
    show W _ _ [(0, .int .i64 (m)), (2, .slice A ((a.take 250).length) c), (3, .slice B ((b.take 250).length) d), (8, .bool (false)), (13, .int .i64 (mk)), (14, .int .i64 ((j : Int)))] (St w (Hr8 ++ (Hr4 ++ [(b1, Obj.cells (p).cs 24 (0, 0))]))) _ _
    refine W.seq ?_
    refine W.seq ?_
    refine W.region [(0, false), (1, false), (2, false), (3, false)] (by kernel_rfl) ?_
    refine T.pure 49 (.int .i64 ((j : Int))) (by kernel_rfl) (fun w => by kernel_rfl) ?_
    refine T.pure 50 (.slice A ((a.take 250).length) c) (by kernel_rfl) (fun w => by kernel_rfl) ?_
    refine T.pure 51 (.int .i64 ((((a.take 250).length : Nat) : Int))) (by kernel_rfl) (fun w => by kernel_rfl) ?_
    refine T.pure 52 (.bool (decide ((j : Int) < (((a.take 250).length : Nat) : Int)))) (by kernel_rfl) (fun w => by kernel_rfl) ?_
    refine T.nil ?_
    refine QN.seq ?_
    refine W.cond (decide ((j : Int) < (((a.take 250).length : Nat) : Int))) (by kernel_rfl) (fun h21 => ?_) (fun h21 => ?_)
    · skip
      have h21' := of_decide_eq_true h21
      have hl22 : j < (a.take 250).length := by omega
      refine W.skip ?_
      refine QN.seq ?_
      refine W.seq ?_
      refine W.block ?_
      refine W.seq ?_
      refine W.region [(0, false)] (by kernel_rfl) ?_
      refine T.pure 15 (.int .i64 (0)) (by kernel_rfl) (fun w => by kernel_rfl) ?_
      refine T.nil ?_
      refine QN.seq ?_
      refine W.block ?_
      refine W.loop (σ := Nat × Int) (fun gs => gs.1 ≤ (b.take 250).length ∧ gs.2 = pairI sbP ((a.take 250)[j]'hl22) ((b.take 250).take gs.1) mk) (fun gs => [(0, .int .i64 (m)), (2, .slice A ((a.take 250).length) c), (3, .slice B ((b.take 250).length) d), (8, .bool (false)), (13, .int .i64 (gs.2)), (14, .int .i64 ((j : Int))), (15, .int .i64 ((gs.1 : Int))), (49, .int .i64 ((j : Int))), (50, .slice A ((a.take 250).length) c), (51, .int .i64 ((((a.take 250).length : Nat) : Int))), (52, .bool (decide ((j : Int) < (((a.take 250).length : Nat) : Int))))]) (fun gs => St w (Hr8 ++ (Hr4 ++ [(b1, Obj.cells (p).cs 24 (0, 0))]))) (fun gs => (b.take 250).length - gs.1) (0, mk) ?_ (by kernel_rfl) (fun w h => h) ?_
      · show 0 ≤ (b.take 250).length ∧ mk = pairI sbP ((a.take 250)[j]'hl22) ((b.take 250).take 0) mk
        exact ⟨Nat.zero_le _, rfl⟩
      rintro ⟨k2, mk2⟩ hI_
      obtain ⟨hk2, hmk2⟩ : k2 ≤ (b.take 250).length ∧ mk2 = pairI sbP ((a.take 250)[j]'hl22) ((b.take 250).take k2) mk := hI_
      show W _ _ [(0, .int .i64 (m)), (2, .slice A ((a.take 250).length) c), (3, .slice B ((b.take 250).length) d), (8, .bool (false)), (13, .int .i64 (mk2)), (14, .int .i64 ((j : Int))), (15, .int .i64 ((k2 : Int))), (49, .int .i64 ((j : Int))), (50, .slice A ((a.take 250).length) c), (51, .int .i64 ((((a.take 250).length : Nat) : Int))), (52, .bool (decide ((j : Int) < (((a.take 250).length : Nat) : Int))))] (St w (Hr8 ++ (Hr4 ++ [(b1, Obj.cells (p).cs 24 (0, 0))]))) _ _
      refine W.seq ?_
      refine W.seq ?_
      refine W.region [(0, false), (1, false), (2, false), (3, false)] (by kernel_rfl) ?_
      refine T.pure 55 (.int .i64 ((k2 : Int))) (by kernel_rfl) (fun w => by kernel_rfl) ?_
      refine T.pure 56 (.slice B ((b.take 250).length) d) (by kernel_rfl) (fun w => by kernel_rfl) ?_
      refine T.pure 57 (.int .i64 ((((b.take 250).length : Nat) : Int))) (by kernel_rfl) (fun w => by kernel_rfl) ?_
      refine T.pure 58 (.bool (decide ((k2 : Int) < (((b.take 250).length : Nat) : Int)))) (by kernel_rfl) (fun w => by kernel_rfl) ?_
      refine T.nil ?_
      refine QN.seq ?_
      refine W.cond (decide ((k2 : Int) < (((b.take 250).length : Nat) : Int))) (by kernel_rfl) (fun h23 => ?_) (fun h23 => ?_)
      · skip
        have h23' := of_decide_eq_true h23
        have hl24 : k2 < (b.take 250).length := by omega
        refine W.skip ?_
        refine QN.seq ?_
        refine W.seq ?_
        refine W.block ?_
        refine W.seq ?_
        refine W.drawn (Ψ := St w (Hr8 ++ (Hr4 ++ [(b1, Obj.cells (p).cs 24 (0, 0))]))) (St w (Hr8 ++ (Hr4 ++ [(b1, Obj.cells (p).cs 24 (0, 0))]))) [(0, true), (1, true), (2, true), (3, true), (4, true), (5, true), (6, true), (7, true), (8, true), (9, true), (10, true), (11, true), (12, true), (13, true), (14, true), (15, true), (16, true), (17, true), (18, true), (19, true), (20, false), (21, true)] hmx (by kernel_rfl) (NoPanic.then (NoPanic.inBlock (NoPanic.then (NoPanic.then (NoPanic.inBlock (NoPanic.inBlock (NoPanic.then (NoPanic.then (NoPanic.inBlock (NoPanic.then (NoPanic.body))))))))))) (fun w h => h.drew) (fun w h => h) ?_
        refine T.pure 61 (.slice A ((a.take 250).length) c) (by kernel_rfl) (fun w => by kernel_rfl) ?_
        refine T.pure 62 (.int .i64 ((j : Int))) (by kernel_rfl) (fun w => by kernel_rfl) ?_
        obtain ⟨b25, o26, hA27, hr28⟩ := ((Rd.arr hr _).take _) j hl22
        refine T.index 63 25 43 22 A ((a.take 250).length) c ((j : Int)) (j) b25 o26 (by kernel_rfl) (by kernel_rfl) (by kernel_rfl) (by kernel_rfl) hA27 (rfl) (by omega) ?_
        refine T.pure 64 (.pointer (some ⟨b25, o26 + j * 22 + 4, none⟩)) (by kernel_rfl) (fun w => by kernel_rfl) ?_
        refine T.load true 65 (.int .i64 ((((a.take 250)[j]'hl22)).signer)) 3 b25 (o26 + j * 22 + 4) (by kernel_rfl) (by kernel_rfl) (by kernel_rfl) (fun w h => cell_of_range (hr28 w h) 4 (by kernel_rfl)) ?_
        refine T.pure 66 (.slice B ((b.take 250).length) d) (by kernel_rfl) (fun w => by kernel_rfl) ?_
        refine T.pure 67 (.int .i64 ((k2 : Int))) (by kernel_rfl) (fun w => by kernel_rfl) ?_
        obtain ⟨b29, o30, hA31, hr32⟩ := ((Rd.arr hrb _).take _) k2 hl24
        refine T.index 68 25 43 22 B ((b.take 250).length) d ((k2 : Int)) (k2) b29 o30 (by kernel_rfl) (by kernel_rfl) (by kernel_rfl) (by kernel_rfl) hA31 (rfl) (by omega) ?_
        refine T.pure 69 (.pointer (some ⟨b29, o30 + k2 * 22 + 4, none⟩)) (by kernel_rfl) (fun w => by kernel_rfl) ?_
        refine T.load true 70 (.int .i64 ((((b.take 250)[k2]'hl24)).signer)) 3 b29 (o30 + k2 * 22 + 4) (by kernel_rfl) (by kernel_rfl) (by kernel_rfl) (fun w h => cell_of_range (hr32 w h) 4 (by kernel_rfl)) ?_
        refine T.pure 71 (.bool (((((a.take 250)[j]'hl22)).signer) == ((((b.take 250)[k2]'hl24)).signer))) (by kernel_rfl) (fun w => by kernel_rfl) ?_
        refine T.pure 72 (.bool (((((a.take 250)[j]'hl22)).signer) == ((((b.take 250)[k2]'hl24)).signer))) (by kernel_rfl) (fun w => by kernel_rfl) ?_
        refine T.blk [(12, true), (13, true), (14, true), (15, true), (16, true), (17, true), (18, true), (19, true), (20, false)] [(21, true)] 11 true (((((a.take 250)[j]'hl22)).signer) == ((((b.take 250)[k2]'hl24)).signer)) 72 81 (.bool (confB ((a.take 250)[j]'hl22) ((b.take 250)[k2]'hl24))) (by kernel_rfl) (by kernel_rfl) (by kernel_rfl) (fun hg33 => ?_) ?_
        · have hg33_ := hg33
          refine T.pure 73 (.slice A ((a.take 250).length) c) (by kernel_rfl) (fun w => by kernel_rfl) ?_
          refine T.pure 74 (.int .i64 ((j : Int))) (by kernel_rfl) (fun w => by kernel_rfl) ?_
          obtain ⟨b34, o35, hA36, hr37⟩ := ((Rd.arr hr _).take _) j hl22
          refine T.index 75 25 43 22 A ((a.take 250).length) c ((j : Int)) (j) b34 o35 (by kernel_rfl) (by kernel_rfl) (by kernel_rfl) (by kernel_rfl) hA36 (rfl) (by omega) ?_
          refine T.loadR true 76 (((a.take 250)[j]'hl22)).cs 43 b34 (o35 + j * 22) (by kernel_rfl) (by kernel_rfl) (by kernel_rfl) (by kernel_rfl) hr37 ?_
          refine T.pure 77 (.slice B ((b.take 250).length) d) (by kernel_rfl) (fun w => by kernel_rfl) ?_
          refine T.pure 78 (.int .i64 ((k2 : Int))) (by kernel_rfl) (fun w => by kernel_rfl) ?_
          obtain ⟨b38, o39, hA40, hr41⟩ := ((Rd.arr hrb _).take _) k2 hl24
          refine T.index 79 25 43 22 B ((b.take 250).length) d ((k2 : Int)) (k2) b38 o39 (by kernel_rfl) (by kernel_rfl) (by kernel_rfl) (by kernel_rfl) hA40 (rfl) (by omega) ?_
          refine T.loadR true 80 (((b.take 250)[k2]'hl24)).cs 43 b38 (o39 + k2 * 22) (by kernel_rfl) (by kernel_rfl) (by kernel_rfl) (by kernel_rfl) hr41 ?_
          refine T.callP 81 25 #[.agg (((a.take 250)[j]'hl22)).cs, .agg (((b.take 250)[k2]'hl24)).cs] (.bool (confB ((a.take 250)[j]'hl22) ((b.take 250)[k2]'hl24))) (by kernel_rfl) (by kernel_rfl) ent25 (fun w hw => conflict_c _ _ w) (fun w h => h) ?_
          exact T.blkEnd (by kernel_rfl) (fun w h => h)
        refine T.and 82 (((((a.take 250)[j]'hl22)).signer) == ((((b.take 250)[k2]'hl24)).signer)) (confB ((a.take 250)[j]'hl22) ((b.take 250)[k2]'hl24)) (by kernel_rfl) (by kernel_rfl) ?_
        refine T.nil ?_
        refine QN.seq ?_
        refine W.cond ((((((a.take 250)[j]'hl22)).signer) == ((((b.take 250)[k2]'hl24)).signer)) && (confB ((a.take 250)[j]'hl22) ((b.take 250)[k2]'hl24))) (by kernel_rfl) (fun h42 => ?_) (fun h42 => ?_)
        · skip
          have h42l := (Bool.and_eq_true_iff.1 h42).1
          have h42r := (Bool.and_eq_true_iff.1 h42).2
          refine W.region [(0, false), (1, false), (2, false), (3, false), (4, false), (5, false), (6, false), (7, false), (8, false), (9, false)] (by kernel_rfl) ?_
          refine T.pure 83 (.int .i64 (mk2)) (by kernel_rfl) (fun w => by kernel_rfl) ?_
          refine T.pure 84 (.slice A ((a.take 250).length) c) (by kernel_rfl) (fun w => by kernel_rfl) ?_
          refine T.pure 85 (.int .i64 ((j : Int))) (by kernel_rfl) (fun w => by kernel_rfl) ?_
          obtain ⟨b43, o44, hA45, hr46⟩ := ((Rd.arr hr _).take _) j hl22
          refine T.index 86 25 43 22 A ((a.take 250).length) c ((j : Int)) (j) b43 o44 (by kernel_rfl) (by kernel_rfl) (by kernel_rfl) (by kernel_rfl) hA45 (rfl) (by omega) ?_
          refine T.pure 87 (.pointer (some ⟨b43, o44 + j * 22 + 4, none⟩)) (by kernel_rfl) (fun w => by kernel_rfl) ?_
          refine T.load false 88 (.int .i64 ((((a.take 250)[j]'hl22)).signer)) 3 b43 (o44 + j * 22 + 4) (by kernel_rfl) (by kernel_rfl) (by kernel_rfl) (fun w h => cell_of_range (hr46 w h) 4 (by kernel_rfl)) ?_
          have hsg := sbP_sg _ _ h42
          refine T.pureE 89 (.int .u64 (IntKind.u64.wrap ((((a.take 250)[j]'hl22)).signer))) (.int .u64 ((((a.take 250)[j]'hl22)).signer)) (by kernel_rfl) (fun w => by kernel_rfl) (wrapu_int (by omega) (by omega)) ?_
          refine T.shl 90 .i64 .u64 1 ((((a.take 250)[j]'hl22)).signer) (.int .i64 (2 ^ ((((a.take 250)[j]'hl22)).signer).toNat)) (by kernel_rfl) (by kernel_rfl) (by omega) (shl_one (by omega) (by omega)) ?_
          refine T.pure 91 (.int .i64 (bits .or .i64 mk2 (2 ^ ((((a.take 250)[j]'hl22)).signer).toNat))) (by kernel_rfl) (fun w => by kernel_rfl) ?_
          refine T.pure 13 (.int .i64 (bits .or .i64 mk2 (2 ^ ((((a.take 250)[j]'hl22)).signer).toNat))) (by kernel_rfl) (fun w => by kernel_rfl) ?_
          refine T.nil ?_
          refine QN.blkNormal ?_
          refine QN.seq ?_
          refine W.region [(0, false), (1, false), (2, false)] (by kernel_rfl) ?_
          refine T.pure 59 (.int .i64 ((k2 : Int))) (by kernel_rfl) (fun w => by kernel_rfl) ?_
          refine T.pureE 60 (.int .i64 (IntKind.i64.wrap ((k2 : Int) + 1))) (.int .i64 ((k2 : Int) + 1)) (by kernel_rfl) (fun w => by kernel_rfl) (wrap_int (by omega) (by omega)) ?_
          refine T.pure 15 (.int .i64 ((k2 : Int) + 1)) (by kernel_rfl) (fun w => by kernel_rfl) ?_
          refine T.nil ?_
          refine QN.back (k2 + 1, bits .or .i64 mk2 (2 ^ ((((a.take 250)[j]'hl22)).signer).toNat)) ?_ ?_ (by kernel_rfl) (fun w h => h)
          · show (k2 + 1) ≤ (b.take 250).length ∧ (bits .or .i64 mk2 (2 ^ ((((a.take 250)[j]'hl22)).signer).toNat)) = pairI sbP ((a.take 250)[j]'hl22) ((b.take 250).take (k2 + 1)) mk
            refine ⟨by omega, ?_⟩; rw [← pairI_step hmk2 (by omega)]; have hb : sbP ((a.take 250)[j]'hl22) _ = _ := h42; rw [hb]; all_goals rfl
          · show (b.take 250).length - (k2 + 1) < (b.take 250).length - k2; omega
        · skip
          refine W.skip ?_
          refine QN.blkNormal ?_
          refine QN.seq ?_
          refine W.region [(0, false), (1, false), (2, false)] (by kernel_rfl) ?_
          refine T.pure 59 (.int .i64 ((k2 : Int))) (by kernel_rfl) (fun w => by kernel_rfl) ?_
          refine T.pureE 60 (.int .i64 (IntKind.i64.wrap ((k2 : Int) + 1))) (.int .i64 ((k2 : Int) + 1)) (by kernel_rfl) (fun w => by kernel_rfl) (wrap_int (by omega) (by omega)) ?_
          refine T.pure 15 (.int .i64 ((k2 : Int) + 1)) (by kernel_rfl) (fun w => by kernel_rfl) ?_
          refine T.nil ?_
          refine QN.back (k2 + 1, mk2) ?_ ?_ (by kernel_rfl) (fun w h => h)
          · show (k2 + 1) ≤ (b.take 250).length ∧ mk2 = pairI sbP ((a.take 250)[j]'hl22) ((b.take 250).take (k2 + 1)) mk
            refine ⟨by omega, ?_⟩; rw [← pairI_step hmk2 (by omega)]; have hb : sbP ((a.take 250)[j]'hl22) _ = _ := h42; rw [hb]; all_goals rfl
          · show (b.take 250).length - (k2 + 1) < (b.take 250).length - k2; omega
      · skip
        have h23' := of_decide_eq_false h23
        refine W.exit ?_
        refine QN.thenExit ?_
        refine QN.thenExit ?_
        refine QN.blkHit ?_
        refine QN.blkNormal ?_
        refine QN.seq ?_
        refine W.region [(0, false), (1, false), (2, false)] (by kernel_rfl) ?_
        refine T.pure 53 (.int .i64 ((j : Int))) (by kernel_rfl) (fun w => by kernel_rfl) ?_
        refine T.pureE 54 (.int .i64 (IntKind.i64.wrap ((j : Int) + 1))) (.int .i64 ((j : Int) + 1)) (by kernel_rfl) (fun w => by kernel_rfl) (wrap_int (by omega) (by omega)) ?_
        refine T.pure 14 (.int .i64 ((j : Int) + 1)) (by kernel_rfl) (fun w => by kernel_rfl) ?_
        refine T.nil ?_
        refine QN.back (j + 1, mk2) ?_ ?_ (by kernel_rfl) (fun w h => h)
        · show (j + 1) ≤ (a.take 250).length ∧ mk2 = pairM sbP ((a.take 250).take (j + 1)) (b.take 250)
          refine ⟨by omega, ?_⟩; rw [← pairM_step hmk (by omega), hmk2, take_end (l := b.take 250) (by omega)]
        · show (a.take 250).length - (j + 1) < (a.take 250).length - j; omega
    · skip
      have h21' := of_decide_eq_false h21
      refine W.exit ?_
      refine QN.thenExit ?_
      refine QN.thenExit ?_
      refine QN.blkHit ?_
      refine QN.seq ?_
      refine W.seq ?_
      refine W.region [(0, false), (1, false), (2, false)] (by kernel_rfl) ?_
      refine T.pure 92 (.int .i64 (m)) (by kernel_rfl) (fun w => by kernel_rfl) ?_
      refine T.callP 93 13 #[.int .i64 (m)] (.int .i64 ((size m : Int))) (by kernel_rfl) (by kernel_rfl) ent13 (fun w hw => Ret.same (size_c _ w)) (fun _ _ => trivial) ?_
      refine T.pure 16 (.int .i64 ((size m : Int))) (by kernel_rfl) (fun w => by kernel_rfl) ?_
      refine T.nil ?_
      refine QN.seq ?_
      refine W.seq ?_
      refine W.region [(0, false), (1, false), (2, false), (3, false), (4, false), (5, false), (6, false), (7, false), (8, false), (9, false), (10, false), (11, false), (12, false), (13, false), (14, false), (15, false), (16, false), (17, false), (18, false), (19, false), (20, false), (21, false), (22, false)] (by kernel_rfl) ?_
      refine T.pure 94 (.int .i64 (mk)) (by kernel_rfl) (fun w => by kernel_rfl) ?_
      refine T.pure 95 (.int .i64 (m)) (by kernel_rfl) (fun w => by kernel_rfl) ?_
      refine T.pure 96 (.int .i64 (bits .and .i64 mk m)) (by kernel_rfl) (fun w => by kernel_rfl) ?_
      refine T.callP 97 13 #[.int .i64 (bits .and .i64 mk m)] (.int .i64 ((size (bits .and .i64 mk m) : Int))) (by kernel_rfl) (by kernel_rfl) ent13 (fun w hw => Ret.same (size_c _ w)) (fun _ _ => trivial) ?_
      refine T.pure 98 (.int .i64 ((size m : Int))) (by kernel_rfl) (fun w => by kernel_rfl) ?_
      refine T.callP 99 15 #[.int .i64 ((size m : Int))] (.int .i64 (quorum (size m : Int))) (by kernel_rfl) (by kernel_rfl) ent15 (fun w hw => Ret.same (quorum_c _ w (by unfold W64; omega))) (fun _ _ => trivial) ?_
      refine T.pureE 100 (.int .i64 (IntKind.i64.wrap (2 * (quorum (size m : Int))))) (.int .i64 (2 * (quorum (size m : Int)))) (by kernel_rfl) (fun w => by kernel_rfl) (wrap_int (by omega) (by omega)) ?_
      refine T.pure 101 (.int .i64 ((size m : Int))) (by kernel_rfl) (fun w => by kernel_rfl) ?_
      refine T.pureE 102 (.int .i64 (IntKind.i64.wrap ((2 * (quorum (size m : Int))) - (size m : Int)))) (.int .i64 ((2 * (quorum (size m : Int))) - (size m : Int))) (by kernel_rfl) (fun w => by kernel_rfl) (wrap_int (by omega) (by omega)) ?_
      refine T.pure 103 (.bool (decide (((2 * (quorum (size m : Int))) - (size m : Int)) ≤ (size (bits .and .i64 mk m) : Int)))) (by kernel_rfl) (fun w => by kernel_rfl) ?_
      refine T.pure 104 (.bool (decide (((2 * (quorum (size m : Int))) - (size m : Int)) ≤ (size (bits .and .i64 mk m) : Int)))) (by kernel_rfl) (fun w => by kernel_rfl) ?_
      refine T.blk [(11, false), (12, false), (13, false), (14, false), (15, false), (16, false), (17, false)] [(18, false), (19, false), (20, false), (21, false), (22, false)] 10 true (decide (((2 * (quorum (size m : Int))) - (size m : Int)) ≤ (size (bits .and .i64 mk m) : Int))) 104 111 (.bool (decide ((third (size m : Int)) ≤ (size (bits .and .i64 mk m) : Int)))) (by kernel_rfl) (by kernel_rfl) (by kernel_rfl) (fun hg47 => ?_) ?_
      · have hg47_ := hg47
        have hg47' := of_decide_eq_true hg47
        refine T.pure 105 (.int .i64 (mk)) (by kernel_rfl) (fun w => by kernel_rfl) ?_
        refine T.pure 106 (.int .i64 (m)) (by kernel_rfl) (fun w => by kernel_rfl) ?_
        refine T.pure 107 (.int .i64 (bits .and .i64 mk m)) (by kernel_rfl) (fun w => by kernel_rfl) ?_
        refine T.callP 108 13 #[.int .i64 (bits .and .i64 mk m)] (.int .i64 ((size (bits .and .i64 mk m) : Int))) (by kernel_rfl) (by kernel_rfl) ent13 (fun w hw => Ret.same (size_c _ w)) (fun _ _ => trivial) ?_
        refine T.pure 109 (.int .i64 ((size m : Int))) (by kernel_rfl) (fun w => by kernel_rfl) ?_
        refine T.callP 110 24 #[.int .i64 ((size m : Int))] (.int .i64 (third (size m : Int))) (by kernel_rfl) (by kernel_rfl) ent24 (fun w hw => Ret.same (third_c _ w (by unfold W64; omega))) (fun _ _ => trivial) ?_
        refine T.pure 111 (.bool (decide ((third (size m : Int)) ≤ (size (bits .and .i64 mk m) : Int)))) (by kernel_rfl) (fun w => by kernel_rfl) ?_
        exact T.blkEnd (by kernel_rfl) (fun w h => h)
      refine T.and 112 (decide (((2 * (quorum (size m : Int))) - (size m : Int)) ≤ (size (bits .and .i64 mk m) : Int))) (decide ((third (size m : Int)) ≤ (size (bits .and .i64 mk m) : Int))) (by kernel_rfl) (by kernel_rfl) ?_
      refine T.pure 113 (.bool ((decide (((2 * (quorum (size m : Int))) - (size m : Int)) ≤ (size (bits .and .i64 mk m) : Int))) && (decide ((third (size m : Int)) ≤ (size (bits .and .i64 mk m) : Int))))) (by kernel_rfl) (fun w => by kernel_rfl) ?_
      refine T.blk [(20, false)] [(21, false), (22, false)] 19 true ((decide (((2 * (quorum (size m : Int))) - (size m : Int)) ≤ (size (bits .and .i64 mk m) : Int))) && (decide ((third (size m : Int)) ≤ (size (bits .and .i64 mk m) : Int)))) 113 114 (.bool (true)) (by kernel_rfl) (by kernel_rfl) (by kernel_rfl) (fun hg48 => ?_) ?_
      · have hg48_ := hg48
        have hg48l := (Bool.and_eq_true_iff.1 hg48).1
        have hg48r := (Bool.and_eq_true_iff.1 hg48).2
        have hg48l' := of_decide_eq_true hg48l
        have hg48r' := of_decide_eq_true hg48r
        refine T.callP 114 30 #[] (.bool (true)) (by kernel_rfl) (by kernel_rfl) ent30 (fun w hw => awake17_c w) (fun _ _ => trivial) ?_
        exact T.blkEnd (by kernel_rfl) (fun w h => h)
      refine T.and 115 ((decide (((2 * (quorum (size m : Int))) - (size m : Int)) ≤ (size (bits .and .i64 mk m) : Int))) && (decide ((third (size m : Int)) ≤ (size (bits .and .i64 mk m) : Int)))) (true) (by kernel_rfl) (by kernel_rfl) ?_
      refine T.pure 8 (.bool (((decide (((2 * (quorum (size m : Int))) - (size m : Int)) ≤ (size (bits .and .i64 mk m) : Int))) && (decide ((third (size m : Int)) ≤ (size (bits .and .i64 mk m) : Int)))) && true)) (by kernel_rfl) (fun w => by kernel_rfl) ?_
      refine T.nil ?_
      refine QN.seq ?_
      refine W.ret ?_
      refine QN.done (.inl rfl) 8 (.bool (((decide (((2 * (quorum (size m : Int))) - (size m : Int)) ≤ (size (bits .and .i64 mk m) : Int))) && (decide ((third (size m : Int)) ≤ (size (bits .and .i64 mk m) : Int)))) && true)) rfl (by kernel_rfl) (fun w hw => ⟨?_, hw.below⟩)
      exact ret_bool (sbacc_w h20 (by rw [hmk, take_end (by omega)]))
theorem SuperblockAccounts_w (w : World) (a0 : Int) (v1 : Value) (x1 : Nm) (v2 : Value) (x2 : List Vt) (v3 : Value) (x3 : List Vt) (h0 : W64 a0) (h1 : v1 = .agg x1.cs) (h2 : VS w v2 x2) (h3 : VS w v3 x3) : Calls Try.prog 10 #[.int .i64 a0, v1, v2, v3] w fun e w' => e = .returned (.bool true) ∧ Below w.heap.size w w' := by
  obtain rfl := h1
  obtain ⟨A2, c2, rfl, l2, m2, r2, k2⟩ := h2
  obtain ⟨A3, c3, rfl, l3, m3, r3, k3⟩ := h3
  exact SuperblockAccounts_c _ _ _ _ _ _ _ _ w h0 k2 k3 l2 m2 r2.rd l3 m3 r3.rd
end Go.Proofs.Ytnagichfngogkaa
