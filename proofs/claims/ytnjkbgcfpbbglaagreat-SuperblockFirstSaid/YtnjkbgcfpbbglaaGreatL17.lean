/- The walks of the laws of the superblock. -/
import Derived.Test.YtnjkbgcfpbbglaaGreatSb
import Derived.Test.YtnjkbgcfpbbglaaGreatGJ
import Derived.Test.YtnjkbgcfpbbglaaGreatGE
namespace Go.Proofs.YtnjkbgcfpbbglaaGreat
open Go Go.RowKit
set_option linter.unusedVariables false

theorem take_allcut17_c {α : Type} {l : List α} (h : ¬ (250 : Int) < (l.length : Int)) : (l.take 250).length = l.length := by simp; omega
set_option maxRecDepth 100000 in
set_option maxHeartbeats 2000000 in
theorem cut17_c (l : List Vt) (A : Option Addr) (c : Nat) (w : World) (h1 : l.length ≤ c) (h2 : c ≤ maxLen) (hr : Rd w A l) : Calls Tryz.prog 47 #[.slice A (l.length) c] w (fun rr w' => rr = .returned (.slice A ((l.take 250).length) c) ∧ Below w.heap.size w w') := by
 refine calls_W (n := 9) Tryz.func47 rfl [(0, .slice A (l.length) c)] rfl ⟨by kernel_rfl, by kernel_rfl⟩ (W.weak (Ψ := St w []) (fun w' h => by rw [h]; exact St.start w) (W.seq (W.rg od1 (T.pu 2 (.slice none (0) 0) (T.nil (QN.seq (W.seq (W.seq (W.rg od3 (T.pu 3 (.slice A (l.length) c) (T.pi 4 ((l.length : Nat) : Int) (T.pb 5 (decide (250 < ((l.length : Nat) : Int))) (T.nil (QN.seq (W.cd (decide (250 < ((l.length : Nat) : Int))) (fun h1 => ?_) (fun h1 => ?_))))))))))))))))
 ·
  have h1' := of_decide_eq_true h1
  refine W.seq (W.rg od3 (T.pu 6 (.slice A (l.length) c) ?_))
  have hsl2 : (l.take 250).length = 250 := by first | (simp; done) | (simp; omega)
  refine T.sliceTo 7 25 47 A (l.length) c (250) ((l.take 250).length) (by kernel_rfl) (by kernel_rfl) (by kernel_rfl) (by kernel_rfl) (by omega) (by omega) (T.pu 2 (.slice A ((l.take 250).length) c) (T.nil (QN.seq (W.ret (QN.thenRet (QN.done (.inl rfl) 2 (.slice A ((l.take 250).length) c) rfl (by kernel_rfl) (fun w hw => ⟨?_, hw.below⟩)))))))
  exact rfl
 ·
  have h1' := of_decide_eq_false h1
  refine W.skip (QN.seq (W.seq (W.rg od2 (T.pu 8 (.slice A (l.length) c) (T.pu 2 (.slice A (l.length) c) (T.nil (QN.seq (W.ret (QN.done (.inl rfl) 2 (.slice A (l.length) c) rfl (by kernel_rfl) (fun w hw => ⟨?_, hw.below⟩))))))))))
  exact congrArg (fun n => Ending.returned (.slice A n c)) (take_allcut17_c (by omega)).symm
theorem decV_len (m : Int) (p : Nm) (l : List Vt) : (decV m p l).length ≤ 10 := by
  have := idsI_len m
  unfold decV
  split
  · rw [List.length_map]; exact this
  · simp
theorem hd_mem {m : Int} {p : Nm} {l : List Vt} {i : Int} (h : neV m p l i = true) : hdV m p l i ∈ outV m p l i := by
  unfold neV at h
  simp only [Bool.not_eq_true', beq_eq_false_iff_ne] at h
  have h0 : 0 < (outV m p l i).length := by omega
  unfold hdV
  rw [getElem!_pos (outV m p l i) 0 h0]
  exact List.getElem_mem _
theorem decF_ok {m : Int} {p : Nm} {l : List Vt} (h : decF m p l = true) : decOK m p l = true ∧ 0 < (idsI m).length ∧ decV m p l = (idsI m).map (hdV m p l) := by
  unfold decF at h
  simp only [Bool.and_eq_true, decide_eq_true_eq] at h
  exact ⟨h.1, by omega, by unfold decV; rw [if_pos h.1]⟩
theorem dec_each {m : Int} {p : Nm} {l : List Vt} (h : decOK m p l = true) {i : Int} (hi : i ∈ idsI m) : hdV m p l i ∈ outV m p l i := hd_mem (List.all_eq_true.1 h i hi)
theorem zip_map {α β : Type} (l : List α) (g : α → β) (P : α × β → Bool) : (l.zip (l.map g)).all P = l.all (fun i => P (i, g i)) := by
  induction l with
  | nil => rfl
  | cons a l ih => simp only [List.map_cons, List.zip_cons_cons, List.all_cons, ih]
theorem crt_dec {m : Int} {p : Nm} {l l' : List Vt} (hs : ∀ u ∈ l, u ∈ l') (h : decF m p l = true) : crtB m p l' (chV (decV m p l)) = true := by
  obtain ⟨h1, h2, h3⟩ := decF_ok h
  have h4 := idsI_length m
  unfold crtB
  have e1 : (chV (decV m p l)).length = size m := by rw [chV_len, h3, List.length_map, h4]
  have e2 : ((((size m : Nat) : Int) != ((((chV (decV m p l)).length : Nat)) : Int)) || (((((chV (decV m p l)).length : Nat)) : Int) == 0)) = false := by
    rw [e1]; simp; omega
  rw [e2, cond_false, h3]
  unfold chV
  rw [List.map_map, zip_map, List.all_eq_true]
  intro i hi
  have hm := dec_each h1 hi
  have hsl := out_slot hm
  have : (outV m p l' i).any (fun (o : Oc) => o.val == (hdV m p l i).val) = true := List.any_eq_true.2 ⟨_, outV_mono hs hm, by simp⟩
  simp only [crP, Function.comp, chOf, hsl, this]
  simp
theorem crt_mono {m : Int} {p : Nm} {l l' : List Vt} {cs : List Ch} (hs : ∀ u ∈ l, u ∈ l') (h : crtB m p l cs = true) : crtB m p l' cs = true := by
  unfold crtB at *
  cases hc : ((((size m : Nat) : Int) != (((cs.length : Nat)) : Int)) || ((((cs.length : Nat)) : Int) == 0)) with
  | true => rw [hc] at h; cases h
  | false =>
    rw [hc, cond_false, List.all_eq_true] at h
    rw [cond_false, List.all_eq_true]
    intro z hz
    have h1 := h z hz
    unfold crP at *
    simp only [Bool.not_eq_true', Bool.or_eq_false_iff, Bool.not_eq_false', List.any_eq_true] at *
    obtain ⟨h2, o, ho, h3⟩ := h1
    exact ⟨h2, o, outV_mono hs ho, h3⟩
theorem sgrow1 {m : Int} {p : Nm} {l l' : List Vt} (hs : ∀ u ∈ l, u ∈ l') (h : ((decF m p l) && (!(crtB m p l' (chV (decV m p l))))) = true) : False := by
  rw [Bool.and_eq_true] at h
  rw [crt_dec hs h.1] at h
  simp at h
theorem sgrow2 {m : Int} {p : Nm} {l l' : List Vt} {cs : List Ch} (hs : ∀ u ∈ l, u ∈ l') : (((!(crtB m p l cs)) || (crtB m p l' cs)) && true) = true := by
  cases h : crtB m p l cs with
  | false => rfl
  | true => rw [crt_mono hs h]; rfl
def poV (m : Int) (p : Nm) (l : List Vt) (i : Int) : Bool := decide (0 < ((((outV m p l i).length : Nat)) : Int))
theorem po_ne (m : Int) (p : Nm) (l : List Vt) (i : Int) : poV m p l i = neV m p l i := by
  unfold poV neV
  rw [Bool.eq_iff_iff]
  simp only [decide_eq_true_eq, Bool.not_eq_true', beq_eq_false_iff_ne]
  omega
theorem wh_step {m : Int} {p : Nm} {l : List Vt} {wh b : Bool} {j : Nat} (h : wh = (b && ((idsI m).take j).all (poV m p l))) (hj : j < (idsI m).length) : (wh && (decide (0 < ((((outV m p l (idsI m)[j]).length : Nat)) : Int)))) = (b && ((idsI m).take (j + 1)).all (poV m p l)) := by
  rw [List.take_succ_eq_append_getElem hj, List.all_append, h]
  simp [poV, Bool.and_assoc]
theorem wh_dec {m : Int} {p : Nm} {l : List Vt} {wh : Bool} (h : wh = (decide (0 < ((((idsI m).length : Nat)) : Int)) && (idsI m).all (poV m p l))) : wh = decF m p l := by
  rw [h]
  unfold decF decOK
  rw [show poV m p l = neV m p l from funext fun i => po_ne m p l i, Bool.and_comm]
theorem sdec1 {m : Int} {p : Nm} {l : List Vt} {wh : Bool} (h : wh = (decide (0 < ((((idsI m).length : Nat)) : Int)) && (idsI m).all (poV m p l))) (h2 : (((decF m p l) != wh) || ((!(decF m p l)) && (((((decV m p l).length : Nat)) : Int) != 0))) = true) : False := by
  rw [wh_dec h] at h2
  cases hd : decF m p l with
  | true => rw [hd] at h2; simp at h2
  | false =>
    rw [hd] at h2
    simp only [bne_self_eq_false, Bool.not_false, Bool.true_and, Bool.false_or, bne_iff_ne] at h2
    apply h2
    unfold decF at hd
    unfold decV
    split
    · rename_i hk
      rw [hk] at hd
      simp only [Bool.true_and, decide_eq_false_iff_not] at hd
      rw [List.length_map]; omega
    · rfl
theorem sdec2 {m : Int} {p : Nm} {l : List Vt} (h : (!(decF m p l)) = false) (h2 : (((((decV m p l).length : Nat)) : Int) != ((((idsI m).length : Nat)) : Int)) = true) : False := by
  obtain ⟨_, _, h3⟩ := decF_ok (not_eq_false h)
  rw [h3] at h2; simp at h2
theorem sdec3 {m : Int} {p : Nm} {l : List Vt} {j : Nat} {hj : j < (decV m p l).length} {hj2 : j < (idsI m).length} (h : (((((decV m p l).length : Nat)) : Int) != ((((idsI m).length : Nat)) : Int)) = false) (h2 : (((decV m p l)[j].slot != (idsI m)[j]) || (!(decB m p l (decV m p l)[j]))) = true) : False := by
  have hok : decOK m p l = true := by
    by_cases hk : decOK m p l = true
    · exact hk
    · exfalso
      have : decV m p l = [] := by unfold decV; rw [if_neg hk]
      rw [this] at hj; simp at hj
  have h3 : decV m p l = (idsI m).map (hdV m p l) := by unfold decV; rw [if_pos hok]
  have h4 : (decV m p l)[j] = hdV m p l (idsI m)[j] := by simp [h3]
  have hm := dec_each hok (List.getElem_mem hj2)
  have hsl := out_slot hm
  have h5 : decB m p l (decV m p l)[j] = true := by rw [decB_iff, h4, hsl]; exact hm
  rw [h5, h4, hsl] at h2
  simp at h2
theorem sdec4 {m : Int} {p : Nm} {l : List Vt} (h : (!(decF m p l)) = false) : ((crtB m p l (chV (decV m p l))) && true) = true := by
  rw [crt_dec (fun u hu => hu) (not_eq_false h)]; rfl
def sbP (u z : Vt) : Bool := (u.signer == z.signer) && (confB u z)
theorem sbP_sg (u z : Vt) (h : sbP u z = true) : 0 ≤ u.signer ∧ u.signer < 10 := by
  unfold sbP at h
  rw [Bool.and_eq_true] at h
  exact valid_signer (conf_out h.2).2.1
theorem sbacc_w {m : Int} {p : Nm} {l l' : List Vt} {mk : Int} (h : (((!(decF m p l)) || (!(decF m p l'))) || ((chV (decV m p l)) == (chV (decV m p l')))) = false) (hmk : mk = pairM sbP l l') :
    (((decide ((2 * quorum (size m)) - (size m : Int) ≤ (size (bits .and .i64 mk m) : Int))) && (decide (third (size m) ≤ (size (bits .and .i64 mk m) : Int)))) && true) = true := by
  subst hmk
  simp only [Bool.or_eq_false_iff, Bool.not_eq_false', beq_eq_false_iff_ne] at h
  obtain ⟨⟨h1, h2⟩, h3⟩ := h
  obtain ⟨a1, _, a3⟩ := decF_ok h1
  obtain ⟨b1, _, b3⟩ := decF_ok h2
  have hex : ∃ i ∈ idsI m, (hdV m p l i).val ≠ (hdV m p l' i).val := by
    apply Classical.byContradiction
    intro hn
    apply h3
    rw [a3, b3]
    unfold chV
    rw [List.map_map, List.map_map]
    refine List.map_congr_left fun i hi => ?_
    have e : (hdV m p l i).val = (hdV m p l' i).val := by
      apply Classical.byContradiction
      intro hne
      exact hn ⟨i, hi, hne⟩
    simp only [Function.comp, chOf, out_slot (dec_each a1 hi), out_slot (dec_each b1 hi), e]
  obtain ⟨i, hi, hne⟩ := hex
  obtain ⟨X, h4, h5⟩ := accounts (dec_each a1 hi) (dec_each b1 hi) (fun e => hne e.2)
  have h6 : size X ≤ size (bits .and .i64 (pairM sbP l l') m) := by
    refine size_mono fun k hk hm => ?_
    obtain ⟨g0, u, hu, z, hz, e1, e2, e3, e4⟩ := h5 k hk hm
    rw [mb_and, g0, Bool.and_true, mb_pairM sbP_sg _ _ _ hk, List.any_eq_true]
    refine ⟨u, (accV_mem (acc_own u hu)).1, List.any_eq_true.2 ⟨z, (accV_mem (acc_own z hz)).1, ?_⟩⟩
    unfold sbP
    rw [e4, e1, e2]; simp
  have ht := third_le (size m)
  simp only [Bool.and_true, Bool.and_eq_true, decide_eq_true_eq]
  omega
set_option maxRecDepth 100000 in
set_option maxHeartbeats 2000000 in
theorem awake17_c (w : World) : Calls Tryz.prog 50 #[] w (fun rr w' => rr = .returned (.bool (true)) ∧ Below w.heap.size w w') := by
 refine calls_W (n := 39) Tryz.func50 rfl [] rfl ⟨by kernel_rfl, by kernel_rfl⟩ (W.weak (Ψ := St w []) (fun w' h => by rw [h]; exact St.start w) (W.seq (W.rg od1 (T.pb 0 false (T.nil (QN.seq (W.seq (W.rg od4 (T.pu 6 (.agg ((⟨3, 0, 1, 0, 0, 0, Nm.zero, Nm.zero⟩ : Vt)).cs) (T.pu 7 (.agg ((⟨4, 0, 1, 0, 0, 1, Nm.zero, Nm.zero⟩ : Vt)).cs) (T.lit 8 25 47 2 #[(0, .agg ((⟨3, 0, 1, 0, 0, 0, Nm.zero, Nm.zero⟩ : Vt)).cs), (1, .agg ((⟨4, 0, 1, 0, 0, 1, Nm.zero, Nm.zero⟩ : Vt)).cs)] (cells ([(⟨3, 0, 1, 0, 0, 0, Nm.zero, Nm.zero⟩ : Vt), (⟨4, 0, 1, 0, 0, 1, Nm.zero, Nm.zero⟩ : Vt)] : List Vt)).toArray (by kernel_rfl) (by kernel_rfl) (by kernel_rfl) (by kernel_rfl) (fun _ _ _ => trivial) (fun b1 => T.pu 1 (.slice (some ⟨b1, 0, none⟩) (2) 2) (T.nil (QN.seq (W.seq (W.rg od8 (T.pu 10 (.agg (Nm.zero).cs) (T.pu 11 (.slice (some ⟨b1, 0, none⟩) (2) 2) (T.callG (β := Option Addr × Nat × List (Nat × Obj)) 12 90 #[.int .i64 1, .agg (Nm.zero).cs, .slice (some ⟨b1, 0, none⟩) (2) 2] (fun gs => .tuple #[.slice gs.1 ((decV 1 Nm.zero ([(⟨3, 0, 1, 0, 0, 0, Nm.zero, Nm.zero⟩ : Vt), (⟨4, 0, 1, 0, 0, 1, Nm.zero, Nm.zero⟩ : Vt)])).length) gs.2.1, .bool (decF 1 Nm.zero ([(⟨3, 0, 1, 0, 0, 0, Nm.zero, Nm.zero⟩ : Vt), (⟨4, 0, 1, 0, 0, 1, Nm.zero, Nm.zero⟩ : Vt)]))]) (fun gs => St w (gs.2.2 ++ [(b1, Obj.cells (cells ([(⟨3, 0, 1, 0, 0, 0, Nm.zero, Nm.zero⟩ : Vt), (⟨4, 0, 1, 0, 0, 1, Nm.zero, Nm.zero⟩ : Vt)] : List Vt)).toArray 47 (0, 0))])) (fun gs => RowIs 34 11 gs.1 (decV 1 Nm.zero ([(⟨3, 0, 1, 0, 0, 0, Nm.zero, Nm.zero⟩ : Vt), (⟨4, 0, 1, 0, 0, 1, Nm.zero, Nm.zero⟩ : Vt)])).length gs.2.1 (cells (decV 1 Nm.zero ([(⟨3, 0, 1, 0, 0, 0, Nm.zero, Nm.zero⟩ : Vt), (⟨4, 0, 1, 0, 0, 1, Nm.zero, Nm.zero⟩ : Vt)]))) gs.2.2) (by kernel_rfl) (by kernel_rfl) ent90 ?_ (fun _ _ _ => trivial) ?_)))))))))))))))))))
 · exact fun w hw => (decide_c 1 Nm.zero ([(⟨3, 0, 1, 0, 0, 0, Nm.zero, Nm.zero⟩ : Vt), (⟨4, 0, 1, 0, 0, 1, Nm.zero, Nm.zero⟩ : Vt)]) (some ⟨b1, 0, none⟩) 2 w (by first | assumption | exact w64_and _ _ | exact w64_or _ _ | exact w64_andNot _ _ | (unfold W64; omega)) ((show ∀ u ∈ [(⟨3, 0, 1, 0, 0, 0, Nm.zero, Nm.zero⟩ : Vt), (⟨4, 0, 1, 0, 0, 1, Nm.zero, Nm.zero⟩ : Vt)], W64 u.support from by intro u hu; simp only [List.mem_cons, List.not_mem_nil, or_false] at hu; rcases hu with rfl | rfl <;> (unfold W64; decide))) (by first | omega | (simp; done) | (simp; omega)) (Arr.rd (Arr.lit (.head _)) hw)).mono fun r w' ⟨A, c, Hr, h1, h2, h3⟩ => ⟨(A, c, Hr), h2, h1, hw.join h3⟩
 rintro ⟨A2, c3, Hr4⟩ hp_
 have hp5 : RowIs 34 11 A2 (decV 1 Nm.zero ([(⟨3, 0, 1, 0, 0, 0, Nm.zero, Nm.zero⟩ : Vt), (⟨4, 0, 1, 0, 0, 1, Nm.zero, Nm.zero⟩ : Vt)])).length c3 (cells (decV 1 Nm.zero ([(⟨3, 0, 1, 0, 0, 0, Nm.zero, Nm.zero⟩ : Vt), (⟨4, 0, 1, 0, 0, 1, Nm.zero, Nm.zero⟩ : Vt)]))) Hr4 := hp_
 refine T.pu 9 (.tuple #[.slice A2 ((decV 1 Nm.zero ([(⟨3, 0, 1, 0, 0, 0, Nm.zero, Nm.zero⟩ : Vt), (⟨4, 0, 1, 0, 0, 1, Nm.zero, Nm.zero⟩ : Vt)])).length) c3, .bool (decF 1 Nm.zero ([(⟨3, 0, 1, 0, 0, 0, Nm.zero, Nm.zero⟩ : Vt), (⟨4, 0, 1, 0, 0, 1, Nm.zero, Nm.zero⟩ : Vt)]))]) (T.pu 13 (.slice A2 ((decV 1 Nm.zero ([(⟨3, 0, 1, 0, 0, 0, Nm.zero, Nm.zero⟩ : Vt), (⟨4, 0, 1, 0, 0, 1, Nm.zero, Nm.zero⟩ : Vt)])).length) c3) (T.pb 14 (decF 1 Nm.zero ([(⟨3, 0, 1, 0, 0, 0, Nm.zero, Nm.zero⟩ : Vt), (⟨4, 0, 1, 0, 0, 1, Nm.zero, Nm.zero⟩ : Vt)])) (T.pu 2 (.slice A2 ((decV 1 Nm.zero ([(⟨3, 0, 1, 0, 0, 0, Nm.zero, Nm.zero⟩ : Vt), (⟨4, 0, 1, 0, 0, 1, Nm.zero, Nm.zero⟩ : Vt)])).length) c3) (T.pb 3 (decF 1 Nm.zero ([(⟨3, 0, 1, 0, 0, 0, Nm.zero, Nm.zero⟩ : Vt), (⟨4, 0, 1, 0, 0, 1, Nm.zero, Nm.zero⟩ : Vt)])) (T.nil (QN.seq (W.seq (W.rg od9 (T.pu 16 (.agg (Nm.zero).cs) (T.pu 17 (.slice (some ⟨b1, 0, none⟩) (2) 2) ?_))))))))))
 have hsl6 : (([(⟨3, 0, 1, 0, 0, 0, Nm.zero, Nm.zero⟩ : Vt), (⟨4, 0, 1, 0, 0, 1, Nm.zero, Nm.zero⟩ : Vt)]).take 1).length = 1 := by first | (simp; done) | (simp; omega)
 refine T.sliceTo 18 25 47 (some ⟨b1, 0, none⟩) (2) 2 (1) ((([(⟨3, 0, 1, 0, 0, 0, Nm.zero, Nm.zero⟩ : Vt), (⟨4, 0, 1, 0, 0, 1, Nm.zero, Nm.zero⟩ : Vt)]).take 1).length) (by kernel_rfl) (by kernel_rfl) (by kernel_rfl) (by kernel_rfl) (by omega) (by omega) (T.callG (β := Option Addr × Nat × List (Nat × Obj)) 19 90 #[.int .i64 1, .agg (Nm.zero).cs, .slice (some ⟨b1, 0, none⟩) ((([(⟨3, 0, 1, 0, 0, 0, Nm.zero, Nm.zero⟩ : Vt), (⟨4, 0, 1, 0, 0, 1, Nm.zero, Nm.zero⟩ : Vt)]).take 1).length) 2] (fun gs => .tuple #[.slice gs.1 ((decV 1 Nm.zero (([(⟨3, 0, 1, 0, 0, 0, Nm.zero, Nm.zero⟩ : Vt), (⟨4, 0, 1, 0, 0, 1, Nm.zero, Nm.zero⟩ : Vt)]).take 1)).length) gs.2.1, .bool (decF 1 Nm.zero (([(⟨3, 0, 1, 0, 0, 0, Nm.zero, Nm.zero⟩ : Vt), (⟨4, 0, 1, 0, 0, 1, Nm.zero, Nm.zero⟩ : Vt)]).take 1))]) (fun gs => St w (gs.2.2 ++ (Hr4 ++ [(b1, Obj.cells (cells ([(⟨3, 0, 1, 0, 0, 0, Nm.zero, Nm.zero⟩ : Vt), (⟨4, 0, 1, 0, 0, 1, Nm.zero, Nm.zero⟩ : Vt)] : List Vt)).toArray 47 (0, 0))]))) (fun gs => RowIs 34 11 gs.1 (decV 1 Nm.zero (([(⟨3, 0, 1, 0, 0, 0, Nm.zero, Nm.zero⟩ : Vt), (⟨4, 0, 1, 0, 0, 1, Nm.zero, Nm.zero⟩ : Vt)]).take 1)).length gs.2.1 (cells (decV 1 Nm.zero (([(⟨3, 0, 1, 0, 0, 0, Nm.zero, Nm.zero⟩ : Vt), (⟨4, 0, 1, 0, 0, 1, Nm.zero, Nm.zero⟩ : Vt)]).take 1))) gs.2.2) (by kernel_rfl) (by kernel_rfl) ent90 ?_ (fun _ _ _ => trivial) ?_)
 · exact fun w hw => (decide_c 1 Nm.zero (([(⟨3, 0, 1, 0, 0, 0, Nm.zero, Nm.zero⟩ : Vt), (⟨4, 0, 1, 0, 0, 1, Nm.zero, Nm.zero⟩ : Vt)]).take 1) (some ⟨b1, 0, none⟩) 2 w (by first | assumption | exact w64_and _ _ | exact w64_or _ _ | exact w64_andNot _ _ | (unfold W64; omega)) (fun u hu => (show ∀ u ∈ [(⟨3, 0, 1, 0, 0, 0, Nm.zero, Nm.zero⟩ : Vt), (⟨4, 0, 1, 0, 0, 1, Nm.zero, Nm.zero⟩ : Vt)], W64 u.support from by intro u hu; simp only [List.mem_cons, List.not_mem_nil, or_false] at hu; rcases hu with rfl | rfl <;> (unfold W64; decide)) u (List.mem_of_mem_take hu)) (by first | omega | (simp; done) | (simp; omega)) (Arr.rd ((Arr.lit (List.mem_append_right _ (.head _))).take _) hw)).mono fun r w' ⟨A, c, Hr, h1, h2, h3⟩ => ⟨(A, c, Hr), h2, h1, hw.join h3⟩
 rintro ⟨A7, c8, Hr9⟩ hp_
 have hp10 : RowIs 34 11 A7 (decV 1 Nm.zero (([(⟨3, 0, 1, 0, 0, 0, Nm.zero, Nm.zero⟩ : Vt), (⟨4, 0, 1, 0, 0, 1, Nm.zero, Nm.zero⟩ : Vt)]).take 1)).length c8 (cells (decV 1 Nm.zero (([(⟨3, 0, 1, 0, 0, 0, Nm.zero, Nm.zero⟩ : Vt), (⟨4, 0, 1, 0, 0, 1, Nm.zero, Nm.zero⟩ : Vt)]).take 1))) Hr9 := hp_
 refine T.pu 15 (.tuple #[.slice A7 ((decV 1 Nm.zero (([(⟨3, 0, 1, 0, 0, 0, Nm.zero, Nm.zero⟩ : Vt), (⟨4, 0, 1, 0, 0, 1, Nm.zero, Nm.zero⟩ : Vt)]).take 1)).length) c8, .bool (decF 1 Nm.zero (([(⟨3, 0, 1, 0, 0, 0, Nm.zero, Nm.zero⟩ : Vt), (⟨4, 0, 1, 0, 0, 1, Nm.zero, Nm.zero⟩ : Vt)]).take 1))]) (T.pu 20 (.slice A7 ((decV 1 Nm.zero (([(⟨3, 0, 1, 0, 0, 0, Nm.zero, Nm.zero⟩ : Vt), (⟨4, 0, 1, 0, 0, 1, Nm.zero, Nm.zero⟩ : Vt)]).take 1)).length) c8) (T.pb 21 (decF 1 Nm.zero (([(⟨3, 0, 1, 0, 0, 0, Nm.zero, Nm.zero⟩ : Vt), (⟨4, 0, 1, 0, 0, 1, Nm.zero, Nm.zero⟩ : Vt)]).take 1)) (T.pu 4 (.slice A7 ((decV 1 Nm.zero (([(⟨3, 0, 1, 0, 0, 0, Nm.zero, Nm.zero⟩ : Vt), (⟨4, 0, 1, 0, 0, 1, Nm.zero, Nm.zero⟩ : Vt)]).take 1)).length) c8) (T.pb 5 (decF 1 Nm.zero (([(⟨3, 0, 1, 0, 0, 0, Nm.zero, Nm.zero⟩ : Vt), (⟨4, 0, 1, 0, 0, 1, Nm.zero, Nm.zero⟩ : Vt)]).take 1)) (T.nil (QN.seq (W.seq (W.rg od18 (T.pb 22 (decF 1 Nm.zero ([(⟨3, 0, 1, 0, 0, 0, Nm.zero, Nm.zero⟩ : Vt), (⟨4, 0, 1, 0, 0, 1, Nm.zero, Nm.zero⟩ : Vt)])) (T.pb 23 (decF 1 Nm.zero ([(⟨3, 0, 1, 0, 0, 0, Nm.zero, Nm.zero⟩ : Vt), (⟨4, 0, 1, 0, 0, 1, Nm.zero, Nm.zero⟩ : Vt)])) (T.blk [(2, false), (3, false)] [(4, false), (5, false), (6, false), (7, false), (8, false), (9, false), (10, false), (11, false), (12, false), (13, false), (14, false), (15, false), (16, false), (17, false)] 1 true (decF 1 Nm.zero ([(⟨3, 0, 1, 0, 0, 0, Nm.zero, Nm.zero⟩ : Vt), (⟨4, 0, 1, 0, 0, 1, Nm.zero, Nm.zero⟩ : Vt)])) 23 25 (.bool (!(decF 1 Nm.zero (([(⟨3, 0, 1, 0, 0, 0, Nm.zero, Nm.zero⟩ : Vt), (⟨4, 0, 1, 0, 0, 1, Nm.zero, Nm.zero⟩ : Vt)]).take 1)))) (by kernel_rfl) (by kernel_rfl) (by kernel_rfl) (fun hg11 => ?_) ?_)))))))))))
 ·
  have hg11_ := hg11
  refine T.pb 24 (decF 1 Nm.zero (([(⟨3, 0, 1, 0, 0, 0, Nm.zero, Nm.zero⟩ : Vt), (⟨4, 0, 1, 0, 0, 1, Nm.zero, Nm.zero⟩ : Vt)]).take 1)) (T.pb 25 (!(decF 1 Nm.zero (([(⟨3, 0, 1, 0, 0, 0, Nm.zero, Nm.zero⟩ : Vt), (⟨4, 0, 1, 0, 0, 1, Nm.zero, Nm.zero⟩ : Vt)]).take 1))) ?_)
  exact T.blkEnd (by kernel_rfl) (fun w h => h)
 refine T.an 26 (decF 1 Nm.zero ([(⟨3, 0, 1, 0, 0, 0, Nm.zero, Nm.zero⟩ : Vt), (⟨4, 0, 1, 0, 0, 1, Nm.zero, Nm.zero⟩ : Vt)])) (!(decF 1 Nm.zero (([(⟨3, 0, 1, 0, 0, 0, Nm.zero, Nm.zero⟩ : Vt), (⟨4, 0, 1, 0, 0, 1, Nm.zero, Nm.zero⟩ : Vt)]).take 1))) (T.pb 27 ((decF 1 Nm.zero ([(⟨3, 0, 1, 0, 0, 0, Nm.zero, Nm.zero⟩ : Vt), (⟨4, 0, 1, 0, 0, 1, Nm.zero, Nm.zero⟩ : Vt)])) && (!(decF 1 Nm.zero (([(⟨3, 0, 1, 0, 0, 0, Nm.zero, Nm.zero⟩ : Vt), (⟨4, 0, 1, 0, 0, 1, Nm.zero, Nm.zero⟩ : Vt)]).take 1)))) (T.blk [(6, false), (7, false), (8, false)] [(9, false), (10, false), (11, false), (12, false), (13, false), (14, false), (15, false), (16, false), (17, false)] 5 true ((decF 1 Nm.zero ([(⟨3, 0, 1, 0, 0, 0, Nm.zero, Nm.zero⟩ : Vt), (⟨4, 0, 1, 0, 0, 1, Nm.zero, Nm.zero⟩ : Vt)])) && (!(decF 1 Nm.zero (([(⟨3, 0, 1, 0, 0, 0, Nm.zero, Nm.zero⟩ : Vt), (⟨4, 0, 1, 0, 0, 1, Nm.zero, Nm.zero⟩ : Vt)]).take 1)))) 27 30 (.bool ((((decV 1 Nm.zero ([(⟨3, 0, 1, 0, 0, 0, Nm.zero, Nm.zero⟩ : Vt), (⟨4, 0, 1, 0, 0, 1, Nm.zero, Nm.zero⟩ : Vt)])).length : Nat) : Int) == 1)) (by kernel_rfl) (by kernel_rfl) (by kernel_rfl) (fun hg12 => ?_) ?_))
 ·
  have hg12_ := hg12
  have hg12l := (Bool.and_eq_true_iff.1 hg12).1
  have hg12r := (Bool.and_eq_true_iff.1 hg12).2
  have hg12rn := not_eq_true hg12r
  refine T.pu 28 (.slice A2 ((decV 1 Nm.zero ([(⟨3, 0, 1, 0, 0, 0, Nm.zero, Nm.zero⟩ : Vt), (⟨4, 0, 1, 0, 0, 1, Nm.zero, Nm.zero⟩ : Vt)])).length) c3) (T.pi 29 (((decV 1 Nm.zero ([(⟨3, 0, 1, 0, 0, 0, Nm.zero, Nm.zero⟩ : Vt), (⟨4, 0, 1, 0, 0, 1, Nm.zero, Nm.zero⟩ : Vt)])).length : Nat) : Int) (T.pb 30 ((((decV 1 Nm.zero ([(⟨3, 0, 1, 0, 0, 0, Nm.zero, Nm.zero⟩ : Vt), (⟨4, 0, 1, 0, 0, 1, Nm.zero, Nm.zero⟩ : Vt)])).length : Nat) : Int) == 1) ?_))
  exact T.blkEnd (by kernel_rfl) (fun w h => h)
 refine T.an 31 ((decF 1 Nm.zero ([(⟨3, 0, 1, 0, 0, 0, Nm.zero, Nm.zero⟩ : Vt), (⟨4, 0, 1, 0, 0, 1, Nm.zero, Nm.zero⟩ : Vt)])) && (!(decF 1 Nm.zero (([(⟨3, 0, 1, 0, 0, 0, Nm.zero, Nm.zero⟩ : Vt), (⟨4, 0, 1, 0, 0, 1, Nm.zero, Nm.zero⟩ : Vt)]).take 1)))) ((((decV 1 Nm.zero ([(⟨3, 0, 1, 0, 0, 0, Nm.zero, Nm.zero⟩ : Vt), (⟨4, 0, 1, 0, 0, 1, Nm.zero, Nm.zero⟩ : Vt)])).length : Nat) : Int) == 1) (T.pb 32 (((decF 1 Nm.zero ([(⟨3, 0, 1, 0, 0, 0, Nm.zero, Nm.zero⟩ : Vt), (⟨4, 0, 1, 0, 0, 1, Nm.zero, Nm.zero⟩ : Vt)])) && (!(decF 1 Nm.zero (([(⟨3, 0, 1, 0, 0, 0, Nm.zero, Nm.zero⟩ : Vt), (⟨4, 0, 1, 0, 0, 1, Nm.zero, Nm.zero⟩ : Vt)]).take 1)))) && ((((decV 1 Nm.zero ([(⟨3, 0, 1, 0, 0, 0, Nm.zero, Nm.zero⟩ : Vt), (⟨4, 0, 1, 0, 0, 1, Nm.zero, Nm.zero⟩ : Vt)])).length : Nat) : Int) == 1)) (T.blk [(11, false), (12, false), (13, false), (14, false), (15, false)] [(16, false), (17, false)] 10 true (((decF 1 Nm.zero ([(⟨3, 0, 1, 0, 0, 0, Nm.zero, Nm.zero⟩ : Vt), (⟨4, 0, 1, 0, 0, 1, Nm.zero, Nm.zero⟩ : Vt)])) && (!(decF 1 Nm.zero (([(⟨3, 0, 1, 0, 0, 0, Nm.zero, Nm.zero⟩ : Vt), (⟨4, 0, 1, 0, 0, 1, Nm.zero, Nm.zero⟩ : Vt)]).take 1)))) && ((((decV 1 Nm.zero ([(⟨3, 0, 1, 0, 0, 0, Nm.zero, Nm.zero⟩ : Vt), (⟨4, 0, 1, 0, 0, 1, Nm.zero, Nm.zero⟩ : Vt)])).length : Nat) : Int) == 1)) 32 37 (.bool (crtB 1 Nm.zero ([(⟨3, 0, 1, 0, 0, 0, Nm.zero, Nm.zero⟩ : Vt), (⟨4, 0, 1, 0, 0, 1, Nm.zero, Nm.zero⟩ : Vt)]) ([(⟨0, Nm.zero⟩ : Ch)]))) (by kernel_rfl) (by kernel_rfl) (by kernel_rfl) (fun hg13 => ?_) ?_))
 ·
  have hg13_ := hg13
  have hg13l := (Bool.and_eq_true_iff.1 hg13).1
  have hg13r := (Bool.and_eq_true_iff.1 hg13).2
  have hg13ll := (Bool.and_eq_true_iff.1 hg13l).1
  have hg13lr := (Bool.and_eq_true_iff.1 hg13l).2
  have hg13lrn := not_eq_true hg13lr
  have hg13r' := eq_of_beq hg13r
  refine T.pu 33 (.agg (Nm.zero).cs) (T.pu 34 (.slice (some ⟨b1, 0, none⟩) (2) 2) (T.pu 35 (.agg ((⟨0, Nm.zero⟩ : Ch)).cs) (T.lit 36 109 108 1 #[(0, .agg ((⟨0, Nm.zero⟩ : Ch)).cs)] (cells ([(⟨0, Nm.zero⟩ : Ch)] : List Ch)).toArray (by kernel_rfl) (by kernel_rfl) (by kernel_rfl) (by kernel_rfl) (fun _ _ _ => trivial) (fun b14 => T.cp 37 91 #[.int .i64 1, .agg (Nm.zero).cs, .slice (some ⟨b1, 0, none⟩) (2) 2, .slice (some ⟨b14, 0, none⟩) (1) 1] (.bool (crtB 1 Nm.zero ([(⟨3, 0, 1, 0, 0, 0, Nm.zero, Nm.zero⟩ : Vt), (⟨4, 0, 1, 0, 0, 1, Nm.zero, Nm.zero⟩ : Vt)]) ([(⟨0, Nm.zero⟩ : Ch)]))) ent91 (fun w hw => sbcert_c 1 Nm.zero ([(⟨3, 0, 1, 0, 0, 0, Nm.zero, Nm.zero⟩ : Vt), (⟨4, 0, 1, 0, 0, 1, Nm.zero, Nm.zero⟩ : Vt)]) ([(⟨0, Nm.zero⟩ : Ch)]) (some ⟨b1, 0, none⟩) 2 (some ⟨b14, 0, none⟩) 1 w (by first | assumption | exact w64_and _ _ | exact w64_or _ _ | exact w64_andNot _ _ | (unfold W64; omega)) ((show ∀ u ∈ [(⟨3, 0, 1, 0, 0, 0, Nm.zero, Nm.zero⟩ : Vt), (⟨4, 0, 1, 0, 0, 1, Nm.zero, Nm.zero⟩ : Vt)], W64 u.support from by intro u hu; simp only [List.mem_cons, List.not_mem_nil, or_false] at hu; rcases hu with rfl | rfl <;> (unfold W64; decide))) (by first | omega | (simp; done) | (simp; omega)) (Arr.rd (Arr.lit (.tail _ (List.mem_append_right _ (List.mem_append_right _ (.head _))))) hw) (Arr.rd (Arr.lit (.head _)) hw)) (fun _ _ => trivial) ?_))))
  exact T.blkEnd (by kernel_rfl) (fun w h => (h.perm (((pm0.cons _).trans List.perm_middle.symm).trans ((((pm0.cons _).trans List.perm_middle.symm).trans (pm1.append_left Hr4)).append_left Hr9))).part (List.Sublist.append (List.Sublist.refl _) (List.Sublist.append (List.Sublist.refl _) ((List.nil_sublist _).cons_cons _))))
 refine T.an 38 (((decF 1 Nm.zero ([(⟨3, 0, 1, 0, 0, 0, Nm.zero, Nm.zero⟩ : Vt), (⟨4, 0, 1, 0, 0, 1, Nm.zero, Nm.zero⟩ : Vt)])) && (!(decF 1 Nm.zero (([(⟨3, 0, 1, 0, 0, 0, Nm.zero, Nm.zero⟩ : Vt), (⟨4, 0, 1, 0, 0, 1, Nm.zero, Nm.zero⟩ : Vt)]).take 1)))) && ((((decV 1 Nm.zero ([(⟨3, 0, 1, 0, 0, 0, Nm.zero, Nm.zero⟩ : Vt), (⟨4, 0, 1, 0, 0, 1, Nm.zero, Nm.zero⟩ : Vt)])).length : Nat) : Int) == 1)) (crtB 1 Nm.zero ([(⟨3, 0, 1, 0, 0, 0, Nm.zero, Nm.zero⟩ : Vt), (⟨4, 0, 1, 0, 0, 1, Nm.zero, Nm.zero⟩ : Vt)]) ([(⟨0, Nm.zero⟩ : Ch)])) (T.pb 0 ((((decF 1 Nm.zero ([(⟨3, 0, 1, 0, 0, 0, Nm.zero, Nm.zero⟩ : Vt), (⟨4, 0, 1, 0, 0, 1, Nm.zero, Nm.zero⟩ : Vt)])) && (!(decF 1 Nm.zero (([(⟨3, 0, 1, 0, 0, 0, Nm.zero, Nm.zero⟩ : Vt), (⟨4, 0, 1, 0, 0, 1, Nm.zero, Nm.zero⟩ : Vt)]).take 1)))) && ((((decV 1 Nm.zero ([(⟨3, 0, 1, 0, 0, 0, Nm.zero, Nm.zero⟩ : Vt), (⟨4, 0, 1, 0, 0, 1, Nm.zero, Nm.zero⟩ : Vt)])).length : Nat) : Int) == 1)) && (crtB 1 Nm.zero ([(⟨3, 0, 1, 0, 0, 0, Nm.zero, Nm.zero⟩ : Vt), (⟨4, 0, 1, 0, 0, 1, Nm.zero, Nm.zero⟩ : Vt)]) ([(⟨0, Nm.zero⟩ : Ch)]))) (T.nil (QN.seq (W.ret (QN.done (.inl rfl) 0 (.bool ((((decF 1 Nm.zero ([(⟨3, 0, 1, 0, 0, 0, Nm.zero, Nm.zero⟩ : Vt), (⟨4, 0, 1, 0, 0, 1, Nm.zero, Nm.zero⟩ : Vt)])) && (!(decF 1 Nm.zero (([(⟨3, 0, 1, 0, 0, 0, Nm.zero, Nm.zero⟩ : Vt), (⟨4, 0, 1, 0, 0, 1, Nm.zero, Nm.zero⟩ : Vt)]).take 1)))) && ((((decV 1 Nm.zero ([(⟨3, 0, 1, 0, 0, 0, Nm.zero, Nm.zero⟩ : Vt), (⟨4, 0, 1, 0, 0, 1, Nm.zero, Nm.zero⟩ : Vt)])).length : Nat) : Int) == 1)) && (crtB 1 Nm.zero ([(⟨3, 0, 1, 0, 0, 0, Nm.zero, Nm.zero⟩ : Vt), (⟨4, 0, 1, 0, 0, 1, Nm.zero, Nm.zero⟩ : Vt)]) ([(⟨0, Nm.zero⟩ : Ch)])))) rfl (by kernel_rfl) (fun w hw => ⟨?_, hw.below⟩))))))
 exact ret_bool (by decide +kernel)
end Go.Proofs.YtnjkbgcfpbbglaaGreat
