/- The superblock: Decide, Choices, Certified. -/
import Derived.Test.YtnjkbgcfpbbglaaGreatAcct
import Derived.Test.YtnjkbgcfpbbglaaGreatCh
namespace Go.Proofs.YtnjkbgcfpbbglaaGreat
open Go Go.RowKit
set_option linter.unusedVariables false

def neV (m : Int) (p : Nm) (l : List Vt) (i : Int) : Bool := !(((((outV m p l i).length : Nat)) : Int) == 0)
def hdV (m : Int) (p : Nm) (l : List Vt) (i : Int) : Oc := (outV m p l i)[0]!
def decOK (m : Int) (p : Nm) (l : List Vt) : Bool := (idsI m).all (neV m p l)
def decV (m : Int) (p : Nm) (l : List Vt) : List Oc := if decOK m p l = true then (idsI m).map (hdV m p l) else []
def decF (m : Int) (p : Nm) (l : List Vt) : Bool := decOK m p l && decide (0 < ((((idsI m).length : Nat)) : Int))
def chOf (o : Oc) : Ch := ⟨o.slot, o.val⟩
def chV (l : List Oc) : List Ch := l.map chOf
def crP (m : Int) (p : Nm) (l : List Vt) (z : Int × Ch) : Bool := !((z.2.vd != z.1) || (!((outV m p l z.1).any (fun (o : Oc) => o.val == z.2.val))))
def crtB (m : Int) (p : Nm) (l : List Vt) (cs : List Ch) : Bool := bif ((((size m : Nat) : Int) != (((cs.length : Nat)) : Int)) || ((((cs.length : Nat)) : Int) == 0)) then false else ((idsI m).zip cs).all (crP m p l)
theorem chV_len (l : List Oc) : (chV l).length = l.length := by simp [chV]
theorem up_ids (m : Int) : upto10.filter (hasB m) = idsI m := by
  unfold upto10 idsI ids
  rw [List.filter_map, List.filter_congr (q := mb m) fun i hi => ?_]
  have : i < 10 := by simpa using hi
  exact hasB_nat m i this
theorem dec_at {k : Nat} (hk : k < 10) : upto10.take (k + 1) = upto10.take k ++ [(k : Int)] := by
  have h1 : k < upto10.length := by rw [up10_len]; exact hk
  rw [List.take_succ_eq_append_getElem h1, up10_get h1]
theorem dec_skip {m : Int} {k : Nat} (hk : k < 10) (h : hasB m (k : Int) = false) : (upto10.take (k + 1)).filter (hasB m) = (upto10.take k).filter (hasB m) := by
  rw [dec_at hk, List.filter_append]; simp [h]
theorem dec_take {m : Int} {k : Nat} (hk : k < 10) (h : hasB m (k : Int) = true) : (upto10.take (k + 1)).filter (hasB m) = (upto10.take k).filter (hasB m) ++ [(k : Int)] := by
  rw [dec_at hk, List.filter_append]; simp [h]
theorem dec_hd {m : Int} {p : Nm} {l : List Vt} {i : Int} {h : 0 < (outV m p l i).length} {out : List Oc} : out ++ [(outV m p l i)[0]] = out ++ [i].map (hdV m p l) := by
  simp [hdV, getElem!_pos (outV m p l i) 0 h]
theorem dec_ne {m : Int} {p : Nm} {l : List Vt} {i : Int} (h : (((((outV m p l i).length : Nat)) : Int) == 0) = false) : (true && [i].all (neV m p l)) = true := by
  simp only [List.all_cons, List.all_nil, neV, h]; rfl
theorem dec_no {m : Int} {p : Nm} {l : List Vt} {k : Nat} (hk : k < 10) (h : hasB m (k : Int) = true) (h2 : (((((outV m p l (k : Int)).length : Nat)) : Int) == 0) = true) : decV m p l = [] ∧ decF m p l = false := by
  have : decOK m p l = false := by
    unfold decOK
    rw [List.all_eq_false]
    refine ⟨(k : Int), mem_idsI.2 h, ?_⟩
    unfold neV; rw [h2]; simp
  constructor
  · unfold decV; rw [if_neg (by rw [this]; simp)]
  · unfold decF; rw [this]; rfl
theorem dec_yes {m : Int} {p : Nm} {l : List Vt} {k : Nat} {out : List Oc} (hk : 10 ≤ k) (ho : out = ((upto10.take k).filter (hasB m)).map (hdV m p l)) (ha : ((upto10.take k).filter (hasB m)).all (neV m p l) = true) : out = decV m p l ∧ decF m p l = decide (0 < (((out.length : Nat)) : Int)) := by
  rw [List.take_of_length_le (by rw [up10_len]; exact hk), up_ids] at ho ha
  have : decOK m p l = true := ha
  constructor
  · unfold decV; rw [if_pos this]; exact ho
  · unfold decF; rw [this, ho]; simp
theorem map_snoc {α β : Type} {f : α → β} {l : List α} {j : Nat} (hj : j < l.length) : (l.take j).map f ++ [f l[j]] = (l.take (j + 1)).map f := by
  rw [List.take_succ_eq_append_getElem hj, List.map_append]; rfl
theorem crt_len {m : Int} {cs : List Ch} (h : ((((size m : Nat) : Int) != (((cs.length : Nat)) : Int)) || ((((cs.length : Nat)) : Int) == 0)) = false) : size m = cs.length ∧ 0 < cs.length := by
  simp only [Bool.or_eq_false_iff, bne_eq_false_iff_eq, beq_eq_false_iff_ne] at h
  omega
theorem crt_get {m : Int} {cs : List Ch} {j : Nat} (h1 : j < (idsI m).length) (h2 : j < cs.length) : ∃ h : j < ((idsI m).zip cs).length, ((idsI m).zip cs)[j] = ((idsI m)[j], cs[j]) := ⟨by rw [List.length_zip]; omega, by rw [List.getElem_zip]⟩
theorem crt_step {m : Int} {p : Nm} {l : List Vt} {cs : List Ch} {j : Nat} (hall : (((idsI m).zip cs).take j).all (crP m p l) = true) (h1 : j < (idsI m).length) (h2 : j < cs.length) (h : ((cs[j].vd != (idsI m)[j]) || (!((outV m p l (idsI m)[j]).any (fun (o : Oc) => o.val == cs[j].val)))) = false) : (((idsI m).zip cs).take (j + 1)).all (crP m p l) = true := by
  obtain ⟨h3, e⟩ := crt_get (m := m) (cs := cs) h1 h2
  rw [List.take_succ_eq_append_getElem h3, List.all_append, hall, e]
  simp only [List.all_cons, List.all_nil, crP, h]; rfl
theorem crt_yes {m : Int} {p : Nm} {l : List Vt} {cs : List Ch} {j : Nat} (h : ((((size m : Nat) : Int) != (((cs.length : Nat)) : Int)) || ((((cs.length : Nat)) : Int) == 0)) = false) (h1 : (idsI m).length ≤ j) (h2 : (idsI m).length = cs.length) (hall : (((idsI m).zip cs).take j).all (crP m p l) = true) : true = crtB m p l cs := by
  rw [List.take_of_length_le (by rw [List.length_zip]; omega)] at hall
  unfold crtB; rw [h, hall]; rfl
theorem crt_no {m : Int} {p : Nm} {l : List Vt} {cs : List Ch} (h : ((((size m : Nat) : Int) != (((cs.length : Nat)) : Int)) || ((((cs.length : Nat)) : Int) == 0)) = true) : false = crtB m p l cs := by
  unfold crtB; rw [h]; rfl
theorem crt_miss {m : Int} {p : Nm} {l : List Vt} {cs : List Ch} {j : Nat} (h0 : ((((size m : Nat) : Int) != (((cs.length : Nat)) : Int)) || ((((cs.length : Nat)) : Int) == 0)) = false) (h1 : j < (idsI m).length) (h2 : j < cs.length) (h : ((cs[j].vd != (idsI m)[j]) || (!((outV m p l (idsI m)[j]).any (fun (o : Oc) => o.val == cs[j].val)))) = true) : false = crtB m p l cs := by
  obtain ⟨h3, e⟩ := crt_get (m := m) (cs := cs) h1 h2
  have : ((idsI m).zip cs).all (crP m p l) = false := by
    rw [List.all_eq_false]
    refine ⟨_, List.getElem_mem h3, ?_⟩
    rw [e]; simp only [crP, h]; simp
  unfold crtB; rw [h0, this]; rfl
set_option maxRecDepth 100000 in
set_option maxHeartbeats 2000000 in
theorem decide_c (m : Int) (p : Nm) (l : List Vt) (A : Option Addr) (c : Nat) (w : World) (hm : W64 m) (hok : ∀ u ∈ l, W64 u.support) (hl : l.length ≤ 1000) (hr : Rd w A l) : Calls Tryz.prog 90 #[.int .i64 m, .agg (p).cs, .slice A (l.length) c] w (fun r w' => ∃ A c Hr, r = .returned (.tuple #[.slice A (decV m p l).length c, .bool (decF m p l)]) ∧ RowIs 34 11 A (decV m p l).length c (cells (decV m p l)) Hr ∧ St w Hr w') := by
 refine calls_W (n := 37) Tryz.func90 rfl [(0, .int .i64 m), (1, .agg (p).cs), (2, .slice A (l.length) c)] rfl ⟨by kernel_rfl, by kernel_rfl⟩ (W.weak (Ψ := St w []) (fun w' h => by rw [h]; exact St.start w) (W.seq (W.rg od3 (T.bx 4 24 (.agg (p).cs) ((p).cs) (fun _ _ _ => trivial) (fun b1 => T.pu 6 (.slice none (0) 0) (T.pb 7 false (T.nil (QN.seq (W.seq (W.rg od1 (T.pu 8 (.slice none (0) 0) (T.nil (QN.seq (W.seq (W.seq (W.rg od1 (T.pi 11 0 (T.nil (QN.seq (W.block (W.loop (σ := Nat × List Oc × Option Addr × Nat × List (Nat × Obj)) (fun gs => gs.1 ≤ 10 ∧ gs.2.1 = ((upto10.take gs.1).filter (hasB m)).map (hdV m p l) ∧ ((upto10.take gs.1).filter (hasB m)).all (neV m p l) = true ∧ gs.2.1.length ≤ gs.1 ∧ RowIs 34 11 gs.2.2.1 gs.2.1.length gs.2.2.2.1 (cells gs.2.1) gs.2.2.2.2) (fun gs => [(0, .int .i64 m), (2, .slice A (l.length) c), (4, .pointer (some ⟨b1, 0, none⟩)), (8, .slice gs.2.2.1 (gs.2.1.length) gs.2.2.2.1), (11, .int .i64 ((gs.1 : Int)))]) (fun gs => St w (gs.2.2.2.2 ++ [(b1, Obj.cells (p).cs 24 (0, 0))])) (fun gs => 10 - gs.1) (0, [], none, 0, []) ?_ (by kernel_rfl) (fun w h => h) ?_)))))))))))))))))))))
 ·
  show 0 ≤ 10 ∧ ([]) = ((upto10.take 0).filter (hasB m)).map (hdV m p l) ∧ ((upto10.take 0).filter (hasB m)).all (neV m p l) = true ∧ ([]).length ≤ 0 ∧ RowIs 34 11 none ([]).length 0 (cells ([])) ([])
  exact ⟨Nat.zero_le _, rfl, rfl, Nat.le_refl _, RowIs.nil⟩
 rintro ⟨k, out, A8, c8, Hr8⟩ hI_
 obtain ⟨hk, hout, hall, hol, hrow8⟩ : k ≤ 10 ∧ out = ((upto10.take k).filter (hasB m)).map (hdV m p l) ∧ ((upto10.take k).filter (hasB m)).all (neV m p l) = true ∧ out.length ≤ k ∧ RowIs 34 11 A8 out.length c8 (cells out) Hr8 := hI_
 show W _ _ [(0, .int .i64 m), (2, .slice A (l.length) c), (4, .pointer (some ⟨b1, 0, none⟩)), (8, .slice A8 (out.length) c8), (11, .int .i64 k)] (St w (Hr8 ++ [(b1, Obj.cells (p).cs 24 (0, 0))])) _ _
 refine W.seq (W.rg od1 (T.pb 12 (decide ((k : Int) < 10)) (T.nil (QN.seq (W.seq (W.cd (decide ((k : Int) < 10)) (fun h2 => ?_) (fun h2 => ?_)))))))
 ·
  have h2' := of_decide_eq_true h2
  refine W.skip (QN.seq (W.seq (W.block (W.seq (W.rg od2 (T.pi 13 k (T.pi 9 k (T.nil (QN.seq (W.seq (W.seq (W.rg od4 (T.pi 14 m (T.pi 15 k (T.cp 16 77 #[.int .i64 m, .int .i64 k] (.bool (hasB m (k : Int))) ent77 (fun w hw => Ret.same (has_c _ _ w (by first | assumption | exact w64_and _ _ | exact w64_or _ _ | exact w64_andNot _ _ | (unfold W64; omega)))) (fun _ _ => trivial) (T.pb 17 (!(hasB m (k : Int))) (T.nil (QN.seq (W.cd (!(hasB m (k : Int))) (fun h3 => ?_) (fun h3 => ?_))))))))))))))))))))
  ·
   have h3n := not_eq_true h3
   refine W.exit (QN.thenExit (QN.blkHit (QN.seq (W.rg od2 (T.pe 32 (.int .i64 (IntKind.i64.wrap ((k : Int) + 1))) (.int .i64 ((k : Int) + 1)) (wrap_int (by omega) (by omega)) (T.pi 11 ((k : Int) + 1) (T.nil (QN.back (k + 1, out, A8, c8, Hr8) ?_ ?_ (by kernel_rfl) (fun w h => h)))))))))
   ·
    show (k + 1) ≤ 10 ∧ out = ((upto10.take (k + 1)).filter (hasB m)).map (hdV m p l) ∧ ((upto10.take (k + 1)).filter (hasB m)).all (neV m p l) = true ∧ out.length ≤ (k + 1) ∧ RowIs 34 11 A8 out.length c8 (cells out) Hr8
    exact ⟨by omega, by rw [dec_skip (by omega) (not_eq_true h3)]; exact hout, by rw [dec_skip (by omega) (not_eq_true h3)]; exact hall, by omega, hrow8⟩
   · show 10 - _ < 10 - _; omega
  ·
   have h3n := not_eq_false h3
   have h3nb := hasB_lt h3n
   refine W.skip (QN.seq (W.seq (W.rg od6 (T.pi 18 m (T.lr false 19 (p).cs 24 b1 0 (fun w h => St.rangeM h (p).cs (List.mem_append_right _ (.head _)) (by kernel_rfl)) (T.pu 20 (.slice A (l.length) c) (T.pi 21 k (T.callR 22 28 #[.int .i64 m, .agg (p).cs, .slice A (l.length) c, .int .i64 k] 34 11 (outV m p l (k : Int)).length (cells (outV m p l (k : Int))) (by kernel_rfl) (by kernel_rfl) ent28 (fun w hw => outcomes_c m p l (k : Int) A c w (by first | assumption | exact w64_and _ _ | exact w64_or _ _ | exact w64_andNot _ _ | (unfold W64; omega)) (hok) (by first | omega | (simp; done) | (simp; omega)) (Arr.rd (Rd.arr hr _) hw)) (fun _ _ _ => trivial) (fun A4 c5 Hr6 hrow7 => T.pu 10 (.slice A4 ((outV m p l (k : Int)).length) c5) (T.nil (QN.seq (W.seq (W.seq (W.rg od3 (T.pu 23 (.slice A4 ((outV m p l (k : Int)).length) c5) (T.pi 24 (((outV m p l (k : Int)).length : Nat) : Int) (T.pb 25 ((((outV m p l (k : Int)).length : Nat) : Int) == 0) (T.nil (QN.seq (W.cd ((((outV m p l (k : Int)).length : Nat) : Int) == 0) (fun h8 => ?_) (fun h8 => ?_)))))))))))))))))))))
   ·
    have h8' := eq_of_beq h8
    refine W.seq (W.rg od2 (T.pu 6 (.slice none (0) 0) (T.pb 7 false (T.nil (QN.seq (W.ret (QN.thenRet (QN.blkRet (QN.thenRet (QN.thenRet (QN.blkRet (QN.thenRet (QN.done2 (.inl rfl) 6 7 (.slice none (0) 0) (.bool (false)) rfl (by kernel_rfl) (by kernel_rfl) (fun w hw => ?_))))))))))))))
    exact (have e1 := dec_no (m := m) (p := p) (l := l) (k := k) (by omega) (not_eq_false h3) h8; by rw [e1.1, e1.2]; exact ⟨none, 0, [], rfl, RowIs.nil, hw.part (List.nil_sublist _)⟩)
   ·
    have h8' := ne_of_beq_false h8
    refine W.skip (QN.seq (W.rg od7 (T.pu 26 (.slice A8 (out.length) c8) (T.pu 27 (.slice A4 ((outV m p l (k : Int)).length) c5) ?_))))
    have hl13 : 0 < (outV m p l (k : Int)).length := by omega
    obtain ⟨b9, o10, hA11, hr12⟩ := (Arr.row hrow7 (rfl) (rfl) _) 0 hl13
    refine T.ix 28 38 34 11 A4 ((outV m p l (k : Int)).length) c5 (0) (0) b9 o10 hA11 (by omega) (by omega) (T.lr false 29 (((outV m p l (k : Int))[0]'hl13)).cs 34 b9 (o10 + 0 * 11) hr12 (T.lit 30 38 34 1 #[(0, .agg (((outV m p l (k : Int))[0]'hl13)).cs)] (cells ([((outV m p l (k : Int))[0]'hl13)] : List Oc)).toArray (by kernel_rfl) (by kernel_rfl) (by kernel_rfl) (by kernel_rfl) (fun _ _ _ => trivial) (fun b14 => T.appC 31 38 34 32 A8 c8 (out : List Oc) Hr8 b14 0 1 ([((outV m p l (k : Int))[0]'hl13)] : List Oc) ((((pm0.append_left Hr6).trans (List.perm_append_comm_assoc _ _ _)).cons _).trans List.perm_middle.symm) (by kernel_rfl) (by kernel_rfl) (by kernel_rfl) (by kernel_rfl) hrow8 (fun w h => St.rangeM h (cells ([((outV m p l (k : Int))[0]'hl13)] : List Oc)).toArray (List.mem_append_right _ (.head _)) (by kernel_rfl)) (by unfold maxLen; first | omega | (simp; omega)) (by first | omega | (simp; omega)) (fun _ _ _ => trivial) (fun A15 c16 Hr17 hrow18 => T.pu 8 (.slice A15 ((out ++ ([((outV m p l (k : Int))[0]'hl13)])).length) c16) (T.nil (QN.blkNormal (QN.seq (W.rg od2 (T.pe 32 (.int .i64 (IntKind.i64.wrap ((k : Int) + 1))) (.int .i64 ((k : Int) + 1)) (wrap_int (by omega) (by omega)) (T.pi 11 ((k : Int) + 1) (T.nil (QN.back (k + 1, out ++ ([((outV m p l (k : Int))[0]'hl13)]), A15, c16, Hr17) ?_ ?_ (by kernel_rfl) (fun w h => (h.perm (pm0.trans (((((pm0.append_left Hr6).trans List.perm_middle).cons _).trans (List.Perm.swap _ _ _)).append_left Hr17))).part (List.Sublist.append (List.Sublist.refl _) ((List.nil_sublist _).cons_cons _)))))))))))))))
    ·
     show (k + 1) ≤ 10 ∧ (out ++ ([((outV m p l (k : Int))[0]'hl13)])) = ((upto10.take (k + 1)).filter (hasB m)).map (hdV m p l) ∧ ((upto10.take (k + 1)).filter (hasB m)).all (neV m p l) = true ∧ (out ++ ([((outV m p l (k : Int))[0]'hl13)])).length ≤ (k + 1) ∧ RowIs 34 11 A15 (out ++ ([((outV m p l (k : Int))[0]'hl13)])).length c16 (cells (out ++ ([((outV m p l (k : Int))[0]'hl13)]))) Hr17
     exact ⟨by omega, by rw [dec_take (by omega) (not_eq_false h3), List.map_append, ← hout, dec_hd], by rw [dec_take (by omega) (not_eq_false h3), List.all_append, hall]; exact dec_ne h8, by rw [List.length_append]; simp; omega, hrow18⟩
    · show 10 - _ < 10 - _; omega
 ·
  have h2' := of_decide_eq_false h2
  refine W.exit (QN.thenExit (QN.thenExit (QN.blkHit (QN.seq (W.seq (W.rg od6 (T.pu 33 (.slice A8 (out.length) c8) (T.pu 34 (.slice A8 (out.length) c8) (T.pi 35 ((out.length : Nat) : Int) (T.pb 36 (decide (0 < ((out.length : Nat) : Int))) (T.pu 6 (.slice A8 (out.length) c8) (T.pb 7 (decide (0 < ((out.length : Nat) : Int))) (T.nil (QN.seq (W.ret (QN.done2 (.inl rfl) 6 7 (.slice A8 (out.length) c8) (.bool (decide (0 < ((out.length : Nat) : Int)))) rfl (by kernel_rfl) (by kernel_rfl) (fun w hw => ?_)))))))))))))))))
  exact (have e1 := dec_yes (m := m) (p := p) (l := l) (k := k) (by omega) hout hall; by rw [← e1.1, e1.2]; exact ⟨A8, c8, Hr8, rfl, hrow8, hw.part (List.sublist_append_left _ _)⟩)
set_option maxRecDepth 100000 in
set_option maxHeartbeats 2000000 in
theorem sbhas_c (l : List Oc) (x : Nm) (A : Option Addr) (c : Nat) (w : World) (hl : l.length ≤ 1000) (hr : Rd w A l) : Calls Tryz.prog 143 #[.slice A (l.length) c, .agg (x).cs] w (fun rr w' => rr = .returned (.bool (l.any (fun (o : Oc) => o.val == x))) ∧ Below w.heap.size w w') := by
 refine calls_W (n := 18) Tryz.func143 rfl [(0, .slice A (l.length) c), (1, .agg (x).cs)] rfl ⟨by kernel_rfl, by kernel_rfl⟩ (W.weak (Ψ := St w []) (fun w' h => by rw [h]; exact St.start w) (W.seq (W.rg od2 (T.bx 3 24 (.agg (x).cs) ((x).cs) (fun _ _ _ => trivial) (fun b1 => T.pb 4 false (T.nil (QN.seq (W.seq (W.seq (W.rg od3 (T.pu 7 (.slice A (l.length) c) (T.pi 8 ((l.length : Nat) : Int) (T.pi 9 0 (T.nil (QN.seq (W.block (W.loop (σ := Nat) (fun gs => gs ≤ (l).length ∧ ((l).take gs).any (fun (o : Oc) => o.val == x) = false) (fun gs => [(3, .pointer (some ⟨b1, 0, none⟩)), (7, .slice A (l.length) c), (8, .int .i64 (((l.length : Nat) : Int))), (9, .int .i64 gs)]) (fun gs => St w [(b1, Obj.cells (x).cs 24 (0, 0))]) (fun gs => (l).length - gs) (0) ?_ (by kernel_rfl) (fun w h => h) ?_)))))))))))))))))
 ·
  show 0 ≤ (l).length ∧ ((l).take 0).any (fun (o : Oc) => o.val == x) = false
  exact ⟨Nat.zero_le _, any_zero _ _⟩
 rintro j hI_
 obtain ⟨hj, hany⟩ : j ≤ (l).length ∧ ((l).take j).any (fun (o : Oc) => o.val == x) = false := hI_
 show W _ _ [(3, .pointer (some ⟨b1, 0, none⟩)), (7, .slice A (l.length) c), (8, .int .i64 (((l.length : Nat) : Int))), (9, .int .i64 j)] (St w [(b1, Obj.cells (x).cs 24 (0, 0))]) _ _
 refine W.seq (W.rg od1 (T.pb 10 (decide ((j : Int) < ((l.length : Nat) : Int))) (T.nil (QN.seq (W.seq (W.cd (decide ((j : Int) < ((l.length : Nat) : Int))) (fun h2 => ?_) (fun h2 => ?_)))))))
 ·
  have h2' := of_decide_eq_true h2
  have hl3 : j < (l).length := by omega
  refine W.skip (QN.seq (W.seq (W.block (W.seq (W.rg od4 ?_)))))
  obtain ⟨b4, o5, hA6, hr7⟩ := (Rd.arr hr _) j hl3
  refine T.ix 11 38 34 11 A (l.length) c ((j : Int)) (j) b4 o5 hA6 (rfl) (by omega) (T.lr false 12 ((l[j]'hl3)).cs 34 b4 (o5 + j * 11) hr7 (T.al 6 34 (Oc.zero).cs (fun _ _ _ => trivial) (fun b8 => T.sp 34 b8 0 (.agg ((l[j]'hl3)).cs) (Oc.zero).cs ((l[j]'hl3)).cs 34 pm0 (fun _ _ => trivial) (T.nil (QN.seq (W.seq (W.rg od4 (T.pu 13 (.pointer (some ⟨b8, 3, none⟩)) (T.lr false 14 (((l[j]'hl3)).val).cs 24 b8 3 (fun w h => St.rangeM h (((l[j]'hl3)).val).cs (.head _) (by kernel_rfl)) (T.lr false 15 (x).cs 24 b1 0 (fun w h => St.rangeM h (x).cs (.tail _ (.head _)) (by kernel_rfl)) (T.eqq 16 ((((l[j]'hl3)).val) == x) ((((l[j]'hl3)).val) == x) false 24 (((l[j]'hl3)).val).cs (x).cs (by kernel_rfl) (by kernel_rfl) (by kernel_rfl) (by kernel_rfl) (fun w => eq_nm w (((l[j]'hl3)).val) x) (T.nil (QN.seq (W.cd ((((l[j]'hl3)).val) == x) (fun h9 => ?_) (fun h9 => ?_)))))))))))))))
  ·
   refine W.seq (W.rg od1 (T.pb 4 true (T.nil (QN.seq (W.ret (QN.blkRet (QN.thenRet (QN.thenRet (QN.blkRet (QN.thenRet (QN.done (.inl rfl) 4 (.bool (true)) rfl (by kernel_rfl) (fun w hw => ⟨?_, hw.below⟩))))))))))))
   exact ret_bool (any_hit (p := fun (o : Oc) => o.val == x) (by omega) h9).symm
  ·
   refine W.skip (QN.blkNormal (QN.seq (W.rg od2 (T.pe 17 (.int .i64 (IntKind.i64.wrap ((j : Int) + 1))) (.int .i64 ((j : Int) + 1)) (wrap_int (by omega) (by omega)) (T.pi 9 ((j : Int) + 1) (T.nil (QN.back (j + 1) ?_ ?_ (by kernel_rfl) (fun w h => (h.perm pm1).part ((List.nil_sublist _).cons_cons _)))))))))
   ·
    show (j + 1) ≤ (l).length ∧ ((l).take (j + 1)).any (fun (o : Oc) => o.val == x) = false
    exact ⟨by omega, any_step hany (by omega) h9⟩
   · show (l).length - (j + 1) < (l).length - j; omega
 ·
  have h2' := of_decide_eq_false h2
  refine W.exit (QN.thenExit (QN.thenExit (QN.blkHit (QN.seq (W.seq (W.rg od1 (T.pb 4 false (T.nil (QN.seq (W.ret (QN.done (.inl rfl) 4 (.bool (false)) rfl (by kernel_rfl) (fun w hw => ⟨?_, hw.below⟩))))))))))))
  exact ret_bool (any_end hany (by omega)).symm
set_option maxRecDepth 100000 in
set_option maxHeartbeats 2000000 in
theorem sbcert_c (m : Int) (p : Nm) (l : List Vt) (cs : List Ch) (A : Option Addr) (c : Nat) (A2 : Option Addr) (c2 : Nat) (w : World) (hm : W64 m) (hok : ∀ u ∈ l, W64 u.support) (hl : l.length ≤ 1000) (hr : Rd w A l) (hr2 : Rd w A2 cs) : Calls Tryz.prog 91 #[.int .i64 m, .agg (p).cs, .slice A (l.length) c, .slice A2 (cs.length) c2] w (fun rr w' => rr = .returned (.bool (crtB m p l cs)) ∧ Below w.heap.size w w') := by
 have hz := size_le m
 refine calls_W (n := 51) Tryz.func91 rfl [(0, .int .i64 m), (1, .agg (p).cs), (2, .slice A (l.length) c), (3, .slice A2 (cs.length) c2)] rfl ⟨by kernel_rfl, by kernel_rfl⟩ (W.weak (Ψ := St w []) (fun w' h => by rw [h]; exact St.start w) (W.seq (W.rg od2 (T.bx 5 24 (.agg (p).cs) ((p).cs) (fun _ _ _ => trivial) (fun b1 => T.pb 8 false (T.nil (QN.seq (W.seq (W.seq (W.rg od10 (T.pi 11 m (T.cp 12 56 #[.int .i64 m] (.int .i64 ((size m : Int))) ent56 (fun w hw => Ret.same (size_c _ w)) (fun _ _ => trivial) (T.pu 13 (.slice A2 (cs.length) c2) (T.pi 14 ((cs.length : Nat) : Int) (T.pb 15 ((size m : Int) != ((cs.length : Nat) : Int)) (T.pb 16 ((size m : Int) != ((cs.length : Nat) : Int)) (T.blk [(6, false), (7, false), (8, false)] [(9, false)] 5 false ((size m : Int) != ((cs.length : Nat) : Int)) 16 19 (.bool (((cs.length : Nat) : Int) == 0)) (by kernel_rfl) (by kernel_rfl) (by kernel_rfl) (fun hg2 => ?_) ?_)))))))))))))))))
 ·
  have hg2_ := hg2
  refine T.pu 17 (.slice A2 (cs.length) c2) (T.pi 18 ((cs.length : Nat) : Int) (T.pb 19 (((cs.length : Nat) : Int) == 0) ?_))
  exact T.blkEnd (by kernel_rfl) (fun w h => h)
 refine T.oo 20 ((size m : Int) != ((cs.length : Nat) : Int)) (((cs.length : Nat) : Int) == 0) (T.nil (QN.seq (W.cd (((size m : Int) != ((cs.length : Nat) : Int)) || (((cs.length : Nat) : Int) == 0)) (fun h3 => ?_) (fun h3 => ?_))))
 ·
  refine W.seq (W.rg od1 (T.pb 8 false (T.nil (QN.seq (W.ret (QN.thenRet (QN.done (.inl rfl) 8 (.bool (false)) rfl (by kernel_rfl) (fun w hw => ⟨?_, hw.below⟩))))))))
  exact ret_bool (crt_no h3)
 ·
  have h3l := (Bool.or_eq_false_iff.1 h3).1
  have h3r := (Bool.or_eq_false_iff.1 h3).2
  have h3r' := ne_of_beq_false h3r
  refine W.skip (QN.seq (W.seq (W.seq (W.rg od4 (T.pi 21 m (T.callR 22 49 #[.int .i64 m] 3 1 (idsI m).length (cells (idsI m)) (by kernel_rfl) (by kernel_rfl) ent49 (fun w hw => ids_r _ (by first | assumption | exact w64_and _ _ | exact w64_or _ _ | exact w64_andNot _ _ | (unfold W64; omega)) w) (fun _ _ _ => trivial) (fun A4 c5 Hr6 hrow7 => T.pi 23 (((idsI m).length : Nat) : Int) (T.pi 24 0 (T.nil (QN.seq (W.block ?_)))))))))))
  have hlen := crt_len h3
  have hii := idsI_length m
  refine W.loop (σ := Nat) (fun gs => gs ≤ (idsI m).length ∧ (((idsI m).zip cs).take gs).all (crP m p l) = true) (fun gs => [(0, .int .i64 m), (2, .slice A (l.length) c), (3, .slice A2 (cs.length) c2), (5, .pointer (some ⟨b1, 0, none⟩)), (22, .slice A4 ((idsI m).length) c5), (23, .int .i64 ((((idsI m).length : Nat) : Int))), (24, .int .i64 gs)]) (fun gs => St w (Hr6 ++ [(b1, Obj.cells (p).cs 24 (0, 0))])) (fun gs => (idsI m).length - gs) (0) ?_ (by kernel_rfl) (fun w h => h) ?_
  ·
   show 0 ≤ (idsI m).length ∧ (((idsI m).zip cs).take 0).all (crP m p l) = true
   exact ⟨Nat.zero_le _, rfl⟩
  rintro j hI_
  obtain ⟨hj, hall⟩ : j ≤ (idsI m).length ∧ (((idsI m).zip cs).take j).all (crP m p l) = true := hI_
  show W _ _ [(0, .int .i64 m), (2, .slice A (l.length) c), (3, .slice A2 (cs.length) c2), (5, .pointer (some ⟨b1, 0, none⟩)), (22, .slice A4 ((idsI m).length) c5), (23, .int .i64 ((((idsI m).length : Nat) : Int))), (24, .int .i64 j)] (St w (Hr6 ++ [(b1, Obj.cells (p).cs 24 (0, 0))])) _ _
  refine W.seq (W.rg od1 (T.pb 25 (decide ((j : Int) < (((idsI m).length : Nat) : Int))) (T.nil (QN.seq (W.seq (W.cd (decide ((j : Int) < (((idsI m).length : Nat) : Int))) (fun h8 => ?_) (fun h8 => ?_)))))))
  ·
   have h8' := of_decide_eq_true h8
   have hl9 : j < (idsI m).length := by omega
   refine W.skip (QN.seq (W.seq (W.block (W.seq (W.rg od5 (T.pi 26 j ?_))))))
   obtain ⟨b10, o11, hA12, hr13⟩ := (Arr.row hrow7 (rfl) (rfl) _) j hl9
   refine T.ix 27 61 3 1 A4 ((idsI m).length) c5 ((j : Int)) (j) b10 o11 hA12 (rfl) (by omega) (T.ld false 28 (.int .i64 (((idsI m)[j]'hl9))) 3 b10 (o11 + j * 1) (fun w h => cell_of_range (hr13 w h) 0 (by kernel_rfl)) (T.pi 9 j (T.pi 10 ((idsI m)[j]'hl9) (T.nil (QN.seq (W.seq (W.drawn (Ψ := St w (Hr6 ++ [(b1, Obj.cells (p).cs 24 (0, 0))])) (St w (Hr6 ++ [(b1, Obj.cells (p).cs 24 (0, 0))])) [(0, true), (1, true), (2, true), (3, true), (4, true), (5, true), (6, true), (7, true), (8, true), (9, true), (10, true), (11, true), (13, true), (14, true), (15, true), (16, true), (17, true), (12, false), (18, false), (19, true), (20, true)] hmx (by kernel_rfl) (NoPanic.then (NoPanic.inBlock (NoPanic.then (NoPanic.then (NoPanic.inBlock (NoPanic.then (NoPanic.body))))))) (fun w h => h.drew) (fun w h => h) (T.pu 29 (.slice A2 (cs.length) c2) (T.pi 30 j ?_)))))))))
   have hl18 : j < (cs).length := by omega
   obtain ⟨b14, o15, hA16, hr17⟩ := (Rd.arr hr2 _) j hl18
   refine T.ix 31 109 108 9 A2 (cs.length) c2 ((j : Int)) (j) b14 o15 hA16 (rfl) (by omega) (T.pu 32 (.pointer (some ⟨b14, o15 + j * 9, none⟩)) (T.ld true 33 (.int .i64 (((cs[j]'hl18)).vd)) 3 b14 (o15 + j * 9) (fun w h => cell_of_range (hr17 w h) 0 (by kernel_rfl)) (T.pi 34 ((idsI m)[j]'hl9) (T.pb 35 ((((cs[j]'hl18)).vd) != ((idsI m)[j]'hl9)) (T.pb 36 ((((cs[j]'hl18)).vd) != ((idsI m)[j]'hl9)) (T.blk [(8, true), (9, true), (10, true), (11, true), (13, true), (14, true), (15, true), (16, true), (17, true), (12, false), (18, false), (19, true)] [(20, true)] 7 false ((((cs[j]'hl18)).vd) != ((idsI m)[j]'hl9)) 36 48 (.bool (!((outV m p l ((idsI m)[j]'hl9)).any (fun (o : Oc) => o.val == (((cs[j]'hl18)).val))))) (by kernel_rfl) (by kernel_rfl) (by kernel_rfl) (fun hg19 => ?_) ?_))))))
   ·
    have hg19_ := hg19
    refine T.pi 37 m (T.lr true 38 (p).cs 24 b1 0 (fun w h => St.rangeM h (p).cs (List.mem_append_right _ (.head _)) (by kernel_rfl)) (T.pu 39 (.slice A (l.length) c) (T.pi 40 ((idsI m)[j]'hl9) (T.pu 42 (.slice A2 (cs.length) c2) (T.pi 43 j ?_)))))
    obtain ⟨b20, o21, hA22, hr23⟩ := (Rd.arr hr2 _) j hl18
    refine T.ix 44 109 108 9 A2 (cs.length) c2 ((j : Int)) (j) b20 o21 hA22 (rfl) (by omega) (T.pu 45 (.pointer (some ⟨b20, o21 + j * 9 + 1, none⟩)) (T.lr true 46 (((cs[j]'hl18)).val).cs 24 b20 (o21 + j * 9 + 1) (fun w h => range_of_range (hr23 w h) 1 (((cs[j]'hl18)).val).cs (by kernel_rfl)) ?_))
    have hol := outV_len m p l (((idsI m)[j]'hl9))
    refine T.callR 41 28 #[.int .i64 m, .agg (p).cs, .slice A (l.length) c, .int .i64 (((idsI m)[j]'hl9))] 34 11 (outV m p l ((idsI m)[j]'hl9)).length (cells (outV m p l ((idsI m)[j]'hl9))) (by kernel_rfl) (by kernel_rfl) ent28 (fun w hw => outcomes_c m p l ((idsI m)[j]'hl9) A c w (by first | assumption | exact w64_and _ _ | exact w64_or _ _ | exact w64_andNot _ _ | (unfold W64; omega)) (hok) (by first | omega | (simp; done) | (simp; omega)) (Arr.rd (Rd.arr hr _) hw)) (fun Hr26 => (fun w h => (h.perm (((pm0.append_left Hr26).trans (List.perm_append_comm_assoc _ _ _)).trans (((pm0.append_left Hr26).trans List.perm_middle).append_left Hr6))).part (List.Sublist.append (List.Sublist.refl _) ((List.nil_sublist _).cons_cons _)))) (fun A24 c25 Hr26 hrow27 => T.cp 47 143 #[.slice A24 ((outV m p l ((idsI m)[j]'hl9)).length) c25, .agg (((cs[j]'hl18)).val).cs] (.bool ((outV m p l ((idsI m)[j]'hl9)).any (fun (o : Oc) => o.val == (((cs[j]'hl18)).val)))) ent143 (fun w hw => sbhas_c (outV m p l ((idsI m)[j]'hl9)) (((cs[j]'hl18)).val) A24 c25 w (by first | omega | (simp; done) | (simp; omega)) (Arr.rd (Arr.row hrow27 (rfl) (rfl) _) hw)) (fun w h => (h.perm (((pm0.append_left Hr26).trans (List.perm_append_comm_assoc _ _ _)).trans (((pm0.append_left Hr26).trans List.perm_middle).append_left Hr6))).part (List.Sublist.append (List.Sublist.refl _) ((List.nil_sublist _).cons_cons _))) (T.pb 48 (!((outV m p l ((idsI m)[j]'hl9)).any (fun (o : Oc) => o.val == (((cs[j]'hl18)).val)))) ?_))
    exact T.blkEnd (by kernel_rfl) (fun w h => (h.perm (((pm0.append_left Hr26).trans (List.perm_append_comm_assoc _ _ _)).trans (((pm0.append_left Hr26).trans List.perm_middle).append_left Hr6))).part (List.Sublist.append (List.Sublist.refl _) ((List.nil_sublist _).cons_cons _)))
   refine T.oo 49 ((((cs[j]'hl18)).vd) != ((idsI m)[j]'hl9)) (!((outV m p l ((idsI m)[j]'hl9)).any (fun (o : Oc) => o.val == (((cs[j]'hl18)).val)))) (T.nil (QN.seq (W.cd (((((cs[j]'hl18)).vd) != ((idsI m)[j]'hl9)) || (!((outV m p l ((idsI m)[j]'hl9)).any (fun (o : Oc) => o.val == (((cs[j]'hl18)).val))))) (fun h28 => ?_) (fun h28 => ?_))))
   ·
    refine W.seq (W.rg od1 (T.pb 8 false (T.nil (QN.seq (W.ret (QN.blkRet (QN.thenRet (QN.thenRet (QN.blkRet (QN.thenRet (QN.done (.inl rfl) 8 (.bool (false)) rfl (by kernel_rfl) (fun w hw => ⟨?_, hw.below⟩))))))))))))
    exact ret_bool (crt_miss (j := j) h3 (by omega) (by omega) h28)
   ·
    have h28l := (Bool.or_eq_false_iff.1 h28).1
    have h28r := (Bool.or_eq_false_iff.1 h28).2
    have h28rn := not_eq_false h28r
    refine W.skip (QN.blkNormal (QN.seq (W.rg od2 (T.pe 50 (.int .i64 (IntKind.i64.wrap ((j : Int) + 1))) (.int .i64 ((j : Int) + 1)) (wrap_int (by omega) (by omega)) (T.pi 24 ((j : Int) + 1) (T.nil (QN.back (j + 1) ?_ ?_ (by kernel_rfl) (fun w h => h))))))))
    ·
     show (j + 1) ≤ (idsI m).length ∧ (((idsI m).zip cs).take (j + 1)).all (crP m p l) = true
     exact ⟨by omega, crt_step hall (by omega) (by omega) h28⟩
    · show (idsI m).length - (j + 1) < (idsI m).length - j; omega
  ·
   have h8' := of_decide_eq_false h8
   refine W.exit (QN.thenExit (QN.thenExit (QN.blkHit (QN.seq (W.seq (W.rg od1 (T.pb 8 true (T.nil (QN.seq (W.ret (QN.done (.inl rfl) 8 (.bool (true)) rfl (by kernel_rfl) (fun w hw => ⟨?_, hw.below⟩))))))))))))
   exact ret_bool (crt_yes h3 (by omega) (by omega) hall)
end Go.Proofs.YtnjkbgcfpbbglaaGreat
