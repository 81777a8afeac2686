/- agreement: what is due; Next. -/
import Derived.Test.YtnjkbgcfpbbglaaGreatAg
namespace Go.Proofs.YtnjkbgcfpbbglaaGreat
open Go Go.RowKit
set_option linter.unusedVariables false

theorem w64_whoM (a : List Vt) (k r : Int) (F : Vt → Bool) : W64 (whoM a k r F) := by
  refine snocI (p := fun a => W64 (whoM a k r F)) (by unfold whoM W64; simp) (fun a v ih => ?_) a
  rw [whoM_snoc]
  cases whoP k r F v with
  | true => exact w64_or _ _
  | false => exact ih
theorem w64_adM (V : Vtr) (r : Int) (x : Vl) : W64 (adM V r x) := w64_or _ _
theorem w64_sgMask {κ : Type} [Cel κ] [DecidableEq κ] (f : Vt → Option κ) (a : List Vt) (o : κ) : W64 (sgMask f a o) := by
  refine snocI (p := fun a => W64 (sgMask f a o)) (by unfold sgMask W64; simp) (fun a v ih => ?_) a
  rw [sgMask_snoc]
  split
  · exact w64_or _ _
  · exact ih
theorem w64_echV (m : Int) (p : Nm) (l : List Vt) (s : Int) (x : Nm) : W64 (echV m p l s x) := by
  unfold echV; rw [sgMap_val]; exact w64_sgMask _ _ _
theorem find_hit {α : Type} {l : List α} {p : α → Bool} {j : Nat} (h : (l.take j).any p = false) (hj : j < l.length) (hp : p l[j] = true) : l.find? p = some l[j] := by
  rw [List.find?_eq_some_iff_append]
  refine ⟨hp, l.take j, l.drop (j + 1), by simp, fun a ha => ?_⟩
  have := List.any_eq_false.1 h a ha
  simpa using this
theorem find_no {α : Type} {l : List α} {p : α → Bool} (h : l.any p = false) : l.find? p = none := by
  rw [List.find?_eq_none]
  intro x hx
  have := List.any_eq_false.1 h x hx
  simpa using this
section
variable {V : Vtr} {r : Int}
theorem car_nil (h : (((((valsL V.all 3 r).length : Nat)) : Int) == 0) = true) : carN V r = none := by
  unfold carN
  cases hv : valsL V.all 3 r with
  | nil => rfl
  | cons x l => rw [hv] at h; simp at h; omega
theorem car_two {h0 : 0 < (valsL V.all 3 r).length} {h1 : 1 < (valsL V.all 3 r).length} (h : ((((r + 1) % 2 == 1) && ((valsL V.all 3 r)[0].ch == 0)) && (decide (1 < ((((valsL V.all 3 r).length : Nat)) : Int)))) = true) : carN V r = some (valsL V.all 3 r)[1] := by
  unfold carN
  revert h h0 h1
  cases valsL V.all 3 r with
  | nil => intro h0; simp at h0
  | cons x l => cases l with
    | nil => intro _ h1; simp at h1
    | cons y l =>
      intro _ _ h
      rw [Bool.and_eq_true] at h
      have h2 : (((r + 1) % 2 == 1) && (x.ch == 0)) = true := h.1
      simp only [h2]; rfl
theorem car_one {h0 : 0 < (valsL V.all 3 r).length} (h : ((((r + 1) % 2 == 1) && ((valsL V.all 3 r)[0].ch == 0)) && (decide (1 < ((((valsL V.all 3 r).length : Nat)) : Int)))) = false) : carN V r = some (valsL V.all 3 r)[0] := by
  unfold carN
  revert h h0
  cases valsL V.all 3 r with
  | nil => intro h0; simp at h0
  | cons x l => cases l with
    | nil => intro _ _; rfl
    | cons y l =>
      intro _ h
      have h1 : (decide (1 < ((((x :: y :: l).length : Nat)) : Int))) = true := by simp; omega
      rw [h1, Bool.and_true] at h
      have h2 : (((r + 1) % 2 == 1) && (x.ch == 0)) = false := h
      simp only [h2]; rfl
theorem prec_no (h : ((!(V.sg 3 r)) || (V.sg 4 r)) = true) : precN V r = none := by unfold precN; rw [h]; rfl
theorem prec_hit {j : Nat} (h : ((!(V.sg 3 r)) || (V.sg 4 r)) = false) (ha : ((valsL V.all 3 r).take j).any (fun x => enB V (whoM V.all 3 r (isV x))) = false) (hj : j < (valsL V.all 3 r).length) (hp : enB V (whoM V.all 3 r (isV (valsL V.all 3 r)[j])) = true) : precN V r = some (V.mk' 4 r (valsL V.all 3 r)[j] (lowest (whoM V.all 3 r (isV (valsL V.all 3 r)[j])) V.q)) := by
  unfold precN; rw [h, cond_false, find_hit ha hj hp]
theorem prec_mix (h : ((!(V.sg 3 r)) || (V.sg 4 r)) = false) (ha : (valsL V.all 3 r).any (fun x => enB V (whoM V.all 3 r (isV x))) = false) (hp : enB V (whoM V.all 3 r anyV) = true) : precN V r = some (V.mk' 4 r ⟨2, Nm.zero⟩ (lowest (whoM V.all 3 r anyV) V.q)) := by
  unfold precN; rw [h, cond_false, find_no ha, hp]; rfl
theorem prec_none (h : ((!(V.sg 3 r)) || (V.sg 4 r)) = false) (ha : (valsL V.all 3 r).any (fun x => enB V (whoM V.all 3 r (isV x))) = false) (hp : enB V (whoM V.all 3 r anyV) = false) : precN V r = none := by
  unfold precN; rw [h, cond_false, find_no ha, hp]; rfl
theorem prev_no (h : ((!(V.sg 4 r)) || (V.sg 3 (r + 1))) = true) : prevN V r = none := by unfold prevN; rw [h]; rfl
theorem prev_hit {j : Nat} (h : ((!(V.sg 4 r)) || (V.sg 3 (r + 1))) = false) (ha : ((valsL V.all 4 r).take j).any (fun x => enB V (adM V r x)) = false) (hj : j < (valsL V.all 4 r).length) (hp : enB V (adM V r (valsL V.all 4 r)[j]) = true) : prevN V r = some (V.mk' 3 (r + 1) (valsL V.all 4 r)[j] (bits .or .i64 (lowest (whoM V.all 4 r (isV (valsL V.all 4 r)[j])) 1) (lowest (bits .andNot .i64 (adM V r (valsL V.all 4 r)[j]) (lowest (whoM V.all 4 r (isV (valsL V.all 4 r)[j])) 1)) (V.q - 1)))) := by
  unfold prevN; rw [h, cond_false, find_hit ha hj hp]
theorem prev_few (h : ((!(V.sg 4 r)) || (V.sg 3 (r + 1))) = false) (ha : (valsL V.all 4 r).any (fun x => enB V (adM V r x)) = false) (hp : (!(enB V (mixM V r))) = true) : prevN V r = none := by
  unfold prevN; rw [h, cond_false, find_no ha, not_eq_true hp]; rfl
theorem prev_nc (h : ((!(V.sg 4 r)) || (V.sg 3 (r + 1))) = false) (ha : (valsL V.all 4 r).any (fun x => enB V (adM V r x)) = false) (hp : (!(enB V (mixM V r))) = false) (hc : (!((carN V r).isSome)) = true) : prevN V r = none := by
  unfold prevN; rw [h, cond_false, find_no ha, not_eq_false hp]
  cases hv : carN V r with
  | none => rfl
  | some x => rw [hv] at hc; cases hc
theorem prev_car (h : ((!(V.sg 4 r)) || (V.sg 3 (r + 1))) = false) (ha : (valsL V.all 4 r).any (fun x => enB V (adM V r x)) = false) (hp : (!(enB V (mixM V r))) = false) (hc : (!((carN V r).isSome)) = false) : prevN V r = some (V.mk' 3 (r + 1) ((carN V r).getD Vl.zero) (lowest (mixM V r) V.q)) := by
  unfold prevN; rw [h, cond_false, find_no ha, not_eq_false hp]
  cases hv : carN V r with
  | none => rw [hv] at hc; cases hc
  | some x => rfl
theorem echo_no {held : List Nm} (h : V.sg 2 0 = true) : echoN V held = none := by unfold echoN; rw [h]; rfl
theorem echo_hit {held : List Nm} {j : Nat} (h : V.sg 2 0 = false) (ha : ((proV V.m V.p V.own V.s).take j).any (fun n => held.any (fun h => h == n)) = false) (hj : j < (proV V.m V.p V.own V.s).length) (hp : held.any (fun h => h == (proV V.m V.p V.own V.s)[j]) = true) : echoN V held = some (V.mk' 2 0 ⟨1, (proV V.m V.p V.own V.s)[j]⟩ 0) := by
  unfold echoN; rw [h, cond_false, find_hit ha hj hp]; rfl
theorem echo_none {held : List Nm} (h : V.sg 2 0 = false) (ha : (proV V.m V.p V.own V.s).any (fun n => held.any (fun h => h == n)) = false) : echoN V held = none := by
  unfold echoN; rw [h, cond_false, find_no ha]; rfl
theorem first_no {waited : Bool} (h : V.sg 3 1 = true) : firstN V waited = none := by unfold firstN; rw [h]; rfl
theorem first_yes {waited : Bool} (h : V.sg 3 1 = false) (h0 : 0 < (cerV V.m V.p V.own V.s).length) : firstN V waited = some (V.mk' 3 1 ⟨1, (cerV V.m V.p V.own V.s)[0]⟩ (lowest (echV V.m V.p V.own V.s (cerV V.m V.p V.own V.s)[0]) V.q)) := by
  unfold firstN; rw [h, cond_false]
  revert h0
  cases cerV V.m V.p V.own V.s with
  | nil => intro h0; simp at h0
  | cons c l => intro _; rfl
theorem cer_empty {l : List Nm} (h : (decide (0 < (((l.length : Nat)) : Int))) = false) : l = [] := by
  cases l with
  | nil => rfl
  | cons c l => simp at h
theorem first_wait {waited : Bool} (h : V.sg 3 1 = false) (h0 : (decide (0 < ((((cerV V.m V.p V.own V.s).length : Nat)) : Int))) = false) (hw : (!waited) = true) : firstN V waited = none := by
  unfold firstN; rw [h, cond_false, cer_empty h0, not_eq_true hw]; rfl
theorem first_ex {waited : Bool} (h : V.sg 3 1 = false) (h0 : (decide (0 < ((((cerV V.m V.p V.own V.s).length : Nat)) : Int))) = false) (hw : (!waited) = false) : firstN V waited = some (V.mk' 3 1 Vl.zero 0) := by
  unfold firstN; rw [h, cond_false, cer_empty h0, not_eq_false hw]; rfl
end
set_option maxRecDepth 100000 in
set_option maxHeartbeats 2000000 in
theorem carried_c (q bm : Nat) (V : Vtr) (A7 : Option Addr) (c7 : Nat) (r : Int) (w : World) (hV : VtrAt w q bm V A7 c7) (hO : VtrOk V) (h1 : 1 ≤ r) (h2 : r ≤ 12) : Calls Tryz.prog 130 #[.pointer (some ⟨q, 0, none⟩), .int .i64 r] w (fun rr w' => rr = .returned (.tuple #[.agg ((carN V r).getD Vl.zero).cs, .bool (carN V r).isSome]) ∧ Below w.heap.size w w') := by
 have hvl := valsL_len V.all 3 r
 have hla := hO.len
 refine calls_W (n := 36) Tryz.func130 rfl [(0, .pointer (some ⟨q, 0, none⟩)), (1, .int .i64 r)] rfl ⟨by kernel_rfl, by kernel_rfl⟩ (W.weak (Ψ := St w []) (fun w' h => by rw [h]; exact St.start w) (W.seq (W.rg od2 (T.al 4 133 Vl.zero.cs tv3 (fun b1 => T.pb 5 false (T.nil (QN.seq (W.seq (W.rg od4 (T.pu 7 (.pointer (some ⟨q, 0, none⟩)) (T.pi 8 r (T.callR 9 122 #[.pointer (some ⟨q, 0, none⟩), .int .i64 3, .int .i64 r] 133 9 (valsL V.all 3 r).length (cells (valsL V.all 3 r)) (by kernel_rfl) (by kernel_rfl) ent122 (fun w hw => values_c _ _ V _ _ _ _ w (hV.below hw.below) hO) tv3 (fun A2 c3 Hr4 hrow5 => T.pu 6 (.slice A2 ((valsL V.all 3 r).length) c3) (T.nil (QN.seq (W.seq (W.seq (W.rg od3 (T.pu 10 (.slice A2 ((valsL V.all 3 r).length) c3) (T.pi 11 (((valsL V.all 3 r).length : Nat) : Int) (T.pb 12 ((((valsL V.all 3 r).length : Nat) : Int) == 0) (T.nil (QN.seq (W.cd ((((valsL V.all 3 r).length : Nat) : Int) == 0) (fun h6 => ?_) (fun h6 => ?_)))))))))))))))))))))))))
 ·
  have h6' := eq_of_beq h6
  refine W.seq (W.rg od3 (T.pu 13 (.agg (⟨0, Nm.zero⟩ : Vl).cs) (T.sp 133 b1 0 (.agg (⟨0, Nm.zero⟩ : Vl).cs) Vl.zero.cs (⟨0, Nm.zero⟩ : Vl).cs 133 ((pm0.append_left Hr4).trans List.perm_middle) tv2 (T.pb 5 false (T.nil (QN.seq (W.ret (QN.thenRet (QN.doneC2 (.inl rfl) 4 5 133 b1 (⟨0, Nm.zero⟩ : Vl).cs (.bool false) _ rfl (by kernel_rfl) (by kernel_rfl) Tryz.underlying133 (by kernel_rfl) (by kernel_rfl) (fun w hw => St.rangeM hw (⟨0, Nm.zero⟩ : Vl).cs mm0 (by kernel_rfl)) (fun w hw => ⟨?_, hw.below⟩))))))))))
  exact (by rw [car_nil h6]; rfl)
 ·
  have h6' := ne_of_beq_false h6
  refine W.skip (QN.seq (W.seq (W.seq (W.rg od16 ?_))))
  have hl0 : 0 < (valsL V.all 3 r).length := by omega
  refine T.pi 14 r (T.pw 15 (r + 1) (T.pe 16 (.int .i64 ((r + 1).tmod 2)) (.int .i64 ((r + 1) % 2)) (rem_int (by omega)) (T.pb 17 (((r + 1) % 2) == 1) (T.pb 18 (((r + 1) % 2) == 1) (T.bk [(5, false), (6, false), (7, false), (8, false), (9, false)] [(10, false), (11, false), (12, false), (13, false), (14, false), (15, false)] 4 true (((r + 1) % 2) == 1) 18 23 (.bool ((((valsL V.all 3 r)[0]'hl0).ch) == 0)) (fun hg7 => ?_) ?_)))))
  ·
   have hg7_ := hg7
   refine T.pu 19 (.slice A2 ((valsL V.all 3 r).length) c3) ?_
   obtain ⟨b8, o9, hA10, hr11⟩ := (Arr.row hrow5 rfl rfl _) 0 hl0
   refine T.ix 20 134 133 9 A2 ((valsL V.all 3 r).length) c3 0 0 b8 o9 hA10 (by omega) (by omega) (T.pu 21 (.pointer (some ⟨b8, o9 + 0 * 9, none⟩)) (T.ld false 22 (.int .i64 (((valsL V.all 3 r)[0]'hl0).ch)) 3 b8 (o9 + 0 * 9) (fun w h => cell_of_range (hr11 w h) 0 (by kernel_rfl)) (T.pb 23 ((((valsL V.all 3 r)[0]'hl0).ch) == 0) ?_)))
   exact T.blkEnd (by kernel_rfl) (fun w h => h)
  refine T.an 24 (((r + 1) % 2) == 1) ((((valsL V.all 3 r)[0]'hl0).ch) == 0) (T.pb 25 ((((r + 1) % 2) == 1) && ((((valsL V.all 3 r)[0]'hl0).ch) == 0)) (T.bk [(12, false), (13, false), (14, false)] [(15, false)] 11 true ((((r + 1) % 2) == 1) && ((((valsL V.all 3 r)[0]'hl0).ch) == 0)) 25 28 (.bool (decide (1 < (((valsL V.all 3 r).length : Nat) : Int)))) (fun hg12 => ?_) ?_))
  ·
   have hg12_ := hg12
   have hg12l := (Bool.and_eq_true_iff.1 hg12).1
   have hg12r := (Bool.and_eq_true_iff.1 hg12).2
   refine T.pu 26 (.slice A2 ((valsL V.all 3 r).length) c3) (T.pi 27 (((valsL V.all 3 r).length : Nat) : Int) (T.pb 28 (decide (1 < (((valsL V.all 3 r).length : Nat) : Int))) ?_))
   exact T.blkEnd (by kernel_rfl) (fun w h => h)
  refine T.an 29 ((((r + 1) % 2) == 1) && ((((valsL V.all 3 r)[0]'hl0).ch) == 0)) (decide (1 < (((valsL V.all 3 r).length : Nat) : Int))) (T.nil (QN.seq (W.cd (((((r + 1) % 2) == 1) && ((((valsL V.all 3 r)[0]'hl0).ch) == 0)) && (decide (1 < (((valsL V.all 3 r).length : Nat) : Int)))) (fun h13 => ?_) (fun h13 => ?_))))
  ·
   have h13l := (Bool.and_eq_true_iff.1 h13).1
   have h13r := (Bool.and_eq_true_iff.1 h13).2
   have h13ll := (Bool.and_eq_true_iff.1 h13l).1
   have h13lr := (Bool.and_eq_true_iff.1 h13l).2
   have h13r' := of_decide_eq_true h13r
   refine W.seq (W.rg od5 (T.pu 30 (.slice A2 ((valsL V.all 3 r).length) c3) ?_))
   have hl18 : 1 < (valsL V.all 3 r).length := by omega
   obtain ⟨b14, o15, hA16, hr17⟩ := (Arr.row hrow5 rfl rfl _) 1 hl18
   refine T.ix 31 134 133 9 A2 ((valsL V.all 3 r).length) c3 1 1 b14 o15 hA16 (by omega) (by omega) (T.lr false 32 ((valsL V.all 3 r)[1]'hl18).cs 133 b14 (o15 + 1 * 9) hr17 (T.sp 133 b1 0 (.agg ((valsL V.all 3 r)[1]'hl18).cs) Vl.zero.cs ((valsL V.all 3 r)[1]'hl18).cs 133 ((pm0.append_left Hr4).trans List.perm_middle) tv2 (T.pb 5 true (T.nil (QN.seq (W.ret (QN.thenRet (QN.doneC2 (.inl rfl) 4 5 133 b1 ((valsL V.all 3 r)[1]'hl18).cs (.bool true) _ rfl (by kernel_rfl) (by kernel_rfl) Tryz.underlying133 (by kernel_rfl) (by kernel_rfl) (fun w hw => St.rangeM hw ((valsL V.all 3 r)[1]'hl18).cs mm0 (by kernel_rfl)) (fun w hw => ⟨?_, hw.below⟩)))))))))
   exact (by rw [car_two h13]; rfl)
  ·
   refine W.skip (QN.seq (W.seq (W.rg od5 (T.pu 33 (.slice A2 ((valsL V.all 3 r).length) c3) ?_))))
   obtain ⟨b19, o20, hA21, hr22⟩ := (Arr.row hrow5 rfl rfl _) 0 hl0
   refine T.ix 34 134 133 9 A2 ((valsL V.all 3 r).length) c3 0 0 b19 o20 hA21 (by omega) (by omega) (T.lr false 35 ((valsL V.all 3 r)[0]'hl0).cs 133 b19 (o20 + 0 * 9) hr22 (T.sp 133 b1 0 (.agg ((valsL V.all 3 r)[0]'hl0).cs) Vl.zero.cs ((valsL V.all 3 r)[0]'hl0).cs 133 ((pm0.append_left Hr4).trans List.perm_middle) tv2 (T.pb 5 true (T.nil (QN.seq (W.ret (QN.doneC2 (.inl rfl) 4 5 133 b1 ((valsL V.all 3 r)[0]'hl0).cs (.bool true) _ rfl (by kernel_rfl) (by kernel_rfl) Tryz.underlying133 (by kernel_rfl) (by kernel_rfl) (fun w hw => St.rangeM hw ((valsL V.all 3 r)[0]'hl0).cs mm0 (by kernel_rfl)) (fun w hw => ⟨?_, hw.below⟩))))))))
   exact (by rw [car_one (h0 := hl0) h13]; rfl)
set_option maxRecDepth 100000 in
set_option maxHeartbeats 2000000 in
theorem agprec_c (q bm : Nat) (V : Vtr) (A7 : Option Addr) (c7 : Nat) (r : Int) (w : World) (hV : VtrAt w q bm V A7 c7) (hO : VtrOk V) (h1 : 1 ≤ r) (h2 : r ≤ 12) : Calls Tryz.prog 80 #[.pointer (some ⟨q, 0, none⟩), .int .i64 r] w (fun rr w' => rr = .returned (.tuple #[.agg ((precN V r).getD Vt.zero).cs, .bool (precN V r).isSome]) ∧ Below w.heap.size w w') := by
 have hla := hO.len
 have hq0 := hO.q0
 have hvl3 := valsL_len V.all 3 r
 have hvl4 := valsL_len V.all 4 r
 refine calls_W (n := 67) Tryz.func80 rfl [(0, .pointer (some ⟨q, 0, none⟩)), (1, .int .i64 r)] rfl ⟨by kernel_rfl, by kernel_rfl⟩ (W.weak (Ψ := St w []) (fun w' h => by rw [h]; exact St.start w) (W.seq (W.rg od2 (T.al 4 47 Vt.zero.cs tv3 (fun b1 => T.pb 5 false (T.nil (QN.seq (W.seq (W.seq (W.rg od9 (T.pu 10 (.pointer (some ⟨q, 0, none⟩)) (T.pi 11 r (T.cp 12 119 #[.pointer (some ⟨q, 0, none⟩), .int .i64 3, .int .i64 r] (.bool (Vtr.sg V 3 r)) ent119 (fun w hw => signed_c _ _ V _ _ _ _ w (hV.below hw.below)) tv2 (T.pb 13 (!(Vtr.sg V 3 r)) (T.pb 14 (!(Vtr.sg V 3 r)) (T.bk [(5, false), (6, false), (7, false)] [(8, false)] 4 false (!(Vtr.sg V 3 r)) 14 17 (.bool (Vtr.sg V 4 r)) (fun hg2 => ?_) ?_))))))))))))))))
 ·
  have hg2_ := hg2
  have hg2n := not_eq_false hg2
  refine T.pu 15 (.pointer (some ⟨q, 0, none⟩)) (T.pi 16 r (T.cp 17 119 #[.pointer (some ⟨q, 0, none⟩), .int .i64 4, .int .i64 r] (.bool (Vtr.sg V 4 r)) ent119 (fun w hw => signed_c _ _ V _ _ _ _ w (hV.below hw.below)) tv2 ?_))
  exact T.blkEnd (by kernel_rfl) (fun w h => h)
 refine T.oo 18 (!(Vtr.sg V 3 r)) (Vtr.sg V 4 r) (T.nil (QN.seq (W.cd ((!(Vtr.sg V 3 r)) || (Vtr.sg V 4 r)) (fun h3 => ?_) (fun h3 => ?_))))
 ·
  refine W.seq (W.rg od3 (T.pu 19 (.agg (⟨0, 0, 0, 0, 0, 0, Nm.zero, Nm.zero⟩ : Vt).cs) (T.sp 47 b1 0 (.agg (⟨0, 0, 0, 0, 0, 0, Nm.zero, Nm.zero⟩ : Vt).cs) Vt.zero.cs (⟨0, 0, 0, 0, 0, 0, Nm.zero, Nm.zero⟩ : Vt).cs 47 pm0 tv2 (T.pb 5 false (T.nil (QN.seq (W.ret (QN.thenRet (QN.doneC2 (.inl rfl) 4 5 47 b1 (⟨0, 0, 0, 0, 0, 0, Nm.zero, Nm.zero⟩ : Vt).cs (.bool false) _ rfl (by kernel_rfl) (by kernel_rfl) Tryz.underlying47 (by kernel_rfl) (by kernel_rfl) (fun w hw => St.rangeM hw (⟨0, 0, 0, 0, 0, 0, Nm.zero, Nm.zero⟩ : Vt).cs mm0 (by kernel_rfl)) (fun w hw => ⟨?_, hw.below⟩))))))))))
  exact (by rw [prec_no h3]; rfl)
 ·
  have h3l := (Bool.or_eq_false_iff.1 h3).1
  have h3r := (Bool.or_eq_false_iff.1 h3).2
  have h3ln := not_eq_false h3l
  refine W.skip (QN.seq (W.seq (W.seq (W.rg od5 (T.pu 20 (.pointer (some ⟨q, 0, none⟩)) (T.pi 21 r (T.callR 22 122 #[.pointer (some ⟨q, 0, none⟩), .int .i64 3, .int .i64 r] 133 9 (valsL V.all 3 r).length (cells (valsL V.all 3 r)) (by kernel_rfl) (by kernel_rfl) ent122 (fun w hw => values_c _ _ V _ _ _ _ w (hV.below hw.below) hO) tv3 (fun A4 c5 Hr6 hrow7 => T.pi 23 (((valsL V.all 3 r).length : Nat) : Int) (T.pi 24 0 (T.nil (QN.seq (W.block (W.loop (σ := Nat) (fun gs => gs ≤ (valsL V.all 3 r).length ∧ ((valsL V.all 3 r).take gs).any (fun x => enB V (whoM V.all 3 r (isV x))) = false) (fun gs => [(0, .pointer (some ⟨q, 0, none⟩)), (1, .int .i64 r), (4, .pointer (some ⟨b1, 0, none⟩)), (22, .slice A4 ((valsL V.all 3 r).length) c5), (23, .int .i64 (((valsL V.all 3 r).length : Nat) : Int)), (24, .int .i64 gs)]) (fun gs => St w (Hr6 ++ [(b1, Obj.cells Vt.zero.cs 47 (0, 0))])) (fun gs => (valsL V.all 3 r).length - gs) 0 ?_ (by kernel_rfl) (fun w h => h) ?_)))))))))))))
  ·
   try dsimp only
   exact ⟨Nat.zero_le _, any_zero _ _⟩
  rintro j hI_
  obtain ⟨hj, hany⟩ : j ≤ (valsL V.all 3 r).length ∧ ((valsL V.all 3 r).take j).any (fun x => enB V (whoM V.all 3 r (isV x))) = false := hI_
  refine W.seq (W.rg od1 (T.pb 25 (decide ((j : Int) < (((valsL V.all 3 r).length : Nat) : Int))) (T.nil (QN.seq (W.seq (W.cd (decide ((j : Int) < (((valsL V.all 3 r).length : Nat) : Int))) (fun h8 => ?_) (fun h8 => ?_)))))))
  ·
   have h8' := of_decide_eq_true h8
   have hl9 : j < (valsL V.all 3 r).length := by omega
   refine W.skip (QN.seq (W.seq (W.block (W.seq (W.rg od4 ?_)))))
   obtain ⟨b10, o11, hA12, hr13⟩ := (Arr.row hrow7 rfl rfl _) j hl9
   refine T.ix 26 134 133 9 A4 ((valsL V.all 3 r).length) c5 (j : Int) j b10 o11 hA12 rfl (by omega) (T.lr false 27 ((valsL V.all 3 r)[j]'hl9).cs 133 b10 (o11 + j * 9) hr13 (T.al 7 133 Vl.zero.cs tv3 (fun b14 => T.sp 133 b14 0 (.agg ((valsL V.all 3 r)[j]'hl9).cs) Vl.zero.cs ((valsL V.all 3 r)[j]'hl9).cs 133 pm0 tv2 (T.nil (QN.seq (W.seq (W.rg od5 (T.pu 28 (.pointer (some ⟨q, 0, none⟩)) (T.pi 29 r (T.pu 30 (.func (.func 124) #[] #[.pointer (some ⟨b14, 0, none⟩)]) (T.cp 31 123 #[.pointer (some ⟨q, 0, none⟩), .int .i64 3, .int .i64 r, .func (.func 124) #[] #[.pointer (some ⟨b14, 0, none⟩)]] (.int .i64 (whoM V.all 3 r (isV ((valsL V.all 3 r)[j]'hl9)))) ent123 ?_ tv2 ?_)))))))))))
   ·
    intro w hw
    exact who_c _ _ V _ _ 3 r 124 #[.pointer (some ⟨b14, 0, none⟩)] (isV ((valsL V.all 3 r)[j]'hl9)) w (hV.below hw.below) hO ⟨ent124, fun v w' hb => pc1_c v ((valsL V.all 3 r)[j]'hl9) b14 w' ((hb.block _ (Array.getElem?_eq_some_iff.1 (hw.has _ mm0).2).1).trans (hw.has _ mm0).2)⟩
   refine T.pi 8 (whoM V.all 3 r (isV ((valsL V.all 3 r)[j]'hl9))) (T.nil (QN.seq (W.seq (W.rg od3 (T.pu 32 (.pointer (some ⟨q, 0, none⟩)) (T.pi 33 (whoM V.all 3 r (isV ((valsL V.all 3 r)[j]'hl9))) (T.cp 34 126 #[.pointer (some ⟨q, 0, none⟩), .int .i64 (whoM V.all 3 r (isV ((valsL V.all 3 r)[j]'hl9)))] (.bool (enB V (whoM V.all 3 r (isV ((valsL V.all 3 r)[j]'hl9))))) ent126 (fun w hw => enough_c _ _ V _ _ _ w (hV.below hw.below)) tv2 (T.nil (QN.seq (W.cd (enB V (whoM V.all 3 r (isV ((valsL V.all 3 r)[j]'hl9)))) (fun h15 => ?_) (fun h15 => ?_)))))))))))
   ·
    refine W.seq (W.drawn (Ψ := St w ((b14, Obj.cells ((valsL V.all 3 r)[j]'hl9).cs 133 (0, 0)) :: (Hr6 ++ [(b1, Obj.cells Vt.zero.cs 47 (0, 0))]))) (St w ((b14, Obj.cells ((valsL V.all 3 r)[j]'hl9).cs 133 (0, 0)) :: (Hr6 ++ []))) [(0, true), (1, true), (2, true), (3, true), (4, true), (5, true), (6, true), (7, true), (8, false), (9, false), (10, true), (11, true), (12, false), (13, false)] hmx (by kernel_rfl) (NoPanic.then (NoPanic.inBlock (NoPanic.then (NoPanic.then (NoPanic.inBlock (NoPanic.then NoPanic.body)))))) (fun w h => h.drew) (fun w h => (h.perm (pm0.trans (pm0.cons _))).part ((List.Sublist.append (List.Sublist.refl _) (List.nil_sublist _)).cons_cons _)) (T.pu 35 (.pointer (some ⟨q, 0, none⟩)) (T.pi 36 r (T.lr true 37 ((valsL V.all 3 r)[j]'hl9).cs 133 b14 0 (fun w h => St.rangeM h ((valsL V.all 3 r)[j]'hl9).cs mm0 (by kernel_rfl)) (T.pi 38 (whoM V.all 3 r (isV ((valsL V.all 3 r)[j]'hl9))) (T.pu 39 (.pointer (some ⟨q, 0, none⟩)) (T.pu 40 (.pointer (some ⟨q, 0, none⟩)) (T.pu 41 (.pointer (some ⟨q, 1, none⟩)) (T.ld true 42 (.int .i64 V.q) 3 q 1 (fun w h => St.extCell h hV.blk (by kernel_rfl)) (T.cp 43 121 #[.int .i64 (whoM V.all 3 r (isV ((valsL V.all 3 r)[j]'hl9))), .int .i64 V.q] (.int .i64 (lowest (whoM V.all 3 r (isV ((valsL V.all 3 r)[j]'hl9))) V.q)) ent121 (fun w hw => lowest_c _ _ (w64_whoM _ _ _ _) (by unfold W64; omega) w) (fun w h => (h.perm (pm0.trans (pm0.cons _))).part ((List.Sublist.append (List.Sublist.refl _) (List.nil_sublist _)).cons_cons _)) (T.cp 44 120 #[.pointer (some ⟨q, 0, none⟩), .int .i64 4, .int .i64 r, .agg ((valsL V.all 3 r)[j]'hl9).cs, .int .i64 (lowest (whoM V.all 3 r (isV ((valsL V.all 3 r)[j]'hl9))) V.q)] (.tuple #[.agg (Vtr.mk' V 4 r ((valsL V.all 3 r)[j]'hl9) (lowest (whoM V.all 3 r (isV ((valsL V.all 3 r)[j]'hl9))) V.q)).cs, .bool true]) ent120 (fun w hw => vote_c _ _ V _ _ _ _ _ _ w (hV.below hw.below)) (fun w h => (h.perm (pm0.trans (pm0.cons _))).part ((List.Sublist.append (List.Sublist.refl _) (List.nil_sublist _)).cons_cons _)) (T.pu 45 (.agg (Vtr.mk' V 4 r ((valsL V.all 3 r)[j]'hl9) (lowest (whoM V.all 3 r (isV ((valsL V.all 3 r)[j]'hl9))) V.q)).cs) (T.pb 46 true (T.sp 47 b1 0 (.agg (Vtr.mk' V 4 r ((valsL V.all 3 r)[j]'hl9) (lowest (whoM V.all 3 r (isV ((valsL V.all 3 r)[j]'hl9))) V.q)).cs) Vt.zero.cs (Vtr.mk' V 4 r ((valsL V.all 3 r)[j]'hl9) (lowest (whoM V.all 3 r (isV ((valsL V.all 3 r)[j]'hl9))) V.q)).cs 47 ((((pm0.append_left Hr6).trans List.perm_middle).cons _).trans (List.Perm.swap _ _ _)) (fun w h => (h.perm (pm1.trans (((pm0.cons _).trans List.perm_middle.symm).cons _))).part ((List.Sublist.append (List.Sublist.refl _) (List.nil_sublist _)).cons_cons _)) (T.pb 5 true (T.nil (QN.seq (W.ret (QN.blkRet (QN.thenRet (QN.thenRet (QN.blkRet (QN.thenRet (QN.doneC2 (.inl rfl) 4 5 47 b1 (Vtr.mk' V 4 r ((valsL V.all 3 r)[j]'hl9) (lowest (whoM V.all 3 r (isV ((valsL V.all 3 r)[j]'hl9))) V.q)).cs (.bool true) _ rfl (by kernel_rfl) (by kernel_rfl) Tryz.underlying47 (by kernel_rfl) (by kernel_rfl) (fun w hw => St.rangeM hw (Vtr.mk' V 4 r ((valsL V.all 3 r)[j]'hl9) (lowest (whoM V.all 3 r (isV ((valsL V.all 3 r)[j]'hl9))) V.q)).cs mm0 (by kernel_rfl)) (fun w hw => ⟨?_, hw.below⟩)))))))))))))))))))))))))
    exact (by rw [prec_hit h3 hany (by omega) h15]; rfl)
   ·
    refine W.skip (QN.blkNormal (QN.seq (W.rg od2 (T.pw 47 ((j : Int) + 1) (T.pi 24 ((j : Int) + 1) (T.nil (QN.back (j + 1) ?_ ?_ (by kernel_rfl) (fun w h => (h.perm (((pm0.cons _).trans List.perm_middle.symm).trans (pm1.append_left Hr6))).part (List.Sublist.append (List.Sublist.refl _) ns1)))))))))
    ·
     try dsimp only
     exact ⟨by omega, any_step hany (by omega) h15⟩
    · show (valsL V.all 3 r).length - (j + 1) < (valsL V.all 3 r).length - j; omega
  ·
   have h8' := of_decide_eq_false h8
   refine W.exit (QN.thenExit (QN.thenExit (QN.blkHit (QN.seq (W.seq (W.seq (W.rg od4 (T.pu 48 (.pointer (some ⟨q, 0, none⟩)) (T.pi 49 r (T.cp 50 123 #[.pointer (some ⟨q, 0, none⟩), .int .i64 3, .int .i64 r, .func (.func 127) #[] #[]] (.int .i64 (whoM V.all 3 r anyV)) ent123 ?_ tv2 ?_))))))))))
   ·
    intro w hw
    exact who_c _ _ V _ _ 3 r 127 #[] anyV w (hV.below hw.below) hO ⟨ent127, fun v w' hb => pc2_c v w'⟩
   refine T.pi 9 (whoM V.all 3 r anyV) (T.nil (QN.seq (W.seq (W.rg od3 (T.pu 51 (.pointer (some ⟨q, 0, none⟩)) (T.pi 52 (whoM V.all 3 r anyV) (T.cp 53 126 #[.pointer (some ⟨q, 0, none⟩), .int .i64 (whoM V.all 3 r anyV)] (.bool (enB V (whoM V.all 3 r anyV))) ent126 (fun w hw => enough_c _ _ V _ _ _ w (hV.below hw.below)) tv2 (T.nil (QN.seq (W.cd (enB V (whoM V.all 3 r anyV)) (fun h16 => ?_) (fun h16 => ?_)))))))))))
   ·
    refine W.seq (W.rg od14 (T.pu 54 (.pointer (some ⟨q, 0, none⟩)) (T.pi 55 r (T.pu 56 (.agg (⟨2, Nm.zero⟩ : Vl).cs) (T.pi 57 (whoM V.all 3 r anyV) (T.pu 58 (.pointer (some ⟨q, 0, none⟩)) (T.pu 59 (.pointer (some ⟨q, 0, none⟩)) (T.pu 60 (.pointer (some ⟨q, 1, none⟩)) (T.ld false 61 (.int .i64 V.q) 3 q 1 (fun w h => St.extCell h hV.blk (by kernel_rfl)) (T.cp 62 121 #[.int .i64 (whoM V.all 3 r anyV), .int .i64 V.q] (.int .i64 (lowest (whoM V.all 3 r anyV) V.q)) ent121 (fun w hw => lowest_c _ _ (w64_whoM _ _ _ _) (by unfold W64; omega) w) tv2 (T.cp 63 120 #[.pointer (some ⟨q, 0, none⟩), .int .i64 4, .int .i64 r, .agg (⟨2, Nm.zero⟩ : Vl).cs, .int .i64 (lowest (whoM V.all 3 r anyV) V.q)] (.tuple #[.agg (Vtr.mk' V 4 r (⟨2, Nm.zero⟩ : Vl) (lowest (whoM V.all 3 r anyV) V.q)).cs, .bool true]) ent120 (fun w hw => vote_c _ _ V _ _ _ _ _ _ w (hV.below hw.below)) tv2 (T.pu 64 (.agg (Vtr.mk' V 4 r (⟨2, Nm.zero⟩ : Vl) (lowest (whoM V.all 3 r anyV) V.q)).cs) (T.pb 65 true (T.sp 47 b1 0 (.agg (Vtr.mk' V 4 r (⟨2, Nm.zero⟩ : Vl) (lowest (whoM V.all 3 r anyV) V.q)).cs) Vt.zero.cs (Vtr.mk' V 4 r (⟨2, Nm.zero⟩ : Vl) (lowest (whoM V.all 3 r anyV) V.q)).cs 47 ((pm0.append_left Hr6).trans List.perm_middle) tv2 (T.pb 5 true (T.nil (QN.seq (W.ret (QN.thenRet (QN.doneC2 (.inl rfl) 4 5 47 b1 (Vtr.mk' V 4 r (⟨2, Nm.zero⟩ : Vl) (lowest (whoM V.all 3 r anyV) V.q)).cs (.bool true) _ rfl (by kernel_rfl) (by kernel_rfl) Tryz.underlying47 (by kernel_rfl) (by kernel_rfl) (fun w hw => St.rangeM hw (Vtr.mk' V 4 r (⟨2, Nm.zero⟩ : Vl) (lowest (whoM V.all 3 r anyV) V.q)).cs mm0 (by kernel_rfl)) (fun w hw => ⟨?_, hw.below⟩)))))))))))))))))))))
    exact (by rw [prec_mix h3 (any_end hany (by omega)) h16]; rfl)
   ·
    refine W.skip (QN.seq (W.seq (W.rg od3 (T.pu 66 (.agg (⟨0, 0, 0, 0, 0, 0, Nm.zero, Nm.zero⟩ : Vt).cs) (T.sp 47 b1 0 (.agg (⟨0, 0, 0, 0, 0, 0, Nm.zero, Nm.zero⟩ : Vt).cs) Vt.zero.cs (⟨0, 0, 0, 0, 0, 0, Nm.zero, Nm.zero⟩ : Vt).cs 47 ((pm0.append_left Hr6).trans List.perm_middle) tv2 (T.pb 5 false (T.nil (QN.seq (W.ret (QN.doneC2 (.inl rfl) 4 5 47 b1 (⟨0, 0, 0, 0, 0, 0, Nm.zero, Nm.zero⟩ : Vt).cs (.bool false) _ rfl (by kernel_rfl) (by kernel_rfl) Tryz.underlying47 (by kernel_rfl) (by kernel_rfl) (fun w hw => St.rangeM hw (⟨0, 0, 0, 0, 0, 0, Nm.zero, Nm.zero⟩ : Vt).cs mm0 (by kernel_rfl)) (fun w hw => ⟨?_, hw.below⟩)))))))))))
    exact (by rw [prec_none h3 (any_end hany (by omega)) h16]; rfl)
set_option maxRecDepth 100000 in
set_option maxHeartbeats 2000000 in
theorem agprev_c (q bm : Nat) (V : Vtr) (A7 : Option Addr) (c7 : Nat) (r : Int) (w : World) (hV : VtrAt w q bm V A7 c7) (hO : VtrOk V) (h1 : 1 ≤ r) (h2 : r ≤ 12) : Calls Tryz.prog 81 #[.pointer (some ⟨q, 0, none⟩), .int .i64 r] w (fun rr w' => rr = .returned (.tuple #[.agg ((prevN V r).getD Vt.zero).cs, .bool (prevN V r).isSome]) ∧ Below w.heap.size w w') := by
 have hla := hO.len
 have hq0 := hO.q0
 have hvl3 := valsL_len V.all 3 r
 have hvl4 := valsL_len V.all 4 r
 refine calls_W (n := 94) Tryz.func81 rfl [(0, .pointer (some ⟨q, 0, none⟩)), (1, .int .i64 r)] rfl ⟨by kernel_rfl, by kernel_rfl⟩ (W.weak (Ψ := St w []) (fun w' h => by rw [h]; exact St.start w) (W.seq (W.rg od2 (T.al 4 47 Vt.zero.cs tv3 (fun b1 => T.pb 5 false (T.nil (QN.seq (W.seq (W.seq (W.rg od10 (T.pu 13 (.pointer (some ⟨q, 0, none⟩)) (T.pi 14 r (T.cp 15 119 #[.pointer (some ⟨q, 0, none⟩), .int .i64 4, .int .i64 r] (.bool (Vtr.sg V 4 r)) ent119 (fun w hw => signed_c _ _ V _ _ _ _ w (hV.below hw.below)) tv2 (T.pb 16 (!(Vtr.sg V 4 r)) (T.pb 17 (!(Vtr.sg V 4 r)) (T.bk [(5, false), (6, false), (7, false), (8, false)] [(9, false)] 4 false (!(Vtr.sg V 4 r)) 17 21 (.bool (Vtr.sg V 3 (r + 1))) (fun hg2 => ?_) ?_))))))))))))))))
 ·
  have hg2_ := hg2
  have hg2n := not_eq_false hg2
  refine T.pu 18 (.pointer (some ⟨q, 0, none⟩)) (T.pi 19 r (T.pw 20 (r + 1) (T.cp 21 119 #[.pointer (some ⟨q, 0, none⟩), .int .i64 3, .int .i64 (r + 1)] (.bool (Vtr.sg V 3 (r + 1))) ent119 (fun w hw => signed_c _ _ V _ _ _ _ w (hV.below hw.below)) tv2 ?_)))
  exact T.blkEnd (by kernel_rfl) (fun w h => h)
 refine T.oo 22 (!(Vtr.sg V 4 r)) (Vtr.sg V 3 (r + 1)) (T.nil (QN.seq (W.cd ((!(Vtr.sg V 4 r)) || (Vtr.sg V 3 (r + 1))) (fun h3 => ?_) (fun h3 => ?_))))
 ·
  refine W.seq (W.rg od3 (T.pu 23 (.agg (⟨0, 0, 0, 0, 0, 0, Nm.zero, Nm.zero⟩ : Vt).cs) (T.sp 47 b1 0 (.agg (⟨0, 0, 0, 0, 0, 0, Nm.zero, Nm.zero⟩ : Vt).cs) Vt.zero.cs (⟨0, 0, 0, 0, 0, 0, Nm.zero, Nm.zero⟩ : Vt).cs 47 pm0 tv2 (T.pb 5 false (T.nil (QN.seq (W.ret (QN.thenRet (QN.doneC2 (.inl rfl) 4 5 47 b1 (⟨0, 0, 0, 0, 0, 0, Nm.zero, Nm.zero⟩ : Vt).cs (.bool false) _ rfl (by kernel_rfl) (by kernel_rfl) Tryz.underlying47 (by kernel_rfl) (by kernel_rfl) (fun w hw => St.rangeM hw (⟨0, 0, 0, 0, 0, 0, Nm.zero, Nm.zero⟩ : Vt).cs mm0 (by kernel_rfl)) (fun w hw => ⟨?_, hw.below⟩))))))))))
  exact (by rw [prev_no h3]; rfl)
 ·
  have h3l := (Bool.or_eq_false_iff.1 h3).1
  have h3r := (Bool.or_eq_false_iff.1 h3).2
  have h3ln := not_eq_false h3l
  refine W.skip (QN.seq (W.seq (W.rg od4 (T.pu 24 (.pointer (some ⟨q, 0, none⟩)) (T.pi 25 r (T.cp 26 123 #[.pointer (some ⟨q, 0, none⟩), .int .i64 4, .int .i64 r, .func (.func 128) #[] #[]] (.int .i64 (mixM V r)) ent123 ?_ tv2 ?_))))))
  ·
   intro w hw
   exact who_c _ _ V _ _ 4 r 128 #[] mixV w (hV.below hw.below) hO ⟨ent128, fun v w' hb => pv1_c v w'⟩
  refine T.pi 6 (mixM V r) (T.nil (QN.seq (W.seq (W.seq (W.rg od5 (T.pu 27 (.pointer (some ⟨q, 0, none⟩)) (T.pi 28 r (T.callR 29 122 #[.pointer (some ⟨q, 0, none⟩), .int .i64 4, .int .i64 r] 133 9 (valsL V.all 4 r).length (cells (valsL V.all 4 r)) (by kernel_rfl) (by kernel_rfl) ent122 (fun w hw => values_c _ _ V _ _ _ _ w (hV.below hw.below) hO) tv3 (fun A4 c5 Hr6 hrow7 => T.pi 30 (((valsL V.all 4 r).length : Nat) : Int) (T.pi 31 0 (T.nil (QN.seq (W.block (W.loop (σ := Nat) (fun gs => gs ≤ (valsL V.all 4 r).length ∧ ((valsL V.all 4 r).take gs).any (fun x => enB V (adM V r x)) = false) (fun gs => [(0, .pointer (some ⟨q, 0, none⟩)), (1, .int .i64 r), (4, .pointer (some ⟨b1, 0, none⟩)), (6, .int .i64 (mixM V r)), (29, .slice A4 ((valsL V.all 4 r).length) c5), (30, .int .i64 (((valsL V.all 4 r).length : Nat) : Int)), (31, .int .i64 gs)]) (fun gs => St w (Hr6 ++ [(b1, Obj.cells Vt.zero.cs 47 (0, 0))])) (fun gs => (valsL V.all 4 r).length - gs) 0 ?_ (by kernel_rfl) (fun w h => h) ?_))))))))))))))
  ·
   try dsimp only
   exact ⟨Nat.zero_le _, any_zero _ _⟩
  rintro j hI_
  obtain ⟨hj, hany⟩ : j ≤ (valsL V.all 4 r).length ∧ ((valsL V.all 4 r).take j).any (fun x => enB V (adM V r x)) = false := hI_
  refine W.seq (W.rg od1 (T.pb 32 (decide ((j : Int) < (((valsL V.all 4 r).length : Nat) : Int))) (T.nil (QN.seq (W.seq (W.cd (decide ((j : Int) < (((valsL V.all 4 r).length : Nat) : Int))) (fun h8 => ?_) (fun h8 => ?_)))))))
  ·
   have h8' := of_decide_eq_true h8
   have hl9 : j < (valsL V.all 4 r).length := by omega
   refine W.skip (QN.seq (W.seq (W.block (W.seq (W.rg od4 ?_)))))
   obtain ⟨b10, o11, hA12, hr13⟩ := (Arr.row hrow7 rfl rfl _) j hl9
   refine T.ix 33 134 133 9 A4 ((valsL V.all 4 r).length) c5 (j : Int) j b10 o11 hA12 rfl (by omega) (T.lr false 34 ((valsL V.all 4 r)[j]'hl9).cs 133 b10 (o11 + j * 9) hr13 (T.al 8 133 Vl.zero.cs tv3 (fun b14 => T.sp 133 b14 0 (.agg ((valsL V.all 4 r)[j]'hl9).cs) Vl.zero.cs ((valsL V.all 4 r)[j]'hl9).cs 133 pm0 tv2 (T.nil (QN.seq (W.seq (W.rg od5 (T.pu 35 (.pointer (some ⟨q, 0, none⟩)) (T.pi 36 r (T.pu 37 (.func (.func 129) #[] #[.pointer (some ⟨b14, 0, none⟩)]) (T.cp 38 123 #[.pointer (some ⟨q, 0, none⟩), .int .i64 4, .int .i64 r, .func (.func 129) #[] #[.pointer (some ⟨b14, 0, none⟩)]] (.int .i64 (whoM V.all 4 r (isV ((valsL V.all 4 r)[j]'hl9)))) ent123 ?_ tv2 ?_)))))))))))
   ·
    intro w hw
    exact who_c _ _ V _ _ 4 r 129 #[.pointer (some ⟨b14, 0, none⟩)] (isV ((valsL V.all 4 r)[j]'hl9)) w (hV.below hw.below) hO ⟨ent129, fun v w' hb => pv2_c v ((valsL V.all 4 r)[j]'hl9) b14 w' ((hb.block _ (Array.getElem?_eq_some_iff.1 (hw.has _ mm0).2).1).trans (hw.has _ mm0).2)⟩
   refine T.pi 9 (whoM V.all 4 r (isV ((valsL V.all 4 r)[j]'hl9))) (T.nil (QN.seq (W.seq (W.rg od5 (T.pu 39 (.pointer (some ⟨q, 0, none⟩)) (T.pi 40 (whoM V.all 4 r (isV ((valsL V.all 4 r)[j]'hl9))) (T.pi 41 (mixM V r) (T.pe 42 (.int .i64 (bits .or .i64 (whoM V.all 4 r (isV ((valsL V.all 4 r)[j]'hl9))) (mixM V r))) (.int .i64 (adM V r ((valsL V.all 4 r)[j]'hl9))) rfl (T.cp 43 126 #[.pointer (some ⟨q, 0, none⟩), .int .i64 (adM V r ((valsL V.all 4 r)[j]'hl9))] (.bool (enB V (adM V r ((valsL V.all 4 r)[j]'hl9)))) ent126 (fun w hw => enough_c _ _ V _ _ _ w (hV.below hw.below)) tv2 (T.nil (QN.seq (W.cd (enB V (adM V r ((valsL V.all 4 r)[j]'hl9))) (fun h15 => ?_) (fun h15 => ?_)))))))))))))
   ·
    refine W.seq (W.rg od3 (T.pi 44 (whoM V.all 4 r (isV ((valsL V.all 4 r)[j]'hl9))) (T.cp 45 121 #[.int .i64 (whoM V.all 4 r (isV ((valsL V.all 4 r)[j]'hl9))), .int .i64 1] (.int .i64 (lowest (whoM V.all 4 r (isV ((valsL V.all 4 r)[j]'hl9))) 1)) ent121 (fun w hw => lowest_c _ _ (w64_whoM _ _ _ _) (by unfold W64; omega) w) tv2 (T.pi 10 (lowest (whoM V.all 4 r (isV ((valsL V.all 4 r)[j]'hl9))) 1) (T.nil (QN.seq (W.seq (W.drawn (Ψ := St w ((b14, Obj.cells ((valsL V.all 4 r)[j]'hl9).cs 133 (0, 0)) :: (Hr6 ++ [(b1, Obj.cells Vt.zero.cs 47 (0, 0))]))) (St w ((b14, Obj.cells ((valsL V.all 4 r)[j]'hl9).cs 133 (0, 0)) :: (Hr6 ++ []))) [(0, true), (1, true), (2, true), (3, true), (4, true), (5, true), (6, true), (7, true), (8, true), (9, true), (10, true), (11, true), (12, true), (13, true), (14, true), (15, false), (16, true), (17, false), (18, true), (19, true), (20, false), (21, false)] hmx (by kernel_rfl) (NoPanic.then (NoPanic.inBlock (NoPanic.then (NoPanic.then (NoPanic.inBlock (NoPanic.then NoPanic.body)))))) (fun w h => h.drew) (fun w h => (h.perm (pm0.trans (pm0.cons _))).part ((List.Sublist.append (List.Sublist.refl _) (List.nil_sublist _)).cons_cons _)) (T.pu 46 (.pointer (some ⟨q, 0, none⟩)) (T.pi 47 r (T.pw 48 (r + 1) (T.lr true 49 ((valsL V.all 4 r)[j]'hl9).cs 133 b14 0 (fun w h => St.rangeM h ((valsL V.all 4 r)[j]'hl9).cs mm0 (by kernel_rfl)) (T.pi 50 (lowest (whoM V.all 4 r (isV ((valsL V.all 4 r)[j]'hl9))) 1) (T.pi 51 (whoM V.all 4 r (isV ((valsL V.all 4 r)[j]'hl9))) (T.pi 52 (mixM V r) (T.pe 53 (.int .i64 (bits .or .i64 (whoM V.all 4 r (isV ((valsL V.all 4 r)[j]'hl9))) (mixM V r))) (.int .i64 (adM V r ((valsL V.all 4 r)[j]'hl9))) rfl (T.pi 54 (lowest (whoM V.all 4 r (isV ((valsL V.all 4 r)[j]'hl9))) 1) (T.pi 55 (bits .andNot .i64 (adM V r ((valsL V.all 4 r)[j]'hl9)) (lowest (whoM V.all 4 r (isV ((valsL V.all 4 r)[j]'hl9))) 1)) (T.pu 56 (.pointer (some ⟨q, 0, none⟩)) (T.pu 57 (.pointer (some ⟨q, 0, none⟩)) (T.pu 58 (.pointer (some ⟨q, 1, none⟩)) (T.ld true 59 (.int .i64 V.q) 3 q 1 (fun w h => St.extCell h hV.blk (by kernel_rfl)) (T.pw 60 (V.q - 1) (T.cp 61 121 #[.int .i64 (bits .andNot .i64 (adM V r ((valsL V.all 4 r)[j]'hl9)) (lowest (whoM V.all 4 r (isV ((valsL V.all 4 r)[j]'hl9))) 1)), .int .i64 (V.q - 1)] (.int .i64 (lowest (bits .andNot .i64 (adM V r ((valsL V.all 4 r)[j]'hl9)) (lowest (whoM V.all 4 r (isV ((valsL V.all 4 r)[j]'hl9))) 1)) (V.q - 1))) ent121 (fun w hw => lowest_c _ _ (w64_andNot _ _) (by unfold W64; omega) w) (fun w h => (h.perm (pm0.trans (pm0.cons _))).part ((List.Sublist.append (List.Sublist.refl _) (List.nil_sublist _)).cons_cons _)) (T.pi 62 (bits .or .i64 (lowest (whoM V.all 4 r (isV ((valsL V.all 4 r)[j]'hl9))) 1) (lowest (bits .andNot .i64 (adM V r ((valsL V.all 4 r)[j]'hl9)) (lowest (whoM V.all 4 r (isV ((valsL V.all 4 r)[j]'hl9))) 1)) (V.q - 1))) (T.cp 63 120 #[.pointer (some ⟨q, 0, none⟩), .int .i64 3, .int .i64 (r + 1), .agg ((valsL V.all 4 r)[j]'hl9).cs, .int .i64 (bits .or .i64 (lowest (whoM V.all 4 r (isV ((valsL V.all 4 r)[j]'hl9))) 1) (lowest (bits .andNot .i64 (adM V r ((valsL V.all 4 r)[j]'hl9)) (lowest (whoM V.all 4 r (isV ((valsL V.all 4 r)[j]'hl9))) 1)) (V.q - 1)))] (.tuple #[.agg (Vtr.mk' V 3 (r + 1) ((valsL V.all 4 r)[j]'hl9) (bits .or .i64 (lowest (whoM V.all 4 r (isV ((valsL V.all 4 r)[j]'hl9))) 1) (lowest (bits .andNot .i64 (adM V r ((valsL V.all 4 r)[j]'hl9)) (lowest (whoM V.all 4 r (isV ((valsL V.all 4 r)[j]'hl9))) 1)) (V.q - 1)))).cs, .bool true]) ent120 (fun w hw => vote_c _ _ V _ _ _ _ _ _ w (hV.below hw.below)) (fun w h => (h.perm (pm0.trans (pm0.cons _))).part ((List.Sublist.append (List.Sublist.refl _) (List.nil_sublist _)).cons_cons _)) (T.pu 64 (.agg (Vtr.mk' V 3 (r + 1) ((valsL V.all 4 r)[j]'hl9) (bits .or .i64 (lowest (whoM V.all 4 r (isV ((valsL V.all 4 r)[j]'hl9))) 1) (lowest (bits .andNot .i64 (adM V r ((valsL V.all 4 r)[j]'hl9)) (lowest (whoM V.all 4 r (isV ((valsL V.all 4 r)[j]'hl9))) 1)) (V.q - 1)))).cs) (T.pb 65 true (T.sp 47 b1 0 (.agg (Vtr.mk' V 3 (r + 1) ((valsL V.all 4 r)[j]'hl9) (bits .or .i64 (lowest (whoM V.all 4 r (isV ((valsL V.all 4 r)[j]'hl9))) 1) (lowest (bits .andNot .i64 (adM V r ((valsL V.all 4 r)[j]'hl9)) (lowest (whoM V.all 4 r (isV ((valsL V.all 4 r)[j]'hl9))) 1)) (V.q - 1)))).cs) Vt.zero.cs (Vtr.mk' V 3 (r + 1) ((valsL V.all 4 r)[j]'hl9) (bits .or .i64 (lowest (whoM V.all 4 r (isV ((valsL V.all 4 r)[j]'hl9))) 1) (lowest (bits .andNot .i64 (adM V r ((valsL V.all 4 r)[j]'hl9)) (lowest (whoM V.all 4 r (isV ((valsL V.all 4 r)[j]'hl9))) 1)) (V.q - 1)))).cs 47 ((((pm0.append_left Hr6).trans List.perm_middle).cons _).trans (List.Perm.swap _ _ _)) (fun w h => (h.perm (pm1.trans (((pm0.cons _).trans List.perm_middle.symm).cons _))).part ((List.Sublist.append (List.Sublist.refl _) (List.nil_sublist _)).cons_cons _)) (T.pb 5 true (T.nil (QN.seq (W.ret (QN.blkRet (QN.thenRet (QN.thenRet (QN.blkRet (QN.thenRet (QN.doneC2 (.inl rfl) 4 5 47 b1 (Vtr.mk' V 3 (r + 1) ((valsL V.all 4 r)[j]'hl9) (bits .or .i64 (lowest (whoM V.all 4 r (isV ((valsL V.all 4 r)[j]'hl9))) 1) (lowest (bits .andNot .i64 (adM V r ((valsL V.all 4 r)[j]'hl9)) (lowest (whoM V.all 4 r (isV ((valsL V.all 4 r)[j]'hl9))) 1)) (V.q - 1)))).cs (.bool true) _ rfl (by kernel_rfl) (by kernel_rfl) Tryz.underlying47 (by kernel_rfl) (by kernel_rfl) (fun w hw => St.rangeM hw (Vtr.mk' V 3 (r + 1) ((valsL V.all 4 r)[j]'hl9) (bits .or .i64 (lowest (whoM V.all 4 r (isV ((valsL V.all 4 r)[j]'hl9))) 1) (lowest (bits .andNot .i64 (adM V r ((valsL V.all 4 r)[j]'hl9)) (lowest (whoM V.all 4 r (isV ((valsL V.all 4 r)[j]'hl9))) 1)) (V.q - 1)))).cs mm0 (by kernel_rfl)) (fun w hw => ⟨?_, hw.below⟩))))))))))))))))))))))))))))))))))))))))
    exact (by rw [prev_hit h3 hany (by omega) h15]; rfl)
   ·
    refine W.skip (QN.blkNormal (QN.seq (W.rg od2 (T.pw 66 ((j : Int) + 1) (T.pi 31 ((j : Int) + 1) (T.nil (QN.back (j + 1) ?_ ?_ (by kernel_rfl) (fun w h => (h.perm (((pm0.cons _).trans List.perm_middle.symm).trans (pm1.append_left Hr6))).part (List.Sublist.append (List.Sublist.refl _) ns1)))))))))
    ·
     try dsimp only
     exact ⟨by omega, any_step hany (by omega) h15⟩
    · show (valsL V.all 4 r).length - (j + 1) < (valsL V.all 4 r).length - j; omega
  ·
   have h8' := of_decide_eq_false h8
   refine W.exit (QN.thenExit (QN.thenExit (QN.blkHit (QN.seq (W.seq (W.seq (W.rg od4 (T.pu 67 (.pointer (some ⟨q, 0, none⟩)) (T.pi 68 (mixM V r) (T.cp 69 126 #[.pointer (some ⟨q, 0, none⟩), .int .i64 (mixM V r)] (.bool (enB V (mixM V r))) ent126 (fun w hw => enough_c _ _ V _ _ _ w (hV.below hw.below)) tv2 (T.pb 70 (!(enB V (mixM V r))) (T.nil (QN.seq (W.cd (!(enB V (mixM V r))) (fun h16 => ?_) (fun h16 => ?_)))))))))))))))
   ·
    have h16n := not_eq_true h16
    refine W.seq (W.rg od3 (T.pu 71 (.agg (⟨0, 0, 0, 0, 0, 0, Nm.zero, Nm.zero⟩ : Vt).cs) (T.sp 47 b1 0 (.agg (⟨0, 0, 0, 0, 0, 0, Nm.zero, Nm.zero⟩ : Vt).cs) Vt.zero.cs (⟨0, 0, 0, 0, 0, 0, Nm.zero, Nm.zero⟩ : Vt).cs 47 ((pm0.append_left Hr6).trans List.perm_middle) tv2 (T.pb 5 false (T.nil (QN.seq (W.ret (QN.thenRet (QN.doneC2 (.inl rfl) 4 5 47 b1 (⟨0, 0, 0, 0, 0, 0, Nm.zero, Nm.zero⟩ : Vt).cs (.bool false) _ rfl (by kernel_rfl) (by kernel_rfl) Tryz.underlying47 (by kernel_rfl) (by kernel_rfl) (fun w hw => St.rangeM hw (⟨0, 0, 0, 0, 0, 0, Nm.zero, Nm.zero⟩ : Vt).cs mm0 (by kernel_rfl)) (fun w hw => ⟨?_, hw.below⟩))))))))))
    exact (by rw [prev_few h3 (any_end hany (by omega)) h16]; rfl)
   ·
    have h16n := not_eq_false h16
    refine W.skip (QN.seq (W.seq (W.rg od9 (T.pu 73 (.pointer (some ⟨q, 0, none⟩)) (T.pi 74 r (T.cp 75 130 #[.pointer (some ⟨q, 0, none⟩), .int .i64 r] (.tuple #[.agg ((carN V r).getD Vl.zero).cs, .bool ((carN V r).isSome)]) ent130 (fun w hw => carried_c _ _ V _ _ r w (hV.below hw.below) hO (by omega) (by omega)) tv2 (T.pu 72 (.tuple #[.agg ((carN V r).getD Vl.zero).cs, .bool ((carN V r).isSome)]) (T.pu 76 (.agg ((carN V r).getD Vl.zero).cs) (T.pb 77 ((carN V r).isSome) (T.al 11 133 Vl.zero.cs tv3 (fun b17 => T.sp 133 b17 0 (.agg ((carN V r).getD Vl.zero).cs) Vl.zero.cs ((carN V r).getD Vl.zero).cs 133 pm0 tv2 (T.pb 12 ((carN V r).isSome) (T.nil (QN.seq (W.seq (W.seq (W.rg od2 (T.pb 78 ((carN V r).isSome) (T.pb 79 (!((carN V r).isSome)) (T.nil (QN.seq (W.cd (!((carN V r).isSome)) (fun h18 => ?_) (fun h18 => ?_)))))))))))))))))))))))
    ·
     have h18n := not_eq_true h18
     refine W.seq (W.rg od3 (T.pu 80 (.agg (⟨0, 0, 0, 0, 0, 0, Nm.zero, Nm.zero⟩ : Vt).cs) (T.sp 47 b1 0 (.agg (⟨0, 0, 0, 0, 0, 0, Nm.zero, Nm.zero⟩ : Vt).cs) Vt.zero.cs (⟨0, 0, 0, 0, 0, 0, Nm.zero, Nm.zero⟩ : Vt).cs 47 ((((pm0.append_left Hr6).trans List.perm_middle).cons _).trans (List.Perm.swap _ _ _)) tv2 (T.pb 5 false (T.nil (QN.seq (W.ret (QN.thenRet (QN.doneC2 (.inl rfl) 4 5 47 b1 (⟨0, 0, 0, 0, 0, 0, Nm.zero, Nm.zero⟩ : Vt).cs (.bool false) _ rfl (by kernel_rfl) (by kernel_rfl) Tryz.underlying47 (by kernel_rfl) (by kernel_rfl) (fun w hw => St.rangeM hw (⟨0, 0, 0, 0, 0, 0, Nm.zero, Nm.zero⟩ : Vt).cs mm0 (by kernel_rfl)) (fun w hw => ⟨?_, hw.below⟩))))))))))
     exact (by rw [prev_nc h3 (any_end hany (by omega)) h16 h18]; rfl)
    ·
     have h18n := not_eq_false h18
     refine W.skip (QN.seq (W.seq (W.drawn (Ψ := St w ((b17, Obj.cells ((carN V r).getD Vl.zero).cs 133 (0, 0)) :: (Hr6 ++ [(b1, Obj.cells Vt.zero.cs 47 (0, 0))]))) (St w ((b17, Obj.cells ((carN V r).getD Vl.zero).cs 133 (0, 0)) :: (Hr6 ++ []))) [(0, true), (1, true), (2, true), (3, true), (4, true), (5, true), (6, true), (7, true), (8, true), (9, false), (10, false), (11, true), (12, true), (13, false), (14, false)] hmx (by kernel_rfl) (NoPanic.then NoPanic.body) (fun w h => h.drew) (fun w h => (h.perm (pm0.trans (pm0.cons _))).part ((List.Sublist.append (List.Sublist.refl _) (List.nil_sublist _)).cons_cons _)) (T.pu 81 (.pointer (some ⟨q, 0, none⟩)) (T.pi 82 r (T.pw 83 (r + 1) (T.lr true 84 ((carN V r).getD Vl.zero).cs 133 b17 0 (fun w h => St.rangeM h ((carN V r).getD Vl.zero).cs mm0 (by kernel_rfl)) (T.pi 85 (mixM V r) (T.pu 86 (.pointer (some ⟨q, 0, none⟩)) (T.pu 87 (.pointer (some ⟨q, 0, none⟩)) (T.pu 88 (.pointer (some ⟨q, 1, none⟩)) (T.ld true 89 (.int .i64 V.q) 3 q 1 (fun w h => St.extCell h hV.blk (by kernel_rfl)) (T.cp 90 121 #[.int .i64 (mixM V r), .int .i64 V.q] (.int .i64 (lowest (mixM V r) V.q)) ent121 (fun w hw => lowest_c _ _ (by first | assumption | exact w64_and _ _ | exact w64_or _ _ | exact w64_andNot _ _ | exact w64_whoM _ _ _ _ | exact w64_adM _ _ _ | exact hO.wm | exact w64_echV _ _ _ _ _ | (unfold W64; omega)) (by unfold W64; omega) w) (fun w h => (h.perm (pm0.trans (pm0.cons _))).part ((List.Sublist.append (List.Sublist.refl _) (List.nil_sublist _)).cons_cons _)) (T.cp 91 120 #[.pointer (some ⟨q, 0, none⟩), .int .i64 3, .int .i64 (r + 1), .agg ((carN V r).getD Vl.zero).cs, .int .i64 (lowest (mixM V r) V.q)] (.tuple #[.agg (Vtr.mk' V 3 (r + 1) ((carN V r).getD Vl.zero) (lowest (mixM V r) V.q)).cs, .bool true]) ent120 (fun w hw => vote_c _ _ V _ _ _ _ _ _ w (hV.below hw.below)) (fun w h => (h.perm (pm0.trans (pm0.cons _))).part ((List.Sublist.append (List.Sublist.refl _) (List.nil_sublist _)).cons_cons _)) (T.pu 92 (.agg (Vtr.mk' V 3 (r + 1) ((carN V r).getD Vl.zero) (lowest (mixM V r) V.q)).cs) (T.pb 93 true (T.sp 47 b1 0 (.agg (Vtr.mk' V 3 (r + 1) ((carN V r).getD Vl.zero) (lowest (mixM V r) V.q)).cs) Vt.zero.cs (Vtr.mk' V 3 (r + 1) ((carN V r).getD Vl.zero) (lowest (mixM V r) V.q)).cs 47 ((((pm0.append_left Hr6).trans List.perm_middle).cons _).trans (List.Perm.swap _ _ _)) (fun w h => (h.perm (pm1.trans (((pm0.cons _).trans List.perm_middle.symm).cons _))).part ((List.Sublist.append (List.Sublist.refl _) (List.nil_sublist _)).cons_cons _)) (T.pb 5 true (T.nil (QN.seq (W.ret (QN.doneC2 (.inl rfl) 4 5 47 b1 (Vtr.mk' V 3 (r + 1) ((carN V r).getD Vl.zero) (lowest (mixM V r) V.q)).cs (.bool true) _ rfl (by kernel_rfl) (by kernel_rfl) Tryz.underlying47 (by kernel_rfl) (by kernel_rfl) (fun w hw => St.rangeM hw (Vtr.mk' V 3 (r + 1) ((carN V r).getD Vl.zero) (lowest (mixM V r) V.q)).cs mm0 (by kernel_rfl)) (fun w hw => ⟨?_, hw.below⟩)))))))))))))))))))))))
     exact (by rw [prev_car h3 (any_end hany (by omega)) h16 h18]; rfl)
set_option maxRecDepth 100000 in
set_option maxHeartbeats 2000000 in
theorem agecho_c (q bm : Nat) (V : Vtr) (A7 : Option Addr) (c7 : Nat) (Aw : Option Addr) (cw : Nat) (held : List Nm) (Ah : Option Addr) (ch : Nat) (w : World) (hV : VtrAt w q bm V A7 c7) (hO : VtrOk V) (hrw : Rd w Aw V.own) (hlh : held.length ≤ 1000) (hrh : Rd w Ah held) : Calls Tryz.prog 78 #[.pointer (some ⟨q, 0, none⟩), .slice Aw V.own.length cw, .slice Ah held.length ch] w (fun rr w' => rr = .returned (.tuple #[.agg ((echoN V held).getD Vt.zero).cs, .bool (echoN V held).isSome]) ∧ Below w.heap.size w w') := by
 have hol := hO.ownl
 have hpl := proV_len V.m V.p V.own V.s
 refine calls_W (n := 52) Tryz.func78 rfl [(0, .pointer (some ⟨q, 0, none⟩)), (1, .slice Aw V.own.length cw), (2, .slice Ah held.length ch)] rfl ⟨by kernel_rfl, by kernel_rfl⟩ (W.weak (Ψ := St w []) (fun w' h => by rw [h]; exact St.start w) (W.seq (W.rg od2 (T.al 6 47 Vt.zero.cs tv3 (fun b1 => T.pb 7 false (T.nil (QN.seq (W.seq (W.seq (W.rg od2 (T.pu 12 (.pointer (some ⟨q, 0, none⟩)) (T.cp 13 119 #[.pointer (some ⟨q, 0, none⟩), .int .i64 2, .int .i64 0] (.bool (Vtr.sg V 2 0)) ent119 (fun w hw => signed_c _ _ V _ _ _ _ w (hV.below hw.below)) tv2 (T.nil (QN.seq (W.cd (Vtr.sg V 2 0) (fun h2 => ?_) (fun h2 => ?_))))))))))))))))
 ·
  refine W.seq (W.rg od3 (T.pu 14 (.agg (⟨0, 0, 0, 0, 0, 0, Nm.zero, Nm.zero⟩ : Vt).cs) (T.sp 47 b1 0 (.agg (⟨0, 0, 0, 0, 0, 0, Nm.zero, Nm.zero⟩ : Vt).cs) Vt.zero.cs (⟨0, 0, 0, 0, 0, 0, Nm.zero, Nm.zero⟩ : Vt).cs 47 pm0 tv2 (T.pb 7 false (T.nil (QN.seq (W.ret (QN.thenRet (QN.doneC2 (.inl rfl) 6 7 47 b1 (⟨0, 0, 0, 0, 0, 0, Nm.zero, Nm.zero⟩ : Vt).cs (.bool false) _ rfl (by kernel_rfl) (by kernel_rfl) Tryz.underlying47 (by kernel_rfl) (by kernel_rfl) (fun w hw => St.rangeM hw (⟨0, 0, 0, 0, 0, 0, Nm.zero, Nm.zero⟩ : Vt).cs mm0 (by kernel_rfl)) (fun w hw => ⟨?_, hw.below⟩))))))))))
  exact (by rw [echo_no h2]; rfl)
 ·
  refine W.skip (QN.seq (W.seq (W.seq (W.drawn (Ψ := St w [(b1, Obj.cells Vt.zero.cs 47 (0, 0))]) (St w [(b1, Obj.cells Vt.zero.cs 47 (0, 0))]) [(0, true), (1, true), (2, true), (3, true), (4, true), (5, true), (6, true), (7, true), (8, true), (9, true), (10, true), (11, true), (12, true), (15, true), (13, false), (14, true)] hmx (by kernel_rfl) (NoPanic.then (NoPanic.then NoPanic.body)) (fun w h => h.drew) (fun w h => h) (T.pu 15 (.pointer (some ⟨q, 0, none⟩)) (T.pu 16 (.pointer (some ⟨q, 0, none⟩)) (T.pu 17 (.pointer (some ⟨q, 0, none⟩)) (T.ld true 18 (.int .i64 V.m) 22 q 0 (fun w h => St.extCell h hV.blk (by kernel_rfl)) (T.pu 19 (.pointer (some ⟨q, 0, none⟩)) (T.pu 20 (.pointer (some ⟨q, 0, none⟩)) (T.pu 21 (.pointer (some ⟨q, 4, none⟩)) (T.lr true 22 V.p.cs 24 q 4 (fun w h => St.extRange h V.p.cs hV.blk (by kernel_rfl)) (T.pu 23 (.slice Aw V.own.length cw) (T.pu 24 (.pointer (some ⟨q, 0, none⟩)) (T.pu 25 (.pointer (some ⟨q, 0, none⟩)) (T.pu 26 (.pointer (some ⟨q, 2, none⟩)) (T.ld true 27 (.int .i64 V.s) 3 q 2 (fun w h => St.extCell h hV.blk (by kernel_rfl)) (T.pi 30 0 (T.callR 28 16 #[.int .i64 V.m, .agg V.p.cs, .slice Aw V.own.length cw, .int .i64 V.s] 24 8 (proV V.m V.p V.own V.s).length (cells (proV V.m V.p V.own V.s)) (by kernel_rfl) (by kernel_rfl) ent16 (fun w hw => proposals_c V.m V.p V.own V.s Aw cw w (by first | assumption | exact w64_and _ _ | exact w64_or _ _ | exact w64_andNot _ _ | exact w64_whoM _ _ _ _ | exact w64_adM _ _ _ | exact hO.wm | exact w64_echV _ _ _ _ _ | (unfold W64; omega)) hO.own (by first | omega | (simp; done) | (simp; omega)) (Arr.rd (Rd.arr hrw _) hw)) (fun Hr5 => (fun w h => (h.perm ((pm0.append_left Hr5).trans List.perm_middle)).part ns1)) (fun A3 c4 Hr5 hrow6 => T.pi 29 (((proV V.m V.p V.own V.s).length : Nat) : Int) (T.nil (QN.seq (W.block (W.loop (σ := Nat) (fun gs => gs ≤ (proV V.m V.p V.own V.s).length ∧ ((proV V.m V.p V.own V.s).take gs).any (fun n => held.any (fun h => h == n)) = false) (fun gs => [(0, .pointer (some ⟨q, 0, none⟩)), (2, .slice Ah held.length ch), (6, .pointer (some ⟨b1, 0, none⟩)), (28, .slice A3 ((proV V.m V.p V.own V.s).length) c4), (29, .int .i64 (((proV V.m V.p V.own V.s).length : Nat) : Int)), (30, .int .i64 gs)]) (fun gs => St w (Hr5 ++ [(b1, Obj.cells Vt.zero.cs 47 (0, 0))])) (fun gs => (proV V.m V.p V.own V.s).length - gs) 0 ?_ (by kernel_rfl) (fun w h => h) ?_))))))))))))))))))))))))
  ·
   try dsimp only
   exact ⟨Nat.zero_le _, any_zero _ _⟩
  rintro j hI_
  obtain ⟨hj, hany⟩ : j ≤ (proV V.m V.p V.own V.s).length ∧ ((proV V.m V.p V.own V.s).take j).any (fun n => held.any (fun h => h == n)) = false := hI_
  refine W.seq (W.rg od1 (T.pb 31 (decide ((j : Int) < (((proV V.m V.p V.own V.s).length : Nat) : Int))) (T.nil (QN.seq (W.seq (W.cd (decide ((j : Int) < (((proV V.m V.p V.own V.s).length : Nat) : Int))) (fun h7 => ?_) (fun h7 => ?_)))))))
  ·
   have h7' := of_decide_eq_true h7
   have hl8 : j < (proV V.m V.p V.own V.s).length := by omega
   refine W.skip (QN.seq (W.seq (W.block (W.seq (W.rg od4 ?_)))))
   obtain ⟨b9, o10, hA11, hr12⟩ := (Arr.row hrow6 rfl rfl _) j hl8
   refine T.ix 32 28 24 8 A3 ((proV V.m V.p V.own V.s).length) c4 (j : Int) j b9 o10 hA11 rfl (by omega) (T.lr false 33 ((proV V.m V.p V.own V.s)[j]'hl8).cs 24 b9 (o10 + j * 8) hr12 (T.al 9 24 Nm.zero.cs tv3 (fun b13 => T.sp 24 b13 0 (.agg ((proV V.m V.p V.own V.s)[j]'hl8).cs) Nm.zero.cs ((proV V.m V.p V.own V.s)[j]'hl8).cs 24 pm0 tv2 (T.nil (QN.seq (W.seq (W.rg od3 (T.pu 34 (.slice Ah held.length ch) (T.pi 35 ((held.length : Nat) : Int) (T.pi 36 0 (T.nil (QN.seq (W.block (W.loop (σ := Nat) (fun gs => gs ≤ held.length ∧ (held.take gs).any (fun h => h == ((proV V.m V.p V.own V.s)[j]'hl8)) = false) (fun gs => [(0, .pointer (some ⟨q, 0, none⟩)), (2, .slice Ah held.length ch), (6, .pointer (some ⟨b1, 0, none⟩)), (9, .pointer (some ⟨b13, 0, none⟩)), (28, .slice A3 ((proV V.m V.p V.own V.s).length) c4), (29, .int .i64 (((proV V.m V.p V.own V.s).length : Nat) : Int)), (30, .int .i64 j), (31, .bool (decide ((j : Int) < (((proV V.m V.p V.own V.s).length : Nat) : Int)))), (32, .pointer (some ⟨b9, o10 + j * 8, none⟩)), (33, .agg ((proV V.m V.p V.own V.s)[j]'hl8).cs), (34, .slice Ah held.length ch), (35, .int .i64 ((held.length : Nat) : Int)), (36, .int .i64 gs)]) (fun gs => St w ((b13, Obj.cells ((proV V.m V.p V.own V.s)[j]'hl8).cs 24 (0, 0)) :: (Hr5 ++ [(b1, Obj.cells Vt.zero.cs 47 (0, 0))]))) (fun gs => held.length - gs) 0 ?_ (by kernel_rfl) (fun w h => h) ?_))))))))))))))
   ·
    try dsimp only
    exact ⟨Nat.zero_le _, any_zero _ _⟩
   rintro k hI_
   obtain ⟨hk, hin⟩ : k ≤ held.length ∧ (held.take k).any (fun h => h == ((proV V.m V.p V.own V.s)[j]'hl8)) = false := hI_
   refine W.seq (W.rg od1 (T.pb 37 (decide ((k : Int) < ((held.length : Nat) : Int))) (T.nil (QN.seq (W.seq (W.cd (decide ((k : Int) < ((held.length : Nat) : Int))) (fun h14 => ?_) (fun h14 => ?_)))))))
   ·
    have h14' := of_decide_eq_true h14
    have hl15 : k < held.length := by omega
    refine W.skip (QN.seq (W.seq (W.block (W.seq (W.rg od4 ?_)))))
    obtain ⟨b16, o17, hA18, hr19⟩ := (Rd.arr hrh _) k hl15
    refine T.ix 38 28 24 8 Ah held.length ch (k : Int) k b16 o17 hA18 rfl (by omega) (T.lr false 39 (held[k]'hl15).cs 24 b16 (o17 + k * 8) hr19 (T.al 11 24 Nm.zero.cs tv3 (fun b20 => T.sp 24 b20 0 (.agg (held[k]'hl15).cs) Nm.zero.cs (held[k]'hl15).cs 24 pm0 tv2 (T.nil (QN.seq (W.seq (W.rg od3 (T.lr false 40 (held[k]'hl15).cs 24 b20 0 (fun w h => St.rangeM h (held[k]'hl15).cs mm0 (by kernel_rfl)) (T.lr false 41 ((proV V.m V.p V.own V.s)[j]'hl8).cs 24 b13 0 (fun w h => St.rangeM h ((proV V.m V.p V.own V.s)[j]'hl8).cs mm1 (by kernel_rfl)) (T.eqq 42 ((held[k]'hl15) == ((proV V.m V.p V.own V.s)[j]'hl8)) ((held[k]'hl15) == ((proV V.m V.p V.own V.s)[j]'hl8)) false 24 (held[k]'hl15).cs ((proV V.m V.p V.own V.s)[j]'hl8).cs (by kernel_rfl) (by kernel_rfl) (by kernel_rfl) (by kernel_rfl) (fun w => eq_nm w (held[k]'hl15) ((proV V.m V.p V.own V.s)[j]'hl8)) (T.nil (QN.seq (W.cd ((held[k]'hl15) == ((proV V.m V.p V.own V.s)[j]'hl8)) (fun h21 => ?_) (fun h21 => ?_))))))))))))))
    ·
     refine W.seq (W.rg od8 (T.pu 43 (.pointer (some ⟨q, 0, none⟩)) (T.lr false 44 ((proV V.m V.p V.own V.s)[j]'hl8).cs 24 b13 0 (fun w h => St.rangeM h ((proV V.m V.p V.own V.s)[j]'hl8).cs mm1 (by kernel_rfl)) (T.pu 45 (.agg (⟨1, ((proV V.m V.p V.own V.s)[j]'hl8)⟩ : Vl).cs) (T.cp 46 120 #[.pointer (some ⟨q, 0, none⟩), .int .i64 2, .int .i64 0, .agg (⟨1, ((proV V.m V.p V.own V.s)[j]'hl8)⟩ : Vl).cs, .int .i64 0] (.tuple #[.agg (Vtr.mk' V 2 0 (⟨1, ((proV V.m V.p V.own V.s)[j]'hl8)⟩ : Vl) 0).cs, .bool true]) ent120 (fun w hw => vote_c _ _ V _ _ _ _ _ _ w (hV.below hw.below)) tv2 (T.pu 47 (.agg (Vtr.mk' V 2 0 (⟨1, ((proV V.m V.p V.own V.s)[j]'hl8)⟩ : Vl) 0).cs) (T.pb 48 true (T.sp 47 b1 0 (.agg (Vtr.mk' V 2 0 (⟨1, ((proV V.m V.p V.own V.s)[j]'hl8)⟩ : Vl) 0).cs) Vt.zero.cs (Vtr.mk' V 2 0 (⟨1, ((proV V.m V.p V.own V.s)[j]'hl8)⟩ : Vl) 0).cs 47 ((((((pm0.append_left Hr5).trans List.perm_middle).cons _).trans (List.Perm.swap _ _ _)).cons _).trans (List.Perm.swap _ _ _)) tv2 (T.pb 7 true (T.nil (QN.seq (W.ret (QN.blkRet (QN.thenRet (QN.thenRet (QN.blkRet (QN.blkRet (QN.thenRet (QN.thenRet (QN.blkRet (QN.thenRet (QN.doneC2 (.inl rfl) 6 7 47 b1 (Vtr.mk' V 2 0 (⟨1, ((proV V.m V.p V.own V.s)[j]'hl8)⟩ : Vl) 0).cs (.bool true) _ rfl (by kernel_rfl) (by kernel_rfl) Tryz.underlying47 (by kernel_rfl) (by kernel_rfl) (fun w hw => St.rangeM hw (Vtr.mk' V 2 0 (⟨1, ((proV V.m V.p V.own V.s)[j]'hl8)⟩ : Vl) 0).cs mm0 (by kernel_rfl)) (fun w hw => ⟨?_, hw.below⟩)))))))))))))))))))))))
     exact (by rw [echo_hit h2 hany (by omega) (any_hit (p := fun h => h == _) (by omega) h21)]; rfl)
    ·
     refine W.skip (QN.blkNormal (QN.seq (W.rg od2 (T.pw 49 ((k : Int) + 1) (T.pi 36 ((k : Int) + 1) (T.nil (QN.back (k + 1) ?_ ?_ (by kernel_rfl) (fun w h => (h.perm (pm1.trans ((((pm0.cons _).trans List.perm_middle.symm).trans (pm1.append_left Hr5)).cons _))).part ((List.Sublist.append (List.Sublist.refl _) ns1).cons_cons _)))))))))
     ·
      try dsimp only
      exact ⟨by omega, any_step hin (by omega) h21⟩
     · show held.length - (k + 1) < held.length - k; omega
   ·
    have h14' := of_decide_eq_false h14
    refine W.exit (QN.thenExit (QN.thenExit (QN.blkHit (QN.blkNormal (QN.seq (W.rg od2 (T.pw 50 ((j : Int) + 1) (T.pi 30 ((j : Int) + 1) (T.nil (QN.back (j + 1) ?_ ?_ (by kernel_rfl) (fun w h => (h.perm (((pm0.cons _).trans List.perm_middle.symm).trans (pm1.append_left Hr5))).part (List.Sublist.append (List.Sublist.refl _) ns1))))))))))))
    ·
     try dsimp only
     exact ⟨by omega, any_step hany (by omega) (any_end hin (by omega))⟩
    · show (proV V.m V.p V.own V.s).length - (j + 1) < (proV V.m V.p V.own V.s).length - j; omega
  ·
   have h7' := of_decide_eq_false h7
   refine W.exit (QN.thenExit (QN.thenExit (QN.blkHit (QN.seq (W.seq (W.rg od3 (T.pu 51 (.agg (⟨0, 0, 0, 0, 0, 0, Nm.zero, Nm.zero⟩ : Vt).cs) (T.sp 47 b1 0 (.agg (⟨0, 0, 0, 0, 0, 0, Nm.zero, Nm.zero⟩ : Vt).cs) Vt.zero.cs (⟨0, 0, 0, 0, 0, 0, Nm.zero, Nm.zero⟩ : Vt).cs 47 ((pm0.append_left Hr5).trans List.perm_middle) tv2 (T.pb 7 false (T.nil (QN.seq (W.ret (QN.doneC2 (.inl rfl) 6 7 47 b1 (⟨0, 0, 0, 0, 0, 0, Nm.zero, Nm.zero⟩ : Vt).cs (.bool false) _ rfl (by kernel_rfl) (by kernel_rfl) Tryz.underlying47 (by kernel_rfl) (by kernel_rfl) (fun w hw => St.rangeM hw (⟨0, 0, 0, 0, 0, 0, Nm.zero, Nm.zero⟩ : Vt).cs mm0 (by kernel_rfl)) (fun w hw => ⟨?_, hw.below⟩))))))))))))))
   exact (by rw [echo_none h2 (any_end hany (by omega))]; rfl)
set_option maxRecDepth 100000 in
set_option maxHeartbeats 2000000 in
theorem agfirst_c (q bm : Nat) (V : Vtr) (A7 : Option Addr) (c7 : Nat) (Aw : Option Addr) (cw : Nat) (waited : Bool) (w : World) (hV : VtrAt w q bm V A7 c7) (hO : VtrOk V) (hrw : Rd w Aw V.own) : Calls Tryz.prog 79 #[.pointer (some ⟨q, 0, none⟩), .slice Aw V.own.length cw, .bool waited] w (fun rr w' => rr = .returned (.tuple #[.agg ((firstN V waited).getD Vt.zero).cs, .bool (firstN V waited).isSome]) ∧ Below w.heap.size w w') := by
 have hol := hO.ownl
 have hq0 := hO.q0
 have hcl := cerV_len V.m V.p V.own V.s
 refine calls_W (n := 69) Tryz.func79 rfl [(0, .pointer (some ⟨q, 0, none⟩)), (1, .slice Aw V.own.length cw), (2, .bool waited)] rfl ⟨by kernel_rfl, by kernel_rfl⟩ (W.weak (Ψ := St w []) (fun w' h => by rw [h]; exact St.start w) (W.seq (W.rg od2 (T.al 6 47 Vt.zero.cs tv3 (fun b1 => T.pb 7 false (T.nil (QN.seq (W.seq (W.seq (W.rg od2 (T.pu 10 (.pointer (some ⟨q, 0, none⟩)) (T.cp 11 119 #[.pointer (some ⟨q, 0, none⟩), .int .i64 3, .int .i64 1] (.bool (Vtr.sg V 3 1)) ent119 (fun w hw => signed_c _ _ V _ _ _ _ w (hV.below hw.below)) tv2 (T.nil (QN.seq (W.cd (Vtr.sg V 3 1) (fun h2 => ?_) (fun h2 => ?_))))))))))))))))
 ·
  refine W.seq (W.rg od3 (T.pu 12 (.agg (⟨0, 0, 0, 0, 0, 0, Nm.zero, Nm.zero⟩ : Vt).cs) (T.sp 47 b1 0 (.agg (⟨0, 0, 0, 0, 0, 0, Nm.zero, Nm.zero⟩ : Vt).cs) Vt.zero.cs (⟨0, 0, 0, 0, 0, 0, Nm.zero, Nm.zero⟩ : Vt).cs 47 pm0 tv2 (T.pb 7 false (T.nil (QN.seq (W.ret (QN.thenRet (QN.doneC2 (.inl rfl) 6 7 47 b1 (⟨0, 0, 0, 0, 0, 0, Nm.zero, Nm.zero⟩ : Vt).cs (.bool false) _ rfl (by kernel_rfl) (by kernel_rfl) Tryz.underlying47 (by kernel_rfl) (by kernel_rfl) (fun w hw => St.rangeM hw (⟨0, 0, 0, 0, 0, 0, Nm.zero, Nm.zero⟩ : Vt).cs mm0 (by kernel_rfl)) (fun w hw => ⟨?_, hw.below⟩))))))))))
  exact (by rw [first_no h2]; rfl)
 ·
  refine W.skip (QN.seq (W.seq (W.seq (W.drawn (Ψ := St w [(b1, Obj.cells Vt.zero.cs 47 (0, 0))]) (St w [(b1, Obj.cells Vt.zero.cs 47 (0, 0))]) [(0, true), (1, true), (2, true), (3, true), (4, true), (5, true), (6, true), (7, true), (8, true), (9, true), (10, true), (11, true), (12, true), (13, false), (14, false)] hmx (by kernel_rfl) (NoPanic.then (NoPanic.then NoPanic.body)) (fun w h => h.drew) (fun w h => h) (T.pu 13 (.pointer (some ⟨q, 0, none⟩)) (T.pu 14 (.pointer (some ⟨q, 0, none⟩)) (T.pu 15 (.pointer (some ⟨q, 0, none⟩)) (T.ld true 16 (.int .i64 V.m) 22 q 0 (fun w h => St.extCell h hV.blk (by kernel_rfl)) (T.pu 17 (.pointer (some ⟨q, 0, none⟩)) (T.pu 18 (.pointer (some ⟨q, 0, none⟩)) (T.pu 19 (.pointer (some ⟨q, 4, none⟩)) (T.lr true 20 V.p.cs 24 q 4 (fun w h => St.extRange h V.p.cs hV.blk (by kernel_rfl)) (T.pu 21 (.slice Aw V.own.length cw) (T.pu 22 (.pointer (some ⟨q, 0, none⟩)) (T.pu 23 (.pointer (some ⟨q, 0, none⟩)) (T.pu 24 (.pointer (some ⟨q, 2, none⟩)) (T.ld true 25 (.int .i64 V.s) 3 q 2 (fun w h => St.extCell h hV.blk (by kernel_rfl)) (T.callR 26 18 #[.int .i64 V.m, .agg V.p.cs, .slice Aw V.own.length cw, .int .i64 V.s] 24 8 (cerV V.m V.p V.own V.s).length (cells (cerV V.m V.p V.own V.s)) (by kernel_rfl) (by kernel_rfl) ent18 (fun w hw => certified_c V.m V.p V.own V.s Aw cw w (by first | assumption | exact w64_and _ _ | exact w64_or _ _ | exact w64_andNot _ _ | exact w64_whoM _ _ _ _ | exact w64_adM _ _ _ | exact hO.wm | exact w64_echV _ _ _ _ _ | (unfold W64; omega)) hO.own (by first | omega | (simp; done) | (simp; omega)) (Arr.rd (Rd.arr hrw _) hw)) (fun Hr5 => (fun w h => (h.perm ((pm0.append_left Hr5).trans List.perm_middle)).part ns1)) (fun A3 c4 Hr5 hrow6 => T.pu 8 (.slice A3 ((cerV V.m V.p V.own V.s).length) c4) (T.nil (QN.seq (W.seq (W.rg od3 (T.pu 27 (.slice A3 ((cerV V.m V.p V.own V.s).length) c4) (T.pi 28 (((cerV V.m V.p V.own V.s).length : Nat) : Int) (T.pb 29 (decide (0 < (((cerV V.m V.p V.own V.s).length : Nat) : Int))) (T.nil (QN.seq (W.cd (decide (0 < (((cerV V.m V.p V.own V.s).length : Nat) : Int))) (fun h7 => ?_) (fun h7 => ?_))))))))))))))))))))))))))))))
  ·
   have h7' := of_decide_eq_true h7
   refine W.seq (W.drawn (Ψ := St w (Hr5 ++ [(b1, Obj.cells Vt.zero.cs 47 (0, 0))])) (St w (Hr5 ++ [(b1, Obj.cells Vt.zero.cs 47 (0, 0))])) [(0, true), (1, true), (2, true), (3, true), (4, true), (5, true), (6, true), (7, true), (8, true), (9, true), (10, true), (11, true), (12, true), (13, true), (14, true), (15, true), (16, false), (17, false)] hmx (by kernel_rfl) (NoPanic.then (NoPanic.then NoPanic.body)) (fun w h => h.drew) (fun w h => h) (T.pu 30 (.pointer (some ⟨q, 0, none⟩)) (T.pu 31 (.pointer (some ⟨q, 0, none⟩)) (T.pu 32 (.pointer (some ⟨q, 0, none⟩)) (T.ld true 33 (.int .i64 V.m) 22 q 0 (fun w h => St.extCell h hV.blk (by kernel_rfl)) (T.pu 34 (.pointer (some ⟨q, 0, none⟩)) (T.pu 35 (.pointer (some ⟨q, 0, none⟩)) (T.pu 36 (.pointer (some ⟨q, 4, none⟩)) (T.lr true 37 V.p.cs 24 q 4 (fun w h => St.extRange h V.p.cs hV.blk (by kernel_rfl)) (T.pu 38 (.slice Aw V.own.length cw) (T.pu 39 (.pointer (some ⟨q, 0, none⟩)) (T.pu 40 (.pointer (some ⟨q, 0, none⟩)) (T.pu 41 (.pointer (some ⟨q, 2, none⟩)) (T.ld true 42 (.int .i64 V.s) 3 q 2 (fun w h => St.extCell h hV.blk (by kernel_rfl)) (T.pu 43 (.slice A3 ((cerV V.m V.p V.own V.s).length) c4) ?_)))))))))))))))
   have hl12 : 0 < (cerV V.m V.p V.own V.s).length := by omega
   obtain ⟨b8, o9, hA10, hr11⟩ := (Arr.row hrow6 rfl rfl _) 0 hl12
   refine T.ix 44 28 24 8 A3 ((cerV V.m V.p V.own V.s).length) c4 0 0 b8 o9 hA10 (by omega) (by omega) (T.lr true 45 ((cerV V.m V.p V.own V.s)[0]'hl12).cs 24 b8 (o9 + 0 * 8) hr11 (T.cp 46 20 #[.int .i64 V.m, .agg V.p.cs, .slice Aw V.own.length cw, .int .i64 V.s, .agg ((cerV V.m V.p V.own V.s)[0]'hl12).cs] (.int .i64 (echV V.m V.p V.own V.s ((cerV V.m V.p V.own V.s)[0]'hl12))) ent20 (fun w hw => echoers_c V.m V.p V.own V.s ((cerV V.m V.p V.own V.s)[0]'hl12) Aw cw w (by first | assumption | exact w64_and _ _ | exact w64_or _ _ | exact w64_andNot _ _ | exact w64_whoM _ _ _ _ | exact w64_adM _ _ _ | exact hO.wm | exact w64_echV _ _ _ _ _ | (unfold W64; omega)) hO.own (by first | omega | (simp; done) | (simp; omega)) (Arr.rd (Rd.arr hrw _) hw)) (fun w h => h) (T.pi 9 (echV V.m V.p V.own V.s ((cerV V.m V.p V.own V.s)[0]'hl12)) (T.nil (QN.seq (W.seq (W.drawn (Ψ := St w (Hr5 ++ [(b1, Obj.cells Vt.zero.cs 47 (0, 0))])) (St w (Hr5 ++ [])) [(0, true), (1, true), (2, true), (3, true), (4, true), (5, true), (6, true), (7, true), (8, true), (9, true), (10, false), (11, false), (12, true), (13, true), (14, false), (15, false)] hmx (by kernel_rfl) (NoPanic.then (NoPanic.then NoPanic.body)) (fun w h => h.drew) (fun w h => (h.perm pm0).part (List.Sublist.append (List.Sublist.refl _) (List.nil_sublist _))) (T.pu 47 (.pointer (some ⟨q, 0, none⟩)) (T.pu 48 (.slice A3 ((cerV V.m V.p V.own V.s).length) c4) ?_)))))))))
   obtain ⟨b13, o14, hA15, hr16⟩ := (Arr.row hrow6 rfl rfl _) 0 hl12
   refine T.ix 49 28 24 8 A3 ((cerV V.m V.p V.own V.s).length) c4 0 0 b13 o14 hA15 (by omega) (by omega) (T.lr true 50 ((cerV V.m V.p V.own V.s)[0]'hl12).cs 24 b13 (o14 + 0 * 8) hr16 (T.pu 51 (.agg (⟨1, ((cerV V.m V.p V.own V.s)[0]'hl12)⟩ : Vl).cs) (T.pi 52 (echV V.m V.p V.own V.s ((cerV V.m V.p V.own V.s)[0]'hl12)) (T.pu 53 (.pointer (some ⟨q, 0, none⟩)) (T.pu 54 (.pointer (some ⟨q, 0, none⟩)) (T.pu 55 (.pointer (some ⟨q, 1, none⟩)) (T.ld true 56 (.int .i64 V.q) 3 q 1 (fun w h => St.extCell h hV.blk (by kernel_rfl)) (T.cp 57 121 #[.int .i64 (echV V.m V.p V.own V.s ((cerV V.m V.p V.own V.s)[0]'hl12)), .int .i64 V.q] (.int .i64 (lowest (echV V.m V.p V.own V.s ((cerV V.m V.p V.own V.s)[0]'hl12)) V.q)) ent121 (fun w hw => lowest_c _ _ (by first | assumption | exact w64_and _ _ | exact w64_or _ _ | exact w64_andNot _ _ | exact w64_whoM _ _ _ _ | exact w64_adM _ _ _ | exact hO.wm | exact w64_echV _ _ _ _ _ | (unfold W64; omega)) (by unfold W64; omega) w) (fun w h => (h.perm pm0).part (List.Sublist.append (List.Sublist.refl _) (List.nil_sublist _))) (T.cp 58 120 #[.pointer (some ⟨q, 0, none⟩), .int .i64 3, .int .i64 1, .agg (⟨1, ((cerV V.m V.p V.own V.s)[0]'hl12)⟩ : Vl).cs, .int .i64 (lowest (echV V.m V.p V.own V.s ((cerV V.m V.p V.own V.s)[0]'hl12)) V.q)] (.tuple #[.agg (Vtr.mk' V 3 1 (⟨1, ((cerV V.m V.p V.own V.s)[0]'hl12)⟩ : Vl) (lowest (echV V.m V.p V.own V.s ((cerV V.m V.p V.own V.s)[0]'hl12)) V.q)).cs, .bool true]) ent120 (fun w hw => vote_c _ _ V _ _ _ _ _ _ w (hV.below hw.below)) (fun w h => (h.perm pm0).part (List.Sublist.append (List.Sublist.refl _) (List.nil_sublist _))) (T.pu 59 (.agg (Vtr.mk' V 3 1 (⟨1, ((cerV V.m V.p V.own V.s)[0]'hl12)⟩ : Vl) (lowest (echV V.m V.p V.own V.s ((cerV V.m V.p V.own V.s)[0]'hl12)) V.q)).cs) (T.pb 60 true (T.sp 47 b1 0 (.agg (Vtr.mk' V 3 1 (⟨1, ((cerV V.m V.p V.own V.s)[0]'hl12)⟩ : Vl) (lowest (echV V.m V.p V.own V.s ((cerV V.m V.p V.own V.s)[0]'hl12)) V.q)).cs) Vt.zero.cs (Vtr.mk' V 3 1 (⟨1, ((cerV V.m V.p V.own V.s)[0]'hl12)⟩ : Vl) (lowest (echV V.m V.p V.own V.s ((cerV V.m V.p V.own V.s)[0]'hl12)) V.q)).cs 47 ((pm0.append_left Hr5).trans List.perm_middle) (fun w h => (h.perm ((pm0.cons _).trans List.perm_middle.symm)).part (List.Sublist.append (List.Sublist.refl _) (List.nil_sublist _))) (T.pb 7 true (T.nil (QN.seq (W.ret (QN.thenRet (QN.doneC2 (.inl rfl) 6 7 47 b1 (Vtr.mk' V 3 1 (⟨1, ((cerV V.m V.p V.own V.s)[0]'hl12)⟩ : Vl) (lowest (echV V.m V.p V.own V.s ((cerV V.m V.p V.own V.s)[0]'hl12)) V.q)).cs (.bool true) _ rfl (by kernel_rfl) (by kernel_rfl) Tryz.underlying47 (by kernel_rfl) (by kernel_rfl) (fun w hw => St.rangeM hw (Vtr.mk' V 3 1 (⟨1, ((cerV V.m V.p V.own V.s)[0]'hl12)⟩ : Vl) (lowest (echV V.m V.p V.own V.s ((cerV V.m V.p V.own V.s)[0]'hl12)) V.q)).cs mm0 (by kernel_rfl)) (fun w hw => ⟨?_, hw.below⟩)))))))))))))))))))
   exact (by rw [first_yes h2 (by omega)]; rfl)
  ·
   have h7' := of_decide_eq_false h7
   refine W.skip (QN.seq (W.seq (W.seq (W.rg od2 (T.pb 61 waited (T.pb 62 (!waited) (T.nil (QN.seq (W.cd (!waited) (fun h17 => ?_) (fun h17 => ?_))))))))))
   ·
    have h17n := not_eq_true h17
    refine W.seq (W.rg od3 (T.pu 63 (.agg (⟨0, 0, 0, 0, 0, 0, Nm.zero, Nm.zero⟩ : Vt).cs) (T.sp 47 b1 0 (.agg (⟨0, 0, 0, 0, 0, 0, Nm.zero, Nm.zero⟩ : Vt).cs) Vt.zero.cs (⟨0, 0, 0, 0, 0, 0, Nm.zero, Nm.zero⟩ : Vt).cs 47 ((pm0.append_left Hr5).trans List.perm_middle) tv2 (T.pb 7 false (T.nil (QN.seq (W.ret (QN.thenRet (QN.doneC2 (.inl rfl) 6 7 47 b1 (⟨0, 0, 0, 0, 0, 0, Nm.zero, Nm.zero⟩ : Vt).cs (.bool false) _ rfl (by kernel_rfl) (by kernel_rfl) Tryz.underlying47 (by kernel_rfl) (by kernel_rfl) (fun w hw => St.rangeM hw (⟨0, 0, 0, 0, 0, 0, Nm.zero, Nm.zero⟩ : Vt).cs mm0 (by kernel_rfl)) (fun w hw => ⟨?_, hw.below⟩))))))))))
    exact (by rw [first_wait h2 h7 h17]; rfl)
   ·
    have h17n := not_eq_false h17
    refine W.skip (QN.seq (W.seq (W.rg od7 (T.pu 64 (.pointer (some ⟨q, 0, none⟩)) (T.pu 65 (.agg (⟨0, Nm.zero⟩ : Vl).cs) (T.cp 66 120 #[.pointer (some ⟨q, 0, none⟩), .int .i64 3, .int .i64 1, .agg (⟨0, Nm.zero⟩ : Vl).cs, .int .i64 0] (.tuple #[.agg (Vtr.mk' V 3 1 (⟨0, Nm.zero⟩ : Vl) 0).cs, .bool true]) ent120 (fun w hw => vote_c _ _ V _ _ _ _ _ _ w (hV.below hw.below)) tv2 (T.pu 67 (.agg (Vtr.mk' V 3 1 (⟨0, Nm.zero⟩ : Vl) 0).cs) (T.pb 68 true (T.sp 47 b1 0 (.agg (Vtr.mk' V 3 1 (⟨0, Nm.zero⟩ : Vl) 0).cs) Vt.zero.cs (Vtr.mk' V 3 1 (⟨0, Nm.zero⟩ : Vl) 0).cs 47 ((pm0.append_left Hr5).trans List.perm_middle) tv2 (T.pb 7 true (T.nil (QN.seq (W.ret (QN.doneC2 (.inl rfl) 6 7 47 b1 (Vtr.mk' V 3 1 (⟨0, Nm.zero⟩ : Vl) 0).cs (.bool true) _ rfl (by kernel_rfl) (by kernel_rfl) Tryz.underlying47 (by kernel_rfl) (by kernel_rfl) (fun w hw => St.rangeM hw (Vtr.mk' V 3 1 (⟨0, Nm.zero⟩ : Vl) 0).cs mm0 (by kernel_rfl)) (fun w hw => ⟨?_, hw.below⟩)))))))))))))))
    exact (by rw [first_ex h2 h7 h17]; rfl)
end Go.Proofs.YtnjkbgcfpbbglaaGreat
