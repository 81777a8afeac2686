/- Law 14: JudgeForks, walked. -/
import Derived.Test.YtphnfhonmbbddaaJ14
import Derived.Test.YtphnfhonmbbddaaJfP
import Derived.Test.YtphnfhonmbbddaaRows
namespace Go.Proofs.Ytphnfhonmbbddaa
open Go Go.RowKit
set_option linter.unusedVariables false

section
variable {t : Tb} {tape : List Int} {n k : Nat}
theorem sh_pos (h : t.P = shP tape n k) (hk : 1 ≤ k) : 0 < t.pre.length := by
  have := congrArg List.length h
  rw [P_len] at this
  simp [shP] at this
  omega
theorem sh_len0 (hk : 1 ≤ k) : ((shP tape n k).getD 0 []).length = n := by
  have h0 : 0 < (shP tape n k).length := by simp [shP]; omega
  rw [List.getD_eq_getElem?_getD, List.getElem?_eq_getElem h0]
  exact sh_row (k := k) (.inl (List.getElem_mem h0))
theorem sh_n (h : t.P = shP tape n k) (hk : 1 ≤ k) (h0 : 0 < t.pre.length) : (t.pre[0]'h0).l.length = n := by
  have h1 := P_at h0
  rw [← h1, h]
  exact sh_len0 hk
theorem valT_rng (tape : List Int) {m : Int} (h0 : 0 < m) (h1 : m < 1000) (a : Nat) : 0 ≤ valT tape m a ∧ valT tape m a < m := by
  unfold valT
  cases decide ((a : Int) < (tape.length : Int)) with
  | true => exact mod_rng h0 h1
  | false => exact ⟨Int.le_refl _, h0⟩
theorem valid_sh {P C : List (List Int)} (hP : P = shP tape n k) (hC : C = shC tape n k) (h1 : 1 ≤ n) (h7 : n ≤ 7) (k1 : 1 ≤ k) (k3 : k ≤ 3) : validV P C = true := by
  subst hP hC
  have e1 : (shP tape n k).length = k := by simp [shP]
  have e2 : (shC tape n k).length = k := by simp [shC]
  have f : ∀ {rows : List (List Int)} {m : Int} {off : Nat}, 0 < m → m < 1000 → rows = (List.range k).map (rowT tape m off n) → fitsV rows ((n : Nat) : Int) (m - 1) = true := fun {rows m off} hm hm1 hr => by
    subst hr
    unfold fitsV
    rw [List.all_eq_true]
    intro x hx
    obtain ⟨r, _, rfl⟩ := List.mem_map.1 hx
    have hl : (rowT tape m off n r).length = n := by simp [rowT]
    refine fit_yes (by rw [hl]; simp) ?_
    rw [List.any_eq_false]
    intro e he
    unfold rowT at he
    obtain ⟨j, _, rfl⟩ := List.mem_map.1 he
    have := valT_rng tape hm hm1 (2 * (r * n) + 2 * j + off)
    unfold outB
    simp only [Bool.or_eq_true, decide_eq_true_eq, not_or]
    omega
  have hc : (((decide (((shP tape n k).length : Int) < 1)) || (decide (3 < ((shP tape n k).length : Int)))) || (((shC tape n k).length : Int) != ((shP tape n k).length : Int))) = false := by
    rw [e1, e2, decide_eq_false (by omega), decide_eq_false (by omega)]
    simp
  have fP : fitsV (shP tape n k) ((n : Nat) : Int) 3 = true := f (rows := shP tape n k) (m := 4) (off := 0) (by decide) (by decide) rfl
  have fC : fitsV (shC tape n k) ((n : Nat) : Int) 7 = true := f (rows := shC tape n k) (m := 8) (off := 1) (by decide) (by decide) rfl
  unfold validV
  rw [hc, cond_false, sh_len0 k1, fP, fC]
  simp only [Bool.and_true, Bool.and_eq_true, decide_eq_true_eq]
  omega
end
theorem forks_bool {P C : List (List Int)} {n : Nat} (hv : validV P C = true) (hn : (P.getD 0 []).length = n) : ((((!((decV P C).1)) || (!((decV P C).2))) || ((decide (2 * quorum (n : Int) - (n : Int) ≤ (size (confV P C) : Int))) && (decide (third (n : Int) ≤ (size (confV P C) : Int))))) && true) = true := by
  cases h1 : (decV P C).1 with
  | false => rfl
  | true =>
    cases h2 : (decV P C).2 with
    | false => rfl
    | true =>
      have h := forks_law hv (Prod.ext h1 h2)
      rw [hn] at h
      have h3 := third_le n
      rw [decide_eq_true h, decide_eq_true (by omega : third (n : Int) ≤ (size (confV P C) : Int))]
      rfl

set_option maxRecDepth 100000 in
set_option maxHeartbeats 2000000 in
theorem JudgeForks_c (a0 a1 : Int) (tape : List Int) (At : Option Addr) (ct : Nat) (w : World) (hr : Rd w At tape) (hl : tape.length ≤ maxLen) : Calls Try.prog 8 #[.int .i64 a0, .int .i64 a1, .slice At tape.length ct] w (fun rr w' => rr = .returned (.bool true) ∧ Below w.heap.size w w') := by
 refine calls_W (n := 56) Try.func8 rfl [(0, .int .i64 a0), (1, .int .i64 a1), (2, .slice At tape.length ct)] rfl ⟨by kernel_rfl, by kernel_rfl⟩ (W.weak (Ψ := St w []) (fun w' h => by rw [h]; exact St.start w) (W.seq (W.rg od1 (T.pb 6 false (T.nil (QN.seq (W.seq (W.rg od6 (T.pi 12 a0 (T.pi 13 a1 (T.pu 14 (.slice At tape.length ct) (T.callG (β := Tb × List (Nat × Obj)) 15 23 #[.int .i64 a0, .int .i64 a1, .slice At tape.length ct] (fun gs => .agg gs.1.cs) (fun gs => St w (gs.2 ++ [])) (fun gs => gs.1.P = shP tape (nS a0) (kS a1) ∧ gs.1.C = shC tape (nS a0) (kS a1) ∧ TbLen gs.1 ∧ TbOwn gs.1 gs.2) (by kernel_rfl) (by kernel_rfl) ent23 ?_ tv3 ?_))))))))))))
 · exact fun w hw => (shape_t a0 a1 tape At ct w (Arr.rd (Rd.arr hr _) hw) hl).mono fun r w' ⟨tb, Ht, h1, h2, h3, h4, h5, h6⟩ => ⟨(tb, Ht), ⟨h2, h3, h4, h5⟩, h1, hw.join h6⟩
 rintro ⟨tb1, Ht2⟩ hp_
 have hp3 : tb1.P = shP tape (nS a0) (kS a1) ∧ tb1.C = shC tape (nS a0) (kS a1) ∧ TbLen tb1 ∧ TbOwn tb1 Ht2 := hp_
 refine T.al 7 24 Tb.zero.cs tv3 (fun b4 => T.sp 24 b4 0 (.agg tb1.cs) Tb.zero.cs tb1.cs 24 pm0 tv2 (T.nil (QN.seq (W.seq (W.rg od7 (T.lr false 17 tb1.cs 24 b4 0 (fun w h => St.rangeM h tb1.cs mm0 (by kernel_rfl)) (T.cp 18 13 #[.agg tb1.cs] (.tuple #[.bool ((decV tb1.P tb1.C).1), .bool ((decV tb1.P tb1.C).2)]) ent13 (fun w hw => jdec_c tb1 w (TbOwn.rd hp3.2.2.2 ((hw.perm ((pm0.cons _).trans List.perm_middle.symm)).part (List.Sublist.append (List.Sublist.refl _) (List.nil_sublist _)))) hp3.2.2.1) tv2 (T.pu 16 (.tuple #[.bool ((decV tb1.P tb1.C).1), .bool ((decV tb1.P tb1.C).2)]) (T.pb 19 ((decV tb1.P tb1.C).1) (T.pb 20 ((decV tb1.P tb1.C).2) (T.pb 8 ((decV tb1.P tb1.C).1) (T.pb 9 ((decV tb1.P tb1.C).2) (T.nil (QN.seq (W.seq (W.rg od6 (T.pu 21 (.pointer (some ⟨b4, 0, none⟩)) (T.ld false 22 (.slice tb1.A1 tb1.pre.length tb1.c1) 22 b4 0 (fun w h => St.cellM h mm0 (by kernel_rfl)) ?_))))))))))))))))))
 have hn := nS_rng a0
 have hkk := kS_rng a1
 have hp0 : 0 < tb1.pre.length := sh_pos hp3.1 hkk.1
 have hln := sh_n hp3.1 hkk.1 hp0
 have hvt := valid_sh hp3.1 hp3.2.1 hn.1 hn.2 hkk.1 hkk.2
 obtain ⟨b5, o6, hA7, hr8⟩ := (show Arr (St w ((b4, Obj.cells tb1.cs 24 (0, 0)) :: (Ht2 ++ []))) tb1.A1 tb1.pre from (hp3.2.2.2 w []).1.weak (fun w h => (h.perm ((pm0.cons _).trans List.perm_middle.symm)).part (List.Sublist.append (List.Sublist.refl _) (List.nil_sublist _)))) 0 hp0
 refine T.ix 23 22 45 1 tb1.A1 tb1.pre.length tb1.c1 0 0 b5 o6 hA7 (by first | rfl | omega) (by omega) (T.ld false 24 (.slice (((tb1.pre)[0]'hp0).A) (((tb1.pre)[0]'hp0).l.length) (((tb1.pre)[0]'hp0).c)) 45 b5 (o6 + 0 * 1) (fun w h => cell_of_range (hr8 w h) 0 (by kernel_rfl)) (T.pi 25 ((((tb1.pre)[0]'hp0).l.length : Nat) : Int) (T.pe 10 (.int .i64 ((((tb1.pre)[0]'hp0).l.length : Nat) : Int)) (.int .i64 ((nS a0 : Nat) : Int)) (by rw [hln]) ?_)))
 have hqb := quorum_bd (nS a0) (by omega)
 refine T.nil (QN.seq (W.seq (W.seq (W.rg od3 (T.lr false 26 tb1.cs 24 b4 0 (fun w h => St.rangeM h tb1.cs mm0 (by kernel_rfl)) (T.cp 27 16 #[.agg tb1.cs] (.bool (validV tb1.P tb1.C)) ent16 (fun w hw => jvalid_c tb1 w (TbOwn.rd hp3.2.2.2 ((hw.perm ((pm0.cons _).trans List.perm_middle.symm)).part (List.Sublist.append (List.Sublist.refl _) (List.nil_sublist _)))) hp3.2.2.1) tv2 (T.pb 28 (!(validV tb1.P tb1.C)) (T.nil (QN.seq (W.cd (!(validV tb1.P tb1.C)) (fun h9 => ?_) (fun h9 => ?_)))))))))))
 ·
  have h9n := not_eq_true h9
  refine W.seq (W.rg od1 (T.pb 6 false (T.nil (QN.seq (W.ret (QN.thenRet (QN.done (.inl rfl) 6 (.bool false) rfl (by kernel_rfl) (fun w hw => ⟨?_, hw.below⟩))))))))
  exact absurd h9 (by rw [hvt]; decide)
 ·
  have h9n := not_eq_false h9
  refine W.skip (QN.seq (W.seq (W.rg od4 (T.lr false 29 tb1.cs 24 b4 0 (fun w h => St.rangeM h tb1.cs mm0 (by kernel_rfl)) (T.cp 30 18 #[.agg tb1.cs] (.int .i64 (confV tb1.P tb1.C)) ent18 (fun w hw => jconf_c tb1 w (TbOwn.rd hp3.2.2.2 ((hw.perm ((pm0.cons _).trans List.perm_middle.symm)).part (List.Sublist.append (List.Sublist.refl _) (List.nil_sublist _)))) hp3.2.2.1) tv2 (T.cp 31 25 #[.int .i64 (confV tb1.P tb1.C)] (.int .i64 (size (confV tb1.P tb1.C) : Int)) ent25 (fun w hw => Ret.same (size_c _ w)) tv2 (T.pi 11 (size (confV tb1.P tb1.C) : Int) (T.nil (QN.seq (W.seq (W.rg od25 (T.pb 32 ((decV tb1.P tb1.C).1) (T.pb 33 (!((decV tb1.P tb1.C).1)) (T.pb 34 (!((decV tb1.P tb1.C).1)) (T.bk [(3, false), (4, false)] [(5, false), (6, false), (7, false), (8, false), (9, false), (10, false), (11, false), (12, false), (13, false), (14, false), (15, false), (16, false), (17, false), (18, false), (19, false), (20, false), (21, false), (22, false), (23, false), (24, false)] 2 false (!((decV tb1.P tb1.C).1)) 34 36 (.bool (!((decV tb1.P tb1.C).2))) (fun hg10 => ?_) ?_)))))))))))))))
  ·
   have hg10_ := hg10
   have hg10n := not_eq_false hg10
   refine T.pb 35 ((decV tb1.P tb1.C).2) (T.pb 36 (!((decV tb1.P tb1.C).2)) ?_)
   exact T.blkEnd (by kernel_rfl) (fun w h => h)
  refine T.oo 37 (!((decV tb1.P tb1.C).1)) (!((decV tb1.P tb1.C).2)) (T.pb 38 ((!((decV tb1.P tb1.C).1)) || (!((decV tb1.P tb1.C).2))) (T.bk [(7, false), (8, false), (9, false), (10, false), (11, false), (12, false), (13, false), (14, false), (15, false), (16, false), (17, false), (18, false), (19, false)] [(20, false), (21, false), (22, false), (23, false), (24, false)] 6 false ((!((decV tb1.P tb1.C).1)) || (!((decV tb1.P tb1.C).2))) 38 51 (.bool ((decide (((2 * (quorum ((nS a0 : Nat) : Int))) - ((nS a0 : Nat) : Int)) ≤ (size (confV tb1.P tb1.C) : Int))) && (decide ((third ((nS a0 : Nat) : Int)) ≤ (size (confV tb1.P tb1.C) : Int))))) (fun hg11 => ?_) ?_))
  ·
   have hg11_ := hg11
   have hg11l := (Bool.or_eq_false_iff.1 hg11).1
   have hg11r := (Bool.or_eq_false_iff.1 hg11).2
   have hg11ln := not_eq_false hg11l
   have hg11rn := not_eq_false hg11r
   refine T.pi 39 (size (confV tb1.P tb1.C) : Int) (T.pi 40 ((nS a0 : Nat) : Int) (T.cp 41 24 #[.int .i64 ((nS a0 : Nat) : Int)] (.int .i64 (quorum ((nS a0 : Nat) : Int))) ent24 (fun w hw => Ret.same (quorum_c _ w (by unfold W64; omega))) tv2 (T.pw 42 (2 * (quorum ((nS a0 : Nat) : Int))) (T.pi 43 ((nS a0 : Nat) : Int) (T.pw 44 ((2 * (quorum ((nS a0 : Nat) : Int))) - ((nS a0 : Nat) : Int)) (T.pb 45 (decide (((2 * (quorum ((nS a0 : Nat) : Int))) - ((nS a0 : Nat) : Int)) ≤ (size (confV tb1.P tb1.C) : Int))) (T.pb 46 (decide (((2 * (quorum ((nS a0 : Nat) : Int))) - ((nS a0 : Nat) : Int)) ≤ (size (confV tb1.P tb1.C) : Int))) (T.bk [(15, false), (16, false), (17, false), (18, false)] [(19, false)] 14 true (decide (((2 * (quorum ((nS a0 : Nat) : Int))) - ((nS a0 : Nat) : Int)) ≤ (size (confV tb1.P tb1.C) : Int))) 46 50 (.bool (decide ((third ((nS a0 : Nat) : Int)) ≤ (size (confV tb1.P tb1.C) : Int)))) (fun hg12 => ?_) ?_))))))))
   ·
    have hg12_ := hg12
    have hg12' := of_decide_eq_true hg12
    refine T.pi 47 (size (confV tb1.P tb1.C) : Int) (T.pi 48 ((nS a0 : Nat) : Int) (T.cp 49 26 #[.int .i64 ((nS a0 : Nat) : Int)] (.int .i64 (third ((nS a0 : Nat) : Int))) ent26 (fun w hw => Ret.same (third_c _ w (by unfold W64; omega))) tv2 (T.pb 50 (decide ((third ((nS a0 : Nat) : Int)) ≤ (size (confV tb1.P tb1.C) : Int))) ?_)))
    exact T.blkEnd (by kernel_rfl) (fun w h => h)
   refine T.an 51 (decide (((2 * (quorum ((nS a0 : Nat) : Int))) - ((nS a0 : Nat) : Int)) ≤ (size (confV tb1.P tb1.C) : Int))) (decide ((third ((nS a0 : Nat) : Int)) ≤ (size (confV tb1.P tb1.C) : Int))) ?_
   exact T.blkEnd (by kernel_rfl) (fun w h => h)
  refine T.oo 52 ((!((decV tb1.P tb1.C).1)) || (!((decV tb1.P tb1.C).2))) ((decide (((2 * (quorum ((nS a0 : Nat) : Int))) - ((nS a0 : Nat) : Int)) ≤ (size (confV tb1.P tb1.C) : Int))) && (decide ((third ((nS a0 : Nat) : Int)) ≤ (size (confV tb1.P tb1.C) : Int)))) (T.pb 53 (((!((decV tb1.P tb1.C).1)) || (!((decV tb1.P tb1.C).2))) || ((decide (((2 * (quorum ((nS a0 : Nat) : Int))) - ((nS a0 : Nat) : Int)) ≤ (size (confV tb1.P tb1.C) : Int))) && (decide ((third ((nS a0 : Nat) : Int)) ≤ (size (confV tb1.P tb1.C) : Int))))) (T.bk [(22, false)] [(23, false), (24, false)] 21 true (((!((decV tb1.P tb1.C).1)) || (!((decV tb1.P tb1.C).2))) || ((decide (((2 * (quorum ((nS a0 : Nat) : Int))) - ((nS a0 : Nat) : Int)) ≤ (size (confV tb1.P tb1.C) : Int))) && (decide ((third ((nS a0 : Nat) : Int)) ≤ (size (confV tb1.P tb1.C) : Int))))) 53 54 (.bool true) (fun hg13 => ?_) ?_))
  ·
   have hg13_ := hg13
   refine T.cp 54 20 #[] (.bool true) ent20 (fun w hw => awake14_c w) tv2 ?_
   exact T.blkEnd (by kernel_rfl) (fun w h => h)
  refine T.an 55 (((!((decV tb1.P tb1.C).1)) || (!((decV tb1.P tb1.C).2))) || ((decide (((2 * (quorum ((nS a0 : Nat) : Int))) - ((nS a0 : Nat) : Int)) ≤ (size (confV tb1.P tb1.C) : Int))) && (decide ((third ((nS a0 : Nat) : Int)) ≤ (size (confV tb1.P tb1.C) : Int))))) true (T.pb 6 ((((!((decV tb1.P tb1.C).1)) || (!((decV tb1.P tb1.C).2))) || ((decide (((2 * (quorum ((nS a0 : Nat) : Int))) - ((nS a0 : Nat) : Int)) ≤ (size (confV tb1.P tb1.C) : Int))) && (decide ((third ((nS a0 : Nat) : Int)) ≤ (size (confV tb1.P tb1.C) : Int))))) && true) (T.nil (QN.seq (W.ret (QN.done (.inl rfl) 6 (.bool ((((!((decV tb1.P tb1.C).1)) || (!((decV tb1.P tb1.C).2))) || ((decide (((2 * (quorum ((nS a0 : Nat) : Int))) - ((nS a0 : Nat) : Int)) ≤ (size (confV tb1.P tb1.C) : Int))) && (decide ((third ((nS a0 : Nat) : Int)) ≤ (size (confV tb1.P tb1.C) : Int))))) && true)) rfl (by kernel_rfl) (fun w hw => ⟨?_, hw.below⟩))))))
  exact (by congr 2; exact forks_bool (n := nS a0) hvt (by rw [hp3.1]; exact sh_len0 hkk.1))
theorem JudgeForks_w (w : World) (a0 : Int) (a1 : Int) (v2 : Value) (x2 : List Int) (h0 : W64 a0) (h1 : W64 a1) (h2 : GS W64 w v2 x2) : Calls Try.prog 8 #[.int .i64 a0, .int .i64 a1, v2] w fun e w' => e = .returned (.bool true) ∧ Below w.heap.size w w' := by
  obtain ⟨A2, c2, rfl, l2, m2, r2, k2⟩ := h2
  exact JudgeForks_c a0 a1 x2 A2 c2 w r2 (Nat.le_trans l2 m2)
end Go.Proofs.Ytphnfhonmbbddaa
