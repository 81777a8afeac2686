/- The walk of CertificateSlots. -/
import Derived.Test.YtphnfhonmbbddaaGreatL13
import Derived.Test.YtphnfhonmbbddaaGreatCeR2
import Derived.Test.YtphnfhonmbbddaaGreatGJ
import Derived.Test.YtphnfhonmbbddaaGreatOpenO
namespace Go.Proofs.YtphnfhonmbbddaaGreat
open Go Go.RowKit
set_option linter.unusedVariables false

theorem clV_len (m : Int) (p : Nm) (l : List Vt) (o : Oc) : (clV m p l o).length ≤ l.length := by
  unfold clV
  cases decB m p l o with
  | true => exact Nat.le_trans (List.length_filter_le _ _) (slV_len m p l o.slot)
  | false => simp
theorem slots_no {m : Int} {p : Nm} {l : List Vt} {s : Int} {j : Nat} {hj : j < (outV m p l s).length} (h : ((!(decB m p l (outV m p l s)[j])) || (!(clV m p l (outV m p l s)[j] == clV m p l (outV m p l s)[j]))) = true) : False := by
  have hx := List.getElem_mem hj
  have hd : decB m p l (outV m p l s)[j] = true := by rw [decB_iff, out_slot hx]; exact hx
  rw [hd] at h
  simp at h
set_option maxRecDepth 100000 in
set_option maxHeartbeats 2000000 in
theorem CertificateSlots_c (m : Int) (p : Nm) (a : List Vt) (A : Option Addr) (c : Nat) (w : World) (hm : W64 m) (hok : ∀ u ∈ a, u.Ok) (h1 : a.length ≤ c) (h2 : c ≤ maxLen) (hr : Rd w A a) : Calls Tryz.prog 4 #[.int .i64 m, .agg p.cs, .slice A a.length c] w (fun rr w' => rr = .returned (.bool true) ∧ Below w.heap.size w w') := by
 have ht : (a.take 250).length ≤ 250 := List.length_take_le _ _
 refine calls_W (n := 62) Tryz.func4 rfl [(0, .int .i64 m), (1, .agg p.cs), (2, .slice A a.length c)] rfl ⟨by kernel_rfl, by kernel_rfl⟩ (W.weak (Ψ := St w []) (fun w' h => by rw [h]; exact St.start w) (W.seq (W.rg od2 (T.bx 4 24 (.agg p.cs) (p.cs) tv3 (fun b1 => T.pb 6 false (T.nil (QN.seq (W.seq (W.rg od3 (T.pu 14 (.slice A a.length c) (T.cp 15 5 #[.slice A a.length c] (.slice A ((a.take 250).length) c) ent5 (fun w hw => cut13_c a A c w h1 h2 (Arr.rd (Rd.arr hr _) hw)) tv2 (T.pu 2 (.slice A ((a.take 250).length) c) (T.nil (QN.seq (W.seq (W.seq (W.rg od1 (T.pi 7 0 (T.nil (QN.seq (W.block (W.loop (σ := Nat) (fun gs => gs ≤ 10) (fun gs => [(0, .int .i64 m), (2, .slice A ((a.take 250).length) c), (4, .pointer (some ⟨b1, 0, none⟩)), (7, .int .i64 gs)]) (fun gs => St w [(b1, Obj.cells p.cs 24 (0, 0))]) (fun gs => 10 - gs) 0 ?_ (by kernel_rfl) (fun w h => h) ?_))))))))))))))))))))))
 ·
  try dsimp only
  exact Nat.zero_le _
 rintro s hI_
 have hs : s ≤ 10 := hI_
 refine W.seq (W.seq (W.rg od2 (T.pi 16 s (T.pb 17 (decide ((s : Int) < 10)) (T.nil (QN.seq (W.cd (decide ((s : Int) < 10)) (fun h2 => ?_) (fun h2 => ?_))))))))
 ·
  have h2' := of_decide_eq_true h2
  refine W.skip (QN.seq (W.seq (W.block (W.seq (W.rg od6 (T.pi 20 m (T.lr false 21 p.cs 24 b1 0 (fun w h => St.rangeM h p.cs mm0 (by kernel_rfl)) (T.pu 22 (.slice A ((a.take 250).length) c) (T.pi 23 s (T.callR 24 12 #[.int .i64 m, .agg p.cs, .slice A ((a.take 250).length) c, .int .i64 s] 27 11 (outV m p (a.take 250) (s : Int)).length (cells (outV m p (a.take 250) (s : Int))) (by kernel_rfl) (by kernel_rfl) ent12 (fun w hw => routcomes_c m p (a.take 250) (s : Int) A c w (by assumption) (fun u hu => (hok u (List.mem_of_mem_take hu)).support) (by first | omega | (simp; done) | (simp; omega)) (Arr.rd ((Rd.arr hr _).take _) hw)) tv3 (fun A3 c4 Hr5 hrow6 => T.pu 8 (.slice A3 ((outV m p (a.take 250) (s : Int)).length) c4) (T.nil (QN.seq (W.seq (W.rg od1 (T.pi 9 0 (T.nil (QN.seq (W.block ?_)))))))))))))))))))
  have hx1 := outV_len m p (a.take 250) (s : Int)
  refine W.loop (σ := Nat) (fun gs => gs ≤ (outV m p (a.take 250) (s : Int)).length) (fun gs => [(0, .int .i64 m), (2, .slice A ((a.take 250).length) c), (4, .pointer (some ⟨b1, 0, none⟩)), (7, .int .i64 s), (8, .slice A3 ((outV m p (a.take 250) (s : Int)).length) c4), (9, .int .i64 gs), (16, .int .i64 s), (17, .bool (decide ((s : Int) < 10))), (20, .int .i64 m), (21, .agg p.cs), (22, .slice A ((a.take 250).length) c), (23, .int .i64 s), (24, .slice A3 ((outV m p (a.take 250) (s : Int)).length) c4)]) (fun gs => St w (Hr5 ++ [(b1, Obj.cells p.cs 24 (0, 0))])) (fun gs => (outV m p (a.take 250) (s : Int)).length - gs) 0 ?_ (by kernel_rfl) (fun w h => h) ?_
  ·
   try dsimp only
   exact Nat.zero_le _
  rintro j hI_
  have hj : j ≤ (outV m p (a.take 250) (s : Int)).length := hI_
  refine W.seq (W.seq (W.rg od4 (T.pi 25 j (T.pu 26 (.slice A3 ((outV m p (a.take 250) (s : Int)).length) c4) (T.pi 27 (((outV m p (a.take 250) (s : Int)).length : Nat) : Int) (T.pb 28 (decide ((j : Int) < (((outV m p (a.take 250) (s : Int)).length : Nat) : Int))) (T.nil (QN.seq (W.cd (decide ((j : Int) < (((outV m p (a.take 250) (s : Int)).length : Nat) : Int))) (fun h7 => ?_) (fun h7 => ?_))))))))))
  ·
   have h7' := of_decide_eq_true h7
   have hl8 : j < (outV m p (a.take 250) (s : Int)).length := by omega
   refine W.skip (QN.seq (W.seq (W.block (W.seq (W.drawn (Ψ := St w (Hr5 ++ [(b1, Obj.cells p.cs 24 (0, 0))])) (St w (Hr5 ++ [(b1, Obj.cells p.cs 24 (0, 0))])) [(0, true), (1, true), (2, true), (3, true), (4, true), (5, true), (6, true), (7, false), (8, true), (9, true), (10, true), (11, false), (12, false)] hmx (by kernel_rfl) (NoPanic.then (NoPanic.inBlock (NoPanic.then (NoPanic.then (NoPanic.inBlock (NoPanic.inBlock (NoPanic.then (NoPanic.then (NoPanic.inBlock (NoPanic.then NoPanic.body)))))))))) (fun w h => h.drew) (fun w h => h) (T.pi 32 m (T.lr true 33 p.cs 24 b1 0 (fun w h => St.rangeM h p.cs (List.mem_append_right _ mm0) (by kernel_rfl)) (T.pu 34 (.slice A ((a.take 250).length) c) (T.pu 35 (.slice A3 ((outV m p (a.take 250) (s : Int)).length) c4) (T.pi 36 j ?_))))))))))
   obtain ⟨b9, o10, hA11, hr12⟩ := (Arr.row hrow6 rfl rfl _) j hl8
   refine T.ix 37 34 27 11 A3 ((outV m p (a.take 250) (s : Int)).length) c4 (j : Int) j b9 o10 hA11 rfl (by omega) (T.lr true 38 ((outV m p (a.take 250) (s : Int))[j]'hl8).cs 27 b9 (o10 + j * 11) hr12 (T.callG (β := Option Addr × Nat × List (Nat × Obj)) 39 6 #[.int .i64 m, .agg p.cs, .slice A ((a.take 250).length) c, .agg ((outV m p (a.take 250) (s : Int))[j]'hl8).cs] (fun gs => .tuple #[.slice gs.1 ((clV m p (a.take 250) ((outV m p (a.take 250) (s : Int))[j]'hl8)).length) gs.2.1, .bool (decB m p (a.take 250) ((outV m p (a.take 250) (s : Int))[j]'hl8))]) (fun gs => St w (gs.2.2 ++ (Hr5 ++ [(b1, Obj.cells p.cs 24 (0, 0))]))) (fun gs => RowIs 43 22 gs.1 (clV m p (a.take 250) ((outV m p (a.take 250) (s : Int))[j]'hl8)).length gs.2.1 (cells (clV m p (a.take 250) ((outV m p (a.take 250) (s : Int))[j]'hl8))) gs.2.2) (by kernel_rfl) (by kernel_rfl) ent6 ?_ (fun gs => (fun w h => (h.perm (((pm0.append_left gs.2.2).trans (List.perm_append_comm_assoc _ _ _)).trans (((pm0.append_left gs.2.2).trans List.perm_middle).append_left Hr5))).part (List.Sublist.append (List.Sublist.refl _) ns1))) ?_))
   · exact fun w hw => (closure_c m p (a.take 250) ((outV m p (a.take 250) (s : Int))[j]'hl8) A c w (by assumption) (fun u hu => (hok u (List.mem_of_mem_take hu)).support) (by first | omega | (simp; done) | (simp; omega)) (Arr.rd ((Rd.arr hr _).take _) hw)).mono fun r w' ⟨A, c, Hr, h1, h2, h3⟩ => ⟨(A, c, Hr), h2, h1, hw.join h3⟩
   rintro ⟨A13, c14, Hr15⟩ hp_
   have hp16 : RowIs 43 22 A13 (clV m p (a.take 250) ((outV m p (a.take 250) (s : Int))[j]'hl8)).length c14 (cells (clV m p (a.take 250) ((outV m p (a.take 250) (s : Int))[j]'hl8))) Hr15 := hp_
   refine T.pu 31 (.tuple #[.slice A13 ((clV m p (a.take 250) ((outV m p (a.take 250) (s : Int))[j]'hl8)).length) c14, .bool (decB m p (a.take 250) ((outV m p (a.take 250) (s : Int))[j]'hl8))]) (T.pu 40 (.slice A13 ((clV m p (a.take 250) ((outV m p (a.take 250) (s : Int))[j]'hl8)).length) c14) (T.pb 41 (decB m p (a.take 250) ((outV m p (a.take 250) (s : Int))[j]'hl8)) (T.pu 10 (.slice A13 ((clV m p (a.take 250) ((outV m p (a.take 250) (s : Int))[j]'hl8)).length) c14) (T.pb 11 (decB m p (a.take 250) ((outV m p (a.take 250) (s : Int))[j]'hl8)) (T.nil (QN.seq (W.seq (W.drawn (Ψ := St w (Hr15 ++ (Hr5 ++ [(b1, Obj.cells p.cs 24 (0, 0))]))) (St w (Hr15 ++ (Hr5 ++ [(b1, Obj.cells p.cs 24 (0, 0))]))) [(0, true), (1, true), (2, true), (3, true), (4, true), (5, true), (6, true), (7, false), (8, true), (9, true), (10, true), (11, false), (12, false)] hmx (by kernel_rfl) (NoPanic.then (NoPanic.inBlock (NoPanic.then (NoPanic.then (NoPanic.inBlock (NoPanic.inBlock (NoPanic.then (NoPanic.then (NoPanic.inBlock (NoPanic.then NoPanic.body)))))))))) (fun w h => h.drew) (fun w h => h) (T.pi 43 m (T.lr true 44 p.cs 24 b1 0 (fun w h => St.rangeM h p.cs (List.mem_append_right _ (List.mem_append_right _ mm0)) (by kernel_rfl)) (T.pu 45 (.slice A ((a.take 250).length) c) (T.pu 46 (.slice A3 ((outV m p (a.take 250) (s : Int)).length) c4) (T.pi 47 j ?_)))))))))))))
   obtain ⟨b17, o18, hA19, hr20⟩ := (show Arr (St _ (Hr15 ++ (Hr5 ++ [(b1, Obj.cells p.cs 24 (0, 0))]))) A3 (outV m p (a.take 250) (s : Int)) from (Arr.row hrow6 rfl rfl (Hr15 ++ [(b1, Obj.cells p.cs 24 (0, 0))])).weak (fun w h => h.perm ((pm0.append_left Hr15).trans (List.perm_append_comm_assoc _ _ _)))) j hl8
   refine T.ix 48 34 27 11 A3 ((outV m p (a.take 250) (s : Int)).length) c4 (j : Int) j b17 o18 hA19 rfl (by omega) (T.lr true 49 ((outV m p (a.take 250) (s : Int))[j]'hl8).cs 27 b17 (o18 + j * 11) hr20 (T.callG (β := Option Addr × Nat × List (Nat × Obj)) 50 7 #[.int .i64 m, .agg p.cs, .slice A ((a.take 250).length) c, .agg ((outV m p (a.take 250) (s : Int))[j]'hl8).cs] (fun gs => .tuple #[.slice gs.1 ((clV m p (a.take 250) ((outV m p (a.take 250) (s : Int))[j]'hl8)).length) gs.2.1, .bool (decB m p (a.take 250) ((outV m p (a.take 250) (s : Int))[j]'hl8))]) (fun gs => St w (gs.2.2 ++ (Hr15 ++ (Hr5 ++ [(b1, Obj.cells p.cs 24 (0, 0))])))) (fun gs => RowIs 43 22 gs.1 (clV m p (a.take 250) ((outV m p (a.take 250) (s : Int))[j]'hl8)).length gs.2.1 (cells (clV m p (a.take 250) ((outV m p (a.take 250) (s : Int))[j]'hl8))) gs.2.2) (by kernel_rfl) (by kernel_rfl) ent7 ?_ (fun gs => (fun w h => (h.perm (((pm0.append_left gs.2.2).trans (List.perm_append_comm_assoc _ _ _)).trans ((((pm0.append_left gs.2.2).trans (List.perm_append_comm_assoc _ _ _)).trans (((pm0.append_left gs.2.2).trans List.perm_middle).append_left Hr5)).append_left Hr15))).part (List.Sublist.append (List.Sublist.refl _) (List.Sublist.append (List.Sublist.refl _) ns1)))) ?_))
   · exact fun w hw => (rclosure_c m p (a.take 250) ((outV m p (a.take 250) (s : Int))[j]'hl8) A c w (by assumption) (fun u hu => (hok u (List.mem_of_mem_take hu)).support) (by first | omega | (simp; done) | (simp; omega)) (Arr.rd ((Rd.arr hr _).take _) hw)).mono fun r w' ⟨A, c, Hr, h1, h2, h3⟩ => ⟨(A, c, Hr), h2, h1, hw.join h3⟩
   rintro ⟨A21, c22, Hr23⟩ hp_
   have hp24 : RowIs 43 22 A21 (clV m p (a.take 250) ((outV m p (a.take 250) (s : Int))[j]'hl8)).length c22 (cells (clV m p (a.take 250) ((outV m p (a.take 250) (s : Int))[j]'hl8))) Hr23 := hp_
   refine T.pu 42 (.tuple #[.slice A21 ((clV m p (a.take 250) ((outV m p (a.take 250) (s : Int))[j]'hl8)).length) c22, .bool (decB m p (a.take 250) ((outV m p (a.take 250) (s : Int))[j]'hl8))]) (T.pu 51 (.slice A21 ((clV m p (a.take 250) ((outV m p (a.take 250) (s : Int))[j]'hl8)).length) c22) (T.pb 52 (decB m p (a.take 250) ((outV m p (a.take 250) (s : Int))[j]'hl8)) (T.pu 12 (.slice A21 ((clV m p (a.take 250) ((outV m p (a.take 250) (s : Int))[j]'hl8)).length) c22) (T.pb 13 (decB m p (a.take 250) ((outV m p (a.take 250) (s : Int))[j]'hl8)) (T.nil (QN.seq (W.seq (W.rg od8 (T.pb 53 (decB m p (a.take 250) ((outV m p (a.take 250) (s : Int))[j]'hl8)) (T.pb 54 (!(decB m p (a.take 250) ((outV m p (a.take 250) (s : Int))[j]'hl8))) (T.pb 55 (!(decB m p (a.take 250) ((outV m p (a.take 250) (s : Int))[j]'hl8))) (T.bk [(3, false), (4, false), (5, false), (6, false)] [(7, false)] 2 false (!(decB m p (a.take 250) ((outV m p (a.take 250) (s : Int))[j]'hl8))) 55 59 (.bool (!((clV m p (a.take 250) ((outV m p (a.take 250) (s : Int))[j]'hl8)) == (clV m p (a.take 250) ((outV m p (a.take 250) (s : Int))[j]'hl8))))) (fun hg25 => ?_) ?_))))))))))))
   ·
    have hg25_ := hg25
    have hg25n := not_eq_false hg25
    refine T.pu 56 (.slice A13 ((clV m p (a.take 250) ((outV m p (a.take 250) (s : Int))[j]'hl8)).length) c14) (T.pu 57 (.slice A21 ((clV m p (a.take 250) ((outV m p (a.take 250) (s : Int))[j]'hl8)).length) c22) (T.cp 58 8 #[.slice A13 ((clV m p (a.take 250) ((outV m p (a.take 250) (s : Int))[j]'hl8)).length) c14, .slice A21 ((clV m p (a.take 250) ((outV m p (a.take 250) (s : Int))[j]'hl8)).length) c22] (.bool ((clV m p (a.take 250) ((outV m p (a.take 250) (s : Int))[j]'hl8)) == (clV m p (a.take 250) ((outV m p (a.take 250) (s : Int))[j]'hl8)))) ent8 (fun w hw => same13_c (clV m p (a.take 250) ((outV m p (a.take 250) (s : Int))[j]'hl8)) (clV m p (a.take 250) ((outV m p (a.take 250) (s : Int))[j]'hl8)) A13 c14 A21 c22 w (by have h9 := clV_len m p (a.take 250) ((outV m p (a.take 250) (s : Int))[j]'hl8); omega) (by have h9 := clV_len m p (a.take 250) ((outV m p (a.take 250) (s : Int))[j]'hl8); omega) (Arr.rd (show Arr (St _ (Hr23 ++ (Hr15 ++ (Hr5 ++ [(b1, Obj.cells p.cs 24 (0, 0))])))) A13 (clV m p (a.take 250) ((outV m p (a.take 250) (s : Int))[j]'hl8)) from (Arr.row hp16 rfl rfl (Hr23 ++ (Hr5 ++ [(b1, Obj.cells p.cs 24 (0, 0))]))).weak (fun w h => h.perm ((pm0.append_left Hr23).trans (List.perm_append_comm_assoc _ _ _)))) hw) (Arr.rd (Arr.row hp24 rfl rfl _) hw)) tv2 (T.pb 59 (!((clV m p (a.take 250) ((outV m p (a.take 250) (s : Int))[j]'hl8)) == (clV m p (a.take 250) ((outV m p (a.take 250) (s : Int))[j]'hl8)))) ?_)))
    exact T.blkEnd (by kernel_rfl) (fun w h => h)
   refine T.oo 60 (!(decB m p (a.take 250) ((outV m p (a.take 250) (s : Int))[j]'hl8))) (!((clV m p (a.take 250) ((outV m p (a.take 250) (s : Int))[j]'hl8)) == (clV m p (a.take 250) ((outV m p (a.take 250) (s : Int))[j]'hl8)))) (T.nil (QN.seq (W.cd ((!(decB m p (a.take 250) ((outV m p (a.take 250) (s : Int))[j]'hl8))) || (!((clV m p (a.take 250) ((outV m p (a.take 250) (s : Int))[j]'hl8)) == (clV m p (a.take 250) ((outV m p (a.take 250) (s : Int))[j]'hl8))))) (fun h26 => ?_) (fun h26 => ?_))))
   ·
    refine W.seq (W.rg od1 (T.pb 6 false (T.nil (QN.seq (W.ret (QN.blkRet (QN.thenRet (QN.thenRet (QN.blkRet (QN.blkRet (QN.thenRet (QN.thenRet (QN.blkRet (QN.thenRet (QN.done (.inl rfl) 6 (.bool false) rfl (by kernel_rfl) (fun w hw => ⟨?_, hw.below⟩))))))))))))))))
    exact (slots_no h26).elim
   ·
    have h26l := (Bool.or_eq_false_iff.1 h26).1
    have h26r := (Bool.or_eq_false_iff.1 h26).2
    have h26ln := not_eq_false h26l
    have h26rn := not_eq_false h26r
    have h26rn' := eq_of_beq h26rn
    refine W.skip (QN.blkNormal (QN.seq (W.rg od3 (T.pi 29 j (T.pw 30 ((j : Int) + 1) (T.pi 9 ((j : Int) + 1) (T.nil (QN.back (j + 1) ?_ ?_ (by kernel_rfl) (fun w h => (h.perm (((((pm0.append_left Hr15).trans (List.perm_append_comm_assoc _ _ _)).append_left Hr23).trans (List.perm_append_comm_assoc _ _ _)).trans (((((pm0.append_left Hr15).trans List.perm_middle).append_left Hr23).trans List.perm_middle).append_left Hr5))).part (List.Sublist.append (List.Sublist.refl _) ns1))))))))))
    ·
     show (j + 1) ≤ (outV m p (a.take 250) (s : Int)).length
     omega
    · show (outV m p (a.take 250) (s : Int)).length - (j + 1) < (outV m p (a.take 250) (s : Int)).length - j; omega
  ·
   have h7' := of_decide_eq_false h7
   refine W.exit (QN.thenExit (QN.thenExit (QN.blkHit (QN.blkNormal (QN.seq (W.rg od3 (T.pi 18 s (T.pw 19 ((s : Int) + 1) (T.pi 7 ((s : Int) + 1) (T.nil (QN.back (s + 1) ?_ ?_ (by kernel_rfl) (fun w h => (h.perm ((pm0.append_left Hr5).trans List.perm_middle)).part ns1))))))))))))
   ·
    show (s + 1) ≤ 10
    omega
   · show 10 - _ < 10 - _; omega
 ·
  have h2' := of_decide_eq_false h2
  refine W.exit (QN.thenExit (QN.thenExit (QN.blkHit (QN.seq (W.seq (W.rg od2 (T.cp 61 11 #[] (.bool true) ent11 (fun w hw => awake13_c w) tv2 (T.pb 6 true (T.nil (QN.seq (W.ret (QN.done (.inl rfl) 6 (.bool true) rfl (by kernel_rfl) (fun w hw => ⟨?_, hw.below⟩)))))))))))))
  exact rfl
theorem CertificateSlots_w (w : World) (a0 : Int) (v1 : Value) (x1 : Nm) (v2 : Value) (x2 : List Vt) (h0 : W64 a0) (h1 : v1 = .agg x1.cs) (h2 : VS w v2 x2) : Calls Tryz.prog 4 #[.int .i64 a0, v1, v2] w fun e w' => e = .returned (.bool true) ∧ Below w.heap.size w w' := by
  obtain rfl := h1
  obtain ⟨A2, c2, rfl, l2, m2, r2, k2⟩ := h2
  exact CertificateSlots_c _ _ _ _ _ w h0 k2 l2 m2 r2.rd
end Go.Proofs.YtphnfhonmbbddaaGreat
