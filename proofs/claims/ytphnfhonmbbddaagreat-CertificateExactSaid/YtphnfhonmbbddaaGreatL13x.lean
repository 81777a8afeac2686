/- The walk of CertificateExact. -/
import Derived.Test.YtphnfhonmbbddaaGreatL13
import Derived.Test.YtphnfhonmbbddaaGreatCeR2
import Derived.Test.YtphnfhonmbbddaaGreatGJ
import Derived.Test.YtphnfhonmbbddaaGreatOpenO
namespace Go.Proofs.YtphnfhonmbbddaaGreat
open Go Go.RowKit
set_option linter.unusedVariables false

theorem clV_len (m : Int) (p : Nm) (l : List Vt) (o : Oc) : (clV m p l o).length ≤ l.length := by
  unfold clV
  cases decB m p l o with
  | true => exact Nat.le_trans (List.length_filter_le _ _) (slV_len m p l o.slot)
  | false => simp
theorem slots_no {m : Int} {p : Nm} {l : List Vt} {s : Int} {j : Nat} {hj : j < (outV m p l s).length} (h : ((!(decB m p l (outV m p l s)[j])) || (!(clV m p l (outV m p l s)[j] == clV m p l (outV m p l s)[j]))) = true) : False := by
  have hx := List.getElem_mem hj
  have hd : decB m p l (outV m p l s)[j] = true := by rw [decB_iff, out_slot hx]; exact hx
  rw [hd] at h
  simp at h
set_option maxRecDepth 100000 in
set_option maxHeartbeats 2000000 in
theorem CertificateExact_c (m : Int) (p : Nm) (a : List Vt) (o : Oc) (A : Option Addr) (c : Nat) (w : World) (hm : W64 m) (hok : ∀ u ∈ a, u.Ok) (h1 : a.length ≤ c) (h2 : c ≤ maxLen) (hr : Rd w A a) : Calls Tryz.prog 3 #[.int .i64 m, .agg p.cs, .slice A a.length c, .agg o.cs] w (fun rr w' => rr = .returned (.bool true) ∧ Below w.heap.size w w') := by
 have ht : (a.take 250).length ≤ 250 := List.length_take_le _ _
 refine calls_W (n := 55) Tryz.func3 rfl [(0, .int .i64 m), (1, .agg p.cs), (2, .slice A a.length c), (3, .agg o.cs)] rfl ⟨by kernel_rfl, by kernel_rfl⟩ (W.weak (Ψ := St w []) (fun w' h => by rw [h]; exact St.start w) (W.seq (W.rg od3 (T.bx 5 24 (.agg p.cs) (p.cs) tv3 (fun b1 => T.bx 7 27 (.agg o.cs) (o.cs) tv3 (fun b2 => T.pb 8 false (T.nil (QN.seq (W.seq (W.rg od3 (T.pu 13 (.slice A a.length c) (T.cp 14 5 #[.slice A a.length c] (.slice A ((a.take 250).length) c) ent5 (fun w hw => cut13_c a A c w h1 h2 (Arr.rd (Rd.arr hr _) hw)) tv2 (T.pu 2 (.slice A ((a.take 250).length) c) (T.nil (QN.seq (W.seq (W.rg od10 (T.pi 16 m (T.lr false 17 p.cs 24 b1 0 (fun w h => St.rangeM h p.cs mm1 (by kernel_rfl)) (T.pu 18 (.slice A ((a.take 250).length) c) (T.lr false 19 o.cs 27 b2 0 (fun w h => St.rangeM h o.cs mm0 (by kernel_rfl)) (T.callG (β := Option Addr × Nat × List (Nat × Obj)) 20 6 #[.int .i64 m, .agg p.cs, .slice A ((a.take 250).length) c, .agg o.cs] (fun gs => .tuple #[.slice gs.1 ((clV m p (a.take 250) o).length) gs.2.1, .bool (decB m p (a.take 250) o)]) (fun gs => St w (gs.2.2 ++ [(b2, Obj.cells o.cs 27 (0, 0)), (b1, Obj.cells p.cs 24 (0, 0))])) (fun gs => RowIs 43 22 gs.1 (clV m p (a.take 250) o).length gs.2.1 (cells (clV m p (a.take 250) o)) gs.2.2) (by kernel_rfl) (by kernel_rfl) ent6 ?_ tv3 ?_))))))))))))))))))))))
 · exact fun w hw => (closure_c m p (a.take 250) o A c w (by assumption) (fun u hu => (hok u (List.mem_of_mem_take hu)).support) (by first | omega | (simp; done) | (simp; omega)) (Arr.rd ((Rd.arr hr _).take _) hw)).mono fun r w' ⟨A, c, Hr, h1, h2, h3⟩ => ⟨(A, c, Hr), h2, h1, hw.join h3⟩
 rintro ⟨A3, c4, Hr5⟩ hp_
 have hp6 : RowIs 43 22 A3 (clV m p (a.take 250) o).length c4 (cells (clV m p (a.take 250) o)) Hr5 := hp_
 refine T.pu 15 (.tuple #[.slice A3 ((clV m p (a.take 250) o).length) c4, .bool (decB m p (a.take 250) o)]) (T.pu 21 (.slice A3 ((clV m p (a.take 250) o).length) c4) (T.pb 22 (decB m p (a.take 250) o) (T.pu 9 (.slice A3 ((clV m p (a.take 250) o).length) c4) (T.pb 10 (decB m p (a.take 250) o) (T.nil (QN.seq (W.seq (W.rg od10 (T.pi 24 m (T.lr false 25 p.cs 24 b1 0 (fun w h => St.rangeM h p.cs (List.mem_append_right _ mm1) (by kernel_rfl)) (T.pu 26 (.slice A ((a.take 250).length) c) (T.lr false 27 o.cs 27 b2 0 (fun w h => St.rangeM h o.cs (List.mem_append_right _ mm0) (by kernel_rfl)) (T.callG (β := Option Addr × Nat × List (Nat × Obj)) 28 7 #[.int .i64 m, .agg p.cs, .slice A ((a.take 250).length) c, .agg o.cs] (fun gs => .tuple #[.slice gs.1 ((clV m p (a.take 250) o).length) gs.2.1, .bool (decB m p (a.take 250) o)]) (fun gs => St w (gs.2.2 ++ (Hr5 ++ [(b2, Obj.cells o.cs 27 (0, 0)), (b1, Obj.cells p.cs 24 (0, 0))]))) (fun gs => RowIs 43 22 gs.1 (clV m p (a.take 250) o).length gs.2.1 (cells (clV m p (a.take 250) o)) gs.2.2) (by kernel_rfl) (by kernel_rfl) ent7 ?_ tv3 ?_)))))))))))))
 · exact fun w hw => (rclosure_c m p (a.take 250) o A c w (by assumption) (fun u hu => (hok u (List.mem_of_mem_take hu)).support) (by first | omega | (simp; done) | (simp; omega)) (Arr.rd ((Rd.arr hr _).take _) hw)).mono fun r w' ⟨A, c, Hr, h1, h2, h3⟩ => ⟨(A, c, Hr), h2, h1, hw.join h3⟩
 rintro ⟨A7, c8, Hr9⟩ hp_
 have hp10 : RowIs 43 22 A7 (clV m p (a.take 250) o).length c8 (cells (clV m p (a.take 250) o)) Hr9 := hp_
 refine T.pu 23 (.tuple #[.slice A7 ((clV m p (a.take 250) o).length) c8, .bool (decB m p (a.take 250) o)]) (T.pu 29 (.slice A7 ((clV m p (a.take 250) o).length) c8) (T.pb 30 (decB m p (a.take 250) o) (T.pu 11 (.slice A7 ((clV m p (a.take 250) o).length) c8) (T.pb 12 (decB m p (a.take 250) o) (T.nil (QN.seq (W.seq (W.drawn (Ψ := St w (Hr9 ++ (Hr5 ++ [(b2, Obj.cells o.cs 27 (0, 0)), (b1, Obj.cells p.cs 24 (0, 0))]))) (St w (Hr9 ++ (Hr5 ++ [(b2, Obj.cells o.cs 27 (0, 0)), (b1, Obj.cells p.cs 24 (0, 0))]))) [(0, true), (1, true), (2, false), (3, true), (4, true), (5, true), (6, true), (7, true), (8, true), (9, true), (10, true), (11, true), (12, true), (14, true), (15, true), (16, true), (17, true), (13, false), (18, false), (19, true), (20, true), (21, true), (22, false), (23, true), (24, false)] hmx (by kernel_rfl) (NoPanic.then NoPanic.body) (fun w h => h.drew) (fun w h => h) (T.pu 31 (.slice A3 ((clV m p (a.take 250) o).length) c4) (T.pu 32 (.slice A7 ((clV m p (a.take 250) o).length) c8) (T.cp 33 8 #[.slice A3 ((clV m p (a.take 250) o).length) c4, .slice A7 ((clV m p (a.take 250) o).length) c8] (.bool ((clV m p (a.take 250) o) == (clV m p (a.take 250) o))) ent8 (fun w hw => same13_c (clV m p (a.take 250) o) (clV m p (a.take 250) o) A3 c4 A7 c8 w (by have h9 := clV_len m p (a.take 250) o; omega) (by have h9 := clV_len m p (a.take 250) o; omega) (Arr.rd (show Arr (St _ (Hr9 ++ (Hr5 ++ [(b2, Obj.cells o.cs 27 (0, 0)), (b1, Obj.cells p.cs 24 (0, 0))]))) A3 (clV m p (a.take 250) o) from (Arr.row hp6 rfl rfl (Hr9 ++ [(b2, Obj.cells o.cs 27 (0, 0)), (b1, Obj.cells p.cs 24 (0, 0))])).weak (fun w h => h.perm ((pm0.append_left Hr9).trans (List.perm_append_comm_assoc _ _ _)))) hw) (Arr.rd (Arr.row hp10 rfl rfl _) hw)) (fun w h => h) (T.pb 34 ((clV m p (a.take 250) o) == (clV m p (a.take 250) o)) (T.bk [(4, true), (5, true), (6, true)] [(7, true), (8, true), (9, true), (10, true), (11, true), (12, true), (14, true), (15, true), (16, true), (17, true), (13, false), (18, false), (19, true), (20, true), (21, true), (22, false), (23, true), (24, false)] 3 true ((clV m p (a.take 250) o) == (clV m p (a.take 250) o)) 34 37 (.bool ((decB m p (a.take 250) o) == (decB m p (a.take 250) o))) (fun hg11 => ?_) ?_)))))))))))))
 ·
  have hg11_ := hg11
  refine T.pb 35 (decB m p (a.take 250) o) (T.pb 36 (decB m p (a.take 250) o) (T.pb 37 ((decB m p (a.take 250) o) == (decB m p (a.take 250) o)) ?_))
  exact T.blkEnd (by kernel_rfl) (fun w h => h)
 refine T.an 38 ((clV m p (a.take 250) o) == (clV m p (a.take 250) o)) ((decB m p (a.take 250) o) == (decB m p (a.take 250) o)) (T.pb 39 (((clV m p (a.take 250) o) == (clV m p (a.take 250) o)) && ((decB m p (a.take 250) o) == (decB m p (a.take 250) o))) (T.bk [(9, true), (10, true), (11, true), (12, true), (14, true), (15, true), (16, true), (17, true), (13, false), (18, false), (19, true)] [(20, true), (21, true), (22, false), (23, true), (24, false)] 8 true (((clV m p (a.take 250) o) == (clV m p (a.take 250) o)) && ((decB m p (a.take 250) o) == (decB m p (a.take 250) o))) 39 50 (.bool ((decB m p (a.take 250) o) == (decB m p (a.take 250) o))) (fun hg12 => ?_) ?_))
 ·
  have hg12_ := hg12
  have hg12l := (Bool.and_eq_true_iff.1 hg12).1
  have hg12r := (Bool.and_eq_true_iff.1 hg12).2
  refine T.pi 40 m (T.lr true 41 p.cs 24 b1 0 (fun w h => St.rangeM h p.cs (List.mem_append_right _ (List.mem_append_right _ mm1)) (by kernel_rfl)) (T.pu 42 (.slice A ((a.take 250).length) c) (T.lr true 43 o.cs 27 b2 0 (fun w h => St.rangeM h o.cs (List.mem_append_right _ (List.mem_append_right _ mm0)) (by kernel_rfl)) (T.pi 45 m (T.lr true 46 p.cs 24 b1 0 (fun w h => St.rangeM h p.cs (List.mem_append_right _ (List.mem_append_right _ mm1)) (by kernel_rfl)) (T.pu 47 (.slice A ((a.take 250).length) c) (T.lr true 48 o.cs 27 b2 0 (fun w h => St.rangeM h o.cs (List.mem_append_right _ (List.mem_append_right _ mm0)) (by kernel_rfl)) (T.cp 44 9 #[.int .i64 m, .agg p.cs, .slice A ((a.take 250).length) c, .agg o.cs] (.bool (decB m p (a.take 250) o)) ent9 (fun w hw => check_c m p (a.take 250) o A c w (by assumption) (fun u hu => (hok u (List.mem_of_mem_take hu)).support) (by first | omega | (simp; done) | (simp; omega)) (Arr.rd ((Rd.arr hr _).take _) hw)) (fun w h => h) (T.cp 49 10 #[.int .i64 m, .agg p.cs, .slice A ((a.take 250).length) c, .agg o.cs] (.bool (decB m p (a.take 250) o)) ent10 (fun w hw => rdecided_c m p (a.take 250) o A c w (by assumption) (fun u hu => (hok u (List.mem_of_mem_take hu)).support) (by first | omega | (simp; done) | (simp; omega)) (Arr.rd ((Rd.arr hr _).take _) hw)) (fun w h => h) (T.pb 50 ((decB m p (a.take 250) o) == (decB m p (a.take 250) o)) ?_))))))))))
  exact T.blkEnd (by kernel_rfl) (fun w h => h)
 refine T.an 51 (((clV m p (a.take 250) o) == (clV m p (a.take 250) o)) && ((decB m p (a.take 250) o) == (decB m p (a.take 250) o))) ((decB m p (a.take 250) o) == (decB m p (a.take 250) o)) (T.pb 52 ((((clV m p (a.take 250) o) == (clV m p (a.take 250) o)) && ((decB m p (a.take 250) o) == (decB m p (a.take 250) o))) && ((decB m p (a.take 250) o) == (decB m p (a.take 250) o))) (T.bk [(22, false)] [(23, true), (24, false)] 21 true ((((clV m p (a.take 250) o) == (clV m p (a.take 250) o)) && ((decB m p (a.take 250) o) == (decB m p (a.take 250) o))) && ((decB m p (a.take 250) o) == (decB m p (a.take 250) o))) 52 53 (.bool true) (fun hg13 => ?_) ?_))
 ·
  have hg13_ := hg13
  have hg13l := (Bool.and_eq_true_iff.1 hg13).1
  have hg13r := (Bool.and_eq_true_iff.1 hg13).2
  have hg13ll := (Bool.and_eq_true_iff.1 hg13l).1
  have hg13lr := (Bool.and_eq_true_iff.1 hg13l).2
  refine T.cp 53 11 #[] (.bool true) ent11 (fun w hw => awake13_c w) (fun w h => h) ?_
  exact T.blkEnd (by kernel_rfl) (fun w h => h)
 refine T.an 54 ((((clV m p (a.take 250) o) == (clV m p (a.take 250) o)) && ((decB m p (a.take 250) o) == (decB m p (a.take 250) o))) && ((decB m p (a.take 250) o) == (decB m p (a.take 250) o))) true (T.pb 8 (((((clV m p (a.take 250) o) == (clV m p (a.take 250) o)) && ((decB m p (a.take 250) o) == (decB m p (a.take 250) o))) && ((decB m p (a.take 250) o) == (decB m p (a.take 250) o))) && true) (T.nil (QN.seq (W.ret (QN.done (.inl rfl) 8 (.bool (((((clV m p (a.take 250) o) == (clV m p (a.take 250) o)) && ((decB m p (a.take 250) o) == (decB m p (a.take 250) o))) && ((decB m p (a.take 250) o) == (decB m p (a.take 250) o))) && true)) rfl (by kernel_rfl) (fun w hw => ⟨?_, hw.below⟩))))))
 exact ret_bool (by simp)
theorem CertificateExact_w (w : World) (a0 : Int) (v1 : Value) (x1 : Nm) (v2 : Value) (x2 : List Vt) (v3 : Value) (x3 : Oc) (h0 : W64 a0) (h1 : v1 = .agg x1.cs) (h2 : VS w v2 x2) (h3 : v3 = .agg x3.cs) : Calls Tryz.prog 3 #[.int .i64 a0, v1, v2, v3] w fun e w' => e = .returned (.bool true) ∧ Below w.heap.size w w' := by
  obtain rfl := h1
  obtain ⟨A2, c2, rfl, l2, m2, r2, k2⟩ := h2
  obtain rfl := h3
  exact CertificateExact_c _ _ _ _ _ _ w h0 k2 l2 m2 r2.rd
end Go.Proofs.YtphnfhonmbbddaaGreat
