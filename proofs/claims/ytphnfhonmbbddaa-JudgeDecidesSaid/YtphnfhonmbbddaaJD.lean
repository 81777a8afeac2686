/- Law 14: JudgeDecides, walked. -/
import Derived.Test.YtphnfhonmbbddaaJ14
import Derived.Test.YtphnfhonmbbddaaR14b
import Derived.Test.YtphnfhonmbbddaaOpenT
namespace Go.Proofs.Ytphnfhonmbbddaa
open Go Go.RowKit
set_option linter.unusedVariables false

set_option maxRecDepth 100000 in
set_option maxHeartbeats 2000000 in
theorem tbl14_c (t : Tb) (w : World) (ht : TbRd w t) (htl : TbLen t) : Calls Try.prog 15 #[.agg t.cs] w (fun rr w' => rr = .returned (.agg t.cs) ∧ Below w.heap.size w w') := by
 refine calls_W (n := 8) Try.func15 rfl [(0, .agg t.cs)] rfl ⟨by kernel_rfl, by kernel_rfl⟩ (W.weak (Ψ := St w []) (fun w' h => by rw [h]; exact St.start w) (W.seq (W.rg od2 (T.bx 1 24 (.agg t.cs) (t.cs) tv3 (fun b1 => T.al 2 28 Tb.zero.cs tv3 (fun b2 => T.nil (QN.seq (W.seq (W.rg od6 (T.pu 3 (.pointer (some ⟨b1, 0, none⟩)) (T.ld false 4 (.slice t.A1 t.pre.length t.c1) 22 b1 0 (fun w h => St.cellM h mm1 (by kernel_rfl)) (T.pu 5 (.pointer (some ⟨b1, 1, none⟩)) (T.ld false 6 (.slice t.A2 t.com.length t.c2) 22 b1 1 (fun w h => St.cellM h mm1 (by kernel_rfl)) (T.pu 7 (.agg t.cs) (T.sp 28 b2 0 (.agg t.cs) Tb.zero.cs t.cs 28 pm0 tv2 (T.nil (QN.seq (W.ret (QN.doneC (.inl rfl) 2 28 b2 t.cs _ rfl (by kernel_rfl) Try.underlying28 (by kernel_rfl) (by kernel_rfl) (fun w hw => St.rangeM hw t.cs mm0 (by kernel_rfl)) (fun w hw => ⟨?_, hw.below⟩))))))))))))))))))))
 exact rfl
set_option maxRecDepth 100000 in
set_option maxHeartbeats 2000000 in
theorem JudgeDecides_c (t : Tb) (w : World) (ht : TbRd w t) (htl : TbLen t) : Calls Try.prog 3 #[.agg t.cs] w (fun rr w' => rr = .returned (.bool true) ∧ Below w.heap.size w w') := by
 obtain ⟨vv, hvv⟩ : ∃ b : Bool, b = validV t.P t.C := ⟨_, rfl⟩
 obtain ⟨d1, hd1⟩ : ∃ b : Bool, b = (decV t.P t.C).1 := ⟨_, rfl⟩
 obtain ⟨d2, hd2⟩ : ∃ b : Bool, b = (decV t.P t.C).2 := ⟨_, rfl⟩
 obtain ⟨cc, hcc⟩ : ∃ z : Int, z = confV t.P t.C := ⟨_, rfl⟩
 refine calls_W (n := 45) Try.func3 rfl [(0, .agg t.cs)] rfl ⟨by kernel_rfl, by kernel_rfl⟩ (W.weak (Ψ := St w []) (fun w' h => by rw [h]; exact St.start w) (W.seq (W.rg od2 (T.bx 1 24 (.agg t.cs) (t.cs) tv3 (fun b1 => T.pb 2 false (T.nil (QN.seq (W.seq (W.rg od7 (T.lr false 8 t.cs 24 b1 0 (fun w h => St.rangeM h t.cs mm0 (by kernel_rfl)) (T.cp 9 13 #[.agg t.cs] (.tuple #[.bool d1, .bool d2]) ent13 (fun w hw => (by rw [hd1, hd2]; exact jdec_c t w (ht.below hw.below) htl)) tv2 (T.pu 7 (.tuple #[.bool d1, .bool d2]) (T.pb 10 d1 (T.pb 11 d2 (T.pb 3 d1 (T.pb 4 d2 (T.nil (QN.seq (W.seq (W.rg od8 (T.lr false 13 t.cs 24 b1 0 (fun w h => St.rangeM h t.cs mm0 (by kernel_rfl)) (T.cp 14 15 #[.agg t.cs] (.agg t.cs) ent15 (fun w hw => tbl14_c t w (ht.below hw.below) htl) tv2 (T.cp 15 14 #[.agg t.cs] (.tuple #[.bool d1, .bool d2]) ent14 (fun w hw => (by rw [hd1, hd2]; exact rdec14_c t w (ht.below hw.below) htl)) tv2 (T.pu 12 (.tuple #[.bool d1, .bool d2]) (T.pb 16 d1 (T.pb 17 d2 (T.pb 5 d1 (T.pb 6 d2 (T.nil (QN.seq (W.seq (W.drawn (Ψ := St w [(b1, Obj.cells t.cs 24 (0, 0))]) (St w [(b1, Obj.cells t.cs 24 (0, 0))]) [(0, true), (2, true), (1, false), (3, false), (4, false), (5, true), (6, true), (7, true), (8, true), (9, true), (10, true), (11, true), (12, true), (13, true), (14, true), (15, true), (16, true), (17, true), (19, true), (18, false), (20, false), (21, false), (22, true), (23, true), (24, true), (25, false), (26, true), (27, false)] hmx (by kernel_rfl) (NoPanic.then NoPanic.body) (fun w h => h.drew) (fun w h => h) (T.lr true 18 t.cs 24 b1 0 (fun w h => St.rangeM h t.cs mm0 (by kernel_rfl)) (T.lr true 20 t.cs 24 b1 0 (fun w h => St.rangeM h t.cs mm0 (by kernel_rfl)) (T.cp 19 16 #[.agg t.cs] (.bool vv) ent16 (fun w hw => (by rw [hvv]; exact jvalid_c t w (ht.below hw.below) htl)) (fun w h => h) (T.cp 21 15 #[.agg t.cs] (.agg t.cs) ent15 (fun w hw => tbl14_c t w (ht.below hw.below) htl) (fun w h => h) (T.cp 22 17 #[.agg t.cs] (.bool vv) ent17 (fun w hw => (by rw [hvv]; exact rvalid14_c t w (ht.below hw.below) htl)) (fun w h => h) (T.pb 23 (vv == vv) (T.pb 24 (vv == vv) (T.bk [(7, true), (8, true), (9, true)] [(10, true), (11, true), (12, true), (13, true), (14, true), (15, true), (16, true), (17, true), (19, true), (18, false), (20, false), (21, false), (22, true), (23, true), (24, true), (25, false), (26, true), (27, false)] 6 true (vv == vv) 24 27 (.bool (d1 == d1)) (fun hg2 => ?_) ?_))))))))))))))))))))))))))))))))))))))))
 ·
  have hg2_ := hg2
  refine T.pb 25 d1 (T.pb 26 d1 (T.pb 27 (d1 == d1) ?_))
  exact T.blkEnd (by kernel_rfl) (fun w h => h)
 refine T.an 28 (vv == vv) (d1 == d1) (T.pb 29 ((vv == vv) && (d1 == d1)) (T.bk [(12, true), (13, true), (14, true)] [(15, true), (16, true), (17, true), (19, true), (18, false), (20, false), (21, false), (22, true), (23, true), (24, true), (25, false), (26, true), (27, false)] 11 true ((vv == vv) && (d1 == d1)) 29 32 (.bool (d2 == d2)) (fun hg3 => ?_) ?_))
 ·
  have hg3_ := hg3
  have hg3l := (Bool.and_eq_true_iff.1 hg3).1
  have hg3r := (Bool.and_eq_true_iff.1 hg3).2
  refine T.pb 30 d2 (T.pb 31 d2 (T.pb 32 (d2 == d2) ?_))
  exact T.blkEnd (by kernel_rfl) (fun w h => h)
 refine T.an 33 ((vv == vv) && (d1 == d1)) (d2 == d2) (T.pb 34 (((vv == vv) && (d1 == d1)) && (d2 == d2)) (T.bk [(17, true), (19, true), (18, false), (20, false), (21, false), (22, true)] [(23, true), (24, true), (25, false), (26, true), (27, false)] 16 true (((vv == vv) && (d1 == d1)) && (d2 == d2)) 34 40 (.bool (cc == cc)) (fun hg4 => ?_) ?_))
 ·
  have hg4_ := hg4
  have hg4l := (Bool.and_eq_true_iff.1 hg4).1
  have hg4r := (Bool.and_eq_true_iff.1 hg4).2
  have hg4ll := (Bool.and_eq_true_iff.1 hg4l).1
  have hg4lr := (Bool.and_eq_true_iff.1 hg4l).2
  refine T.lr true 35 t.cs 24 b1 0 (fun w h => St.rangeM h t.cs mm0 (by kernel_rfl)) (T.lr true 37 t.cs 24 b1 0 (fun w h => St.rangeM h t.cs mm0 (by kernel_rfl)) (T.cp 36 18 #[.agg t.cs] (.int .i64 cc) ent18 (fun w hw => (by rw [hcc]; exact jconf_c t w (ht.below hw.below) htl)) (fun w h => h) (T.cp 38 15 #[.agg t.cs] (.agg t.cs) ent15 (fun w hw => tbl14_c t w (ht.below hw.below) htl) (fun w h => h) (T.cp 39 19 #[.agg t.cs] (.int .i64 cc) ent19 (fun w hw => (by rw [hcc]; exact rconf14_c t w (ht.below hw.below) htl)) (fun w h => h) (T.pb 40 (cc == cc) ?_)))))
  exact T.blkEnd (by kernel_rfl) (fun w h => h)
 refine T.an 41 (((vv == vv) && (d1 == d1)) && (d2 == d2)) (cc == cc) (T.pb 42 ((((vv == vv) && (d1 == d1)) && (d2 == d2)) && (cc == cc)) (T.bk [(25, false)] [(26, true), (27, false)] 24 true ((((vv == vv) && (d1 == d1)) && (d2 == d2)) && (cc == cc)) 42 43 (.bool true) (fun hg5 => ?_) ?_))
 ·
  have hg5_ := hg5
  have hg5l := (Bool.and_eq_true_iff.1 hg5).1
  have hg5r := (Bool.and_eq_true_iff.1 hg5).2
  have hg5ll := (Bool.and_eq_true_iff.1 hg5l).1
  have hg5lr := (Bool.and_eq_true_iff.1 hg5l).2
  have hg5lll := (Bool.and_eq_true_iff.1 hg5ll).1
  have hg5llr := (Bool.and_eq_true_iff.1 hg5ll).2
  refine T.cp 43 20 #[] (.bool true) ent20 (fun w hw => awake14_c w) (fun w h => h) ?_
  exact T.blkEnd (by kernel_rfl) (fun w h => h)
 refine T.an 44 ((((vv == vv) && (d1 == d1)) && (d2 == d2)) && (cc == cc)) true (T.pb 2 (((((vv == vv) && (d1 == d1)) && (d2 == d2)) && (cc == cc)) && true) (T.nil (QN.seq (W.ret (QN.done (.inl rfl) 2 (.bool (((((vv == vv) && (d1 == d1)) && (d2 == d2)) && (cc == cc)) && true)) rfl (by kernel_rfl) (fun w hw => ⟨?_, hw.below⟩))))))
 exact ret_bool (by simp)
theorem JudgeDecides_w (w : World) (v0 : Value) (x0 : Tb) (h0 : v0 = .agg x0.cs ∧ TbRd w x0 ∧ TbLen x0) : Calls Try.prog 3 #[v0] w fun e w' => e = .returned (.bool true) ∧ Below w.heap.size w w' := by
  obtain ⟨rfl, r0, l0⟩ := h0
  exact JudgeDecides_c x0 w r0 l0
end Go.Proofs.Ytphnfhonmbbddaa
