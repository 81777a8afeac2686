/- The reference: Valid, like, counts. -/
import Derived.Test.YtphnfhonmbbddaaGreatGE
namespace Go.Proofs.YtphnfhonmbbddaaGreat
open Go Go.RowKit
set_option linter.unusedVariables false

set_option maxRecDepth 100000 in
set_option maxHeartbeats 2000000 in
theorem rlike_c (a b : Vt) (w : World) : Calls Tryz.prog 104 #[.agg a.cs, .agg b.cs] w (fun r w' => r = .returned (.bool (sameB a b)) ∧ Below w.heap.size w w') := by
 refine calls_W (n := 17) Tryz.func104 rfl [(0, .agg a.cs), (1, .agg b.cs)] rfl ⟨by kernel_rfl, by kernel_rfl⟩ (W.weak (Ψ := St w []) (fun w' h => by rw [h]; exact St.start w) (W.seq (W.rg od3 (T.bx 2 43 (.agg a.cs) (a.cs) tv3 (fun b1 => T.bx 3 43 (.agg b.cs) (b.cs) tv3 (fun b2 => T.pb 4 false (T.nil (QN.seq (W.seq (W.rg od13 (T.pu 5 (.pointer (some ⟨b1, 3, none⟩)) (T.ld false 6 (.int .i64 a.choice) 3 b1 3 (fun w h => St.cellM h mm1 (by kernel_rfl)) (T.pu 7 (.pointer (some ⟨b2, 3, none⟩)) (T.ld false 8 (.int .i64 b.choice) 3 b2 3 (fun w h => St.cellM h mm0 (by kernel_rfl)) (T.pb 9 (a.choice == b.choice) (T.pb 10 (a.choice == b.choice) (T.bk [(6, false), (7, false), (8, false), (9, false), (10, false)] [(11, false), (12, false)] 5 true (a.choice == b.choice) 10 15 (.bool (a.val == b.val)) (fun hg3 => ?_) ?_)))))))))))))))))
 ·
  have hg3_ := hg3
  refine T.pu 11 (.pointer (some ⟨b1, 14, none⟩)) (T.lr false 12 a.val.cs 24 b1 14 (fun w h => St.rangeM h a.val.cs mm1 (by kernel_rfl)) (T.pu 13 (.pointer (some ⟨b2, 14, none⟩)) (T.lr false 14 b.val.cs 24 b2 14 (fun w h => St.rangeM h b.val.cs mm0 (by kernel_rfl)) (T.eqq 15 (a.val == b.val) (a.val == b.val) false 24 a.val.cs b.val.cs (by kernel_rfl) (by kernel_rfl) (by kernel_rfl) (by kernel_rfl) (fun w => eq_nm w a.val b.val) ?_))))
  exact T.blkEnd (by kernel_rfl) (fun w h => h)
 refine T.an 16 (a.choice == b.choice) (a.val == b.val) (T.pb 4 ((a.choice == b.choice) && (a.val == b.val)) (T.nil (QN.seq (W.ret (QN.done (.inl rfl) 4 (.bool ((a.choice == b.choice) && (a.val == b.val))) rfl (by kernel_rfl) (fun w hw => ⟨?_, hw.below⟩))))))
 exact rfl
def agreeD (k : Int) : Bool := (decide (1 ≤ k)) && (decide (k ≤ 4))
set_option maxRecDepth 100000 in
set_option maxHeartbeats 2000000 in
theorem ragree_c (k : Int)  (w : World) : Calls Tryz.prog 124 #[.int .i64 k] w (fun rr w' => rr = .returned (.bool (agreeD k)) ∧ Below w.heap.size w w') := by
 refine calls_W (n := 9) Tryz.func124 rfl [(0, .int .i64 k)] rfl ⟨by kernel_rfl, by kernel_rfl⟩ (W.weak (Ψ := St w []) (fun w' h => by rw [h]; exact St.start w) (W.seq (W.rg od1 (T.pb 2 false (T.nil (QN.seq (W.seq (W.rg od7 (T.pi 3 k (T.pb 4 (decide (1 ≤ k)) (T.pb 5 (decide (1 ≤ k)) (T.bk [(3, false), (4, false)] [(5, false), (6, false)] 2 true (decide (1 ≤ k)) 5 7 (.bool (decide (k ≤ 4))) (fun hg1 => ?_) ?_))))))))))))
 ·
  have hg1_ := hg1
  have hg1' := of_decide_eq_true hg1
  refine T.pi 6 k (T.pb 7 (decide (k ≤ 4)) ?_)
  exact T.blkEnd (by kernel_rfl) (fun w h => h)
 refine T.an 8 (decide (1 ≤ k)) (decide (k ≤ 4)) (T.pb 2 ((decide (1 ≤ k)) && (decide (k ≤ 4))) (T.nil (QN.seq (W.ret (QN.done (.inl rfl) 2 (.bool ((decide (1 ≤ k)) && (decide (k ≤ 4)))) rfl (by kernel_rfl) (fun w hw => ⟨?_, hw.below⟩))))))
 exact congrArg (fun b => Ending.returned (.bool b)) (by simp only [agreeD])
def rvalidD (v : Vt) : Bool := bif (((((decide (v.kind < 1)) || (decide (7 < v.kind))) || (decide (v.signer < 0))) || (decide (10 ≤ v.signer))) || ((bits .andNot .i64 v.support 1023) != 0)) then false else (bif (((agreeD v.kind) && ((decide (v.slot < 0)) || (decide (10 ≤ v.slot)))) || ((!(agreeD v.kind)) && (v.slot != 0))) then false else (bif ((v.val == Nm.zero) == (v.choice == 1)) then false else (bif (v.kind == 3) then ((((decide (1 ≤ v.round)) && (decide (v.round ≤ 12))) && ((v.choice == 0) || (v.choice == 1))) && (((v.round != 1) || (v.choice != 0)) || (v.support == 0))) else (bif (v.kind == 4) then ((((decide (1 ≤ v.round)) && (decide (v.round ≤ 12))) && (decide (0 ≤ v.choice))) && (decide (v.choice ≤ 2))) else (((v.round == 0) && (v.choice == 1)) && (v.support == 0))))))
set_option maxRecDepth 100000 in
set_option maxHeartbeats 2000000 in
theorem rvalidD_c (v : Vt)  (w : World) : Calls Tryz.prog 99 #[.agg v.cs] w (fun rr w' => rr = .returned (.bool (rvalidD v)) ∧ Below w.heap.size w w') := by
 refine calls_W (n := 129) Tryz.func99 rfl [(0, .agg v.cs)] rfl ⟨by kernel_rfl, by kernel_rfl⟩ (W.weak (Ψ := St w []) (fun w' h => by rw [h]; exact St.start w) (W.seq (W.rg od2 (T.bx 1 43 (.agg v.cs) (v.cs) tv3 (fun b1 => T.pb 2 false (T.nil (QN.seq (W.seq (W.seq (W.rg od24 (T.pu 3 (.pointer (some ⟨b1, 0, none⟩)) (T.ld false 4 (.int .i64 v.kind) 3 b1 0 (fun w h => St.cellM h mm0 (by kernel_rfl)) (T.pb 5 (decide (v.kind < 1)) (T.pb 6 (decide (v.kind < 1)) (T.bk [(4, false), (5, false), (6, false)] [(7, false), (8, false), (9, false), (10, false), (11, false), (12, false), (13, false), (14, false), (15, false), (16, false), (17, false), (18, false), (19, false), (20, false), (21, false), (22, false), (23, false)] 3 false (decide (v.kind < 1)) 6 9 (.bool (decide (7 < v.kind))) (fun hg2 => ?_) ?_)))))))))))))))
 ·
  have hg2_ := hg2
  have hg2' := of_decide_eq_false hg2
  refine T.pu 7 (.pointer (some ⟨b1, 0, none⟩)) (T.ld false 8 (.int .i64 v.kind) 3 b1 0 (fun w h => St.cellM h mm0 (by kernel_rfl)) (T.pb 9 (decide (7 < v.kind)) ?_))
  exact T.blkEnd (by kernel_rfl) (fun w h => h)
 refine T.oo 10 (decide (v.kind < 1)) (decide (7 < v.kind)) (T.pb 11 ((decide (v.kind < 1)) || (decide (7 < v.kind))) (T.bk [(9, false), (10, false), (11, false)] [(12, false), (13, false), (14, false), (15, false), (16, false), (17, false), (18, false), (19, false), (20, false), (21, false), (22, false), (23, false)] 8 false ((decide (v.kind < 1)) || (decide (7 < v.kind))) 11 14 (.bool (decide (v.signer < 0))) (fun hg3 => ?_) ?_))
 ·
  have hg3_ := hg3
  have hg3l := (Bool.or_eq_false_iff.1 hg3).1
  have hg3r := (Bool.or_eq_false_iff.1 hg3).2
  have hg3l' := of_decide_eq_false hg3l
  have hg3r' := of_decide_eq_false hg3r
  refine T.pu 12 (.pointer (some ⟨b1, 4, none⟩)) (T.ld false 13 (.int .i64 v.signer) 3 b1 4 (fun w h => St.cellM h mm0 (by kernel_rfl)) (T.pb 14 (decide (v.signer < 0)) ?_))
  exact T.blkEnd (by kernel_rfl) (fun w h => h)
 refine T.oo 15 ((decide (v.kind < 1)) || (decide (7 < v.kind))) (decide (v.signer < 0)) (T.pb 16 (((decide (v.kind < 1)) || (decide (7 < v.kind))) || (decide (v.signer < 0))) (T.bk [(14, false), (15, false), (16, false)] [(17, false), (18, false), (19, false), (20, false), (21, false), (22, false), (23, false)] 13 false (((decide (v.kind < 1)) || (decide (7 < v.kind))) || (decide (v.signer < 0))) 16 19 (.bool (decide (10 ≤ v.signer))) (fun hg4 => ?_) ?_))
 ·
  have hg4_ := hg4
  have hg4l := (Bool.or_eq_false_iff.1 hg4).1
  have hg4r := (Bool.or_eq_false_iff.1 hg4).2
  have hg4ll := (Bool.or_eq_false_iff.1 hg4l).1
  have hg4lr := (Bool.or_eq_false_iff.1 hg4l).2
  have hg4ll' := of_decide_eq_false hg4ll
  have hg4lr' := of_decide_eq_false hg4lr
  have hg4r' := of_decide_eq_false hg4r
  refine T.pu 17 (.pointer (some ⟨b1, 4, none⟩)) (T.ld false 18 (.int .i64 v.signer) 3 b1 4 (fun w h => St.cellM h mm0 (by kernel_rfl)) (T.pb 19 (decide (10 ≤ v.signer)) ?_))
  exact T.blkEnd (by kernel_rfl) (fun w h => h)
 refine T.oo 20 (((decide (v.kind < 1)) || (decide (7 < v.kind))) || (decide (v.signer < 0))) (decide (10 ≤ v.signer)) (T.pb 21 ((((decide (v.kind < 1)) || (decide (7 < v.kind))) || (decide (v.signer < 0))) || (decide (10 ≤ v.signer))) (T.bk [(19, false), (20, false), (21, false), (22, false)] [(23, false)] 18 false ((((decide (v.kind < 1)) || (decide (7 < v.kind))) || (decide (v.signer < 0))) || (decide (10 ≤ v.signer))) 21 25 (.bool ((bits .andNot .i64 v.support 1023) != 0)) (fun hg5 => ?_) ?_))
 ·
  have hg5_ := hg5
  have hg5l := (Bool.or_eq_false_iff.1 hg5).1
  have hg5r := (Bool.or_eq_false_iff.1 hg5).2
  have hg5ll := (Bool.or_eq_false_iff.1 hg5l).1
  have hg5lr := (Bool.or_eq_false_iff.1 hg5l).2
  have hg5lll := (Bool.or_eq_false_iff.1 hg5ll).1
  have hg5llr := (Bool.or_eq_false_iff.1 hg5ll).2
  have hg5lll' := of_decide_eq_false hg5lll
  have hg5llr' := of_decide_eq_false hg5llr
  have hg5lr' := of_decide_eq_false hg5lr
  have hg5r' := of_decide_eq_false hg5r
  refine T.pu 22 (.pointer (some ⟨b1, 5, none⟩)) (T.ld false 23 (.int .i64 v.support) 22 b1 5 (fun w h => St.cellM h mm0 (by kernel_rfl)) (T.pi 24 (bits .andNot .i64 v.support 1023) (T.pb 25 ((bits .andNot .i64 v.support 1023) != 0) ?_)))
  exact T.blkEnd (by kernel_rfl) (fun w h => h)
 refine T.oo 26 ((((decide (v.kind < 1)) || (decide (7 < v.kind))) || (decide (v.signer < 0))) || (decide (10 ≤ v.signer))) ((bits .andNot .i64 v.support 1023) != 0) (T.nil (QN.seq (W.cd (((((decide (v.kind < 1)) || (decide (7 < v.kind))) || (decide (v.signer < 0))) || (decide (10 ≤ v.signer))) || ((bits .andNot .i64 v.support 1023) != 0)) (fun h6 => ?_) (fun h6 => ?_))))
 ·
  refine W.seq (W.rg od1 (T.pb 2 false (T.nil (QN.seq (W.ret (QN.thenRet (QN.done (.inl rfl) 2 (.bool false) rfl (by kernel_rfl) (fun w hw => ⟨?_, hw.below⟩))))))))
  exact congrArg (fun b => Ending.returned (.bool b)) (by simp only [rvalidD, h6, cond_true])
 ·
  have h6l := (Bool.or_eq_false_iff.1 h6).1
  have h6r := (Bool.or_eq_false_iff.1 h6).2
  have h6ll := (Bool.or_eq_false_iff.1 h6l).1
  have h6lr := (Bool.or_eq_false_iff.1 h6l).2
  have h6lll := (Bool.or_eq_false_iff.1 h6ll).1
  have h6llr := (Bool.or_eq_false_iff.1 h6ll).2
  have h6llll := (Bool.or_eq_false_iff.1 h6lll).1
  have h6lllr := (Bool.or_eq_false_iff.1 h6lll).2
  have h6llll' := of_decide_eq_false h6llll
  have h6lllr' := of_decide_eq_false h6lllr
  have h6llr' := of_decide_eq_false h6llr
  have h6lr' := of_decide_eq_false h6lr
  refine W.skip (QN.seq (W.seq (W.seq (W.rg od24 (T.pu 27 (.pointer (some ⟨b1, 0, none⟩)) (T.ld false 28 (.int .i64 v.kind) 3 b1 0 (fun w h => St.cellM h mm0 (by kernel_rfl)) (T.cp 29 124 #[.int .i64 v.kind] (.bool (agreeD v.kind)) ent124 (fun w hw => ragree_c _ w) tv2 (T.pb 30 (agreeD v.kind) (T.bk [(4, false), (5, false), (6, false), (7, false), (8, false), (9, false), (10, false), (11, false)] [(12, false), (13, false), (14, false), (15, false), (16, false), (17, false), (18, false), (19, false), (20, false), (21, false), (22, false), (23, false)] 3 true (agreeD v.kind) 30 38 (.bool ((decide (v.slot < 0)) || (decide (10 ≤ v.slot)))) (fun hg7 => ?_) ?_)))))))))
  ·
   have hg7_ := hg7
   refine T.pu 31 (.pointer (some ⟨b1, 1, none⟩)) (T.ld false 32 (.int .i64 v.slot) 3 b1 1 (fun w h => St.cellM h mm0 (by kernel_rfl)) (T.pb 33 (decide (v.slot < 0)) (T.pb 34 (decide (v.slot < 0)) (T.bk [(8, false), (9, false), (10, false)] [(11, false)] 7 false (decide (v.slot < 0)) 34 37 (.bool (decide (10 ≤ v.slot))) (fun hg8 => ?_) ?_))))
   ·
    have hg8_ := hg8
    have hg8' := of_decide_eq_false hg8
    refine T.pu 35 (.pointer (some ⟨b1, 1, none⟩)) (T.ld false 36 (.int .i64 v.slot) 3 b1 1 (fun w h => St.cellM h mm0 (by kernel_rfl)) (T.pb 37 (decide (10 ≤ v.slot)) ?_))
    exact T.blkEnd (by kernel_rfl) (fun w h => h)
   refine T.oo 38 (decide (v.slot < 0)) (decide (10 ≤ v.slot)) ?_
   exact T.blkEnd (by kernel_rfl) (fun w h => h)
  refine T.an 39 (agreeD v.kind) ((decide (v.slot < 0)) || (decide (10 ≤ v.slot))) (T.pb 40 ((agreeD v.kind) && ((decide (v.slot < 0)) || (decide (10 ≤ v.slot)))) (T.bk [(14, false), (15, false), (16, false), (17, false), (18, false), (19, false), (20, false), (21, false), (22, false)] [(23, false)] 13 false ((agreeD v.kind) && ((decide (v.slot < 0)) || (decide (10 ≤ v.slot)))) 40 49 (.bool ((!(agreeD v.kind)) && (v.slot != 0))) (fun hg9 => ?_) ?_))
  ·
   have hg9_ := hg9
   refine T.pu 41 (.pointer (some ⟨b1, 0, none⟩)) (T.ld false 42 (.int .i64 v.kind) 3 b1 0 (fun w h => St.cellM h mm0 (by kernel_rfl)) (T.cp 43 124 #[.int .i64 v.kind] (.bool (agreeD v.kind)) ent124 (fun w hw => ragree_c _ w) tv2 (T.pb 44 (!(agreeD v.kind)) (T.pb 45 (!(agreeD v.kind)) (T.bk [(19, false), (20, false), (21, false)] [(22, false)] 18 true (!(agreeD v.kind)) 45 48 (.bool (v.slot != 0)) (fun hg10 => ?_) ?_)))))
   ·
    have hg10_ := hg10
    have hg10n := not_eq_true hg10
    refine T.pu 46 (.pointer (some ⟨b1, 1, none⟩)) (T.ld false 47 (.int .i64 v.slot) 3 b1 1 (fun w h => St.cellM h mm0 (by kernel_rfl)) (T.pb 48 (v.slot != 0) ?_))
    exact T.blkEnd (by kernel_rfl) (fun w h => h)
   refine T.an 49 (!(agreeD v.kind)) (v.slot != 0) ?_
   exact T.blkEnd (by kernel_rfl) (fun w h => h)
  refine T.oo 50 ((agreeD v.kind) && ((decide (v.slot < 0)) || (decide (10 ≤ v.slot)))) ((!(agreeD v.kind)) && (v.slot != 0)) (T.nil (QN.seq (W.cd (((agreeD v.kind) && ((decide (v.slot < 0)) || (decide (10 ≤ v.slot)))) || ((!(agreeD v.kind)) && (v.slot != 0))) (fun h11 => ?_) (fun h11 => ?_))))
  ·
   refine W.seq (W.rg od1 (T.pb 2 false (T.nil (QN.seq (W.ret (QN.thenRet (QN.done (.inl rfl) 2 (.bool false) rfl (by kernel_rfl) (fun w hw => ⟨?_, hw.below⟩))))))))
   exact congrArg (fun b => Ending.returned (.bool b)) (by simp only [rvalidD, h6, h11, cond_true, cond_false])
  ·
   have h11l := (Bool.or_eq_false_iff.1 h11).1
   have h11r := (Bool.or_eq_false_iff.1 h11).2
   refine W.skip (QN.seq (W.seq (W.seq (W.drawn (Ψ := St w [(b1, Obj.cells v.cs 43 (0, 0))]) (St w [(b1, Obj.cells v.cs 43 (0, 0))]) [(0, true), (1, true), (2, true), (3, true), (4, true), (5, true), (6, true), (7, true)] hmx (by kernel_rfl) (NoPanic.then (NoPanic.then NoPanic.body)) (fun w h => h.drew) (fun w h => h) (T.pu 51 (.pointer (some ⟨b1, 14, none⟩)) (T.lr true 52 v.val.cs 24 b1 14 (fun w h => St.rangeM h v.val.cs mm0 (by kernel_rfl)) (T.pu 53 (.agg Nm.zero.cs) (T.eqq 54 (v.val == Nm.zero) (v.val == Nm.zero) false 24 v.val.cs Nm.zero.cs (by kernel_rfl) (by kernel_rfl) (by kernel_rfl) (by kernel_rfl) (fun w => eq_nm w v.val Nm.zero) (T.pu 55 (.pointer (some ⟨b1, 3, none⟩)) (T.ld true 56 (.int .i64 v.choice) 3 b1 3 (fun w h => St.cellM h mm0 (by kernel_rfl)) (T.pb 57 (v.choice == 1) (T.pb 58 ((v.val == Nm.zero) == (v.choice == 1)) (T.nil (QN.seq (W.cd ((v.val == Nm.zero) == (v.choice == 1)) (fun h12 => ?_) (fun h12 => ?_))))))))))))))))
   ·
    refine W.seq (W.rg od1 (T.pb 2 false (T.nil (QN.seq (W.ret (QN.thenRet (QN.done (.inl rfl) 2 (.bool false) rfl (by kernel_rfl) (fun w hw => ⟨?_, hw.below⟩))))))))
    exact congrArg (fun b => Ending.returned (.bool b)) (by simp only [rvalidD, h6, h11, h12, cond_true, cond_false])
   ·
    refine W.skip (QN.seq (W.seq (W.seq (W.rg od2 (T.pu 59 (.pointer (some ⟨b1, 0, none⟩)) (T.ld false 60 (.int .i64 v.kind) 3 b1 0 (fun w h => St.cellM h mm0 (by kernel_rfl)) (T.nil (QN.seq (W.block (W.seq (W.rg od2 (T.pb 62 (v.kind == 3) (T.pb 61 (v.kind == 3) (T.nil (QN.seq (W.cd (v.kind == 3) (fun h13 => ?_) (fun h13 => ?_)))))))))))))))))
    ·
     refine W.seq (W.rg [(0, false), (1, false), (2, false), (3, false), (4, false), (5, false), (6, false), (7, false), (8, false), (9, false), (10, false), (11, false), (12, false), (13, false), (14, false), (15, false), (16, false), (17, false), (18, false), (19, false), (20, false), (21, false), (22, false), (23, false), (24, false), (25, false), (26, false), (27, false), (28, false), (29, false), (30, false), (31, false), (32, false), (33, false)] (T.pu 63 (.pointer (some ⟨b1, 2, none⟩)) (T.ld false 64 (.int .i64 v.round) 3 b1 2 (fun w h => St.cellM h mm0 (by kernel_rfl)) (T.pb 65 (decide (1 ≤ v.round)) (T.pb 66 (decide (1 ≤ v.round)) (T.bk [(4, false), (5, false), (6, false)] [(7, false), (8, false), (9, false), (10, false), (11, false), (12, false), (13, false), (14, false), (15, false), (16, false), (17, false), (18, false), (19, false), (20, false), (21, false), (22, false), (23, false), (24, false), (25, false), (26, false), (27, false), (28, false), (29, false), (30, false), (31, false), (32, false), (33, false)] 3 true (decide (1 ≤ v.round)) 66 69 (.bool (decide (v.round ≤ 12))) (fun hg14 => ?_) ?_))))))
     ·
      have hg14_ := hg14
      have hg14' := of_decide_eq_true hg14
      refine T.pu 67 (.pointer (some ⟨b1, 2, none⟩)) (T.ld false 68 (.int .i64 v.round) 3 b1 2 (fun w h => St.cellM h mm0 (by kernel_rfl)) (T.pb 69 (decide (v.round ≤ 12)) ?_))
      exact T.blkEnd (by kernel_rfl) (fun w h => h)
     refine T.an 70 (decide (1 ≤ v.round)) (decide (v.round ≤ 12)) (T.pb 71 ((decide (1 ≤ v.round)) && (decide (v.round ≤ 12))) (T.bk [(9, false), (10, false), (11, false), (12, false), (13, false), (14, false), (15, false), (16, false)] [(17, false), (18, false), (19, false), (20, false), (21, false), (22, false), (23, false), (24, false), (25, false), (26, false), (27, false), (28, false), (29, false), (30, false), (31, false), (32, false), (33, false)] 8 true ((decide (1 ≤ v.round)) && (decide (v.round ≤ 12))) 71 79 (.bool ((v.choice == 0) || (v.choice == 1))) (fun hg15 => ?_) ?_))
     ·
      have hg15_ := hg15
      have hg15l := (Bool.and_eq_true_iff.1 hg15).1
      have hg15r := (Bool.and_eq_true_iff.1 hg15).2
      have hg15l' := of_decide_eq_true hg15l
      have hg15r' := of_decide_eq_true hg15r
      refine T.pu 72 (.pointer (some ⟨b1, 3, none⟩)) (T.ld false 73 (.int .i64 v.choice) 3 b1 3 (fun w h => St.cellM h mm0 (by kernel_rfl)) (T.pb 74 (v.choice == 0) (T.pb 75 (v.choice == 0) (T.bk [(13, false), (14, false), (15, false)] [(16, false)] 12 false (v.choice == 0) 75 78 (.bool (v.choice == 1)) (fun hg16 => ?_) ?_))))
      ·
       have hg16_ := hg16
       refine T.pu 76 (.pointer (some ⟨b1, 3, none⟩)) (T.ld false 77 (.int .i64 v.choice) 3 b1 3 (fun w h => St.cellM h mm0 (by kernel_rfl)) (T.pb 78 (v.choice == 1) ?_))
       exact T.blkEnd (by kernel_rfl) (fun w h => h)
      refine T.oo 79 (v.choice == 0) (v.choice == 1) ?_
      exact T.blkEnd (by kernel_rfl) (fun w h => h)
     refine T.an 80 ((decide (1 ≤ v.round)) && (decide (v.round ≤ 12))) ((v.choice == 0) || (v.choice == 1)) (T.pb 81 (((decide (1 ≤ v.round)) && (decide (v.round ≤ 12))) && ((v.choice == 0) || (v.choice == 1))) (T.bk [(19, false), (20, false), (21, false), (22, false), (23, false), (24, false), (25, false), (26, false), (27, false), (28, false), (29, false), (30, false), (31, false)] [(32, false), (33, false)] 18 true (((decide (1 ≤ v.round)) && (decide (v.round ≤ 12))) && ((v.choice == 0) || (v.choice == 1))) 81 94 (.bool (((v.round != 1) || (v.choice != 0)) || (v.support == 0))) (fun hg17 => ?_) ?_))
     ·
      have hg17_ := hg17
      have hg17l := (Bool.and_eq_true_iff.1 hg17).1
      have hg17r := (Bool.and_eq_true_iff.1 hg17).2
      have hg17ll := (Bool.and_eq_true_iff.1 hg17l).1
      have hg17lr := (Bool.and_eq_true_iff.1 hg17l).2
      have hg17ll' := of_decide_eq_true hg17ll
      have hg17lr' := of_decide_eq_true hg17lr
      refine T.pu 82 (.pointer (some ⟨b1, 2, none⟩)) (T.ld false 83 (.int .i64 v.round) 3 b1 2 (fun w h => St.cellM h mm0 (by kernel_rfl)) (T.pb 84 (v.round != 1) (T.pb 85 (v.round != 1) (T.bk [(23, false), (24, false), (25, false)] [(26, false), (27, false), (28, false), (29, false), (30, false), (31, false)] 22 false (v.round != 1) 85 88 (.bool (v.choice != 0)) (fun hg18 => ?_) ?_))))
      ·
       have hg18_ := hg18
       refine T.pu 86 (.pointer (some ⟨b1, 3, none⟩)) (T.ld false 87 (.int .i64 v.choice) 3 b1 3 (fun w h => St.cellM h mm0 (by kernel_rfl)) (T.pb 88 (v.choice != 0) ?_))
       exact T.blkEnd (by kernel_rfl) (fun w h => h)
      refine T.oo 89 (v.round != 1) (v.choice != 0) (T.pb 90 ((v.round != 1) || (v.choice != 0)) (T.bk [(28, false), (29, false), (30, false)] [(31, false)] 27 false ((v.round != 1) || (v.choice != 0)) 90 93 (.bool (v.support == 0)) (fun hg19 => ?_) ?_))
      ·
       have hg19_ := hg19
       have hg19l := (Bool.or_eq_false_iff.1 hg19).1
       have hg19r := (Bool.or_eq_false_iff.1 hg19).2
       refine T.pu 91 (.pointer (some ⟨b1, 5, none⟩)) (T.ld false 92 (.int .i64 v.support) 22 b1 5 (fun w h => St.cellM h mm0 (by kernel_rfl)) (T.pb 93 (v.support == 0) ?_))
       exact T.blkEnd (by kernel_rfl) (fun w h => h)
      refine T.oo 94 ((v.round != 1) || (v.choice != 0)) (v.support == 0) ?_
      exact T.blkEnd (by kernel_rfl) (fun w h => h)
     refine T.an 95 (((decide (1 ≤ v.round)) && (decide (v.round ≤ 12))) && ((v.choice == 0) || (v.choice == 1))) (((v.round != 1) || (v.choice != 0)) || (v.support == 0)) (T.pb 2 ((((decide (1 ≤ v.round)) && (decide (v.round ≤ 12))) && ((v.choice == 0) || (v.choice == 1))) && (((v.round != 1) || (v.choice != 0)) || (v.support == 0))) (T.nil (QN.seq (W.ret (QN.blkRet (QN.thenRet (QN.done (.inl rfl) 2 (.bool ((((decide (1 ≤ v.round)) && (decide (v.round ≤ 12))) && ((v.choice == 0) || (v.choice == 1))) && (((v.round != 1) || (v.choice != 0)) || (v.support == 0)))) rfl (by kernel_rfl) (fun w hw => ⟨?_, hw.below⟩))))))))
     exact congrArg (fun b => Ending.returned (.bool b)) (by simp only [rvalidD, h6, h11, h12, h13, cond_true, cond_false])
    ·
     refine W.seq (W.rg od2 (T.pb 97 (v.kind == 4) (T.pb 96 (v.kind == 4) (T.nil (QN.seq (W.cd (v.kind == 4) (fun h20 => ?_) (fun h20 => ?_)))))))
     ·
      refine W.seq (W.rg od19 (T.pu 98 (.pointer (some ⟨b1, 2, none⟩)) (T.ld false 99 (.int .i64 v.round) 3 b1 2 (fun w h => St.cellM h mm0 (by kernel_rfl)) (T.pb 100 (decide (1 ≤ v.round)) (T.pb 101 (decide (1 ≤ v.round)) (T.bk [(4, false), (5, false), (6, false)] [(7, false), (8, false), (9, false), (10, false), (11, false), (12, false), (13, false), (14, false), (15, false), (16, false), (17, false), (18, false)] 3 true (decide (1 ≤ v.round)) 101 104 (.bool (decide (v.round ≤ 12))) (fun hg21 => ?_) ?_))))))
      ·
       have hg21_ := hg21
       have hg21' := of_decide_eq_true hg21
       refine T.pu 102 (.pointer (some ⟨b1, 2, none⟩)) (T.ld false 103 (.int .i64 v.round) 3 b1 2 (fun w h => St.cellM h mm0 (by kernel_rfl)) (T.pb 104 (decide (v.round ≤ 12)) ?_))
       exact T.blkEnd (by kernel_rfl) (fun w h => h)
      refine T.an 105 (decide (1 ≤ v.round)) (decide (v.round ≤ 12)) (T.pb 106 ((decide (1 ≤ v.round)) && (decide (v.round ≤ 12))) (T.bk [(9, false), (10, false), (11, false)] [(12, false), (13, false), (14, false), (15, false), (16, false), (17, false), (18, false)] 8 true ((decide (1 ≤ v.round)) && (decide (v.round ≤ 12))) 106 109 (.bool (decide (0 ≤ v.choice))) (fun hg22 => ?_) ?_))
      ·
       have hg22_ := hg22
       have hg22l := (Bool.and_eq_true_iff.1 hg22).1
       have hg22r := (Bool.and_eq_true_iff.1 hg22).2
       have hg22l' := of_decide_eq_true hg22l
       have hg22r' := of_decide_eq_true hg22r
       refine T.pu 107 (.pointer (some ⟨b1, 3, none⟩)) (T.ld false 108 (.int .i64 v.choice) 3 b1 3 (fun w h => St.cellM h mm0 (by kernel_rfl)) (T.pb 109 (decide (0 ≤ v.choice)) ?_))
       exact T.blkEnd (by kernel_rfl) (fun w h => h)
      refine T.an 110 ((decide (1 ≤ v.round)) && (decide (v.round ≤ 12))) (decide (0 ≤ v.choice)) (T.pb 111 (((decide (1 ≤ v.round)) && (decide (v.round ≤ 12))) && (decide (0 ≤ v.choice))) (T.bk [(14, false), (15, false), (16, false)] [(17, false), (18, false)] 13 true (((decide (1 ≤ v.round)) && (decide (v.round ≤ 12))) && (decide (0 ≤ v.choice))) 111 114 (.bool (decide (v.choice ≤ 2))) (fun hg23 => ?_) ?_))
      ·
       have hg23_ := hg23
       have hg23l := (Bool.and_eq_true_iff.1 hg23).1
       have hg23r := (Bool.and_eq_true_iff.1 hg23).2
       have hg23ll := (Bool.and_eq_true_iff.1 hg23l).1
       have hg23lr := (Bool.and_eq_true_iff.1 hg23l).2
       have hg23ll' := of_decide_eq_true hg23ll
       have hg23lr' := of_decide_eq_true hg23lr
       have hg23r' := of_decide_eq_true hg23r
       refine T.pu 112 (.pointer (some ⟨b1, 3, none⟩)) (T.ld false 113 (.int .i64 v.choice) 3 b1 3 (fun w h => St.cellM h mm0 (by kernel_rfl)) (T.pb 114 (decide (v.choice ≤ 2)) ?_))
       exact T.blkEnd (by kernel_rfl) (fun w h => h)
      refine T.an 115 (((decide (1 ≤ v.round)) && (decide (v.round ≤ 12))) && (decide (0 ≤ v.choice))) (decide (v.choice ≤ 2)) (T.pb 2 ((((decide (1 ≤ v.round)) && (decide (v.round ≤ 12))) && (decide (0 ≤ v.choice))) && (decide (v.choice ≤ 2))) (T.nil (QN.seq (W.ret (QN.blkRet (QN.thenRet (QN.done (.inl rfl) 2 (.bool ((((decide (1 ≤ v.round)) && (decide (v.round ≤ 12))) && (decide (0 ≤ v.choice))) && (decide (v.choice ≤ 2)))) rfl (by kernel_rfl) (fun w hw => ⟨?_, hw.below⟩))))))))
      exact congrArg (fun b => Ending.returned (.bool b)) (by simp only [rvalidD, h6, h11, h12, h13, h20, cond_true, cond_false])
     ·
      refine W.skip (QN.blkNormal (QN.seq (W.seq (W.rg od14 (T.pu 116 (.pointer (some ⟨b1, 2, none⟩)) (T.ld false 117 (.int .i64 v.round) 3 b1 2 (fun w h => St.cellM h mm0 (by kernel_rfl)) (T.pb 118 (v.round == 0) (T.pb 119 (v.round == 0) (T.bk [(4, false), (5, false), (6, false)] [(7, false), (8, false), (9, false), (10, false), (11, false), (12, false), (13, false)] 3 true (v.round == 0) 119 122 (.bool (v.choice == 1)) (fun hg24 => ?_) ?_)))))))))
      ·
       have hg24_ := hg24
       refine T.pu 120 (.pointer (some ⟨b1, 3, none⟩)) (T.ld false 121 (.int .i64 v.choice) 3 b1 3 (fun w h => St.cellM h mm0 (by kernel_rfl)) (T.pb 122 (v.choice == 1) ?_))
       exact T.blkEnd (by kernel_rfl) (fun w h => h)
      refine T.an 123 (v.round == 0) (v.choice == 1) (T.pb 124 ((v.round == 0) && (v.choice == 1)) (T.bk [(9, false), (10, false), (11, false)] [(12, false), (13, false)] 8 true ((v.round == 0) && (v.choice == 1)) 124 127 (.bool (v.support == 0)) (fun hg25 => ?_) ?_))
      ·
       have hg25_ := hg25
       have hg25l := (Bool.and_eq_true_iff.1 hg25).1
       have hg25r := (Bool.and_eq_true_iff.1 hg25).2
       refine T.pu 125 (.pointer (some ⟨b1, 5, none⟩)) (T.ld false 126 (.int .i64 v.support) 22 b1 5 (fun w h => St.cellM h mm0 (by kernel_rfl)) (T.pb 127 (v.support == 0) ?_))
       exact T.blkEnd (by kernel_rfl) (fun w h => h)
      refine T.an 128 ((v.round == 0) && (v.choice == 1)) (v.support == 0) (T.pb 2 (((v.round == 0) && (v.choice == 1)) && (v.support == 0)) (T.nil (QN.seq (W.ret (QN.done (.inl rfl) 2 (.bool (((v.round == 0) && (v.choice == 1)) && (v.support == 0))) rfl (by kernel_rfl) (fun w hw => ⟨?_, hw.below⟩))))))
      exact congrArg (fun b => Ending.returned (.bool b)) (by simp only [rvalidD, h6, h11, h12, h13, h20, cond_false])
theorem rvalid_eq (v : Vt) : rvalidD v = validB v := by
  unfold rvalidD validB restB btw agreeD
  generalize (v.val == Nm.zero) = z
  generalize (bits .andNot .i64 v.support 1023 != 0) = y
  obtain ⟨k, sl, r, c, sg, su, p, x⟩ := v
  simp only
  rw [Bool.eq_iff_iff]
  cases y <;> cases z <;> simp [Bool.cond_eq_ite] <;> repeat (first | omega | split)

theorem rvalid_c (v : Vt) (w : World) : Ret Tryz.prog 99 #[.agg v.cs] w (.bool (validB v)) := by
  rw [← rvalid_eq]; exact rvalidD_c v w
def rcntD (m : Int) (v : Vt) (u : Vt) : Bool := ((((u.par == v.par) && (u.slot == v.slot)) && (hasB m u.signer)) && (hasB m u.slot)) && (validB u)
set_option maxRecDepth 100000 in
set_option maxHeartbeats 2000000 in
theorem rcnt_c (m : Int) (v : Vt) (u : Vt) (hm : W64 m) (w : World) : Calls Tryz.prog 125 #[.int .i64 m, .agg v.cs, .agg u.cs] w (fun rr w' => rr = .returned (.bool (rcntD m v u)) ∧ Below w.heap.size w w') := by
 refine calls_W (n := 35) Tryz.func125 rfl [(0, .int .i64 m), (1, .agg v.cs), (2, .agg u.cs)] rfl ⟨by kernel_rfl, by kernel_rfl⟩ (W.weak (Ψ := St w []) (fun w' h => by rw [h]; exact St.start w) (W.seq (W.rg od3 (T.bx 4 43 (.agg v.cs) (v.cs) tv3 (fun b1 => T.bx 5 43 (.agg u.cs) (u.cs) tv3 (fun b2 => T.pb 6 false (T.nil (QN.seq (W.seq (W.rg od29 (T.pu 7 (.pointer (some ⟨b2, 6, none⟩)) (T.lr false 8 u.par.cs 24 b2 6 (fun w h => St.rangeM h u.par.cs mm0 (by kernel_rfl)) (T.pu 9 (.pointer (some ⟨b1, 6, none⟩)) (T.lr false 10 v.par.cs 24 b1 6 (fun w h => St.rangeM h v.par.cs mm1 (by kernel_rfl)) (T.eqq 11 (u.par == v.par) (u.par == v.par) false 24 u.par.cs v.par.cs (by kernel_rfl) (by kernel_rfl) (by kernel_rfl) (by kernel_rfl) (fun w => eq_nm w u.par v.par) (T.pb 12 (u.par == v.par) (T.bk [(6, false), (7, false), (8, false), (9, false), (10, false)] [(11, false), (12, false), (13, false), (14, false), (15, false), (16, false), (17, false), (18, false), (19, false), (20, false), (21, false), (22, false), (23, false), (24, false), (25, false), (26, false), (27, false), (28, false)] 5 true (u.par == v.par) 12 17 (.bool (u.slot == v.slot)) (fun hg3 => ?_) ?_)))))))))))))))))
 ·
  have hg3_ := hg3
  refine T.pu 13 (.pointer (some ⟨b2, 1, none⟩)) (T.ld false 14 (.int .i64 u.slot) 3 b2 1 (fun w h => St.cellM h mm0 (by kernel_rfl)) (T.pu 15 (.pointer (some ⟨b1, 1, none⟩)) (T.ld false 16 (.int .i64 v.slot) 3 b1 1 (fun w h => St.cellM h mm1 (by kernel_rfl)) (T.pb 17 (u.slot == v.slot) ?_))))
  exact T.blkEnd (by kernel_rfl) (fun w h => h)
 refine T.an 18 (u.par == v.par) (u.slot == v.slot) (T.pb 19 ((u.par == v.par) && (u.slot == v.slot)) (T.bk [(13, false), (14, false), (15, false), (16, false)] [(17, false), (18, false), (19, false), (20, false), (21, false), (22, false), (23, false), (24, false), (25, false), (26, false), (27, false), (28, false)] 12 true ((u.par == v.par) && (u.slot == v.slot)) 19 23 (.bool (hasB m u.signer)) (fun hg4 => ?_) ?_))
 ·
  have hg4_ := hg4
  have hg4l := (Bool.and_eq_true_iff.1 hg4).1
  have hg4r := (Bool.and_eq_true_iff.1 hg4).2
  refine T.pi 20 m (T.pu 21 (.pointer (some ⟨b2, 4, none⟩)) (T.ld false 22 (.int .i64 u.signer) 3 b2 4 (fun w h => St.cellM h mm0 (by kernel_rfl)) (T.cp 23 53 #[.int .i64 m, .int .i64 u.signer] (.bool (hasB m u.signer)) ent53 (fun w hw => Ret.same (rhas_c _ _ w (by assumption))) tv2 ?_)))
  exact T.blkEnd (by kernel_rfl) (fun w h => h)
 refine T.an 24 ((u.par == v.par) && (u.slot == v.slot)) (hasB m u.signer) (T.pb 25 (((u.par == v.par) && (u.slot == v.slot)) && (hasB m u.signer)) (T.bk [(19, false), (20, false), (21, false), (22, false)] [(23, false), (24, false), (25, false), (26, false), (27, false), (28, false)] 18 true (((u.par == v.par) && (u.slot == v.slot)) && (hasB m u.signer)) 25 29 (.bool (hasB m u.slot)) (fun hg5 => ?_) ?_))
 ·
  have hg5_ := hg5
  have hg5l := (Bool.and_eq_true_iff.1 hg5).1
  have hg5r := (Bool.and_eq_true_iff.1 hg5).2
  have hg5ll := (Bool.and_eq_true_iff.1 hg5l).1
  have hg5lr := (Bool.and_eq_true_iff.1 hg5l).2
  have hg5rb := hasB_lt hg5r
  refine T.pi 26 m (T.pu 27 (.pointer (some ⟨b2, 1, none⟩)) (T.ld false 28 (.int .i64 u.slot) 3 b2 1 (fun w h => St.cellM h mm0 (by kernel_rfl)) (T.cp 29 53 #[.int .i64 m, .int .i64 u.slot] (.bool (hasB m u.slot)) ent53 (fun w hw => Ret.same (rhas_c _ _ w (by assumption))) tv2 ?_)))
  exact T.blkEnd (by kernel_rfl) (fun w h => h)
 refine T.an 30 (((u.par == v.par) && (u.slot == v.slot)) && (hasB m u.signer)) (hasB m u.slot) (T.pb 31 ((((u.par == v.par) && (u.slot == v.slot)) && (hasB m u.signer)) && (hasB m u.slot)) (T.bk [(25, false), (26, false)] [(27, false), (28, false)] 24 true ((((u.par == v.par) && (u.slot == v.slot)) && (hasB m u.signer)) && (hasB m u.slot)) 31 33 (.bool (validB u)) (fun hg6 => ?_) ?_))
 ·
  have hg6_ := hg6
  have hg6l := (Bool.and_eq_true_iff.1 hg6).1
  have hg6r := (Bool.and_eq_true_iff.1 hg6).2
  have hg6ll := (Bool.and_eq_true_iff.1 hg6l).1
  have hg6lr := (Bool.and_eq_true_iff.1 hg6l).2
  have hg6lll := (Bool.and_eq_true_iff.1 hg6ll).1
  have hg6llr := (Bool.and_eq_true_iff.1 hg6ll).2
  have hg6lrb := hasB_lt hg6lr
  have hg6rb := hasB_lt hg6r
  refine T.lr false 32 u.cs 43 b2 0 (fun w h => St.rangeM h u.cs mm0 (by kernel_rfl)) (T.cp 33 99 #[.agg u.cs] (.bool (validB u)) ent99 (fun w hw => rvalid_c _ w) tv2 ?_)
  exact T.blkEnd (by kernel_rfl) (fun w h => h)
 refine T.an 34 ((((u.par == v.par) && (u.slot == v.slot)) && (hasB m u.signer)) && (hasB m u.slot)) (validB u) (T.pb 6 (((((u.par == v.par) && (u.slot == v.slot)) && (hasB m u.signer)) && (hasB m u.slot)) && (validB u)) (T.nil (QN.seq (W.ret (QN.done (.inl rfl) 6 (.bool (((((u.par == v.par) && (u.slot == v.slot)) && (hasB m u.signer)) && (hasB m u.slot)) && (validB u))) rfl (by kernel_rfl) (fun w hw => ⟨?_, hw.below⟩))))))
 exact congrArg (fun b => Ending.returned (.bool b)) (by simp only [rcntD])
def bitD (i : Int) : Int := bif ((decide (i < 0)) || (decide (10 ≤ i))) then 0 else (2 ^ (i).toNat)
set_option maxRecDepth 100000 in
set_option maxHeartbeats 2000000 in
theorem rbit_cD (i : Int) (hi : W64 i) (w : World) : Calls Tryz.prog 54 #[.int .i64 i] w (fun rr w' => rr = .returned (.int .i64 (bitD i)) ∧ Below w.heap.size w w') := by
 have hi1 := hi.1
 have hi2 := hi.2
 refine calls_W (n := 12) Tryz.func54 rfl [(0, .int .i64 i)] rfl ⟨by kernel_rfl, by kernel_rfl⟩ (W.weak (Ψ := St w []) (fun w' h => by rw [h]; exact St.start w) (W.seq (W.rg od1 (T.pi 2 0 (T.nil (QN.seq (W.seq (W.seq (W.rg od6 (T.pi 3 i (T.pb 4 (decide (i < 0)) (T.pb 5 (decide (i < 0)) (T.bk [(3, false), (4, false)] [(5, false)] 2 false (decide (i < 0)) 5 7 (.bool (decide (10 ≤ i))) (fun hg1 => ?_) ?_)))))))))))))
 ·
  have hg1_ := hg1
  have hg1' := of_decide_eq_false hg1
  refine T.pi 6 i (T.pb 7 (decide (10 ≤ i)) ?_)
  exact T.blkEnd (by kernel_rfl) (fun w h => h)
 refine T.oo 8 (decide (i < 0)) (decide (10 ≤ i)) (T.nil (QN.seq (W.cd ((decide (i < 0)) || (decide (10 ≤ i))) (fun h2 => ?_) (fun h2 => ?_))))
 ·
  refine W.seq (W.rg od1 (T.pi 2 0 (T.nil (QN.seq (W.ret (QN.thenRet (QN.done (.inl rfl) 2 (.int .i64 0) rfl (by kernel_rfl) (fun w hw => ⟨?_, hw.below⟩))))))))
  exact congrArg (fun b => Ending.returned (.int .i64 b)) (by simp only [bitD, h2, cond_true])
 ·
  have h2l := (Bool.or_eq_false_iff.1 h2).1
  have h2r := (Bool.or_eq_false_iff.1 h2).2
  have h2l' := of_decide_eq_false h2l
  have h2r' := of_decide_eq_false h2r
  refine W.skip (QN.seq (W.seq (W.rg od4 (T.pi 9 i (T.pe 10 (.int .u64 (IntKind.u64.wrap i)) (.int .u64 i) (wrapu_int (by omega) (by omega)) (T.shl 11 .i64 .u64 1 i (.int .i64 (2 ^ i.toNat)) (by kernel_rfl) (by kernel_rfl) (by omega) (shl_one (by omega) (by omega)) (T.pi 2 (2 ^ i.toNat) (T.nil (QN.seq (W.ret (QN.done (.inl rfl) 2 (.int .i64 (2 ^ i.toNat)) rfl (by kernel_rfl) (fun w hw => ⟨?_, hw.below⟩))))))))))))
  exact congrArg (fun b => Ending.returned (.int .i64 b)) (by simp only [bitD, h2, cond_false])
end Go.Proofs.YtphnfhonmbbddaaGreat
