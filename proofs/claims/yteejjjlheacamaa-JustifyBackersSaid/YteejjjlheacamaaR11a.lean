/- The reference: Valid, like, counts. -/
import Derived.Test.YteejjjlheacamaaEnt
namespace Go.Proofs.Yteejjjlheacamaa
open Go Go.RowKit
set_option linter.unusedVariables false

set_option maxRecDepth 100000 in
set_option maxHeartbeats 2000000 in
theorem rlike_c (a b : Vt) (w : World) : Calls Try.prog 66 #[.agg (a).cs, .agg (b).cs] w (fun r w' => r = .returned (.bool (sameB a b)) ∧ Below w.heap.size w w') := by
  refine calls_W (n := 17) Try.func66 rfl [(0, .agg (a).cs), (1, .agg (b).cs)] rfl ⟨by kernel_rfl, by kernel_rfl⟩ ?_
  refine W.weak (Ψ := St w []) (fun w' h => by rw [h]; exact St.start w) ?_
  refine W.seq ?_
  refine W.region [(0, false), (1, false), (2, false)] (by kernel_rfl) ?_
  refine T.box 2 42 (.agg (a).cs) ((a).cs) (by kernel_rfl) (by kernel_rfl) (by kernel_rfl) (fun _ _ _ => trivial) (fun b1 => ?_)
  refine T.box 3 42 (.agg (b).cs) ((b).cs) (by kernel_rfl) (by kernel_rfl) (by kernel_rfl) (fun _ _ _ => trivial) (fun b2 => ?_)
  refine T.pure 4 (.bool (false)) (by kernel_rfl) (fun w => by kernel_rfl) ?_
  refine T.nil ?_
  refine QN.seq ?_
  refine W.seq ?_
  refine W.region [(0, false), (1, false), (2, false), (3, false), (4, false), (5, false), (6, false), (7, false), (8, false), (9, false), (10, false), (11, false), (12, false)] (by kernel_rfl) ?_
  refine T.pure 5 (.pointer (some ⟨b1, 3, none⟩)) (by kernel_rfl) (fun w => by kernel_rfl) ?_
  refine T.load false 6 (.int .i64 (a.choice)) 3 b1 3 (by kernel_rfl) (by kernel_rfl) (by kernel_rfl) (fun w h => St.cellM h (.tail _ (.head _)) (by kernel_rfl)) ?_
  refine T.pure 7 (.pointer (some ⟨b2, 3, none⟩)) (by kernel_rfl) (fun w => by kernel_rfl) ?_
  refine T.load false 8 (.int .i64 (b.choice)) 3 b2 3 (by kernel_rfl) (by kernel_rfl) (by kernel_rfl) (fun w h => St.cellM h (.head _) (by kernel_rfl)) ?_
  refine T.pure 9 (.bool (a.choice == b.choice)) (by kernel_rfl) (fun w => by kernel_rfl) ?_
  refine T.pure 10 (.bool (a.choice == b.choice)) (by kernel_rfl) (fun w => by kernel_rfl) ?_
  refine T.blk [(6, false), (7, false), (8, false), (9, false), (10, false)] [(11, false), (12, false)] 5 true (a.choice == b.choice) 10 15 (.bool (a.val == b.val)) (by kernel_rfl) (by kernel_rfl) (by kernel_rfl) (fun hg3 => ?_) ?_
  · have hg3_ := hg3
    refine T.pure 11 (.pointer (some ⟨b1, 14, none⟩)) (by kernel_rfl) (fun w => by kernel_rfl) ?_
    refine T.loadR false 12 (a.val).cs 40 b1 14 (by kernel_rfl) (by kernel_rfl) (by kernel_rfl) (by kernel_rfl) (fun w h => St.rangeM h (a.val).cs (.tail _ (.head _)) (by kernel_rfl)) ?_
    refine T.pure 13 (.pointer (some ⟨b2, 14, none⟩)) (by kernel_rfl) (fun w => by kernel_rfl) ?_
    refine T.loadR false 14 (b.val).cs 40 b2 14 (by kernel_rfl) (by kernel_rfl) (by kernel_rfl) (by kernel_rfl) (fun w h => St.rangeM h (b.val).cs (.head _) (by kernel_rfl)) ?_
    refine T.eqq 15 (a.val == b.val) (a.val == b.val) false 40 (a.val).cs (b.val).cs (by kernel_rfl) (by kernel_rfl) (by kernel_rfl) (by kernel_rfl) (fun w => eq_nm w a.val b.val) ?_
    exact T.blkEnd (by kernel_rfl) (fun w h => h)
  refine T.and 16 (a.choice == b.choice) (a.val == b.val) (by kernel_rfl) (by kernel_rfl) ?_
  refine T.pure 4 (.bool ((a.choice == b.choice) && (a.val == b.val))) (by kernel_rfl) (fun w => by kernel_rfl) ?_
  refine T.nil ?_
  refine QN.seq ?_
  refine W.ret ?_
  refine QN.done (.inl rfl) 4 (.bool ((a.choice == b.choice) && (a.val == b.val))) rfl (by kernel_rfl) (fun w hw => ⟨?_, hw.below⟩)
  exact rfl
def agreeD (k : Int) : Bool := (decide (1 ≤ k)) && (decide (k ≤ 4))
set_option maxRecDepth 100000 in
set_option maxHeartbeats 2000000 in
theorem ragree_c (k : Int)  (w : World) : Calls Try.prog 65 #[.int .i64 (k)] w (fun rr w' => rr = .returned (.bool (agreeD k)) ∧ Below w.heap.size w w') := by
  refine calls_W (n := 9) Try.func65 rfl [(0, .int .i64 (k))] rfl ⟨by kernel_rfl, by kernel_rfl⟩ ?_
  refine W.weak (Ψ := St w []) (fun w' h => by rw [h]; exact St.start w) ?_
  refine W.seq ?_
  refine W.region [(0, false)] (by kernel_rfl) ?_
  refine T.pure 2 (.bool (false)) (by kernel_rfl) (fun w => by kernel_rfl) ?_
  refine T.nil ?_
  refine QN.seq ?_
  refine W.seq ?_
  refine W.region [(0, false), (1, false), (2, false), (3, false), (4, false), (5, false), (6, false)] (by kernel_rfl) ?_
  refine T.pure 3 (.int .i64 (k)) (by kernel_rfl) (fun w => by kernel_rfl) ?_
  refine T.pure 4 (.bool (decide (1 ≤ k))) (by kernel_rfl) (fun w => by kernel_rfl) ?_
  refine T.pure 5 (.bool (decide (1 ≤ k))) (by kernel_rfl) (fun w => by kernel_rfl) ?_
  refine T.blk [(3, false), (4, false)] [(5, false), (6, false)] 2 true (decide (1 ≤ k)) 5 7 (.bool (decide (k ≤ 4))) (by kernel_rfl) (by kernel_rfl) (by kernel_rfl) (fun hg1 => ?_) ?_
  · have hg1_ := hg1
    have hg1' := of_decide_eq_true hg1
    refine T.pure 6 (.int .i64 (k)) (by kernel_rfl) (fun w => by kernel_rfl) ?_
    refine T.pure 7 (.bool (decide (k ≤ 4))) (by kernel_rfl) (fun w => by kernel_rfl) ?_
    exact T.blkEnd (by kernel_rfl) (fun w h => h)
  refine T.and 8 (decide (1 ≤ k)) (decide (k ≤ 4)) (by kernel_rfl) (by kernel_rfl) ?_
  refine T.pure 2 (.bool ((decide (1 ≤ k)) && (decide (k ≤ 4)))) (by kernel_rfl) (fun w => by kernel_rfl) ?_
  refine T.nil ?_
  refine QN.seq ?_
  refine W.ret ?_
  refine QN.done (.inl rfl) 2 (.bool ((decide (1 ≤ k)) && (decide (k ≤ 4)))) rfl (by kernel_rfl) (fun w hw => ⟨?_, hw.below⟩)
  exact congrArg (fun b => Ending.returned (.bool b)) (by simp only [agreeD])
def rvalidD (v : Vt) : Bool := bif (((((decide (v.kind < 1)) || (decide (7 < v.kind))) || (decide (v.signer < 0))) || (decide (10 ≤ v.signer))) || ((bits .andNot .i64 v.support 1023) != 0)) then false else (bif (((agreeD v.kind) && ((decide (v.slot < 0)) || (decide (10 ≤ v.slot)))) || ((!(agreeD v.kind)) && (v.slot != 0))) then false else (bif ((v.val == Nm.zero) == (v.choice == 1)) then false else (bif (v.kind == 3) then ((((decide (1 ≤ v.round)) && (decide (v.round ≤ 12))) && ((v.choice == 0) || (v.choice == 1))) && (((v.round != 1) || (v.choice != 0)) || (v.support == 0))) else (bif (v.kind == 4) then ((((decide (1 ≤ v.round)) && (decide (v.round ≤ 12))) && (decide (0 ≤ v.choice))) && (decide (v.choice ≤ 2))) else (((v.round == 0) && (v.choice == 1)) && (v.support == 0))))))
set_option maxRecDepth 100000 in
set_option maxHeartbeats 2000000 in
theorem rvalidD_c (v : Vt)  (w : World) : Calls Try.prog 45 #[.agg (v).cs] w (fun rr w' => rr = .returned (.bool (rvalidD v)) ∧ Below w.heap.size w w') := by
  refine calls_W (n := 129) Try.func45 rfl [(0, .agg (v).cs)] rfl ⟨by kernel_rfl, by kernel_rfl⟩ ?_
  refine W.weak (Ψ := St w []) (fun w' h => by rw [h]; exact St.start w) ?_
  refine W.seq ?_
  refine W.region [(0, false), (1, false)] (by kernel_rfl) ?_
  refine T.box 1 42 (.agg (v).cs) ((v).cs) (by kernel_rfl) (by kernel_rfl) (by kernel_rfl) (fun _ _ _ => trivial) (fun b1 => ?_)
  refine T.pure 2 (.bool (false)) (by kernel_rfl) (fun w => by kernel_rfl) ?_
  refine T.nil ?_
  refine QN.seq ?_
  refine W.seq ?_
  refine W.seq ?_
  refine W.region [(0, false), (1, false), (2, false), (3, false), (4, false), (5, false), (6, false), (7, false), (8, false), (9, false), (10, false), (11, false), (12, false), (13, false), (14, false), (15, false), (16, false), (17, false), (18, false), (19, false), (20, false), (21, false), (22, false), (23, false)] (by kernel_rfl) ?_
  refine T.pure 3 (.pointer (some ⟨b1, 0, none⟩)) (by kernel_rfl) (fun w => by kernel_rfl) ?_
  refine T.load false 4 (.int .i64 (v.kind)) 3 b1 0 (by kernel_rfl) (by kernel_rfl) (by kernel_rfl) (fun w h => St.cellM h (.head _) (by kernel_rfl)) ?_
  refine T.pure 5 (.bool (decide (v.kind < 1))) (by kernel_rfl) (fun w => by kernel_rfl) ?_
  refine T.pure 6 (.bool (decide (v.kind < 1))) (by kernel_rfl) (fun w => by kernel_rfl) ?_
  refine T.blk [(4, false), (5, false), (6, false)] [(7, false), (8, false), (9, false), (10, false), (11, false), (12, false), (13, false), (14, false), (15, false), (16, false), (17, false), (18, false), (19, false), (20, false), (21, false), (22, false), (23, false)] 3 false (decide (v.kind < 1)) 6 9 (.bool (decide (7 < v.kind))) (by kernel_rfl) (by kernel_rfl) (by kernel_rfl) (fun hg2 => ?_) ?_
  · have hg2_ := hg2
    have hg2' := of_decide_eq_false hg2
    refine T.pure 7 (.pointer (some ⟨b1, 0, none⟩)) (by kernel_rfl) (fun w => by kernel_rfl) ?_
    refine T.load false 8 (.int .i64 (v.kind)) 3 b1 0 (by kernel_rfl) (by kernel_rfl) (by kernel_rfl) (fun w h => St.cellM h (.head _) (by kernel_rfl)) ?_
    refine T.pure 9 (.bool (decide (7 < v.kind))) (by kernel_rfl) (fun w => by kernel_rfl) ?_
    exact T.blkEnd (by kernel_rfl) (fun w h => h)
  refine T.or 10 (decide (v.kind < 1)) (decide (7 < v.kind)) (by kernel_rfl) (by kernel_rfl) ?_
  refine T.pure 11 (.bool ((decide (v.kind < 1)) || (decide (7 < v.kind)))) (by kernel_rfl) (fun w => by kernel_rfl) ?_
  refine T.blk [(9, false), (10, false), (11, false)] [(12, false), (13, false), (14, false), (15, false), (16, false), (17, false), (18, false), (19, false), (20, false), (21, false), (22, false), (23, false)] 8 false ((decide (v.kind < 1)) || (decide (7 < v.kind))) 11 14 (.bool (decide (v.signer < 0))) (by kernel_rfl) (by kernel_rfl) (by kernel_rfl) (fun hg3 => ?_) ?_
  · have hg3_ := hg3
    have hg3l := (Bool.or_eq_false_iff.1 hg3).1
    have hg3r := (Bool.or_eq_false_iff.1 hg3).2
    have hg3l' := of_decide_eq_false hg3l
    have hg3r' := of_decide_eq_false hg3r
    refine T.pure 12 (.pointer (some ⟨b1, 4, none⟩)) (by kernel_rfl) (fun w => by kernel_rfl) ?_
    refine T.load false 13 (.int .i64 (v.signer)) 3 b1 4 (by kernel_rfl) (by kernel_rfl) (by kernel_rfl) (fun w h => St.cellM h (.head _) (by kernel_rfl)) ?_
    refine T.pure 14 (.bool (decide (v.signer < 0))) (by kernel_rfl) (fun w => by kernel_rfl) ?_
    exact T.blkEnd (by kernel_rfl) (fun w h => h)
  refine T.or 15 ((decide (v.kind < 1)) || (decide (7 < v.kind))) (decide (v.signer < 0)) (by kernel_rfl) (by kernel_rfl) ?_
  refine T.pure 16 (.bool (((decide (v.kind < 1)) || (decide (7 < v.kind))) || (decide (v.signer < 0)))) (by kernel_rfl) (fun w => by kernel_rfl) ?_
  refine T.blk [(14, false), (15, false), (16, false)] [(17, false), (18, false), (19, false), (20, false), (21, false), (22, false), (23, false)] 13 false (((decide (v.kind < 1)) || (decide (7 < v.kind))) || (decide (v.signer < 0))) 16 19 (.bool (decide (10 ≤ v.signer))) (by kernel_rfl) (by kernel_rfl) (by kernel_rfl) (fun hg4 => ?_) ?_
  · have hg4_ := hg4
    have hg4l := (Bool.or_eq_false_iff.1 hg4).1
    have hg4r := (Bool.or_eq_false_iff.1 hg4).2
    have hg4ll := (Bool.or_eq_false_iff.1 hg4l).1
    have hg4lr := (Bool.or_eq_false_iff.1 hg4l).2
    have hg4ll' := of_decide_eq_false hg4ll
    have hg4lr' := of_decide_eq_false hg4lr
    have hg4r' := of_decide_eq_false hg4r
    refine T.pure 17 (.pointer (some ⟨b1, 4, none⟩)) (by kernel_rfl) (fun w => by kernel_rfl) ?_
    refine T.load false 18 (.int .i64 (v.signer)) 3 b1 4 (by kernel_rfl) (by kernel_rfl) (by kernel_rfl) (fun w h => St.cellM h (.head _) (by kernel_rfl)) ?_
    refine T.pure 19 (.bool (decide (10 ≤ v.signer))) (by kernel_rfl) (fun w => by kernel_rfl) ?_
    exact T.blkEnd (by kernel_rfl) (fun w h => h)
  refine T.or 20 (((decide (v.kind < 1)) || (decide (7 < v.kind))) || (decide (v.signer < 0))) (decide (10 ≤ v.signer)) (by kernel_rfl) (by kernel_rfl) ?_
  refine T.pure 21 (.bool ((((decide (v.kind < 1)) || (decide (7 < v.kind))) || (decide (v.signer < 0))) || (decide (10 ≤ v.signer)))) (by kernel_rfl) (fun w => by kernel_rfl) ?_
  refine T.blk [(19, false), (20, false), (21, false), (22, false)] [(23, false)] 18 false ((((decide (v.kind < 1)) || (decide (7 < v.kind))) || (decide (v.signer < 0))) || (decide (10 ≤ v.signer))) 21 25 (.bool ((bits .andNot .i64 v.support 1023) != 0)) (by kernel_rfl) (by kernel_rfl) (by kernel_rfl) (fun hg5 => ?_) ?_
  · have hg5_ := hg5
    have hg5l := (Bool.or_eq_false_iff.1 hg5).1
    have hg5r := (Bool.or_eq_false_iff.1 hg5).2
    have hg5ll := (Bool.or_eq_false_iff.1 hg5l).1
    have hg5lr := (Bool.or_eq_false_iff.1 hg5l).2
    have hg5lll := (Bool.or_eq_false_iff.1 hg5ll).1
    have hg5llr := (Bool.or_eq_false_iff.1 hg5ll).2
    have hg5lll' := of_decide_eq_false hg5lll
    have hg5llr' := of_decide_eq_false hg5llr
    have hg5lr' := of_decide_eq_false hg5lr
    have hg5r' := of_decide_eq_false hg5r
    refine T.pure 22 (.pointer (some ⟨b1, 5, none⟩)) (by kernel_rfl) (fun w => by kernel_rfl) ?_
    refine T.load false 23 (.int .i64 (v.support)) 25 b1 5 (by kernel_rfl) (by kernel_rfl) (by kernel_rfl) (fun w h => St.cellM h (.head _) (by kernel_rfl)) ?_
    refine T.pure 24 (.int .i64 (bits .andNot .i64 v.support 1023)) (by kernel_rfl) (fun w => by kernel_rfl) ?_
    refine T.pure 25 (.bool ((bits .andNot .i64 v.support 1023) != 0)) (by kernel_rfl) (fun w => by kernel_rfl) ?_
    exact T.blkEnd (by kernel_rfl) (fun w h => h)
  refine T.or 26 ((((decide (v.kind < 1)) || (decide (7 < v.kind))) || (decide (v.signer < 0))) || (decide (10 ≤ v.signer))) ((bits .andNot .i64 v.support 1023) != 0) (by kernel_rfl) (by kernel_rfl) ?_
  refine T.nil ?_
  refine QN.seq ?_
  refine W.cond (((((decide (v.kind < 1)) || (decide (7 < v.kind))) || (decide (v.signer < 0))) || (decide (10 ≤ v.signer))) || ((bits .andNot .i64 v.support 1023) != 0)) (by kernel_rfl) (fun h6 => ?_) (fun h6 => ?_)
  · skip
    refine W.seq ?_
    refine W.region [(0, false)] (by kernel_rfl) ?_
    refine T.pure 2 (.bool (false)) (by kernel_rfl) (fun w => by kernel_rfl) ?_
    refine T.nil ?_
    refine QN.seq ?_
    refine W.ret ?_
    refine QN.thenRet ?_
    refine QN.done (.inl rfl) 2 (.bool (false)) rfl (by kernel_rfl) (fun w hw => ⟨?_, hw.below⟩)
    exact congrArg (fun b => Ending.returned (.bool b)) (by simp only [rvalidD, h6, cond_true])
  · skip
    have h6l := (Bool.or_eq_false_iff.1 h6).1
    have h6r := (Bool.or_eq_false_iff.1 h6).2
    have h6ll := (Bool.or_eq_false_iff.1 h6l).1
    have h6lr := (Bool.or_eq_false_iff.1 h6l).2
    have h6lll := (Bool.or_eq_false_iff.1 h6ll).1
    have h6llr := (Bool.or_eq_false_iff.1 h6ll).2
    have h6llll := (Bool.or_eq_false_iff.1 h6lll).1
    have h6lllr := (Bool.or_eq_false_iff.1 h6lll).2
    have h6llll' := of_decide_eq_false h6llll
    have h6lllr' := of_decide_eq_false h6lllr
    have h6llr' := of_decide_eq_false h6llr
    have h6lr' := of_decide_eq_false h6lr
    refine W.skip ?_
    refine QN.seq ?_
    refine W.seq ?_
    refine W.seq ?_
    refine W.region [(0, false), (1, false), (2, false), (3, false), (4, false), (5, false), (6, false), (7, false), (8, false), (9, false), (10, false), (11, false), (12, false), (13, false), (14, false), (15, false), (16, false), (17, false), (18, false), (19, false), (20, false), (21, false), (22, false), (23, false)] (by kernel_rfl) ?_
    refine T.pure 27 (.pointer (some ⟨b1, 0, none⟩)) (by kernel_rfl) (fun w => by kernel_rfl) ?_
    refine T.load false 28 (.int .i64 (v.kind)) 3 b1 0 (by kernel_rfl) (by kernel_rfl) (by kernel_rfl) (fun w h => St.cellM h (.head _) (by kernel_rfl)) ?_
    refine T.callP 29 65 #[.int .i64 (v.kind)] (.bool (agreeD v.kind)) (by kernel_rfl) (by kernel_rfl) ent65 (fun w hw => ragree_c _ w) (fun _ _ => trivial) ?_
    refine T.pure 30 (.bool (agreeD v.kind)) (by kernel_rfl) (fun w => by kernel_rfl) ?_
    refine T.blk [(4, false), (5, false), (6, false), (7, false), (8, false), (9, false), (10, false), (11, false)] [(12, false), (13, false), (14, false), (15, false), (16, false), (17, false), (18, false), (19, false), (20, false), (21, false), (22, false), (23, false)] 3 true (agreeD v.kind) 30 38 (.bool ((decide (v.slot < 0)) || (decide (10 ≤ v.slot)))) (by kernel_rfl) (by kernel_rfl) (by kernel_rfl) (fun hg7 => ?_) ?_
    · have hg7_ := hg7
      refine T.pure 31 (.pointer (some ⟨b1, 1, none⟩)) (by kernel_rfl) (fun w => by kernel_rfl) ?_
      refine T.load false 32 (.int .i64 (v.slot)) 3 b1 1 (by kernel_rfl) (by kernel_rfl) (by kernel_rfl) (fun w h => St.cellM h (.head _) (by kernel_rfl)) ?_
      refine T.pure 33 (.bool (decide (v.slot < 0))) (by kernel_rfl) (fun w => by kernel_rfl) ?_
      refine T.pure 34 (.bool (decide (v.slot < 0))) (by kernel_rfl) (fun w => by kernel_rfl) ?_
      refine T.blk [(8, false), (9, false), (10, false)] [(11, false)] 7 false (decide (v.slot < 0)) 34 37 (.bool (decide (10 ≤ v.slot))) (by kernel_rfl) (by kernel_rfl) (by kernel_rfl) (fun hg8 => ?_) ?_
      · have hg8_ := hg8
        have hg8' := of_decide_eq_false hg8
        refine T.pure 35 (.pointer (some ⟨b1, 1, none⟩)) (by kernel_rfl) (fun w => by kernel_rfl) ?_
        refine T.load false 36 (.int .i64 (v.slot)) 3 b1 1 (by kernel_rfl) (by kernel_rfl) (by kernel_rfl) (fun w h => St.cellM h (.head _) (by kernel_rfl)) ?_
        refine T.pure 37 (.bool (decide (10 ≤ v.slot))) (by kernel_rfl) (fun w => by kernel_rfl) ?_
        exact T.blkEnd (by kernel_rfl) (fun w h => h)
      refine T.or 38 (decide (v.slot < 0)) (decide (10 ≤ v.slot)) (by kernel_rfl) (by kernel_rfl) ?_
      exact T.blkEnd (by kernel_rfl) (fun w h => h)
    refine T.and 39 (agreeD v.kind) ((decide (v.slot < 0)) || (decide (10 ≤ v.slot))) (by kernel_rfl) (by kernel_rfl) ?_
    refine T.pure 40 (.bool ((agreeD v.kind) && ((decide (v.slot < 0)) || (decide (10 ≤ v.slot))))) (by kernel_rfl) (fun w => by kernel_rfl) ?_
    refine T.blk [(14, false), (15, false), (16, false), (17, false), (18, false), (19, false), (20, false), (21, false), (22, false)] [(23, false)] 13 false ((agreeD v.kind) && ((decide (v.slot < 0)) || (decide (10 ≤ v.slot)))) 40 49 (.bool ((!(agreeD v.kind)) && (v.slot != 0))) (by kernel_rfl) (by kernel_rfl) (by kernel_rfl) (fun hg9 => ?_) ?_
    · have hg9_ := hg9
      refine T.pure 41 (.pointer (some ⟨b1, 0, none⟩)) (by kernel_rfl) (fun w => by kernel_rfl) ?_
      refine T.load false 42 (.int .i64 (v.kind)) 3 b1 0 (by kernel_rfl) (by kernel_rfl) (by kernel_rfl) (fun w h => St.cellM h (.head _) (by kernel_rfl)) ?_
      refine T.callP 43 65 #[.int .i64 (v.kind)] (.bool (agreeD v.kind)) (by kernel_rfl) (by kernel_rfl) ent65 (fun w hw => ragree_c _ w) (fun _ _ => trivial) ?_
      refine T.pure 44 (.bool (!(agreeD v.kind))) (by kernel_rfl) (fun w => by kernel_rfl) ?_
      refine T.pure 45 (.bool (!(agreeD v.kind))) (by kernel_rfl) (fun w => by kernel_rfl) ?_
      refine T.blk [(19, false), (20, false), (21, false)] [(22, false)] 18 true (!(agreeD v.kind)) 45 48 (.bool (v.slot != 0)) (by kernel_rfl) (by kernel_rfl) (by kernel_rfl) (fun hg10 => ?_) ?_
      · have hg10_ := hg10
        have hg10n := not_eq_true hg10
        refine T.pure 46 (.pointer (some ⟨b1, 1, none⟩)) (by kernel_rfl) (fun w => by kernel_rfl) ?_
        refine T.load false 47 (.int .i64 (v.slot)) 3 b1 1 (by kernel_rfl) (by kernel_rfl) (by kernel_rfl) (fun w h => St.cellM h (.head _) (by kernel_rfl)) ?_
        refine T.pure 48 (.bool (v.slot != 0)) (by kernel_rfl) (fun w => by kernel_rfl) ?_
        exact T.blkEnd (by kernel_rfl) (fun w h => h)
      refine T.and 49 (!(agreeD v.kind)) (v.slot != 0) (by kernel_rfl) (by kernel_rfl) ?_
      exact T.blkEnd (by kernel_rfl) (fun w h => h)
    refine T.or 50 ((agreeD v.kind) && ((decide (v.slot < 0)) || (decide (10 ≤ v.slot)))) ((!(agreeD v.kind)) && (v.slot != 0)) (by kernel_rfl) (by kernel_rfl) ?_
    refine T.nil ?_
    refine QN.seq ?_
    refine W.cond (((agreeD v.kind) && ((decide (v.slot < 0)) || (decide (10 ≤ v.slot)))) || ((!(agreeD v.kind)) && (v.slot != 0))) (by kernel_rfl) (fun h11 => ?_) (fun h11 => ?_)
    · skip
      refine W.seq ?_
      refine W.region [(0, false)] (by kernel_rfl) ?_
      refine T.pure 2 (.bool (false)) (by kernel_rfl) (fun w => by kernel_rfl) ?_
      refine T.nil ?_
      refine QN.seq ?_
      refine W.ret ?_
      refine QN.thenRet ?_
      refine QN.done (.inl rfl) 2 (.bool (false)) rfl (by kernel_rfl) (fun w hw => ⟨?_, hw.below⟩)
      exact congrArg (fun b => Ending.returned (.bool b)) (by simp only [rvalidD, h6, h11, cond_true, cond_false])
    · skip
      have h11l := (Bool.or_eq_false_iff.1 h11).1
      have h11r := (Bool.or_eq_false_iff.1 h11).2
      refine W.skip ?_
      refine QN.seq ?_
      refine W.seq ?_
      refine W.seq ?_
      refine W.drawn (Ψ := St w [(b1, .cells (v).cs 42 (0, 0))]) (St w [(b1, .cells (v).cs 42 (0, 0))]) [(0, true), (1, true), (2, true), (3, true), (4, true), (5, true), (6, true), (7, true)] hmx (by kernel_rfl) (NoPanic.then (NoPanic.then (NoPanic.body))) (fun w h => h.drew) (fun w h => h) ?_
      refine T.pure 51 (.pointer (some ⟨b1, 14, none⟩)) (by kernel_rfl) (fun w => by kernel_rfl) ?_
      refine T.loadR true 52 (v.val).cs 40 b1 14 (by kernel_rfl) (by kernel_rfl) (by kernel_rfl) (by kernel_rfl) (fun w h => St.rangeM h (v.val).cs (.head _) (by kernel_rfl)) ?_
      refine T.pure 53 (.agg (Nm.zero).cs) (by kernel_rfl) (fun w => by kernel_rfl) ?_
      refine T.eqq 54 (v.val == Nm.zero) (v.val == Nm.zero) false 40 (v.val).cs (Nm.zero).cs (by kernel_rfl) (by kernel_rfl) (by kernel_rfl) (by kernel_rfl) (fun w => eq_nm w v.val Nm.zero) ?_
      refine T.pure 55 (.pointer (some ⟨b1, 3, none⟩)) (by kernel_rfl) (fun w => by kernel_rfl) ?_
      refine T.load true 56 (.int .i64 (v.choice)) 3 b1 3 (by kernel_rfl) (by kernel_rfl) (by kernel_rfl) (fun w h => St.cellM h (.head _) (by kernel_rfl)) ?_
      refine T.pure 57 (.bool (v.choice == 1)) (by kernel_rfl) (fun w => by kernel_rfl) ?_
      refine T.pure 58 (.bool ((v.val == Nm.zero) == (v.choice == 1))) (by kernel_rfl) (fun w => by kernel_rfl) ?_
      refine T.nil ?_
      refine QN.seq ?_
      refine W.cond ((v.val == Nm.zero) == (v.choice == 1)) (by kernel_rfl) (fun h12 => ?_) (fun h12 => ?_)
      · skip
        refine W.seq ?_
        refine W.region [(0, false)] (by kernel_rfl) ?_
        refine T.pure 2 (.bool (false)) (by kernel_rfl) (fun w => by kernel_rfl) ?_
        refine T.nil ?_
        refine QN.seq ?_
        refine W.ret ?_
        refine QN.thenRet ?_
        refine QN.done (.inl rfl) 2 (.bool (false)) rfl (by kernel_rfl) (fun w hw => ⟨?_, hw.below⟩)
        exact congrArg (fun b => Ending.returned (.bool b)) (by simp only [rvalidD, h6, h11, h12, cond_true, cond_false])
      · skip
        refine W.skip ?_
        refine QN.seq ?_
        refine W.seq ?_
        refine W.seq ?_
        refine W.region [(0, false), (1, false)] (by kernel_rfl) ?_
        refine T.pure 59 (.pointer (some ⟨b1, 0, none⟩)) (by kernel_rfl) (fun w => by kernel_rfl) ?_
        refine T.load false 60 (.int .i64 (v.kind)) 3 b1 0 (by kernel_rfl) (by kernel_rfl) (by kernel_rfl) (fun w h => St.cellM h (.head _) (by kernel_rfl)) ?_
        refine T.nil ?_
        refine QN.seq ?_
        refine W.block ?_
        refine W.seq ?_
        refine W.region [(0, false), (1, false)] (by kernel_rfl) ?_
        refine T.pure 62 (.bool (v.kind == 3)) (by kernel_rfl) (fun w => by kernel_rfl) ?_
        refine T.pure 61 (.bool (v.kind == 3)) (by kernel_rfl) (fun w => by kernel_rfl) ?_
        refine T.nil ?_
        refine QN.seq ?_
        refine W.cond (v.kind == 3) (by kernel_rfl) (fun h13 => ?_) (fun h13 => ?_)
        · skip
          refine W.seq ?_
          refine W.region [(0, false), (1, false), (2, false), (3, false), (4, false), (5, false), (6, false), (7, false), (8, false), (9, false), (10, false), (11, false), (12, false), (13, false), (14, false), (15, false), (16, false), (17, false), (18, false), (19, false), (20, false), (21, false), (22, false), (23, false), (24, false), (25, false), (26, false), (27, false), (28, false), (29, false), (30, false), (31, false), (32, false), (33, false)] (by kernel_rfl) ?_
          refine T.pure 63 (.pointer (some ⟨b1, 2, none⟩)) (by kernel_rfl) (fun w => by kernel_rfl) ?_
          refine T.load false 64 (.int .i64 (v.round)) 3 b1 2 (by kernel_rfl) (by kernel_rfl) (by kernel_rfl) (fun w h => St.cellM h (.head _) (by kernel_rfl)) ?_
          refine T.pure 65 (.bool (decide (1 ≤ v.round))) (by kernel_rfl) (fun w => by kernel_rfl) ?_
          refine T.pure 66 (.bool (decide (1 ≤ v.round))) (by kernel_rfl) (fun w => by kernel_rfl) ?_
          refine T.blk [(4, false), (5, false), (6, false)] [(7, false), (8, false), (9, false), (10, false), (11, false), (12, false), (13, false), (14, false), (15, false), (16, false), (17, false), (18, false), (19, false), (20, false), (21, false), (22, false), (23, false), (24, false), (25, false), (26, false), (27, false), (28, false), (29, false), (30, false), (31, false), (32, false), (33, false)] 3 true (decide (1 ≤ v.round)) 66 69 (.bool (decide (v.round ≤ 12))) (by kernel_rfl) (by kernel_rfl) (by kernel_rfl) (fun hg14 => ?_) ?_
          · have hg14_ := hg14
            have hg14' := of_decide_eq_true hg14
            refine T.pure 67 (.pointer (some ⟨b1, 2, none⟩)) (by kernel_rfl) (fun w => by kernel_rfl) ?_
            refine T.load false 68 (.int .i64 (v.round)) 3 b1 2 (by kernel_rfl) (by kernel_rfl) (by kernel_rfl) (fun w h => St.cellM h (.head _) (by kernel_rfl)) ?_
            refine T.pure 69 (.bool (decide (v.round ≤ 12))) (by kernel_rfl) (fun w => by kernel_rfl) ?_
            exact T.blkEnd (by kernel_rfl) (fun w h => h)
          refine T.and 70 (decide (1 ≤ v.round)) (decide (v.round ≤ 12)) (by kernel_rfl) (by kernel_rfl) ?_
          refine T.pure 71 (.bool ((decide (1 ≤ v.round)) && (decide (v.round ≤ 12)))) (by kernel_rfl) (fun w => by kernel_rfl) ?_
          refine T.blk [(9, false), (10, false), (11, false), (12, false), (13, false), (14, false), (15, false), (16, false)] [(17, false), (18, false), (19, false), (20, false), (21, false), (22, false), (23, false), (24, false), (25, false), (26, false), (27, false), (28, false), (29, false), (30, false), (31, false), (32, false), (33, false)] 8 true ((decide (1 ≤ v.round)) && (decide (v.round ≤ 12))) 71 79 (.bool ((v.choice == 0) || (v.choice == 1))) (by kernel_rfl) (by kernel_rfl) (by kernel_rfl) (fun hg15 => ?_) ?_
          · have hg15_ := hg15
            have hg15l := (Bool.and_eq_true_iff.1 hg15).1
            have hg15r := (Bool.and_eq_true_iff.1 hg15).2
            have hg15l' := of_decide_eq_true hg15l
            have hg15r' := of_decide_eq_true hg15r
            refine T.pure 72 (.pointer (some ⟨b1, 3, none⟩)) (by kernel_rfl) (fun w => by kernel_rfl) ?_
            refine T.load false 73 (.int .i64 (v.choice)) 3 b1 3 (by kernel_rfl) (by kernel_rfl) (by kernel_rfl) (fun w h => St.cellM h (.head _) (by kernel_rfl)) ?_
            refine T.pure 74 (.bool (v.choice == 0)) (by kernel_rfl) (fun w => by kernel_rfl) ?_
            refine T.pure 75 (.bool (v.choice == 0)) (by kernel_rfl) (fun w => by kernel_rfl) ?_
            refine T.blk [(13, false), (14, false), (15, false)] [(16, false)] 12 false (v.choice == 0) 75 78 (.bool (v.choice == 1)) (by kernel_rfl) (by kernel_rfl) (by kernel_rfl) (fun hg16 => ?_) ?_
            · have hg16_ := hg16
              refine T.pure 76 (.pointer (some ⟨b1, 3, none⟩)) (by kernel_rfl) (fun w => by kernel_rfl) ?_
              refine T.load false 77 (.int .i64 (v.choice)) 3 b1 3 (by kernel_rfl) (by kernel_rfl) (by kernel_rfl) (fun w h => St.cellM h (.head _) (by kernel_rfl)) ?_
              refine T.pure 78 (.bool (v.choice == 1)) (by kernel_rfl) (fun w => by kernel_rfl) ?_
              exact T.blkEnd (by kernel_rfl) (fun w h => h)
            refine T.or 79 (v.choice == 0) (v.choice == 1) (by kernel_rfl) (by kernel_rfl) ?_
            exact T.blkEnd (by kernel_rfl) (fun w h => h)
          refine T.and 80 ((decide (1 ≤ v.round)) && (decide (v.round ≤ 12))) ((v.choice == 0) || (v.choice == 1)) (by kernel_rfl) (by kernel_rfl) ?_
          refine T.pure 81 (.bool (((decide (1 ≤ v.round)) && (decide (v.round ≤ 12))) && ((v.choice == 0) || (v.choice == 1)))) (by kernel_rfl) (fun w => by kernel_rfl) ?_
          refine T.blk [(19, false), (20, false), (21, false), (22, false), (23, false), (24, false), (25, false), (26, false), (27, false), (28, false), (29, false), (30, false), (31, false)] [(32, false), (33, false)] 18 true (((decide (1 ≤ v.round)) && (decide (v.round ≤ 12))) && ((v.choice == 0) || (v.choice == 1))) 81 94 (.bool (((v.round != 1) || (v.choice != 0)) || (v.support == 0))) (by kernel_rfl) (by kernel_rfl) (by kernel_rfl) (fun hg17 => ?_) ?_
          · have hg17_ := hg17
            have hg17l := (Bool.and_eq_true_iff.1 hg17).1
            have hg17r := (Bool.and_eq_true_iff.1 hg17).2
            have hg17ll := (Bool.and_eq_true_iff.1 hg17l).1
            have hg17lr := (Bool.and_eq_true_iff.1 hg17l).2
            have hg17ll' := of_decide_eq_true hg17ll
            have hg17lr' := of_decide_eq_true hg17lr
            refine T.pure 82 (.pointer (some ⟨b1, 2, none⟩)) (by kernel_rfl) (fun w => by kernel_rfl) ?_
            refine T.load false 83 (.int .i64 (v.round)) 3 b1 2 (by kernel_rfl) (by kernel_rfl) (by kernel_rfl) (fun w h => St.cellM h (.head _) (by kernel_rfl)) ?_
            refine T.pure 84 (.bool (v.round != 1)) (by kernel_rfl) (fun w => by kernel_rfl) ?_
            refine T.pure 85 (.bool (v.round != 1)) (by kernel_rfl) (fun w => by kernel_rfl) ?_
            refine T.blk [(23, false), (24, false), (25, false)] [(26, false), (27, false), (28, false), (29, false), (30, false), (31, false)] 22 false (v.round != 1) 85 88 (.bool (v.choice != 0)) (by kernel_rfl) (by kernel_rfl) (by kernel_rfl) (fun hg18 => ?_) ?_
            · have hg18_ := hg18
              refine T.pure 86 (.pointer (some ⟨b1, 3, none⟩)) (by kernel_rfl) (fun w => by kernel_rfl) ?_
              refine T.load false 87 (.int .i64 (v.choice)) 3 b1 3 (by kernel_rfl) (by kernel_rfl) (by kernel_rfl) (fun w h => St.cellM h (.head _) (by kernel_rfl)) ?_
              refine T.pure 88 (.bool (v.choice != 0)) (by kernel_rfl) (fun w => by kernel_rfl) ?_
              exact T.blkEnd (by kernel_rfl) (fun w h => h)
            refine T.or 89 (v.round != 1) (v.choice != 0) (by kernel_rfl) (by kernel_rfl) ?_
            refine T.pure 90 (.bool ((v.round != 1) || (v.choice != 0))) (by kernel_rfl) (fun w => by kernel_rfl) ?_
            refine T.blk [(28, false), (29, false), (30, false)] [(31, false)] 27 false ((v.round != 1) || (v.choice != 0)) 90 93 (.bool (v.support == 0)) (by kernel_rfl) (by kernel_rfl) (by kernel_rfl) (fun hg19 => ?_) ?_
            · have hg19_ := hg19
              have hg19l := (Bool.or_eq_false_iff.1 hg19).1
              have hg19r := (Bool.or_eq_false_iff.1 hg19).2
              refine T.pure 91 (.pointer (some ⟨b1, 5, none⟩)) (by kernel_rfl) (fun w => by kernel_rfl) ?_
              refine T.load false 92 (.int .i64 (v.support)) 25 b1 5 (by kernel_rfl) (by kernel_rfl) (by kernel_rfl) (fun w h => St.cellM h (.head _) (by kernel_rfl)) ?_
              refine T.pure 93 (.bool (v.support == 0)) (by kernel_rfl) (fun w => by kernel_rfl) ?_
              exact T.blkEnd (by kernel_rfl) (fun w h => h)
            refine T.or 94 ((v.round != 1) || (v.choice != 0)) (v.support == 0) (by kernel_rfl) (by kernel_rfl) ?_
            exact T.blkEnd (by kernel_rfl) (fun w h => h)
          refine T.and 95 (((decide (1 ≤ v.round)) && (decide (v.round ≤ 12))) && ((v.choice == 0) || (v.choice == 1))) (((v.round != 1) || (v.choice != 0)) || (v.support == 0)) (by kernel_rfl) (by kernel_rfl) ?_
          refine T.pure 2 (.bool ((((decide (1 ≤ v.round)) && (decide (v.round ≤ 12))) && ((v.choice == 0) || (v.choice == 1))) && (((v.round != 1) || (v.choice != 0)) || (v.support == 0)))) (by kernel_rfl) (fun w => by kernel_rfl) ?_
          refine T.nil ?_
          refine QN.seq ?_
          refine W.ret ?_
          refine QN.blkRet ?_
          refine QN.thenRet ?_
          refine QN.done (.inl rfl) 2 (.bool ((((decide (1 ≤ v.round)) && (decide (v.round ≤ 12))) && ((v.choice == 0) || (v.choice == 1))) && (((v.round != 1) || (v.choice != 0)) || (v.support == 0)))) rfl (by kernel_rfl) (fun w hw => ⟨?_, hw.below⟩)
          exact congrArg (fun b => Ending.returned (.bool b)) (by simp only [rvalidD, h6, h11, h12, h13, cond_true, cond_false])
        · skip
          refine W.seq ?_
          refine W.region [(0, false), (1, false)] (by kernel_rfl) ?_
          refine T.pure 97 (.bool (v.kind == 4)) (by kernel_rfl) (fun w => by kernel_rfl) ?_
          refine T.pure 96 (.bool (v.kind == 4)) (by kernel_rfl) (fun w => by kernel_rfl) ?_
          refine T.nil ?_
          refine QN.seq ?_
          refine W.cond (v.kind == 4) (by kernel_rfl) (fun h20 => ?_) (fun h20 => ?_)
          · skip
            refine W.seq ?_
            refine W.region [(0, false), (1, false), (2, false), (3, false), (4, false), (5, false), (6, false), (7, false), (8, false), (9, false), (10, false), (11, false), (12, false), (13, false), (14, false), (15, false), (16, false), (17, false), (18, false)] (by kernel_rfl) ?_
            refine T.pure 98 (.pointer (some ⟨b1, 2, none⟩)) (by kernel_rfl) (fun w => by kernel_rfl) ?_
            refine T.load false 99 (.int .i64 (v.round)) 3 b1 2 (by kernel_rfl) (by kernel_rfl) (by kernel_rfl) (fun w h => St.cellM h (.head _) (by kernel_rfl)) ?_
            refine T.pure 100 (.bool (decide (1 ≤ v.round))) (by kernel_rfl) (fun w => by kernel_rfl) ?_
            refine T.pure 101 (.bool (decide (1 ≤ v.round))) (by kernel_rfl) (fun w => by kernel_rfl) ?_
            refine T.blk [(4, false), (5, false), (6, false)] [(7, false), (8, false), (9, false), (10, false), (11, false), (12, false), (13, false), (14, false), (15, false), (16, false), (17, false), (18, false)] 3 true (decide (1 ≤ v.round)) 101 104 (.bool (decide (v.round ≤ 12))) (by kernel_rfl) (by kernel_rfl) (by kernel_rfl) (fun hg21 => ?_) ?_
            · have hg21_ := hg21
              have hg21' := of_decide_eq_true hg21
              refine T.pure 102 (.pointer (some ⟨b1, 2, none⟩)) (by kernel_rfl) (fun w => by kernel_rfl) ?_
              refine T.load false 103 (.int .i64 (v.round)) 3 b1 2 (by kernel_rfl) (by kernel_rfl) (by kernel_rfl) (fun w h => St.cellM h (.head _) (by kernel_rfl)) ?_
              refine T.pure 104 (.bool (decide (v.round ≤ 12))) (by kernel_rfl) (fun w => by kernel_rfl) ?_
              exact T.blkEnd (by kernel_rfl) (fun w h => h)
            refine T.and 105 (decide (1 ≤ v.round)) (decide (v.round ≤ 12)) (by kernel_rfl) (by kernel_rfl) ?_
            refine T.pure 106 (.bool ((decide (1 ≤ v.round)) && (decide (v.round ≤ 12)))) (by kernel_rfl) (fun w => by kernel_rfl) ?_
            refine T.blk [(9, false), (10, false), (11, false)] [(12, false), (13, false), (14, false), (15, false), (16, false), (17, false), (18, false)] 8 true ((decide (1 ≤ v.round)) && (decide (v.round ≤ 12))) 106 109 (.bool (decide (0 ≤ v.choice))) (by kernel_rfl) (by kernel_rfl) (by kernel_rfl) (fun hg22 => ?_) ?_
            · have hg22_ := hg22
              have hg22l := (Bool.and_eq_true_iff.1 hg22).1
              have hg22r := (Bool.and_eq_true_iff.1 hg22).2
              have hg22l' := of_decide_eq_true hg22l
              have hg22r' := of_decide_eq_true hg22r
              refine T.pure 107 (.pointer (some ⟨b1, 3, none⟩)) (by kernel_rfl) (fun w => by kernel_rfl) ?_
              refine T.load false 108 (.int .i64 (v.choice)) 3 b1 3 (by kernel_rfl) (by kernel_rfl) (by kernel_rfl) (fun w h => St.cellM h (.head _) (by kernel_rfl)) ?_
              refine T.pure 109 (.bool (decide (0 ≤ v.choice))) (by kernel_rfl) (fun w => by kernel_rfl) ?_
              exact T.blkEnd (by kernel_rfl) (fun w h => h)
            refine T.and 110 ((decide (1 ≤ v.round)) && (decide (v.round ≤ 12))) (decide (0 ≤ v.choice)) (by kernel_rfl) (by kernel_rfl) ?_
            refine T.pure 111 (.bool (((decide (1 ≤ v.round)) && (decide (v.round ≤ 12))) && (decide (0 ≤ v.choice)))) (by kernel_rfl) (fun w => by kernel_rfl) ?_
            refine T.blk [(14, false), (15, false), (16, false)] [(17, false), (18, false)] 13 true (((decide (1 ≤ v.round)) && (decide (v.round ≤ 12))) && (decide (0 ≤ v.choice))) 111 114 (.bool (decide (v.choice ≤ 2))) (by kernel_rfl) (by kernel_rfl) (by kernel_rfl) (fun hg23 => ?_) ?_
            · have hg23_ := hg23
              have hg23l := (Bool.and_eq_true_iff.1 hg23).1
              have hg23r := (Bool.and_eq_true_iff.1 hg23).2
              have hg23ll := (Bool.and_eq_true_iff.1 hg23l).1
              have hg23lr := (Bool.and_eq_true_iff.1 hg23l).2
              have hg23ll' := of_decide_eq_true hg23ll
              have hg23lr' := of_decide_eq_true hg23lr
              have hg23r' := of_decide_eq_true hg23r
              refine T.pure 112 (.pointer (some ⟨b1, 3, none⟩)) (by kernel_rfl) (fun w => by kernel_rfl) ?_
              refine T.load false 113 (.int .i64 (v.choice)) 3 b1 3 (by kernel_rfl) (by kernel_rfl) (by kernel_rfl) (fun w h => St.cellM h (.head _) (by kernel_rfl)) ?_
              refine T.pure 114 (.bool (decide (v.choice ≤ 2))) (by kernel_rfl) (fun w => by kernel_rfl) ?_
              exact T.blkEnd (by kernel_rfl) (fun w h => h)
            refine T.and 115 (((decide (1 ≤ v.round)) && (decide (v.round ≤ 12))) && (decide (0 ≤ v.choice))) (decide (v.choice ≤ 2)) (by kernel_rfl) (by kernel_rfl) ?_
            refine T.pure 2 (.bool ((((decide (1 ≤ v.round)) && (decide (v.round ≤ 12))) && (decide (0 ≤ v.choice))) && (decide (v.choice ≤ 2)))) (by kernel_rfl) (fun w => by kernel_rfl) ?_
            refine T.nil ?_
            refine QN.seq ?_
            refine W.ret ?_
            refine QN.blkRet ?_
            refine QN.thenRet ?_
            refine QN.done (.inl rfl) 2 (.bool ((((decide (1 ≤ v.round)) && (decide (v.round ≤ 12))) && (decide (0 ≤ v.choice))) && (decide (v.choice ≤ 2)))) rfl (by kernel_rfl) (fun w hw => ⟨?_, hw.below⟩)
            exact congrArg (fun b => Ending.returned (.bool b)) (by simp only [rvalidD, h6, h11, h12, h13, h20, cond_true, cond_false])
          · skip
            refine W.skip ?_
            refine QN.blkNormal ?_
            refine QN.seq ?_
            refine W.seq ?_
            refine W.region [(0, false), (1, false), (2, false), (3, false), (4, false), (5, false), (6, false), (7, false), (8, false), (9, false), (10, false), (11, false), (12, false), (13, false)] (by kernel_rfl) ?_
            refine T.pure 116 (.pointer (some ⟨b1, 2, none⟩)) (by kernel_rfl) (fun w => by kernel_rfl) ?_
            refine T.load false 117 (.int .i64 (v.round)) 3 b1 2 (by kernel_rfl) (by kernel_rfl) (by kernel_rfl) (fun w h => St.cellM h (.head _) (by kernel_rfl)) ?_
            refine T.pure 118 (.bool (v.round == 0)) (by kernel_rfl) (fun w => by kernel_rfl) ?_
            refine T.pure 119 (.bool (v.round == 0)) (by kernel_rfl) (fun w => by kernel_rfl) ?_
            refine T.blk [(4, false), (5, false), (6, false)] [(7, false), (8, false), (9, false), (10, false), (11, false), (12, false), (13, false)] 3 true (v.round == 0) 119 122 (.bool (v.choice == 1)) (by kernel_rfl) (by kernel_rfl) (by kernel_rfl) (fun hg24 => ?_) ?_
            · have hg24_ := hg24
              refine T.pure 120 (.pointer (some ⟨b1, 3, none⟩)) (by kernel_rfl) (fun w => by kernel_rfl) ?_
              refine T.load false 121 (.int .i64 (v.choice)) 3 b1 3 (by kernel_rfl) (by kernel_rfl) (by kernel_rfl) (fun w h => St.cellM h (.head _) (by kernel_rfl)) ?_
              refine T.pure 122 (.bool (v.choice == 1)) (by kernel_rfl) (fun w => by kernel_rfl) ?_
              exact T.blkEnd (by kernel_rfl) (fun w h => h)
            refine T.and 123 (v.round == 0) (v.choice == 1) (by kernel_rfl) (by kernel_rfl) ?_
            refine T.pure 124 (.bool ((v.round == 0) && (v.choice == 1))) (by kernel_rfl) (fun w => by kernel_rfl) ?_
            refine T.blk [(9, false), (10, false), (11, false)] [(12, false), (13, false)] 8 true ((v.round == 0) && (v.choice == 1)) 124 127 (.bool (v.support == 0)) (by kernel_rfl) (by kernel_rfl) (by kernel_rfl) (fun hg25 => ?_) ?_
            · have hg25_ := hg25
              have hg25l := (Bool.and_eq_true_iff.1 hg25).1
              have hg25r := (Bool.and_eq_true_iff.1 hg25).2
              refine T.pure 125 (.pointer (some ⟨b1, 5, none⟩)) (by kernel_rfl) (fun w => by kernel_rfl) ?_
              refine T.load false 126 (.int .i64 (v.support)) 25 b1 5 (by kernel_rfl) (by kernel_rfl) (by kernel_rfl) (fun w h => St.cellM h (.head _) (by kernel_rfl)) ?_
              refine T.pure 127 (.bool (v.support == 0)) (by kernel_rfl) (fun w => by kernel_rfl) ?_
              exact T.blkEnd (by kernel_rfl) (fun w h => h)
            refine T.and 128 ((v.round == 0) && (v.choice == 1)) (v.support == 0) (by kernel_rfl) (by kernel_rfl) ?_
            refine T.pure 2 (.bool (((v.round == 0) && (v.choice == 1)) && (v.support == 0))) (by kernel_rfl) (fun w => by kernel_rfl) ?_
            refine T.nil ?_
            refine QN.seq ?_
            refine W.ret ?_
            refine QN.done (.inl rfl) 2 (.bool (((v.round == 0) && (v.choice == 1)) && (v.support == 0))) rfl (by kernel_rfl) (fun w hw => ⟨?_, hw.below⟩)
            exact congrArg (fun b => Ending.returned (.bool b)) (by simp only [rvalidD, h6, h11, h12, h13, h20, cond_false])
theorem rvalid_eq (v : Vt) : rvalidD v = validB v := by
  unfold rvalidD validB restB btw agreeD
  generalize (v.val == Nm.zero) = z
  generalize (bits .andNot .i64 v.support 1023 != 0) = y
  obtain ⟨k, sl, r, c, sg, su, p, x⟩ := v
  simp only
  rw [Bool.eq_iff_iff]
  cases y <;> cases z <;> simp [Bool.cond_eq_ite] <;> repeat (first | omega | split)

theorem rvalid_c (v : Vt) (w : World) : Ret Try.prog 45 #[.agg v.cs] w (.bool (validB v)) := by
  rw [← rvalid_eq]; exact rvalidD_c v w
def rcntD (m : Int) (v : Vt) (u : Vt) : Bool := ((((u.par == v.par) && (u.slot == v.slot)) && (hasB m u.signer)) && (hasB m u.slot)) && (validB u)
set_option maxRecDepth 100000 in
set_option maxHeartbeats 2000000 in
theorem rcnt_c (m : Int) (v : Vt) (u : Vt) (hm : W64 m) (w : World) : Calls Try.prog 67 #[.int .i64 (m), .agg (v).cs, .agg (u).cs] w (fun rr w' => rr = .returned (.bool (rcntD m v u)) ∧ Below w.heap.size w w') := by
  refine calls_W (n := 35) Try.func67 rfl [(0, .int .i64 (m)), (1, .agg (v).cs), (2, .agg (u).cs)] rfl ⟨by kernel_rfl, by kernel_rfl⟩ ?_
  refine W.weak (Ψ := St w []) (fun w' h => by rw [h]; exact St.start w) ?_
  refine W.seq ?_
  refine W.region [(0, false), (1, false), (2, false)] (by kernel_rfl) ?_
  refine T.box 4 42 (.agg (v).cs) ((v).cs) (by kernel_rfl) (by kernel_rfl) (by kernel_rfl) (fun _ _ _ => trivial) (fun b1 => ?_)
  refine T.box 5 42 (.agg (u).cs) ((u).cs) (by kernel_rfl) (by kernel_rfl) (by kernel_rfl) (fun _ _ _ => trivial) (fun b2 => ?_)
  refine T.pure 6 (.bool (false)) (by kernel_rfl) (fun w => by kernel_rfl) ?_
  refine T.nil ?_
  refine QN.seq ?_
  refine W.seq ?_
  refine W.region [(0, false), (1, false), (2, false), (3, false), (4, false), (5, false), (6, false), (7, false), (8, false), (9, false), (10, false), (11, false), (12, false), (13, false), (14, false), (15, false), (16, false), (17, false), (18, false), (19, false), (20, false), (21, false), (22, false), (23, false), (24, false), (25, false), (26, false), (27, false), (28, false)] (by kernel_rfl) ?_
  refine T.pure 7 (.pointer (some ⟨b2, 6, none⟩)) (by kernel_rfl) (fun w => by kernel_rfl) ?_
  refine T.loadR false 8 (u.par).cs 40 b2 6 (by kernel_rfl) (by kernel_rfl) (by kernel_rfl) (by kernel_rfl) (fun w h => St.rangeM h (u.par).cs (.head _) (by kernel_rfl)) ?_
  refine T.pure 9 (.pointer (some ⟨b1, 6, none⟩)) (by kernel_rfl) (fun w => by kernel_rfl) ?_
  refine T.loadR false 10 (v.par).cs 40 b1 6 (by kernel_rfl) (by kernel_rfl) (by kernel_rfl) (by kernel_rfl) (fun w h => St.rangeM h (v.par).cs (.tail _ (.head _)) (by kernel_rfl)) ?_
  refine T.eqq 11 (u.par == v.par) (u.par == v.par) false 40 (u.par).cs (v.par).cs (by kernel_rfl) (by kernel_rfl) (by kernel_rfl) (by kernel_rfl) (fun w => eq_nm w u.par v.par) ?_
  refine T.pure 12 (.bool (u.par == v.par)) (by kernel_rfl) (fun w => by kernel_rfl) ?_
  refine T.blk [(6, false), (7, false), (8, false), (9, false), (10, false)] [(11, false), (12, false), (13, false), (14, false), (15, false), (16, false), (17, false), (18, false), (19, false), (20, false), (21, false), (22, false), (23, false), (24, false), (25, false), (26, false), (27, false), (28, false)] 5 true (u.par == v.par) 12 17 (.bool (u.slot == v.slot)) (by kernel_rfl) (by kernel_rfl) (by kernel_rfl) (fun hg3 => ?_) ?_
  · have hg3_ := hg3
    refine T.pure 13 (.pointer (some ⟨b2, 1, none⟩)) (by kernel_rfl) (fun w => by kernel_rfl) ?_
    refine T.load false 14 (.int .i64 (u.slot)) 3 b2 1 (by kernel_rfl) (by kernel_rfl) (by kernel_rfl) (fun w h => St.cellM h (.head _) (by kernel_rfl)) ?_
    refine T.pure 15 (.pointer (some ⟨b1, 1, none⟩)) (by kernel_rfl) (fun w => by kernel_rfl) ?_
    refine T.load false 16 (.int .i64 (v.slot)) 3 b1 1 (by kernel_rfl) (by kernel_rfl) (by kernel_rfl) (fun w h => St.cellM h (.tail _ (.head _)) (by kernel_rfl)) ?_
    refine T.pure 17 (.bool (u.slot == v.slot)) (by kernel_rfl) (fun w => by kernel_rfl) ?_
    exact T.blkEnd (by kernel_rfl) (fun w h => h)
  refine T.and 18 (u.par == v.par) (u.slot == v.slot) (by kernel_rfl) (by kernel_rfl) ?_
  refine T.pure 19 (.bool ((u.par == v.par) && (u.slot == v.slot))) (by kernel_rfl) (fun w => by kernel_rfl) ?_
  refine T.blk [(13, false), (14, false), (15, false), (16, false)] [(17, false), (18, false), (19, false), (20, false), (21, false), (22, false), (23, false), (24, false), (25, false), (26, false), (27, false), (28, false)] 12 true ((u.par == v.par) && (u.slot == v.slot)) 19 23 (.bool (hasB m u.signer)) (by kernel_rfl) (by kernel_rfl) (by kernel_rfl) (fun hg4 => ?_) ?_
  · have hg4_ := hg4
    have hg4l := (Bool.and_eq_true_iff.1 hg4).1
    have hg4r := (Bool.and_eq_true_iff.1 hg4).2
    refine T.pure 20 (.int .i64 (m)) (by kernel_rfl) (fun w => by kernel_rfl) ?_
    refine T.pure 21 (.pointer (some ⟨b2, 4, none⟩)) (by kernel_rfl) (fun w => by kernel_rfl) ?_
    refine T.load false 22 (.int .i64 (u.signer)) 3 b2 4 (by kernel_rfl) (by kernel_rfl) (by kernel_rfl) (fun w h => St.cellM h (.head _) (by kernel_rfl)) ?_
    refine T.callP 23 24 #[.int .i64 (m), .int .i64 (u.signer)] (.bool (hasB m u.signer)) (by kernel_rfl) (by kernel_rfl) ent24 (fun w hw => Ret.same (rhas_c _ _ w (by first | assumption | exact w64_and _ _ | exact w64_or _ _ | exact w64_andNot _ _ | (unfold W64; omega)))) (fun _ _ => trivial) ?_
    exact T.blkEnd (by kernel_rfl) (fun w h => h)
  refine T.and 24 ((u.par == v.par) && (u.slot == v.slot)) (hasB m u.signer) (by kernel_rfl) (by kernel_rfl) ?_
  refine T.pure 25 (.bool (((u.par == v.par) && (u.slot == v.slot)) && (hasB m u.signer))) (by kernel_rfl) (fun w => by kernel_rfl) ?_
  refine T.blk [(19, false), (20, false), (21, false), (22, false)] [(23, false), (24, false), (25, false), (26, false), (27, false), (28, false)] 18 true (((u.par == v.par) && (u.slot == v.slot)) && (hasB m u.signer)) 25 29 (.bool (hasB m u.slot)) (by kernel_rfl) (by kernel_rfl) (by kernel_rfl) (fun hg5 => ?_) ?_
  · have hg5_ := hg5
    have hg5l := (Bool.and_eq_true_iff.1 hg5).1
    have hg5r := (Bool.and_eq_true_iff.1 hg5).2
    have hg5ll := (Bool.and_eq_true_iff.1 hg5l).1
    have hg5lr := (Bool.and_eq_true_iff.1 hg5l).2
    have hg5rb := hasB_lt hg5r
    refine T.pure 26 (.int .i64 (m)) (by kernel_rfl) (fun w => by kernel_rfl) ?_
    refine T.pure 27 (.pointer (some ⟨b2, 1, none⟩)) (by kernel_rfl) (fun w => by kernel_rfl) ?_
    refine T.load false 28 (.int .i64 (u.slot)) 3 b2 1 (by kernel_rfl) (by kernel_rfl) (by kernel_rfl) (fun w h => St.cellM h (.head _) (by kernel_rfl)) ?_
    refine T.callP 29 24 #[.int .i64 (m), .int .i64 (u.slot)] (.bool (hasB m u.slot)) (by kernel_rfl) (by kernel_rfl) ent24 (fun w hw => Ret.same (rhas_c _ _ w (by first | assumption | exact w64_and _ _ | exact w64_or _ _ | exact w64_andNot _ _ | (unfold W64; omega)))) (fun _ _ => trivial) ?_
    exact T.blkEnd (by kernel_rfl) (fun w h => h)
  refine T.and 30 (((u.par == v.par) && (u.slot == v.slot)) && (hasB m u.signer)) (hasB m u.slot) (by kernel_rfl) (by kernel_rfl) ?_
  refine T.pure 31 (.bool ((((u.par == v.par) && (u.slot == v.slot)) && (hasB m u.signer)) && (hasB m u.slot))) (by kernel_rfl) (fun w => by kernel_rfl) ?_
  refine T.blk [(25, false), (26, false)] [(27, false), (28, false)] 24 true ((((u.par == v.par) && (u.slot == v.slot)) && (hasB m u.signer)) && (hasB m u.slot)) 31 33 (.bool (validB u)) (by kernel_rfl) (by kernel_rfl) (by kernel_rfl) (fun hg6 => ?_) ?_
  · have hg6_ := hg6
    have hg6l := (Bool.and_eq_true_iff.1 hg6).1
    have hg6r := (Bool.and_eq_true_iff.1 hg6).2
    have hg6ll := (Bool.and_eq_true_iff.1 hg6l).1
    have hg6lr := (Bool.and_eq_true_iff.1 hg6l).2
    have hg6lll := (Bool.and_eq_true_iff.1 hg6ll).1
    have hg6llr := (Bool.and_eq_true_iff.1 hg6ll).2
    have hg6lrb := hasB_lt hg6lr
    have hg6rb := hasB_lt hg6r
    refine T.loadR false 32 (u).cs 42 b2 0 (by kernel_rfl) (by kernel_rfl) (by kernel_rfl) (by kernel_rfl) (fun w h => St.rangeM h (u).cs (.head _) (by kernel_rfl)) ?_
    refine T.callP 33 45 #[.agg (u).cs] (.bool (validB u)) (by kernel_rfl) (by kernel_rfl) ent45 (fun w hw => rvalid_c _ w) (fun _ _ => trivial) ?_
    exact T.blkEnd (by kernel_rfl) (fun w h => h)
  refine T.and 34 ((((u.par == v.par) && (u.slot == v.slot)) && (hasB m u.signer)) && (hasB m u.slot)) (validB u) (by kernel_rfl) (by kernel_rfl) ?_
  refine T.pure 6 (.bool (((((u.par == v.par) && (u.slot == v.slot)) && (hasB m u.signer)) && (hasB m u.slot)) && (validB u))) (by kernel_rfl) (fun w => by kernel_rfl) ?_
  refine T.nil ?_
  refine QN.seq ?_
  refine W.ret ?_
  refine QN.done (.inl rfl) 6 (.bool (((((u.par == v.par) && (u.slot == v.slot)) && (hasB m u.signer)) && (hasB m u.slot)) && (validB u))) rfl (by kernel_rfl) (fun w hw => ⟨?_, hw.below⟩)
  exact congrArg (fun b => Ending.returned (.bool b)) (by simp only [rcntD])
def bitD (i : Int) : Int := bif ((decide (i < 0)) || (decide (10 ≤ i))) then 0 else (2 ^ (i).toNat)
set_option maxRecDepth 100000 in
set_option maxHeartbeats 2000000 in
theorem rbit_cD (i : Int) (hi : W64 i) (w : World) : Calls Try.prog 37 #[.int .i64 (i)] w (fun rr w' => rr = .returned (.int .i64 (bitD i)) ∧ Below w.heap.size w w') := by
  have hi1 := hi.1
  have hi2 := hi.2
  refine calls_W (n := 12) Try.func37 rfl [(0, .int .i64 (i))] rfl ⟨by kernel_rfl, by kernel_rfl⟩ ?_
  refine W.weak (Ψ := St w []) (fun w' h => by rw [h]; exact St.start w) ?_
  refine W.seq ?_
  refine W.region [(0, false)] (by kernel_rfl) ?_
  refine T.pure 2 (.int .i64 (0)) (by kernel_rfl) (fun w => by kernel_rfl) ?_
  refine T.nil ?_
  refine QN.seq ?_
  refine W.seq ?_
  refine W.seq ?_
  refine W.region [(0, false), (1, false), (2, false), (3, false), (4, false), (5, false)] (by kernel_rfl) ?_
  refine T.pure 3 (.int .i64 (i)) (by kernel_rfl) (fun w => by kernel_rfl) ?_
  refine T.pure 4 (.bool (decide (i < 0))) (by kernel_rfl) (fun w => by kernel_rfl) ?_
  refine T.pure 5 (.bool (decide (i < 0))) (by kernel_rfl) (fun w => by kernel_rfl) ?_
  refine T.blk [(3, false), (4, false)] [(5, false)] 2 false (decide (i < 0)) 5 7 (.bool (decide (10 ≤ i))) (by kernel_rfl) (by kernel_rfl) (by kernel_rfl) (fun hg1 => ?_) ?_
  · have hg1_ := hg1
    have hg1' := of_decide_eq_false hg1
    refine T.pure 6 (.int .i64 (i)) (by kernel_rfl) (fun w => by kernel_rfl) ?_
    refine T.pure 7 (.bool (decide (10 ≤ i))) (by kernel_rfl) (fun w => by kernel_rfl) ?_
    exact T.blkEnd (by kernel_rfl) (fun w h => h)
  refine T.or 8 (decide (i < 0)) (decide (10 ≤ i)) (by kernel_rfl) (by kernel_rfl) ?_
  refine T.nil ?_
  refine QN.seq ?_
  refine W.cond ((decide (i < 0)) || (decide (10 ≤ i))) (by kernel_rfl) (fun h2 => ?_) (fun h2 => ?_)
  · skip
    refine W.seq ?_
    refine W.region [(0, false)] (by kernel_rfl) ?_
    refine T.pure 2 (.int .i64 (0)) (by kernel_rfl) (fun w => by kernel_rfl) ?_
    refine T.nil ?_
    refine QN.seq ?_
    refine W.ret ?_
    refine QN.thenRet ?_
    refine QN.done (.inl rfl) 2 (.int .i64 (0)) rfl (by kernel_rfl) (fun w hw => ⟨?_, hw.below⟩)
    exact congrArg (fun b => Ending.returned (.int .i64 b)) (by simp only [bitD, h2, cond_true])
  · skip
    have h2l := (Bool.or_eq_false_iff.1 h2).1
    have h2r := (Bool.or_eq_false_iff.1 h2).2
    have h2l' := of_decide_eq_false h2l
    have h2r' := of_decide_eq_false h2r
    refine W.skip ?_
    refine QN.seq ?_
    refine W.seq ?_
    refine W.region [(0, false), (1, false), (2, false), (3, false)] (by kernel_rfl) ?_
    refine T.pure 9 (.int .i64 (i)) (by kernel_rfl) (fun w => by kernel_rfl) ?_
    refine T.pureE 10 (.int .u64 (IntKind.u64.wrap i)) (.int .u64 (i)) (by kernel_rfl) (fun w => by kernel_rfl) (wrapu_int (by omega) (by omega)) ?_
    refine T.shl 11 .i64 .u64 1 (i) (.int .i64 (2 ^ (i).toNat)) (by kernel_rfl) (by kernel_rfl) (by omega) (shl_one (by omega) (by omega)) ?_
    refine T.pure 2 (.int .i64 (2 ^ (i).toNat)) (by kernel_rfl) (fun w => by kernel_rfl) ?_
    refine T.nil ?_
    refine QN.seq ?_
    refine W.ret ?_
    refine QN.done (.inl rfl) 2 (.int .i64 (2 ^ (i).toNat)) rfl (by kernel_rfl) (fun w hw => ⟨?_, hw.below⟩)
    exact congrArg (fun b => Ending.returned (.int .i64 b)) (by simp only [bitD, h2, cond_false])
end Go.Proofs.Yteejjjlheacamaa
