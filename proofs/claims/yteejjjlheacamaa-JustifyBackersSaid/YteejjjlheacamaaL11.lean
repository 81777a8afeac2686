/- The walks of JustifyAllows, JustifyEach, JustifyGrows. -/
import Derived.Test.YteejjjlheacamaaLaw11q
import Derived.Test.YteejjjlheacamaaLaw11a
namespace Go.Proofs.Yteejjjlheacamaa
open Go Go.RowKit
set_option linter.unusedVariables false

set_option maxRecDepth 100000 in
set_option maxHeartbeats 2000000 in
theorem JustifyAllows_c (m : Int) (v : Vt) (a : List Vt) (A : Option Addr) (c : Nat) (w : World) (hm : W64 m) (hok : v.Ok) (h1 : a.length ≤ c) (h2 : c ≤ maxLen) (hr : Rd w A a) : Calls Try.prog 10 #[.int .i64 (m), .agg (v).cs, .slice A (a.length) c] w (fun rr w' => rr = .returned (.bool (true)) ∧ Below w.heap.size w w') := by
  refine calls_W (n := 21) Try.func10 rfl [(0, .int .i64 (m)), (1, .agg (v).cs), (2, .slice A (a.length) c)] rfl ⟨by kernel_rfl, by kernel_rfl⟩ ?_
  refine W.weak (Ψ := St w []) (fun w' h => by rw [h]; exact St.start w) ?_
  refine W.seq ?_
  refine W.region [(0, false), (1, false)] (by kernel_rfl) ?_
  refine T.box 4 42 (.agg (v).cs) ((v).cs) (by kernel_rfl) (by kernel_rfl) (by kernel_rfl) (fun _ _ _ => trivial) (fun b1 => ?_)
  refine T.pure 6 (.bool (false)) (by kernel_rfl) (fun w => by kernel_rfl) ?_
  refine T.nil ?_
  refine QN.seq ?_
  refine W.seq ?_
  refine W.region [(0, false), (1, false), (2, false)] (by kernel_rfl) ?_
  refine T.pure 7 (.slice A (a.length) c) (by kernel_rfl) (fun w => by kernel_rfl) ?_
  refine T.callP 8 31 #[.slice A (a.length) c] (.slice A ((a.take 300).length) c) (by kernel_rfl) (by kernel_rfl) ent31 (fun w hw => Ret.same' (cut11_c _ _ _ h1 h2 w)) (fun _ _ => trivial) ?_
  refine T.pure 2 (.slice A ((a.take 300).length) c) (by kernel_rfl) (fun w => by kernel_rfl) ?_
  refine T.nil ?_
  refine QN.seq ?_
  refine W.seq ?_
  refine W.drawn (Ψ := St w [(b1, .cells (v).cs 42 (0, 0))]) (St w [(b1, .cells (v).cs 42 (0, 0))]) [(0, true), (1, true), (2, true), (4, true), (5, true), (6, true), (3, false), (7, false), (8, true), (9, true), (10, false), (11, true), (12, false)] hmx (by kernel_rfl) (NoPanic.then (NoPanic.body)) (fun w h => h.drew) (fun w h => h) ?_
  refine T.pure 9 (.int .i64 (m)) (by kernel_rfl) (fun w => by kernel_rfl) ?_
  refine T.loadR true 10 (v).cs 42 b1 0 (by kernel_rfl) (by kernel_rfl) (by kernel_rfl) (by kernel_rfl) (fun w h => St.rangeM h (v).cs (.head _) (by kernel_rfl)) ?_
  refine T.pure 11 (.slice A ((a.take 300).length) c) (by kernel_rfl) (fun w => by kernel_rfl) ?_
  refine T.pure 13 (.int .i64 (m)) (by kernel_rfl) (fun w => by kernel_rfl) ?_
  refine T.loadR true 14 (v).cs 42 b1 0 (by kernel_rfl) (by kernel_rfl) (by kernel_rfl) (by kernel_rfl) (fun w h => St.rangeM h (v).cs (.head _) (by kernel_rfl)) ?_
  refine T.pure 15 (.slice A ((a.take 300).length) c) (by kernel_rfl) (fun w => by kernel_rfl) ?_
  refine T.callP 12 32 #[.int .i64 (m), .agg (v).cs, .slice A ((a.take 300).length) c] (.bool (allowB m v (a.take 300))) (by kernel_rfl) (by kernel_rfl) ent32 (fun w hw => allowed_c _ (by first | assumption | exact w64_and _ _ | exact w64_or _ _ | exact w64_andNot _ _ | (unfold W64; omega)) _ hok.support _ _ _ (by first | omega | (simp; omega)) w (Arr.rd ((Rd.arr hr _).take _) hw).v) (fun w h => h) ?_
  refine T.callP 16 33 #[.int .i64 (m), .agg (v).cs, .slice A ((a.take 300).length) c] (.bool (rallowB m v (a.take 300))) (by kernel_rfl) (by kernel_rfl) ent33 (fun w hw => rallowed_c _ _ _ _ _ (by first | assumption | exact w64_and _ _ | exact w64_or _ _ | exact w64_andNot _ _ | (unfold W64; omega)) hok.support (by first | omega | (simp; omega)) w (Arr.rd ((Rd.arr hr _).take _) hw)) (fun w h => h) ?_
  refine T.pure 17 (.bool ((allowB m v (a.take 300)) == (rallowB m v (a.take 300)))) (by kernel_rfl) (fun w => by kernel_rfl) ?_
  refine T.pure 18 (.bool ((allowB m v (a.take 300)) == (rallowB m v (a.take 300)))) (by kernel_rfl) (fun w => by kernel_rfl) ?_
  refine T.blk [(10, false)] [(11, true), (12, false)] 9 true ((allowB m v (a.take 300)) == (rallowB m v (a.take 300))) 18 19 (.bool (true)) (by kernel_rfl) (by kernel_rfl) (by kernel_rfl) (fun hg2 => ?_) ?_
  · have hg2_ := hg2
    refine T.callP 19 34 #[] (.bool (true)) (by kernel_rfl) (by kernel_rfl) ent34 (fun w hw => awake11_c w) (fun w h => h) ?_
    exact T.blkEnd (by kernel_rfl) (fun w h => h)
  refine T.and 20 ((allowB m v (a.take 300)) == (rallowB m v (a.take 300))) (true) (by kernel_rfl) (by kernel_rfl) ?_
  refine T.pure 6 (.bool (((allowB m v (a.take 300)) == (rallowB m v (a.take 300))) && true)) (by kernel_rfl) (fun w => by kernel_rfl) ?_
  refine T.nil ?_
  refine QN.seq ?_
  refine W.ret ?_
  refine QN.done (.inl rfl) 6 (.bool (((allowB m v (a.take 300)) == (rallowB m v (a.take 300))) && true)) rfl (by kernel_rfl) (fun w hw => ⟨?_, hw.below⟩)
  exact ret_bool (by rw [rallow_eq]; simp)
theorem JustifyAllows_w (w : World) (a0 : Int) (v1 : Value) (x1 : Vt) (v2 : Value) (x2 : List Vt) (h0 : W64 a0) (h1 : v1 = .agg x1.cs ∧ x1.Ok) (h2 : VS w v2 x2) : Calls Try.prog 10 #[.int .i64 a0, v1, v2] w fun e w' => e = .returned (.bool true) ∧ Below w.heap.size w w' := by
  obtain ⟨rfl, k1⟩ := h1
  obtain ⟨A2, c2, rfl, l2, m2, r2, k2⟩ := h2
  exact JustifyAllows_c _ _ _ _ _ w h0 k1 l2 m2 r2.rd
set_option maxRecDepth 100000 in
set_option maxHeartbeats 2000000 in
theorem JustifyEach_c (m : Int) (a : List Vt) (A : Option Addr) (c : Nat) (w : World) (hm : W64 m) (h1 : a.length ≤ c) (h2 : c ≤ maxLen) (hr : Rd w A a) (hall : ∀ u ∈ a, u.Ok) : Calls Try.prog 11 #[.int .i64 (m), .slice A (a.length) c] w (fun rr w' => rr = .returned (.bool (true)) ∧ Below w.heap.size w w') := by
  unfold maxLen at h2
  have ht : (a.take 60).length ≤ a.length := by simp; omega
  have ht2 : (a.take 60).length ≤ 60 := List.length_take_le _ _
  refine calls_W (n := 54) Try.func11 rfl [(0, .int .i64 (m)), (1, .slice A (a.length) c)] rfl ⟨by kernel_rfl, by kernel_rfl⟩ ?_
  refine W.weak (Ψ := St w []) (fun w' h => by rw [h]; exact St.start w) ?_
  refine W.seq ?_
  refine W.region [(0, false)] (by kernel_rfl) ?_
  refine T.pure 4 (.bool (false)) (by kernel_rfl) (fun w => by kernel_rfl) ?_
  refine T.nil ?_
  refine QN.seq ?_
  refine W.seq ?_
  refine W.seq ?_
  refine W.region [(0, false), (1, false), (2, false)] (by kernel_rfl) ?_
  refine T.pure 6 (.slice A (a.length) c) (by kernel_rfl) (fun w => by kernel_rfl) ?_
  refine T.pure 7 (.int .i64 (((a.length : Nat) : Int))) (by kernel_rfl) (fun w => by kernel_rfl) ?_
  refine T.pure 8 (.bool (decide (60 < ((a.length : Nat) : Int)))) (by kernel_rfl) (fun w => by kernel_rfl) ?_
  refine T.nil ?_
  refine QN.seq ?_
  refine W.cond (decide (60 < ((a.length : Nat) : Int))) (by kernel_rfl) (fun h1 => ?_) (fun h1 => ?_)
  · skip
    have h1' := of_decide_eq_true h1
    refine W.region [(0, false), (1, false), (2, false)] (by kernel_rfl) ?_
    refine T.pure 9 (.slice A (a.length) c) (by kernel_rfl) (fun w => by kernel_rfl) ?_
    have hsl2 : (a.take 60).length = 60 := by simp; omega
    refine T.sliceTo 10 43 42 A (a.length) c (60) ((a.take 60).length) (by kernel_rfl) (by kernel_rfl) (by kernel_rfl) (by kernel_rfl) (by omega) (by omega) ?_
    refine T.pure 1 (.slice A ((a.take 60).length) c) (by kernel_rfl) (fun w => by kernel_rfl) ?_
    refine T.nil ?_
    refine QN.seq ?_
    refine W.seq ?_
    refine W.seq ?_
    refine W.region [(0, false)] (by kernel_rfl) ?_
    refine T.pure 5 (.int .i64 (0)) (by kernel_rfl) (fun w => by kernel_rfl) ?_
    refine T.nil ?_
    refine QN.seq ?_
    refine W.block ?_
    refine W.loop (σ := Nat) (fun gs => gs ≤ (a.take 60).length) (fun gs => [(0, .int .i64 (m)), (1, .slice A ((a.take 60).length) c), (5, .int .i64 ((gs : Int)))]) (fun gs => St w []) (fun gs => (a.take 60).length - gs) (0) ?_ (by kernel_rfl) (fun w h => h) ?_
    · show 0 ≤ (a.take 60).length
      exact Nat.zero_le _
    rintro j hI_
    obtain hj : j ≤ (a.take 60).length := hI_
    show W _ _ [(0, .int .i64 (m)), (1, .slice A ((a.take 60).length) c), (5, .int .i64 ((j : Int)))] (St w []) _ _
    refine W.seq ?_
    refine W.seq ?_
    refine W.region [(0, false), (1, false), (2, false), (3, false)] (by kernel_rfl) ?_
    refine T.pure 11 (.int .i64 ((j : Int))) (by kernel_rfl) (fun w => by kernel_rfl) ?_
    refine T.pure 12 (.slice A ((a.take 60).length) c) (by kernel_rfl) (fun w => by kernel_rfl) ?_
    refine T.pure 13 (.int .i64 ((((a.take 60).length : Nat) : Int))) (by kernel_rfl) (fun w => by kernel_rfl) ?_
    refine T.pure 14 (.bool (decide ((j : Int) < (((a.take 60).length : Nat) : Int)))) (by kernel_rfl) (fun w => by kernel_rfl) ?_
    refine T.nil ?_
    refine QN.seq ?_
    refine W.cond (decide ((j : Int) < (((a.take 60).length : Nat) : Int))) (by kernel_rfl) (fun h3 => ?_) (fun h3 => ?_)
    · skip
      have h3' := of_decide_eq_true h3
      refine W.skip ?_
      refine QN.seq ?_
      refine W.seq ?_
      refine W.block ?_
      refine W.seq ?_
      refine W.drawn (Ψ := St w []) (St w []) [(0, true), (1, true), (2, true), (3, true), (4, true), (5, true), (6, true), (7, true), (9, true), (10, true), (11, true), (12, true), (13, true), (14, true), (15, true), (16, true), (8, false), (17, false), (18, true), (19, true), (20, true), (21, true), (22, true), (23, true), (24, true), (25, true), (27, true), (28, true), (29, true), (30, true), (31, true), (32, true), (26, false), (33, false), (34, true), (35, true)] hmx (by kernel_rfl) (NoPanic.then (NoPanic.inBlock (NoPanic.then (NoPanic.then (NoPanic.inBlock (NoPanic.then (NoPanic.body))))))) (fun w h => h.drew) (fun w h => h) ?_
      refine T.pure 17 (.int .i64 (m)) (by kernel_rfl) (fun w => by kernel_rfl) ?_
      refine T.pure 18 (.slice A ((a.take 60).length) c) (by kernel_rfl) (fun w => by kernel_rfl) ?_
      refine T.pure 19 (.int .i64 ((j : Int))) (by kernel_rfl) (fun w => by kernel_rfl) ?_
      have hl8 : j < (a.take 60).length := by omega
      obtain ⟨b4, o5, hA6, hr7⟩ := ((Rd.arr hr _).take _) j hl8
      refine T.index 20 43 42 22 A ((a.take 60).length) c ((j : Int)) (j) b4 o5 (by kernel_rfl) (by kernel_rfl) (by kernel_rfl) (by kernel_rfl) hA6 (rfl) (by omega) ?_
      refine T.loadR true 21 (((a.take 60)[j]'hl8)).cs 42 b4 (o5 + j * 22) (by kernel_rfl) (by kernel_rfl) (by kernel_rfl) (by kernel_rfl) hr7 ?_
      refine T.pure 22 (.slice A ((a.take 60).length) c) (by kernel_rfl) (fun w => by kernel_rfl) ?_
      refine T.pure 23 (.int .i64 ((j : Int))) (by kernel_rfl) (fun w => by kernel_rfl) ?_
      have hsl9 : ((a.take 60).take j).length = j := by simp; omega
      refine T.sliceTo 24 43 42 A ((a.take 60).length) c ((j : Int)) (((a.take 60).take j).length) (by kernel_rfl) (by kernel_rfl) (by kernel_rfl) (by kernel_rfl) (by omega) (by omega) ?_
      refine T.pure 26 (.int .i64 (m)) (by kernel_rfl) (fun w => by kernel_rfl) ?_
      refine T.pure 27 (.slice A ((a.take 60).length) c) (by kernel_rfl) (fun w => by kernel_rfl) ?_
      refine T.pure 28 (.int .i64 ((j : Int))) (by kernel_rfl) (fun w => by kernel_rfl) ?_
      obtain ⟨b10, o11, hA12, hr13⟩ := ((Rd.arr hr _).take _) j hl8
      refine T.index 29 43 42 22 A ((a.take 60).length) c ((j : Int)) (j) b10 o11 (by kernel_rfl) (by kernel_rfl) (by kernel_rfl) (by kernel_rfl) hA12 (rfl) (by omega) ?_
      refine T.loadR true 30 (((a.take 60)[j]'hl8)).cs 42 b10 (o11 + j * 22) (by kernel_rfl) (by kernel_rfl) (by kernel_rfl) (by kernel_rfl) hr13 ?_
      refine T.pure 31 (.slice A ((a.take 60).length) c) (by kernel_rfl) (fun w => by kernel_rfl) ?_
      refine T.pure 32 (.int .i64 ((j : Int))) (by kernel_rfl) (fun w => by kernel_rfl) ?_
      have hsl14 : ((a.take 60).take j).length = j := by simp; omega
      refine T.sliceTo 33 43 42 A ((a.take 60).length) c ((j : Int)) (((a.take 60).take j).length) (by kernel_rfl) (by kernel_rfl) (by kernel_rfl) (by kernel_rfl) (by omega) (by omega) ?_
      refine T.callP 25 32 #[.int .i64 (m), .agg (((a.take 60)[j]'hl8)).cs, .slice A (((a.take 60).take j).length) c] (.bool (allowB m ((a.take 60)[j]'hl8) ((a.take 60).take j))) (by kernel_rfl) (by kernel_rfl) ent32 (fun w hw => allowed_c _ (by first | assumption | exact w64_and _ _ | exact w64_or _ _ | exact w64_andNot _ _ | (unfold W64; omega)) _ (Vt.Ok.support (hall _ (by first | exact List.getElem_mem _ | exact List.mem_of_mem_take (List.getElem_mem _)))) _ _ _ (by first | omega | (simp; omega)) w (Arr.rd (((Rd.arr hr _).take _).take _) hw).v) (fun w h => h) ?_
      refine T.callP 34 33 #[.int .i64 (m), .agg (((a.take 60)[j]'hl8)).cs, .slice A (((a.take 60).take j).length) c] (.bool (rallowB m ((a.take 60)[j]'hl8) ((a.take 60).take j))) (by kernel_rfl) (by kernel_rfl) ent33 (fun w hw => rallowed_c _ _ _ _ _ (by first | assumption | exact w64_and _ _ | exact w64_or _ _ | exact w64_andNot _ _ | (unfold W64; omega)) (Vt.Ok.support (hall _ (by first | exact List.getElem_mem _ | exact List.mem_of_mem_take (List.getElem_mem _)))) (by first | omega | (simp; omega)) w (Arr.rd (((Rd.arr hr _).take _).take _) hw)) (fun w h => h) ?_
      refine T.pure 35 (.bool ((allowB m ((a.take 60)[j]'hl8) ((a.take 60).take j)) != (rallowB m ((a.take 60)[j]'hl8) ((a.take 60).take j)))) (by kernel_rfl) (fun w => by kernel_rfl) ?_
      refine T.pure 36 (.bool ((allowB m ((a.take 60)[j]'hl8) ((a.take 60).take j)) != (rallowB m ((a.take 60)[j]'hl8) ((a.take 60).take j)))) (by kernel_rfl) (fun w => by kernel_rfl) ?_
      refine T.blk [(20, true), (21, true), (22, true), (23, true), (24, true), (25, true), (27, true), (28, true), (29, true), (30, true), (31, true), (32, true), (26, false), (33, false), (34, true)] [(35, true)] 19 false ((allowB m ((a.take 60)[j]'hl8) ((a.take 60).take j)) != (rallowB m ((a.take 60)[j]'hl8) ((a.take 60).take j))) 36 51 (.bool ((allowB m ((a.take 60)[j]'hl8) (a.take 60)) != (rallowB m ((a.take 60)[j]'hl8) (a.take 60)))) (by kernel_rfl) (by kernel_rfl) (by kernel_rfl) (fun hg15 => ?_) ?_
      · have hg15_ := hg15
        refine T.pure 37 (.int .i64 (m)) (by kernel_rfl) (fun w => by kernel_rfl) ?_
        refine T.pure 38 (.slice A ((a.take 60).length) c) (by kernel_rfl) (fun w => by kernel_rfl) ?_
        refine T.pure 39 (.int .i64 ((j : Int))) (by kernel_rfl) (fun w => by kernel_rfl) ?_
        obtain ⟨b16, o17, hA18, hr19⟩ := ((Rd.arr hr _).take _) j hl8
        refine T.index 40 43 42 22 A ((a.take 60).length) c ((j : Int)) (j) b16 o17 (by kernel_rfl) (by kernel_rfl) (by kernel_rfl) (by kernel_rfl) hA18 (rfl) (by omega) ?_
        refine T.loadR true 41 (((a.take 60)[j]'hl8)).cs 42 b16 (o17 + j * 22) (by kernel_rfl) (by kernel_rfl) (by kernel_rfl) (by kernel_rfl) hr19 ?_
        refine T.pure 42 (.slice A ((a.take 60).length) c) (by kernel_rfl) (fun w => by kernel_rfl) ?_
        refine T.pure 44 (.int .i64 (m)) (by kernel_rfl) (fun w => by kernel_rfl) ?_
        refine T.pure 45 (.slice A ((a.take 60).length) c) (by kernel_rfl) (fun w => by kernel_rfl) ?_
        refine T.pure 46 (.int .i64 ((j : Int))) (by kernel_rfl) (fun w => by kernel_rfl) ?_
        obtain ⟨b20, o21, hA22, hr23⟩ := ((Rd.arr hr _).take _) j hl8
        refine T.index 47 43 42 22 A ((a.take 60).length) c ((j : Int)) (j) b20 o21 (by kernel_rfl) (by kernel_rfl) (by kernel_rfl) (by kernel_rfl) hA22 (rfl) (by omega) ?_
        refine T.loadR true 48 (((a.take 60)[j]'hl8)).cs 42 b20 (o21 + j * 22) (by kernel_rfl) (by kernel_rfl) (by kernel_rfl) (by kernel_rfl) hr23 ?_
        refine T.pure 49 (.slice A ((a.take 60).length) c) (by kernel_rfl) (fun w => by kernel_rfl) ?_
        refine T.callP 43 32 #[.int .i64 (m), .agg (((a.take 60)[j]'hl8)).cs, .slice A ((a.take 60).length) c] (.bool (allowB m ((a.take 60)[j]'hl8) (a.take 60))) (by kernel_rfl) (by kernel_rfl) ent32 (fun w hw => allowed_c _ (by first | assumption | exact w64_and _ _ | exact w64_or _ _ | exact w64_andNot _ _ | (unfold W64; omega)) _ (Vt.Ok.support (hall _ (by first | exact List.getElem_mem _ | exact List.mem_of_mem_take (List.getElem_mem _)))) _ _ _ (by first | omega | (simp; omega)) w (Arr.rd ((Rd.arr hr _).take _) hw).v) (fun w h => h) ?_
        refine T.callP 50 33 #[.int .i64 (m), .agg (((a.take 60)[j]'hl8)).cs, .slice A ((a.take 60).length) c] (.bool (rallowB m ((a.take 60)[j]'hl8) (a.take 60))) (by kernel_rfl) (by kernel_rfl) ent33 (fun w hw => rallowed_c _ _ _ _ _ (by first | assumption | exact w64_and _ _ | exact w64_or _ _ | exact w64_andNot _ _ | (unfold W64; omega)) (Vt.Ok.support (hall _ (by first | exact List.getElem_mem _ | exact List.mem_of_mem_take (List.getElem_mem _)))) (by first | omega | (simp; omega)) w (Arr.rd ((Rd.arr hr _).take _) hw)) (fun w h => h) ?_
        refine T.pure 51 (.bool ((allowB m ((a.take 60)[j]'hl8) (a.take 60)) != (rallowB m ((a.take 60)[j]'hl8) (a.take 60)))) (by kernel_rfl) (fun w => by kernel_rfl) ?_
        exact T.blkEnd (by kernel_rfl) (fun w h => h)
      refine T.or 52 ((allowB m ((a.take 60)[j]'hl8) ((a.take 60).take j)) != (rallowB m ((a.take 60)[j]'hl8) ((a.take 60).take j))) ((allowB m ((a.take 60)[j]'hl8) (a.take 60)) != (rallowB m ((a.take 60)[j]'hl8) (a.take 60))) (by kernel_rfl) (by kernel_rfl) ?_
      refine T.nil ?_
      refine QN.seq ?_
      refine W.cond (((allowB m ((a.take 60)[j]'hl8) ((a.take 60).take j)) != (rallowB m ((a.take 60)[j]'hl8) ((a.take 60).take j))) || ((allowB m ((a.take 60)[j]'hl8) (a.take 60)) != (rallowB m ((a.take 60)[j]'hl8) (a.take 60)))) (by kernel_rfl) (fun h24 => ?_) (fun h24 => ?_)
      · skip
        refine W.seq ?_
        refine W.region [(0, false)] (by kernel_rfl) ?_
        refine T.pure 4 (.bool (false)) (by kernel_rfl) (fun w => by kernel_rfl) ?_
        refine T.nil ?_
        refine QN.seq ?_
        refine W.ret ?_
        refine QN.blkRet ?_
        refine QN.thenRet ?_
        refine QN.thenRet ?_
        refine QN.blkRet ?_
        refine QN.thenRet ?_
        refine QN.done (.inl rfl) 4 (.bool (false)) rfl (by kernel_rfl) (fun w hw => ⟨?_, hw.below⟩)
        exact absurd h24 (by rw [rallow_eq, rallow_eq]; simp)
      · skip
        have h24l := (Bool.or_eq_false_iff.1 h24).1
        have h24r := (Bool.or_eq_false_iff.1 h24).2
        refine W.skip ?_
        refine QN.blkNormal ?_
        refine QN.seq ?_
        refine W.region [(0, false), (1, false), (2, false)] (by kernel_rfl) ?_
        refine T.pure 15 (.int .i64 ((j : Int))) (by kernel_rfl) (fun w => by kernel_rfl) ?_
        refine T.pureE 16 (.int .i64 (IntKind.i64.wrap ((j : Int) + 1))) (.int .i64 ((j : Int) + 1)) (by kernel_rfl) (fun w => by kernel_rfl) (wrap_int (by omega) (by omega)) ?_
        refine T.pure 5 (.int .i64 ((j : Int) + 1)) (by kernel_rfl) (fun w => by kernel_rfl) ?_
        refine T.nil ?_
        refine QN.back (j + 1) ?_ ?_ (by kernel_rfl) (fun w h => h)
        · show (j + 1) ≤ (a.take 60).length
          omega
        · show _ - _ < _ - _; omega
    · skip
      have h3' := of_decide_eq_false h3
      refine W.exit ?_
      refine QN.thenExit ?_
      refine QN.thenExit ?_
      refine QN.blkHit ?_
      refine QN.seq ?_
      refine W.seq ?_
      refine W.region [(0, false), (1, false)] (by kernel_rfl) ?_
      refine T.callP 53 34 #[] (.bool (true)) (by kernel_rfl) (by kernel_rfl) ent34 (fun w hw => awake11_c w) (fun _ _ => trivial) ?_
      refine T.pure 4 (.bool (true)) (by kernel_rfl) (fun w => by kernel_rfl) ?_
      refine T.nil ?_
      refine QN.seq ?_
      refine W.ret ?_
      refine QN.done (.inl rfl) 4 (.bool (true)) rfl (by kernel_rfl) (fun w hw => ⟨?_, hw.below⟩)
      exact rfl
  · skip
    have h1' := of_decide_eq_false h1
    refine W.skip ?_
    refine QN.seq ?_
    refine W.seq ?_
    refine W.seq ?_
    refine W.region [(0, false)] (by kernel_rfl) ?_
    refine T.pure 5 (.int .i64 (0)) (by kernel_rfl) (fun w => by kernel_rfl) ?_
    refine T.nil ?_
    refine QN.seq ?_
    refine W.block ?_
    refine W.loop (σ := Nat) (fun gs => gs ≤ (a).length) (fun gs => [(0, .int .i64 (m)), (1, .slice A (a.length) c), (5, .int .i64 ((gs : Int)))]) (fun gs => St w []) (fun gs => (a).length - gs) (0) ?_ (by kernel_rfl) (fun w h => h) ?_
    · show 0 ≤ (a).length
      exact Nat.zero_le _
    rintro j hI_
    obtain hj : j ≤ (a).length := hI_
    show W _ _ [(0, .int .i64 (m)), (1, .slice A (a.length) c), (5, .int .i64 ((j : Int)))] (St w []) _ _
    refine W.seq ?_
    refine W.seq ?_
    refine W.region [(0, false), (1, false), (2, false), (3, false)] (by kernel_rfl) ?_
    refine T.pure 11 (.int .i64 ((j : Int))) (by kernel_rfl) (fun w => by kernel_rfl) ?_
    refine T.pure 12 (.slice A (a.length) c) (by kernel_rfl) (fun w => by kernel_rfl) ?_
    refine T.pure 13 (.int .i64 (((a.length : Nat) : Int))) (by kernel_rfl) (fun w => by kernel_rfl) ?_
    refine T.pure 14 (.bool (decide ((j : Int) < ((a.length : Nat) : Int)))) (by kernel_rfl) (fun w => by kernel_rfl) ?_
    refine T.nil ?_
    refine QN.seq ?_
    refine W.cond (decide ((j : Int) < ((a.length : Nat) : Int))) (by kernel_rfl) (fun h25 => ?_) (fun h25 => ?_)
    · skip
      have h25' := of_decide_eq_true h25
      refine W.skip ?_
      refine QN.seq ?_
      refine W.seq ?_
      refine W.block ?_
      refine W.seq ?_
      refine W.drawn (Ψ := St w []) (St w []) [(0, true), (1, true), (2, true), (3, true), (4, true), (5, true), (6, true), (7, true), (9, true), (10, true), (11, true), (12, true), (13, true), (14, true), (15, true), (16, true), (8, false), (17, false), (18, true), (19, true), (20, true), (21, true), (22, true), (23, true), (24, true), (25, true), (27, true), (28, true), (29, true), (30, true), (31, true), (32, true), (26, false), (33, false), (34, true), (35, true)] hmx (by kernel_rfl) (NoPanic.then (NoPanic.inBlock (NoPanic.then (NoPanic.then (NoPanic.inBlock (NoPanic.then (NoPanic.body))))))) (fun w h => h.drew) (fun w h => h) ?_
      refine T.pure 17 (.int .i64 (m)) (by kernel_rfl) (fun w => by kernel_rfl) ?_
      refine T.pure 18 (.slice A (a.length) c) (by kernel_rfl) (fun w => by kernel_rfl) ?_
      refine T.pure 19 (.int .i64 ((j : Int))) (by kernel_rfl) (fun w => by kernel_rfl) ?_
      have hl30 : j < (a).length := by omega
      obtain ⟨b26, o27, hA28, hr29⟩ := (Rd.arr hr _) j hl30
      refine T.index 20 43 42 22 A (a.length) c ((j : Int)) (j) b26 o27 (by kernel_rfl) (by kernel_rfl) (by kernel_rfl) (by kernel_rfl) hA28 (rfl) (by omega) ?_
      refine T.loadR true 21 ((a[j]'hl30)).cs 42 b26 (o27 + j * 22) (by kernel_rfl) (by kernel_rfl) (by kernel_rfl) (by kernel_rfl) hr29 ?_
      refine T.pure 22 (.slice A (a.length) c) (by kernel_rfl) (fun w => by kernel_rfl) ?_
      refine T.pure 23 (.int .i64 ((j : Int))) (by kernel_rfl) (fun w => by kernel_rfl) ?_
      have hsl31 : (a.take j).length = j := by simp; omega
      refine T.sliceTo 24 43 42 A (a.length) c ((j : Int)) ((a.take j).length) (by kernel_rfl) (by kernel_rfl) (by kernel_rfl) (by kernel_rfl) (by omega) (by omega) ?_
      refine T.pure 26 (.int .i64 (m)) (by kernel_rfl) (fun w => by kernel_rfl) ?_
      refine T.pure 27 (.slice A (a.length) c) (by kernel_rfl) (fun w => by kernel_rfl) ?_
      refine T.pure 28 (.int .i64 ((j : Int))) (by kernel_rfl) (fun w => by kernel_rfl) ?_
      obtain ⟨b32, o33, hA34, hr35⟩ := (Rd.arr hr _) j hl30
      refine T.index 29 43 42 22 A (a.length) c ((j : Int)) (j) b32 o33 (by kernel_rfl) (by kernel_rfl) (by kernel_rfl) (by kernel_rfl) hA34 (rfl) (by omega) ?_
      refine T.loadR true 30 ((a[j]'hl30)).cs 42 b32 (o33 + j * 22) (by kernel_rfl) (by kernel_rfl) (by kernel_rfl) (by kernel_rfl) hr35 ?_
      refine T.pure 31 (.slice A (a.length) c) (by kernel_rfl) (fun w => by kernel_rfl) ?_
      refine T.pure 32 (.int .i64 ((j : Int))) (by kernel_rfl) (fun w => by kernel_rfl) ?_
      have hsl36 : (a.take j).length = j := by simp; omega
      refine T.sliceTo 33 43 42 A (a.length) c ((j : Int)) ((a.take j).length) (by kernel_rfl) (by kernel_rfl) (by kernel_rfl) (by kernel_rfl) (by omega) (by omega) ?_
      refine T.callP 25 32 #[.int .i64 (m), .agg ((a[j]'hl30)).cs, .slice A ((a.take j).length) c] (.bool (allowB m (a[j]'hl30) (a.take j))) (by kernel_rfl) (by kernel_rfl) ent32 (fun w hw => allowed_c _ (by first | assumption | exact w64_and _ _ | exact w64_or _ _ | exact w64_andNot _ _ | (unfold W64; omega)) _ (Vt.Ok.support (hall _ (by first | exact List.getElem_mem _ | exact List.mem_of_mem_take (List.getElem_mem _)))) _ _ _ (by first | omega | (simp; omega)) w (Arr.rd ((Rd.arr hr _).take _) hw).v) (fun w h => h) ?_
      refine T.callP 34 33 #[.int .i64 (m), .agg ((a[j]'hl30)).cs, .slice A ((a.take j).length) c] (.bool (rallowB m (a[j]'hl30) (a.take j))) (by kernel_rfl) (by kernel_rfl) ent33 (fun w hw => rallowed_c _ _ _ _ _ (by first | assumption | exact w64_and _ _ | exact w64_or _ _ | exact w64_andNot _ _ | (unfold W64; omega)) (Vt.Ok.support (hall _ (by first | exact List.getElem_mem _ | exact List.mem_of_mem_take (List.getElem_mem _)))) (by first | omega | (simp; omega)) w (Arr.rd ((Rd.arr hr _).take _) hw)) (fun w h => h) ?_
      refine T.pure 35 (.bool ((allowB m (a[j]'hl30) (a.take j)) != (rallowB m (a[j]'hl30) (a.take j)))) (by kernel_rfl) (fun w => by kernel_rfl) ?_
      refine T.pure 36 (.bool ((allowB m (a[j]'hl30) (a.take j)) != (rallowB m (a[j]'hl30) (a.take j)))) (by kernel_rfl) (fun w => by kernel_rfl) ?_
      refine T.blk [(20, true), (21, true), (22, true), (23, true), (24, true), (25, true), (27, true), (28, true), (29, true), (30, true), (31, true), (32, true), (26, false), (33, false), (34, true)] [(35, true)] 19 false ((allowB m (a[j]'hl30) (a.take j)) != (rallowB m (a[j]'hl30) (a.take j))) 36 51 (.bool ((allowB m (a[j]'hl30) a) != (rallowB m (a[j]'hl30) a))) (by kernel_rfl) (by kernel_rfl) (by kernel_rfl) (fun hg37 => ?_) ?_
      · have hg37_ := hg37
        refine T.pure 37 (.int .i64 (m)) (by kernel_rfl) (fun w => by kernel_rfl) ?_
        refine T.pure 38 (.slice A (a.length) c) (by kernel_rfl) (fun w => by kernel_rfl) ?_
        refine T.pure 39 (.int .i64 ((j : Int))) (by kernel_rfl) (fun w => by kernel_rfl) ?_
        obtain ⟨b38, o39, hA40, hr41⟩ := (Rd.arr hr _) j hl30
        refine T.index 40 43 42 22 A (a.length) c ((j : Int)) (j) b38 o39 (by kernel_rfl) (by kernel_rfl) (by kernel_rfl) (by kernel_rfl) hA40 (rfl) (by omega) ?_
        refine T.loadR true 41 ((a[j]'hl30)).cs 42 b38 (o39 + j * 22) (by kernel_rfl) (by kernel_rfl) (by kernel_rfl) (by kernel_rfl) hr41 ?_
        refine T.pure 42 (.slice A (a.length) c) (by kernel_rfl) (fun w => by kernel_rfl) ?_
        refine T.pure 44 (.int .i64 (m)) (by kernel_rfl) (fun w => by kernel_rfl) ?_
        refine T.pure 45 (.slice A (a.length) c) (by kernel_rfl) (fun w => by kernel_rfl) ?_
        refine T.pure 46 (.int .i64 ((j : Int))) (by kernel_rfl) (fun w => by kernel_rfl) ?_
        obtain ⟨b42, o43, hA44, hr45⟩ := (Rd.arr hr _) j hl30
        refine T.index 47 43 42 22 A (a.length) c ((j : Int)) (j) b42 o43 (by kernel_rfl) (by kernel_rfl) (by kernel_rfl) (by kernel_rfl) hA44 (rfl) (by omega) ?_
        refine T.loadR true 48 ((a[j]'hl30)).cs 42 b42 (o43 + j * 22) (by kernel_rfl) (by kernel_rfl) (by kernel_rfl) (by kernel_rfl) hr45 ?_
        refine T.pure 49 (.slice A (a.length) c) (by kernel_rfl) (fun w => by kernel_rfl) ?_
        refine T.callP 43 32 #[.int .i64 (m), .agg ((a[j]'hl30)).cs, .slice A (a.length) c] (.bool (allowB m (a[j]'hl30) a)) (by kernel_rfl) (by kernel_rfl) ent32 (fun w hw => allowed_c _ (by first | assumption | exact w64_and _ _ | exact w64_or _ _ | exact w64_andNot _ _ | (unfold W64; omega)) _ (Vt.Ok.support (hall _ (by first | exact List.getElem_mem _ | exact List.mem_of_mem_take (List.getElem_mem _)))) _ _ _ (by first | omega | (simp; omega)) w (Arr.rd (Rd.arr hr _) hw).v) (fun w h => h) ?_
        refine T.callP 50 33 #[.int .i64 (m), .agg ((a[j]'hl30)).cs, .slice A (a.length) c] (.bool (rallowB m (a[j]'hl30) a)) (by kernel_rfl) (by kernel_rfl) ent33 (fun w hw => rallowed_c _ _ _ _ _ (by first | assumption | exact w64_and _ _ | exact w64_or _ _ | exact w64_andNot _ _ | (unfold W64; omega)) (Vt.Ok.support (hall _ (by first | exact List.getElem_mem _ | exact List.mem_of_mem_take (List.getElem_mem _)))) (by first | omega | (simp; omega)) w (Arr.rd (Rd.arr hr _) hw)) (fun w h => h) ?_
        refine T.pure 51 (.bool ((allowB m (a[j]'hl30) a) != (rallowB m (a[j]'hl30) a))) (by kernel_rfl) (fun w => by kernel_rfl) ?_
        exact T.blkEnd (by kernel_rfl) (fun w h => h)
      refine T.or 52 ((allowB m (a[j]'hl30) (a.take j)) != (rallowB m (a[j]'hl30) (a.take j))) ((allowB m (a[j]'hl30) a) != (rallowB m (a[j]'hl30) a)) (by kernel_rfl) (by kernel_rfl) ?_
      refine T.nil ?_
      refine QN.seq ?_
      refine W.cond (((allowB m (a[j]'hl30) (a.take j)) != (rallowB m (a[j]'hl30) (a.take j))) || ((allowB m (a[j]'hl30) a) != (rallowB m (a[j]'hl30) a))) (by kernel_rfl) (fun h46 => ?_) (fun h46 => ?_)
      · skip
        refine W.seq ?_
        refine W.region [(0, false)] (by kernel_rfl) ?_
        refine T.pure 4 (.bool (false)) (by kernel_rfl) (fun w => by kernel_rfl) ?_
        refine T.nil ?_
        refine QN.seq ?_
        refine W.ret ?_
        refine QN.blkRet ?_
        refine QN.thenRet ?_
        refine QN.thenRet ?_
        refine QN.blkRet ?_
        refine QN.thenRet ?_
        refine QN.done (.inl rfl) 4 (.bool (false)) rfl (by kernel_rfl) (fun w hw => ⟨?_, hw.below⟩)
        exact absurd h46 (by rw [rallow_eq, rallow_eq]; simp)
      · skip
        have h46l := (Bool.or_eq_false_iff.1 h46).1
        have h46r := (Bool.or_eq_false_iff.1 h46).2
        refine W.skip ?_
        refine QN.blkNormal ?_
        refine QN.seq ?_
        refine W.region [(0, false), (1, false), (2, false)] (by kernel_rfl) ?_
        refine T.pure 15 (.int .i64 ((j : Int))) (by kernel_rfl) (fun w => by kernel_rfl) ?_
        refine T.pureE 16 (.int .i64 (IntKind.i64.wrap ((j : Int) + 1))) (.int .i64 ((j : Int) + 1)) (by kernel_rfl) (fun w => by kernel_rfl) (wrap_int (by omega) (by omega)) ?_
        refine T.pure 5 (.int .i64 ((j : Int) + 1)) (by kernel_rfl) (fun w => by kernel_rfl) ?_
        refine T.nil ?_
        refine QN.back (j + 1) ?_ ?_ (by kernel_rfl) (fun w h => h)
        · show (j + 1) ≤ (a).length
          omega
        · show _ - _ < _ - _; omega
    · skip
      have h25' := of_decide_eq_false h25
      refine W.exit ?_
      refine QN.thenExit ?_
      refine QN.thenExit ?_
      refine QN.blkHit ?_
      refine QN.seq ?_
      refine W.seq ?_
      refine W.region [(0, false), (1, false)] (by kernel_rfl) ?_
      refine T.callP 53 34 #[] (.bool (true)) (by kernel_rfl) (by kernel_rfl) ent34 (fun w hw => awake11_c w) (fun _ _ => trivial) ?_
      refine T.pure 4 (.bool (true)) (by kernel_rfl) (fun w => by kernel_rfl) ?_
      refine T.nil ?_
      refine QN.seq ?_
      refine W.ret ?_
      refine QN.done (.inl rfl) 4 (.bool (true)) rfl (by kernel_rfl) (fun w hw => ⟨?_, hw.below⟩)
      exact rfl
theorem JustifyEach_w (w : World) (a0 : Int) (v1 : Value) (x1 : List Vt) (h0 : W64 a0) (h1 : VS w v1 x1) : Calls Try.prog 11 #[.int .i64 a0, v1] w fun e w' => e = .returned (.bool true) ∧ Below w.heap.size w w' := by
  obtain ⟨A1, c1, rfl, l1, m1, r1, k1⟩ := h1
  exact JustifyEach_c _ _ _ _ w h0 l1 m1 r1.rd k1
/-- The list turned, each element twice. -/
def twice (l : List Vt) : List Vt := l.reverse.flatMap fun x => [x, x]
theorem twice_mem (l : List Vt) (u : Vt) : u ∈ twice l ↔ u ∈ l := by simp [twice]
theorem twice_len (l : List Vt) : (twice l).length = 2 * l.length := by
  unfold twice
  rw [List.length_flatMap]
  simp [List.map_const']
  omega
theorem twice_drop {l tl : List Vt} {k j : Nat} (ht : tl = twice (l.drop j)) (h : k < l.length) (hj : j = k + 1) : tl ++ [l[k], l[k]] = twice (l.drop k) := by
  subst hj
  rw [ht]
  unfold twice
  rw [List.drop_eq_getElem_cons h, List.reverse_cons, List.flatMap_append]
  rfl
theorem grows_end {m : Int} {v : Vt} {s t tl : List Vt} {j : Nat} (hal : allowB m v s = true) (ht : tl = twice (s.drop j)) (hj : j = 0) : (((allowB m v (([] ++ t) ++ tl)) && (allowB m v tl)) && true) = true := by
  subst hj
  rw [List.drop_zero] at ht
  subst ht
  rw [allowB_mono (a := s) (fun u hu => by simp [twice_mem, hu]) hal, allowB_mono (a := s) (fun u hu => (twice_mem s u).2 hu) hal]
  rfl
set_option maxRecDepth 100000 in
set_option maxHeartbeats 2000000 in
theorem JustifyGrows_c (m : Int) (v : Vt) (a b : List Vt) (A B : Option Addr) (c d : Nat) (w : World) (hm : W64 m) (hok : v.Ok) (h1 : a.length ≤ c) (h2 : c ≤ maxLen) (hr : Rd w A a) (h3 : b.length ≤ d) (h4 : d ≤ maxLen) (hrb : Rd w B b) : Calls Try.prog 12 #[.int .i64 (m), .agg (v).cs, .slice A (a.length) c, .slice B (b.length) d] w (fun rr w' => rr = .returned (.bool (true)) ∧ Below w.heap.size w w') := by
  have ht : (a.take 300).length ≤ 300 := List.length_take_le _ _
  have hu : (b.take 300).length ≤ 300 := List.length_take_le _ _
  refine calls_W (n := 56) Try.func12 rfl [(0, .int .i64 (m)), (1, .agg (v).cs), (2, .slice A (a.length) c), (3, .slice B (b.length) d)] rfl ⟨by kernel_rfl, by kernel_rfl⟩ ?_
  refine W.weak (Ψ := St w []) (fun w' h => by rw [h]; exact St.start w) ?_
  refine W.seq ?_
  refine W.region [(0, false), (1, false)] (by kernel_rfl) ?_
  refine T.box 5 42 (.agg (v).cs) ((v).cs) (by kernel_rfl) (by kernel_rfl) (by kernel_rfl) (fun _ _ _ => trivial) (fun b1 => ?_)
  refine T.pure 8 (.bool (false)) (by kernel_rfl) (fun w => by kernel_rfl) ?_
  refine T.nil ?_
  refine QN.seq ?_
  refine W.seq ?_
  refine W.region [(0, false), (1, false), (2, false), (3, false), (4, false), (5, false)] (by kernel_rfl) ?_
  refine T.pure 11 (.slice A (a.length) c) (by kernel_rfl) (fun w => by kernel_rfl) ?_
  refine T.callP 12 31 #[.slice A (a.length) c] (.slice A ((a.take 300).length) c) (by kernel_rfl) (by kernel_rfl) ent31 (fun w hw => Ret.same' (cut11_c _ _ _ h1 h2 w)) (fun _ _ => trivial) ?_
  refine T.pure 13 (.slice B (b.length) d) (by kernel_rfl) (fun w => by kernel_rfl) ?_
  refine T.callP 14 31 #[.slice B (b.length) d] (.slice B ((b.take 300).length) d) (by kernel_rfl) (by kernel_rfl) ent31 (fun w hw => Ret.same' (cut11_c _ _ _ h3 h4 w)) (fun _ _ => trivial) ?_
  refine T.pure 2 (.slice A ((a.take 300).length) c) (by kernel_rfl) (fun w => by kernel_rfl) ?_
  refine T.pure 3 (.slice B ((b.take 300).length) d) (by kernel_rfl) (fun w => by kernel_rfl) ?_
  refine T.nil ?_
  refine QN.seq ?_
  refine W.seq ?_
  refine W.seq ?_
  refine W.region [(0, false), (1, false), (2, false), (3, false), (4, false)] (by kernel_rfl) ?_
  refine T.pure 15 (.int .i64 (m)) (by kernel_rfl) (fun w => by kernel_rfl) ?_
  refine T.loadR false 16 (v).cs 42 b1 0 (by kernel_rfl) (by kernel_rfl) (by kernel_rfl) (by kernel_rfl) (fun w h => St.rangeM h (v).cs (.head _) (by kernel_rfl)) ?_
  refine T.pure 17 (.slice A ((a.take 300).length) c) (by kernel_rfl) (fun w => by kernel_rfl) ?_
  refine T.callP 18 32 #[.int .i64 (m), .agg (v).cs, .slice A ((a.take 300).length) c] (.bool (allowB m v (a.take 300))) (by kernel_rfl) (by kernel_rfl) ent32 (fun w hw => allowed_c _ (by first | assumption | exact w64_and _ _ | exact w64_or _ _ | exact w64_andNot _ _ | (unfold W64; omega)) _ hok.support _ _ _ (by first | omega | (simp; omega)) w (Arr.rd ((Rd.arr hr _).take _) hw).v) (fun _ _ => trivial) ?_
  refine T.pure 19 (.bool (!(allowB m v (a.take 300)))) (by kernel_rfl) (fun w => by kernel_rfl) ?_
  refine T.nil ?_
  refine QN.seq ?_
  refine W.cond (!(allowB m v (a.take 300))) (by kernel_rfl) (fun h2 => ?_) (fun h2 => ?_)
  · skip
    have h2n := not_eq_true h2
    refine W.seq ?_
    refine W.region [(0, false), (1, false)] (by kernel_rfl) ?_
    refine T.callP 20 34 #[] (.bool (true)) (by kernel_rfl) (by kernel_rfl) ent34 (fun w hw => awake11_c w) (fun _ _ => trivial) ?_
    refine T.pure 8 (.bool (true)) (by kernel_rfl) (fun w => by kernel_rfl) ?_
    refine T.nil ?_
    refine QN.seq ?_
    refine W.ret ?_
    refine QN.thenRet ?_
    refine QN.done (.inl rfl) 8 (.bool (true)) rfl (by kernel_rfl) (fun w hw => ⟨?_, hw.below⟩)
    exact rfl
  · skip
    have h2n := not_eq_false h2
    refine W.skip ?_
    refine QN.seq ?_
    refine W.seq ?_
    refine W.region [(0, false)] (by kernel_rfl) ?_
    refine T.pure 9 (.slice none (0) 0) (by kernel_rfl) (fun w => by kernel_rfl) ?_
    refine T.nil ?_
    refine QN.seq ?_
    refine W.seq ?_
    refine W.seq ?_
    refine W.region [(0, false), (1, false), (2, false), (3, false)] (by kernel_rfl) ?_
    refine T.pure 21 (.slice A ((a.take 300).length) c) (by kernel_rfl) (fun w => by kernel_rfl) ?_
    refine T.pure 22 (.int .i64 ((((a.take 300).length : Nat) : Int))) (by kernel_rfl) (fun w => by kernel_rfl) ?_
    refine T.pureE 23 (.int .i64 (IntKind.i64.wrap ((((a.take 300).length : Nat) : Int) - 1))) (.int .i64 ((((a.take 300).length : Nat) : Int) - 1)) (by kernel_rfl) (fun w => by kernel_rfl) (wrap_int (by omega) (by omega)) ?_
    refine T.pure 10 (.int .i64 ((((a.take 300).length : Nat) : Int) - 1)) (by kernel_rfl) (fun w => by kernel_rfl) ?_
    refine T.nil ?_
    refine QN.seq ?_
    refine W.block ?_
    refine W.loop (σ := Nat × List Vt × Option Addr × Nat × List (Nat × Obj)) (fun gs => gs.1 ≤ (a.take 300).length ∧ gs.2.1 = twice ((a.take 300).drop gs.1) ∧ RowIs 42 22 gs.2.2.1 gs.2.1.length gs.2.2.2.1 (cells gs.2.1) gs.2.2.2.2) (fun gs => [(0, .int .i64 (m)), (2, .slice A ((a.take 300).length) c), (3, .slice B ((b.take 300).length) d), (5, .pointer (some ⟨b1, 0, none⟩)), (8, .bool (false)), (9, .slice gs.2.2.1 (gs.2.1.length) gs.2.2.2.1), (10, .int .i64 ((gs.1 : Int) - 1))]) (fun gs => St w (gs.2.2.2.2 ++ [(b1, .cells (v).cs 42 (0, 0))])) (fun gs => gs.1) ((a.take 300).length, [], none, 0, []) ?_ (by kernel_rfl) (fun w h => h) ?_
    · show ((a.take 300).length) ≤ (a.take 300).length ∧ ([]) = twice ((a.take 300).drop ((a.take 300).length)) ∧ RowIs 42 22 none ([]).length 0 (cells ([])) ([])
      exact ⟨Nat.le_refl _, by rw [List.drop_length]; rfl, RowIs.nil⟩
    rintro ⟨j, tl, A9, c9, Hr9⟩ hI_
    obtain ⟨hj, htw, hrow9⟩ : j ≤ (a.take 300).length ∧ tl = twice ((a.take 300).drop j) ∧ RowIs 42 22 A9 tl.length c9 (cells tl) Hr9 := hI_
    have htl : tl.length = 2 * ((a.take 300).length - j) := by rw [htw, twice_len, List.length_drop]
    show W _ _ [(0, .int .i64 (m)), (2, .slice A ((a.take 300).length) c), (3, .slice B ((b.take 300).length) d), (5, .pointer (some ⟨b1, 0, none⟩)), (8, .bool (false)), (9, .slice A9 (tl.length) c9), (10, .int .i64 ((j : Int) - 1))] (St w (Hr9 ++ [(b1, .cells (v).cs 42 (0, 0))])) _ _
    refine W.seq ?_
    refine W.seq ?_
    refine W.region [(0, false), (1, false)] (by kernel_rfl) ?_
    refine T.pure 24 (.int .i64 ((j : Int) - 1)) (by kernel_rfl) (fun w => by kernel_rfl) ?_
    refine T.pure 25 (.bool (decide (0 ≤ ((j : Int) - 1)))) (by kernel_rfl) (fun w => by kernel_rfl) ?_
    refine T.nil ?_
    refine QN.seq ?_
    refine W.cond (decide (0 ≤ ((j : Int) - 1))) (by kernel_rfl) (fun h3 => ?_) (fun h3 => ?_)
    · skip
      have h3' := of_decide_eq_true h3
      refine W.skip ?_
      refine QN.seq ?_
      refine W.seq ?_
      refine W.block ?_
      refine W.drawn (Ψ := St w (Hr9 ++ [(b1, .cells (v).cs 42 (0, 0))])) (St w [(b1, .cells (v).cs 42 (0, 0))]) [(0, true), (1, true), (2, true), (3, true), (4, true), (5, true), (6, true), (7, true), (8, true), (9, false), (10, false), (11, false)] hmx (by kernel_rfl) (NoPanic.inBlock (NoPanic.then (NoPanic.then (NoPanic.inBlock (NoPanic.then (NoPanic.body)))))) (fun w h => h.drew) (fun w h => (h.perm (((List.Perm.refl _).append_left Hr9).trans List.perm_middle)).part ((List.nil_sublist _).cons_cons _)) ?_
      refine T.pure 28 (.slice A9 (tl.length) c9) (by kernel_rfl) (fun w => by kernel_rfl) ?_
      refine T.pure 29 (.slice A ((a.take 300).length) c) (by kernel_rfl) (fun w => by kernel_rfl) ?_
      refine T.pure 30 (.int .i64 ((j : Int) - 1)) (by kernel_rfl) (fun w => by kernel_rfl) ?_
      have hl8 : (j - 1) < (a.take 300).length := by omega
      obtain ⟨b4, o5, hA6, hr7⟩ := ((Rd.arr hr _).take _) (j - 1) hl8
      refine T.index 31 43 42 22 A ((a.take 300).length) c ((j : Int) - 1) ((j - 1)) b4 o5 (by kernel_rfl) (by kernel_rfl) (by kernel_rfl) (by kernel_rfl) hA6 (by omega) (by omega) ?_
      refine T.loadR true 32 (((a.take 300)[(j - 1)]'hl8)).cs 42 b4 (o5 + (j - 1) * 22) (by kernel_rfl) (by kernel_rfl) (by kernel_rfl) (by kernel_rfl) hr7 ?_
      refine T.pure 33 (.slice A ((a.take 300).length) c) (by kernel_rfl) (fun w => by kernel_rfl) ?_
      refine T.pure 34 (.int .i64 ((j : Int) - 1)) (by kernel_rfl) (fun w => by kernel_rfl) ?_
      obtain ⟨b9, o10, hA11, hr12⟩ := ((Rd.arr hr _).take _) (j - 1) hl8
      refine T.index 35 43 42 22 A ((a.take 300).length) c ((j : Int) - 1) ((j - 1)) b9 o10 (by kernel_rfl) (by kernel_rfl) (by kernel_rfl) (by kernel_rfl) hA11 (by omega) (by omega) ?_
      refine T.loadR true 36 (((a.take 300)[(j - 1)]'hl8)).cs 42 b9 (o10 + (j - 1) * 22) (by kernel_rfl) (by kernel_rfl) (by kernel_rfl) (by kernel_rfl) hr12 ?_
      refine T.lit 37 43 42 2 #[(0, .agg (((a.take 300)[(j - 1)]'hl8)).cs), (1, .agg (((a.take 300)[(j - 1)]'hl8)).cs)] (cells ([((a.take 300)[(j - 1)]'hl8), ((a.take 300)[(j - 1)]'hl8)] : List Vt)).toArray (by kernel_rfl) (by kernel_rfl) (by kernel_rfl) (by kernel_rfl) (fun b13 => (fun w h => (h.perm (((((List.Perm.refl _).append_left Hr9).trans List.perm_middle).cons _).trans (List.Perm.swap _ _ _))).part ((List.nil_sublist _).cons_cons _))) (fun b13 => ?_)
      refine T.appC 38 43 42 64 A9 c9 (tl : List Vt) Hr9 b13 0 2 ([((a.take 300)[(j - 1)]'hl8), ((a.take 300)[(j - 1)]'hl8)] : List Vt) (((List.Perm.refl _).cons _).trans List.perm_middle.symm) (by kernel_rfl) (by kernel_rfl) (by kernel_rfl) (by kernel_rfl) hrow9 (fun w h => St.rangeM h (cells ([((a.take 300)[(j - 1)]'hl8), ((a.take 300)[(j - 1)]'hl8)] : List Vt)).toArray (List.mem_append_right _ (.head _)) (by kernel_rfl)) (by unfold maxLen; first | omega | (simp; omega)) (by first | omega | (simp; omega)) (fun Hr16 => (fun w h => (h.perm (((((List.Perm.refl _).cons _).trans (List.Perm.swap _ _ _)).append_left Hr16).trans List.perm_middle)).part ((List.nil_sublist _).cons_cons _))) (fun A14 c15 Hr16 hrow17 => ?_)
      refine T.pure 9 (.slice A14 ((tl ++ ([((a.take 300)[(j - 1)]'hl8), ((a.take 300)[(j - 1)]'hl8)])).length) c15) (by kernel_rfl) (fun w => by kernel_rfl) ?_
      refine T.nil ?_
      refine QN.blkNormal ?_
      refine QN.seq ?_
      refine W.region [(0, false), (1, false), (2, false)] (by kernel_rfl) ?_
      refine T.pure 26 (.int .i64 ((j : Int) - 1)) (by kernel_rfl) (fun w => by kernel_rfl) ?_
      refine T.pureE 27 (.int .i64 (IntKind.i64.wrap (((j : Int) - 1) - 1))) (.int .i64 (((j : Int) - 1) - 1)) (by kernel_rfl) (fun w => by kernel_rfl) (wrap_int (by omega) (by omega)) ?_
      refine T.pure 10 (.int .i64 (((j : Int) - 1) - 1)) (by kernel_rfl) (fun w => by kernel_rfl) ?_
      refine T.nil ?_
      refine QN.cast 10 (.int .i64 (((j : Int) - 1) - 1)) (.int .i64 (((j - 1 : Nat) : Int) - 1)) (by kernel_rfl) (int_eq (by omega)) ?_
      refine QN.back (j - 1, tl ++ ([((a.take 300)[(j - 1)]'hl8), ((a.take 300)[(j - 1)]'hl8)]), A14, c15, Hr16) ?_ ?_ (by kernel_rfl) (fun w h => (h.perm ((List.Perm.refl _).trans ((((List.Perm.refl _).cons _).trans (List.Perm.swap _ _ _)).append_left Hr16))).part (List.Sublist.append (List.Sublist.refl _) ((List.nil_sublist _).cons_cons _)))
      · show (j - 1) ≤ (a.take 300).length ∧ (tl ++ ([((a.take 300)[(j - 1)]'hl8), ((a.take 300)[(j - 1)]'hl8)])) = twice ((a.take 300).drop (j - 1)) ∧ RowIs 42 22 A14 (tl ++ ([((a.take 300)[(j - 1)]'hl8), ((a.take 300)[(j - 1)]'hl8)])).length c15 (cells (tl ++ ([((a.take 300)[(j - 1)]'hl8), ((a.take 300)[(j - 1)]'hl8)]))) Hr16
        exact ⟨by omega, twice_drop htw (by omega) (by omega), hrow17⟩
      · show _ < _; omega
    · skip
      have h3' := of_decide_eq_false h3
      refine W.exit ?_
      refine QN.thenExit ?_
      refine QN.thenExit ?_
      refine QN.blkHit ?_
      refine QN.seq ?_
      refine W.seq ?_
      refine W.drawn (Ψ := St w (Hr9 ++ [(b1, .cells (v).cs 42 (0, 0))])) (St w (Hr9 ++ [(b1, .cells (v).cs 42 (0, 0))])) [(0, true), (1, true), (3, true), (5, true), (2, false), (4, false), (6, false), (7, false), (8, true), (9, true), (10, true), (11, true), (12, false), (13, true), (14, true), (15, false), (16, true), (17, false)] hmx (by kernel_rfl) (NoPanic.then (NoPanic.body)) (fun w h => h.drew) (fun w h => h) ?_
      refine T.pure 39 (.int .i64 (m)) (by kernel_rfl) (fun w => by kernel_rfl) ?_
      refine T.loadR true 40 (v).cs 42 b1 0 (by kernel_rfl) (by kernel_rfl) (by kernel_rfl) (by kernel_rfl) (fun w h => St.rangeM h (v).cs (List.mem_append_right _ (.head _)) (by kernel_rfl)) ?_
      refine T.pure 42 (.slice B ((b.take 300).length) d) (by kernel_rfl) (fun w => by kernel_rfl) ?_
      refine T.pure 44 (.slice A9 (tl.length) c9) (by kernel_rfl) (fun w => by kernel_rfl) ?_
      refine T.lit0 41 43 42 (by kernel_rfl) (by kernel_rfl) (by kernel_rfl) (by kernel_rfl) (fun b18 => (fun w h => (h.perm ((((List.Perm.refl _).cons _).trans List.perm_middle.symm).trans ((((List.Perm.refl _).cons _).trans (List.Perm.swap _ _ _)).append_left Hr9))).part (List.Sublist.append (List.Sublist.refl _) ((List.nil_sublist _).cons_cons _)))) (fun b18 => ?_)
      refine T.appD 43 43 42 64 (some ⟨b18, 0, none⟩) 0 ([] : List Vt) [(b18, .cells #[] 42 (0, 0))] B d (b.take 300 : List Vt) (List.Perm.refl _) (by kernel_rfl) (by kernel_rfl) (by kernel_rfl) (by kernel_rfl) (RowIs.row b18 0 0 #[] [] (Nat.le_refl _) (Nat.zero_le _) rfl rfl rfl) ((Rd.arr hrb _).take _) (by unfold maxLen; first | omega | (simp; omega)) (by first | omega | (simp; omega)) (fun Hr21 => (fun w h => (h.perm ((((List.Perm.refl _).append_left Hr21).trans (List.perm_append_comm_assoc _ _ _)).trans ((((List.Perm.refl _).append_left Hr21).trans List.perm_middle).append_left Hr9))).part (List.Sublist.append (List.Sublist.refl _) ((List.nil_sublist _).cons_cons _)))) (fun A19 c20 Hr21 hrow22 => ?_)
      refine T.appD 45 43 42 64 A19 c20 (([] : List Vt) ++ (b.take 300) : List Vt) Hr21 A9 c9 (tl : List Vt) (List.Perm.refl _) (by kernel_rfl) (by kernel_rfl) (by kernel_rfl) (by kernel_rfl) hrow22 ((Arr.row hrow9 (rfl) (rfl) (Hr21 ++ [(b1, .cells (v).cs 42 (0, 0))])).weak (fun w h => h.perm (((List.Perm.refl _).append_left Hr21).trans (List.perm_append_comm_assoc _ _ _)))) (by unfold maxLen; first | omega | (simp; omega)) (by first | omega | (simp; omega)) (fun Hr25 => (fun w h => (h.perm ((((List.Perm.refl _).append_left Hr25).trans (List.perm_append_comm_assoc _ _ _)).trans ((((List.Perm.refl _).append_left Hr25).trans List.perm_middle).append_left Hr9))).part (List.Sublist.append (List.Sublist.refl _) ((List.nil_sublist _).cons_cons _)))) (fun A23 c24 Hr25 hrow26 => ?_)
      refine T.callP 46 32 #[.int .i64 (m), .agg (v).cs, .slice A23 (((([] : List Vt) ++ (b.take 300)) ++ tl).length) c24] (.bool (allowB m v ((([] : List Vt) ++ (b.take 300)) ++ tl))) (by kernel_rfl) (by kernel_rfl) ent32 (fun w hw => allowed_c _ (by first | assumption | exact w64_and _ _ | exact w64_or _ _ | exact w64_andNot _ _ | (unfold W64; omega)) _ hok.support _ _ _ (by first | omega | (simp; omega)) w (Arr.rd (Arr.row hrow26 (rfl) (rfl) _) hw).v) (fun w h => (h.perm ((((List.Perm.refl _).append_left Hr25).trans (List.perm_append_comm_assoc _ _ _)).trans ((((List.Perm.refl _).append_left Hr25).trans List.perm_middle).append_left Hr9))).part (List.Sublist.append (List.Sublist.refl _) ((List.nil_sublist _).cons_cons _))) ?_
      refine T.pure 47 (.bool (allowB m v ((([] : List Vt) ++ (b.take 300)) ++ tl))) (by kernel_rfl) (fun w => by kernel_rfl) ?_
      refine T.blk [(9, true), (10, true), (11, true), (12, false)] [(13, true), (14, true), (15, false), (16, true), (17, false)] 8 true (allowB m v ((([] : List Vt) ++ (b.take 300)) ++ tl)) 47 51 (.bool (allowB m v tl)) (by kernel_rfl) (by kernel_rfl) (by kernel_rfl) (fun hg27 => ?_) ?_
      · have hg27_ := hg27
        refine T.pure 48 (.int .i64 (m)) (by kernel_rfl) (fun w => by kernel_rfl) ?_
        refine T.loadR true 49 (v).cs 42 b1 0 (by kernel_rfl) (by kernel_rfl) (by kernel_rfl) (by kernel_rfl) (fun w h => St.rangeM h (v).cs (List.mem_append_right _ (.head _)) (by kernel_rfl)) ?_
        refine T.pure 50 (.slice A9 (tl.length) c9) (by kernel_rfl) (fun w => by kernel_rfl) ?_
        refine T.callP 51 32 #[.int .i64 (m), .agg (v).cs, .slice A9 (tl.length) c9] (.bool (allowB m v tl)) (by kernel_rfl) (by kernel_rfl) ent32 (fun w hw => allowed_c _ (by first | assumption | exact w64_and _ _ | exact w64_or _ _ | exact w64_andNot _ _ | (unfold W64; omega)) _ hok.support _ _ _ (by first | omega | (simp; omega)) w (Arr.rd ((Arr.row hrow9 (rfl) (rfl) (Hr25 ++ [(b1, .cells (v).cs 42 (0, 0))])).weak (fun w h => h.perm (((List.Perm.refl _).append_left Hr25).trans (List.perm_append_comm_assoc _ _ _)))) hw).v) (fun w h => (h.perm ((((List.Perm.refl _).append_left Hr25).trans (List.perm_append_comm_assoc _ _ _)).trans ((((List.Perm.refl _).append_left Hr25).trans List.perm_middle).append_left Hr9))).part (List.Sublist.append (List.Sublist.refl _) ((List.nil_sublist _).cons_cons _))) ?_
        exact T.blkEnd (by kernel_rfl) (fun w h => h)
      refine T.and 52 (allowB m v ((([] : List Vt) ++ (b.take 300)) ++ tl)) (allowB m v tl) (by kernel_rfl) (by kernel_rfl) ?_
      refine T.pure 53 (.bool ((allowB m v ((([] : List Vt) ++ (b.take 300)) ++ tl)) && (allowB m v tl))) (by kernel_rfl) (fun w => by kernel_rfl) ?_
      refine T.blk [(15, false)] [(16, true), (17, false)] 14 true ((allowB m v ((([] : List Vt) ++ (b.take 300)) ++ tl)) && (allowB m v tl)) 53 54 (.bool (true)) (by kernel_rfl) (by kernel_rfl) (by kernel_rfl) (fun hg28 => ?_) ?_
      · have hg28_ := hg28
        have hg28l := (Bool.and_eq_true_iff.1 hg28).1
        have hg28r := (Bool.and_eq_true_iff.1 hg28).2
        refine T.callP 54 34 #[] (.bool (true)) (by kernel_rfl) (by kernel_rfl) ent34 (fun w hw => awake11_c w) (fun w h => (h.perm ((((List.Perm.refl _).append_left Hr25).trans (List.perm_append_comm_assoc _ _ _)).trans ((((List.Perm.refl _).append_left Hr25).trans List.perm_middle).append_left Hr9))).part (List.Sublist.append (List.Sublist.refl _) ((List.nil_sublist _).cons_cons _))) ?_
        exact T.blkEnd (by kernel_rfl) (fun w h => h)
      refine T.and 55 ((allowB m v ((([] : List Vt) ++ (b.take 300)) ++ tl)) && (allowB m v tl)) (true) (by kernel_rfl) (by kernel_rfl) ?_
      refine T.pure 8 (.bool (((allowB m v ((([] : List Vt) ++ (b.take 300)) ++ tl)) && (allowB m v tl)) && true)) (by kernel_rfl) (fun w => by kernel_rfl) ?_
      refine T.nil ?_
      refine QN.seq ?_
      refine W.ret ?_
      refine QN.done (.inl rfl) 8 (.bool (((allowB m v ((([] : List Vt) ++ (b.take 300)) ++ tl)) && (allowB m v tl)) && true)) rfl (by kernel_rfl) (fun w hw => ⟨?_, hw.below⟩)
      exact ret_bool (grows_end (not_eq_false h2) htw (by omega))
theorem JustifyGrows_w (w : World) (a0 : Int) (v1 : Value) (x1 : Vt) (v2 : Value) (x2 : List Vt) (v3 : Value) (x3 : List Vt) (h0 : W64 a0) (h1 : v1 = .agg x1.cs ∧ x1.Ok) (h2 : VS w v2 x2) (h3 : VS w v3 x3) : Calls Try.prog 12 #[.int .i64 a0, v1, v2, v3] w fun e w' => e = .returned (.bool true) ∧ Below w.heap.size w w' := by
  obtain ⟨rfl, k1⟩ := h1
  obtain ⟨A2, c2, rfl, l2, m2, r2, k2⟩ := h2
  obtain ⟨A3, c3, rfl, l3, m3, r3, k3⟩ := h3
  exact JustifyGrows_c _ _ _ _ _ _ _ _ w h0 k1 l2 m2 r2.rd l3 m3 r3.rd
def bkP (m : Int) (v : Vt) (k r : Int) (u : Vt) : Bool := ((((((((u.kind == k) && (u.round == r)) && (u.par == v.par)) && (u.slot == v.slot)) && (u.choice == v.choice)) && (u.val == v.val)) && (validB u)) && (hasB m u.signer))
def bkM (m : Int) (v : Vt) (k r : Int) (l : List Vt) : Int := l.foldl (fun x u => bif bkP m v k r u then bits .or .i64 x (2 ^ u.signer.toNat) else x) 0
theorem bkM_step {m : Int} {v : Vt} {k r : Int} {a : List Vt} {j : Nat} {x : Int} (h : x = bkM m v k r (a.take j)) (hj : j < a.length) : (bif bkP m v k r a[j] then bits .or .i64 x (2 ^ a[j].signer.toNat) else x) = bkM m v k r (a.take (j + 1)) := by
  unfold bkM at *; rw [foldl_step _ _ hj, ← h]
set_option maxRecDepth 100000 in
set_option maxHeartbeats 2000000 in
theorem backers_c (m : Int) (v : Vt) (a : List Vt) (k r : Int) (A : Option Addr) (c : Nat) (hm : W64 m) (ha : a.length ≤ 1000) (w : World) (hr : Rd w A a) : Calls Try.prog 36 #[.int .i64 (m), .agg (v).cs, .slice A (a.length) c, .int .i64 (k), .int .i64 (r)] w (fun rr w' => rr = .returned (.int .i64 (size (bkM m v k r a) : Int)) ∧ Below w.heap.size w w') := by
  refine calls_W (n := 80) Try.func36 rfl [(0, .int .i64 (m)), (1, .agg (v).cs), (2, .slice A (a.length) c), (3, .int .i64 (k)), (4, .int .i64 (r))] rfl ⟨by kernel_rfl, by kernel_rfl⟩ ?_
  refine W.weak (Ψ := St w []) (fun w' h => by rw [h]; exact St.start w) ?_
  refine W.seq ?_
  refine W.region [(0, false), (1, false)] (by kernel_rfl) ?_
  refine T.box 6 42 (.agg (v).cs) ((v).cs) (by kernel_rfl) (by kernel_rfl) (by kernel_rfl) (fun _ _ _ => trivial) (fun b1 => ?_)
  refine T.pure 10 (.int .i64 (0)) (by kernel_rfl) (fun w => by kernel_rfl) ?_
  refine T.nil ?_
  refine QN.seq ?_
  refine W.seq ?_
  refine W.region [(0, false)] (by kernel_rfl) ?_
  refine T.pure 11 (.int .i64 (0)) (by kernel_rfl) (fun w => by kernel_rfl) ?_
  refine T.nil ?_
  refine QN.seq ?_
  refine W.seq ?_
  refine W.seq ?_
  refine W.region [(0, false)] (by kernel_rfl) ?_
  refine T.pure 12 (.int .i64 (0)) (by kernel_rfl) (fun w => by kernel_rfl) ?_
  refine T.nil ?_
  refine QN.seq ?_
  refine W.block ?_
  refine W.loop (σ := Nat × Int) (fun gs => gs.1 ≤ a.length ∧ gs.2 = bkM m v k r (a.take gs.1)) (fun gs => [(0, .int .i64 (m)), (2, .slice A (a.length) c), (3, .int .i64 (k)), (4, .int .i64 (r)), (6, .pointer (some ⟨b1, 0, none⟩)), (10, .int .i64 (0)), (11, .int .i64 (gs.2)), (12, .int .i64 ((gs.1 : Int)))]) (fun gs => St w [(b1, .cells (v).cs 42 (0, 0))]) (fun gs => a.length - gs.1) (0, 0) ?_ (by kernel_rfl) (fun w h => h) ?_
  · show 0 ≤ a.length ∧ 0 = bkM m v k r (a.take 0)
    exact ⟨Nat.zero_le _, rfl⟩
  rintro ⟨j, x⟩ hI_
  obtain ⟨hj, hx⟩ : j ≤ a.length ∧ x = bkM m v k r (a.take j) := hI_
  show W _ _ [(0, .int .i64 (m)), (2, .slice A (a.length) c), (3, .int .i64 (k)), (4, .int .i64 (r)), (6, .pointer (some ⟨b1, 0, none⟩)), (10, .int .i64 (0)), (11, .int .i64 (x)), (12, .int .i64 ((j : Int)))] (St w [(b1, .cells (v).cs 42 (0, 0))]) _ _
  refine W.seq ?_
  refine W.seq ?_
  refine W.region [(0, false), (1, false), (2, false), (3, false)] (by kernel_rfl) ?_
  refine T.pure 14 (.int .i64 ((j : Int))) (by kernel_rfl) (fun w => by kernel_rfl) ?_
  refine T.pure 15 (.slice A (a.length) c) (by kernel_rfl) (fun w => by kernel_rfl) ?_
  refine T.pure 16 (.int .i64 (((a.length : Nat) : Int))) (by kernel_rfl) (fun w => by kernel_rfl) ?_
  refine T.pure 17 (.bool (decide ((j : Int) < ((a.length : Nat) : Int)))) (by kernel_rfl) (fun w => by kernel_rfl) ?_
  refine T.nil ?_
  refine QN.seq ?_
  refine W.cond (decide ((j : Int) < ((a.length : Nat) : Int))) (by kernel_rfl) (fun h2 => ?_) (fun h2 => ?_)
  · skip
    have h2' := of_decide_eq_true h2
    refine W.skip ?_
    refine QN.seq ?_
    refine W.seq ?_
    refine W.block ?_
    refine W.seq ?_
    refine W.region [(0, false), (1, false), (2, false), (3, false), (4, false), (5, false)] (by kernel_rfl) ?_
    refine T.pure 20 (.slice A (a.length) c) (by kernel_rfl) (fun w => by kernel_rfl) ?_
    refine T.pure 21 (.int .i64 ((j : Int))) (by kernel_rfl) (fun w => by kernel_rfl) ?_
    have hl7 : j < (a).length := by omega
    obtain ⟨b3, o4, hA5, hr6⟩ := (Rd.arr hr _) j hl7
    refine T.index 22 43 42 22 A (a.length) c ((j : Int)) (j) b3 o4 (by kernel_rfl) (by kernel_rfl) (by kernel_rfl) (by kernel_rfl) hA5 (rfl) (by omega) ?_
    refine T.loadR false 23 ((a[j]'hl7)).cs 42 b3 (o4 + j * 22) (by kernel_rfl) (by kernel_rfl) (by kernel_rfl) (by kernel_rfl) hr6 ?_
    refine T.alloc 13 42 (Vt.zero).cs (by kernel_rfl) (by kernel_rfl) (by kernel_rfl) (fun _ _ _ => trivial) (fun b8 => ?_)
    refine T.storeP 42 b8 0 (.agg ((a[j]'hl7)).cs) (Vt.zero).cs ((a[j]'hl7)).cs 42 (by kernel_rfl) (by kernel_rfl) (by kernel_rfl) (by kernel_rfl) (by kernel_rfl) (by kernel_rfl) (List.Perm.refl _) (fun _ _ => trivial) ?_
    refine T.nil ?_
    refine QN.seq ?_
    refine W.seq ?_
    refine W.region [(0, false), (1, false), (2, false), (3, false), (4, false), (5, false), (6, false), (7, false), (8, false), (9, false), (10, false), (11, false), (12, false), (13, false), (14, false), (15, false), (16, false), (17, false), (18, false), (19, false), (20, false), (21, false), (22, false), (23, false), (24, false), (25, false), (26, false), (27, false), (28, false), (29, false), (30, false), (31, false), (32, false), (33, false), (34, false), (35, false), (36, false), (37, false), (38, false), (39, false), (40, false), (41, false), (42, false), (43, false), (44, false), (45, false), (46, false), (47, false)] (by kernel_rfl) ?_
    refine T.pure 24 (.pointer (some ⟨b8, 0, none⟩)) (by kernel_rfl) (fun w => by kernel_rfl) ?_
    refine T.load false 25 (.int .i64 (((a[j]'hl7)).kind)) 3 b8 0 (by kernel_rfl) (by kernel_rfl) (by kernel_rfl) (fun w h => St.cellM h (.head _) (by kernel_rfl)) ?_
    refine T.pure 26 (.int .i64 (k)) (by kernel_rfl) (fun w => by kernel_rfl) ?_
    refine T.pure 27 (.bool ((((a[j]'hl7)).kind) == k)) (by kernel_rfl) (fun w => by kernel_rfl) ?_
    refine T.pure 28 (.bool ((((a[j]'hl7)).kind) == k)) (by kernel_rfl) (fun w => by kernel_rfl) ?_
    refine T.blk [(5, false), (6, false), (7, false), (8, false)] [(9, false), (10, false), (11, false), (12, false), (13, false), (14, false), (15, false), (16, false), (17, false), (18, false), (19, false), (20, false), (21, false), (22, false), (23, false), (24, false), (25, false), (26, false), (27, false), (28, false), (29, false), (30, false), (31, false), (32, false), (33, false), (34, false), (35, false), (36, false), (37, false), (38, false), (39, false), (40, false), (41, false), (42, false), (43, false), (44, false), (45, false), (46, false), (47, false)] 4 true ((((a[j]'hl7)).kind) == k) 28 32 (.bool ((((a[j]'hl7)).round) == r)) (by kernel_rfl) (by kernel_rfl) (by kernel_rfl) (fun hg9 => ?_) ?_
    · have hg9_ := hg9
      refine T.pure 29 (.pointer (some ⟨b8, 2, none⟩)) (by kernel_rfl) (fun w => by kernel_rfl) ?_
      refine T.load false 30 (.int .i64 (((a[j]'hl7)).round)) 3 b8 2 (by kernel_rfl) (by kernel_rfl) (by kernel_rfl) (fun w h => St.cellM h (.head _) (by kernel_rfl)) ?_
      refine T.pure 31 (.int .i64 (r)) (by kernel_rfl) (fun w => by kernel_rfl) ?_
      refine T.pure 32 (.bool ((((a[j]'hl7)).round) == r)) (by kernel_rfl) (fun w => by kernel_rfl) ?_
      exact T.blkEnd (by kernel_rfl) (fun w h => h)
    refine T.and 33 ((((a[j]'hl7)).kind) == k) ((((a[j]'hl7)).round) == r) (by kernel_rfl) (by kernel_rfl) ?_
    refine T.pure 34 (.bool (((((a[j]'hl7)).kind) == k) && ((((a[j]'hl7)).round) == r))) (by kernel_rfl) (fun w => by kernel_rfl) ?_
    refine T.blk [(11, false), (12, false), (13, false), (14, false), (15, false)] [(16, false), (17, false), (18, false), (19, false), (20, false), (21, false), (22, false), (23, false), (24, false), (25, false), (26, false), (27, false), (28, false), (29, false), (30, false), (31, false), (32, false), (33, false), (34, false), (35, false), (36, false), (37, false), (38, false), (39, false), (40, false), (41, false), (42, false), (43, false), (44, false), (45, false), (46, false), (47, false)] 10 true (((((a[j]'hl7)).kind) == k) && ((((a[j]'hl7)).round) == r)) 34 39 (.bool ((((a[j]'hl7)).par) == v.par)) (by kernel_rfl) (by kernel_rfl) (by kernel_rfl) (fun hg10 => ?_) ?_
    · have hg10_ := hg10
      have hg10l := (Bool.and_eq_true_iff.1 hg10).1
      have hg10r := (Bool.and_eq_true_iff.1 hg10).2
      refine T.pure 35 (.pointer (some ⟨b8, 6, none⟩)) (by kernel_rfl) (fun w => by kernel_rfl) ?_
      refine T.loadR false 36 (((a[j]'hl7)).par).cs 40 b8 6 (by kernel_rfl) (by kernel_rfl) (by kernel_rfl) (by kernel_rfl) (fun w h => St.rangeM h (((a[j]'hl7)).par).cs (.head _) (by kernel_rfl)) ?_
      refine T.pure 37 (.pointer (some ⟨b1, 6, none⟩)) (by kernel_rfl) (fun w => by kernel_rfl) ?_
      refine T.loadR false 38 (v.par).cs 40 b1 6 (by kernel_rfl) (by kernel_rfl) (by kernel_rfl) (by kernel_rfl) (fun w h => St.rangeM h (v.par).cs (.tail _ (.head _)) (by kernel_rfl)) ?_
      refine T.eqq 39 ((((a[j]'hl7)).par) == v.par) ((((a[j]'hl7)).par) == v.par) false 40 (((a[j]'hl7)).par).cs (v.par).cs (by kernel_rfl) (by kernel_rfl) (by kernel_rfl) (by kernel_rfl) (fun w => eq_nm w (((a[j]'hl7)).par) v.par) ?_
      exact T.blkEnd (by kernel_rfl) (fun w h => h)
    refine T.and 40 (((((a[j]'hl7)).kind) == k) && ((((a[j]'hl7)).round) == r)) ((((a[j]'hl7)).par) == v.par) (by kernel_rfl) (by kernel_rfl) ?_
    refine T.pure 41 (.bool ((((((a[j]'hl7)).kind) == k) && ((((a[j]'hl7)).round) == r)) && ((((a[j]'hl7)).par) == v.par))) (by kernel_rfl) (fun w => by kernel_rfl) ?_
    refine T.blk [(18, false), (19, false), (20, false), (21, false), (22, false)] [(23, false), (24, false), (25, false), (26, false), (27, false), (28, false), (29, false), (30, false), (31, false), (32, false), (33, false), (34, false), (35, false), (36, false), (37, false), (38, false), (39, false), (40, false), (41, false), (42, false), (43, false), (44, false), (45, false), (46, false), (47, false)] 17 true ((((((a[j]'hl7)).kind) == k) && ((((a[j]'hl7)).round) == r)) && ((((a[j]'hl7)).par) == v.par)) 41 46 (.bool ((((a[j]'hl7)).slot) == v.slot)) (by kernel_rfl) (by kernel_rfl) (by kernel_rfl) (fun hg11 => ?_) ?_
    · have hg11_ := hg11
      have hg11l := (Bool.and_eq_true_iff.1 hg11).1
      have hg11r := (Bool.and_eq_true_iff.1 hg11).2
      have hg11ll := (Bool.and_eq_true_iff.1 hg11l).1
      have hg11lr := (Bool.and_eq_true_iff.1 hg11l).2
      refine T.pure 42 (.pointer (some ⟨b8, 1, none⟩)) (by kernel_rfl) (fun w => by kernel_rfl) ?_
      refine T.load false 43 (.int .i64 (((a[j]'hl7)).slot)) 3 b8 1 (by kernel_rfl) (by kernel_rfl) (by kernel_rfl) (fun w h => St.cellM h (.head _) (by kernel_rfl)) ?_
      refine T.pure 44 (.pointer (some ⟨b1, 1, none⟩)) (by kernel_rfl) (fun w => by kernel_rfl) ?_
      refine T.load false 45 (.int .i64 (v.slot)) 3 b1 1 (by kernel_rfl) (by kernel_rfl) (by kernel_rfl) (fun w h => St.cellM h (.tail _ (.head _)) (by kernel_rfl)) ?_
      refine T.pure 46 (.bool ((((a[j]'hl7)).slot) == v.slot)) (by kernel_rfl) (fun w => by kernel_rfl) ?_
      exact T.blkEnd (by kernel_rfl) (fun w h => h)
    refine T.and 47 ((((((a[j]'hl7)).kind) == k) && ((((a[j]'hl7)).round) == r)) && ((((a[j]'hl7)).par) == v.par)) ((((a[j]'hl7)).slot) == v.slot) (by kernel_rfl) (by kernel_rfl) ?_
    refine T.pure 48 (.bool (((((((a[j]'hl7)).kind) == k) && ((((a[j]'hl7)).round) == r)) && ((((a[j]'hl7)).par) == v.par)) && ((((a[j]'hl7)).slot) == v.slot))) (by kernel_rfl) (fun w => by kernel_rfl) ?_
    refine T.blk [(25, false), (26, false), (27, false), (28, false), (29, false)] [(30, false), (31, false), (32, false), (33, false), (34, false), (35, false), (36, false), (37, false), (38, false), (39, false), (40, false), (41, false), (42, false), (43, false), (44, false), (45, false), (46, false), (47, false)] 24 true (((((((a[j]'hl7)).kind) == k) && ((((a[j]'hl7)).round) == r)) && ((((a[j]'hl7)).par) == v.par)) && ((((a[j]'hl7)).slot) == v.slot)) 48 53 (.bool ((((a[j]'hl7)).choice) == v.choice)) (by kernel_rfl) (by kernel_rfl) (by kernel_rfl) (fun hg12 => ?_) ?_
    · have hg12_ := hg12
      have hg12l := (Bool.and_eq_true_iff.1 hg12).1
      have hg12r := (Bool.and_eq_true_iff.1 hg12).2
      have hg12ll := (Bool.and_eq_true_iff.1 hg12l).1
      have hg12lr := (Bool.and_eq_true_iff.1 hg12l).2
      have hg12lll := (Bool.and_eq_true_iff.1 hg12ll).1
      have hg12llr := (Bool.and_eq_true_iff.1 hg12ll).2
      refine T.pure 49 (.pointer (some ⟨b8, 3, none⟩)) (by kernel_rfl) (fun w => by kernel_rfl) ?_
      refine T.load false 50 (.int .i64 (((a[j]'hl7)).choice)) 3 b8 3 (by kernel_rfl) (by kernel_rfl) (by kernel_rfl) (fun w h => St.cellM h (.head _) (by kernel_rfl)) ?_
      refine T.pure 51 (.pointer (some ⟨b1, 3, none⟩)) (by kernel_rfl) (fun w => by kernel_rfl) ?_
      refine T.load false 52 (.int .i64 (v.choice)) 3 b1 3 (by kernel_rfl) (by kernel_rfl) (by kernel_rfl) (fun w h => St.cellM h (.tail _ (.head _)) (by kernel_rfl)) ?_
      refine T.pure 53 (.bool ((((a[j]'hl7)).choice) == v.choice)) (by kernel_rfl) (fun w => by kernel_rfl) ?_
      exact T.blkEnd (by kernel_rfl) (fun w h => h)
    refine T.and 54 (((((((a[j]'hl7)).kind) == k) && ((((a[j]'hl7)).round) == r)) && ((((a[j]'hl7)).par) == v.par)) && ((((a[j]'hl7)).slot) == v.slot)) ((((a[j]'hl7)).choice) == v.choice) (by kernel_rfl) (by kernel_rfl) ?_
    refine T.pure 55 (.bool ((((((((a[j]'hl7)).kind) == k) && ((((a[j]'hl7)).round) == r)) && ((((a[j]'hl7)).par) == v.par)) && ((((a[j]'hl7)).slot) == v.slot)) && ((((a[j]'hl7)).choice) == v.choice))) (by kernel_rfl) (fun w => by kernel_rfl) ?_
    refine T.blk [(32, false), (33, false), (34, false), (35, false), (36, false)] [(37, false), (38, false), (39, false), (40, false), (41, false), (42, false), (43, false), (44, false), (45, false), (46, false), (47, false)] 31 true ((((((((a[j]'hl7)).kind) == k) && ((((a[j]'hl7)).round) == r)) && ((((a[j]'hl7)).par) == v.par)) && ((((a[j]'hl7)).slot) == v.slot)) && ((((a[j]'hl7)).choice) == v.choice)) 55 60 (.bool ((((a[j]'hl7)).val) == v.val)) (by kernel_rfl) (by kernel_rfl) (by kernel_rfl) (fun hg13 => ?_) ?_
    · have hg13_ := hg13
      have hg13l := (Bool.and_eq_true_iff.1 hg13).1
      have hg13r := (Bool.and_eq_true_iff.1 hg13).2
      have hg13ll := (Bool.and_eq_true_iff.1 hg13l).1
      have hg13lr := (Bool.and_eq_true_iff.1 hg13l).2
      have hg13lll := (Bool.and_eq_true_iff.1 hg13ll).1
      have hg13llr := (Bool.and_eq_true_iff.1 hg13ll).2
      have hg13llll := (Bool.and_eq_true_iff.1 hg13lll).1
      have hg13lllr := (Bool.and_eq_true_iff.1 hg13lll).2
      refine T.pure 56 (.pointer (some ⟨b8, 14, none⟩)) (by kernel_rfl) (fun w => by kernel_rfl) ?_
      refine T.loadR false 57 (((a[j]'hl7)).val).cs 40 b8 14 (by kernel_rfl) (by kernel_rfl) (by kernel_rfl) (by kernel_rfl) (fun w h => St.rangeM h (((a[j]'hl7)).val).cs (.head _) (by kernel_rfl)) ?_
      refine T.pure 58 (.pointer (some ⟨b1, 14, none⟩)) (by kernel_rfl) (fun w => by kernel_rfl) ?_
      refine T.loadR false 59 (v.val).cs 40 b1 14 (by kernel_rfl) (by kernel_rfl) (by kernel_rfl) (by kernel_rfl) (fun w h => St.rangeM h (v.val).cs (.tail _ (.head _)) (by kernel_rfl)) ?_
      refine T.eqq 60 ((((a[j]'hl7)).val) == v.val) ((((a[j]'hl7)).val) == v.val) false 40 (((a[j]'hl7)).val).cs (v.val).cs (by kernel_rfl) (by kernel_rfl) (by kernel_rfl) (by kernel_rfl) (fun w => eq_nm w (((a[j]'hl7)).val) v.val) ?_
      exact T.blkEnd (by kernel_rfl) (fun w h => h)
    refine T.and 61 ((((((((a[j]'hl7)).kind) == k) && ((((a[j]'hl7)).round) == r)) && ((((a[j]'hl7)).par) == v.par)) && ((((a[j]'hl7)).slot) == v.slot)) && ((((a[j]'hl7)).choice) == v.choice)) ((((a[j]'hl7)).val) == v.val) (by kernel_rfl) (by kernel_rfl) ?_
    refine T.pure 62 (.bool (((((((((a[j]'hl7)).kind) == k) && ((((a[j]'hl7)).round) == r)) && ((((a[j]'hl7)).par) == v.par)) && ((((a[j]'hl7)).slot) == v.slot)) && ((((a[j]'hl7)).choice) == v.choice)) && ((((a[j]'hl7)).val) == v.val))) (by kernel_rfl) (fun w => by kernel_rfl) ?_
    refine T.blk [(39, false), (40, false)] [(41, false), (42, false), (43, false), (44, false), (45, false), (46, false), (47, false)] 38 true (((((((((a[j]'hl7)).kind) == k) && ((((a[j]'hl7)).round) == r)) && ((((a[j]'hl7)).par) == v.par)) && ((((a[j]'hl7)).slot) == v.slot)) && ((((a[j]'hl7)).choice) == v.choice)) && ((((a[j]'hl7)).val) == v.val)) 62 64 (.bool (validB (a[j]'hl7))) (by kernel_rfl) (by kernel_rfl) (by kernel_rfl) (fun hg14 => ?_) ?_
    · have hg14_ := hg14
      have hg14l := (Bool.and_eq_true_iff.1 hg14).1
      have hg14r := (Bool.and_eq_true_iff.1 hg14).2
      have hg14ll := (Bool.and_eq_true_iff.1 hg14l).1
      have hg14lr := (Bool.and_eq_true_iff.1 hg14l).2
      have hg14lll := (Bool.and_eq_true_iff.1 hg14ll).1
      have hg14llr := (Bool.and_eq_true_iff.1 hg14ll).2
      have hg14llll := (Bool.and_eq_true_iff.1 hg14lll).1
      have hg14lllr := (Bool.and_eq_true_iff.1 hg14lll).2
      have hg14lllll := (Bool.and_eq_true_iff.1 hg14llll).1
      have hg14llllr := (Bool.and_eq_true_iff.1 hg14llll).2
      refine T.loadR false 63 ((a[j]'hl7)).cs 42 b8 0 (by kernel_rfl) (by kernel_rfl) (by kernel_rfl) (by kernel_rfl) (fun w h => St.rangeM h ((a[j]'hl7)).cs (.head _) (by kernel_rfl)) ?_
      refine T.callP 64 35 #[.agg ((a[j]'hl7)).cs] (.bool (validB (a[j]'hl7))) (by kernel_rfl) (by kernel_rfl) ent35 (fun w hw => valid_c _ w) (fun _ _ => trivial) ?_
      exact T.blkEnd (by kernel_rfl) (fun w h => h)
    refine T.and 65 (((((((((a[j]'hl7)).kind) == k) && ((((a[j]'hl7)).round) == r)) && ((((a[j]'hl7)).par) == v.par)) && ((((a[j]'hl7)).slot) == v.slot)) && ((((a[j]'hl7)).choice) == v.choice)) && ((((a[j]'hl7)).val) == v.val)) (validB (a[j]'hl7)) (by kernel_rfl) (by kernel_rfl) ?_
    refine T.pure 66 (.bool ((((((((((a[j]'hl7)).kind) == k) && ((((a[j]'hl7)).round) == r)) && ((((a[j]'hl7)).par) == v.par)) && ((((a[j]'hl7)).slot) == v.slot)) && ((((a[j]'hl7)).choice) == v.choice)) && ((((a[j]'hl7)).val) == v.val)) && (validB (a[j]'hl7)))) (by kernel_rfl) (fun w => by kernel_rfl) ?_
    refine T.blk [(43, false), (44, false), (45, false), (46, false)] [(47, false)] 42 true ((((((((((a[j]'hl7)).kind) == k) && ((((a[j]'hl7)).round) == r)) && ((((a[j]'hl7)).par) == v.par)) && ((((a[j]'hl7)).slot) == v.slot)) && ((((a[j]'hl7)).choice) == v.choice)) && ((((a[j]'hl7)).val) == v.val)) && (validB (a[j]'hl7))) 66 70 (.bool (hasB m (((a[j]'hl7)).signer))) (by kernel_rfl) (by kernel_rfl) (by kernel_rfl) (fun hg15 => ?_) ?_
    · have hg15_ := hg15
      have hg15l := (Bool.and_eq_true_iff.1 hg15).1
      have hg15r := (Bool.and_eq_true_iff.1 hg15).2
      have hg15ll := (Bool.and_eq_true_iff.1 hg15l).1
      have hg15lr := (Bool.and_eq_true_iff.1 hg15l).2
      have hg15lll := (Bool.and_eq_true_iff.1 hg15ll).1
      have hg15llr := (Bool.and_eq_true_iff.1 hg15ll).2
      have hg15llll := (Bool.and_eq_true_iff.1 hg15lll).1
      have hg15lllr := (Bool.and_eq_true_iff.1 hg15lll).2
      have hg15lllll := (Bool.and_eq_true_iff.1 hg15llll).1
      have hg15llllr := (Bool.and_eq_true_iff.1 hg15llll).2
      have hg15llllll := (Bool.and_eq_true_iff.1 hg15lllll).1
      have hg15lllllr := (Bool.and_eq_true_iff.1 hg15lllll).2
      refine T.pure 67 (.int .i64 (m)) (by kernel_rfl) (fun w => by kernel_rfl) ?_
      refine T.pure 68 (.pointer (some ⟨b8, 4, none⟩)) (by kernel_rfl) (fun w => by kernel_rfl) ?_
      refine T.load false 69 (.int .i64 (((a[j]'hl7)).signer)) 3 b8 4 (by kernel_rfl) (by kernel_rfl) (by kernel_rfl) (fun w h => St.cellM h (.head _) (by kernel_rfl)) ?_
      refine T.callP 70 23 #[.int .i64 (m), .int .i64 (((a[j]'hl7)).signer)] (.bool (hasB m (((a[j]'hl7)).signer))) (by kernel_rfl) (by kernel_rfl) ent23 (fun w hw => Ret.same (has_c _ _ w (by first | assumption | exact w64_and _ _ | exact w64_or _ _ | exact w64_andNot _ _ | (unfold W64; omega)))) (fun _ _ => trivial) ?_
      exact T.blkEnd (by kernel_rfl) (fun w h => h)
    refine T.and 71 ((((((((((a[j]'hl7)).kind) == k) && ((((a[j]'hl7)).round) == r)) && ((((a[j]'hl7)).par) == v.par)) && ((((a[j]'hl7)).slot) == v.slot)) && ((((a[j]'hl7)).choice) == v.choice)) && ((((a[j]'hl7)).val) == v.val)) && (validB (a[j]'hl7))) (hasB m (((a[j]'hl7)).signer)) (by kernel_rfl) (by kernel_rfl) ?_
    refine T.nil ?_
    refine QN.seq ?_
    refine W.cond (((((((((((a[j]'hl7)).kind) == k) && ((((a[j]'hl7)).round) == r)) && ((((a[j]'hl7)).par) == v.par)) && ((((a[j]'hl7)).slot) == v.slot)) && ((((a[j]'hl7)).choice) == v.choice)) && ((((a[j]'hl7)).val) == v.val)) && (validB (a[j]'hl7))) && (hasB m (((a[j]'hl7)).signer))) (by kernel_rfl) (fun h16 => ?_) (fun h16 => ?_)
    · skip
      have h16l := (Bool.and_eq_true_iff.1 h16).1
      have h16r := (Bool.and_eq_true_iff.1 h16).2
      have h16ll := (Bool.and_eq_true_iff.1 h16l).1
      have h16lr := (Bool.and_eq_true_iff.1 h16l).2
      have h16lll := (Bool.and_eq_true_iff.1 h16ll).1
      have h16llr := (Bool.and_eq_true_iff.1 h16ll).2
      have h16llll := (Bool.and_eq_true_iff.1 h16lll).1
      have h16lllr := (Bool.and_eq_true_iff.1 h16lll).2
      have h16lllll := (Bool.and_eq_true_iff.1 h16llll).1
      have h16llllr := (Bool.and_eq_true_iff.1 h16llll).2
      have h16llllll := (Bool.and_eq_true_iff.1 h16lllll).1
      have h16lllllr := (Bool.and_eq_true_iff.1 h16lllll).2
      have h16lllllll := (Bool.and_eq_true_iff.1 h16llllll).1
      have h16llllllr := (Bool.and_eq_true_iff.1 h16llllll).2
      have h16rb := hasB_lt h16r
      refine W.region [(0, false), (1, false), (2, false), (3, false), (4, false), (5, false), (6, false)] (by kernel_rfl) ?_
      refine T.pure 72 (.int .i64 (x)) (by kernel_rfl) (fun w => by kernel_rfl) ?_
      refine T.pure 73 (.pointer (some ⟨b8, 4, none⟩)) (by kernel_rfl) (fun w => by kernel_rfl) ?_
      refine T.load false 74 (.int .i64 (((a[j]'hl7)).signer)) 3 b8 4 (by kernel_rfl) (by kernel_rfl) (by kernel_rfl) (fun w h => St.cellM h (.head _) (by kernel_rfl)) ?_
      refine T.pureE 75 (.int .u64 (IntKind.u64.wrap (((a[j]'hl7)).signer))) (.int .u64 (((a[j]'hl7)).signer)) (by kernel_rfl) (fun w => by kernel_rfl) (wrapu_int (by omega) (by omega)) ?_
      refine T.shl 76 .i64 .u64 1 (((a[j]'hl7)).signer) (.int .i64 (2 ^ (((a[j]'hl7)).signer).toNat)) (by kernel_rfl) (by kernel_rfl) (by omega) (shl_one (by omega) (by omega)) ?_
      refine T.pure 77 (.int .i64 (bits .or .i64 x (2 ^ (((a[j]'hl7)).signer).toNat))) (by kernel_rfl) (fun w => by kernel_rfl) ?_
      refine T.pure 11 (.int .i64 (bits .or .i64 x (2 ^ (((a[j]'hl7)).signer).toNat))) (by kernel_rfl) (fun w => by kernel_rfl) ?_
      refine T.nil ?_
      refine QN.blkNormal ?_
      refine QN.seq ?_
      refine W.region [(0, false), (1, false), (2, false)] (by kernel_rfl) ?_
      refine T.pure 18 (.int .i64 ((j : Int))) (by kernel_rfl) (fun w => by kernel_rfl) ?_
      refine T.pureE 19 (.int .i64 (IntKind.i64.wrap ((j : Int) + 1))) (.int .i64 ((j : Int) + 1)) (by kernel_rfl) (fun w => by kernel_rfl) (wrap_int (by omega) (by omega)) ?_
      refine T.pure 12 (.int .i64 ((j : Int) + 1)) (by kernel_rfl) (fun w => by kernel_rfl) ?_
      refine T.nil ?_
      refine QN.back (j + 1, bits .or .i64 x (2 ^ (((a[j]'hl7)).signer).toNat)) ?_ ?_ (by kernel_rfl) (fun w h => (h.perm (((List.Perm.refl _).cons _).trans (List.Perm.swap _ _ _))).part ((List.nil_sublist _).cons_cons _))
      · show (j + 1) ≤ a.length ∧ (bits .or .i64 x (2 ^ (((a[j]'hl7)).signer).toNat)) = bkM m v k r (a.take (j + 1))
        refine ⟨by omega, ?_⟩; rw [← bkM_step hx (by omega)]; have hb : bkP m v k r _ = _ := h16; rw [hb]; all_goals rfl
      · show _ - _ < _ - _; omega
    · skip
      refine W.skip ?_
      refine QN.blkNormal ?_
      refine QN.seq ?_
      refine W.region [(0, false), (1, false), (2, false)] (by kernel_rfl) ?_
      refine T.pure 18 (.int .i64 ((j : Int))) (by kernel_rfl) (fun w => by kernel_rfl) ?_
      refine T.pureE 19 (.int .i64 (IntKind.i64.wrap ((j : Int) + 1))) (.int .i64 ((j : Int) + 1)) (by kernel_rfl) (fun w => by kernel_rfl) (wrap_int (by omega) (by omega)) ?_
      refine T.pure 12 (.int .i64 ((j : Int) + 1)) (by kernel_rfl) (fun w => by kernel_rfl) ?_
      refine T.nil ?_
      refine QN.back (j + 1, x) ?_ ?_ (by kernel_rfl) (fun w h => (h.perm (((List.Perm.refl _).cons _).trans (List.Perm.swap _ _ _))).part ((List.nil_sublist _).cons_cons _))
      · show (j + 1) ≤ a.length ∧ x = bkM m v k r (a.take (j + 1))
        refine ⟨by omega, ?_⟩; rw [← bkM_step hx (by omega)]; have hb : bkP m v k r _ = _ := h16; rw [hb]; all_goals rfl
      · show _ - _ < _ - _; omega
  · skip
    have h2' := of_decide_eq_false h2
    refine W.exit ?_
    refine QN.thenExit ?_
    refine QN.thenExit ?_
    refine QN.blkHit ?_
    refine QN.seq ?_
    refine W.seq ?_
    refine W.region [(0, false), (1, false), (2, false)] (by kernel_rfl) ?_
    refine T.pure 78 (.int .i64 (x)) (by kernel_rfl) (fun w => by kernel_rfl) ?_
    refine T.callP 79 22 #[.int .i64 (x)] (.int .i64 ((size x : Int))) (by kernel_rfl) (by kernel_rfl) ent22 (fun w hw => Ret.same (size_c _ w)) (fun _ _ => trivial) ?_
    refine T.pure 10 (.int .i64 ((size x : Int))) (by kernel_rfl) (fun w => by kernel_rfl) ?_
    refine T.nil ?_
    refine QN.seq ?_
    refine W.ret ?_
    refine QN.done (.inl rfl) 10 (.int .i64 ((size x : Int))) rfl (by kernel_rfl) (fun w hw => ⟨?_, hw.below⟩)
    exact ret_int (by rw [hx, take_end (by omega)])
theorem mb_bkM (m : Int) (v : Vt) (k r : Int) (l : List Vt) (i : Nat) (hi : i < 10) : mb (bkM m v k r l) i = l.any (fun u => bkP m v k r u && (u.signer == (i : Int))) := by
  refine snoc_ind (p := fun l => mb (bkM m v k r l) i = l.any (fun u => bkP m v k r u && (u.signer == (i : Int)))) ?_ ?_ l
  · show mb 0 i = _; rw [mb_zero]; rfl
  · intro l u h
    have hst : bkM m v k r (l ++ [u]) = (bif bkP m v k r u then bits .or .i64 (bkM m v k r l) (2 ^ u.signer.toNat) else bkM m v k r l) := by unfold bkM; rw [List.foldl_append]; rfl
    rw [hst, List.any_append]
    cases hp : bkP m v k r u with
    | false => simp [h, hp]
    | true =>
      have hs : hasB m u.signer = true := by unfold bkP at hp; simp only [Bool.and_eq_true] at hp; exact hp.2
      have hb := hasB_lt hs
      simp only [cond_true, mb_or, h, mb_pow _ _ (show i < 64 by omega), List.any_cons, List.any_nil, hp, Bool.true_and, Bool.or_false]
      congr 1
      rw [Bool.eq_iff_iff]; simp; omega
theorem size_mono {x y : Int} (h : ∀ i, i < 10 → mb x i = true → mb y i = true) : size x ≤ size y := by
  have e : ids x = (ids y).filter (mb x) := by
    unfold ids
    rw [List.filter_filter]
    refine List.filter_congr fun i hi => ?_
    have hi' : i < 10 := by simpa using hi
    cases hc : mb x i with
    | false => rfl
    | true => rw [h i hi' hc]; rfl
  unfold size
  rw [e]
  exact List.length_filter_le _ _
theorem bkP_iff {m : Int} {v : Vt} {k r : Int} {u : Vt} (hk : k ≤ 4) : bkP m v k r u = true ↔ cntB m v u = true ∧ u.kind = k ∧ u.round = r ∧ sameB v u = true := by
  unfold bkP cntB
  rw [sameB_iff]
  simp only [Bool.and_eq_true, beq_iff_eq, decide_eq_true_eq]
  constructor
  · rintro ⟨⟨⟨⟨⟨⟨⟨h1, h2⟩, h3⟩, h4⟩, h5⟩, h6⟩, h7⟩, h8⟩
    exact ⟨⟨⟨⟨⟨h7, h3⟩, h4⟩, by omega⟩, h8⟩, h1, h2, h5.symm, h6.symm⟩
  · rintro ⟨⟨⟨⟨⟨h7, h3⟩, h4⟩, _⟩, h8⟩, h1, h2, h5, h6⟩
    exact ⟨⟨⟨⟨⟨⟨⟨h1, h2⟩, h3⟩, h4⟩, h5.symm⟩, h6.symm⟩, h7⟩, h8⟩
theorem sup_back {m q : Int} {v : Vt} {a : List Vt} {k r : Int} {p : Vt → Bool} (hk : k ≤ 4) (hp : ∀ u ∈ a.filter (cntB m v), p u = true → u.kind = k ∧ u.round = r ∧ sameB v u = true) (h : supB m q (a.filter (cntB m v)) v p = true) :
    (size v.support : Int) = q ∧ q ≤ (size (bkM m v k r a) : Int) := by
  rw [sup_iff] at h
  obtain ⟨h1, h2, h3⟩ := h
  refine ⟨h2, ?_⟩
  rw [← h2]
  have : size v.support ≤ size (bkM m v k r a) := by
    refine size_mono fun i hi hm => ?_
    rw [mb_bkM _ _ _ _ _ _ hi, List.any_eq_true]
    obtain ⟨u, hu, g1, g2⟩ := h3 (i : Int) (by rw [hasB_nat _ _ hi]; exact hm)
    obtain ⟨g3, g4, g5⟩ := hp u hu g2
    have hc := (List.mem_filter.1 hu)
    exact ⟨u, hc.1, by rw [Bool.and_eq_true, bkP_iff hk]; exact ⟨⟨hc.2, g3, g4, g5⟩, by simpa using g1⟩⟩
  omega
theorem any_back {m : Int} {v : Vt} {a : List Vt} {k r : Int} {p : Vt → Bool} (hk : k ≤ 4) (hp : ∀ u ∈ a.filter (cntB m v), p u = true → u.kind = k ∧ u.round = r ∧ sameB v u = true) (h : (a.filter (cntB m v)).any p = true) : 0 < size (bkM m v k r a) := by
  rw [List.any_eq_true] at h
  obtain ⟨u, hu, h⟩ := h
  obtain ⟨g3, g4, g5⟩ := hp u hu h
  have hc := (List.mem_filter.1 hu)
  have hs := hasB_lt (cnt_has hc.2)
  have : u.signer.toNat ∈ ids (bkM m v k r a) := by
    rw [mem_ids]
    refine ⟨by omega, ?_⟩
    rw [mb_bkM _ _ _ _ _ _ (by omega), List.any_eq_true]
    exact ⟨u, hc.1, by rw [Bool.and_eq_true, bkP_iff hk]; exact ⟨⟨hc.2, g3, g4, g5⟩, by simp; omega⟩⟩
  exact List.length_pos_of_mem this
theorem allow_prev {m : Int} {v : Vt} {a : List Vt} (h : allowB m v a = true) (hk : (v.kind == 3) = true) : validB v = true ∧ prevB m (quorum (size m)) (a.filter (cntB m v)) v = true := by
  have h3 : v.kind = 3 := by simpa using hk
  unfold allowB judB okB at h
  simp [h3] at h
  exact ⟨h.1.1.1, h.2⟩
theorem allow_prec {m : Int} {v : Vt} {a : List Vt} (h : allowB m v a = true) (hk : (v.kind == 4) = true) : validB v = true ∧ precB m (quorum (size m)) (a.filter (cntB m v)) v = true := by
  have h3 : v.kind = 4 := by simpa using hk
  unfold allowB judB okB at h
  simp [h3] at h
  exact ⟨h.1.1.1, h.2⟩
theorem back1 {m : Int} {v : Vt} {a : List Vt} (h : allowB m v a = true) (hc : (((v.kind == 3) && (v.round == 1)) && (v.choice == 1)) = true) :
    (size v.support : Int) = quorum (size m) ∧ quorum (size m) ≤ (size (bkM m v 2 0 a) : Int) := by
  simp only [Bool.and_eq_true] at hc
  obtain ⟨⟨hk, hr⟩, hc⟩ := hc
  obtain ⟨hv, hp⟩ := allow_prev h hk
  unfold prevB at hp
  rw [hr] at hp
  have hc0 : (v.choice == 0) = false := by have : v.choice = 1 := by simpa using hc
                                           simp [this]
  rw [hc0] at hp
  simp only [if_true, Bool.false_or] at hp
  refine sup_back (by omega) (fun u hu hpe => ?_) hp
  have hval := cnt_valid (List.mem_filter.1 hu).2
  unfold peB at hpe
  simp only [Bool.and_eq_true, beq_iff_eq] at hpe
  exact ⟨hpe.1, valid_kind2 hval (.inr hpe.1), hpe.2⟩
theorem back2 {m : Int} {v : Vt} {a : List Vt} (h : allowB m v a = true) (hc : ((v.kind == 4) && (v.choice != 2)) = true) :
    (size v.support : Int) = quorum (size m) ∧ quorum (size m) ≤ (size (bkM m v 3 v.round a) : Int) := by
  simp only [Bool.and_eq_true] at hc
  obtain ⟨hk, hc⟩ := hc
  obtain ⟨hv, hp⟩ := allow_prec h hk
  unfold precB at hp
  rw [hc] at hp
  simp only [if_true] at hp
  refine sup_back (by omega) (fun u hu hpe => ?_) hp
  unfold prB at hpe
  simp only [Bool.and_eq_true, beq_iff_eq, and_assoc] at hpe
  exact hpe
theorem back3 {m : Int} {v : Vt} {a : List Vt} (h : allowB m v a = true) (hc : ((v.kind == 3) && (decide (1 < v.round))) = true) :
    (size v.support : Int) = quorum (size m) ∧ 0 < size (bkM m v 4 (v.round - 1) a) + size (bkM m v 3 (v.round - 1) a) := by
  simp only [Bool.and_eq_true] at hc
  obtain ⟨hk, hr⟩ := hc
  obtain ⟨hv, hp⟩ := allow_prev h hk
  have hr1 : (v.round == 1) = false := by have : 1 < v.round := by simpa using hr
                                          simp; omega
  unfold prevB at hp
  rw [hr1] at hp
  simp only [Bool.false_eq_true, if_false, Bool.or_eq_true, Bool.and_eq_true] at hp
  rcases hp with ⟨h1, h2⟩ | ⟨h1, h2⟩
  · have h2' : (a.filter (cntB m v)).any (pvB v) = true := by
      rw [List.any_eq_true] at h2 ⊢
      obtain ⟨u, hu, hh⟩ := h2
      rw [Bool.and_eq_true] at hh
      exact ⟨u, hu, hh.2⟩
    have := any_back (k := 4) (r := v.round - 1) (by omega) (fun u _ hpe => by unfold pvB at hpe; simp only [Bool.and_eq_true, beq_iff_eq, and_assoc] at hpe; exact hpe) h2'
    exact ⟨(sup_iff.1 h1).2.1, by omega⟩
  · have := any_back (k := 3) (r := v.round - 1) (by omega) (fun u _ hpe => by unfold pbB at hpe; simp only [Bool.and_eq_true, beq_iff_eq, and_assoc] at hpe; exact hpe) h2
    exact ⟨(sup_iff.1 h1).2.1, by omega⟩
set_option maxRecDepth 100000 in
set_option maxHeartbeats 2000000 in
theorem JustifyBackers_c (m : Int) (v : Vt) (a : List Vt) (A : Option Addr) (c : Nat) (w : World) (hm : W64 m) (hok : v.Ok) (h1 : a.length ≤ c) (h2 : c ≤ maxLen) (hr : Rd w A a) : Calls Try.prog 14 #[.int .i64 (m), .agg (v).cs, .slice A (a.length) c] w (fun rr w' => rr = .returned (.bool (true)) ∧ Below w.heap.size w w') := by
  have hz := size_le m
  have hrd := hok.round
  unfold W64 at hrd
  refine calls_W (n := 112) Try.func14 rfl [(0, .int .i64 (m)), (1, .agg (v).cs), (2, .slice A (a.length) c)] rfl ⟨by kernel_rfl, by kernel_rfl⟩ ?_
  refine W.weak (Ψ := St w []) (fun w' h => by rw [h]; exact St.start w) ?_
  refine W.seq ?_
  refine W.region [(0, false), (1, false)] (by kernel_rfl) ?_
  refine T.box 4 42 (.agg (v).cs) ((v).cs) (by kernel_rfl) (by kernel_rfl) (by kernel_rfl) (fun _ _ _ => trivial) (fun b1 => ?_)
  refine T.pure 6 (.bool (false)) (by kernel_rfl) (fun w => by kernel_rfl) ?_
  refine T.nil ?_
  refine QN.seq ?_
  refine W.seq ?_
  refine W.region [(0, false), (1, false), (2, false)] (by kernel_rfl) ?_
  refine T.pure 8 (.slice A (a.length) c) (by kernel_rfl) (fun w => by kernel_rfl) ?_
  refine T.callP 9 31 #[.slice A (a.length) c] (.slice A ((a.take 300).length) c) (by kernel_rfl) (by kernel_rfl) ent31 (fun w hw => Ret.same' (cut11_c _ _ _ h1 h2 w)) (fun _ _ => trivial) ?_
  refine T.pure 2 (.slice A ((a.take 300).length) c) (by kernel_rfl) (fun w => by kernel_rfl) ?_
  refine T.nil ?_
  refine QN.seq ?_
  refine W.seq ?_
  refine W.seq ?_
  refine W.region [(0, false), (1, false), (2, false), (3, false), (4, false)] (by kernel_rfl) ?_
  refine T.pure 10 (.int .i64 (m)) (by kernel_rfl) (fun w => by kernel_rfl) ?_
  refine T.loadR false 11 (v).cs 42 b1 0 (by kernel_rfl) (by kernel_rfl) (by kernel_rfl) (by kernel_rfl) (fun w h => St.rangeM h (v).cs (.head _) (by kernel_rfl)) ?_
  refine T.pure 12 (.slice A ((a.take 300).length) c) (by kernel_rfl) (fun w => by kernel_rfl) ?_
  refine T.callP 13 32 #[.int .i64 (m), .agg (v).cs, .slice A ((a.take 300).length) c] (.bool (allowB m v (a.take 300))) (by kernel_rfl) (by kernel_rfl) ent32 (fun w hw => allowed_c _ (by first | assumption | exact w64_and _ _ | exact w64_or _ _ | exact w64_andNot _ _ | (unfold W64; omega)) _ hok.support _ _ _ (by first | omega | (simp; omega)) w (Arr.rd ((Rd.arr hr _).take _) hw).v) (fun _ _ => trivial) ?_
  refine T.pure 14 (.bool (!(allowB m v (a.take 300)))) (by kernel_rfl) (fun w => by kernel_rfl) ?_
  refine T.nil ?_
  refine QN.seq ?_
  refine W.cond (!(allowB m v (a.take 300))) (by kernel_rfl) (fun h2 => ?_) (fun h2 => ?_)
  · skip
    have h2n := not_eq_true h2
    refine W.seq ?_
    refine W.region [(0, false), (1, false)] (by kernel_rfl) ?_
    refine T.callP 15 34 #[] (.bool (true)) (by kernel_rfl) (by kernel_rfl) ent34 (fun w hw => awake11_c w) (fun _ _ => trivial) ?_
    refine T.pure 6 (.bool (true)) (by kernel_rfl) (fun w => by kernel_rfl) ?_
    refine T.nil ?_
    refine QN.seq ?_
    refine W.ret ?_
    refine QN.thenRet ?_
    refine QN.done (.inl rfl) 6 (.bool (true)) rfl (by kernel_rfl) (fun w hw => ⟨?_, hw.below⟩)
    exact rfl
  · skip
    have h2n := not_eq_false h2
    refine W.skip ?_
    refine QN.seq ?_
    refine W.seq ?_
    refine W.region [(0, false), (1, false), (2, false), (3, false)] (by kernel_rfl) ?_
    refine T.pure 16 (.int .i64 (m)) (by kernel_rfl) (fun w => by kernel_rfl) ?_
    refine T.callP 17 22 #[.int .i64 (m)] (.int .i64 ((size m : Int))) (by kernel_rfl) (by kernel_rfl) ent22 (fun w hw => Ret.same (size_c _ w)) (fun _ _ => trivial) ?_
    refine T.callP 18 15 #[.int .i64 ((size m : Int))] (.int .i64 (quorum (size m : Int))) (by kernel_rfl) (by kernel_rfl) ent15 (fun w hw => Ret.same (quorum_c _ w (by unfold W64; omega))) (fun _ _ => trivial) ?_
    refine T.pure 7 (.int .i64 (quorum (size m : Int))) (by kernel_rfl) (fun w => by kernel_rfl) ?_
    refine T.nil ?_
    refine QN.seq ?_
    refine W.seq ?_
    refine W.block ?_
    refine W.seq ?_
    refine W.region [(0, false), (1, false), (2, false), (3, false), (4, false), (5, false), (6, false), (7, false), (8, false), (9, false), (10, false), (11, false), (12, false), (13, false)] (by kernel_rfl) ?_
    refine T.pure 20 (.pointer (some ⟨b1, 0, none⟩)) (by kernel_rfl) (fun w => by kernel_rfl) ?_
    refine T.load false 21 (.int .i64 (v.kind)) 3 b1 0 (by kernel_rfl) (by kernel_rfl) (by kernel_rfl) (fun w h => St.cellM h (.head _) (by kernel_rfl)) ?_
    refine T.pure 22 (.bool (v.kind == 3)) (by kernel_rfl) (fun w => by kernel_rfl) ?_
    refine T.pure 23 (.bool (v.kind == 3)) (by kernel_rfl) (fun w => by kernel_rfl) ?_
    refine T.blk [(4, false), (5, false), (6, false)] [(7, false), (8, false), (9, false), (10, false), (11, false), (12, false), (13, false)] 3 true (v.kind == 3) 23 26 (.bool (v.round == 1)) (by kernel_rfl) (by kernel_rfl) (by kernel_rfl) (fun hg3 => ?_) ?_
    · have hg3_ := hg3
      refine T.pure 24 (.pointer (some ⟨b1, 2, none⟩)) (by kernel_rfl) (fun w => by kernel_rfl) ?_
      refine T.load false 25 (.int .i64 (v.round)) 3 b1 2 (by kernel_rfl) (by kernel_rfl) (by kernel_rfl) (fun w h => St.cellM h (.head _) (by kernel_rfl)) ?_
      refine T.pure 26 (.bool (v.round == 1)) (by kernel_rfl) (fun w => by kernel_rfl) ?_
      exact T.blkEnd (by kernel_rfl) (fun w h => h)
    refine T.and 27 (v.kind == 3) (v.round == 1) (by kernel_rfl) (by kernel_rfl) ?_
    refine T.pure 28 (.bool ((v.kind == 3) && (v.round == 1))) (by kernel_rfl) (fun w => by kernel_rfl) ?_
    refine T.blk [(9, false), (10, false), (11, false)] [(12, false), (13, false)] 8 true ((v.kind == 3) && (v.round == 1)) 28 31 (.bool (v.choice == 1)) (by kernel_rfl) (by kernel_rfl) (by kernel_rfl) (fun hg4 => ?_) ?_
    · have hg4_ := hg4
      have hg4l := (Bool.and_eq_true_iff.1 hg4).1
      have hg4r := (Bool.and_eq_true_iff.1 hg4).2
      refine T.pure 29 (.pointer (some ⟨b1, 3, none⟩)) (by kernel_rfl) (fun w => by kernel_rfl) ?_
      refine T.load false 30 (.int .i64 (v.choice)) 3 b1 3 (by kernel_rfl) (by kernel_rfl) (by kernel_rfl) (fun w h => St.cellM h (.head _) (by kernel_rfl)) ?_
      refine T.pure 31 (.bool (v.choice == 1)) (by kernel_rfl) (fun w => by kernel_rfl) ?_
      exact T.blkEnd (by kernel_rfl) (fun w h => h)
    refine T.and 32 ((v.kind == 3) && (v.round == 1)) (v.choice == 1) (by kernel_rfl) (by kernel_rfl) ?_
    refine T.pure 19 (.bool (((v.kind == 3) && (v.round == 1)) && (v.choice == 1))) (by kernel_rfl) (fun w => by kernel_rfl) ?_
    refine T.nil ?_
    refine QN.seq ?_
    refine W.cond (((v.kind == 3) && (v.round == 1)) && (v.choice == 1)) (by kernel_rfl) (fun h5 => ?_) (fun h5 => ?_)
    · skip
      have h5l := (Bool.and_eq_true_iff.1 h5).1
      have h5r := (Bool.and_eq_true_iff.1 h5).2
      have h5ll := (Bool.and_eq_true_iff.1 h5l).1
      have h5lr := (Bool.and_eq_true_iff.1 h5l).2
      refine W.seq ?_
      refine W.region [(0, false), (1, false), (2, false), (3, false), (4, false), (5, false), (6, false), (7, false), (8, false), (9, false), (10, false), (11, false), (12, false), (13, false), (14, false), (15, false), (16, false)] (by kernel_rfl) ?_
      refine T.pure 33 (.int .i64 (m)) (by kernel_rfl) (fun w => by kernel_rfl) ?_
      refine T.loadR false 34 (v).cs 42 b1 0 (by kernel_rfl) (by kernel_rfl) (by kernel_rfl) (by kernel_rfl) (fun w h => St.rangeM h (v).cs (.head _) (by kernel_rfl)) ?_
      refine T.pure 35 (.slice A ((a.take 300).length) c) (by kernel_rfl) (fun w => by kernel_rfl) ?_
      have hz1 := size_le (bkM m v 4 (v.round - 1) (a.take 300))
      have hz2 := size_le (bkM m v 3 (v.round - 1) (a.take 300))
      refine T.callP 36 36 #[.int .i64 (m), .agg (v).cs, .slice A ((a.take 300).length) c, .int .i64 (2), .int .i64 (0)] (.int .i64 ((size (bkM m v 2 0 (a.take 300)) : Int))) (by kernel_rfl) (by kernel_rfl) ent36 (fun w hw => backers_c _ _ _ _ _ _ _ (by first | assumption | exact w64_and _ _ | exact w64_or _ _ | exact w64_andNot _ _ | (unfold W64; omega)) (by first | omega | (simp; omega)) w (Arr.rd ((Rd.arr hr _).take _) hw)) (fun _ _ => trivial) ?_
      refine T.pure 37 (.int .i64 (quorum (size m : Int))) (by kernel_rfl) (fun w => by kernel_rfl) ?_
      refine T.pure 38 (.bool (decide ((quorum (size m : Int)) ≤ (size (bkM m v 2 0 (a.take 300)) : Int)))) (by kernel_rfl) (fun w => by kernel_rfl) ?_
      refine T.pure 39 (.bool (decide ((quorum (size m : Int)) ≤ (size (bkM m v 2 0 (a.take 300)) : Int)))) (by kernel_rfl) (fun w => by kernel_rfl) ?_
      refine T.blk [(7, false), (8, false), (9, false), (10, false), (11, false)] [(12, false), (13, false), (14, false), (15, false), (16, false)] 6 true (decide ((quorum (size m : Int)) ≤ (size (bkM m v 2 0 (a.take 300)) : Int))) 39 44 (.bool ((size v.support : Int) == (quorum (size m : Int)))) (by kernel_rfl) (by kernel_rfl) (by kernel_rfl) (fun hg6 => ?_) ?_
      · have hg6_ := hg6
        have hg6' := of_decide_eq_true hg6
        refine T.pure 40 (.pointer (some ⟨b1, 5, none⟩)) (by kernel_rfl) (fun w => by kernel_rfl) ?_
        refine T.load false 41 (.int .i64 (v.support)) 25 b1 5 (by kernel_rfl) (by kernel_rfl) (by kernel_rfl) (fun w h => St.cellM h (.head _) (by kernel_rfl)) ?_
        refine T.callP 42 22 #[.int .i64 (v.support)] (.int .i64 ((size v.support : Int))) (by kernel_rfl) (by kernel_rfl) ent22 (fun w hw => Ret.same (size_c _ w)) (fun _ _ => trivial) ?_
        refine T.pure 43 (.int .i64 (quorum (size m : Int))) (by kernel_rfl) (fun w => by kernel_rfl) ?_
        refine T.pure 44 (.bool ((size v.support : Int) == (quorum (size m : Int)))) (by kernel_rfl) (fun w => by kernel_rfl) ?_
        exact T.blkEnd (by kernel_rfl) (fun w h => h)
      refine T.and 45 (decide ((quorum (size m : Int)) ≤ (size (bkM m v 2 0 (a.take 300)) : Int))) ((size v.support : Int) == (quorum (size m : Int))) (by kernel_rfl) (by kernel_rfl) ?_
      refine T.pure 46 (.bool ((decide ((quorum (size m : Int)) ≤ (size (bkM m v 2 0 (a.take 300)) : Int))) && ((size v.support : Int) == (quorum (size m : Int))))) (by kernel_rfl) (fun w => by kernel_rfl) ?_
      refine T.blk [(14, false)] [(15, false), (16, false)] 13 true ((decide ((quorum (size m : Int)) ≤ (size (bkM m v 2 0 (a.take 300)) : Int))) && ((size v.support : Int) == (quorum (size m : Int)))) 46 47 (.bool (true)) (by kernel_rfl) (by kernel_rfl) (by kernel_rfl) (fun hg7 => ?_) ?_
      · have hg7_ := hg7
        have hg7l := (Bool.and_eq_true_iff.1 hg7).1
        have hg7r := (Bool.and_eq_true_iff.1 hg7).2
        have hg7l' := of_decide_eq_true hg7l
        refine T.callP 47 34 #[] (.bool (true)) (by kernel_rfl) (by kernel_rfl) ent34 (fun w hw => awake11_c w) (fun _ _ => trivial) ?_
        exact T.blkEnd (by kernel_rfl) (fun w h => h)
      refine T.and 48 ((decide ((quorum (size m : Int)) ≤ (size (bkM m v 2 0 (a.take 300)) : Int))) && ((size v.support : Int) == (quorum (size m : Int)))) (true) (by kernel_rfl) (by kernel_rfl) ?_
      refine T.pure 6 (.bool (((decide ((quorum (size m : Int)) ≤ (size (bkM m v 2 0 (a.take 300)) : Int))) && ((size v.support : Int) == (quorum (size m : Int)))) && true)) (by kernel_rfl) (fun w => by kernel_rfl) ?_
      refine T.nil ?_
      refine QN.seq ?_
      refine W.ret ?_
      refine QN.blkRet ?_
      refine QN.thenRet ?_
      refine QN.done (.inl rfl) 6 (.bool (((decide ((quorum (size m : Int)) ≤ (size (bkM m v 2 0 (a.take 300)) : Int))) && ((size v.support : Int) == (quorum (size m : Int)))) && true)) rfl (by kernel_rfl) (fun w hw => ⟨?_, hw.below⟩)
      exact ret_bool (by obtain ⟨g1, g2⟩ := back1 (not_eq_false h2) h5; simp only [Bool.and_eq_true, decide_eq_true_eq, beq_iff_eq, and_true]; omega)
    · skip
      refine W.seq ?_
      refine W.region [(0, false), (1, false), (2, false), (3, false), (4, false), (5, false), (6, false), (7, false), (8, false)] (by kernel_rfl) ?_
      refine T.pure 50 (.pointer (some ⟨b1, 0, none⟩)) (by kernel_rfl) (fun w => by kernel_rfl) ?_
      refine T.load false 51 (.int .i64 (v.kind)) 3 b1 0 (by kernel_rfl) (by kernel_rfl) (by kernel_rfl) (fun w h => St.cellM h (.head _) (by kernel_rfl)) ?_
      refine T.pure 52 (.bool (v.kind == 4)) (by kernel_rfl) (fun w => by kernel_rfl) ?_
      refine T.pure 53 (.bool (v.kind == 4)) (by kernel_rfl) (fun w => by kernel_rfl) ?_
      refine T.blk [(4, false), (5, false), (6, false)] [(7, false), (8, false)] 3 true (v.kind == 4) 53 56 (.bool (v.choice != 2)) (by kernel_rfl) (by kernel_rfl) (by kernel_rfl) (fun hg8 => ?_) ?_
      · have hg8_ := hg8
        refine T.pure 54 (.pointer (some ⟨b1, 3, none⟩)) (by kernel_rfl) (fun w => by kernel_rfl) ?_
        refine T.load false 55 (.int .i64 (v.choice)) 3 b1 3 (by kernel_rfl) (by kernel_rfl) (by kernel_rfl) (fun w h => St.cellM h (.head _) (by kernel_rfl)) ?_
        refine T.pure 56 (.bool (v.choice != 2)) (by kernel_rfl) (fun w => by kernel_rfl) ?_
        exact T.blkEnd (by kernel_rfl) (fun w h => h)
      refine T.and 57 (v.kind == 4) (v.choice != 2) (by kernel_rfl) (by kernel_rfl) ?_
      refine T.pure 49 (.bool ((v.kind == 4) && (v.choice != 2))) (by kernel_rfl) (fun w => by kernel_rfl) ?_
      refine T.nil ?_
      refine QN.seq ?_
      refine W.cond ((v.kind == 4) && (v.choice != 2)) (by kernel_rfl) (fun h9 => ?_) (fun h9 => ?_)
      · skip
        have h9l := (Bool.and_eq_true_iff.1 h9).1
        have h9r := (Bool.and_eq_true_iff.1 h9).2
        refine W.seq ?_
        refine W.region [(0, false), (1, false), (2, false), (3, false), (4, false), (5, false), (6, false), (7, false), (8, false), (9, false), (10, false), (11, false), (12, false), (13, false), (14, false), (15, false), (16, false), (17, false), (18, false)] (by kernel_rfl) ?_
        refine T.pure 58 (.int .i64 (m)) (by kernel_rfl) (fun w => by kernel_rfl) ?_
        refine T.loadR false 59 (v).cs 42 b1 0 (by kernel_rfl) (by kernel_rfl) (by kernel_rfl) (by kernel_rfl) (fun w h => St.rangeM h (v).cs (.head _) (by kernel_rfl)) ?_
        refine T.pure 60 (.slice A ((a.take 300).length) c) (by kernel_rfl) (fun w => by kernel_rfl) ?_
        refine T.pure 61 (.pointer (some ⟨b1, 2, none⟩)) (by kernel_rfl) (fun w => by kernel_rfl) ?_
        refine T.load false 62 (.int .i64 (v.round)) 3 b1 2 (by kernel_rfl) (by kernel_rfl) (by kernel_rfl) (fun w h => St.cellM h (.head _) (by kernel_rfl)) ?_
        have hz1 := size_le (bkM m v 4 (v.round - 1) (a.take 300))
        have hz2 := size_le (bkM m v 3 (v.round - 1) (a.take 300))
        refine T.callP 63 36 #[.int .i64 (m), .agg (v).cs, .slice A ((a.take 300).length) c, .int .i64 (3), .int .i64 (v.round)] (.int .i64 ((size (bkM m v 3 v.round (a.take 300)) : Int))) (by kernel_rfl) (by kernel_rfl) ent36 (fun w hw => backers_c _ _ _ _ _ _ _ (by first | assumption | exact w64_and _ _ | exact w64_or _ _ | exact w64_andNot _ _ | (unfold W64; omega)) (by first | omega | (simp; omega)) w (Arr.rd ((Rd.arr hr _).take _) hw)) (fun _ _ => trivial) ?_
        refine T.pure 64 (.int .i64 (quorum (size m : Int))) (by kernel_rfl) (fun w => by kernel_rfl) ?_
        refine T.pure 65 (.bool (decide ((quorum (size m : Int)) ≤ (size (bkM m v 3 v.round (a.take 300)) : Int)))) (by kernel_rfl) (fun w => by kernel_rfl) ?_
        refine T.pure 66 (.bool (decide ((quorum (size m : Int)) ≤ (size (bkM m v 3 v.round (a.take 300)) : Int)))) (by kernel_rfl) (fun w => by kernel_rfl) ?_
        refine T.blk [(9, false), (10, false), (11, false), (12, false), (13, false)] [(14, false), (15, false), (16, false), (17, false), (18, false)] 8 true (decide ((quorum (size m : Int)) ≤ (size (bkM m v 3 v.round (a.take 300)) : Int))) 66 71 (.bool ((size v.support : Int) == (quorum (size m : Int)))) (by kernel_rfl) (by kernel_rfl) (by kernel_rfl) (fun hg10 => ?_) ?_
        · have hg10_ := hg10
          have hg10' := of_decide_eq_true hg10
          refine T.pure 67 (.pointer (some ⟨b1, 5, none⟩)) (by kernel_rfl) (fun w => by kernel_rfl) ?_
          refine T.load false 68 (.int .i64 (v.support)) 25 b1 5 (by kernel_rfl) (by kernel_rfl) (by kernel_rfl) (fun w h => St.cellM h (.head _) (by kernel_rfl)) ?_
          refine T.callP 69 22 #[.int .i64 (v.support)] (.int .i64 ((size v.support : Int))) (by kernel_rfl) (by kernel_rfl) ent22 (fun w hw => Ret.same (size_c _ w)) (fun _ _ => trivial) ?_
          refine T.pure 70 (.int .i64 (quorum (size m : Int))) (by kernel_rfl) (fun w => by kernel_rfl) ?_
          refine T.pure 71 (.bool ((size v.support : Int) == (quorum (size m : Int)))) (by kernel_rfl) (fun w => by kernel_rfl) ?_
          exact T.blkEnd (by kernel_rfl) (fun w h => h)
        refine T.and 72 (decide ((quorum (size m : Int)) ≤ (size (bkM m v 3 v.round (a.take 300)) : Int))) ((size v.support : Int) == (quorum (size m : Int))) (by kernel_rfl) (by kernel_rfl) ?_
        refine T.pure 73 (.bool ((decide ((quorum (size m : Int)) ≤ (size (bkM m v 3 v.round (a.take 300)) : Int))) && ((size v.support : Int) == (quorum (size m : Int))))) (by kernel_rfl) (fun w => by kernel_rfl) ?_
        refine T.blk [(16, false)] [(17, false), (18, false)] 15 true ((decide ((quorum (size m : Int)) ≤ (size (bkM m v 3 v.round (a.take 300)) : Int))) && ((size v.support : Int) == (quorum (size m : Int)))) 73 74 (.bool (true)) (by kernel_rfl) (by kernel_rfl) (by kernel_rfl) (fun hg11 => ?_) ?_
        · have hg11_ := hg11
          have hg11l := (Bool.and_eq_true_iff.1 hg11).1
          have hg11r := (Bool.and_eq_true_iff.1 hg11).2
          have hg11l' := of_decide_eq_true hg11l
          refine T.callP 74 34 #[] (.bool (true)) (by kernel_rfl) (by kernel_rfl) ent34 (fun w hw => awake11_c w) (fun _ _ => trivial) ?_
          exact T.blkEnd (by kernel_rfl) (fun w h => h)
        refine T.and 75 ((decide ((quorum (size m : Int)) ≤ (size (bkM m v 3 v.round (a.take 300)) : Int))) && ((size v.support : Int) == (quorum (size m : Int)))) (true) (by kernel_rfl) (by kernel_rfl) ?_
        refine T.pure 6 (.bool (((decide ((quorum (size m : Int)) ≤ (size (bkM m v 3 v.round (a.take 300)) : Int))) && ((size v.support : Int) == (quorum (size m : Int)))) && true)) (by kernel_rfl) (fun w => by kernel_rfl) ?_
        refine T.nil ?_
        refine QN.seq ?_
        refine W.ret ?_
        refine QN.blkRet ?_
        refine QN.thenRet ?_
        refine QN.done (.inl rfl) 6 (.bool (((decide ((quorum (size m : Int)) ≤ (size (bkM m v 3 v.round (a.take 300)) : Int))) && ((size v.support : Int) == (quorum (size m : Int)))) && true)) rfl (by kernel_rfl) (fun w hw => ⟨?_, hw.below⟩)
        exact ret_bool (by obtain ⟨g1, g2⟩ := back2 (not_eq_false h2) h9; simp only [Bool.and_eq_true, decide_eq_true_eq, beq_iff_eq, and_true]; omega)
      · skip
        refine W.seq ?_
        refine W.region [(0, false), (1, false), (2, false), (3, false), (4, false), (5, false), (6, false), (7, false), (8, false)] (by kernel_rfl) ?_
        refine T.pure 77 (.pointer (some ⟨b1, 0, none⟩)) (by kernel_rfl) (fun w => by kernel_rfl) ?_
        refine T.load false 78 (.int .i64 (v.kind)) 3 b1 0 (by kernel_rfl) (by kernel_rfl) (by kernel_rfl) (fun w h => St.cellM h (.head _) (by kernel_rfl)) ?_
        refine T.pure 79 (.bool (v.kind == 3)) (by kernel_rfl) (fun w => by kernel_rfl) ?_
        refine T.pure 80 (.bool (v.kind == 3)) (by kernel_rfl) (fun w => by kernel_rfl) ?_
        refine T.blk [(4, false), (5, false), (6, false)] [(7, false), (8, false)] 3 true (v.kind == 3) 80 83 (.bool (decide (1 < v.round))) (by kernel_rfl) (by kernel_rfl) (by kernel_rfl) (fun hg12 => ?_) ?_
        · have hg12_ := hg12
          refine T.pure 81 (.pointer (some ⟨b1, 2, none⟩)) (by kernel_rfl) (fun w => by kernel_rfl) ?_
          refine T.load false 82 (.int .i64 (v.round)) 3 b1 2 (by kernel_rfl) (by kernel_rfl) (by kernel_rfl) (fun w h => St.cellM h (.head _) (by kernel_rfl)) ?_
          refine T.pure 83 (.bool (decide (1 < v.round))) (by kernel_rfl) (fun w => by kernel_rfl) ?_
          exact T.blkEnd (by kernel_rfl) (fun w h => h)
        refine T.and 84 (v.kind == 3) (decide (1 < v.round)) (by kernel_rfl) (by kernel_rfl) ?_
        refine T.pure 76 (.bool ((v.kind == 3) && (decide (1 < v.round)))) (by kernel_rfl) (fun w => by kernel_rfl) ?_
        refine T.nil ?_
        refine QN.seq ?_
        refine W.cond ((v.kind == 3) && (decide (1 < v.round))) (by kernel_rfl) (fun h13 => ?_) (fun h13 => ?_)
        · skip
          have h13l := (Bool.and_eq_true_iff.1 h13).1
          have h13r := (Bool.and_eq_true_iff.1 h13).2
          have h13r' := of_decide_eq_true h13r
          refine W.seq ?_
          refine W.drawn (Ψ := St w [(b1, .cells (v).cs 42 (0, 0))]) (St w [(b1, .cells (v).cs 42 (0, 0))]) [(0, true), (1, true), (2, true), (3, true), (4, true), (5, true), (7, true), (8, true), (9, true), (10, true), (11, true), (12, true), (6, false), (13, false), (14, true), (15, true), (16, true), (17, true), (18, true), (20, true), (19, false), (21, true), (22, true), (23, true), (24, false), (25, true), (26, false)] hmx (by kernel_rfl) (NoPanic.then (NoPanic.inBlock (NoPanic.then (NoPanic.body)))) (fun w h => h.drew) (fun w h => h) ?_
          refine T.pure 85 (.int .i64 (m)) (by kernel_rfl) (fun w => by kernel_rfl) ?_
          refine T.loadR true 86 (v).cs 42 b1 0 (by kernel_rfl) (by kernel_rfl) (by kernel_rfl) (by kernel_rfl) (fun w h => St.rangeM h (v).cs (.head _) (by kernel_rfl)) ?_
          refine T.pure 87 (.slice A ((a.take 300).length) c) (by kernel_rfl) (fun w => by kernel_rfl) ?_
          refine T.pure 88 (.pointer (some ⟨b1, 2, none⟩)) (by kernel_rfl) (fun w => by kernel_rfl) ?_
          refine T.load true 89 (.int .i64 (v.round)) 3 b1 2 (by kernel_rfl) (by kernel_rfl) (by kernel_rfl) (fun w h => St.cellM h (.head _) (by kernel_rfl)) ?_
          refine T.pureE 90 (.int .i64 (IntKind.i64.wrap (v.round - 1))) (.int .i64 (v.round - 1)) (by kernel_rfl) (fun w => by kernel_rfl) (wrap_int (by omega) (by omega)) ?_
          refine T.pure 92 (.int .i64 (m)) (by kernel_rfl) (fun w => by kernel_rfl) ?_
          refine T.loadR true 93 (v).cs 42 b1 0 (by kernel_rfl) (by kernel_rfl) (by kernel_rfl) (by kernel_rfl) (fun w h => St.rangeM h (v).cs (.head _) (by kernel_rfl)) ?_
          refine T.pure 94 (.slice A ((a.take 300).length) c) (by kernel_rfl) (fun w => by kernel_rfl) ?_
          refine T.pure 95 (.pointer (some ⟨b1, 2, none⟩)) (by kernel_rfl) (fun w => by kernel_rfl) ?_
          refine T.load true 96 (.int .i64 (v.round)) 3 b1 2 (by kernel_rfl) (by kernel_rfl) (by kernel_rfl) (fun w h => St.cellM h (.head _) (by kernel_rfl)) ?_
          refine T.pureE 97 (.int .i64 (IntKind.i64.wrap (v.round - 1))) (.int .i64 (v.round - 1)) (by kernel_rfl) (fun w => by kernel_rfl) (wrap_int (by omega) (by omega)) ?_
          have hz1 := size_le (bkM m v 4 (v.round - 1) (a.take 300))
          have hz2 := size_le (bkM m v 3 (v.round - 1) (a.take 300))
          refine T.callP 91 36 #[.int .i64 (m), .agg (v).cs, .slice A ((a.take 300).length) c, .int .i64 (4), .int .i64 (v.round - 1)] (.int .i64 ((size (bkM m v 4 (v.round - 1) (a.take 300)) : Int))) (by kernel_rfl) (by kernel_rfl) ent36 (fun w hw => backers_c _ _ _ _ _ _ _ (by first | assumption | exact w64_and _ _ | exact w64_or _ _ | exact w64_andNot _ _ | (unfold W64; omega)) (by first | omega | (simp; omega)) w (Arr.rd ((Rd.arr hr _).take _) hw)) (fun w h => h) ?_
          have hz1 := size_le (bkM m v 4 (v.round - 1) (a.take 300))
          have hz2 := size_le (bkM m v 3 (v.round - 1) (a.take 300))
          refine T.callP 98 36 #[.int .i64 (m), .agg (v).cs, .slice A ((a.take 300).length) c, .int .i64 (3), .int .i64 (v.round - 1)] (.int .i64 ((size (bkM m v 3 (v.round - 1) (a.take 300)) : Int))) (by kernel_rfl) (by kernel_rfl) ent36 (fun w hw => backers_c _ _ _ _ _ _ _ (by first | assumption | exact w64_and _ _ | exact w64_or _ _ | exact w64_andNot _ _ | (unfold W64; omega)) (by first | omega | (simp; omega)) w (Arr.rd ((Rd.arr hr _).take _) hw)) (fun w h => h) ?_
          refine T.pureE 99 (.int .i64 (IntKind.i64.wrap ((size (bkM m v 4 (v.round - 1) (a.take 300)) : Int) + (size (bkM m v 3 (v.round - 1) (a.take 300)) : Int)))) (.int .i64 ((size (bkM m v 4 (v.round - 1) (a.take 300)) : Int) + (size (bkM m v 3 (v.round - 1) (a.take 300)) : Int))) (by kernel_rfl) (fun w => by kernel_rfl) (wrap_int (by omega) (by omega)) ?_
          refine T.pure 100 (.bool (decide (0 < ((size (bkM m v 4 (v.round - 1) (a.take 300)) : Int) + (size (bkM m v 3 (v.round - 1) (a.take 300)) : Int))))) (by kernel_rfl) (fun w => by kernel_rfl) ?_
          refine T.pure 101 (.bool (decide (0 < ((size (bkM m v 4 (v.round - 1) (a.take 300)) : Int) + (size (bkM m v 3 (v.round - 1) (a.take 300)) : Int))))) (by kernel_rfl) (fun w => by kernel_rfl) ?_
          refine T.blk [(17, true), (18, true), (20, true), (19, false), (21, true)] [(22, true), (23, true), (24, false), (25, true), (26, false)] 16 true (decide (0 < ((size (bkM m v 4 (v.round - 1) (a.take 300)) : Int) + (size (bkM m v 3 (v.round - 1) (a.take 300)) : Int)))) 101 106 (.bool ((size v.support : Int) == (quorum (size m : Int)))) (by kernel_rfl) (by kernel_rfl) (by kernel_rfl) (fun hg14 => ?_) ?_
          · have hg14_ := hg14
            have hg14' := of_decide_eq_true hg14
            refine T.pure 102 (.pointer (some ⟨b1, 5, none⟩)) (by kernel_rfl) (fun w => by kernel_rfl) ?_
            refine T.load true 103 (.int .i64 (v.support)) 25 b1 5 (by kernel_rfl) (by kernel_rfl) (by kernel_rfl) (fun w h => St.cellM h (.head _) (by kernel_rfl)) ?_
            refine T.pure 105 (.int .i64 (quorum (size m : Int))) (by kernel_rfl) (fun w => by kernel_rfl) ?_
            refine T.callP 104 22 #[.int .i64 (v.support)] (.int .i64 ((size v.support : Int))) (by kernel_rfl) (by kernel_rfl) ent22 (fun w hw => Ret.same (size_c _ w)) (fun w h => h) ?_
            refine T.pure 106 (.bool ((size v.support : Int) == (quorum (size m : Int)))) (by kernel_rfl) (fun w => by kernel_rfl) ?_
            exact T.blkEnd (by kernel_rfl) (fun w h => h)
          refine T.and 107 (decide (0 < ((size (bkM m v 4 (v.round - 1) (a.take 300)) : Int) + (size (bkM m v 3 (v.round - 1) (a.take 300)) : Int)))) ((size v.support : Int) == (quorum (size m : Int))) (by kernel_rfl) (by kernel_rfl) ?_
          refine T.pure 108 (.bool ((decide (0 < ((size (bkM m v 4 (v.round - 1) (a.take 300)) : Int) + (size (bkM m v 3 (v.round - 1) (a.take 300)) : Int)))) && ((size v.support : Int) == (quorum (size m : Int))))) (by kernel_rfl) (fun w => by kernel_rfl) ?_
          refine T.blk [(24, false)] [(25, true), (26, false)] 23 true ((decide (0 < ((size (bkM m v 4 (v.round - 1) (a.take 300)) : Int) + (size (bkM m v 3 (v.round - 1) (a.take 300)) : Int)))) && ((size v.support : Int) == (quorum (size m : Int)))) 108 109 (.bool (true)) (by kernel_rfl) (by kernel_rfl) (by kernel_rfl) (fun hg15 => ?_) ?_
          · have hg15_ := hg15
            have hg15l := (Bool.and_eq_true_iff.1 hg15).1
            have hg15r := (Bool.and_eq_true_iff.1 hg15).2
            have hg15l' := of_decide_eq_true hg15l
            refine T.callP 109 34 #[] (.bool (true)) (by kernel_rfl) (by kernel_rfl) ent34 (fun w hw => awake11_c w) (fun w h => h) ?_
            exact T.blkEnd (by kernel_rfl) (fun w h => h)
          refine T.and 110 ((decide (0 < ((size (bkM m v 4 (v.round - 1) (a.take 300)) : Int) + (size (bkM m v 3 (v.round - 1) (a.take 300)) : Int)))) && ((size v.support : Int) == (quorum (size m : Int)))) (true) (by kernel_rfl) (by kernel_rfl) ?_
          refine T.pure 6 (.bool (((decide (0 < ((size (bkM m v 4 (v.round - 1) (a.take 300)) : Int) + (size (bkM m v 3 (v.round - 1) (a.take 300)) : Int)))) && ((size v.support : Int) == (quorum (size m : Int)))) && true)) (by kernel_rfl) (fun w => by kernel_rfl) ?_
          refine T.nil ?_
          refine QN.seq ?_
          refine W.ret ?_
          refine QN.blkRet ?_
          refine QN.thenRet ?_
          refine QN.done (.inl rfl) 6 (.bool (((decide (0 < ((size (bkM m v 4 (v.round - 1) (a.take 300)) : Int) + (size (bkM m v 3 (v.round - 1) (a.take 300)) : Int)))) && ((size v.support : Int) == (quorum (size m : Int)))) && true)) rfl (by kernel_rfl) (fun w hw => ⟨?_, hw.below⟩)
          exact ret_bool (by obtain ⟨g1, g2⟩ := back3 (not_eq_false h2) h13; simp only [Bool.and_eq_true, decide_eq_true_eq, beq_iff_eq, and_true]; omega)
        · skip
          refine W.skip ?_
          refine QN.blkNormal ?_
          refine QN.seq ?_
          refine W.seq ?_
          refine W.region [(0, false), (1, false)] (by kernel_rfl) ?_
          refine T.callP 111 34 #[] (.bool (true)) (by kernel_rfl) (by kernel_rfl) ent34 (fun w hw => awake11_c w) (fun _ _ => trivial) ?_
          refine T.pure 6 (.bool (true)) (by kernel_rfl) (fun w => by kernel_rfl) ?_
          refine T.nil ?_
          refine QN.seq ?_
          refine W.ret ?_
          refine QN.done (.inl rfl) 6 (.bool (true)) rfl (by kernel_rfl) (fun w hw => ⟨?_, hw.below⟩)
          exact rfl
theorem JustifyBackers_w (w : World) (a0 : Int) (v1 : Value) (x1 : Vt) (v2 : Value) (x2 : List Vt) (h0 : W64 a0) (h1 : v1 = .agg x1.cs ∧ x1.Ok) (h2 : VS w v2 x2) : Calls Try.prog 14 #[.int .i64 a0, v1, v2] w fun e w' => e = .returned (.bool true) ∧ Below w.heap.size w w' := by
  obtain ⟨rfl, k1⟩ := h1
  obtain ⟨A2, c2, rfl, l2, m2, r2, k2⟩ := h2
  exact JustifyBackers_c _ _ _ _ _ w h0 k1 l2 m2 r2.rd
end Go.Proofs.Yteejjjlheacamaa
