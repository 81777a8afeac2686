/- The walks of JustifyAllows, JustifyEach, JustifyGrows. -/
import Derived.Test.YteejjjlheacamaaLaw11q
import Derived.Test.YteejjjlheacamaaLaw11a
namespace Go.Proofs.Yteejjjlheacamaa
open Go Go.RowKit
set_option linter.unusedVariables false

set_option maxRecDepth 100000 in
set_option maxHeartbeats 2000000 in
theorem JustifyAllows_c (m : Int) (v : Vt) (a : List Vt) (A : Option Addr) (c : Nat) (w : World) (hm : W64 m) (hok : v.Ok) (h1 : a.length ≤ c) (h2 : c ≤ maxLen) (hr : Rd w A a) : Calls Try.prog 10 #[.int .i64 (m), .agg (v).cs, .slice A (a.length) c] w (fun rr w' => rr = .returned (.bool (true)) ∧ Below w.heap.size w w') := by
  refine calls_W (n := 21) Try.func10 rfl [(0, .int .i64 (m)), (1, .agg (v).cs), (2, .slice A (a.length) c)] rfl ⟨by kernel_rfl, by kernel_rfl⟩ ?_
  refine W.weak (Ψ := St w []) (fun w' h => by rw [h]; exact St.start w) ?_
  refine W.seq ?_
  refine W.region [(0, false), (1, false)] (by kernel_rfl) ?_
  refine T.box 4 42 (.agg (v).cs) ((v).cs) (by kernel_rfl) (by kernel_rfl) (by kernel_rfl) (fun _ _ _ => trivial) (fun b1 => ?_)
  refine T.pure 6 (.bool (false)) (by kernel_rfl) (fun w => by kernel_rfl) ?_
  refine T.nil ?_
  refine QN.seq ?_
  refine W.seq ?_
  refine W.region [(0, false), (1, false), (2, false)] (by kernel_rfl) ?_
  refine T.pure 7 (.slice A (a.length) c) (by kernel_rfl) (fun w => by kernel_rfl) ?_
  refine T.callP 8 31 #[.slice A (a.length) c] (.slice A ((a.take 300).length) c) (by kernel_rfl) (by kernel_rfl) ent31 (fun w hw => Ret.same' (cut11_c _ _ _ h1 h2 w)) (fun _ _ => trivial) ?_
  refine T.pure 2 (.slice A ((a.take 300).length) c) (by kernel_rfl) (fun w => by kernel_rfl) ?_
  refine T.nil ?_
  refine QN.seq ?_
  refine W.seq ?_
  refine W.drawn (Ψ := St w [(b1, .cells (v).cs 42 (0, 0))]) (St w [(b1, .cells (v).cs 42 (0, 0))]) [(0, true), (1, true), (2, true), (4, true), (5, true), (6, true), (3, false), (7, false), (8, true), (9, true), (10, false), (11, true), (12, false)] hmx (by kernel_rfl) (NoPanic.then (NoPanic.body)) (fun w h => h.drew) (fun w h => h) ?_
  refine T.pure 9 (.int .i64 (m)) (by kernel_rfl) (fun w => by kernel_rfl) ?_
  refine T.loadR true 10 (v).cs 42 b1 0 (by kernel_rfl) (by kernel_rfl) (by kernel_rfl) (by kernel_rfl) (fun w h => St.rangeM h (v).cs (.head _) (by kernel_rfl)) ?_
  refine T.pure 11 (.slice A ((a.take 300).length) c) (by kernel_rfl) (fun w => by kernel_rfl) ?_
  refine T.pure 13 (.int .i64 (m)) (by kernel_rfl) (fun w => by kernel_rfl) ?_
  refine T.loadR true 14 (v).cs 42 b1 0 (by kernel_rfl) (by kernel_rfl) (by kernel_rfl) (by kernel_rfl) (fun w h => St.rangeM h (v).cs (.head _) (by kernel_rfl)) ?_
  refine T.pure 15 (.slice A ((a.take 300).length) c) (by kernel_rfl) (fun w => by kernel_rfl) ?_
  refine T.callP 12 32 #[.int .i64 (m), .agg (v).cs, .slice A ((a.take 300).length) c] (.bool (allowB m v (a.take 300))) (by kernel_rfl) (by kernel_rfl) ent32 (fun w hw => allowed_c _ (by first | assumption | exact w64_and _ _ | exact w64_or _ _ | exact w64_andNot _ _ | (unfold W64; omega)) _ hok.support _ _ _ (by first | omega | (simp; omega)) w (Arr.rd ((Rd.arr hr _).take _) hw).v) (fun w h => h) ?_
  refine T.callP 16 33 #[.int .i64 (m), .agg (v).cs, .slice A ((a.take 300).length) c] (.bool (rallowB m v (a.take 300))) (by kernel_rfl) (by kernel_rfl) ent33 (fun w hw => rallowed_c _ _ _ _ _ (by first | assumption | exact w64_and _ _ | exact w64_or _ _ | exact w64_andNot _ _ | (unfold W64; omega)) hok.support (by first | omega | (simp; omega)) w (Arr.rd ((Rd.arr hr _).take _) hw)) (fun w h => h) ?_
  refine T.pure 17 (.bool ((allowB m v (a.take 300)) == (rallowB m v (a.take 300)))) (by kernel_rfl) (fun w => by kernel_rfl) ?_
  refine T.pure 18 (.bool ((allowB m v (a.take 300)) == (rallowB m v (a.take 300)))) (by kernel_rfl) (fun w => by kernel_rfl) ?_
  refine T.blk [(10, false)] [(11, true), (12, false)] 9 true ((allowB m v (a.take 300)) == (rallowB m v (a.take 300))) 18 19 (.bool (true)) (by kernel_rfl) (by kernel_rfl) (by kernel_rfl) (fun hg2 => ?_) ?_
  · have hg2_ := hg2
    refine T.callP 19 34 #[] (.bool (true)) (by kernel_rfl) (by kernel_rfl) ent34 (fun w hw => awake11_c w) (fun w h => h) ?_
    exact T.blkEnd (by kernel_rfl) (fun w h => h)
  refine T.and 20 ((allowB m v (a.take 300)) == (rallowB m v (a.take 300))) (true) (by kernel_rfl) (by kernel_rfl) ?_
  refine T.pure 6 (.bool (((allowB m v (a.take 300)) == (rallowB m v (a.take 300))) && true)) (by kernel_rfl) (fun w => by kernel_rfl) ?_
  refine T.nil ?_
  refine QN.seq ?_
  refine W.ret ?_
  refine QN.done (.inl rfl) 6 (.bool (((allowB m v (a.take 300)) == (rallowB m v (a.take 300))) && true)) rfl (by kernel_rfl) (fun w hw => ⟨?_, hw.below⟩)
  exact ret_bool (by rw [rallow_eq]; simp)
theorem JustifyAllows_w (w : World) (a0 : Int) (v1 : Value) (x1 : Vt) (v2 : Value) (x2 : List Vt) (h0 : W64 a0) (h1 : v1 = .agg x1.cs ∧ x1.Ok) (h2 : VS w v2 x2) : Calls Try.prog 10 #[.int .i64 a0, v1, v2] w fun e w' => e = .returned (.bool true) ∧ Below w.heap.size w w' := by
  obtain ⟨rfl, k1⟩ := h1
  obtain ⟨A2, c2, rfl, l2, m2, r2, k2⟩ := h2
  exact JustifyAllows_c _ _ _ _ _ w h0 k1 l2 m2 r2.rd
set_option maxRecDepth 100000 in
set_option maxHeartbeats 2000000 in
theorem JustifyEach_c (m : Int) (a : List Vt) (A : Option Addr) (c : Nat) (w : World) (hm : W64 m) (h1 : a.length ≤ c) (h2 : c ≤ maxLen) (hr : Rd w A a) (hall : ∀ u ∈ a, u.Ok) : Calls Try.prog 11 #[.int .i64 (m), .slice A (a.length) c] w (fun rr w' => rr = .returned (.bool (true)) ∧ Below w.heap.size w w') := by
  unfold maxLen at h2
  have ht : (a.take 60).length ≤ a.length := by simp; omega
  have ht2 : (a.take 60).length ≤ 60 := List.length_take_le _ _
  refine calls_W (n := 54) Try.func11 rfl [(0, .int .i64 (m)), (1, .slice A (a.length) c)] rfl ⟨by kernel_rfl, by kernel_rfl⟩ ?_
  refine W.weak (Ψ := St w []) (fun w' h => by rw [h]; exact St.start w) ?_
  refine W.seq ?_
  refine W.region [(0, false)] (by kernel_rfl) ?_
  refine T.pure 4 (.bool (false)) (by kernel_rfl) (fun w => by kernel_rfl) ?_
  refine T.nil ?_
  refine QN.seq ?_
  refine W.seq ?_
  refine W.seq ?_
  refine W.region [(0, false), (1, false), (2, false)] (by kernel_rfl) ?_
  refine T.pure 6 (.slice A (a.length) c) (by kernel_rfl) (fun w => by kernel_rfl) ?_
  refine T.pure 7 (.int .i64 (((a.length : Nat) : Int))) (by kernel_rfl) (fun w => by kernel_rfl) ?_
  refine T.pure 8 (.bool (decide (60 < ((a.length : Nat) : Int)))) (by kernel_rfl) (fun w => by kernel_rfl) ?_
  refine T.nil ?_
  refine QN.seq ?_
  refine W.cond (decide (60 < ((a.length : Nat) : Int))) (by kernel_rfl) (fun h1 => ?_) (fun h1 => ?_)
  · skip
    have h1' := of_decide_eq_true h1
    refine W.region [(0, false), (1, false), (2, false)] (by kernel_rfl) ?_
    refine T.pure 9 (.slice A (a.length) c) (by kernel_rfl) (fun w => by kernel_rfl) ?_
    have hsl2 : (a.take 60).length = 60 := by simp; omega
    refine T.sliceTo 10 43 42 A (a.length) c (60) ((a.take 60).length) (by kernel_rfl) (by kernel_rfl) (by kernel_rfl) (by kernel_rfl) (by omega) (by omega) ?_
    refine T.pure 1 (.slice A ((a.take 60).length) c) (by kernel_rfl) (fun w => by kernel_rfl) ?_
    refine T.nil ?_
    refine QN.seq ?_
    refine W.seq ?_
    refine W.seq ?_
    refine W.region [(0, false)] (by kernel_rfl) ?_
    refine T.pure 5 (.int .i64 (0)) (by kernel_rfl) (fun w => by kernel_rfl) ?_
    refine T.nil ?_
    refine QN.seq ?_
    refine W.block ?_
    refine W.loop (σ := Nat) (fun gs => gs ≤ (a.take 60).length) (fun gs => [(0, .int .i64 (m)), (1, .slice A ((a.take 60).length) c), (5, .int .i64 ((gs : Int)))]) (fun gs => St w []) (fun gs => (a.take 60).length - gs) (0) ?_ (by kernel_rfl) (fun w h => h) ?_
    · show 0 ≤ (a.take 60).length
      exact Nat.zero_le _
    rintro j hI_
    obtain hj : j ≤ (a.take 60).length := hI_
    show W _ _ [(0, .int .i64 (m)), (1, .slice A ((a.take 60).length) c), (5, .int .i64 ((j : Int)))] (St w []) _ _
    refine W.seq ?_
    refine W.seq ?_
    refine W.region [(0, false), (1, false), (2, false), (3, false)] (by kernel_rfl) ?_
    refine T.pure 11 (.int .i64 ((j : Int))) (by kernel_rfl) (fun w => by kernel_rfl) ?_
    refine T.pure 12 (.slice A ((a.take 60).length) c) (by kernel_rfl) (fun w => by kernel_rfl) ?_
    refine T.pure 13 (.int .i64 ((((a.take 60).length : Nat) : Int))) (by kernel_rfl) (fun w => by kernel_rfl) ?_
    refine T.pure 14 (.bool (decide ((j : Int) < (((a.take 60).length : Nat) : Int)))) (by kernel_rfl) (fun w => by kernel_rfl) ?_
    refine T.nil ?_
    refine QN.seq ?_
    refine W.cond (decide ((j : Int) < (((a.take 60).length : Nat) : Int))) (by kernel_rfl) (fun h3 => ?_) (fun h3 => ?_)
    · skip
      have h3' := of_decide_eq_true h3
      refine W.skip ?_
      refine QN.seq ?_
      refine W.seq ?_
      refine W.block ?_
      refine W.seq ?_
      refine W.drawn (Ψ := St w []) (St w []) [(0, true), (1, true), (2, true), (3, true), (4, true), (5, true), (6, true), (7, true), (9, true), (10, true), (11, true), (12, true), (13, true), (14, true), (15, true), (16, true), (8, false), (17, false), (18, true), (19, true), (20, true), (21, true), (22, true), (23, true), (24, true), (25, true), (27, true), (28, true), (29, true), (30, true), (31, true), (32, true), (26, false), (33, false), (34, true), (35, true)] hmx (by kernel_rfl) (NoPanic.then (NoPanic.inBlock (NoPanic.then (NoPanic.then (NoPanic.inBlock (NoPanic.then (NoPanic.body))))))) (fun w h => h.drew) (fun w h => h) ?_
      refine T.pure 17 (.int .i64 (m)) (by kernel_rfl) (fun w => by kernel_rfl) ?_
      refine T.pure 18 (.slice A ((a.take 60).length) c) (by kernel_rfl) (fun w => by kernel_rfl) ?_
      refine T.pure 19 (.int .i64 ((j : Int))) (by kernel_rfl) (fun w => by kernel_rfl) ?_
      have hl8 : j < (a.take 60).length := by omega
      obtain ⟨b4, o5, hA6, hr7⟩ := ((Rd.arr hr _).take _) j hl8
      refine T.index 20 43 42 22 A ((a.take 60).length) c ((j : Int)) (j) b4 o5 (by kernel_rfl) (by kernel_rfl) (by kernel_rfl) (by kernel_rfl) hA6 (rfl) (by omega) ?_
      refine T.loadR true 21 (((a.take 60)[j]'hl8)).cs 42 b4 (o5 + j * 22) (by kernel_rfl) (by kernel_rfl) (by kernel_rfl) (by kernel_rfl) hr7 ?_
      refine T.pure 22 (.slice A ((a.take 60).length) c) (by kernel_rfl) (fun w => by kernel_rfl) ?_
      refine T.pure 23 (.int .i64 ((j : Int))) (by kernel_rfl) (fun w => by kernel_rfl) ?_
      have hsl9 : ((a.take 60).take j).length = j := by simp; omega
      refine T.sliceTo 24 43 42 A ((a.take 60).length) c ((j : Int)) (((a.take 60).take j).length) (by kernel_rfl) (by kernel_rfl) (by kernel_rfl) (by kernel_rfl) (by omega) (by omega) ?_
      refine T.pure 26 (.int .i64 (m)) (by kernel_rfl) (fun w => by kernel_rfl) ?_
      refine T.pure 27 (.slice A ((a.take 60).length) c) (by kernel_rfl) (fun w => by kernel_rfl) ?_
      refine T.pure 28 (.int .i64 ((j : Int))) (by kernel_rfl) (fun w => by kernel_rfl) ?_
      obtain ⟨b10, o11, hA12, hr13⟩ := ((Rd.arr hr _).take _) j hl8
      refine T.index 29 43 42 22 A ((a.take 60).length) c ((j : Int)) (j) b10 o11 (by kernel_rfl) (by kernel_rfl) (by kernel_rfl) (by kernel_rfl) hA12 (rfl) (by omega) ?_
      refine T.loadR true 30 (((a.take 60)[j]'hl8)).cs 42 b10 (o11 + j * 22) (by kernel_rfl) (by kernel_rfl) (by kernel_rfl) (by kernel_rfl) hr13 ?_
      refine T.pure 31 (.slice A ((a.take 60).length) c) (by kernel_rfl) (fun w => by kernel_rfl) ?_
      refine T.pure 32 (.int .i64 ((j : Int))) (by kernel_rfl) (fun w => by kernel_rfl) ?_
      have hsl14 : ((a.take 60).take j).length = j := by simp; omega
      refine T.sliceTo 33 43 42 A ((a.take 60).length) c ((j : Int)) (((a.take 60).take j).length) (by kernel_rfl) (by kernel_rfl) (by kernel_rfl) (by kernel_rfl) (by omega) (by omega) ?_
      refine T.callP 25 32 #[.int .i64 (m), .agg (((a.take 60)[j]'hl8)).cs, .slice A (((a.take 60).take j).length) c] (.bool (allowB m ((a.take 60)[j]'hl8) ((a.take 60).take j))) (by kernel_rfl) (by kernel_rfl) ent32 (fun w hw => allowed_c _ (by first | assumption | exact w64_and _ _ | exact w64_or _ _ | exact w64_andNot _ _ | (unfold W64; omega)) _ (Vt.Ok.support (hall _ (by first | exact List.getElem_mem _ | exact List.mem_of_mem_take (List.getElem_mem _)))) _ _ _ (by first | omega | (simp; omega)) w (Arr.rd (((Rd.arr hr _).take _).take _) hw).v) (fun w h => h) ?_
      refine T.callP 34 33 #[.int .i64 (m), .agg (((a.take 60)[j]'hl8)).cs, .slice A (((a.take 60).take j).length) c] (.bool (rallowB m ((a.take 60)[j]'hl8) ((a.take 60).take j))) (by kernel_rfl) (by kernel_rfl) ent33 (fun w hw => rallowed_c _ _ _ _ _ (by first | assumption | exact w64_and _ _ | exact w64_or _ _ | exact w64_andNot _ _ | (unfold W64; omega)) (Vt.Ok.support (hall _ (by first | exact List.getElem_mem _ | exact List.mem_of_mem_take (List.getElem_mem _)))) (by first | omega | (simp; omega)) w (Arr.rd (((Rd.arr hr _).take _).take _) hw)) (fun w h => h) ?_
      refine T.pure 35 (.bool ((allowB m ((a.take 60)[j]'hl8) ((a.take 60).take j)) != (rallowB m ((a.take 60)[j]'hl8) ((a.take 60).take j)))) (by kernel_rfl) (fun w => by kernel_rfl) ?_
      refine T.pure 36 (.bool ((allowB m ((a.take 60)[j]'hl8) ((a.take 60).take j)) != (rallowB m ((a.take 60)[j]'hl8) ((a.take 60).take j)))) (by kernel_rfl) (fun w => by kernel_rfl) ?_
      refine T.blk [(20, true), (21, true), (22, true), (23, true), (24, true), (25, true), (27, true), (28, true), (29, true), (30, true), (31, true), (32, true), (26, false), (33, false), (34, true)] [(35, true)] 19 false ((allowB m ((a.take 60)[j]'hl8) ((a.take 60).take j)) != (rallowB m ((a.take 60)[j]'hl8) ((a.take 60).take j))) 36 51 (.bool ((allowB m ((a.take 60)[j]'hl8) (a.take 60)) != (rallowB m ((a.take 60)[j]'hl8) (a.take 60)))) (by kernel_rfl) (by kernel_rfl) (by kernel_rfl) (fun hg15 => ?_) ?_
      · have hg15_ := hg15
        refine T.pure 37 (.int .i64 (m)) (by kernel_rfl) (fun w => by kernel_rfl) ?_
        refine T.pure 38 (.slice A ((a.take 60).length) c) (by kernel_rfl) (fun w => by kernel_rfl) ?_
        refine T.pure 39 (.int .i64 ((j : Int))) (by kernel_rfl) (fun w => by kernel_rfl) ?_
        obtain ⟨b16, o17, hA18, hr19⟩ := ((Rd.arr hr _).take _) j hl8
        refine T.index 40 43 42 22 A ((a.take 60).length) c ((j : Int)) (j) b16 o17 (by kernel_rfl) (by kernel_rfl) (by kernel_rfl) (by kernel_rfl) hA18 (rfl) (by omega) ?_
        refine T.loadR true 41 (((a.take 60)[j]'hl8)).cs 42 b16 (o17 + j * 22) (by kernel_rfl) (by kernel_rfl) (by kernel_rfl) (by kernel_rfl) hr19 ?_
        refine T.pure 42 (.slice A ((a.take 60).length) c) (by kernel_rfl) (fun w => by kernel_rfl) ?_
        refine T.pure 44 (.int .i64 (m)) (by kernel_rfl) (fun w => by kernel_rfl) ?_
        refine T.pure 45 (.slice A ((a.take 60).length) c) (by kernel_rfl) (fun w => by kernel_rfl) ?_
        refine T.pure 46 (.int .i64 ((j : Int))) (by kernel_rfl) (fun w => by kernel_rfl) ?_
        obtain ⟨b20, o21, hA22, hr23⟩ := ((Rd.arr hr _).take _) j hl8
        refine T.index 47 43 42 22 A ((a.take 60).length) c ((j : Int)) (j) b20 o21 (by kernel_rfl) (by kernel_rfl) (by kernel_rfl) (by kernel_rfl) hA22 (rfl) (by omega) ?_
        refine T.loadR true 48 (((a.take 60)[j]'hl8)).cs 42 b20 (o21 + j * 22) (by kernel_rfl) (by kernel_rfl) (by kernel_rfl) (by kernel_rfl) hr23 ?_
        refine T.pure 49 (.slice A ((a.take 60).length) c) (by kernel_rfl) (fun w => by kernel_rfl) ?_
        refine T.callP 43 32 #[.int .i64 (m), .agg (((a.take 60)[j]'hl8)).cs, .slice A ((a.take 60).length) c] (.bool (allowB m ((a.take 60)[j]'hl8) (a.take 60))) (by kernel_rfl) (by kernel_rfl) ent32 (fun w hw => allowed_c _ (by first | assumption | exact w64_and _ _ | exact w64_or _ _ | exact w64_andNot _ _ | (unfold W64; omega)) _ (Vt.Ok.support (hall _ (by first | exact List.getElem_mem _ | exact List.mem_of_mem_take (List.getElem_mem _)))) _ _ _ (by first | omega | (simp; omega)) w (Arr.rd ((Rd.arr hr _).take _) hw).v) (fun w h => h) ?_
        refine T.callP 50 33 #[.int .i64 (m), .agg (((a.take 60)[j]'hl8)).cs, .slice A ((a.take 60).length) c] (.bool (rallowB m ((a.take 60)[j]'hl8) (a.take 60))) (by kernel_rfl) (by kernel_rfl) ent33 (fun w hw => rallowed_c _ _ _ _ _ (by first | assumption | exact w64_and _ _ | exact w64_or _ _ | exact w64_andNot _ _ | (unfold W64; omega)) (Vt.Ok.support (hall _ (by first | exact List.getElem_mem _ | exact List.mem_of_mem_take (List.getElem_mem _)))) (by first | omega | (simp; omega)) w (Arr.rd ((Rd.arr hr _).take _) hw)) (fun w h => h) ?_
        refine T.pure 51 (.bool ((allowB m ((a.take 60)[j]'hl8) (a.take 60)) != (rallowB m ((a.take 60)[j]'hl8) (a.take 60)))) (by kernel_rfl) (fun w => by kernel_rfl) ?_
        exact T.blkEnd (by kernel_rfl) (fun w h => h)
      refine T.or 52 ((allowB m ((a.take 60)[j]'hl8) ((a.take 60).take j)) != (rallowB m ((a.take 60)[j]'hl8) ((a.take 60).take j))) ((allowB m ((a.take 60)[j]'hl8) (a.take 60)) != (rallowB m ((a.take 60)[j]'hl8) (a.take 60))) (by kernel_rfl) (by kernel_rfl) ?_
      refine T.nil ?_
      refine QN.seq ?_
      refine W.cond (((allowB m ((a.take 60)[j]'hl8) ((a.take 60).take j)) != (rallowB m ((a.take 60)[j]'hl8) ((a.take 60).take j))) || ((allowB m ((a.take 60)[j]'hl8) (a.take 60)) != (rallowB m ((a.take 60)[j]'hl8) (a.take 60)))) (by kernel_rfl) (fun h24 => ?_) (fun h24 => ?_)
      · skip
        refine W.seq ?_
        refine W.region [(0, false)] (by kernel_rfl) ?_
        refine T.pure 4 (.bool (false)) (by kernel_rfl) (fun w => by kernel_rfl) ?_
        refine T.nil ?_
        refine QN.seq ?_
        refine W.ret ?_
        refine QN.blkRet ?_
        refine QN.thenRet ?_
        refine QN.thenRet ?_
        refine QN.blkRet ?_
        refine QN.thenRet ?_
        refine QN.done (.inl rfl) 4 (.bool (false)) rfl (by kernel_rfl) (fun w hw => ⟨?_, hw.below⟩)
        exact absurd h24 (by rw [rallow_eq, rallow_eq]; simp)
      · skip
        have h24l := (Bool.or_eq_false_iff.1 h24).1
        have h24r := (Bool.or_eq_false_iff.1 h24).2
        refine W.skip ?_
        refine QN.blkNormal ?_
        refine QN.seq ?_
        refine W.region [(0, false), (1, false), (2, false)] (by kernel_rfl) ?_
        refine T.pure 15 (.int .i64 ((j : Int))) (by kernel_rfl) (fun w => by kernel_rfl) ?_
        refine T.pureE 16 (.int .i64 (IntKind.i64.wrap ((j : Int) + 1))) (.int .i64 ((j : Int) + 1)) (by kernel_rfl) (fun w => by kernel_rfl) (wrap_int (by omega) (by omega)) ?_
        refine T.pure 5 (.int .i64 ((j : Int) + 1)) (by kernel_rfl) (fun w => by kernel_rfl) ?_
        refine T.nil ?_
        refine QN.back (j + 1) ?_ ?_ (by kernel_rfl) (fun w h => h)
        · show (j + 1) ≤ (a.take 60).length
          omega
        · show _ - _ < _ - _; omega
    · skip
      have h3' := of_decide_eq_false h3
      refine W.exit ?_
      refine QN.thenExit ?_
      refine QN.thenExit ?_
      refine QN.blkHit ?_
      refine QN.seq ?_
      refine W.seq ?_
      refine W.region [(0, false), (1, false)] (by kernel_rfl) ?_
      refine T.callP 53 34 #[] (.bool (true)) (by kernel_rfl) (by kernel_rfl) ent34 (fun w hw => awake11_c w) (fun _ _ => trivial) ?_
      refine T.pure 4 (.bool (true)) (by kernel_rfl) (fun w => by kernel_rfl) ?_
      refine T.nil ?_
      refine QN.seq ?_
      refine W.ret ?_
      refine QN.done (.inl rfl) 4 (.bool (true)) rfl (by kernel_rfl) (fun w hw => ⟨?_, hw.below⟩)
      exact rfl
  · skip
    have h1' := of_decide_eq_false h1
    refine W.skip ?_
    refine QN.seq ?_
    refine W.seq ?_
    refine W.seq ?_
    refine W.region [(0, false)] (by kernel_rfl) ?_
    refine T.pure 5 (.int .i64 (0)) (by kernel_rfl) (fun w => by kernel_rfl) ?_
    refine T.nil ?_
    refine QN.seq ?_
    refine W.block ?_
    refine W.loop (σ := Nat) (fun gs => gs ≤ (a).length) (fun gs => [(0, .int .i64 (m)), (1, .slice A (a.length) c), (5, .int .i64 ((gs : Int)))]) (fun gs => St w []) (fun gs => (a).length - gs) (0) ?_ (by kernel_rfl) (fun w h => h) ?_
    · show 0 ≤ (a).length
      exact Nat.zero_le _
    rintro j hI_
    obtain hj : j ≤ (a).length := hI_
    show W _ _ [(0, .int .i64 (m)), (1, .slice A (a.length) c), (5, .int .i64 ((j : Int)))] (St w []) _ _
    refine W.seq ?_
    refine W.seq ?_
    refine W.region [(0, false), (1, false), (2, false), (3, false)] (by kernel_rfl) ?_
    refine T.pure 11 (.int .i64 ((j : Int))) (by kernel_rfl) (fun w => by kernel_rfl) ?_
    refine T.pure 12 (.slice A (a.length) c) (by kernel_rfl) (fun w => by kernel_rfl) ?_
    refine T.pure 13 (.int .i64 (((a.length : Nat) : Int))) (by kernel_rfl) (fun w => by kernel_rfl) ?_
    refine T.pure 14 (.bool (decide ((j : Int) < ((a.length : Nat) : Int)))) (by kernel_rfl) (fun w => by kernel_rfl) ?_
    refine T.nil ?_
    refine QN.seq ?_
    refine W.cond (decide ((j : Int) < ((a.length : Nat) : Int))) (by kernel_rfl) (fun h25 => ?_) (fun h25 => ?_)
    · skip
      have h25' := of_decide_eq_true h25
      refine W.skip ?_
      refine QN.seq ?_
      refine W.seq ?_
      refine W.block ?_
      refine W.seq ?_
      refine W.drawn (Ψ := St w []) (St w []) [(0, true), (1, true), (2, true), (3, true), (4, true), (5, true), (6, true), (7, true), (9, true), (10, true), (11, true), (12, true), (13, true), (14, true), (15, true), (16, true), (8, false), (17, false), (18, true), (19, true), (20, true), (21, true), (22, true), (23, true), (24, true), (25, true), (27, true), (28, true), (29, true), (30, true), (31, true), (32, true), (26, false), (33, false), (34, true), (35, true)] hmx (by kernel_rfl) (NoPanic.then (NoPanic.inBlock (NoPanic.then (NoPanic.then (NoPanic.inBlock (NoPanic.then (NoPanic.body))))))) (fun w h => h.drew) (fun w h => h) ?_
      refine T.pure 17 (.int .i64 (m)) (by kernel_rfl) (fun w => by kernel_rfl) ?_
      refine T.pure 18 (.slice A (a.length) c) (by kernel_rfl) (fun w => by kernel_rfl) ?_
      refine T.pure 19 (.int .i64 ((j : Int))) (by kernel_rfl) (fun w => by kernel_rfl) ?_
      have hl30 : j < (a).length := by omega
      obtain ⟨b26, o27, hA28, hr29⟩ := (Rd.arr hr _) j hl30
      refine T.index 20 43 42 22 A (a.length) c ((j : Int)) (j) b26 o27 (by kernel_rfl) (by kernel_rfl) (by kernel_rfl) (by kernel_rfl) hA28 (rfl) (by omega) ?_
      refine T.loadR true 21 ((a[j]'hl30)).cs 42 b26 (o27 + j * 22) (by kernel_rfl) (by kernel_rfl) (by kernel_rfl) (by kernel_rfl) hr29 ?_
      refine T.pure 22 (.slice A (a.length) c) (by kernel_rfl) (fun w => by kernel_rfl) ?_
      refine T.pure 23 (.int .i64 ((j : Int))) (by kernel_rfl) (fun w => by kernel_rfl) ?_
      have hsl31 : (a.take j).length = j := by simp; omega
      refine T.sliceTo 24 43 42 A (a.length) c ((j : Int)) ((a.take j).length) (by kernel_rfl) (by kernel_rfl) (by kernel_rfl) (by kernel_rfl) (by omega) (by omega) ?_
      refine T.pure 26 (.int .i64 (m)) (by kernel_rfl) (fun w => by kernel_rfl) ?_
      refine T.pure 27 (.slice A (a.length) c) (by kernel_rfl) (fun w => by kernel_rfl) ?_
      refine T.pure 28 (.int .i64 ((j : Int))) (by kernel_rfl) (fun w => by kernel_rfl) ?_
      obtain ⟨b32, o33, hA34, hr35⟩ := (Rd.arr hr _) j hl30
      refine T.index 29 43 42 22 A (a.length) c ((j : Int)) (j) b32 o33 (by kernel_rfl) (by kernel_rfl) (by kernel_rfl) (by kernel_rfl) hA34 (rfl) (by omega) ?_
      refine T.loadR true 30 ((a[j]'hl30)).cs 42 b32 (o33 + j * 22) (by kernel_rfl) (by kernel_rfl) (by kernel_rfl) (by kernel_rfl) hr35 ?_
      refine T.pure 31 (.slice A (a.length) c) (by kernel_rfl) (fun w => by kernel_rfl) ?_
      refine T.pure 32 (.int .i64 ((j : Int))) (by kernel_rfl) (fun w => by kernel_rfl) ?_
      have hsl36 : (a.take j).length = j := by simp; omega
      refine T.sliceTo 33 43 42 A (a.length) c ((j : Int)) ((a.take j).length) (by kernel_rfl) (by kernel_rfl) (by kernel_rfl) (by kernel_rfl) (by omega) (by omega) ?_
      refine T.callP 25 32 #[.int .i64 (m), .agg ((a[j]'hl30)).cs, .slice A ((a.take j).length) c] (.bool (allowB m (a[j]'hl30) (a.take j))) (by kernel_rfl) (by kernel_rfl) ent32 (fun w hw => allowed_c _ (by first | assumption | exact w64_and _ _ | exact w64_or _ _ | exact w64_andNot _ _ | (unfold W64; omega)) _ (Vt.Ok.support (hall _ (by first | exact List.getElem_mem _ | exact List.mem_of_mem_take (List.getElem_mem _)))) _ _ _ (by first | omega | (simp; omega)) w (Arr.rd ((Rd.arr hr _).take _) hw).v) (fun w h => h) ?_
      refine T.callP 34 33 #[.int .i64 (m), .agg ((a[j]'hl30)).cs, .slice A ((a.take j).length) c] (.bool (rallowB m (a[j]'hl30) (a.take j))) (by kernel_rfl) (by kernel_rfl) ent33 (fun w hw => rallowed_c _ _ _ _ _ (by first | assumption | exact w64_and _ _ | exact w64_or _ _ | exact w64_andNot _ _ | (unfold W64; omega)) (Vt.Ok.support (hall _ (by first | exact List.getElem_mem _ | exact List.mem_of_mem_take (List.getElem_mem _)))) (by first | omega | (simp; omega)) w (Arr.rd ((Rd.arr hr _).take _) hw)) (fun w h => h) ?_
      refine T.pure 35 (.bool ((allowB m (a[j]'hl30) (a.take j)) != (rallowB m (a[j]'hl30) (a.take j)))) (by kernel_rfl) (fun w => by kernel_rfl) ?_
      refine T.pure 36 (.bool ((allowB m (a[j]'hl30) (a.take j)) != (rallowB m (a[j]'hl30) (a.take j)))) (by kernel_rfl) (fun w => by kernel_rfl) ?_
      refine T.blk [(20, true), (21, true), (22, true), (23, true), (24, true), (25, true), (27, true), (28, true), (29, true), (30, true), (31, true), (32, true), (26, false), (33, false), (34, true)] [(35, true)] 19 false ((allowB m (a[j]'hl30) (a.take j)) != (rallowB m (a[j]'hl30) (a.take j))) 36 51 (.bool ((allowB m (a[j]'hl30) a) != (rallowB m (a[j]'hl30) a))) (by kernel_rfl) (by kernel_rfl) (by kernel_rfl) (fun hg37 => ?_) ?_
      · have hg37_ := hg37
        refine T.pure 37 (.int .i64 (m)) (by kernel_rfl) (fun w => by kernel_rfl) ?_
        refine T.pure 38 (.slice A (a.length) c) (by kernel_rfl) (fun w => by kernel_rfl) ?_
        refine T.pure 39 (.int .i64 ((j : Int))) (by kernel_rfl) (fun w => by kernel_rfl) ?_
        obtain ⟨b38, o39, hA40, hr41⟩ := (Rd.arr hr _) j hl30
        refine T.index 40 43 42 22 A (a.length) c ((j : Int)) (j) b38 o39 (by kernel_rfl) (by kernel_rfl) (by kernel_rfl) (by kernel_rfl) hA40 (rfl) (by omega) ?_
        refine T.loadR true 41 ((a[j]'hl30)).cs 42 b38 (o39 + j * 22) (by kernel_rfl) (by kernel_rfl) (by kernel_rfl) (by kernel_rfl) hr41 ?_
        refine T.pure 42 (.slice A (a.length) c) (by kernel_rfl) (fun w => by kernel_rfl) ?_
        refine T.pure 44 (.int .i64 (m)) (by kernel_rfl) (fun w => by kernel_rfl) ?_
        refine T.pure 45 (.slice A (a.length) c) (by kernel_rfl) (fun w => by kernel_rfl) ?_
        refine T.pure 46 (.int .i64 ((j : Int))) (by kernel_rfl) (fun w => by kernel_rfl) ?_
        obtain ⟨b42, o43, hA44, hr45⟩ := (Rd.arr hr _) j hl30
        refine T.index 47 43 42 22 A (a.length) c ((j : Int)) (j) b42 o43 (by kernel_rfl) (by kernel_rfl) (by kernel_rfl) (by kernel_rfl) hA44 (rfl) (by omega) ?_
        refine T.loadR true 48 ((a[j]'hl30)).cs 42 b42 (o43 + j * 22) (by kernel_rfl) (by kernel_rfl) (by kernel_rfl) (by kernel_rfl) hr45 ?_
        refine T.pure 49 (.slice A (a.length) c) (by kernel_rfl) (fun w => by kernel_rfl) ?_
        refine T.callP 43 32 #[.int .i64 (m), .agg ((a[j]'hl30)).cs, .slice A (a.length) c] (.bool (allowB m (a[j]'hl30) a)) (by kernel_rfl) (by kernel_rfl) ent32 (fun w hw => allowed_c _ (by first | assumption | exact w64_and _ _ | exact w64_or _ _ | exact w64_andNot _ _ | (unfold W64; omega)) _ (Vt.Ok.support (hall _ (by first | exact List.getElem_mem _ | exact List.mem_of_mem_take (List.getElem_mem _)))) _ _ _ (by first | omega | (simp; omega)) w (Arr.rd (Rd.arr hr _) hw).v) (fun w h => h) ?_
        refine T.callP 50 33 #[.int .i64 (m), .agg ((a[j]'hl30)).cs, .slice A (a.length) c] (.bool (rallowB m (a[j]'hl30) a)) (by kernel_rfl) (by kernel_rfl) ent33 (fun w hw => rallowed_c _ _ _ _ _ (by first | assumption | exact w64_and _ _ | exact w64_or _ _ | exact w64_andNot _ _ | (unfold W64; omega)) (Vt.Ok.support (hall _ (by first | exact List.getElem_mem _ | exact List.mem_of_mem_take (List.getElem_mem _)))) (by first | omega | (simp; omega)) w (Arr.rd (Rd.arr hr _) hw)) (fun w h => h) ?_
        refine T.pure 51 (.bool ((allowB m (a[j]'hl30) a) != (rallowB m (a[j]'hl30) a))) (by kernel_rfl) (fun w => by kernel_rfl) ?_
        exact T.blkEnd (by kernel_rfl) (fun w h => h)
      refine T.or 52 ((allowB m (a[j]'hl30) (a.take j)) != (rallowB m (a[j]'hl30) (a.take j))) ((allowB m (a[j]'hl30) a) != (rallowB m (a[j]'hl30) a)) (by kernel_rfl) (by kernel_rfl) ?_
      refine T.nil ?_
      refine QN.seq ?_
      refine W.cond (((allowB m (a[j]'hl30) (a.take j)) != (rallowB m (a[j]'hl30) (a.take j))) || ((allowB m (a[j]'hl30) a) != (rallowB m (a[j]'hl30) a))) (by kernel_rfl) (fun h46 => ?_) (fun h46 => ?_)
      · skip
        refine W.seq ?_
        refine W.region [(0, false)] (by kernel_rfl) ?_
        refine T.pure 4 (.bool (false)) (by kernel_rfl) (fun w => by kernel_rfl) ?_
        refine T.nil ?_
        refine QN.seq ?_
        refine W.ret ?_
        refine QN.blkRet ?_
        refine QN.thenRet ?_
        refine QN.thenRet ?_
        refine QN.blkRet ?_
        refine QN.thenRet ?_
        refine QN.done (.inl rfl) 4 (.bool (false)) rfl (by kernel_rfl) (fun w hw => ⟨?_, hw.below⟩)
        exact absurd h46 (by rw [rallow_eq, rallow_eq]; simp)
      · skip
        have h46l := (Bool.or_eq_false_iff.1 h46).1
        have h46r := (Bool.or_eq_false_iff.1 h46).2
        refine W.skip ?_
        refine QN.blkNormal ?_
        refine QN.seq ?_
        refine W.region [(0, false), (1, false), (2, false)] (by kernel_rfl) ?_
        refine T.pure 15 (.int .i64 ((j : Int))) (by kernel_rfl) (fun w => by kernel_rfl) ?_
        refine T.pureE 16 (.int .i64 (IntKind.i64.wrap ((j : Int) + 1))) (.int .i64 ((j : Int) + 1)) (by kernel_rfl) (fun w => by kernel_rfl) (wrap_int (by omega) (by omega)) ?_
        refine T.pure 5 (.int .i64 ((j : Int) + 1)) (by kernel_rfl) (fun w => by kernel_rfl) ?_
        refine T.nil ?_
        refine QN.back (j + 1) ?_ ?_ (by kernel_rfl) (fun w h => h)
        · show (j + 1) ≤ (a).length
          omega
        · show _ - _ < _ - _; omega
    · skip
      have h25' := of_decide_eq_false h25
      refine W.exit ?_
      refine QN.thenExit ?_
      refine QN.thenExit ?_
      refine QN.blkHit ?_
      refine QN.seq ?_
      refine W.seq ?_
      refine W.region [(0, false), (1, false)] (by kernel_rfl) ?_
      refine T.callP 53 34 #[] (.bool (true)) (by kernel_rfl) (by kernel_rfl) ent34 (fun w hw => awake11_c w) (fun _ _ => trivial) ?_
      refine T.pure 4 (.bool (true)) (by kernel_rfl) (fun w => by kernel_rfl) ?_
      refine T.nil ?_
      refine QN.seq ?_
      refine W.ret ?_
      refine QN.done (.inl rfl) 4 (.bool (true)) rfl (by kernel_rfl) (fun w hw => ⟨?_, hw.below⟩)
      exact rfl
theorem JustifyEach_w (w : World) (a0 : Int) (v1 : Value) (x1 : List Vt) (h0 : W64 a0) (h1 : VS w v1 x1) : Calls Try.prog 11 #[.int .i64 a0, v1] w fun e w' => e = .returned (.bool true) ∧ Below w.heap.size w w' := by
  obtain ⟨A1, c1, rfl, l1, m1, r1, k1⟩ := h1
  exact JustifyEach_c _ _ _ _ w h0 l1 m1 r1.rd k1
end Go.Proofs.Yteejjjlheacamaa
