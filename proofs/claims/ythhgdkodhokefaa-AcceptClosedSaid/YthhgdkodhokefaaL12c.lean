/- The walk of AcceptClosed. -/
import Derived.Test.YthhgdkodhokefaaL12p
import Derived.Test.YthhgdkodhokefaaOpenN
namespace Go.Proofs.Ythhgdkodhokefaa
open Go Go.RowKit
set_option linter.unusedVariables false

theorem closed1 {m : Int} {p : Nm} {L : List Vt} {j : Nat} {hj : j < (accV m p L).length} {hj' : j - 1 < (accV m p L).length} (h : (((((accV m p L)[j].par != p) || (!(L.any (fun x => x == (accV m p L)[j])))) || (!(allowB m (accV m p L)[j] (accV m p L)))) || ((decide (0 < (j : Int))) && (!(vless (accV m p L)[j - 1] (accV m p L)[j])))) = true) : False := by
  have hm := accV_mem (List.getElem_mem hj)
  have h1 : L.any (fun x => x == (accV m p L)[j]) = true := List.any_eq_true.2 ⟨_, hm.1, by simp⟩
  rw [h1, accV_allow (List.getElem_mem hj), hm.2] at h
  simp only [bne_self_eq_false, Bool.not_true, Bool.false_or, Bool.and_eq_true, decide_eq_true_eq, Bool.not_eq_true'] at h
  have := (List.pairwise_iff_getElem.1 (accV_strict m p L)) (j - 1) j hj' hj (by omega)
  rw [h.2] at this; cases this
theorem closed2 {m : Int} {p : Nm} {L : List Vt} {k : Nat} {hk : k < L.length} (h : (((L[k].par == p) && (!((accV m p L).any (fun x => x == L[k])))) && (allowB m L[k] (accV m p L))) = true) : False := by
  simp only [Bool.and_eq_true, beq_iff_eq, Bool.not_eq_true'] at h
  have hn : L[k] ∉ accV m p L := fun hm => by
    have : (accV m p L).any (fun x => x == L[k]) = true := List.any_eq_true.2 ⟨_, hm, by simp⟩
    rw [this] at h; simp at h
  have := accV_closed (m := m) (List.getElem_mem hk) h.1.1 hn
  rw [h.2] at this; cases this
theorem closed3 {m : Int} {p : Nm} {L : List Vt} : ((accV m p (accV m p L) == accV m p L) && true) = true := by
  rw [accV_again]; simp
set_option maxRecDepth 100000 in
set_option maxHeartbeats 2000000 in
theorem AcceptClosed_c (m : Int) (p : Nm) (a : List Vt) (A : Option Addr) (c : Nat) (w : World) (hm : W64 m) (hok : ∀ u ∈ a, u.Ok) (h1 : a.length ≤ c) (h2 : c ≤ maxLen) (hr : Rd w A a) : Calls Try.prog 10 #[.int .i64 (m), .agg (p).cs, .slice A (a.length) c] w (fun rr w' => rr = .returned (.bool (true)) ∧ Below w.heap.size w w') := by
  have ht : (a.take 120).length ≤ 120 := List.length_take_le _ _
  refine calls_W (n := 108) Try.func10 rfl [(0, .int .i64 (m)), (1, .agg (p).cs), (2, .slice A (a.length) c)] rfl ⟨by kernel_rfl, by kernel_rfl⟩ ?_
  refine W.weak (Ψ := St w []) (fun w' h => by rw [h]; exact St.start w) ?_
  refine W.seq ?_
  refine W.region [(0, false), (1, false)] (by kernel_rfl) ?_
  refine T.box 4 24 (.agg (p).cs) ((p).cs) (by kernel_rfl) (by kernel_rfl) (by kernel_rfl) (fun _ _ _ => trivial) (fun b1 => ?_)
  refine T.pure 6 (.bool (false)) (by kernel_rfl) (fun w => by kernel_rfl) ?_
  refine T.nil ?_
  refine QN.seq ?_
  refine W.seq ?_
  refine W.seq ?_
  refine W.region [(0, false), (1, false), (2, false)] (by kernel_rfl) ?_
  refine T.pure 10 (.slice A (a.length) c) (by kernel_rfl) (fun w => by kernel_rfl) ?_
  refine T.pure 11 (.int .i64 (((a.length : Nat) : Int))) (by kernel_rfl) (fun w => by kernel_rfl) ?_
  refine T.pure 12 (.bool (decide (120 < ((a.length : Nat) : Int)))) (by kernel_rfl) (fun w => by kernel_rfl) ?_
  refine T.nil ?_
  refine QN.seq ?_
  refine W.cond (decide (120 < ((a.length : Nat) : Int))) (by kernel_rfl) (fun h2 => ?_) (fun h2 => ?_)
  · skip
    have h2' := of_decide_eq_true h2
    refine W.region [(0, false), (1, false), (2, false)] (by kernel_rfl) ?_
    refine T.pure 13 (.slice A (a.length) c) (by kernel_rfl) (fun w => by kernel_rfl) ?_
    have hsl3 : (a.take 120).length = 120 := by simp; omega
    refine T.sliceTo 14 27 26 A (a.length) c (120) ((a.take 120).length) (by kernel_rfl) (by kernel_rfl) (by kernel_rfl) (by kernel_rfl) (by omega) (by omega) ?_
    refine T.pure 2 (.slice A ((a.take 120).length) c) (by kernel_rfl) (fun w => by kernel_rfl) ?_
    refine T.nil ?_
    refine QN.seq ?_
    refine W.seq ?_
    refine W.region [(0, false), (1, false), (2, false), (3, false), (4, false)] (by kernel_rfl) ?_
    refine T.pure 15 (.int .i64 (m)) (by kernel_rfl) (fun w => by kernel_rfl) ?_
    refine T.loadR false 16 (p).cs 24 b1 0 (by kernel_rfl) (by kernel_rfl) (by kernel_rfl) (by kernel_rfl) (fun w h => St.rangeM h (p).cs (.head _) (by kernel_rfl)) ?_
    refine T.pure 17 (.slice A ((a.take 120).length) c) (by kernel_rfl) (fun w => by kernel_rfl) ?_
    refine T.callR 18 34 #[.int .i64 (m), .agg (p).cs, .slice A ((a.take 120).length) c] 26 22 (accV m p (a.take 120)).length (cells (accV m p (a.take 120))) (by kernel_rfl) (by kernel_rfl) ent34 (fun w hw => accepted_c m p (a.take 120) A c w (by first | assumption | exact w64_and _ _ | exact w64_or _ _ | exact w64_andNot _ _ | (unfold W64; omega)) (fun u hu => (hok u (List.mem_of_mem_take hu)).support) (by first | omega | (simp; done) | (simp; omega)) (Arr.rd ((Rd.arr hr _).take _) hw)) (fun _ _ _ => trivial) (fun A4 c5 Hr6 hrow7 => ?_)
    refine T.pure 7 (.slice A4 ((accV m p (a.take 120)).length) c5) (by kernel_rfl) (fun w => by kernel_rfl) ?_
    refine T.nil ?_
    refine QN.seq ?_
    refine W.seq ?_
    refine W.seq ?_
    refine W.region [(0, false)] (by kernel_rfl) ?_
    refine T.pure 8 (.int .i64 (0)) (by kernel_rfl) (fun w => by kernel_rfl) ?_
    refine T.nil ?_
    refine QN.seq ?_
    refine W.block ?_
    have hRl := accV_len m p (a.take 120)
    have hRl2 := accV_len m p (accV m p (a.take 120))
    refine W.loop (σ := Nat) (fun gs => gs ≤ (accV m p (a.take 120)).length) (fun gs => [(0, .int .i64 (m)), (2, .slice A ((a.take 120).length) c), (4, .pointer (some ⟨b1, 0, none⟩)), (7, .slice A4 ((accV m p (a.take 120)).length) c5), (8, .int .i64 ((gs : Int)))]) (fun gs => St w (Hr6 ++ [(b1, .cells (p).cs 24 (0, 0))])) (fun gs => (accV m p (a.take 120)).length - gs) (0) ?_ (by kernel_rfl) (fun w h => h) ?_
    · show 0 ≤ (accV m p (a.take 120)).length
      exact Nat.zero_le _
    rintro j hI_
    obtain hj : j ≤ (accV m p (a.take 120)).length := hI_
    show W _ _ [(0, .int .i64 (m)), (2, .slice A ((a.take 120).length) c), (4, .pointer (some ⟨b1, 0, none⟩)), (7, .slice A4 ((accV m p (a.take 120)).length) c5), (8, .int .i64 ((j : Int)))] (St w (Hr6 ++ [(b1, .cells (p).cs 24 (0, 0))])) _ _
    refine W.seq ?_
    refine W.seq ?_
    refine W.region [(0, false), (1, false), (2, false), (3, false)] (by kernel_rfl) ?_
    refine T.pure 19 (.int .i64 ((j : Int))) (by kernel_rfl) (fun w => by kernel_rfl) ?_
    refine T.pure 20 (.slice A4 ((accV m p (a.take 120)).length) c5) (by kernel_rfl) (fun w => by kernel_rfl) ?_
    refine T.pure 21 (.int .i64 ((((accV m p (a.take 120)).length : Nat) : Int))) (by kernel_rfl) (fun w => by kernel_rfl) ?_
    refine T.pure 22 (.bool (decide ((j : Int) < (((accV m p (a.take 120)).length : Nat) : Int)))) (by kernel_rfl) (fun w => by kernel_rfl) ?_
    refine T.nil ?_
    refine QN.seq ?_
    refine W.cond (decide ((j : Int) < (((accV m p (a.take 120)).length : Nat) : Int))) (by kernel_rfl) (fun h8 => ?_) (fun h8 => ?_)
    · skip
      have h8' := of_decide_eq_true h8
      have hl9 : j < (accV m p (a.take 120)).length := by omega
      refine W.skip ?_
      refine QN.seq ?_
      refine W.seq ?_
      refine W.block ?_
      refine W.seq ?_
      refine W.drawn (Ψ := St w (Hr6 ++ [(b1, .cells (p).cs 24 (0, 0))])) (St w (Hr6 ++ [(b1, .cells (p).cs 24 (0, 0))])) [(0, true), (1, true), (2, true), (3, true), (4, true), (5, true), (6, true), (7, true), (8, true), (9, true), (10, true), (11, true), (12, true), (13, false), (14, true), (15, true), (16, true), (17, true), (18, true), (19, true), (20, true), (21, true), (22, true), (23, false), (24, true), (25, true), (26, true), (27, true), (28, true), (29, true), (30, true), (31, true), (32, true), (33, true), (34, true), (35, true), (36, true), (37, true), (38, true), (39, false), (40, true), (41, true), (42, true)] hmx (by kernel_rfl) (NoPanic.then (NoPanic.inBlock (NoPanic.then (NoPanic.then (NoPanic.inBlock (NoPanic.then (NoPanic.body))))))) (fun w h => h.drew) (fun w h => h) ?_
      have hlp : j - 1 < (accV m p (a.take 120)).length := by omega
      refine T.pure 25 (.slice A4 ((accV m p (a.take 120)).length) c5) (by kernel_rfl) (fun w => by kernel_rfl) ?_
      refine T.pure 26 (.int .i64 ((j : Int))) (by kernel_rfl) (fun w => by kernel_rfl) ?_
      obtain ⟨b10, o11, hA12, hr13⟩ := (Arr.row hrow7 (rfl) (rfl) _) j hl9
      refine T.index 27 27 26 22 A4 ((accV m p (a.take 120)).length) c5 ((j : Int)) (j) b10 o11 (by kernel_rfl) (by kernel_rfl) (by kernel_rfl) (by kernel_rfl) hA12 (rfl) (by omega) ?_
      refine T.pure 28 (.pointer (some ⟨b10, o11 + j * 22 + 6, none⟩)) (by kernel_rfl) (fun w => by kernel_rfl) ?_
      refine T.loadR true 29 ((((accV m p (a.take 120))[j]'hl9)).par).cs 24 b10 (o11 + j * 22 + 6) (by kernel_rfl) (by kernel_rfl) (by kernel_rfl) (by kernel_rfl) (fun w h => range_of_range (hr13 w h) 6 ((((accV m p (a.take 120))[j]'hl9)).par).cs (by kernel_rfl)) ?_
      refine T.loadR true 30 (p).cs 24 b1 0 (by kernel_rfl) (by kernel_rfl) (by kernel_rfl) (by kernel_rfl) (fun w h => St.rangeM h (p).cs (List.mem_append_right _ (.head _)) (by kernel_rfl)) ?_
      refine T.eqq 31 (((((accV m p (a.take 120))[j]'hl9)).par) != p) (((((accV m p (a.take 120))[j]'hl9)).par) == p) true 24 ((((accV m p (a.take 120))[j]'hl9)).par).cs (p).cs (by kernel_rfl) (by kernel_rfl) (by kernel_rfl) (by kernel_rfl) (fun w => eq_nm w ((((accV m p (a.take 120))[j]'hl9)).par) p) ?_
      refine T.pure 32 (.bool (((((accV m p (a.take 120))[j]'hl9)).par) != p)) (by kernel_rfl) (fun w => by kernel_rfl) ?_
      refine T.blk [(8, true), (9, true), (10, true), (11, true), (12, true), (13, false), (14, true)] [(15, true), (16, true), (17, true), (18, true), (19, true), (20, true), (21, true), (22, true), (23, false), (24, true), (25, true), (26, true), (27, true), (28, true), (29, true), (30, true), (31, true), (32, true), (33, true), (34, true), (35, true), (36, true), (37, true), (38, true), (39, false), (40, true), (41, true), (42, true)] 7 false (((((accV m p (a.take 120))[j]'hl9)).par) != p) 32 39 (.bool (!((a.take 120).any (fun x => x == ((accV m p (a.take 120))[j]'hl9))))) (by kernel_rfl) (by kernel_rfl) (by kernel_rfl) (fun hg14 => ?_) ?_
      · have hg14_ := hg14
        refine T.pure 33 (.slice A ((a.take 120).length) c) (by kernel_rfl) (fun w => by kernel_rfl) ?_
        refine T.pure 34 (.slice A4 ((accV m p (a.take 120)).length) c5) (by kernel_rfl) (fun w => by kernel_rfl) ?_
        refine T.pure 35 (.int .i64 ((j : Int))) (by kernel_rfl) (fun w => by kernel_rfl) ?_
        obtain ⟨b15, o16, hA17, hr18⟩ := (Arr.row hrow7 (rfl) (rfl) _) j hl9
        refine T.index 36 27 26 22 A4 ((accV m p (a.take 120)).length) c5 ((j : Int)) (j) b15 o16 (by kernel_rfl) (by kernel_rfl) (by kernel_rfl) (by kernel_rfl) hA17 (rfl) (by omega) ?_
        refine T.loadR true 37 (((accV m p (a.take 120))[j]'hl9)).cs 26 b15 (o16 + j * 22) (by kernel_rfl) (by kernel_rfl) (by kernel_rfl) (by kernel_rfl) hr18 ?_
        refine T.callP 38 35 #[.slice A ((a.take 120).length) c, .agg (((accV m p (a.take 120))[j]'hl9)).cs] (.bool ((a.take 120).any (fun x => x == ((accV m p (a.take 120))[j]'hl9)))) (by kernel_rfl) (by kernel_rfl) ent35 (fun w hw => has12_c (a.take 120) ((accV m p (a.take 120))[j]'hl9) A c w (by first | omega | (simp; done) | (simp; omega)) (Arr.rd ((Rd.arr hr _).take _) hw)) (fun w h => h) ?_
        refine T.pure 39 (.bool (!((a.take 120).any (fun x => x == ((accV m p (a.take 120))[j]'hl9))))) (by kernel_rfl) (fun w => by kernel_rfl) ?_
        exact T.blkEnd (by kernel_rfl) (fun w h => h)
      refine T.or 40 (((((accV m p (a.take 120))[j]'hl9)).par) != p) (!((a.take 120).any (fun x => x == ((accV m p (a.take 120))[j]'hl9)))) (by kernel_rfl) (by kernel_rfl) ?_
      refine T.pure 41 (.bool ((((((accV m p (a.take 120))[j]'hl9)).par) != p) || (!((a.take 120).any (fun x => x == ((accV m p (a.take 120))[j]'hl9)))))) (by kernel_rfl) (fun w => by kernel_rfl) ?_
      refine T.blk [(17, true), (18, true), (19, true), (20, true), (21, true), (22, true), (23, false), (24, true)] [(25, true), (26, true), (27, true), (28, true), (29, true), (30, true), (31, true), (32, true), (33, true), (34, true), (35, true), (36, true), (37, true), (38, true), (39, false), (40, true), (41, true), (42, true)] 16 false ((((((accV m p (a.take 120))[j]'hl9)).par) != p) || (!((a.take 120).any (fun x => x == ((accV m p (a.take 120))[j]'hl9))))) 41 49 (.bool (!(allowB m ((accV m p (a.take 120))[j]'hl9) (accV m p (a.take 120))))) (by kernel_rfl) (by kernel_rfl) (by kernel_rfl) (fun hg19 => ?_) ?_
      · have hg19_ := hg19
        have hg19l := (Bool.or_eq_false_iff.1 hg19).1
        have hg19r := (Bool.or_eq_false_iff.1 hg19).2
        have hg19rn := not_eq_false hg19r
        refine T.pure 42 (.int .i64 (m)) (by kernel_rfl) (fun w => by kernel_rfl) ?_
        refine T.pure 43 (.slice A4 ((accV m p (a.take 120)).length) c5) (by kernel_rfl) (fun w => by kernel_rfl) ?_
        refine T.pure 44 (.int .i64 ((j : Int))) (by kernel_rfl) (fun w => by kernel_rfl) ?_
        obtain ⟨b20, o21, hA22, hr23⟩ := (Arr.row hrow7 (rfl) (rfl) _) j hl9
        refine T.index 45 27 26 22 A4 ((accV m p (a.take 120)).length) c5 ((j : Int)) (j) b20 o21 (by kernel_rfl) (by kernel_rfl) (by kernel_rfl) (by kernel_rfl) hA22 (rfl) (by omega) ?_
        refine T.loadR true 46 (((accV m p (a.take 120))[j]'hl9)).cs 26 b20 (o21 + j * 22) (by kernel_rfl) (by kernel_rfl) (by kernel_rfl) (by kernel_rfl) hr23 ?_
        refine T.pure 47 (.slice A4 ((accV m p (a.take 120)).length) c5) (by kernel_rfl) (fun w => by kernel_rfl) ?_
        refine T.callP 48 17 #[.int .i64 (m), .agg (((accV m p (a.take 120))[j]'hl9)).cs, .slice A4 ((accV m p (a.take 120)).length) c5] (.bool (allowB m ((accV m p (a.take 120))[j]'hl9) (accV m p (a.take 120)))) (by kernel_rfl) (by kernel_rfl) ent17 (fun w hw => allowed_c _ (by first | assumption | exact w64_and _ _ | exact w64_or _ _ | exact w64_andNot _ _ | (unfold W64; omega)) _ (Vt.Ok.support (hok _ (by first | exact List.getElem_mem _ | exact List.mem_of_mem_take (List.getElem_mem _) | exact (accV_mem (List.getElem_mem _)).1 | exact List.mem_of_mem_take (accV_mem (List.getElem_mem _)).1))) _ _ _ (by first | omega | (simp; done) | (simp; omega)) w (Arr.rd (Arr.row hrow7 (rfl) (rfl) _) hw).v) (fun w h => h) ?_
        refine T.pure 49 (.bool (!(allowB m ((accV m p (a.take 120))[j]'hl9) (accV m p (a.take 120))))) (by kernel_rfl) (fun w => by kernel_rfl) ?_
        exact T.blkEnd (by kernel_rfl) (fun w h => h)
      refine T.or 50 ((((((accV m p (a.take 120))[j]'hl9)).par) != p) || (!((a.take 120).any (fun x => x == ((accV m p (a.take 120))[j]'hl9))))) (!(allowB m ((accV m p (a.take 120))[j]'hl9) (accV m p (a.take 120)))) (by kernel_rfl) (by kernel_rfl) ?_
      refine T.pure 51 (.bool (((((((accV m p (a.take 120))[j]'hl9)).par) != p) || (!((a.take 120).any (fun x => x == ((accV m p (a.take 120))[j]'hl9))))) || (!(allowB m ((accV m p (a.take 120))[j]'hl9) (accV m p (a.take 120)))))) (by kernel_rfl) (fun w => by kernel_rfl) ?_
      refine T.blk [(27, true), (28, true), (29, true), (30, true), (31, true), (32, true), (33, true), (34, true), (35, true), (36, true), (37, true), (38, true), (39, false), (40, true), (41, true)] [(42, true)] 26 false (((((((accV m p (a.take 120))[j]'hl9)).par) != p) || (!((a.take 120).any (fun x => x == ((accV m p (a.take 120))[j]'hl9))))) || (!(allowB m ((accV m p (a.take 120))[j]'hl9) (accV m p (a.take 120))))) 51 66 (.bool ((decide (0 < (j : Int))) && (!(vless ((accV m p (a.take 120))[(j - 1)]'hlp) ((accV m p (a.take 120))[j]'hl9))))) (by kernel_rfl) (by kernel_rfl) (by kernel_rfl) (fun hg24 => ?_) ?_
      · have hg24_ := hg24
        have hg24l := (Bool.or_eq_false_iff.1 hg24).1
        have hg24r := (Bool.or_eq_false_iff.1 hg24).2
        have hg24ll := (Bool.or_eq_false_iff.1 hg24l).1
        have hg24lr := (Bool.or_eq_false_iff.1 hg24l).2
        have hg24lrn := not_eq_false hg24lr
        have hg24rn := not_eq_false hg24r
        refine T.pure 52 (.int .i64 ((j : Int))) (by kernel_rfl) (fun w => by kernel_rfl) ?_
        refine T.pure 53 (.bool (decide (0 < (j : Int)))) (by kernel_rfl) (fun w => by kernel_rfl) ?_
        refine T.pure 54 (.bool (decide (0 < (j : Int)))) (by kernel_rfl) (fun w => by kernel_rfl) ?_
        refine T.blk [(30, true), (31, true), (32, true), (33, true), (34, true), (35, true), (36, true), (37, true), (38, true), (39, false), (40, true)] [(41, true)] 29 true (decide (0 < (j : Int))) 54 65 (.bool (!(vless ((accV m p (a.take 120))[(j - 1)]'hlp) ((accV m p (a.take 120))[j]'hl9)))) (by kernel_rfl) (by kernel_rfl) (by kernel_rfl) (fun hg25 => ?_) ?_
        · have hg25_ := hg25
          have hg25' := of_decide_eq_true hg25
          refine T.pure 55 (.slice A4 ((accV m p (a.take 120)).length) c5) (by kernel_rfl) (fun w => by kernel_rfl) ?_
          refine T.pure 56 (.int .i64 ((j : Int))) (by kernel_rfl) (fun w => by kernel_rfl) ?_
          refine T.pureE 57 (.int .i64 (IntKind.i64.wrap ((j : Int) - 1))) (.int .i64 ((j : Int) - 1)) (by kernel_rfl) (fun w => by kernel_rfl) (wrap_int (by omega) (by omega)) ?_
          obtain ⟨b26, o27, hA28, hr29⟩ := (Arr.row hrow7 (rfl) (rfl) _) (j - 1) hlp
          refine T.index 58 27 26 22 A4 ((accV m p (a.take 120)).length) c5 ((j : Int) - 1) ((j - 1)) b26 o27 (by kernel_rfl) (by kernel_rfl) (by kernel_rfl) (by kernel_rfl) hA28 (by omega) (by omega) ?_
          refine T.loadR true 59 (((accV m p (a.take 120))[(j - 1)]'hlp)).cs 26 b26 (o27 + (j - 1) * 22) (by kernel_rfl) (by kernel_rfl) (by kernel_rfl) (by kernel_rfl) hr29 ?_
          refine T.pure 60 (.slice A4 ((accV m p (a.take 120)).length) c5) (by kernel_rfl) (fun w => by kernel_rfl) ?_
          refine T.pure 61 (.int .i64 ((j : Int))) (by kernel_rfl) (fun w => by kernel_rfl) ?_
          obtain ⟨b30, o31, hA32, hr33⟩ := (Arr.row hrow7 (rfl) (rfl) _) j hl9
          refine T.index 62 27 26 22 A4 ((accV m p (a.take 120)).length) c5 ((j : Int)) (j) b30 o31 (by kernel_rfl) (by kernel_rfl) (by kernel_rfl) (by kernel_rfl) hA32 (rfl) (by omega) ?_
          refine T.loadR true 63 (((accV m p (a.take 120))[j]'hl9)).cs 26 b30 (o31 + j * 22) (by kernel_rfl) (by kernel_rfl) (by kernel_rfl) (by kernel_rfl) hr33 ?_
          refine T.callP 64 36 #[.agg (((accV m p (a.take 120))[(j - 1)]'hlp)).cs, .agg (((accV m p (a.take 120))[j]'hl9)).cs] (.bool (vless ((accV m p (a.take 120))[(j - 1)]'hlp) ((accV m p (a.take 120))[j]'hl9))) (by kernel_rfl) (by kernel_rfl) ent36 (fun w hw => vless_c ((accV m p (a.take 120))[(j - 1)]'hlp) ((accV m p (a.take 120))[j]'hl9) w) (fun w h => h) ?_
          refine T.pure 65 (.bool (!(vless ((accV m p (a.take 120))[(j - 1)]'hlp) ((accV m p (a.take 120))[j]'hl9)))) (by kernel_rfl) (fun w => by kernel_rfl) ?_
          exact T.blkEnd (by kernel_rfl) (fun w h => h)
        refine T.and 66 (decide (0 < (j : Int))) (!(vless ((accV m p (a.take 120))[(j - 1)]'hlp) ((accV m p (a.take 120))[j]'hl9))) (by kernel_rfl) (by kernel_rfl) ?_
        exact T.blkEnd (by kernel_rfl) (fun w h => h)
      refine T.or 67 (((((((accV m p (a.take 120))[j]'hl9)).par) != p) || (!((a.take 120).any (fun x => x == ((accV m p (a.take 120))[j]'hl9))))) || (!(allowB m ((accV m p (a.take 120))[j]'hl9) (accV m p (a.take 120))))) ((decide (0 < (j : Int))) && (!(vless ((accV m p (a.take 120))[(j - 1)]'hlp) ((accV m p (a.take 120))[j]'hl9)))) (by kernel_rfl) (by kernel_rfl) ?_
      refine T.nil ?_
      refine QN.seq ?_
      refine W.cond ((((((((accV m p (a.take 120))[j]'hl9)).par) != p) || (!((a.take 120).any (fun x => x == ((accV m p (a.take 120))[j]'hl9))))) || (!(allowB m ((accV m p (a.take 120))[j]'hl9) (accV m p (a.take 120))))) || ((decide (0 < (j : Int))) && (!(vless ((accV m p (a.take 120))[(j - 1)]'hlp) ((accV m p (a.take 120))[j]'hl9))))) (by kernel_rfl) (fun h34 => ?_) (fun h34 => ?_)
      · skip
        refine W.seq ?_
        refine W.region [(0, false)] (by kernel_rfl) ?_
        refine T.pure 6 (.bool (false)) (by kernel_rfl) (fun w => by kernel_rfl) ?_
        refine T.nil ?_
        refine QN.seq ?_
        refine W.ret ?_
        refine QN.blkRet ?_
        refine QN.thenRet ?_
        refine QN.thenRet ?_
        refine QN.blkRet ?_
        refine QN.thenRet ?_
        refine QN.done (.inl rfl) 6 (.bool (false)) rfl (by kernel_rfl) (fun w hw => ⟨?_, hw.below⟩)
        exact (closed1 h34).elim
      · skip
        have h34l := (Bool.or_eq_false_iff.1 h34).1
        have h34r := (Bool.or_eq_false_iff.1 h34).2
        have h34ll := (Bool.or_eq_false_iff.1 h34l).1
        have h34lr := (Bool.or_eq_false_iff.1 h34l).2
        have h34lll := (Bool.or_eq_false_iff.1 h34ll).1
        have h34llr := (Bool.or_eq_false_iff.1 h34ll).2
        have h34llrn := not_eq_false h34llr
        have h34lrn := not_eq_false h34lr
        refine W.skip ?_
        refine QN.blkNormal ?_
        refine QN.seq ?_
        refine W.region [(0, false), (1, false), (2, false)] (by kernel_rfl) ?_
        refine T.pure 23 (.int .i64 ((j : Int))) (by kernel_rfl) (fun w => by kernel_rfl) ?_
        refine T.pureE 24 (.int .i64 (IntKind.i64.wrap ((j : Int) + 1))) (.int .i64 ((j : Int) + 1)) (by kernel_rfl) (fun w => by kernel_rfl) (wrap_int (by omega) (by omega)) ?_
        refine T.pure 8 (.int .i64 ((j : Int) + 1)) (by kernel_rfl) (fun w => by kernel_rfl) ?_
        refine T.nil ?_
        refine QN.back (j + 1) ?_ ?_ (by kernel_rfl) (fun w h => h)
        · show (j + 1) ≤ (accV m p (a.take 120)).length
          omega
        · show (accV m p (a.take 120)).length - (j + 1) < (accV m p (a.take 120)).length - j; omega
    · skip
      have h8' := of_decide_eq_false h8
      refine W.exit ?_
      refine QN.thenExit ?_
      refine QN.thenExit ?_
      refine QN.blkHit ?_
      refine QN.seq ?_
      refine W.seq ?_
      refine W.seq ?_
      refine W.region [(0, false)] (by kernel_rfl) ?_
      refine T.pure 9 (.int .i64 (0)) (by kernel_rfl) (fun w => by kernel_rfl) ?_
      refine T.nil ?_
      refine QN.seq ?_
      refine W.block ?_
      refine W.loop (σ := Nat) (fun gs => gs ≤ (a.take 120).length) (fun gs => [(0, .int .i64 (m)), (2, .slice A ((a.take 120).length) c), (4, .pointer (some ⟨b1, 0, none⟩)), (7, .slice A4 ((accV m p (a.take 120)).length) c5), (9, .int .i64 ((gs : Int)))]) (fun gs => St w (Hr6 ++ [(b1, .cells (p).cs 24 (0, 0))])) (fun gs => (a.take 120).length - gs) (0) ?_ (by kernel_rfl) (fun w h => h) ?_
      · show 0 ≤ (a.take 120).length
        exact Nat.zero_le _
      rintro k hI_
      obtain hk : k ≤ (a.take 120).length := hI_
      show W _ _ [(0, .int .i64 (m)), (2, .slice A ((a.take 120).length) c), (4, .pointer (some ⟨b1, 0, none⟩)), (7, .slice A4 ((accV m p (a.take 120)).length) c5), (9, .int .i64 ((k : Int)))] (St w (Hr6 ++ [(b1, .cells (p).cs 24 (0, 0))])) _ _
      refine W.seq ?_
      refine W.seq ?_
      refine W.region [(0, false), (1, false), (2, false), (3, false)] (by kernel_rfl) ?_
      refine T.pure 68 (.int .i64 ((k : Int))) (by kernel_rfl) (fun w => by kernel_rfl) ?_
      refine T.pure 69 (.slice A ((a.take 120).length) c) (by kernel_rfl) (fun w => by kernel_rfl) ?_
      refine T.pure 70 (.int .i64 ((((a.take 120).length : Nat) : Int))) (by kernel_rfl) (fun w => by kernel_rfl) ?_
      refine T.pure 71 (.bool (decide ((k : Int) < (((a.take 120).length : Nat) : Int)))) (by kernel_rfl) (fun w => by kernel_rfl) ?_
      refine T.nil ?_
      refine QN.seq ?_
      refine W.cond (decide ((k : Int) < (((a.take 120).length : Nat) : Int))) (by kernel_rfl) (fun h35 => ?_) (fun h35 => ?_)
      · skip
        have h35' := of_decide_eq_true h35
        have hl36 : k < (a.take 120).length := by omega
        refine W.skip ?_
        refine QN.seq ?_
        refine W.seq ?_
        refine W.block ?_
        refine W.seq ?_
        refine W.drawn (Ψ := St w (Hr6 ++ [(b1, .cells (p).cs 24 (0, 0))])) (St w (Hr6 ++ [(b1, .cells (p).cs 24 (0, 0))])) [(0, true), (1, true), (2, true), (3, true), (4, true), (5, true), (6, true), (7, true), (8, true), (9, true), (10, true), (11, true), (12, true), (13, false), (14, true), (15, true), (16, true), (17, true), (18, true), (19, true), (20, true), (21, true), (22, true), (23, false), (24, true)] hmx (by kernel_rfl) (NoPanic.then (NoPanic.inBlock (NoPanic.then (NoPanic.then (NoPanic.inBlock (NoPanic.then (NoPanic.body))))))) (fun w h => h.drew) (fun w h => h) ?_
        refine T.pure 74 (.slice A ((a.take 120).length) c) (by kernel_rfl) (fun w => by kernel_rfl) ?_
        refine T.pure 75 (.int .i64 ((k : Int))) (by kernel_rfl) (fun w => by kernel_rfl) ?_
        obtain ⟨b37, o38, hA39, hr40⟩ := ((Rd.arr hr _).take _) k hl36
        refine T.index 76 27 26 22 A ((a.take 120).length) c ((k : Int)) (k) b37 o38 (by kernel_rfl) (by kernel_rfl) (by kernel_rfl) (by kernel_rfl) hA39 (rfl) (by omega) ?_
        refine T.pure 77 (.pointer (some ⟨b37, o38 + k * 22 + 6, none⟩)) (by kernel_rfl) (fun w => by kernel_rfl) ?_
        refine T.loadR true 78 ((((a.take 120)[k]'hl36)).par).cs 24 b37 (o38 + k * 22 + 6) (by kernel_rfl) (by kernel_rfl) (by kernel_rfl) (by kernel_rfl) (fun w h => range_of_range (hr40 w h) 6 ((((a.take 120)[k]'hl36)).par).cs (by kernel_rfl)) ?_
        refine T.loadR true 79 (p).cs 24 b1 0 (by kernel_rfl) (by kernel_rfl) (by kernel_rfl) (by kernel_rfl) (fun w h => St.rangeM h (p).cs (List.mem_append_right _ (.head _)) (by kernel_rfl)) ?_
        refine T.eqq 80 (((((a.take 120)[k]'hl36)).par) == p) (((((a.take 120)[k]'hl36)).par) == p) false 24 ((((a.take 120)[k]'hl36)).par).cs (p).cs (by kernel_rfl) (by kernel_rfl) (by kernel_rfl) (by kernel_rfl) (fun w => eq_nm w ((((a.take 120)[k]'hl36)).par) p) ?_
        refine T.pure 81 (.bool (((((a.take 120)[k]'hl36)).par) == p)) (by kernel_rfl) (fun w => by kernel_rfl) ?_
        refine T.blk [(8, true), (9, true), (10, true), (11, true), (12, true), (13, false), (14, true)] [(15, true), (16, true), (17, true), (18, true), (19, true), (20, true), (21, true), (22, true), (23, false), (24, true)] 7 true (((((a.take 120)[k]'hl36)).par) == p) 81 88 (.bool (!((accV m p (a.take 120)).any (fun x => x == ((a.take 120)[k]'hl36))))) (by kernel_rfl) (by kernel_rfl) (by kernel_rfl) (fun hg41 => ?_) ?_
        · have hg41_ := hg41
          refine T.pure 82 (.slice A4 ((accV m p (a.take 120)).length) c5) (by kernel_rfl) (fun w => by kernel_rfl) ?_
          refine T.pure 83 (.slice A ((a.take 120).length) c) (by kernel_rfl) (fun w => by kernel_rfl) ?_
          refine T.pure 84 (.int .i64 ((k : Int))) (by kernel_rfl) (fun w => by kernel_rfl) ?_
          obtain ⟨b42, o43, hA44, hr45⟩ := ((Rd.arr hr _).take _) k hl36
          refine T.index 85 27 26 22 A ((a.take 120).length) c ((k : Int)) (k) b42 o43 (by kernel_rfl) (by kernel_rfl) (by kernel_rfl) (by kernel_rfl) hA44 (rfl) (by omega) ?_
          refine T.loadR true 86 (((a.take 120)[k]'hl36)).cs 26 b42 (o43 + k * 22) (by kernel_rfl) (by kernel_rfl) (by kernel_rfl) (by kernel_rfl) hr45 ?_
          refine T.callP 87 35 #[.slice A4 ((accV m p (a.take 120)).length) c5, .agg (((a.take 120)[k]'hl36)).cs] (.bool ((accV m p (a.take 120)).any (fun x => x == ((a.take 120)[k]'hl36)))) (by kernel_rfl) (by kernel_rfl) ent35 (fun w hw => has12_c (accV m p (a.take 120)) ((a.take 120)[k]'hl36) A4 c5 w (by first | omega | (simp; done) | (simp; omega)) (Arr.rd (Arr.row hrow7 (rfl) (rfl) _) hw)) (fun w h => h) ?_
          refine T.pure 88 (.bool (!((accV m p (a.take 120)).any (fun x => x == ((a.take 120)[k]'hl36))))) (by kernel_rfl) (fun w => by kernel_rfl) ?_
          exact T.blkEnd (by kernel_rfl) (fun w h => h)
        refine T.and 89 (((((a.take 120)[k]'hl36)).par) == p) (!((accV m p (a.take 120)).any (fun x => x == ((a.take 120)[k]'hl36)))) (by kernel_rfl) (by kernel_rfl) ?_
        refine T.pure 90 (.bool ((((((a.take 120)[k]'hl36)).par) == p) && (!((accV m p (a.take 120)).any (fun x => x == ((a.take 120)[k]'hl36)))))) (by kernel_rfl) (fun w => by kernel_rfl) ?_
        refine T.blk [(17, true), (18, true), (19, true), (20, true), (21, true), (22, true), (23, false)] [(24, true)] 16 true ((((((a.take 120)[k]'hl36)).par) == p) && (!((accV m p (a.take 120)).any (fun x => x == ((a.take 120)[k]'hl36))))) 90 97 (.bool (allowB m ((a.take 120)[k]'hl36) (accV m p (a.take 120)))) (by kernel_rfl) (by kernel_rfl) (by kernel_rfl) (fun hg46 => ?_) ?_
        · have hg46_ := hg46
          have hg46l := (Bool.and_eq_true_iff.1 hg46).1
          have hg46r := (Bool.and_eq_true_iff.1 hg46).2
          have hg46rn := not_eq_true hg46r
          refine T.pure 91 (.int .i64 (m)) (by kernel_rfl) (fun w => by kernel_rfl) ?_
          refine T.pure 92 (.slice A ((a.take 120).length) c) (by kernel_rfl) (fun w => by kernel_rfl) ?_
          refine T.pure 93 (.int .i64 ((k : Int))) (by kernel_rfl) (fun w => by kernel_rfl) ?_
          obtain ⟨b47, o48, hA49, hr50⟩ := ((Rd.arr hr _).take _) k hl36
          refine T.index 94 27 26 22 A ((a.take 120).length) c ((k : Int)) (k) b47 o48 (by kernel_rfl) (by kernel_rfl) (by kernel_rfl) (by kernel_rfl) hA49 (rfl) (by omega) ?_
          refine T.loadR true 95 (((a.take 120)[k]'hl36)).cs 26 b47 (o48 + k * 22) (by kernel_rfl) (by kernel_rfl) (by kernel_rfl) (by kernel_rfl) hr50 ?_
          refine T.pure 96 (.slice A4 ((accV m p (a.take 120)).length) c5) (by kernel_rfl) (fun w => by kernel_rfl) ?_
          refine T.callP 97 17 #[.int .i64 (m), .agg (((a.take 120)[k]'hl36)).cs, .slice A4 ((accV m p (a.take 120)).length) c5] (.bool (allowB m ((a.take 120)[k]'hl36) (accV m p (a.take 120)))) (by kernel_rfl) (by kernel_rfl) ent17 (fun w hw => allowed_c _ (by first | assumption | exact w64_and _ _ | exact w64_or _ _ | exact w64_andNot _ _ | (unfold W64; omega)) _ (Vt.Ok.support (hok _ (by first | exact List.getElem_mem _ | exact List.mem_of_mem_take (List.getElem_mem _) | exact (accV_mem (List.getElem_mem _)).1 | exact List.mem_of_mem_take (accV_mem (List.getElem_mem _)).1))) _ _ _ (by first | omega | (simp; done) | (simp; omega)) w (Arr.rd (Arr.row hrow7 (rfl) (rfl) _) hw).v) (fun w h => h) ?_
          exact T.blkEnd (by kernel_rfl) (fun w h => h)
        refine T.and 98 ((((((a.take 120)[k]'hl36)).par) == p) && (!((accV m p (a.take 120)).any (fun x => x == ((a.take 120)[k]'hl36))))) (allowB m ((a.take 120)[k]'hl36) (accV m p (a.take 120))) (by kernel_rfl) (by kernel_rfl) ?_
        refine T.nil ?_
        refine QN.seq ?_
        refine W.cond (((((((a.take 120)[k]'hl36)).par) == p) && (!((accV m p (a.take 120)).any (fun x => x == ((a.take 120)[k]'hl36))))) && (allowB m ((a.take 120)[k]'hl36) (accV m p (a.take 120)))) (by kernel_rfl) (fun h51 => ?_) (fun h51 => ?_)
        · skip
          have h51l := (Bool.and_eq_true_iff.1 h51).1
          have h51r := (Bool.and_eq_true_iff.1 h51).2
          have h51ll := (Bool.and_eq_true_iff.1 h51l).1
          have h51lr := (Bool.and_eq_true_iff.1 h51l).2
          have h51lrn := not_eq_true h51lr
          refine W.seq ?_
          refine W.region [(0, false)] (by kernel_rfl) ?_
          refine T.pure 6 (.bool (false)) (by kernel_rfl) (fun w => by kernel_rfl) ?_
          refine T.nil ?_
          refine QN.seq ?_
          refine W.ret ?_
          refine QN.blkRet ?_
          refine QN.thenRet ?_
          refine QN.thenRet ?_
          refine QN.blkRet ?_
          refine QN.thenRet ?_
          refine QN.done (.inl rfl) 6 (.bool (false)) rfl (by kernel_rfl) (fun w hw => ⟨?_, hw.below⟩)
          exact (closed2 h51).elim
        · skip
          refine W.skip ?_
          refine QN.blkNormal ?_
          refine QN.seq ?_
          refine W.region [(0, false), (1, false), (2, false)] (by kernel_rfl) ?_
          refine T.pure 72 (.int .i64 ((k : Int))) (by kernel_rfl) (fun w => by kernel_rfl) ?_
          refine T.pureE 73 (.int .i64 (IntKind.i64.wrap ((k : Int) + 1))) (.int .i64 ((k : Int) + 1)) (by kernel_rfl) (fun w => by kernel_rfl) (wrap_int (by omega) (by omega)) ?_
          refine T.pure 9 (.int .i64 ((k : Int) + 1)) (by kernel_rfl) (fun w => by kernel_rfl) ?_
          refine T.nil ?_
          refine QN.back (k + 1) ?_ ?_ (by kernel_rfl) (fun w h => h)
          · show (k + 1) ≤ (a.take 120).length
            omega
          · show (a.take 120).length - (k + 1) < (a.take 120).length - k; omega
      · skip
        have h35' := of_decide_eq_false h35
        refine W.exit ?_
        refine QN.thenExit ?_
        refine QN.thenExit ?_
        refine QN.blkHit ?_
        refine QN.seq ?_
        refine W.seq ?_
        refine W.region [(0, false), (1, false), (2, false), (3, false), (4, false), (5, false), (6, false), (7, false), (8, false), (9, false)] (by kernel_rfl) ?_
        refine T.pure 99 (.int .i64 (m)) (by kernel_rfl) (fun w => by kernel_rfl) ?_
        refine T.loadR false 100 (p).cs 24 b1 0 (by kernel_rfl) (by kernel_rfl) (by kernel_rfl) (by kernel_rfl) (fun w h => St.rangeM h (p).cs (List.mem_append_right _ (.head _)) (by kernel_rfl)) ?_
        refine T.pure 101 (.slice A4 ((accV m p (a.take 120)).length) c5) (by kernel_rfl) (fun w => by kernel_rfl) ?_
        refine T.callR 102 34 #[.int .i64 (m), .agg (p).cs, .slice A4 ((accV m p (a.take 120)).length) c5] 26 22 (accV m p (accV m p (a.take 120))).length (cells (accV m p (accV m p (a.take 120)))) (by kernel_rfl) (by kernel_rfl) ent34 (fun w hw => accepted_c m p (accV m p (a.take 120)) A4 c5 w (by first | assumption | exact w64_and _ _ | exact w64_or _ _ | exact w64_andNot _ _ | (unfold W64; omega)) (fun u hu => (hok u (List.mem_of_mem_take (accV_mem hu).1)).support) (by first | omega | (simp; done) | (simp; omega)) (Arr.rd (Arr.row hrow7 (rfl) (rfl) _) hw)) (fun _ _ _ => trivial) (fun A52 c53 Hr54 hrow55 => ?_)
        refine T.pure 103 (.slice A4 ((accV m p (a.take 120)).length) c5) (by kernel_rfl) (fun w => by kernel_rfl) ?_
        refine T.callP 104 37 #[.slice A52 ((accV m p (accV m p (a.take 120))).length) c53, .slice A4 ((accV m p (a.take 120)).length) c5] (.bool ((accV m p (accV m p (a.take 120))) == (accV m p (a.take 120)))) (by kernel_rfl) (by kernel_rfl) ent37 (fun w hw => same12_c (accV m p (accV m p (a.take 120))) (accV m p (a.take 120)) A52 c53 A4 c5 w (by first | omega | (simp; done) | (simp; omega)) (by first | omega | (simp; done) | (simp; omega)) (Arr.rd (Arr.row hrow55 (rfl) (rfl) _) hw) (Arr.rd ((show Arr (St _ (Hr54 ++ (Hr6 ++ [(b1, .cells (p).cs 24 (0, 0))]))) A4 (accV m p (a.take 120)) from (Arr.row hrow7 (rfl) (rfl) (Hr54 ++ [(b1, .cells (p).cs 24 (0, 0))])).weak (fun w h => h.perm (((List.Perm.refl _).append_left Hr54).trans (List.perm_append_comm_assoc _ _ _))))) hw)) (fun _ _ => trivial) ?_
        refine T.pure 105 (.bool ((accV m p (accV m p (a.take 120))) == (accV m p (a.take 120)))) (by kernel_rfl) (fun w => by kernel_rfl) ?_
        refine T.blk [(7, false)] [(8, false), (9, false)] 6 true ((accV m p (accV m p (a.take 120))) == (accV m p (a.take 120))) 105 106 (.bool (true)) (by kernel_rfl) (by kernel_rfl) (by kernel_rfl) (fun hg56 => ?_) ?_
        · have hg56_ := hg56
          refine T.callP 106 38 #[] (.bool (true)) (by kernel_rfl) (by kernel_rfl) ent38 (fun w hw => awake_c w) (fun _ _ => trivial) ?_
          exact T.blkEnd (by kernel_rfl) (fun w h => h)
        refine T.and 107 ((accV m p (accV m p (a.take 120))) == (accV m p (a.take 120))) (true) (by kernel_rfl) (by kernel_rfl) ?_
        refine T.pure 6 (.bool (((accV m p (accV m p (a.take 120))) == (accV m p (a.take 120))) && true)) (by kernel_rfl) (fun w => by kernel_rfl) ?_
        refine T.nil ?_
        refine QN.seq ?_
        refine W.ret ?_
        refine QN.done (.inl rfl) 6 (.bool (((accV m p (accV m p (a.take 120))) == (accV m p (a.take 120))) && true)) rfl (by kernel_rfl) (fun w hw => ⟨?_, hw.below⟩)
        exact ret_bool closed3
  · skip
    have h2' := of_decide_eq_false h2
    refine W.skip ?_
    refine QN.seq ?_
    refine W.seq ?_
    refine W.region [(0, false), (1, false), (2, false), (3, false), (4, false)] (by kernel_rfl) ?_
    refine T.pure 15 (.int .i64 (m)) (by kernel_rfl) (fun w => by kernel_rfl) ?_
    refine T.loadR false 16 (p).cs 24 b1 0 (by kernel_rfl) (by kernel_rfl) (by kernel_rfl) (by kernel_rfl) (fun w h => St.rangeM h (p).cs (.head _) (by kernel_rfl)) ?_
    refine T.pure 17 (.slice A (a.length) c) (by kernel_rfl) (fun w => by kernel_rfl) ?_
    refine T.callR 18 34 #[.int .i64 (m), .agg (p).cs, .slice A (a.length) c] 26 22 (accV m p a).length (cells (accV m p a)) (by kernel_rfl) (by kernel_rfl) ent34 (fun w hw => accepted_c m p a A c w (by first | assumption | exact w64_and _ _ | exact w64_or _ _ | exact w64_andNot _ _ | (unfold W64; omega)) (fun u hu => (hok u (hu)).support) (by first | omega | (simp; done) | (simp; omega)) (Arr.rd (Rd.arr hr _) hw)) (fun _ _ _ => trivial) (fun A57 c58 Hr59 hrow60 => ?_)
    refine T.pure 7 (.slice A57 ((accV m p a).length) c58) (by kernel_rfl) (fun w => by kernel_rfl) ?_
    refine T.nil ?_
    refine QN.seq ?_
    refine W.seq ?_
    refine W.seq ?_
    refine W.region [(0, false)] (by kernel_rfl) ?_
    refine T.pure 8 (.int .i64 (0)) (by kernel_rfl) (fun w => by kernel_rfl) ?_
    refine T.nil ?_
    refine QN.seq ?_
    refine W.block ?_
    have hRl := accV_len m p a
    have hRl2 := accV_len m p (accV m p a)
    refine W.loop (σ := Nat) (fun gs => gs ≤ (accV m p a).length) (fun gs => [(0, .int .i64 (m)), (2, .slice A (a.length) c), (4, .pointer (some ⟨b1, 0, none⟩)), (7, .slice A57 ((accV m p a).length) c58), (8, .int .i64 ((gs : Int)))]) (fun gs => St w (Hr59 ++ [(b1, .cells (p).cs 24 (0, 0))])) (fun gs => (accV m p a).length - gs) (0) ?_ (by kernel_rfl) (fun w h => h) ?_
    · show 0 ≤ (accV m p a).length
      exact Nat.zero_le _
    rintro j hI_
    obtain hj : j ≤ (accV m p a).length := hI_
    show W _ _ [(0, .int .i64 (m)), (2, .slice A (a.length) c), (4, .pointer (some ⟨b1, 0, none⟩)), (7, .slice A57 ((accV m p a).length) c58), (8, .int .i64 ((j : Int)))] (St w (Hr59 ++ [(b1, .cells (p).cs 24 (0, 0))])) _ _
    refine W.seq ?_
    refine W.seq ?_
    refine W.region [(0, false), (1, false), (2, false), (3, false)] (by kernel_rfl) ?_
    refine T.pure 19 (.int .i64 ((j : Int))) (by kernel_rfl) (fun w => by kernel_rfl) ?_
    refine T.pure 20 (.slice A57 ((accV m p a).length) c58) (by kernel_rfl) (fun w => by kernel_rfl) ?_
    refine T.pure 21 (.int .i64 ((((accV m p a).length : Nat) : Int))) (by kernel_rfl) (fun w => by kernel_rfl) ?_
    refine T.pure 22 (.bool (decide ((j : Int) < (((accV m p a).length : Nat) : Int)))) (by kernel_rfl) (fun w => by kernel_rfl) ?_
    refine T.nil ?_
    refine QN.seq ?_
    refine W.cond (decide ((j : Int) < (((accV m p a).length : Nat) : Int))) (by kernel_rfl) (fun h61 => ?_) (fun h61 => ?_)
    · skip
      have h61' := of_decide_eq_true h61
      have hl62 : j < (accV m p a).length := by omega
      refine W.skip ?_
      refine QN.seq ?_
      refine W.seq ?_
      refine W.block ?_
      refine W.seq ?_
      refine W.drawn (Ψ := St w (Hr59 ++ [(b1, .cells (p).cs 24 (0, 0))])) (St w (Hr59 ++ [(b1, .cells (p).cs 24 (0, 0))])) [(0, true), (1, true), (2, true), (3, true), (4, true), (5, true), (6, true), (7, true), (8, true), (9, true), (10, true), (11, true), (12, true), (13, false), (14, true), (15, true), (16, true), (17, true), (18, true), (19, true), (20, true), (21, true), (22, true), (23, false), (24, true), (25, true), (26, true), (27, true), (28, true), (29, true), (30, true), (31, true), (32, true), (33, true), (34, true), (35, true), (36, true), (37, true), (38, true), (39, false), (40, true), (41, true), (42, true)] hmx (by kernel_rfl) (NoPanic.then (NoPanic.inBlock (NoPanic.then (NoPanic.then (NoPanic.inBlock (NoPanic.then (NoPanic.body))))))) (fun w h => h.drew) (fun w h => h) ?_
      have hlp : j - 1 < (accV m p a).length := by omega
      refine T.pure 25 (.slice A57 ((accV m p a).length) c58) (by kernel_rfl) (fun w => by kernel_rfl) ?_
      refine T.pure 26 (.int .i64 ((j : Int))) (by kernel_rfl) (fun w => by kernel_rfl) ?_
      obtain ⟨b63, o64, hA65, hr66⟩ := (Arr.row hrow60 (rfl) (rfl) _) j hl62
      refine T.index 27 27 26 22 A57 ((accV m p a).length) c58 ((j : Int)) (j) b63 o64 (by kernel_rfl) (by kernel_rfl) (by kernel_rfl) (by kernel_rfl) hA65 (rfl) (by omega) ?_
      refine T.pure 28 (.pointer (some ⟨b63, o64 + j * 22 + 6, none⟩)) (by kernel_rfl) (fun w => by kernel_rfl) ?_
      refine T.loadR true 29 ((((accV m p a)[j]'hl62)).par).cs 24 b63 (o64 + j * 22 + 6) (by kernel_rfl) (by kernel_rfl) (by kernel_rfl) (by kernel_rfl) (fun w h => range_of_range (hr66 w h) 6 ((((accV m p a)[j]'hl62)).par).cs (by kernel_rfl)) ?_
      refine T.loadR true 30 (p).cs 24 b1 0 (by kernel_rfl) (by kernel_rfl) (by kernel_rfl) (by kernel_rfl) (fun w h => St.rangeM h (p).cs (List.mem_append_right _ (.head _)) (by kernel_rfl)) ?_
      refine T.eqq 31 (((((accV m p a)[j]'hl62)).par) != p) (((((accV m p a)[j]'hl62)).par) == p) true 24 ((((accV m p a)[j]'hl62)).par).cs (p).cs (by kernel_rfl) (by kernel_rfl) (by kernel_rfl) (by kernel_rfl) (fun w => eq_nm w ((((accV m p a)[j]'hl62)).par) p) ?_
      refine T.pure 32 (.bool (((((accV m p a)[j]'hl62)).par) != p)) (by kernel_rfl) (fun w => by kernel_rfl) ?_
      refine T.blk [(8, true), (9, true), (10, true), (11, true), (12, true), (13, false), (14, true)] [(15, true), (16, true), (17, true), (18, true), (19, true), (20, true), (21, true), (22, true), (23, false), (24, true), (25, true), (26, true), (27, true), (28, true), (29, true), (30, true), (31, true), (32, true), (33, true), (34, true), (35, true), (36, true), (37, true), (38, true), (39, false), (40, true), (41, true), (42, true)] 7 false (((((accV m p a)[j]'hl62)).par) != p) 32 39 (.bool (!(a.any (fun x => x == ((accV m p a)[j]'hl62))))) (by kernel_rfl) (by kernel_rfl) (by kernel_rfl) (fun hg67 => ?_) ?_
      · have hg67_ := hg67
        refine T.pure 33 (.slice A (a.length) c) (by kernel_rfl) (fun w => by kernel_rfl) ?_
        refine T.pure 34 (.slice A57 ((accV m p a).length) c58) (by kernel_rfl) (fun w => by kernel_rfl) ?_
        refine T.pure 35 (.int .i64 ((j : Int))) (by kernel_rfl) (fun w => by kernel_rfl) ?_
        obtain ⟨b68, o69, hA70, hr71⟩ := (Arr.row hrow60 (rfl) (rfl) _) j hl62
        refine T.index 36 27 26 22 A57 ((accV m p a).length) c58 ((j : Int)) (j) b68 o69 (by kernel_rfl) (by kernel_rfl) (by kernel_rfl) (by kernel_rfl) hA70 (rfl) (by omega) ?_
        refine T.loadR true 37 (((accV m p a)[j]'hl62)).cs 26 b68 (o69 + j * 22) (by kernel_rfl) (by kernel_rfl) (by kernel_rfl) (by kernel_rfl) hr71 ?_
        refine T.callP 38 35 #[.slice A (a.length) c, .agg (((accV m p a)[j]'hl62)).cs] (.bool (a.any (fun x => x == ((accV m p a)[j]'hl62)))) (by kernel_rfl) (by kernel_rfl) ent35 (fun w hw => has12_c a ((accV m p a)[j]'hl62) A c w (by first | omega | (simp; done) | (simp; omega)) (Arr.rd (Rd.arr hr _) hw)) (fun w h => h) ?_
        refine T.pure 39 (.bool (!(a.any (fun x => x == ((accV m p a)[j]'hl62))))) (by kernel_rfl) (fun w => by kernel_rfl) ?_
        exact T.blkEnd (by kernel_rfl) (fun w h => h)
      refine T.or 40 (((((accV m p a)[j]'hl62)).par) != p) (!(a.any (fun x => x == ((accV m p a)[j]'hl62)))) (by kernel_rfl) (by kernel_rfl) ?_
      refine T.pure 41 (.bool ((((((accV m p a)[j]'hl62)).par) != p) || (!(a.any (fun x => x == ((accV m p a)[j]'hl62)))))) (by kernel_rfl) (fun w => by kernel_rfl) ?_
      refine T.blk [(17, true), (18, true), (19, true), (20, true), (21, true), (22, true), (23, false), (24, true)] [(25, true), (26, true), (27, true), (28, true), (29, true), (30, true), (31, true), (32, true), (33, true), (34, true), (35, true), (36, true), (37, true), (38, true), (39, false), (40, true), (41, true), (42, true)] 16 false ((((((accV m p a)[j]'hl62)).par) != p) || (!(a.any (fun x => x == ((accV m p a)[j]'hl62))))) 41 49 (.bool (!(allowB m ((accV m p a)[j]'hl62) (accV m p a)))) (by kernel_rfl) (by kernel_rfl) (by kernel_rfl) (fun hg72 => ?_) ?_
      · have hg72_ := hg72
        have hg72l := (Bool.or_eq_false_iff.1 hg72).1
        have hg72r := (Bool.or_eq_false_iff.1 hg72).2
        have hg72rn := not_eq_false hg72r
        refine T.pure 42 (.int .i64 (m)) (by kernel_rfl) (fun w => by kernel_rfl) ?_
        refine T.pure 43 (.slice A57 ((accV m p a).length) c58) (by kernel_rfl) (fun w => by kernel_rfl) ?_
        refine T.pure 44 (.int .i64 ((j : Int))) (by kernel_rfl) (fun w => by kernel_rfl) ?_
        obtain ⟨b73, o74, hA75, hr76⟩ := (Arr.row hrow60 (rfl) (rfl) _) j hl62
        refine T.index 45 27 26 22 A57 ((accV m p a).length) c58 ((j : Int)) (j) b73 o74 (by kernel_rfl) (by kernel_rfl) (by kernel_rfl) (by kernel_rfl) hA75 (rfl) (by omega) ?_
        refine T.loadR true 46 (((accV m p a)[j]'hl62)).cs 26 b73 (o74 + j * 22) (by kernel_rfl) (by kernel_rfl) (by kernel_rfl) (by kernel_rfl) hr76 ?_
        refine T.pure 47 (.slice A57 ((accV m p a).length) c58) (by kernel_rfl) (fun w => by kernel_rfl) ?_
        refine T.callP 48 17 #[.int .i64 (m), .agg (((accV m p a)[j]'hl62)).cs, .slice A57 ((accV m p a).length) c58] (.bool (allowB m ((accV m p a)[j]'hl62) (accV m p a))) (by kernel_rfl) (by kernel_rfl) ent17 (fun w hw => allowed_c _ (by first | assumption | exact w64_and _ _ | exact w64_or _ _ | exact w64_andNot _ _ | (unfold W64; omega)) _ (Vt.Ok.support (hok _ (by first | exact List.getElem_mem _ | exact List.mem_of_mem_take (List.getElem_mem _) | exact (accV_mem (List.getElem_mem _)).1 | exact List.mem_of_mem_take (accV_mem (List.getElem_mem _)).1))) _ _ _ (by first | omega | (simp; done) | (simp; omega)) w (Arr.rd (Arr.row hrow60 (rfl) (rfl) _) hw).v) (fun w h => h) ?_
        refine T.pure 49 (.bool (!(allowB m ((accV m p a)[j]'hl62) (accV m p a)))) (by kernel_rfl) (fun w => by kernel_rfl) ?_
        exact T.blkEnd (by kernel_rfl) (fun w h => h)
      refine T.or 50 ((((((accV m p a)[j]'hl62)).par) != p) || (!(a.any (fun x => x == ((accV m p a)[j]'hl62))))) (!(allowB m ((accV m p a)[j]'hl62) (accV m p a))) (by kernel_rfl) (by kernel_rfl) ?_
      refine T.pure 51 (.bool (((((((accV m p a)[j]'hl62)).par) != p) || (!(a.any (fun x => x == ((accV m p a)[j]'hl62))))) || (!(allowB m ((accV m p a)[j]'hl62) (accV m p a))))) (by kernel_rfl) (fun w => by kernel_rfl) ?_
      refine T.blk [(27, true), (28, true), (29, true), (30, true), (31, true), (32, true), (33, true), (34, true), (35, true), (36, true), (37, true), (38, true), (39, false), (40, true), (41, true)] [(42, true)] 26 false (((((((accV m p a)[j]'hl62)).par) != p) || (!(a.any (fun x => x == ((accV m p a)[j]'hl62))))) || (!(allowB m ((accV m p a)[j]'hl62) (accV m p a)))) 51 66 (.bool ((decide (0 < (j : Int))) && (!(vless ((accV m p a)[(j - 1)]'hlp) ((accV m p a)[j]'hl62))))) (by kernel_rfl) (by kernel_rfl) (by kernel_rfl) (fun hg77 => ?_) ?_
      · have hg77_ := hg77
        have hg77l := (Bool.or_eq_false_iff.1 hg77).1
        have hg77r := (Bool.or_eq_false_iff.1 hg77).2
        have hg77ll := (Bool.or_eq_false_iff.1 hg77l).1
        have hg77lr := (Bool.or_eq_false_iff.1 hg77l).2
        have hg77lrn := not_eq_false hg77lr
        have hg77rn := not_eq_false hg77r
        refine T.pure 52 (.int .i64 ((j : Int))) (by kernel_rfl) (fun w => by kernel_rfl) ?_
        refine T.pure 53 (.bool (decide (0 < (j : Int)))) (by kernel_rfl) (fun w => by kernel_rfl) ?_
        refine T.pure 54 (.bool (decide (0 < (j : Int)))) (by kernel_rfl) (fun w => by kernel_rfl) ?_
        refine T.blk [(30, true), (31, true), (32, true), (33, true), (34, true), (35, true), (36, true), (37, true), (38, true), (39, false), (40, true)] [(41, true)] 29 true (decide (0 < (j : Int))) 54 65 (.bool (!(vless ((accV m p a)[(j - 1)]'hlp) ((accV m p a)[j]'hl62)))) (by kernel_rfl) (by kernel_rfl) (by kernel_rfl) (fun hg78 => ?_) ?_
        · have hg78_ := hg78
          have hg78' := of_decide_eq_true hg78
          refine T.pure 55 (.slice A57 ((accV m p a).length) c58) (by kernel_rfl) (fun w => by kernel_rfl) ?_
          refine T.pure 56 (.int .i64 ((j : Int))) (by kernel_rfl) (fun w => by kernel_rfl) ?_
          refine T.pureE 57 (.int .i64 (IntKind.i64.wrap ((j : Int) - 1))) (.int .i64 ((j : Int) - 1)) (by kernel_rfl) (fun w => by kernel_rfl) (wrap_int (by omega) (by omega)) ?_
          obtain ⟨b79, o80, hA81, hr82⟩ := (Arr.row hrow60 (rfl) (rfl) _) (j - 1) hlp
          refine T.index 58 27 26 22 A57 ((accV m p a).length) c58 ((j : Int) - 1) ((j - 1)) b79 o80 (by kernel_rfl) (by kernel_rfl) (by kernel_rfl) (by kernel_rfl) hA81 (by omega) (by omega) ?_
          refine T.loadR true 59 (((accV m p a)[(j - 1)]'hlp)).cs 26 b79 (o80 + (j - 1) * 22) (by kernel_rfl) (by kernel_rfl) (by kernel_rfl) (by kernel_rfl) hr82 ?_
          refine T.pure 60 (.slice A57 ((accV m p a).length) c58) (by kernel_rfl) (fun w => by kernel_rfl) ?_
          refine T.pure 61 (.int .i64 ((j : Int))) (by kernel_rfl) (fun w => by kernel_rfl) ?_
          obtain ⟨b83, o84, hA85, hr86⟩ := (Arr.row hrow60 (rfl) (rfl) _) j hl62
          refine T.index 62 27 26 22 A57 ((accV m p a).length) c58 ((j : Int)) (j) b83 o84 (by kernel_rfl) (by kernel_rfl) (by kernel_rfl) (by kernel_rfl) hA85 (rfl) (by omega) ?_
          refine T.loadR true 63 (((accV m p a)[j]'hl62)).cs 26 b83 (o84 + j * 22) (by kernel_rfl) (by kernel_rfl) (by kernel_rfl) (by kernel_rfl) hr86 ?_
          refine T.callP 64 36 #[.agg (((accV m p a)[(j - 1)]'hlp)).cs, .agg (((accV m p a)[j]'hl62)).cs] (.bool (vless ((accV m p a)[(j - 1)]'hlp) ((accV m p a)[j]'hl62))) (by kernel_rfl) (by kernel_rfl) ent36 (fun w hw => vless_c ((accV m p a)[(j - 1)]'hlp) ((accV m p a)[j]'hl62) w) (fun w h => h) ?_
          refine T.pure 65 (.bool (!(vless ((accV m p a)[(j - 1)]'hlp) ((accV m p a)[j]'hl62)))) (by kernel_rfl) (fun w => by kernel_rfl) ?_
          exact T.blkEnd (by kernel_rfl) (fun w h => h)
        refine T.and 66 (decide (0 < (j : Int))) (!(vless ((accV m p a)[(j - 1)]'hlp) ((accV m p a)[j]'hl62))) (by kernel_rfl) (by kernel_rfl) ?_
        exact T.blkEnd (by kernel_rfl) (fun w h => h)
      refine T.or 67 (((((((accV m p a)[j]'hl62)).par) != p) || (!(a.any (fun x => x == ((accV m p a)[j]'hl62))))) || (!(allowB m ((accV m p a)[j]'hl62) (accV m p a)))) ((decide (0 < (j : Int))) && (!(vless ((accV m p a)[(j - 1)]'hlp) ((accV m p a)[j]'hl62)))) (by kernel_rfl) (by kernel_rfl) ?_
      refine T.nil ?_
      refine QN.seq ?_
      refine W.cond ((((((((accV m p a)[j]'hl62)).par) != p) || (!(a.any (fun x => x == ((accV m p a)[j]'hl62))))) || (!(allowB m ((accV m p a)[j]'hl62) (accV m p a)))) || ((decide (0 < (j : Int))) && (!(vless ((accV m p a)[(j - 1)]'hlp) ((accV m p a)[j]'hl62))))) (by kernel_rfl) (fun h87 => ?_) (fun h87 => ?_)
      · skip
        refine W.seq ?_
        refine W.region [(0, false)] (by kernel_rfl) ?_
        refine T.pure 6 (.bool (false)) (by kernel_rfl) (fun w => by kernel_rfl) ?_
        refine T.nil ?_
        refine QN.seq ?_
        refine W.ret ?_
        refine QN.blkRet ?_
        refine QN.thenRet ?_
        refine QN.thenRet ?_
        refine QN.blkRet ?_
        refine QN.thenRet ?_
        refine QN.done (.inl rfl) 6 (.bool (false)) rfl (by kernel_rfl) (fun w hw => ⟨?_, hw.below⟩)
        exact (closed1 h87).elim
      · skip
        have h87l := (Bool.or_eq_false_iff.1 h87).1
        have h87r := (Bool.or_eq_false_iff.1 h87).2
        have h87ll := (Bool.or_eq_false_iff.1 h87l).1
        have h87lr := (Bool.or_eq_false_iff.1 h87l).2
        have h87lll := (Bool.or_eq_false_iff.1 h87ll).1
        have h87llr := (Bool.or_eq_false_iff.1 h87ll).2
        have h87llrn := not_eq_false h87llr
        have h87lrn := not_eq_false h87lr
        refine W.skip ?_
        refine QN.blkNormal ?_
        refine QN.seq ?_
        refine W.region [(0, false), (1, false), (2, false)] (by kernel_rfl) ?_
        refine T.pure 23 (.int .i64 ((j : Int))) (by kernel_rfl) (fun w => by kernel_rfl) ?_
        refine T.pureE 24 (.int .i64 (IntKind.i64.wrap ((j : Int) + 1))) (.int .i64 ((j : Int) + 1)) (by kernel_rfl) (fun w => by kernel_rfl) (wrap_int (by omega) (by omega)) ?_
        refine T.pure 8 (.int .i64 ((j : Int) + 1)) (by kernel_rfl) (fun w => by kernel_rfl) ?_
        refine T.nil ?_
        refine QN.back (j + 1) ?_ ?_ (by kernel_rfl) (fun w h => h)
        · show (j + 1) ≤ (accV m p a).length
          omega
        · show (accV m p a).length - (j + 1) < (accV m p a).length - j; omega
    · skip
      have h61' := of_decide_eq_false h61
      refine W.exit ?_
      refine QN.thenExit ?_
      refine QN.thenExit ?_
      refine QN.blkHit ?_
      refine QN.seq ?_
      refine W.seq ?_
      refine W.seq ?_
      refine W.region [(0, false)] (by kernel_rfl) ?_
      refine T.pure 9 (.int .i64 (0)) (by kernel_rfl) (fun w => by kernel_rfl) ?_
      refine T.nil ?_
      refine QN.seq ?_
      refine W.block ?_
      refine W.loop (σ := Nat) (fun gs => gs ≤ (a).length) (fun gs => [(0, .int .i64 (m)), (2, .slice A (a.length) c), (4, .pointer (some ⟨b1, 0, none⟩)), (7, .slice A57 ((accV m p a).length) c58), (9, .int .i64 ((gs : Int)))]) (fun gs => St w (Hr59 ++ [(b1, .cells (p).cs 24 (0, 0))])) (fun gs => (a).length - gs) (0) ?_ (by kernel_rfl) (fun w h => h) ?_
      · show 0 ≤ (a).length
        exact Nat.zero_le _
      rintro k hI_
      obtain hk : k ≤ (a).length := hI_
      show W _ _ [(0, .int .i64 (m)), (2, .slice A (a.length) c), (4, .pointer (some ⟨b1, 0, none⟩)), (7, .slice A57 ((accV m p a).length) c58), (9, .int .i64 ((k : Int)))] (St w (Hr59 ++ [(b1, .cells (p).cs 24 (0, 0))])) _ _
      refine W.seq ?_
      refine W.seq ?_
      refine W.region [(0, false), (1, false), (2, false), (3, false)] (by kernel_rfl) ?_
      refine T.pure 68 (.int .i64 ((k : Int))) (by kernel_rfl) (fun w => by kernel_rfl) ?_
      refine T.pure 69 (.slice A (a.length) c) (by kernel_rfl) (fun w => by kernel_rfl) ?_
      refine T.pure 70 (.int .i64 (((a.length : Nat) : Int))) (by kernel_rfl) (fun w => by kernel_rfl) ?_
      refine T.pure 71 (.bool (decide ((k : Int) < ((a.length : Nat) : Int)))) (by kernel_rfl) (fun w => by kernel_rfl) ?_
      refine T.nil ?_
      refine QN.seq ?_
      refine W.cond (decide ((k : Int) < ((a.length : Nat) : Int))) (by kernel_rfl) (fun h88 => ?_) (fun h88 => ?_)
      · skip
        have h88' := of_decide_eq_true h88
        have hl89 : k < (a).length := by omega
        refine W.skip ?_
        refine QN.seq ?_
        refine W.seq ?_
        refine W.block ?_
        refine W.seq ?_
        refine W.drawn (Ψ := St w (Hr59 ++ [(b1, .cells (p).cs 24 (0, 0))])) (St w (Hr59 ++ [(b1, .cells (p).cs 24 (0, 0))])) [(0, true), (1, true), (2, true), (3, true), (4, true), (5, true), (6, true), (7, true), (8, true), (9, true), (10, true), (11, true), (12, true), (13, false), (14, true), (15, true), (16, true), (17, true), (18, true), (19, true), (20, true), (21, true), (22, true), (23, false), (24, true)] hmx (by kernel_rfl) (NoPanic.then (NoPanic.inBlock (NoPanic.then (NoPanic.then (NoPanic.inBlock (NoPanic.then (NoPanic.body))))))) (fun w h => h.drew) (fun w h => h) ?_
        refine T.pure 74 (.slice A (a.length) c) (by kernel_rfl) (fun w => by kernel_rfl) ?_
        refine T.pure 75 (.int .i64 ((k : Int))) (by kernel_rfl) (fun w => by kernel_rfl) ?_
        obtain ⟨b90, o91, hA92, hr93⟩ := (Rd.arr hr _) k hl89
        refine T.index 76 27 26 22 A (a.length) c ((k : Int)) (k) b90 o91 (by kernel_rfl) (by kernel_rfl) (by kernel_rfl) (by kernel_rfl) hA92 (rfl) (by omega) ?_
        refine T.pure 77 (.pointer (some ⟨b90, o91 + k * 22 + 6, none⟩)) (by kernel_rfl) (fun w => by kernel_rfl) ?_
        refine T.loadR true 78 (((a[k]'hl89)).par).cs 24 b90 (o91 + k * 22 + 6) (by kernel_rfl) (by kernel_rfl) (by kernel_rfl) (by kernel_rfl) (fun w h => range_of_range (hr93 w h) 6 (((a[k]'hl89)).par).cs (by kernel_rfl)) ?_
        refine T.loadR true 79 (p).cs 24 b1 0 (by kernel_rfl) (by kernel_rfl) (by kernel_rfl) (by kernel_rfl) (fun w h => St.rangeM h (p).cs (List.mem_append_right _ (.head _)) (by kernel_rfl)) ?_
        refine T.eqq 80 ((((a[k]'hl89)).par) == p) ((((a[k]'hl89)).par) == p) false 24 (((a[k]'hl89)).par).cs (p).cs (by kernel_rfl) (by kernel_rfl) (by kernel_rfl) (by kernel_rfl) (fun w => eq_nm w (((a[k]'hl89)).par) p) ?_
        refine T.pure 81 (.bool ((((a[k]'hl89)).par) == p)) (by kernel_rfl) (fun w => by kernel_rfl) ?_
        refine T.blk [(8, true), (9, true), (10, true), (11, true), (12, true), (13, false), (14, true)] [(15, true), (16, true), (17, true), (18, true), (19, true), (20, true), (21, true), (22, true), (23, false), (24, true)] 7 true ((((a[k]'hl89)).par) == p) 81 88 (.bool (!((accV m p a).any (fun x => x == (a[k]'hl89))))) (by kernel_rfl) (by kernel_rfl) (by kernel_rfl) (fun hg94 => ?_) ?_
        · have hg94_ := hg94
          refine T.pure 82 (.slice A57 ((accV m p a).length) c58) (by kernel_rfl) (fun w => by kernel_rfl) ?_
          refine T.pure 83 (.slice A (a.length) c) (by kernel_rfl) (fun w => by kernel_rfl) ?_
          refine T.pure 84 (.int .i64 ((k : Int))) (by kernel_rfl) (fun w => by kernel_rfl) ?_
          obtain ⟨b95, o96, hA97, hr98⟩ := (Rd.arr hr _) k hl89
          refine T.index 85 27 26 22 A (a.length) c ((k : Int)) (k) b95 o96 (by kernel_rfl) (by kernel_rfl) (by kernel_rfl) (by kernel_rfl) hA97 (rfl) (by omega) ?_
          refine T.loadR true 86 ((a[k]'hl89)).cs 26 b95 (o96 + k * 22) (by kernel_rfl) (by kernel_rfl) (by kernel_rfl) (by kernel_rfl) hr98 ?_
          refine T.callP 87 35 #[.slice A57 ((accV m p a).length) c58, .agg ((a[k]'hl89)).cs] (.bool ((accV m p a).any (fun x => x == (a[k]'hl89)))) (by kernel_rfl) (by kernel_rfl) ent35 (fun w hw => has12_c (accV m p a) (a[k]'hl89) A57 c58 w (by first | omega | (simp; done) | (simp; omega)) (Arr.rd (Arr.row hrow60 (rfl) (rfl) _) hw)) (fun w h => h) ?_
          refine T.pure 88 (.bool (!((accV m p a).any (fun x => x == (a[k]'hl89))))) (by kernel_rfl) (fun w => by kernel_rfl) ?_
          exact T.blkEnd (by kernel_rfl) (fun w h => h)
        refine T.and 89 ((((a[k]'hl89)).par) == p) (!((accV m p a).any (fun x => x == (a[k]'hl89)))) (by kernel_rfl) (by kernel_rfl) ?_
        refine T.pure 90 (.bool (((((a[k]'hl89)).par) == p) && (!((accV m p a).any (fun x => x == (a[k]'hl89)))))) (by kernel_rfl) (fun w => by kernel_rfl) ?_
        refine T.blk [(17, true), (18, true), (19, true), (20, true), (21, true), (22, true), (23, false)] [(24, true)] 16 true (((((a[k]'hl89)).par) == p) && (!((accV m p a).any (fun x => x == (a[k]'hl89))))) 90 97 (.bool (allowB m (a[k]'hl89) (accV m p a))) (by kernel_rfl) (by kernel_rfl) (by kernel_rfl) (fun hg99 => ?_) ?_
        · have hg99_ := hg99
          have hg99l := (Bool.and_eq_true_iff.1 hg99).1
          have hg99r := (Bool.and_eq_true_iff.1 hg99).2
          have hg99rn := not_eq_true hg99r
          refine T.pure 91 (.int .i64 (m)) (by kernel_rfl) (fun w => by kernel_rfl) ?_
          refine T.pure 92 (.slice A (a.length) c) (by kernel_rfl) (fun w => by kernel_rfl) ?_
          refine T.pure 93 (.int .i64 ((k : Int))) (by kernel_rfl) (fun w => by kernel_rfl) ?_
          obtain ⟨b100, o101, hA102, hr103⟩ := (Rd.arr hr _) k hl89
          refine T.index 94 27 26 22 A (a.length) c ((k : Int)) (k) b100 o101 (by kernel_rfl) (by kernel_rfl) (by kernel_rfl) (by kernel_rfl) hA102 (rfl) (by omega) ?_
          refine T.loadR true 95 ((a[k]'hl89)).cs 26 b100 (o101 + k * 22) (by kernel_rfl) (by kernel_rfl) (by kernel_rfl) (by kernel_rfl) hr103 ?_
          refine T.pure 96 (.slice A57 ((accV m p a).length) c58) (by kernel_rfl) (fun w => by kernel_rfl) ?_
          refine T.callP 97 17 #[.int .i64 (m), .agg ((a[k]'hl89)).cs, .slice A57 ((accV m p a).length) c58] (.bool (allowB m (a[k]'hl89) (accV m p a))) (by kernel_rfl) (by kernel_rfl) ent17 (fun w hw => allowed_c _ (by first | assumption | exact w64_and _ _ | exact w64_or _ _ | exact w64_andNot _ _ | (unfold W64; omega)) _ (Vt.Ok.support (hok _ (by first | exact List.getElem_mem _ | exact List.mem_of_mem_take (List.getElem_mem _) | exact (accV_mem (List.getElem_mem _)).1 | exact List.mem_of_mem_take (accV_mem (List.getElem_mem _)).1))) _ _ _ (by first | omega | (simp; done) | (simp; omega)) w (Arr.rd (Arr.row hrow60 (rfl) (rfl) _) hw).v) (fun w h => h) ?_
          exact T.blkEnd (by kernel_rfl) (fun w h => h)
        refine T.and 98 (((((a[k]'hl89)).par) == p) && (!((accV m p a).any (fun x => x == (a[k]'hl89))))) (allowB m (a[k]'hl89) (accV m p a)) (by kernel_rfl) (by kernel_rfl) ?_
        refine T.nil ?_
        refine QN.seq ?_
        refine W.cond ((((((a[k]'hl89)).par) == p) && (!((accV m p a).any (fun x => x == (a[k]'hl89))))) && (allowB m (a[k]'hl89) (accV m p a))) (by kernel_rfl) (fun h104 => ?_) (fun h104 => ?_)
        · skip
          have h104l := (Bool.and_eq_true_iff.1 h104).1
          have h104r := (Bool.and_eq_true_iff.1 h104).2
          have h104ll := (Bool.and_eq_true_iff.1 h104l).1
          have h104lr := (Bool.and_eq_true_iff.1 h104l).2
          have h104lrn := not_eq_true h104lr
          refine W.seq ?_
          refine W.region [(0, false)] (by kernel_rfl) ?_
          refine T.pure 6 (.bool (false)) (by kernel_rfl) (fun w => by kernel_rfl) ?_
          refine T.nil ?_
          refine QN.seq ?_
          refine W.ret ?_
          refine QN.blkRet ?_
          refine QN.thenRet ?_
          refine QN.thenRet ?_
          refine QN.blkRet ?_
          refine QN.thenRet ?_
          refine QN.done (.inl rfl) 6 (.bool (false)) rfl (by kernel_rfl) (fun w hw => ⟨?_, hw.below⟩)
          exact (closed2 h104).elim
        · skip
          refine W.skip ?_
          refine QN.blkNormal ?_
          refine QN.seq ?_
          refine W.region [(0, false), (1, false), (2, false)] (by kernel_rfl) ?_
          refine T.pure 72 (.int .i64 ((k : Int))) (by kernel_rfl) (fun w => by kernel_rfl) ?_
          refine T.pureE 73 (.int .i64 (IntKind.i64.wrap ((k : Int) + 1))) (.int .i64 ((k : Int) + 1)) (by kernel_rfl) (fun w => by kernel_rfl) (wrap_int (by omega) (by omega)) ?_
          refine T.pure 9 (.int .i64 ((k : Int) + 1)) (by kernel_rfl) (fun w => by kernel_rfl) ?_
          refine T.nil ?_
          refine QN.back (k + 1) ?_ ?_ (by kernel_rfl) (fun w h => h)
          · show (k + 1) ≤ (a).length
            omega
          · show (a).length - (k + 1) < (a).length - k; omega
      · skip
        have h88' := of_decide_eq_false h88
        refine W.exit ?_
        refine QN.thenExit ?_
        refine QN.thenExit ?_
        refine QN.blkHit ?_
        refine QN.seq ?_
        refine W.seq ?_
        refine W.region [(0, false), (1, false), (2, false), (3, false), (4, false), (5, false), (6, false), (7, false), (8, false), (9, false)] (by kernel_rfl) ?_
        refine T.pure 99 (.int .i64 (m)) (by kernel_rfl) (fun w => by kernel_rfl) ?_
        refine T.loadR false 100 (p).cs 24 b1 0 (by kernel_rfl) (by kernel_rfl) (by kernel_rfl) (by kernel_rfl) (fun w h => St.rangeM h (p).cs (List.mem_append_right _ (.head _)) (by kernel_rfl)) ?_
        refine T.pure 101 (.slice A57 ((accV m p a).length) c58) (by kernel_rfl) (fun w => by kernel_rfl) ?_
        refine T.callR 102 34 #[.int .i64 (m), .agg (p).cs, .slice A57 ((accV m p a).length) c58] 26 22 (accV m p (accV m p a)).length (cells (accV m p (accV m p a))) (by kernel_rfl) (by kernel_rfl) ent34 (fun w hw => accepted_c m p (accV m p a) A57 c58 w (by first | assumption | exact w64_and _ _ | exact w64_or _ _ | exact w64_andNot _ _ | (unfold W64; omega)) (fun u hu => (hok u ((accV_mem hu).1)).support) (by first | omega | (simp; done) | (simp; omega)) (Arr.rd (Arr.row hrow60 (rfl) (rfl) _) hw)) (fun _ _ _ => trivial) (fun A105 c106 Hr107 hrow108 => ?_)
        refine T.pure 103 (.slice A57 ((accV m p a).length) c58) (by kernel_rfl) (fun w => by kernel_rfl) ?_
        refine T.callP 104 37 #[.slice A105 ((accV m p (accV m p a)).length) c106, .slice A57 ((accV m p a).length) c58] (.bool ((accV m p (accV m p a)) == (accV m p a))) (by kernel_rfl) (by kernel_rfl) ent37 (fun w hw => same12_c (accV m p (accV m p a)) (accV m p a) A105 c106 A57 c58 w (by first | omega | (simp; done) | (simp; omega)) (by first | omega | (simp; done) | (simp; omega)) (Arr.rd (Arr.row hrow108 (rfl) (rfl) _) hw) (Arr.rd ((show Arr (St _ (Hr107 ++ (Hr59 ++ [(b1, .cells (p).cs 24 (0, 0))]))) A57 (accV m p a) from (Arr.row hrow60 (rfl) (rfl) (Hr107 ++ [(b1, .cells (p).cs 24 (0, 0))])).weak (fun w h => h.perm (((List.Perm.refl _).append_left Hr107).trans (List.perm_append_comm_assoc _ _ _))))) hw)) (fun _ _ => trivial) ?_
        refine T.pure 105 (.bool ((accV m p (accV m p a)) == (accV m p a))) (by kernel_rfl) (fun w => by kernel_rfl) ?_
        refine T.blk [(7, false)] [(8, false), (9, false)] 6 true ((accV m p (accV m p a)) == (accV m p a)) 105 106 (.bool (true)) (by kernel_rfl) (by kernel_rfl) (by kernel_rfl) (fun hg109 => ?_) ?_
        · have hg109_ := hg109
          refine T.callP 106 38 #[] (.bool (true)) (by kernel_rfl) (by kernel_rfl) ent38 (fun w hw => awake_c w) (fun _ _ => trivial) ?_
          exact T.blkEnd (by kernel_rfl) (fun w h => h)
        refine T.and 107 ((accV m p (accV m p a)) == (accV m p a)) (true) (by kernel_rfl) (by kernel_rfl) ?_
        refine T.pure 6 (.bool (((accV m p (accV m p a)) == (accV m p a)) && true)) (by kernel_rfl) (fun w => by kernel_rfl) ?_
        refine T.nil ?_
        refine QN.seq ?_
        refine W.ret ?_
        refine QN.done (.inl rfl) 6 (.bool (((accV m p (accV m p a)) == (accV m p a)) && true)) rfl (by kernel_rfl) (fun w hw => ⟨?_, hw.below⟩)
        exact ret_bool closed3
theorem AcceptClosed_w (w : World) (a0 : Int) (v1 : Value) (x1 : Nm) (v2 : Value) (x2 : List Vt) (h0 : W64 a0) (h1 : v1 = .agg x1.cs) (h2 : VS w v2 x2) : Calls Try.prog 10 #[.int .i64 a0, v1, v2] w fun e w' => e = .returned (.bool true) ∧ Below w.heap.size w w' := by
  obtain rfl := h1
  obtain ⟨A2, c2, rfl, l2, m2, r2, k2⟩ := h2
  exact AcceptClosed_c _ _ _ _ _ w h0 k2 l2 m2 r2.rd
end Go.Proofs.Ythhgdkodhokefaa
