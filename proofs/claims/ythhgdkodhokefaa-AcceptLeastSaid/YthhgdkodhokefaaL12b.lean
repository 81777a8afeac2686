/- The walks of AcceptLeast and AcceptClosed. -/
import Derived.Test.YthhgdkodhokefaaL12p
import Derived.Test.YthhgdkodhokefaaOpenN
namespace Go.Proofs.Ythhgdkodhokefaa
open Go Go.RowKit
set_option linter.unusedVariables false

def LeastI (R G gg : List Vt) (j : Nat) (ff : Bool) : Prop := (G = R ∧ gg = R ∧ ff = false) ∨ (G = [] ∧ gg = R.take j ∧ ff = decide (0 < j))
theorem strict_new {R : List Vt} (hs : Strict R) {j : Nat} (hj : j < R.length) : R[j] ∉ R.take j := fun h => by
  obtain ⟨k, hk, e⟩ := List.mem_iff_getElem.1 h
  simp only [List.length_take] at hk
  rw [List.getElem_take] at e
  have := (List.pairwise_iff_getElem.1 hs) k j (by omega) hj (by omega)
  rw [e, vless_swo.irrefl] at this; cases this
theorem built_at {m : Int} {R : List Vt} (hb : Built m R) {j : Nat} (hj : j < R.length) : allowB m R[j] (R.take j) = true := hb (R.take j) R[j] (R.drop (j + 1)) (by simp)
theorem least_yes {m : Int} {R G gg : List Vt} {j : Nat} {ff : Bool} (hb : Built m R) (hs : Strict R) (hj : j < R.length) (hI : LeastI R G gg j ff) (hc : ((!(gg.any (fun x => x == R[j]))) && (allowB m R[j] gg)) = true) : LeastI R G (gg ++ [R[j]]) (j + 1) true := by
  rcases hI with ⟨h1, h2, h3⟩ | ⟨h1, h2, h3⟩
  · exfalso
    have : gg.any (fun x => x == R[j]) = true := List.any_eq_true.2 ⟨R[j], by rw [h2]; exact List.getElem_mem _, by simp⟩
    rw [this] at hc; simp at hc
  · exact .inr ⟨h1, by rw [h2, List.take_succ_eq_append_getElem hj], by simp⟩
theorem least_no {m : Int} {R G gg : List Vt} {j : Nat} {ff : Bool} (hb : Built m R) (hs : Strict R) (hj : j < R.length) (hI : LeastI R G gg j ff) (hc : ((!(gg.any (fun x => x == R[j]))) && (allowB m R[j] gg)) = false) : LeastI R G gg (j + 1) ff := by
  rcases hI with ⟨h1, h2, h3⟩ | ⟨h1, h2, h3⟩
  · exact .inl ⟨h1, h2, h3⟩
  · exfalso
    subst h2
    rw [built_at hb hj] at hc
    have : (R.take j).any (fun x => x == R[j]) = true := by
      cases h : (R.take j).any (fun x => x == R[j]) with
      | true => rfl
      | false => rw [h] at hc; simp at hc
    obtain ⟨x, hx, he⟩ := List.any_eq_true.1 this
    simp only [beq_iff_eq] at he
    exact strict_new hs hj (he ▸ hx)
theorem least_end {R G gg : List Vt} {ff : Bool} (hI : LeastI R G gg R.length ff) : gg = R ∧ (bif ff then 1 else 0) + (R.length - gg.length) < 1 + (R.length - G.length) := by
  rcases hI with ⟨h1, h2, h3⟩ | ⟨h1, h2, h3⟩
  · subst h1 h2 h3; simp
  · rw [List.take_length] at h2
    subst h1 h2 h3
    refine ⟨rfl, ?_⟩
    by_cases h : 0 < gg.length
    · simp [h]
    · simp [h]; omega
theorem least_len {R G : List Vt} {f : Bool} (h : G = R ∨ (G = [] ∧ f = true)) : G.length ≤ R.length + 0 := by
  rcases h with h | h
  · rw [h]; omega
  · rw [h.1]; simp
theorem least_fin {R G : List Vt} {f : Bool} (h : G = R ∨ (G = [] ∧ f = true)) (hf : f = false) : (((((G.length : Nat) : Int) == ((R.length : Nat) : Int))) && true) = true := by
  rcases h with h | h
  · rw [h]; simp
  · rw [hf] at h; simp at h
set_option maxRecDepth 100000 in
set_option maxHeartbeats 2000000 in
theorem AcceptLeast_c (m : Int) (p : Nm) (a : List Vt) (A : Option Addr) (c : Nat) (w : World) (hm : W64 m) (hok : ∀ u ∈ a, u.Ok) (h1 : a.length ≤ c) (h2 : c ≤ maxLen) (hr : Rd w A a) : Calls Try.prog 11 #[.int .i64 (m), .agg (p).cs, .slice A (a.length) c] w (fun rr w' => rr = .returned (.bool (true)) ∧ Below w.heap.size w w') := by
  have ht : (a.take 120).length ≤ 120 := List.length_take_le _ _
  refine calls_W (n := 58) Try.func11 rfl [(0, .int .i64 (m)), (1, .agg (p).cs), (2, .slice A (a.length) c)] rfl ⟨by kernel_rfl, by kernel_rfl⟩ ?_
  refine W.weak (Ψ := St w []) (fun w' h => by rw [h]; exact St.start w) ?_
  refine W.seq ?_
  refine W.region [(0, false), (1, false)] (by kernel_rfl) ?_
  refine T.box 4 24 (.agg (p).cs) ((p).cs) (by kernel_rfl) (by kernel_rfl) (by kernel_rfl) (fun _ _ _ => trivial) (fun b1 => ?_)
  refine T.pure 6 (.bool (false)) (by kernel_rfl) (fun w => by kernel_rfl) ?_
  refine T.nil ?_
  refine QN.seq ?_
  refine W.seq ?_
  refine W.seq ?_
  refine W.region [(0, false), (1, false), (2, false)] (by kernel_rfl) ?_
  refine T.pure 11 (.slice A (a.length) c) (by kernel_rfl) (fun w => by kernel_rfl) ?_
  refine T.pure 12 (.int .i64 (((a.length : Nat) : Int))) (by kernel_rfl) (fun w => by kernel_rfl) ?_
  refine T.pure 13 (.bool (decide (120 < ((a.length : Nat) : Int)))) (by kernel_rfl) (fun w => by kernel_rfl) ?_
  refine T.nil ?_
  refine QN.seq ?_
  refine W.cond (decide (120 < ((a.length : Nat) : Int))) (by kernel_rfl) (fun h2 => ?_) (fun h2 => ?_)
  · skip
    have h2' := of_decide_eq_true h2
    refine W.region [(0, false), (1, false), (2, false)] (by kernel_rfl) ?_
    refine T.pure 14 (.slice A (a.length) c) (by kernel_rfl) (fun w => by kernel_rfl) ?_
    have hsl3 : (a.take 120).length = 120 := by simp; omega
    refine T.sliceTo 15 27 26 A (a.length) c (120) ((a.take 120).length) (by kernel_rfl) (by kernel_rfl) (by kernel_rfl) (by kernel_rfl) (by omega) (by omega) ?_
    refine T.pure 2 (.slice A ((a.take 120).length) c) (by kernel_rfl) (fun w => by kernel_rfl) ?_
    refine T.nil ?_
    refine QN.seq ?_
    refine W.seq ?_
    refine W.region [(0, false), (1, false), (2, false), (3, false), (4, false)] (by kernel_rfl) ?_
    refine T.pure 16 (.int .i64 (m)) (by kernel_rfl) (fun w => by kernel_rfl) ?_
    refine T.loadR false 17 (p).cs 24 b1 0 (by kernel_rfl) (by kernel_rfl) (by kernel_rfl) (by kernel_rfl) (fun w h => St.rangeM h (p).cs (.head _) (by kernel_rfl)) ?_
    refine T.pure 18 (.slice A ((a.take 120).length) c) (by kernel_rfl) (fun w => by kernel_rfl) ?_
    refine T.callR 19 34 #[.int .i64 (m), .agg (p).cs, .slice A ((a.take 120).length) c] 26 22 (accV m p (a.take 120)).length (cells (accV m p (a.take 120))) (by kernel_rfl) (by kernel_rfl) ent34 (fun w hw => accepted_c m p (a.take 120) A c w (by first | assumption | exact w64_and _ _ | exact w64_or _ _ | exact w64_andNot _ _ | (unfold W64; omega)) (fun u hu => (hok u (List.mem_of_mem_take hu)).support) (by first | omega | (simp; done) | (simp; omega)) (Arr.rd ((Rd.arr hr _).take _) hw)) (fun _ _ _ => trivial) (fun A4 c5 Hr6 hrow7 => ?_)
    refine T.pure 7 (.slice A4 ((accV m p (a.take 120)).length) c5) (by kernel_rfl) (fun w => by kernel_rfl) ?_
    refine T.nil ?_
    refine QN.seq ?_
    refine W.seq ?_
    refine W.region [(0, false)] (by kernel_rfl) ?_
    refine T.pure 8 (.slice none (0) 0) (by kernel_rfl) (fun w => by kernel_rfl) ?_
    refine T.nil ?_
    refine QN.seq ?_
    refine W.seq ?_
    refine W.seq ?_
    refine W.region [(0, false)] (by kernel_rfl) ?_
    refine T.pure 9 (.bool (true)) (by kernel_rfl) (fun w => by kernel_rfl) ?_
    refine T.nil ?_
    refine QN.seq ?_
    refine W.block ?_
    have hRl := accV_len m p (a.take 120)
    have hRb := accV_built m p (a.take 120)
    have hRs := accV_strict m p (a.take 120)
    refine W.loop (σ := List Vt × Bool × Option Addr × Nat × List (Nat × Obj)) (fun gs => (gs.1 = accV m p (a.take 120) ∨ (gs.1 = [] ∧ gs.2.1 = true)) ∧ RowIs 26 22 gs.2.2.1 gs.1.length gs.2.2.2.1 (cells gs.1) gs.2.2.2.2) (fun gs => [(0, .int .i64 (m)), (6, .bool (false)), (7, .slice A4 ((accV m p (a.take 120)).length) c5), (8, .slice gs.2.2.1 (gs.1.length) gs.2.2.2.1), (9, .bool (gs.2.1))]) (fun gs => St w (gs.2.2.2.2 ++ (Hr6 ++ [(b1, .cells (p).cs 24 (0, 0))]))) (fun gs => (bif gs.2.1 then 1 else 0) + ((accV m p (a.take 120)).length - gs.1.length)) ([], true, none, 0, []) ?_ (by kernel_rfl) (fun w h => h) ?_
    · show (([]) = accV m p (a.take 120) ∨ (([]) = [] ∧ true = true)) ∧ RowIs 26 22 none ([]).length 0 (cells ([])) ([])
      exact ⟨.inr ⟨rfl, rfl⟩, RowIs.nil⟩
    rintro ⟨G, f, A8, c8, Hr8⟩ hI_
    obtain ⟨hG, hrow8⟩ : (G = accV m p (a.take 120) ∨ (G = [] ∧ f = true)) ∧ RowIs 26 22 A8 G.length c8 (cells G) Hr8 := hI_
    show W _ _ [(0, .int .i64 (m)), (6, .bool (false)), (7, .slice A4 ((accV m p (a.take 120)).length) c5), (8, .slice A8 (G.length) c8), (9, .bool (f))] (St w (Hr8 ++ (Hr6 ++ [(b1, .cells (p).cs 24 (0, 0))]))) _ _
    refine W.seq ?_
    refine W.seq ?_
    refine W.region [(0, false)] (by kernel_rfl) ?_
    refine T.pure 20 (.bool (f)) (by kernel_rfl) (fun w => by kernel_rfl) ?_
    refine T.nil ?_
    refine QN.seq ?_
    refine W.cond (f) (by kernel_rfl) (fun h8 => ?_) (fun h8 => ?_)
    · skip
      refine W.skip ?_
      refine QN.seq ?_
      refine W.block ?_
      refine W.seq ?_
      refine W.region [(0, false)] (by kernel_rfl) ?_
      refine T.pure 9 (.bool (false)) (by kernel_rfl) (fun w => by kernel_rfl) ?_
      refine T.nil ?_
      refine QN.seq ?_
      refine W.seq ?_
      refine W.region [(0, false)] (by kernel_rfl) ?_
      refine T.pure 10 (.int .i64 (0)) (by kernel_rfl) (fun w => by kernel_rfl) ?_
      refine T.nil ?_
      refine QN.seq ?_
      refine W.block ?_
      refine W.loop (σ := Nat × List Vt × Bool × Option Addr × Nat × List (Nat × Obj)) (fun gs => gs.1 ≤ (accV m p (a.take 120)).length ∧ LeastI (accV m p (a.take 120)) G gs.2.1 gs.1 gs.2.2.1 ∧ gs.2.1.length ≤ (accV m p (a.take 120)).length + gs.1 ∧ RowIs 26 22 gs.2.2.2.1 gs.2.1.length gs.2.2.2.2.1 (cells gs.2.1) gs.2.2.2.2.2) (fun gs => [(0, .int .i64 (m)), (6, .bool (false)), (7, .slice A4 ((accV m p (a.take 120)).length) c5), (8, .slice gs.2.2.2.1 (gs.2.1.length) gs.2.2.2.2.1), (9, .bool (gs.2.2.1)), (10, .int .i64 ((gs.1 : Int))), (20, .bool (f))]) (fun gs => St w (gs.2.2.2.2.2 ++ (Hr6 ++ [(b1, .cells (p).cs 24 (0, 0))]))) (fun gs => (accV m p (a.take 120)).length - gs.1) (0, G, false, A8, c8, Hr8) ?_ (by kernel_rfl) (fun w h => h) ?_
      · show 0 ≤ (accV m p (a.take 120)).length ∧ LeastI (accV m p (a.take 120)) G G 0 false ∧ G.length ≤ (accV m p (a.take 120)).length + 0 ∧ RowIs 26 22 A8 G.length c8 (cells G) Hr8
        exact ⟨Nat.zero_le _, hG.elim (fun h => .inl ⟨h, h, rfl⟩) (fun h => .inr ⟨h.1, by rw [h.1]; simp, by simp⟩), least_len hG, hrow8⟩
      rintro ⟨j, gg, ff, A9, c9, Hr9⟩ hI_
      obtain ⟨hj, hin, hgl, hrow9⟩ : j ≤ (accV m p (a.take 120)).length ∧ LeastI (accV m p (a.take 120)) G gg j ff ∧ gg.length ≤ (accV m p (a.take 120)).length + j ∧ RowIs 26 22 A9 gg.length c9 (cells gg) Hr9 := hI_
      show W _ _ [(0, .int .i64 (m)), (6, .bool (false)), (7, .slice A4 ((accV m p (a.take 120)).length) c5), (8, .slice A9 (gg.length) c9), (9, .bool (ff)), (10, .int .i64 ((j : Int))), (20, .bool (f))] (St w (Hr9 ++ (Hr6 ++ [(b1, .cells (p).cs 24 (0, 0))]))) _ _
      refine W.seq ?_
      refine W.seq ?_
      refine W.region [(0, false), (1, false), (2, false), (3, false)] (by kernel_rfl) ?_
      refine T.pure 21 (.int .i64 ((j : Int))) (by kernel_rfl) (fun w => by kernel_rfl) ?_
      refine T.pure 22 (.slice A4 ((accV m p (a.take 120)).length) c5) (by kernel_rfl) (fun w => by kernel_rfl) ?_
      refine T.pure 23 (.int .i64 ((((accV m p (a.take 120)).length : Nat) : Int))) (by kernel_rfl) (fun w => by kernel_rfl) ?_
      refine T.pure 24 (.bool (decide ((j : Int) < (((accV m p (a.take 120)).length : Nat) : Int)))) (by kernel_rfl) (fun w => by kernel_rfl) ?_
      refine T.nil ?_
      refine QN.seq ?_
      refine W.cond (decide ((j : Int) < (((accV m p (a.take 120)).length : Nat) : Int))) (by kernel_rfl) (fun h9 => ?_) (fun h9 => ?_)
      · skip
        have h9' := of_decide_eq_true h9
        have hl10 : j < (accV m p (a.take 120)).length := by omega
        refine W.skip ?_
        refine QN.seq ?_
        refine W.seq ?_
        refine W.block ?_
        refine W.seq ?_
        refine W.region [(0, false), (1, false), (2, false), (3, false), (4, false), (5, false), (6, false), (7, false), (8, false), (9, false), (10, false), (11, false), (12, false), (13, false), (14, false), (15, false)] (by kernel_rfl) ?_
        refine T.pure 27 (.slice A9 (gg.length) c9) (by kernel_rfl) (fun w => by kernel_rfl) ?_
        refine T.pure 28 (.slice A4 ((accV m p (a.take 120)).length) c5) (by kernel_rfl) (fun w => by kernel_rfl) ?_
        refine T.pure 29 (.int .i64 ((j : Int))) (by kernel_rfl) (fun w => by kernel_rfl) ?_
        obtain ⟨b11, o12, hA13, hr14⟩ := ((show Arr (St _ (Hr9 ++ (Hr6 ++ [(b1, .cells (p).cs 24 (0, 0))]))) A4 (accV m p (a.take 120)) from (Arr.row hrow7 (rfl) (rfl) (Hr9 ++ [(b1, .cells (p).cs 24 (0, 0))])).weak (fun w h => h.perm (((List.Perm.refl _).append_left Hr9).trans (List.perm_append_comm_assoc _ _ _))))) j hl10
        refine T.index 30 27 26 22 A4 ((accV m p (a.take 120)).length) c5 ((j : Int)) (j) b11 o12 (by kernel_rfl) (by kernel_rfl) (by kernel_rfl) (by kernel_rfl) hA13 (rfl) (by omega) ?_
        refine T.loadR false 31 (((accV m p (a.take 120))[j]'hl10)).cs 26 b11 (o12 + j * 22) (by kernel_rfl) (by kernel_rfl) (by kernel_rfl) (by kernel_rfl) hr14 ?_
        refine T.callP 32 35 #[.slice A9 (gg.length) c9, .agg (((accV m p (a.take 120))[j]'hl10)).cs] (.bool (gg.any (fun x => x == ((accV m p (a.take 120))[j]'hl10)))) (by kernel_rfl) (by kernel_rfl) ent35 (fun w hw => has12_c gg ((accV m p (a.take 120))[j]'hl10) A9 c9 w (by first | omega | (simp; done) | (simp; omega)) (Arr.rd (Arr.row hrow9 (rfl) (rfl) _) hw)) (fun _ _ => trivial) ?_
        refine T.pure 33 (.bool (!(gg.any (fun x => x == ((accV m p (a.take 120))[j]'hl10))))) (by kernel_rfl) (fun w => by kernel_rfl) ?_
        refine T.pure 34 (.bool (!(gg.any (fun x => x == ((accV m p (a.take 120))[j]'hl10))))) (by kernel_rfl) (fun w => by kernel_rfl) ?_
        refine T.blk [(8, false), (9, false), (10, false), (11, false), (12, false), (13, false), (14, false)] [(15, false)] 7 true (!(gg.any (fun x => x == ((accV m p (a.take 120))[j]'hl10)))) 34 41 (.bool (allowB m ((accV m p (a.take 120))[j]'hl10) gg)) (by kernel_rfl) (by kernel_rfl) (by kernel_rfl) (fun hg15 => ?_) ?_
        · have hg15_ := hg15
          have hg15n := not_eq_true hg15
          refine T.pure 35 (.int .i64 (m)) (by kernel_rfl) (fun w => by kernel_rfl) ?_
          refine T.pure 36 (.slice A4 ((accV m p (a.take 120)).length) c5) (by kernel_rfl) (fun w => by kernel_rfl) ?_
          refine T.pure 37 (.int .i64 ((j : Int))) (by kernel_rfl) (fun w => by kernel_rfl) ?_
          obtain ⟨b16, o17, hA18, hr19⟩ := ((show Arr (St _ (Hr9 ++ (Hr6 ++ [(b1, .cells (p).cs 24 (0, 0))]))) A4 (accV m p (a.take 120)) from (Arr.row hrow7 (rfl) (rfl) (Hr9 ++ [(b1, .cells (p).cs 24 (0, 0))])).weak (fun w h => h.perm (((List.Perm.refl _).append_left Hr9).trans (List.perm_append_comm_assoc _ _ _))))) j hl10
          refine T.index 38 27 26 22 A4 ((accV m p (a.take 120)).length) c5 ((j : Int)) (j) b16 o17 (by kernel_rfl) (by kernel_rfl) (by kernel_rfl) (by kernel_rfl) hA18 (rfl) (by omega) ?_
          refine T.loadR false 39 (((accV m p (a.take 120))[j]'hl10)).cs 26 b16 (o17 + j * 22) (by kernel_rfl) (by kernel_rfl) (by kernel_rfl) (by kernel_rfl) hr19 ?_
          refine T.pure 40 (.slice A9 (gg.length) c9) (by kernel_rfl) (fun w => by kernel_rfl) ?_
          refine T.callP 41 17 #[.int .i64 (m), .agg (((accV m p (a.take 120))[j]'hl10)).cs, .slice A9 (gg.length) c9] (.bool (allowB m ((accV m p (a.take 120))[j]'hl10) gg)) (by kernel_rfl) (by kernel_rfl) ent17 (fun w hw => allowed_c _ (by first | assumption | exact w64_and _ _ | exact w64_or _ _ | exact w64_andNot _ _ | (unfold W64; omega)) _ (Vt.Ok.support (hok _ (by first | exact List.getElem_mem _ | exact List.mem_of_mem_take (List.getElem_mem _) | exact (accV_mem (List.getElem_mem _)).1 | exact List.mem_of_mem_take (accV_mem (List.getElem_mem _)).1))) _ _ _ (by first | omega | (simp; done) | (simp; omega)) w (Arr.rd (Arr.row hrow9 (rfl) (rfl) _) hw).v) (fun _ _ => trivial) ?_
          exact T.blkEnd (by kernel_rfl) (fun w h => h)
        refine T.and 42 (!(gg.any (fun x => x == ((accV m p (a.take 120))[j]'hl10)))) (allowB m ((accV m p (a.take 120))[j]'hl10) gg) (by kernel_rfl) (by kernel_rfl) ?_
        refine T.nil ?_
        refine QN.seq ?_
        refine W.cond ((!(gg.any (fun x => x == ((accV m p (a.take 120))[j]'hl10)))) && (allowB m ((accV m p (a.take 120))[j]'hl10) gg)) (by kernel_rfl) (fun h20 => ?_) (fun h20 => ?_)
        · skip
          have h20l := (Bool.and_eq_true_iff.1 h20).1
          have h20r := (Bool.and_eq_true_iff.1 h20).2
          have h20ln := not_eq_true h20l
          refine W.region [(0, false), (1, false), (2, false), (3, false), (4, false), (5, false), (6, false), (7, false), (8, false)] (by kernel_rfl) ?_
          refine T.pure 43 (.slice A9 (gg.length) c9) (by kernel_rfl) (fun w => by kernel_rfl) ?_
          refine T.pure 44 (.slice A4 ((accV m p (a.take 120)).length) c5) (by kernel_rfl) (fun w => by kernel_rfl) ?_
          refine T.pure 45 (.int .i64 ((j : Int))) (by kernel_rfl) (fun w => by kernel_rfl) ?_
          obtain ⟨b21, o22, hA23, hr24⟩ := ((show Arr (St _ (Hr9 ++ (Hr6 ++ [(b1, .cells (p).cs 24 (0, 0))]))) A4 (accV m p (a.take 120)) from (Arr.row hrow7 (rfl) (rfl) (Hr9 ++ [(b1, .cells (p).cs 24 (0, 0))])).weak (fun w h => h.perm (((List.Perm.refl _).append_left Hr9).trans (List.perm_append_comm_assoc _ _ _))))) j hl10
          refine T.index 46 27 26 22 A4 ((accV m p (a.take 120)).length) c5 ((j : Int)) (j) b21 o22 (by kernel_rfl) (by kernel_rfl) (by kernel_rfl) (by kernel_rfl) hA23 (rfl) (by omega) ?_
          refine T.loadR false 47 (((accV m p (a.take 120))[j]'hl10)).cs 26 b21 (o22 + j * 22) (by kernel_rfl) (by kernel_rfl) (by kernel_rfl) (by kernel_rfl) hr24 ?_
          refine T.lit 48 27 26 1 #[(0, .agg (((accV m p (a.take 120))[j]'hl10)).cs)] (cells ([((accV m p (a.take 120))[j]'hl10)] : List Vt)).toArray (by kernel_rfl) (by kernel_rfl) (by kernel_rfl) (by kernel_rfl) (fun _ _ _ => trivial) (fun b25 => ?_)
          refine T.appC 49 27 26 64 A9 c9 (gg : List Vt) Hr9 b25 0 1 ([((accV m p (a.take 120))[j]'hl10)] : List Vt) (((List.Perm.refl _).cons _).trans List.perm_middle.symm) (by kernel_rfl) (by kernel_rfl) (by kernel_rfl) (by kernel_rfl) hrow9 (fun w h => St.rangeM h (cells ([((accV m p (a.take 120))[j]'hl10)] : List Vt)).toArray (List.mem_append_right _ (.head _)) (by kernel_rfl)) (by unfold maxLen; first | omega | (simp; omega)) (by first | omega | (simp; omega)) (fun _ _ _ => trivial) (fun A26 c27 Hr28 hrow29 => ?_)
          refine T.pure 8 (.slice A26 ((gg ++ ([((accV m p (a.take 120))[j]'hl10)])).length) c27) (by kernel_rfl) (fun w => by kernel_rfl) ?_
          refine T.pure 9 (.bool (true)) (by kernel_rfl) (fun w => by kernel_rfl) ?_
          refine T.nil ?_
          refine QN.blkNormal ?_
          refine QN.seq ?_
          refine W.region [(0, false), (1, false), (2, false)] (by kernel_rfl) ?_
          refine T.pure 25 (.int .i64 ((j : Int))) (by kernel_rfl) (fun w => by kernel_rfl) ?_
          refine T.pureE 26 (.int .i64 (IntKind.i64.wrap ((j : Int) + 1))) (.int .i64 ((j : Int) + 1)) (by kernel_rfl) (fun w => by kernel_rfl) (wrap_int (by omega) (by omega)) ?_
          refine T.pure 10 (.int .i64 ((j : Int) + 1)) (by kernel_rfl) (fun w => by kernel_rfl) ?_
          refine T.nil ?_
          refine QN.back (j + 1, gg ++ ([((accV m p (a.take 120))[j]'hl10)]), true, A26, c27, Hr28) ?_ ?_ (by kernel_rfl) (fun w h => (h.perm ((List.Perm.refl _).trans (((((List.Perm.refl _).cons _).trans List.perm_middle.symm).trans ((((List.Perm.refl _).cons _).trans (List.Perm.swap _ _ _)).append_left Hr6)).append_left Hr28))).part (List.Sublist.append (List.Sublist.refl _) (List.Sublist.append (List.Sublist.refl _) ((List.nil_sublist _).cons_cons _))))
          · show (j + 1) ≤ (accV m p (a.take 120)).length ∧ LeastI (accV m p (a.take 120)) G (gg ++ ([((accV m p (a.take 120))[j]'hl10)])) (j + 1) true ∧ (gg ++ ([((accV m p (a.take 120))[j]'hl10)])).length ≤ (accV m p (a.take 120)).length + (j + 1) ∧ RowIs 26 22 A26 (gg ++ ([((accV m p (a.take 120))[j]'hl10)])).length c27 (cells (gg ++ ([((accV m p (a.take 120))[j]'hl10)]))) Hr28
            exact ⟨by omega, least_yes hRb hRs (by omega) hin h20, by rw [List.length_append, List.length_singleton]; omega, hrow29⟩
          · show (accV m p (a.take 120)).length - _ < (accV m p (a.take 120)).length - _; omega
        · skip
          refine W.skip ?_
          refine QN.blkNormal ?_
          refine QN.seq ?_
          refine W.region [(0, false), (1, false), (2, false)] (by kernel_rfl) ?_
          refine T.pure 25 (.int .i64 ((j : Int))) (by kernel_rfl) (fun w => by kernel_rfl) ?_
          refine T.pureE 26 (.int .i64 (IntKind.i64.wrap ((j : Int) + 1))) (.int .i64 ((j : Int) + 1)) (by kernel_rfl) (fun w => by kernel_rfl) (wrap_int (by omega) (by omega)) ?_
          refine T.pure 10 (.int .i64 ((j : Int) + 1)) (by kernel_rfl) (fun w => by kernel_rfl) ?_
          refine T.nil ?_
          refine QN.back (j + 1, gg, ff, A9, c9, Hr9) ?_ ?_ (by kernel_rfl) (fun w h => h)
          · show (j + 1) ≤ (accV m p (a.take 120)).length ∧ LeastI (accV m p (a.take 120)) G gg (j + 1) ff ∧ gg.length ≤ (accV m p (a.take 120)).length + (j + 1) ∧ RowIs 26 22 A9 gg.length c9 (cells gg) Hr9
            exact ⟨by omega, least_no hRb hRs (by omega) hin h20, by omega, hrow9⟩
          · show (accV m p (a.take 120)).length - _ < (accV m p (a.take 120)).length - _; omega
      · skip
        have h9' := of_decide_eq_false h9
        refine W.exit ?_
        refine QN.thenExit ?_
        refine QN.thenExit ?_
        refine QN.blkHit ?_
        refine QN.blkNormal ?_
        have e_j : j = (accV m p (a.take 120)).length := by omega
        refine QN.back (gg, ff, A9, c9, Hr9) ?_ ?_ (by kernel_rfl) (fun w h => h)
        · show (gg = accV m p (a.take 120) ∨ (gg = [] ∧ ff = true)) ∧ RowIs 26 22 A9 gg.length c9 (cells gg) Hr9
          exact ⟨.inl (least_end (e_j ▸ hin)).1, hrow9⟩
        · have hz := (least_end (e_j ▸ hin)).2; have hft : f = true := h8; show (bif _ then 1 else 0) + ((accV m p (a.take 120)).length - _) < (bif f then 1 else 0) + ((accV m p (a.take 120)).length - G.length); rw [hft]; exact hz
    · skip
      refine W.exit ?_
      refine QN.thenExit ?_
      refine QN.thenExit ?_
      refine QN.blkHit ?_
      refine QN.seq ?_
      refine W.seq ?_
      refine W.region [(0, false), (1, false), (2, false), (3, false), (4, false), (5, false), (6, false), (7, false), (8, false)] (by kernel_rfl) ?_
      refine T.pure 50 (.slice A8 (G.length) c8) (by kernel_rfl) (fun w => by kernel_rfl) ?_
      refine T.pure 51 (.int .i64 (((G.length : Nat) : Int))) (by kernel_rfl) (fun w => by kernel_rfl) ?_
      refine T.pure 52 (.slice A4 ((accV m p (a.take 120)).length) c5) (by kernel_rfl) (fun w => by kernel_rfl) ?_
      refine T.pure 53 (.int .i64 ((((accV m p (a.take 120)).length : Nat) : Int))) (by kernel_rfl) (fun w => by kernel_rfl) ?_
      refine T.pure 54 (.bool (((G.length : Nat) : Int) == (((accV m p (a.take 120)).length : Nat) : Int))) (by kernel_rfl) (fun w => by kernel_rfl) ?_
      refine T.pure 55 (.bool (((G.length : Nat) : Int) == (((accV m p (a.take 120)).length : Nat) : Int))) (by kernel_rfl) (fun w => by kernel_rfl) ?_
      refine T.blk [(6, false)] [(7, false), (8, false)] 5 true (((G.length : Nat) : Int) == (((accV m p (a.take 120)).length : Nat) : Int)) 55 56 (.bool (true)) (by kernel_rfl) (by kernel_rfl) (by kernel_rfl) (fun hg30 => ?_) ?_
      · have hg30_ := hg30
        have hg30' := eq_of_beq hg30
        refine T.callP 56 38 #[] (.bool (true)) (by kernel_rfl) (by kernel_rfl) ent38 (fun w hw => awake_c w) (fun _ _ => trivial) ?_
        exact T.blkEnd (by kernel_rfl) (fun w h => h)
      refine T.and 57 (((G.length : Nat) : Int) == (((accV m p (a.take 120)).length : Nat) : Int)) (true) (by kernel_rfl) (by kernel_rfl) ?_
      refine T.pure 6 (.bool ((((G.length : Nat) : Int) == (((accV m p (a.take 120)).length : Nat) : Int)) && true)) (by kernel_rfl) (fun w => by kernel_rfl) ?_
      refine T.nil ?_
      refine QN.seq ?_
      refine W.ret ?_
      refine QN.done (.inl rfl) 6 (.bool ((((G.length : Nat) : Int) == (((accV m p (a.take 120)).length : Nat) : Int)) && true)) rfl (by kernel_rfl) (fun w hw => ⟨?_, hw.below⟩)
      exact ret_bool (least_fin hG h8)
  · skip
    have h2' := of_decide_eq_false h2
    refine W.skip ?_
    refine QN.seq ?_
    refine W.seq ?_
    refine W.region [(0, false), (1, false), (2, false), (3, false), (4, false)] (by kernel_rfl) ?_
    refine T.pure 16 (.int .i64 (m)) (by kernel_rfl) (fun w => by kernel_rfl) ?_
    refine T.loadR false 17 (p).cs 24 b1 0 (by kernel_rfl) (by kernel_rfl) (by kernel_rfl) (by kernel_rfl) (fun w h => St.rangeM h (p).cs (.head _) (by kernel_rfl)) ?_
    refine T.pure 18 (.slice A (a.length) c) (by kernel_rfl) (fun w => by kernel_rfl) ?_
    refine T.callR 19 34 #[.int .i64 (m), .agg (p).cs, .slice A (a.length) c] 26 22 (accV m p a).length (cells (accV m p a)) (by kernel_rfl) (by kernel_rfl) ent34 (fun w hw => accepted_c m p a A c w (by first | assumption | exact w64_and _ _ | exact w64_or _ _ | exact w64_andNot _ _ | (unfold W64; omega)) (fun u hu => (hok u (hu)).support) (by first | omega | (simp; done) | (simp; omega)) (Arr.rd (Rd.arr hr _) hw)) (fun _ _ _ => trivial) (fun A31 c32 Hr33 hrow34 => ?_)
    refine T.pure 7 (.slice A31 ((accV m p a).length) c32) (by kernel_rfl) (fun w => by kernel_rfl) ?_
    refine T.nil ?_
    refine QN.seq ?_
    refine W.seq ?_
    refine W.region [(0, false)] (by kernel_rfl) ?_
    refine T.pure 8 (.slice none (0) 0) (by kernel_rfl) (fun w => by kernel_rfl) ?_
    refine T.nil ?_
    refine QN.seq ?_
    refine W.seq ?_
    refine W.seq ?_
    refine W.region [(0, false)] (by kernel_rfl) ?_
    refine T.pure 9 (.bool (true)) (by kernel_rfl) (fun w => by kernel_rfl) ?_
    refine T.nil ?_
    refine QN.seq ?_
    refine W.block ?_
    have hRl := accV_len m p a
    have hRb := accV_built m p a
    have hRs := accV_strict m p a
    refine W.loop (σ := List Vt × Bool × Option Addr × Nat × List (Nat × Obj)) (fun gs => (gs.1 = accV m p a ∨ (gs.1 = [] ∧ gs.2.1 = true)) ∧ RowIs 26 22 gs.2.2.1 gs.1.length gs.2.2.2.1 (cells gs.1) gs.2.2.2.2) (fun gs => [(0, .int .i64 (m)), (6, .bool (false)), (7, .slice A31 ((accV m p a).length) c32), (8, .slice gs.2.2.1 (gs.1.length) gs.2.2.2.1), (9, .bool (gs.2.1))]) (fun gs => St w (gs.2.2.2.2 ++ (Hr33 ++ [(b1, .cells (p).cs 24 (0, 0))]))) (fun gs => (bif gs.2.1 then 1 else 0) + ((accV m p a).length - gs.1.length)) ([], true, none, 0, []) ?_ (by kernel_rfl) (fun w h => h) ?_
    · show (([]) = accV m p a ∨ (([]) = [] ∧ true = true)) ∧ RowIs 26 22 none ([]).length 0 (cells ([])) ([])
      exact ⟨.inr ⟨rfl, rfl⟩, RowIs.nil⟩
    rintro ⟨G, f, A8, c8, Hr8⟩ hI_
    obtain ⟨hG, hrow8⟩ : (G = accV m p a ∨ (G = [] ∧ f = true)) ∧ RowIs 26 22 A8 G.length c8 (cells G) Hr8 := hI_
    show W _ _ [(0, .int .i64 (m)), (6, .bool (false)), (7, .slice A31 ((accV m p a).length) c32), (8, .slice A8 (G.length) c8), (9, .bool (f))] (St w (Hr8 ++ (Hr33 ++ [(b1, .cells (p).cs 24 (0, 0))]))) _ _
    refine W.seq ?_
    refine W.seq ?_
    refine W.region [(0, false)] (by kernel_rfl) ?_
    refine T.pure 20 (.bool (f)) (by kernel_rfl) (fun w => by kernel_rfl) ?_
    refine T.nil ?_
    refine QN.seq ?_
    refine W.cond (f) (by kernel_rfl) (fun h35 => ?_) (fun h35 => ?_)
    · skip
      refine W.skip ?_
      refine QN.seq ?_
      refine W.block ?_
      refine W.seq ?_
      refine W.region [(0, false)] (by kernel_rfl) ?_
      refine T.pure 9 (.bool (false)) (by kernel_rfl) (fun w => by kernel_rfl) ?_
      refine T.nil ?_
      refine QN.seq ?_
      refine W.seq ?_
      refine W.region [(0, false)] (by kernel_rfl) ?_
      refine T.pure 10 (.int .i64 (0)) (by kernel_rfl) (fun w => by kernel_rfl) ?_
      refine T.nil ?_
      refine QN.seq ?_
      refine W.block ?_
      refine W.loop (σ := Nat × List Vt × Bool × Option Addr × Nat × List (Nat × Obj)) (fun gs => gs.1 ≤ (accV m p a).length ∧ LeastI (accV m p a) G gs.2.1 gs.1 gs.2.2.1 ∧ gs.2.1.length ≤ (accV m p a).length + gs.1 ∧ RowIs 26 22 gs.2.2.2.1 gs.2.1.length gs.2.2.2.2.1 (cells gs.2.1) gs.2.2.2.2.2) (fun gs => [(0, .int .i64 (m)), (6, .bool (false)), (7, .slice A31 ((accV m p a).length) c32), (8, .slice gs.2.2.2.1 (gs.2.1.length) gs.2.2.2.2.1), (9, .bool (gs.2.2.1)), (10, .int .i64 ((gs.1 : Int))), (20, .bool (f))]) (fun gs => St w (gs.2.2.2.2.2 ++ (Hr33 ++ [(b1, .cells (p).cs 24 (0, 0))]))) (fun gs => (accV m p a).length - gs.1) (0, G, false, A8, c8, Hr8) ?_ (by kernel_rfl) (fun w h => h) ?_
      · show 0 ≤ (accV m p a).length ∧ LeastI (accV m p a) G G 0 false ∧ G.length ≤ (accV m p a).length + 0 ∧ RowIs 26 22 A8 G.length c8 (cells G) Hr8
        exact ⟨Nat.zero_le _, hG.elim (fun h => .inl ⟨h, h, rfl⟩) (fun h => .inr ⟨h.1, by rw [h.1]; simp, by simp⟩), least_len hG, hrow8⟩
      rintro ⟨j, gg, ff, A9, c9, Hr9⟩ hI_
      obtain ⟨hj, hin, hgl, hrow9⟩ : j ≤ (accV m p a).length ∧ LeastI (accV m p a) G gg j ff ∧ gg.length ≤ (accV m p a).length + j ∧ RowIs 26 22 A9 gg.length c9 (cells gg) Hr9 := hI_
      show W _ _ [(0, .int .i64 (m)), (6, .bool (false)), (7, .slice A31 ((accV m p a).length) c32), (8, .slice A9 (gg.length) c9), (9, .bool (ff)), (10, .int .i64 ((j : Int))), (20, .bool (f))] (St w (Hr9 ++ (Hr33 ++ [(b1, .cells (p).cs 24 (0, 0))]))) _ _
      refine W.seq ?_
      refine W.seq ?_
      refine W.region [(0, false), (1, false), (2, false), (3, false)] (by kernel_rfl) ?_
      refine T.pure 21 (.int .i64 ((j : Int))) (by kernel_rfl) (fun w => by kernel_rfl) ?_
      refine T.pure 22 (.slice A31 ((accV m p a).length) c32) (by kernel_rfl) (fun w => by kernel_rfl) ?_
      refine T.pure 23 (.int .i64 ((((accV m p a).length : Nat) : Int))) (by kernel_rfl) (fun w => by kernel_rfl) ?_
      refine T.pure 24 (.bool (decide ((j : Int) < (((accV m p a).length : Nat) : Int)))) (by kernel_rfl) (fun w => by kernel_rfl) ?_
      refine T.nil ?_
      refine QN.seq ?_
      refine W.cond (decide ((j : Int) < (((accV m p a).length : Nat) : Int))) (by kernel_rfl) (fun h36 => ?_) (fun h36 => ?_)
      · skip
        have h36' := of_decide_eq_true h36
        have hl37 : j < (accV m p a).length := by omega
        refine W.skip ?_
        refine QN.seq ?_
        refine W.seq ?_
        refine W.block ?_
        refine W.seq ?_
        refine W.region [(0, false), (1, false), (2, false), (3, false), (4, false), (5, false), (6, false), (7, false), (8, false), (9, false), (10, false), (11, false), (12, false), (13, false), (14, false), (15, false)] (by kernel_rfl) ?_
        refine T.pure 27 (.slice A9 (gg.length) c9) (by kernel_rfl) (fun w => by kernel_rfl) ?_
        refine T.pure 28 (.slice A31 ((accV m p a).length) c32) (by kernel_rfl) (fun w => by kernel_rfl) ?_
        refine T.pure 29 (.int .i64 ((j : Int))) (by kernel_rfl) (fun w => by kernel_rfl) ?_
        obtain ⟨b38, o39, hA40, hr41⟩ := ((show Arr (St _ (Hr9 ++ (Hr33 ++ [(b1, .cells (p).cs 24 (0, 0))]))) A31 (accV m p a) from (Arr.row hrow34 (rfl) (rfl) (Hr9 ++ [(b1, .cells (p).cs 24 (0, 0))])).weak (fun w h => h.perm (((List.Perm.refl _).append_left Hr9).trans (List.perm_append_comm_assoc _ _ _))))) j hl37
        refine T.index 30 27 26 22 A31 ((accV m p a).length) c32 ((j : Int)) (j) b38 o39 (by kernel_rfl) (by kernel_rfl) (by kernel_rfl) (by kernel_rfl) hA40 (rfl) (by omega) ?_
        refine T.loadR false 31 (((accV m p a)[j]'hl37)).cs 26 b38 (o39 + j * 22) (by kernel_rfl) (by kernel_rfl) (by kernel_rfl) (by kernel_rfl) hr41 ?_
        refine T.callP 32 35 #[.slice A9 (gg.length) c9, .agg (((accV m p a)[j]'hl37)).cs] (.bool (gg.any (fun x => x == ((accV m p a)[j]'hl37)))) (by kernel_rfl) (by kernel_rfl) ent35 (fun w hw => has12_c gg ((accV m p a)[j]'hl37) A9 c9 w (by first | omega | (simp; done) | (simp; omega)) (Arr.rd (Arr.row hrow9 (rfl) (rfl) _) hw)) (fun _ _ => trivial) ?_
        refine T.pure 33 (.bool (!(gg.any (fun x => x == ((accV m p a)[j]'hl37))))) (by kernel_rfl) (fun w => by kernel_rfl) ?_
        refine T.pure 34 (.bool (!(gg.any (fun x => x == ((accV m p a)[j]'hl37))))) (by kernel_rfl) (fun w => by kernel_rfl) ?_
        refine T.blk [(8, false), (9, false), (10, false), (11, false), (12, false), (13, false), (14, false)] [(15, false)] 7 true (!(gg.any (fun x => x == ((accV m p a)[j]'hl37)))) 34 41 (.bool (allowB m ((accV m p a)[j]'hl37) gg)) (by kernel_rfl) (by kernel_rfl) (by kernel_rfl) (fun hg42 => ?_) ?_
        · have hg42_ := hg42
          have hg42n := not_eq_true hg42
          refine T.pure 35 (.int .i64 (m)) (by kernel_rfl) (fun w => by kernel_rfl) ?_
          refine T.pure 36 (.slice A31 ((accV m p a).length) c32) (by kernel_rfl) (fun w => by kernel_rfl) ?_
          refine T.pure 37 (.int .i64 ((j : Int))) (by kernel_rfl) (fun w => by kernel_rfl) ?_
          obtain ⟨b43, o44, hA45, hr46⟩ := ((show Arr (St _ (Hr9 ++ (Hr33 ++ [(b1, .cells (p).cs 24 (0, 0))]))) A31 (accV m p a) from (Arr.row hrow34 (rfl) (rfl) (Hr9 ++ [(b1, .cells (p).cs 24 (0, 0))])).weak (fun w h => h.perm (((List.Perm.refl _).append_left Hr9).trans (List.perm_append_comm_assoc _ _ _))))) j hl37
          refine T.index 38 27 26 22 A31 ((accV m p a).length) c32 ((j : Int)) (j) b43 o44 (by kernel_rfl) (by kernel_rfl) (by kernel_rfl) (by kernel_rfl) hA45 (rfl) (by omega) ?_
          refine T.loadR false 39 (((accV m p a)[j]'hl37)).cs 26 b43 (o44 + j * 22) (by kernel_rfl) (by kernel_rfl) (by kernel_rfl) (by kernel_rfl) hr46 ?_
          refine T.pure 40 (.slice A9 (gg.length) c9) (by kernel_rfl) (fun w => by kernel_rfl) ?_
          refine T.callP 41 17 #[.int .i64 (m), .agg (((accV m p a)[j]'hl37)).cs, .slice A9 (gg.length) c9] (.bool (allowB m ((accV m p a)[j]'hl37) gg)) (by kernel_rfl) (by kernel_rfl) ent17 (fun w hw => allowed_c _ (by first | assumption | exact w64_and _ _ | exact w64_or _ _ | exact w64_andNot _ _ | (unfold W64; omega)) _ (Vt.Ok.support (hok _ (by first | exact List.getElem_mem _ | exact List.mem_of_mem_take (List.getElem_mem _) | exact (accV_mem (List.getElem_mem _)).1 | exact List.mem_of_mem_take (accV_mem (List.getElem_mem _)).1))) _ _ _ (by first | omega | (simp; done) | (simp; omega)) w (Arr.rd (Arr.row hrow9 (rfl) (rfl) _) hw).v) (fun _ _ => trivial) ?_
          exact T.blkEnd (by kernel_rfl) (fun w h => h)
        refine T.and 42 (!(gg.any (fun x => x == ((accV m p a)[j]'hl37)))) (allowB m ((accV m p a)[j]'hl37) gg) (by kernel_rfl) (by kernel_rfl) ?_
        refine T.nil ?_
        refine QN.seq ?_
        refine W.cond ((!(gg.any (fun x => x == ((accV m p a)[j]'hl37)))) && (allowB m ((accV m p a)[j]'hl37) gg)) (by kernel_rfl) (fun h47 => ?_) (fun h47 => ?_)
        · skip
          have h47l := (Bool.and_eq_true_iff.1 h47).1
          have h47r := (Bool.and_eq_true_iff.1 h47).2
          have h47ln := not_eq_true h47l
          refine W.region [(0, false), (1, false), (2, false), (3, false), (4, false), (5, false), (6, false), (7, false), (8, false)] (by kernel_rfl) ?_
          refine T.pure 43 (.slice A9 (gg.length) c9) (by kernel_rfl) (fun w => by kernel_rfl) ?_
          refine T.pure 44 (.slice A31 ((accV m p a).length) c32) (by kernel_rfl) (fun w => by kernel_rfl) ?_
          refine T.pure 45 (.int .i64 ((j : Int))) (by kernel_rfl) (fun w => by kernel_rfl) ?_
          obtain ⟨b48, o49, hA50, hr51⟩ := ((show Arr (St _ (Hr9 ++ (Hr33 ++ [(b1, .cells (p).cs 24 (0, 0))]))) A31 (accV m p a) from (Arr.row hrow34 (rfl) (rfl) (Hr9 ++ [(b1, .cells (p).cs 24 (0, 0))])).weak (fun w h => h.perm (((List.Perm.refl _).append_left Hr9).trans (List.perm_append_comm_assoc _ _ _))))) j hl37
          refine T.index 46 27 26 22 A31 ((accV m p a).length) c32 ((j : Int)) (j) b48 o49 (by kernel_rfl) (by kernel_rfl) (by kernel_rfl) (by kernel_rfl) hA50 (rfl) (by omega) ?_
          refine T.loadR false 47 (((accV m p a)[j]'hl37)).cs 26 b48 (o49 + j * 22) (by kernel_rfl) (by kernel_rfl) (by kernel_rfl) (by kernel_rfl) hr51 ?_
          refine T.lit 48 27 26 1 #[(0, .agg (((accV m p a)[j]'hl37)).cs)] (cells ([((accV m p a)[j]'hl37)] : List Vt)).toArray (by kernel_rfl) (by kernel_rfl) (by kernel_rfl) (by kernel_rfl) (fun _ _ _ => trivial) (fun b52 => ?_)
          refine T.appC 49 27 26 64 A9 c9 (gg : List Vt) Hr9 b52 0 1 ([((accV m p a)[j]'hl37)] : List Vt) (((List.Perm.refl _).cons _).trans List.perm_middle.symm) (by kernel_rfl) (by kernel_rfl) (by kernel_rfl) (by kernel_rfl) hrow9 (fun w h => St.rangeM h (cells ([((accV m p a)[j]'hl37)] : List Vt)).toArray (List.mem_append_right _ (.head _)) (by kernel_rfl)) (by unfold maxLen; first | omega | (simp; omega)) (by first | omega | (simp; omega)) (fun _ _ _ => trivial) (fun A53 c54 Hr55 hrow56 => ?_)
          refine T.pure 8 (.slice A53 ((gg ++ ([((accV m p a)[j]'hl37)])).length) c54) (by kernel_rfl) (fun w => by kernel_rfl) ?_
          refine T.pure 9 (.bool (true)) (by kernel_rfl) (fun w => by kernel_rfl) ?_
          refine T.nil ?_
          refine QN.blkNormal ?_
          refine QN.seq ?_
          refine W.region [(0, false), (1, false), (2, false)] (by kernel_rfl) ?_
          refine T.pure 25 (.int .i64 ((j : Int))) (by kernel_rfl) (fun w => by kernel_rfl) ?_
          refine T.pureE 26 (.int .i64 (IntKind.i64.wrap ((j : Int) + 1))) (.int .i64 ((j : Int) + 1)) (by kernel_rfl) (fun w => by kernel_rfl) (wrap_int (by omega) (by omega)) ?_
          refine T.pure 10 (.int .i64 ((j : Int) + 1)) (by kernel_rfl) (fun w => by kernel_rfl) ?_
          refine T.nil ?_
          refine QN.back (j + 1, gg ++ ([((accV m p a)[j]'hl37)]), true, A53, c54, Hr55) ?_ ?_ (by kernel_rfl) (fun w h => (h.perm ((List.Perm.refl _).trans (((((List.Perm.refl _).cons _).trans List.perm_middle.symm).trans ((((List.Perm.refl _).cons _).trans (List.Perm.swap _ _ _)).append_left Hr33)).append_left Hr55))).part (List.Sublist.append (List.Sublist.refl _) (List.Sublist.append (List.Sublist.refl _) ((List.nil_sublist _).cons_cons _))))
          · show (j + 1) ≤ (accV m p a).length ∧ LeastI (accV m p a) G (gg ++ ([((accV m p a)[j]'hl37)])) (j + 1) true ∧ (gg ++ ([((accV m p a)[j]'hl37)])).length ≤ (accV m p a).length + (j + 1) ∧ RowIs 26 22 A53 (gg ++ ([((accV m p a)[j]'hl37)])).length c54 (cells (gg ++ ([((accV m p a)[j]'hl37)]))) Hr55
            exact ⟨by omega, least_yes hRb hRs (by omega) hin h47, by rw [List.length_append, List.length_singleton]; omega, hrow56⟩
          · show (accV m p a).length - _ < (accV m p a).length - _; omega
        · skip
          refine W.skip ?_
          refine QN.blkNormal ?_
          refine QN.seq ?_
          refine W.region [(0, false), (1, false), (2, false)] (by kernel_rfl) ?_
          refine T.pure 25 (.int .i64 ((j : Int))) (by kernel_rfl) (fun w => by kernel_rfl) ?_
          refine T.pureE 26 (.int .i64 (IntKind.i64.wrap ((j : Int) + 1))) (.int .i64 ((j : Int) + 1)) (by kernel_rfl) (fun w => by kernel_rfl) (wrap_int (by omega) (by omega)) ?_
          refine T.pure 10 (.int .i64 ((j : Int) + 1)) (by kernel_rfl) (fun w => by kernel_rfl) ?_
          refine T.nil ?_
          refine QN.back (j + 1, gg, ff, A9, c9, Hr9) ?_ ?_ (by kernel_rfl) (fun w h => h)
          · show (j + 1) ≤ (accV m p a).length ∧ LeastI (accV m p a) G gg (j + 1) ff ∧ gg.length ≤ (accV m p a).length + (j + 1) ∧ RowIs 26 22 A9 gg.length c9 (cells gg) Hr9
            exact ⟨by omega, least_no hRb hRs (by omega) hin h47, by omega, hrow9⟩
          · show (accV m p a).length - _ < (accV m p a).length - _; omega
      · skip
        have h36' := of_decide_eq_false h36
        refine W.exit ?_
        refine QN.thenExit ?_
        refine QN.thenExit ?_
        refine QN.blkHit ?_
        refine QN.blkNormal ?_
        have e_j : j = (accV m p a).length := by omega
        refine QN.back (gg, ff, A9, c9, Hr9) ?_ ?_ (by kernel_rfl) (fun w h => h)
        · show (gg = accV m p a ∨ (gg = [] ∧ ff = true)) ∧ RowIs 26 22 A9 gg.length c9 (cells gg) Hr9
          exact ⟨.inl (least_end (e_j ▸ hin)).1, hrow9⟩
        · have hz := (least_end (e_j ▸ hin)).2; have hft : f = true := h35; show (bif _ then 1 else 0) + ((accV m p a).length - _) < (bif f then 1 else 0) + ((accV m p a).length - G.length); rw [hft]; exact hz
    · skip
      refine W.exit ?_
      refine QN.thenExit ?_
      refine QN.thenExit ?_
      refine QN.blkHit ?_
      refine QN.seq ?_
      refine W.seq ?_
      refine W.region [(0, false), (1, false), (2, false), (3, false), (4, false), (5, false), (6, false), (7, false), (8, false)] (by kernel_rfl) ?_
      refine T.pure 50 (.slice A8 (G.length) c8) (by kernel_rfl) (fun w => by kernel_rfl) ?_
      refine T.pure 51 (.int .i64 (((G.length : Nat) : Int))) (by kernel_rfl) (fun w => by kernel_rfl) ?_
      refine T.pure 52 (.slice A31 ((accV m p a).length) c32) (by kernel_rfl) (fun w => by kernel_rfl) ?_
      refine T.pure 53 (.int .i64 ((((accV m p a).length : Nat) : Int))) (by kernel_rfl) (fun w => by kernel_rfl) ?_
      refine T.pure 54 (.bool (((G.length : Nat) : Int) == (((accV m p a).length : Nat) : Int))) (by kernel_rfl) (fun w => by kernel_rfl) ?_
      refine T.pure 55 (.bool (((G.length : Nat) : Int) == (((accV m p a).length : Nat) : Int))) (by kernel_rfl) (fun w => by kernel_rfl) ?_
      refine T.blk [(6, false)] [(7, false), (8, false)] 5 true (((G.length : Nat) : Int) == (((accV m p a).length : Nat) : Int)) 55 56 (.bool (true)) (by kernel_rfl) (by kernel_rfl) (by kernel_rfl) (fun hg57 => ?_) ?_
      · have hg57_ := hg57
        have hg57' := eq_of_beq hg57
        refine T.callP 56 38 #[] (.bool (true)) (by kernel_rfl) (by kernel_rfl) ent38 (fun w hw => awake_c w) (fun _ _ => trivial) ?_
        exact T.blkEnd (by kernel_rfl) (fun w h => h)
      refine T.and 57 (((G.length : Nat) : Int) == (((accV m p a).length : Nat) : Int)) (true) (by kernel_rfl) (by kernel_rfl) ?_
      refine T.pure 6 (.bool ((((G.length : Nat) : Int) == (((accV m p a).length : Nat) : Int)) && true)) (by kernel_rfl) (fun w => by kernel_rfl) ?_
      refine T.nil ?_
      refine QN.seq ?_
      refine W.ret ?_
      refine QN.done (.inl rfl) 6 (.bool ((((G.length : Nat) : Int) == (((accV m p a).length : Nat) : Int)) && true)) rfl (by kernel_rfl) (fun w hw => ⟨?_, hw.below⟩)
      exact ret_bool (least_fin hG h35)
theorem AcceptLeast_w (w : World) (a0 : Int) (v1 : Value) (x1 : Nm) (v2 : Value) (x2 : List Vt) (h0 : W64 a0) (h1 : v1 = .agg x1.cs) (h2 : VS w v2 x2) : Calls Try.prog 11 #[.int .i64 a0, v1, v2] w fun e w' => e = .returned (.bool true) ∧ Below w.heap.size w w' := by
  obtain rfl := h1
  obtain ⟨A2, c2, rfl, l2, m2, r2, k2⟩ := h2
  exact AcceptLeast_c _ _ _ _ _ w h0 k2 l2 m2 r2.rd
end Go.Proofs.Ythhgdkodhokefaa
