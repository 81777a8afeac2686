/- The accepted votes of a list. -/
import Derived.Test.YthhgdkodhokefaaAsc
import Derived.Test.YthhgdkodhokefaaSl
import Derived.Test.YthhgdkodhokefaaAllowed
namespace Go.Proofs.Ythhgdkodhokefaa
open Go Go.RowKit
set_option linter.unusedVariables false

def acc1 (m : Int) (a : List Vt × Nat) (v : Vt) : List Vt × Nat :=
  let s := if (decide ((a.1.length : Int) > (a.2 : Int)) && (a.1[a.2]!.slot != v.slot)) = true then a.1.length else a.2
  if allowB m v (a.1.drop s) = true then (a.1 ++ [v], s) else (a.1, s)
def accV (m : Int) (p : Nm) (l : List Vt) : List Vt := ((ascV p l).foldl (acc1 m) ([], 0)).1
theorem insV_len (x : Vt) : ∀ r : List Vt, (insV x r).length ≤ r.length + 1
  | [] => by simp [insV]
  | y :: r => by
    have := insV_len x r
    unfold insV
    split
    · simp
    · split <;> simp <;> omega
theorem ascV_len (p : Nm) (l : List Vt) : (ascV p l).length ≤ l.length := by
  have h1 : ∀ r : List Vt, (r.foldr insV []).length ≤ r.length := by
    intro r
    induction r with
    | nil => simp
    | cons a r ih => have := insV_len a (r.foldr insV []); simp only [List.foldr_cons, List.length_cons]; omega
  exact Nat.le_trans (h1 _) (List.length_filter_le _ _)
theorem acc_bk {m : Int} {av acc : List Vt} {k s : Nat} (hk : k < av.length) (h : (av.take k).foldl (acc1 m) ([], 0) = (acc, s)) : (av.take (k + 1)).foldl (acc1 m) ([], 0) = acc1 m (acc, s) av[k] := by
  rw [List.take_succ_eq_append_getElem hk, List.foldl_append, h]; rfl
theorem acc1_at {m : Int} {acc : List Vt} {s s' : Nat} {v : Vt} {b1 b2 : Bool} (h1 : (decide ((acc.length : Int) > (s : Int)) && (acc[s]!.slot != v.slot)) = b1) (hs : (bif b1 then acc.length else s) = s') (h2 : (!allowB m v (acc.drop s')) = b2) : acc1 m (acc, s) v = (bif b2 then acc else acc ++ [v], s') := by
  subst hs h2
  unfold acc1
  simp only [h1]
  cases b1 <;> simp only [cond_true, cond_false, if_true, Bool.false_eq_true, if_false]
  · cases allowB m v (acc.drop s) <;> rfl
  · cases allowB m v (acc.drop acc.length) <;> rfl
theorem acc_range {w : World} {b o : Nat} {acc : List Vt} {s : Nat} (hl : s < acc.length) {Φ : World → Prop} (h : ∀ w, Φ w → w.rangeAt b o (Cel.cs acc[s]).toList) : ∀ w, Φ w → w.rangeAt b o (Cel.cs acc[s]!).toList := by
  rw [getElem!_pos acc s hl]; exact h
theorem RowIs.cap {ty : TypeId} {sz n c : Nat} {A : Option Addr} {xs : List Value} {Hr : List (Nat × Obj)} (h : RowIs ty sz A n c xs Hr) : n ≤ c := by
  cases h
  · exact Nat.le_refl _
  · assumption
set_option maxRecDepth 100000 in
set_option maxHeartbeats 2000000 in
theorem accepted_c (m : Int) (p : Nm) (l : List Vt) (A : Option Addr) (c : Nat) (w : World) (hm : W64 m) (hok : ∀ u ∈ l, W64 u.support) (hl : l.length ≤ 1000) (hr : Rd w A l) : Calls Try.prog 34 #[.int .i64 (m), .agg (p).cs, .slice A (l.length) c] w (fun r w' => ∃ A c Hr, r = .returned (.slice A (accV m p l).length c) ∧ RowIs 26 22 A (accV m p l).length c (cells (accV m p l)) Hr ∧ St w Hr w') := by
  have hsu : ∀ u ∈ ascV p l, W64 u.support := fun u hu => hok u ((ascV_mem p l u).1 hu).1
  refine calls_W (n := 48) Try.func34 rfl [(0, .int .i64 (m)), (1, .agg (p).cs), (2, .slice A (l.length) c)] rfl ⟨by kernel_rfl, by kernel_rfl⟩ ?_
  refine W.weak (Ψ := St w []) (fun w' h => by rw [h]; exact St.start w) ?_
  refine W.seq ?_
  refine W.region [(0, false), (1, false)] (by kernel_rfl) ?_
  refine T.box 4 24 (.agg (p).cs) ((p).cs) (by kernel_rfl) (by kernel_rfl) (by kernel_rfl) (fun _ _ _ => trivial) (fun b1 => ?_)
  refine T.pure 6 (.slice none (0) 0) (by kernel_rfl) (fun w => by kernel_rfl) ?_
  refine T.nil ?_
  refine QN.seq ?_
  refine W.scope ?_
  refine W.seq ?_
  refine W.region [(0, false)] (by kernel_rfl) ?_
  refine T.pure 7 (.slice none (0) 0) (by kernel_rfl) (fun w => by kernel_rfl) ?_
  refine T.nil ?_
  refine QN.seq ?_
  refine W.seq ?_
  refine W.region [(0, false)] (by kernel_rfl) ?_
  refine T.pure 8 (.int .i64 (0)) (by kernel_rfl) (fun w => by kernel_rfl) ?_
  refine T.nil ?_
  refine QN.seq ?_
  refine W.seq ?_
  refine W.label ?_
  refine QN.seq ?_
  refine W.seq ?_
  refine W.seq ?_
  refine W.region [(0, false), (1, false), (2, false), (3, false), (4, false)] (by kernel_rfl) ?_
  refine T.loadR false 11 (p).cs 24 b1 0 (by kernel_rfl) (by kernel_rfl) (by kernel_rfl) (by kernel_rfl) (fun w h => St.rangeM h (p).cs (.head _) (by kernel_rfl)) ?_
  refine T.pure 12 (.slice A (l.length) c) (by kernel_rfl) (fun w => by kernel_rfl) ?_
  refine T.callR 13 65 #[.agg (p).cs, .slice A (l.length) c] 26 22 (ascV p l).length (cells (ascV p l)) (by kernel_rfl) (by kernel_rfl) ent65 (fun w hw => asc_c p l A c w (by first | omega | (simp; done) | (simp; omega)) (Arr.rd (Rd.arr hr _) hw)) (fun _ _ _ => trivial) (fun A2 c3 Hr4 hrow5 => ?_)
  refine T.pure 14 (.int .i64 ((((ascV p l).length : Nat) : Int))) (by kernel_rfl) (fun w => by kernel_rfl) ?_
  refine T.pure 15 (.int .i64 (0)) (by kernel_rfl) (fun w => by kernel_rfl) ?_
  refine T.nil ?_
  refine QN.seq ?_
  refine W.block ?_
  have hav := ascV_len p l
  refine W.loop (σ := Nat × List Vt × Nat × Option Addr × Nat × List (Nat × Obj)) (fun gs => gs.1 ≤ (ascV p l).length ∧ ((ascV p l).take gs.1).foldl (acc1 m) ([], 0) = (gs.2.1, gs.2.2.1) ∧ gs.2.2.1 ≤ gs.2.1.length ∧ gs.2.1.length ≤ gs.1 ∧ RowIs 26 22 gs.2.2.2.1 gs.2.1.length gs.2.2.2.2.1 (cells gs.2.1) gs.2.2.2.2.2) (fun gs => [(0, .int .i64 (m)), (6, .slice none (0) 0), (7, .slice gs.2.2.2.1 (gs.2.1.length) gs.2.2.2.2.1), (8, .int .i64 ((gs.2.2.1 : Int))), (13, .slice A2 ((ascV p l).length) c3), (14, .int .i64 ((((ascV p l).length : Nat) : Int))), (15, .int .i64 ((gs.1 : Int)))]) (fun gs => St w (gs.2.2.2.2.2 ++ (Hr4 ++ [(b1, .cells (p).cs 24 (0, 0))]))) (fun gs => (ascV p l).length - gs.1) (0, [], 0, none, 0, []) ?_ (by kernel_rfl) (fun w h => h) ?_
  · show 0 ≤ (ascV p l).length ∧ ((ascV p l).take 0).foldl (acc1 m) ([], 0) = (([]), 0) ∧ 0 ≤ ([]).length ∧ ([]).length ≤ 0 ∧ RowIs 26 22 none ([]).length 0 (cells ([])) ([])
    exact ⟨Nat.zero_le _, rfl, Nat.le_refl _, Nat.le_refl _, RowIs.nil⟩
  rintro ⟨k, acc, s, A7, c7, Hr7⟩ hI_
  obtain ⟨hk, hfo, hsl, hal, hrow7⟩ : k ≤ (ascV p l).length ∧ ((ascV p l).take k).foldl (acc1 m) ([], 0) = (acc, s) ∧ s ≤ acc.length ∧ acc.length ≤ k ∧ RowIs 26 22 A7 acc.length c7 (cells acc) Hr7 := hI_
  have hcap := hrow7.cap
  show W _ _ [(0, .int .i64 (m)), (6, .slice none (0) 0), (7, .slice A7 (acc.length) c7), (8, .int .i64 ((s : Int))), (13, .slice A2 ((ascV p l).length) c3), (14, .int .i64 ((((ascV p l).length : Nat) : Int))), (15, .int .i64 ((k : Int)))] (St w (Hr7 ++ (Hr4 ++ [(b1, .cells (p).cs 24 (0, 0))]))) _ _
  refine W.seq ?_
  refine W.region [(0, false)] (by kernel_rfl) ?_
  refine T.pure 16 (.bool (decide ((k : Int) < (((ascV p l).length : Nat) : Int)))) (by kernel_rfl) (fun w => by kernel_rfl) ?_
  refine T.nil ?_
  refine QN.seq ?_
  refine W.seq ?_
  refine W.cond (decide ((k : Int) < (((ascV p l).length : Nat) : Int))) (by kernel_rfl) (fun h6 => ?_) (fun h6 => ?_)
  · skip
    have h6' := of_decide_eq_true h6
    have hl7 : k < (ascV p l).length := by omega
    refine W.skip ?_
    refine QN.seq ?_
    refine W.seq ?_
    refine W.block ?_
    refine W.seq ?_
    refine W.region [(0, false), (1, false), (2, false), (3, false)] (by kernel_rfl) ?_
    obtain ⟨b8, o9, hA10, hr11⟩ := ((show Arr (St _ (Hr7 ++ (Hr4 ++ [(b1, .cells (p).cs 24 (0, 0))]))) A2 (ascV p l) from (Arr.row hrow5 (rfl) (rfl) (Hr7 ++ [(b1, .cells (p).cs 24 (0, 0))])).weak (fun w h => h.perm (((List.Perm.refl _).append_left Hr7).trans (List.perm_append_comm_assoc _ _ _))))) k hl7
    refine T.index 17 27 26 22 A2 ((ascV p l).length) c3 ((k : Int)) (k) b8 o9 (by kernel_rfl) (by kernel_rfl) (by kernel_rfl) (by kernel_rfl) hA10 (rfl) (by omega) ?_
    refine T.loadR false 18 (((ascV p l)[k]'hl7)).cs 26 b8 (o9 + k * 22) (by kernel_rfl) (by kernel_rfl) (by kernel_rfl) (by kernel_rfl) hr11 ?_
    refine T.alloc 10 26 (Vt.zero).cs (by kernel_rfl) (by kernel_rfl) (by kernel_rfl) (fun _ _ _ => trivial) (fun b12 => ?_)
    refine T.storeP 26 b12 0 (.agg (((ascV p l)[k]'hl7)).cs) (Vt.zero).cs (((ascV p l)[k]'hl7)).cs 26 (by kernel_rfl) (by kernel_rfl) (by kernel_rfl) (by kernel_rfl) (by kernel_rfl) (by kernel_rfl) (List.Perm.refl _) (fun _ _ => trivial) ?_
    refine T.nil ?_
    refine QN.seq ?_
    refine W.seq ?_
    refine W.seq ?_
    refine W.drawn (Ψ := St w ((b12, .cells (((ascV p l)[k]'hl7)).cs 26 (0, 0)) :: (Hr7 ++ (Hr4 ++ [(b1, .cells (p).cs 24 (0, 0))])))) (St w ((b12, .cells (((ascV p l)[k]'hl7)).cs 26 (0, 0)) :: (Hr7 ++ (Hr4 ++ [(b1, .cells (p).cs 24 (0, 0))])))) [(0, true), (1, true), (2, true), (3, true), (4, true), (5, true), (6, true), (7, true), (8, true), (9, true), (10, true), (11, true), (12, true), (13, true)] hmx (by kernel_rfl) (NoPanic.then (NoPanic.then (NoPanic.inBlock (NoPanic.then (NoPanic.then (NoPanic.inBlock (NoPanic.then (NoPanic.noGoto (NoPanic.body))))))))) (fun w h => h.drew) (fun w h => h) ?_
    refine T.pure 19 (.slice A7 (acc.length) c7) (by kernel_rfl) (fun w => by kernel_rfl) ?_
    refine T.pure 20 (.int .i64 (((acc.length : Nat) : Int))) (by kernel_rfl) (fun w => by kernel_rfl) ?_
    refine T.pure 21 (.int .i64 ((s : Int))) (by kernel_rfl) (fun w => by kernel_rfl) ?_
    refine T.pure 22 (.bool (decide ((s : Int) < ((acc.length : Nat) : Int)))) (by kernel_rfl) (fun w => by kernel_rfl) ?_
    refine T.pure 23 (.bool (decide ((s : Int) < ((acc.length : Nat) : Int)))) (by kernel_rfl) (fun w => by kernel_rfl) ?_
    refine T.blk [(5, true), (6, true), (7, true), (8, true), (9, true), (10, true), (11, true), (12, true)] [(13, true)] 4 true (decide ((s : Int) < ((acc.length : Nat) : Int))) 23 31 (.bool ((((acc[s]!)).slot) != ((((ascV p l)[k]'hl7)).slot))) (by kernel_rfl) (by kernel_rfl) (by kernel_rfl) (fun hg13 => ?_) ?_
    · have hg13_ := hg13
      have hg13' := of_decide_eq_true hg13
      refine T.pure 24 (.slice A7 (acc.length) c7) (by kernel_rfl) (fun w => by kernel_rfl) ?_
      refine T.pure 25 (.int .i64 ((s : Int))) (by kernel_rfl) (fun w => by kernel_rfl) ?_
      have hls : s < acc.length := by omega
      obtain ⟨bx, ox, hAx, hrx⟩ := ((show Arr (St _ ((b12, .cells (((ascV p l)[k]'hl7)).cs 26 (0, 0)) :: (Hr7 ++ (Hr4 ++ [(b1, .cells (p).cs 24 (0, 0))])))) A7 acc from (Arr.row hrow7 (rfl) (rfl) ((b12, .cells (((ascV p l)[k]'hl7)).cs 26 (0, 0)) :: (Hr4 ++ [(b1, .cells (p).cs 24 (0, 0))]))).weak (fun w h => h.perm (((List.Perm.refl _).cons _).trans List.perm_middle.symm)))) s hls
      have hry := acc_range (w := w) hls hrx
      refine T.index 26 27 26 22 A7 (acc.length) c7 ((s : Int)) s bx ox (by kernel_rfl) (by kernel_rfl) (by kernel_rfl) (by kernel_rfl) hAx rfl (by omega) ?_
      refine T.pure 27 (.pointer (some ⟨bx, ox + s * 22 + 1, none⟩)) (by kernel_rfl) (fun w => by kernel_rfl) ?_
      refine T.load true 28 (.int .i64 (((acc[s]!)).slot)) 3 bx (ox + s * 22 + 1) (by kernel_rfl) (by kernel_rfl) (by kernel_rfl) (fun w h => cell_of_range (hry w h) 1 (by kernel_rfl)) ?_
      refine T.pure 29 (.pointer (some ⟨b12, 1, none⟩)) (by kernel_rfl) (fun w => by kernel_rfl) ?_
      refine T.load true 30 (.int .i64 ((((ascV p l)[k]'hl7)).slot)) 3 b12 1 (by kernel_rfl) (by kernel_rfl) (by kernel_rfl) (fun w h => St.cellM h (.head _) (by kernel_rfl)) ?_
      refine T.pure 31 (.bool ((((acc[s]!)).slot) != ((((ascV p l)[k]'hl7)).slot))) (by kernel_rfl) (fun w => by kernel_rfl) ?_
      exact T.blkEnd (by kernel_rfl) (fun w h => h)
    refine T.and 32 (decide ((s : Int) < ((acc.length : Nat) : Int))) ((((acc[s]!)).slot) != ((((ascV p l)[k]'hl7)).slot)) (by kernel_rfl) (by kernel_rfl) ?_
    refine T.nil ?_
    refine QN.seq ?_
    refine W.cond ((decide ((s : Int) < ((acc.length : Nat) : Int))) && ((((acc[s]!)).slot) != ((((ascV p l)[k]'hl7)).slot))) (by kernel_rfl) (fun h14 => ?_) (fun h14 => ?_)
    · skip
      have h14l := (Bool.and_eq_true_iff.1 h14).1
      have h14r := (Bool.and_eq_true_iff.1 h14).2
      have h14l' := of_decide_eq_true h14l
      refine W.region [(0, false), (1, false), (2, false)] (by kernel_rfl) ?_
      refine T.pure 33 (.slice A7 (acc.length) c7) (by kernel_rfl) (fun w => by kernel_rfl) ?_
      refine T.pure 34 (.int .i64 (((acc.length : Nat) : Int))) (by kernel_rfl) (fun w => by kernel_rfl) ?_
      refine T.pure 8 (.int .i64 (((acc.length : Nat) : Int))) (by kernel_rfl) (fun w => by kernel_rfl) ?_
      refine T.nil ?_
      refine QN.seq ?_
      refine W.seq ?_
      refine W.seq ?_
      refine W.drawn (Ψ := St w ((b12, .cells (((ascV p l)[k]'hl7)).cs 26 (0, 0)) :: (Hr7 ++ (Hr4 ++ [(b1, .cells (p).cs 24 (0, 0))])))) (St w ((b12, .cells (((ascV p l)[k]'hl7)).cs 26 (0, 0)) :: (Hr7 ++ (Hr4 ++ [(b1, .cells (p).cs 24 (0, 0))])))) [(0, true), (1, true), (2, true), (3, true), (4, true), (5, false), (6, true)] hmx (by kernel_rfl) (NoPanic.then (NoPanic.then (NoPanic.inBlock (NoPanic.then (NoPanic.then (NoPanic.inBlock (NoPanic.then (NoPanic.noGoto (NoPanic.body))))))))) (fun w h => h.drew) (fun w h => h) ?_
      refine T.pure 35 (.int .i64 (m)) (by kernel_rfl) (fun w => by kernel_rfl) ?_
      refine T.loadR true 36 (((ascV p l)[k]'hl7)).cs 26 b12 0 (by kernel_rfl) (by kernel_rfl) (by kernel_rfl) (by kernel_rfl) (fun w h => St.rangeM h (((ascV p l)[k]'hl7)).cs (.head _) (by kernel_rfl)) ?_
      refine T.pure 37 (.slice A7 (acc.length) c7) (by kernel_rfl) (fun w => by kernel_rfl) ?_
      refine T.pure 38 (.int .i64 (((acc.length : Nat) : Int))) (by kernel_rfl) (fun w => by kernel_rfl) ?_
      refine T.sliceFrom 39 27 26 22 A7 (acc.length) c7 (((acc.length : Nat) : Int)) acc.length ((acc.drop acc.length).length) (by kernel_rfl) (by kernel_rfl) (by kernel_rfl) (by kernel_rfl) (by omega) (by omega) (by simp) ?_
      refine T.callP 40 17 #[.int .i64 (m), .agg (((ascV p l)[k]'hl7)).cs, .slice (offA A7 c7 acc.length 22) ((acc.drop acc.length).length) (c7 - acc.length)] (.bool (allowB m ((ascV p l)[k]'hl7) (acc.drop acc.length))) (by kernel_rfl) (by kernel_rfl) ent17 (fun w hw => allowed_c _ (by first | assumption | exact w64_and _ _ | exact w64_or _ _ | exact w64_andNot _ _ | (unfold W64; omega)) _ (hsu _ (List.getElem_mem _)) _ _ _ (by first | omega | (simp; done) | (simp; omega)) w (Arr.rd (Arr.drop ((show Arr (St _ ((b12, .cells (((ascV p l)[k]'hl7)).cs 26 (0, 0)) :: (Hr7 ++ (Hr4 ++ [(b1, .cells (p).cs 24 (0, 0))])))) A7 acc from (Arr.row hrow7 (rfl) (rfl) ((b12, .cells (((ascV p l)[k]'hl7)).cs 26 (0, 0)) :: (Hr4 ++ [(b1, .cells (p).cs 24 (0, 0))]))).weak (fun w h => h.perm (((List.Perm.refl _).cons _).trans List.perm_middle.symm)))) c7 acc.length (by omega)) hw).v) (fun w h => h) ?_
      refine T.pure 41 (.bool (!(allowB m ((ascV p l)[k]'hl7) (acc.drop acc.length)))) (by kernel_rfl) (fun w => by kernel_rfl) ?_
      refine T.nil ?_
      refine QN.seq ?_
      refine W.cond (!(allowB m ((ascV p l)[k]'hl7) (acc.drop acc.length))) (by kernel_rfl) (fun h15 => ?_) (fun h15 => ?_)
      · skip
        have h15n := not_eq_true h15
        refine W.exit ?_
        refine QN.thenExit ?_
        refine QN.blkHit ?_
        refine QN.seq ?_
        refine W.region [(0, false), (1, false)] (by kernel_rfl) ?_
        refine T.pureE 46 (.int .i64 (IntKind.i64.wrap ((k : Int) + 1))) (.int .i64 ((k : Int) + 1)) (by kernel_rfl) (fun w => by kernel_rfl) (wrap_int (by omega) (by omega)) ?_
        refine T.pure 15 (.int .i64 ((k : Int) + 1)) (by kernel_rfl) (fun w => by kernel_rfl) ?_
        refine T.nil ?_
        refine QN.back (k + 1, acc, acc.length, A7, c7, Hr7) ?_ ?_ (by kernel_rfl) (fun w h => (h.perm ((((List.Perm.refl _).cons _).trans List.perm_middle.symm).trans (((((List.Perm.refl _).cons _).trans List.perm_middle.symm).trans ((((List.Perm.refl _).cons _).trans (List.Perm.swap _ _ _)).append_left Hr4)).append_left Hr7))).part (List.Sublist.append (List.Sublist.refl _) (List.Sublist.append (List.Sublist.refl _) ((List.nil_sublist _).cons_cons _))))
        · show (k + 1) ≤ (ascV p l).length ∧ ((ascV p l).take (k + 1)).foldl (acc1 m) ([], 0) = (acc, acc.length) ∧ acc.length ≤ acc.length ∧ acc.length ≤ (k + 1) ∧ RowIs 26 22 A7 acc.length c7 (cells acc) Hr7
          exact ⟨by omega, (acc_bk (by omega) hfo).trans (acc1_at h14 rfl h15), by omega, by omega, hrow7⟩
        · show (ascV p l).length - _ < (ascV p l).length - _; omega
      · skip
        have h15n := not_eq_false h15
        refine W.skip ?_
        refine QN.seq ?_
        refine W.region [(0, false), (1, false), (2, false), (3, false), (4, false)] (by kernel_rfl) ?_
        refine T.pure 42 (.slice A7 (acc.length) c7) (by kernel_rfl) (fun w => by kernel_rfl) ?_
        refine T.loadR false 43 (((ascV p l)[k]'hl7)).cs 26 b12 0 (by kernel_rfl) (by kernel_rfl) (by kernel_rfl) (by kernel_rfl) (fun w h => St.rangeM h (((ascV p l)[k]'hl7)).cs (.head _) (by kernel_rfl)) ?_
        refine T.lit 44 27 26 1 #[(0, .agg (((ascV p l)[k]'hl7)).cs)] (cells ([((ascV p l)[k]'hl7)] : List Vt)).toArray (by kernel_rfl) (by kernel_rfl) (by kernel_rfl) (by kernel_rfl) (fun _ _ _ => trivial) (fun b16 => ?_)
        refine T.appC 45 27 26 64 A7 c7 (acc : List Vt) Hr7 b16 0 1 ([((ascV p l)[k]'hl7)] : List Vt) (((((List.Perm.refl _).cons _).trans List.perm_middle.symm).cons _).trans List.perm_middle.symm) (by kernel_rfl) (by kernel_rfl) (by kernel_rfl) (by kernel_rfl) hrow7 (fun w h => St.rangeM h (cells ([((ascV p l)[k]'hl7)] : List Vt)).toArray (List.mem_append_right _ (.head _)) (by kernel_rfl)) (by unfold maxLen; first | omega | (simp; omega)) (by first | omega | (simp; omega)) (fun _ _ _ => trivial) (fun A17 c18 Hr19 hrow20 => ?_)
        refine T.pure 7 (.slice A17 ((acc ++ ([((ascV p l)[k]'hl7)])).length) c18) (by kernel_rfl) (fun w => by kernel_rfl) ?_
        refine T.nil ?_
        refine QN.blkNormal ?_
        refine QN.seq ?_
        refine W.region [(0, false), (1, false)] (by kernel_rfl) ?_
        refine T.pureE 46 (.int .i64 (IntKind.i64.wrap ((k : Int) + 1))) (.int .i64 ((k : Int) + 1)) (by kernel_rfl) (fun w => by kernel_rfl) (wrap_int (by omega) (by omega)) ?_
        refine T.pure 15 (.int .i64 ((k : Int) + 1)) (by kernel_rfl) (fun w => by kernel_rfl) ?_
        refine T.nil ?_
        refine QN.back (k + 1, acc ++ ([((ascV p l)[k]'hl7)]), acc.length, A17, c18, Hr19) ?_ ?_ (by kernel_rfl) (fun w h => (h.perm ((List.Perm.refl _).trans (((((((List.Perm.refl _).cons _).trans List.perm_middle.symm).cons _).trans List.perm_middle.symm).trans ((((((List.Perm.refl _).cons _).trans (List.Perm.swap _ _ _)).cons _).trans (List.Perm.swap _ _ _)).append_left Hr4)).append_left Hr19))).part (List.Sublist.append (List.Sublist.refl _) (List.Sublist.append (List.Sublist.refl _) ((List.nil_sublist _).cons_cons _))))
        · show (k + 1) ≤ (ascV p l).length ∧ ((ascV p l).take (k + 1)).foldl (acc1 m) ([], 0) = ((acc ++ ([((ascV p l)[k]'hl7)])), acc.length) ∧ acc.length ≤ (acc ++ ([((ascV p l)[k]'hl7)])).length ∧ (acc ++ ([((ascV p l)[k]'hl7)])).length ≤ (k + 1) ∧ RowIs 26 22 A17 (acc ++ ([((ascV p l)[k]'hl7)])).length c18 (cells (acc ++ ([((ascV p l)[k]'hl7)]))) Hr19
          exact ⟨by omega, (acc_bk (by omega) hfo).trans (acc1_at h14 rfl h15), by rw [List.length_append]; omega, by rw [List.length_append, List.length_singleton]; omega, hrow20⟩
        · show (ascV p l).length - _ < (ascV p l).length - _; omega
    · skip
      refine W.skip ?_
      refine QN.seq ?_
      refine W.seq ?_
      refine W.seq ?_
      refine W.drawn (Ψ := St w ((b12, .cells (((ascV p l)[k]'hl7)).cs 26 (0, 0)) :: (Hr7 ++ (Hr4 ++ [(b1, .cells (p).cs 24 (0, 0))])))) (St w ((b12, .cells (((ascV p l)[k]'hl7)).cs 26 (0, 0)) :: (Hr7 ++ (Hr4 ++ [(b1, .cells (p).cs 24 (0, 0))])))) [(0, true), (1, true), (2, true), (3, true), (4, true), (5, false), (6, true)] hmx (by kernel_rfl) (NoPanic.then (NoPanic.then (NoPanic.inBlock (NoPanic.then (NoPanic.then (NoPanic.inBlock (NoPanic.then (NoPanic.noGoto (NoPanic.body))))))))) (fun w h => h.drew) (fun w h => h) ?_
      refine T.pure 35 (.int .i64 (m)) (by kernel_rfl) (fun w => by kernel_rfl) ?_
      refine T.loadR true 36 (((ascV p l)[k]'hl7)).cs 26 b12 0 (by kernel_rfl) (by kernel_rfl) (by kernel_rfl) (by kernel_rfl) (fun w h => St.rangeM h (((ascV p l)[k]'hl7)).cs (.head _) (by kernel_rfl)) ?_
      refine T.pure 37 (.slice A7 (acc.length) c7) (by kernel_rfl) (fun w => by kernel_rfl) ?_
      refine T.pure 38 (.int .i64 ((s : Int))) (by kernel_rfl) (fun w => by kernel_rfl) ?_
      refine T.sliceFrom 39 27 26 22 A7 (acc.length) c7 ((s : Int)) s ((acc.drop s).length) (by kernel_rfl) (by kernel_rfl) (by kernel_rfl) (by kernel_rfl) (by omega) (by omega) (by simp) ?_
      refine T.callP 40 17 #[.int .i64 (m), .agg (((ascV p l)[k]'hl7)).cs, .slice (offA A7 c7 s 22) ((acc.drop s).length) (c7 - s)] (.bool (allowB m ((ascV p l)[k]'hl7) (acc.drop s))) (by kernel_rfl) (by kernel_rfl) ent17 (fun w hw => allowed_c _ (by first | assumption | exact w64_and _ _ | exact w64_or _ _ | exact w64_andNot _ _ | (unfold W64; omega)) _ (hsu _ (List.getElem_mem _)) _ _ _ (by first | omega | (simp; done) | (simp; omega)) w (Arr.rd (Arr.drop ((show Arr (St _ ((b12, .cells (((ascV p l)[k]'hl7)).cs 26 (0, 0)) :: (Hr7 ++ (Hr4 ++ [(b1, .cells (p).cs 24 (0, 0))])))) A7 acc from (Arr.row hrow7 (rfl) (rfl) ((b12, .cells (((ascV p l)[k]'hl7)).cs 26 (0, 0)) :: (Hr4 ++ [(b1, .cells (p).cs 24 (0, 0))]))).weak (fun w h => h.perm (((List.Perm.refl _).cons _).trans List.perm_middle.symm)))) c7 s (by omega)) hw).v) (fun w h => h) ?_
      refine T.pure 41 (.bool (!(allowB m ((ascV p l)[k]'hl7) (acc.drop s)))) (by kernel_rfl) (fun w => by kernel_rfl) ?_
      refine T.nil ?_
      refine QN.seq ?_
      refine W.cond (!(allowB m ((ascV p l)[k]'hl7) (acc.drop s))) (by kernel_rfl) (fun h21 => ?_) (fun h21 => ?_)
      · skip
        have h21n := not_eq_true h21
        refine W.exit ?_
        refine QN.thenExit ?_
        refine QN.blkHit ?_
        refine QN.seq ?_
        refine W.region [(0, false), (1, false)] (by kernel_rfl) ?_
        refine T.pureE 46 (.int .i64 (IntKind.i64.wrap ((k : Int) + 1))) (.int .i64 ((k : Int) + 1)) (by kernel_rfl) (fun w => by kernel_rfl) (wrap_int (by omega) (by omega)) ?_
        refine T.pure 15 (.int .i64 ((k : Int) + 1)) (by kernel_rfl) (fun w => by kernel_rfl) ?_
        refine T.nil ?_
        refine QN.back (k + 1, acc, s, A7, c7, Hr7) ?_ ?_ (by kernel_rfl) (fun w h => (h.perm ((((List.Perm.refl _).cons _).trans List.perm_middle.symm).trans (((((List.Perm.refl _).cons _).trans List.perm_middle.symm).trans ((((List.Perm.refl _).cons _).trans (List.Perm.swap _ _ _)).append_left Hr4)).append_left Hr7))).part (List.Sublist.append (List.Sublist.refl _) (List.Sublist.append (List.Sublist.refl _) ((List.nil_sublist _).cons_cons _))))
        · show (k + 1) ≤ (ascV p l).length ∧ ((ascV p l).take (k + 1)).foldl (acc1 m) ([], 0) = (acc, s) ∧ s ≤ acc.length ∧ acc.length ≤ (k + 1) ∧ RowIs 26 22 A7 acc.length c7 (cells acc) Hr7
          exact ⟨by omega, (acc_bk (by omega) hfo).trans (acc1_at h14 rfl h21), by omega, by omega, hrow7⟩
        · show (ascV p l).length - _ < (ascV p l).length - _; omega
      · skip
        have h21n := not_eq_false h21
        refine W.skip ?_
        refine QN.seq ?_
        refine W.region [(0, false), (1, false), (2, false), (3, false), (4, false)] (by kernel_rfl) ?_
        refine T.pure 42 (.slice A7 (acc.length) c7) (by kernel_rfl) (fun w => by kernel_rfl) ?_
        refine T.loadR false 43 (((ascV p l)[k]'hl7)).cs 26 b12 0 (by kernel_rfl) (by kernel_rfl) (by kernel_rfl) (by kernel_rfl) (fun w h => St.rangeM h (((ascV p l)[k]'hl7)).cs (.head _) (by kernel_rfl)) ?_
        refine T.lit 44 27 26 1 #[(0, .agg (((ascV p l)[k]'hl7)).cs)] (cells ([((ascV p l)[k]'hl7)] : List Vt)).toArray (by kernel_rfl) (by kernel_rfl) (by kernel_rfl) (by kernel_rfl) (fun _ _ _ => trivial) (fun b22 => ?_)
        refine T.appC 45 27 26 64 A7 c7 (acc : List Vt) Hr7 b22 0 1 ([((ascV p l)[k]'hl7)] : List Vt) (((((List.Perm.refl _).cons _).trans List.perm_middle.symm).cons _).trans List.perm_middle.symm) (by kernel_rfl) (by kernel_rfl) (by kernel_rfl) (by kernel_rfl) hrow7 (fun w h => St.rangeM h (cells ([((ascV p l)[k]'hl7)] : List Vt)).toArray (List.mem_append_right _ (.head _)) (by kernel_rfl)) (by unfold maxLen; first | omega | (simp; omega)) (by first | omega | (simp; omega)) (fun _ _ _ => trivial) (fun A23 c24 Hr25 hrow26 => ?_)
        refine T.pure 7 (.slice A23 ((acc ++ ([((ascV p l)[k]'hl7)])).length) c24) (by kernel_rfl) (fun w => by kernel_rfl) ?_
        refine T.nil ?_
        refine QN.blkNormal ?_
        refine QN.seq ?_
        refine W.region [(0, false), (1, false)] (by kernel_rfl) ?_
        refine T.pureE 46 (.int .i64 (IntKind.i64.wrap ((k : Int) + 1))) (.int .i64 ((k : Int) + 1)) (by kernel_rfl) (fun w => by kernel_rfl) (wrap_int (by omega) (by omega)) ?_
        refine T.pure 15 (.int .i64 ((k : Int) + 1)) (by kernel_rfl) (fun w => by kernel_rfl) ?_
        refine T.nil ?_
        refine QN.back (k + 1, acc ++ ([((ascV p l)[k]'hl7)]), s, A23, c24, Hr25) ?_ ?_ (by kernel_rfl) (fun w h => (h.perm ((List.Perm.refl _).trans (((((((List.Perm.refl _).cons _).trans List.perm_middle.symm).cons _).trans List.perm_middle.symm).trans ((((((List.Perm.refl _).cons _).trans (List.Perm.swap _ _ _)).cons _).trans (List.Perm.swap _ _ _)).append_left Hr4)).append_left Hr25))).part (List.Sublist.append (List.Sublist.refl _) (List.Sublist.append (List.Sublist.refl _) ((List.nil_sublist _).cons_cons _))))
        · show (k + 1) ≤ (ascV p l).length ∧ ((ascV p l).take (k + 1)).foldl (acc1 m) ([], 0) = ((acc ++ ([((ascV p l)[k]'hl7)])), s) ∧ s ≤ (acc ++ ([((ascV p l)[k]'hl7)])).length ∧ (acc ++ ([((ascV p l)[k]'hl7)])).length ≤ (k + 1) ∧ RowIs 26 22 A23 (acc ++ ([((ascV p l)[k]'hl7)])).length c24 (cells (acc ++ ([((ascV p l)[k]'hl7)]))) Hr25
          exact ⟨by omega, (acc_bk (by omega) hfo).trans (acc1_at h14 rfl h21), by rw [List.length_append]; omega, by rw [List.length_append, List.length_singleton]; omega, hrow26⟩
        · show (ascV p l).length - _ < (ascV p l).length - _; omega
  · skip
    have h6' := of_decide_eq_false h6
    refine W.exit ?_
    refine QN.thenExit ?_
    refine QN.thenExit ?_
    refine QN.blkHit ?_
    refine QN.seq ?_
    refine W.seq ?_
    refine W.region [(0, false), (1, false)] (by kernel_rfl) ?_
    refine T.pure 47 (.slice A7 (acc.length) c7) (by kernel_rfl) (fun w => by kernel_rfl) ?_
    refine T.pure 6 (.slice A7 (acc.length) c7) (by kernel_rfl) (fun w => by kernel_rfl) ?_
    refine T.nil ?_
    refine QN.seq ?_
    refine W.ret ?_
    refine QN.scopeRet ?_
    refine QN.done (.inl rfl) 6 (.slice A7 (acc.length) c7) rfl (by kernel_rfl) (fun w hw => ?_)
    exact (have e1 : acc = accV m p l := (by have e2 : k = (ascV p l).length := (by omega); rw [accV, ← List.take_length (l := ascV p l), ← e2, hfo]); by rw [← e1]; exact ⟨A7, c7, Hr7, rfl, hrow7, hw.part (List.sublist_append_left _ _)⟩)
end Go.Proofs.Ythhgdkodhokefaa
