/- The accepted votes of a list. -/
import Derived.Test.YtphnfhonmbbddaaGI
import Derived.Test.YtphnfhonmbbddaaGA
import Derived.Test.YtphnfhonmbbddaaGM
namespace Go.Proofs.Ytphnfhonmbbddaa
open Go Go.RowKit
set_option linter.unusedVariables false

def acc1 (m : Int) (a : List Vt × Nat) (v : Vt) : List Vt × Nat :=
  let s := if (decide ((a.1.length : Int) > (a.2 : Int)) && (a.1[a.2]!.slot != v.slot)) = true then a.1.length else a.2
  if allowB m v (a.1.drop s) = true then (a.1 ++ [v], s) else (a.1, s)
def accV (m : Int) (p : Nm) (l : List Vt) : List Vt := ((ascV p l).foldl (acc1 m) ([], 0)).1
theorem insV_len (x : Vt) : ∀ r : List Vt, (insV x r).length ≤ r.length + 1
  | [] => by simp [insV]
  | y :: r => by
    have := insV_len x r
    unfold insV
    split
    · simp
    · split <;> simp <;> omega
theorem ascV_len (p : Nm) (l : List Vt) : (ascV p l).length ≤ l.length := by
  have h1 : ∀ r : List Vt, (r.foldr insV []).length ≤ r.length := by
    intro r
    induction r with
    | nil => simp
    | cons a r ih => have := insV_len a (r.foldr insV []); simp only [List.foldr_cons, List.length_cons]; omega
  exact Nat.le_trans (h1 _) (List.length_filter_le _ _)
theorem acc_bk {m : Int} {av acc : List Vt} {k s : Nat} (hk : k < av.length) (h : (av.take k).foldl (acc1 m) ([], 0) = (acc, s)) : (av.take (k + 1)).foldl (acc1 m) ([], 0) = acc1 m (acc, s) av[k] := by
  rw [List.take_succ_eq_append_getElem hk, List.foldl_append, h]; rfl
theorem acc1_at {m : Int} {acc : List Vt} {s s' : Nat} {v : Vt} {b1 b2 : Bool} (h1 : (decide ((acc.length : Int) > (s : Int)) && (acc[s]!.slot != v.slot)) = b1) (hs : (bif b1 then acc.length else s) = s') (h2 : (!allowB m v (acc.drop s')) = b2) : acc1 m (acc, s) v = (bif b2 then acc else acc ++ [v], s') := by
  subst hs h2
  unfold acc1
  simp only [h1]
  cases b1 <;> simp only [cond_true, cond_false, if_true, Bool.false_eq_true, if_false]
  · cases allowB m v (acc.drop s) <;> rfl
  · cases allowB m v (acc.drop acc.length) <;> rfl
theorem acc_range {w : World} {b o : Nat} {acc : List Vt} {s : Nat} (hl : s < acc.length) {Φ : World → Prop} (h : ∀ w, Φ w → w.rangeAt b o (Cel.cs acc[s]).toList) : ∀ w, Φ w → w.rangeAt b o (Cel.cs acc[s]!).toList := by
  rw [getElem!_pos acc s hl]; exact h
theorem RowIs.cap {ty : TypeId} {sz n c : Nat} {A : Option Addr} {xs : List Value} {Hr : List (Nat × Obj)} (h : RowIs ty sz A n c xs Hr) : n ≤ c := by
  cases h
  · exact Nat.le_refl _
  · assumption
set_option maxRecDepth 100000 in
set_option maxHeartbeats 2000000 in
theorem accepted_c (m : Int) (p : Nm) (l : List Vt) (A : Option Addr) (c : Nat) (w : World) (hm : W64 m) (hok : ∀ u ∈ l, W64 u.support) (hl : l.length ≤ 1000) (hr : Rd w A l) : Calls Try.prog 29 #[.int .i64 m, .agg p.cs, .slice A l.length c] w (fun r w' => ∃ A c Hr, r = .returned (.slice A (accV m p l).length c) ∧ RowIs 68 22 A (accV m p l).length c (cells (accV m p l)) Hr ∧ St w Hr w') := by
 have hsu : ∀ u ∈ ascV p l, W64 u.support := fun u hu => hok u ((ascV_mem p l u).1 hu).1
 refine calls_W (n := 48) Try.func29 rfl [(0, .int .i64 m), (1, .agg p.cs), (2, .slice A l.length c)] rfl ⟨by kernel_rfl, by kernel_rfl⟩ (W.weak (Ψ := St w []) (fun w' h => by rw [h]; exact St.start w) (W.seq (W.rg od2 (T.bx 4 54 (.agg p.cs) (p.cs) tv3 (fun b1 => T.pu 6 (.slice none 0 0) (T.nil (QN.seq (W.scope (W.seq (W.rg od1 (T.pu 7 (.slice none 0 0) (T.nil (QN.seq (W.seq (W.rg od1 (T.pi 8 0 (T.nil (QN.seq (W.seq (W.label (QN.seq (W.seq (W.seq (W.rg od5 (T.lr false 11 p.cs 54 b1 0 (fun w h => St.rangeM h p.cs mm0 (by kernel_rfl)) (T.pu 12 (.slice A l.length c) (T.callR 13 55 #[.agg p.cs, .slice A l.length c] 68 22 (ascV p l).length (cells (ascV p l)) (by kernel_rfl) (by kernel_rfl) ent55 (fun w hw => asc_c p l A c w (by first | omega | (simp; done) | (simp; omega)) (Arr.rd (Rd.arr hr _) hw)) tv3 (fun A2 c3 Hr4 hrow5 => T.pi 14 (((ascV p l).length : Nat) : Int) (T.pi 15 0 (T.nil (QN.seq (W.block ?_))))))))))))))))))))))))))))))))
 have hav := ascV_len p l
 refine W.loop (σ := Nat × List Vt × Nat × Option Addr × Nat × List (Nat × Obj)) (fun gs => gs.1 ≤ (ascV p l).length ∧ ((ascV p l).take gs.1).foldl (acc1 m) ([], 0) = (gs.2.1, gs.2.2.1) ∧ gs.2.2.1 ≤ gs.2.1.length ∧ gs.2.1.length ≤ gs.1 ∧ RowIs 68 22 gs.2.2.2.1 gs.2.1.length gs.2.2.2.2.1 (cells gs.2.1) gs.2.2.2.2.2) (fun gs => [(0, .int .i64 m), (6, .slice none 0 0), (7, .slice gs.2.2.2.1 gs.2.1.length gs.2.2.2.2.1), (8, .int .i64 (gs.2.2.1 : Int)), (13, .slice A2 ((ascV p l).length) c3), (14, .int .i64 (((ascV p l).length : Nat) : Int)), (15, .int .i64 (gs.1 : Int))]) (fun gs => St w (gs.2.2.2.2.2 ++ (Hr4 ++ [(b1, Obj.cells p.cs 54 (0, 0))]))) (fun gs => (ascV p l).length - gs.1) (0, [], 0, none, 0, []) ?_ (by kernel_rfl) (fun w h => h) ?_
 ·
  try dsimp only
  exact ⟨Nat.zero_le _, rfl, Nat.le_refl _, Nat.le_refl _, RowIs.nil⟩
 rintro ⟨k, acc, s, A7, c7, Hr7⟩ hI_
 obtain ⟨hk, hfo, hsl, hal, hrow7⟩ : k ≤ (ascV p l).length ∧ ((ascV p l).take k).foldl (acc1 m) ([], 0) = (acc, s) ∧ s ≤ acc.length ∧ acc.length ≤ k ∧ RowIs 68 22 A7 acc.length c7 (cells acc) Hr7 := hI_
 have hcap := hrow7.cap
 refine W.seq (W.rg od1 (T.pb 16 (decide ((k : Int) < (((ascV p l).length : Nat) : Int))) (T.nil (QN.seq (W.seq (W.cd (decide ((k : Int) < (((ascV p l).length : Nat) : Int))) (fun h6 => ?_) (fun h6 => ?_)))))))
 ·
  have h6' := of_decide_eq_true h6
  have hl7 : k < (ascV p l).length := by omega
  refine W.skip (QN.seq (W.seq (W.block (W.seq (W.rg od4 ?_)))))
  obtain ⟨b8, o9, hA10, hr11⟩ := (show Arr (St _ (Hr7 ++ (Hr4 ++ [(b1, Obj.cells p.cs 54 (0, 0))]))) A2 (ascV p l) from (Arr.row hrow5 rfl rfl (Hr7 ++ [(b1, Obj.cells p.cs 54 (0, 0))])).weak (fun w h => h.perm ((pm0.append_left Hr7).trans (List.perm_append_comm_assoc _ _ _)))) k hl7
  refine T.ix 17 55 68 22 A2 ((ascV p l).length) c3 (k : Int) k b8 o9 hA10 rfl (by omega) (T.lr false 18 ((ascV p l)[k]'hl7).cs 68 b8 (o9 + k * 22) hr11 (T.al 10 68 Vt.zero.cs tv3 (fun b12 => T.sp 68 b12 0 (.agg ((ascV p l)[k]'hl7).cs) Vt.zero.cs ((ascV p l)[k]'hl7).cs 68 pm0 tv2 (T.nil (QN.seq (W.seq (W.seq (W.drawn (Ψ := St w ((b12, Obj.cells ((ascV p l)[k]'hl7).cs 68 (0, 0)) :: (Hr7 ++ (Hr4 ++ [(b1, Obj.cells p.cs 54 (0, 0))])))) (St w ((b12, Obj.cells ((ascV p l)[k]'hl7).cs 68 (0, 0)) :: (Hr7 ++ (Hr4 ++ [(b1, Obj.cells p.cs 54 (0, 0))])))) [(0, true), (1, true), (2, true), (3, true), (4, true), (5, true), (6, true), (7, true), (8, true), (9, true), (10, true), (11, true), (12, true), (13, true)] hmx (by kernel_rfl) (NoPanic.then (NoPanic.then (NoPanic.inBlock (NoPanic.then (NoPanic.then (NoPanic.inBlock (NoPanic.then (NoPanic.noGoto NoPanic.body)))))))) (fun w h => h.drew) (fun w h => h) (T.pu 19 (.slice A7 acc.length c7) (T.pi 20 ((acc.length : Nat) : Int) (T.pi 21 s (T.pb 22 (decide ((s : Int) < ((acc.length : Nat) : Int))) (T.pb 23 (decide ((s : Int) < ((acc.length : Nat) : Int))) (T.bk [(5, true), (6, true), (7, true), (8, true), (9, true), (10, true), (11, true), (12, true)] [(13, true)] 4 true (decide ((s : Int) < ((acc.length : Nat) : Int))) 23 31 (.bool (((acc[s]!).slot) != (((ascV p l)[k]'hl7).slot))) (fun hg13 => ?_) ?_))))))))))))))
  ·
   have hg13_ := hg13
   have hg13' := of_decide_eq_true hg13
   refine T.pu 24 (.slice A7 acc.length c7) (T.pi 25 s ?_)
   have hls : s < acc.length := by omega
   obtain ⟨bx, ox, hAx, hrx⟩ := (show Arr (St _ ((b12, Obj.cells ((ascV p l)[k]'hl7).cs 68 (0, 0)) :: (Hr7 ++ (Hr4 ++ [(b1, Obj.cells p.cs 54 (0, 0))])))) A7 acc from (Arr.row hrow7 rfl rfl ((b12, Obj.cells ((ascV p l)[k]'hl7).cs 68 (0, 0)) :: (Hr4 ++ [(b1, Obj.cells p.cs 54 (0, 0))]))).weak (fun w h => h.perm ((pm0.cons _).trans List.perm_middle.symm))) s hls
   have hry := acc_range (w := w) hls hrx
   refine T.ix 26 55 68 22 A7 acc.length c7 (s : Int) s bx ox hAx rfl (by omega) (T.pu 27 (.pointer (some ⟨bx, ox + s * 22 + 1, none⟩)) (T.ld true 28 (.int .i64 ((acc[s]!).slot)) 3 bx (ox + s * 22 + 1) (fun w h => cell_of_range (hry w h) 1 (by kernel_rfl)) (T.pu 29 (.pointer (some ⟨b12, 1, none⟩)) (T.ld true 30 (.int .i64 (((ascV p l)[k]'hl7).slot)) 3 b12 1 (fun w h => St.cellM h mm0 (by kernel_rfl)) (T.pb 31 (((acc[s]!).slot) != (((ascV p l)[k]'hl7).slot)) ?_)))))
   exact T.blkEnd (by kernel_rfl) (fun w h => h)
  refine T.an 32 (decide ((s : Int) < ((acc.length : Nat) : Int))) (((acc[s]!).slot) != (((ascV p l)[k]'hl7).slot)) (T.nil (QN.seq (W.cd ((decide ((s : Int) < ((acc.length : Nat) : Int))) && (((acc[s]!).slot) != (((ascV p l)[k]'hl7).slot))) (fun h14 => ?_) (fun h14 => ?_))))
  ·
   have h14l := (Bool.and_eq_true_iff.1 h14).1
   have h14r := (Bool.and_eq_true_iff.1 h14).2
   have h14l' := of_decide_eq_true h14l
   refine W.rg od3 (T.pu 33 (.slice A7 acc.length c7) (T.pi 34 ((acc.length : Nat) : Int) (T.pi 8 ((acc.length : Nat) : Int) (T.nil (QN.seq (W.seq (W.seq (W.drawn (Ψ := St w ((b12, Obj.cells ((ascV p l)[k]'hl7).cs 68 (0, 0)) :: (Hr7 ++ (Hr4 ++ [(b1, Obj.cells p.cs 54 (0, 0))])))) (St w ((b12, Obj.cells ((ascV p l)[k]'hl7).cs 68 (0, 0)) :: (Hr7 ++ (Hr4 ++ [(b1, Obj.cells p.cs 54 (0, 0))])))) [(0, true), (1, true), (2, true), (3, true), (4, true), (5, false), (6, true)] hmx (by kernel_rfl) (NoPanic.then (NoPanic.then (NoPanic.inBlock (NoPanic.then (NoPanic.then (NoPanic.inBlock (NoPanic.then (NoPanic.noGoto NoPanic.body)))))))) (fun w h => h.drew) (fun w h => h) (T.pi 35 m (T.lr true 36 ((ascV p l)[k]'hl7).cs 68 b12 0 (fun w h => St.rangeM h ((ascV p l)[k]'hl7).cs mm0 (by kernel_rfl)) (T.pu 37 (.slice A7 acc.length c7) (T.pi 38 ((acc.length : Nat) : Int) (T.sliceFrom 39 55 68 22 A7 acc.length c7 ((acc.length : Nat) : Int) acc.length ((acc.drop acc.length).length) (by kernel_rfl) (by kernel_rfl) (by kernel_rfl) (by kernel_rfl) (by omega) (by omega) (by simp) (T.cp 40 56 #[.int .i64 m, .agg ((ascV p l)[k]'hl7).cs, .slice (offA A7 c7 acc.length 22) ((acc.drop acc.length).length) (c7 - acc.length)] (.bool (allowB m ((ascV p l)[k]'hl7) (acc.drop acc.length))) ent56 (fun w hw => allowed_c _ (by assumption) _ (hsu _ (List.getElem_mem _)) _ _ _ (by first | omega | (simp; done) | (simp; omega)) w (Arr.rd (Arr.drop (show Arr (St _ ((b12, Obj.cells ((ascV p l)[k]'hl7).cs 68 (0, 0)) :: (Hr7 ++ (Hr4 ++ [(b1, Obj.cells p.cs 54 (0, 0))])))) A7 acc from (Arr.row hrow7 rfl rfl ((b12, Obj.cells ((ascV p l)[k]'hl7).cs 68 (0, 0)) :: (Hr4 ++ [(b1, Obj.cells p.cs 54 (0, 0))]))).weak (fun w h => h.perm ((pm0.cons _).trans List.perm_middle.symm))) c7 acc.length (by omega)) hw).v) (fun w h => h) (T.pb 41 (!(allowB m ((ascV p l)[k]'hl7) (acc.drop acc.length))) (T.nil (QN.seq (W.cd (!(allowB m ((ascV p l)[k]'hl7) (acc.drop acc.length))) (fun h15 => ?_) (fun h15 => ?_)))))))))))))))))))
   ·
    have h15n := not_eq_true h15
    refine W.exit (QN.thenExit (QN.blkHit (QN.seq (W.rg od2 (T.pw 46 ((k : Int) + 1) (T.pi 15 ((k : Int) + 1) (T.nil (QN.back (k + 1, acc, acc.length, A7, c7, Hr7) ?_ ?_ (by kernel_rfl) (fun w h => (h.perm (((pm0.cons _).trans List.perm_middle.symm).trans ((((pm0.cons _).trans List.perm_middle.symm).trans (pm1.append_left Hr4)).append_left Hr7))).part (List.Sublist.append (List.Sublist.refl _) (List.Sublist.append (List.Sublist.refl _) ns1)))))))))))
    ·
     try dsimp only
     exact ⟨by omega, (acc_bk (by omega) hfo).trans (acc1_at h14 rfl h15), by omega, by omega, hrow7⟩
    · show (ascV p l).length - _ < (ascV p l).length - _; omega
   ·
    have h15n := not_eq_false h15
    refine W.skip (QN.seq (W.rg od5 (T.pu 42 (.slice A7 acc.length c7) (T.lr false 43 ((ascV p l)[k]'hl7).cs 68 b12 0 (fun w h => St.rangeM h ((ascV p l)[k]'hl7).cs mm0 (by kernel_rfl)) (T.lit 44 55 68 1 #[(0, .agg ((ascV p l)[k]'hl7).cs)] (cells ([((ascV p l)[k]'hl7)] : List Vt)).toArray (by kernel_rfl) (by kernel_rfl) (by kernel_rfl) (by kernel_rfl) tv3 (fun b16 => T.appC 45 55 68 64 A7 c7 (acc : List Vt) Hr7 b16 0 1 ([((ascV p l)[k]'hl7)] : List Vt) ((((pm0.cons _).trans List.perm_middle.symm).cons _).trans List.perm_middle.symm) (by kernel_rfl) (by kernel_rfl) (by kernel_rfl) (by kernel_rfl) hrow7 (fun w h => St.rangeM h (cells ([((ascV p l)[k]'hl7)] : List Vt)).toArray (List.mem_append_right _ mm0) (by kernel_rfl)) (by unfold maxLen; first | omega | (simp; omega)) (by first | omega | (simp; omega)) tv3 (fun A17 c18 Hr19 hrow20 => T.pu 7 (.slice A17 ((acc ++ ([((ascV p l)[k]'hl7)])).length) c18) (T.nil (QN.blkNormal (QN.seq (W.rg od2 (T.pw 46 ((k : Int) + 1) (T.pi 15 ((k : Int) + 1) (T.nil (QN.back (k + 1, acc ++ ([((ascV p l)[k]'hl7)]), acc.length, A17, c18, Hr19) ?_ ?_ (by kernel_rfl) (fun w h => (h.perm (pm0.trans ((((((pm0.cons _).trans List.perm_middle.symm).cons _).trans List.perm_middle.symm).trans (pm2.append_left Hr4)).append_left Hr19))).part (List.Sublist.append (List.Sublist.refl _) (List.Sublist.append (List.Sublist.refl _) ns1))))))))))))))))))
    ·
     try dsimp only
     exact ⟨by omega, (acc_bk (by omega) hfo).trans (acc1_at h14 rfl h15), by rw [List.length_append]; omega, by rw [List.length_append, List.length_singleton]; omega, hrow20⟩
    · show (ascV p l).length - _ < (ascV p l).length - _; omega
  ·
   refine W.skip (QN.seq (W.seq (W.seq (W.drawn (Ψ := St w ((b12, Obj.cells ((ascV p l)[k]'hl7).cs 68 (0, 0)) :: (Hr7 ++ (Hr4 ++ [(b1, Obj.cells p.cs 54 (0, 0))])))) (St w ((b12, Obj.cells ((ascV p l)[k]'hl7).cs 68 (0, 0)) :: (Hr7 ++ (Hr4 ++ [(b1, Obj.cells p.cs 54 (0, 0))])))) [(0, true), (1, true), (2, true), (3, true), (4, true), (5, false), (6, true)] hmx (by kernel_rfl) (NoPanic.then (NoPanic.then (NoPanic.inBlock (NoPanic.then (NoPanic.then (NoPanic.inBlock (NoPanic.then (NoPanic.noGoto NoPanic.body)))))))) (fun w h => h.drew) (fun w h => h) (T.pi 35 m (T.lr true 36 ((ascV p l)[k]'hl7).cs 68 b12 0 (fun w h => St.rangeM h ((ascV p l)[k]'hl7).cs mm0 (by kernel_rfl)) (T.pu 37 (.slice A7 acc.length c7) (T.pi 38 s (T.sliceFrom 39 55 68 22 A7 acc.length c7 (s : Int) s ((acc.drop s).length) (by kernel_rfl) (by kernel_rfl) (by kernel_rfl) (by kernel_rfl) (by omega) (by omega) (by simp) (T.cp 40 56 #[.int .i64 m, .agg ((ascV p l)[k]'hl7).cs, .slice (offA A7 c7 s 22) ((acc.drop s).length) (c7 - s)] (.bool (allowB m ((ascV p l)[k]'hl7) (acc.drop s))) ent56 (fun w hw => allowed_c _ (by assumption) _ (hsu _ (List.getElem_mem _)) _ _ _ (by first | omega | (simp; done) | (simp; omega)) w (Arr.rd (Arr.drop (show Arr (St _ ((b12, Obj.cells ((ascV p l)[k]'hl7).cs 68 (0, 0)) :: (Hr7 ++ (Hr4 ++ [(b1, Obj.cells p.cs 54 (0, 0))])))) A7 acc from (Arr.row hrow7 rfl rfl ((b12, Obj.cells ((ascV p l)[k]'hl7).cs 68 (0, 0)) :: (Hr4 ++ [(b1, Obj.cells p.cs 54 (0, 0))]))).weak (fun w h => h.perm ((pm0.cons _).trans List.perm_middle.symm))) c7 s (by omega)) hw).v) (fun w h => h) (T.pb 41 (!(allowB m ((ascV p l)[k]'hl7) (acc.drop s))) (T.nil (QN.seq (W.cd (!(allowB m ((ascV p l)[k]'hl7) (acc.drop s))) (fun h21 => ?_) (fun h21 => ?_)))))))))))))))
   ·
    have h21n := not_eq_true h21
    refine W.exit (QN.thenExit (QN.blkHit (QN.seq (W.rg od2 (T.pw 46 ((k : Int) + 1) (T.pi 15 ((k : Int) + 1) (T.nil (QN.back (k + 1, acc, s, A7, c7, Hr7) ?_ ?_ (by kernel_rfl) (fun w h => (h.perm (((pm0.cons _).trans List.perm_middle.symm).trans ((((pm0.cons _).trans List.perm_middle.symm).trans (pm1.append_left Hr4)).append_left Hr7))).part (List.Sublist.append (List.Sublist.refl _) (List.Sublist.append (List.Sublist.refl _) ns1)))))))))))
    ·
     try dsimp only
     exact ⟨by omega, (acc_bk (by omega) hfo).trans (acc1_at h14 rfl h21), by omega, by omega, hrow7⟩
    · show (ascV p l).length - _ < (ascV p l).length - _; omega
   ·
    have h21n := not_eq_false h21
    refine W.skip (QN.seq (W.rg od5 (T.pu 42 (.slice A7 acc.length c7) (T.lr false 43 ((ascV p l)[k]'hl7).cs 68 b12 0 (fun w h => St.rangeM h ((ascV p l)[k]'hl7).cs mm0 (by kernel_rfl)) (T.lit 44 55 68 1 #[(0, .agg ((ascV p l)[k]'hl7).cs)] (cells ([((ascV p l)[k]'hl7)] : List Vt)).toArray (by kernel_rfl) (by kernel_rfl) (by kernel_rfl) (by kernel_rfl) tv3 (fun b22 => T.appC 45 55 68 64 A7 c7 (acc : List Vt) Hr7 b22 0 1 ([((ascV p l)[k]'hl7)] : List Vt) ((((pm0.cons _).trans List.perm_middle.symm).cons _).trans List.perm_middle.symm) (by kernel_rfl) (by kernel_rfl) (by kernel_rfl) (by kernel_rfl) hrow7 (fun w h => St.rangeM h (cells ([((ascV p l)[k]'hl7)] : List Vt)).toArray (List.mem_append_right _ mm0) (by kernel_rfl)) (by unfold maxLen; first | omega | (simp; omega)) (by first | omega | (simp; omega)) tv3 (fun A23 c24 Hr25 hrow26 => T.pu 7 (.slice A23 ((acc ++ ([((ascV p l)[k]'hl7)])).length) c24) (T.nil (QN.blkNormal (QN.seq (W.rg od2 (T.pw 46 ((k : Int) + 1) (T.pi 15 ((k : Int) + 1) (T.nil (QN.back (k + 1, acc ++ ([((ascV p l)[k]'hl7)]), s, A23, c24, Hr25) ?_ ?_ (by kernel_rfl) (fun w h => (h.perm (pm0.trans ((((((pm0.cons _).trans List.perm_middle.symm).cons _).trans List.perm_middle.symm).trans (pm2.append_left Hr4)).append_left Hr25))).part (List.Sublist.append (List.Sublist.refl _) (List.Sublist.append (List.Sublist.refl _) ns1))))))))))))))))))
    ·
     try dsimp only
     exact ⟨by omega, (acc_bk (by omega) hfo).trans (acc1_at h14 rfl h21), by rw [List.length_append]; omega, by rw [List.length_append, List.length_singleton]; omega, hrow26⟩
    · show (ascV p l).length - _ < (ascV p l).length - _; omega
 ·
  have h6' := of_decide_eq_false h6
  refine W.exit (QN.thenExit (QN.thenExit (QN.blkHit (QN.seq (W.seq (W.rg od2 (T.pu 47 (.slice A7 acc.length c7) (T.pu 6 (.slice A7 acc.length c7) (T.nil (QN.seq (W.ret (QN.scopeRet (QN.done (.inl rfl) 6 (.slice A7 acc.length c7) rfl (by kernel_rfl) (fun w hw => ?_))))))))))))))
  exact (have e1 : acc = accV m p l := (by have e2 : k = (ascV p l).length := (by omega); rw [accV, ← List.take_length (l := ascV p l), ← e2, hfo]); by rw [← e1]; exact ⟨A7, c7, Hr7, rfl, hrow7, hw.part (List.sublist_append_left _ _)⟩)
end Go.Proofs.Ytphnfhonmbbddaa

/- The plain law of accepted votes. -/
namespace Go.Proofs.Ytphnfhonmbbddaa
open Go Go.RowKit
set_option linter.unusedVariables false

/-- One vote after the other, each judged by all that were accepted before it. -/
def acc2 (m : Int) (a : List Vt) (v : Vt) : List Vt := if allowB m v a = true then a ++ [v] else a
/-- Of the same slot, or no matter. -/
theorem allow_slot {m : Int} {v : Vt} {a b : List Vt} (h : ∀ u ∈ a, u.slot ≠ v.slot) : allowB m v (a ++ b) = allowB m v b := by
  have e : a.filter (cntB m v) = [] := by
    rw [List.filter_eq_nil_iff]
    intro u hu
    simp [cntB, h u hu]
  unfold allowB
  rw [List.filter_append, e, List.nil_append]
theorem vless_slot {x y : Vt} (hp : x.par = y.par) (h : vless x y = true) : x.slot ≤ y.slot := by
  by_cases e : x.slot = y.slot
  · omega
  · unfold vless keyL at h
    rw [hp, lexLt_eq, lexLt_ne e] at h
    simp only [decide_eq_true_eq] at h; omega
/-- The window of the slot. -/
structure Win (p : Nm) (av acc : List Vt) (s : Nat) (rest : List Vt) : Prop where
  le : s ≤ acc.length
  past : ∀ u ∈ acc.take s, ∀ v ∈ rest, u.slot < v.slot
  now : ∀ u ∈ acc.drop s, ∀ w ∈ acc.drop s, u.slot = w.slot
  ord : ∀ u ∈ acc, ∀ v ∈ rest, u.slot ≤ v.slot
theorem win_step {p : Nm} {m : Int} {av acc : List Vt} {s : Nat} {v : Vt} {rest : List Vt} (h : Win p av acc s (v :: rest)) (hr : ∀ w ∈ rest, v.slot ≤ w.slot) : Win p av (acc1 m (acc, s) v).1 (acc1 m (acc, s) v).2 rest ∧ (acc1 m (acc, s) v).1 = acc2 m acc v := by
  obtain ⟨hle, hpast, hnow, hord⟩ := h
  obtain ⟨s', hs', hle', hpa, hno⟩ : ∃ s' : Nat, (if (decide ((acc.length : Int) > (s : Int)) && (acc[s]!.slot != v.slot)) = true then acc.length else s) = s' ∧ s' ≤ acc.length ∧ (∀ u ∈ acc.take s', u.slot < v.slot) ∧ (∀ u ∈ acc.drop s', u.slot = v.slot) := by
    by_cases hc : (decide ((acc.length : Int) > (s : Int)) && (acc[s]!.slot != v.slot)) = true
    · refine ⟨acc.length, if_pos hc, Nat.le_refl _, fun u hu => ?_, by simp⟩
      simp only [Bool.and_eq_true, decide_eq_true_eq, bne_iff_ne] at hc
      have hl : s < acc.length := by omega
      rw [getElem!_pos acc s hl] at hc
      rw [List.take_length] at hu
      have hm : acc[s] ∈ acc.drop s := List.mem_iff_getElem.2 ⟨0, by simp; omega, by simp⟩
      have h0 := hord acc[s] (List.getElem_mem _) v (by simp)
      rw [← List.take_append_drop s acc, List.mem_append] at hu
      rcases hu with hu | hu
      · exact hpast u hu v (by simp)
      · have := hnow u hu _ hm
        omega
    · refine ⟨s, if_neg hc, hle, fun u hu => hpast u hu v (by simp), fun u hu => ?_⟩
      have hl : s < acc.length := by
        by_cases h1 : s < acc.length
        · exact h1
        · rw [List.drop_eq_nil_of_le (by omega)] at hu; simp at hu
      simp only [Bool.and_eq_true, decide_eq_true_eq, bne_iff_ne, not_and, Classical.not_not] at hc
      have h1 := hc (by omega)
      rw [getElem!_pos acc s hl] at h1
      have hm : acc[s] ∈ acc.drop s := List.mem_iff_getElem.2 ⟨0, by simp; omega, by simp⟩
      rw [hnow u hu _ hm, h1]
  have hal : allowB m v acc = allowB m v (acc.drop s') := by
    conv => lhs; rw [← List.take_append_drop s' acc]
    exact allow_slot fun u hu => by have := hpa u hu; omega
  have e1 : acc1 m (acc, s) v = if allowB m v (acc.drop s') = true then (acc ++ [v], s') else (acc, s') := by
    unfold acc1
    simp only [hs']
  rw [e1]
  unfold acc2
  rw [hal]
  by_cases hb : allowB m v (acc.drop s') = true
  · rw [if_pos hb, if_pos hb]
    refine ⟨⟨by simp; omega, ?_, ?_, ?_⟩, rfl⟩
    · intro u hu w hw
      simp only [List.take_append_of_le_length hle'] at hu
      have := hpa u hu; have := hr w hw; omega
    · intro u hu w hw
      simp only [List.drop_append_of_le_length hle', List.mem_append, List.mem_singleton] at hu hw
      rcases hu with hu | rfl <;> rcases hw with hw | rfl
      · rw [hno u hu, hno w hw]
      · exact hno u hu
      · exact (hno w hw).symm
      · rfl
    · intro u hu w hw
      simp only [List.mem_append, List.mem_singleton] at hu
      rcases hu with hu | rfl
      · exact hord u hu w (by simp [hw])
      · exact hr w hw
  · rw [if_neg hb, if_neg hb]
    refine ⟨⟨hle', ?_, ?_, ?_⟩, rfl⟩
    · intro u hu w hw
      have := hpa u hu; have := hr w hw; omega
    · intro u hu w hw
      rw [hno u hu, hno w hw]
    · intro u hu w hw
      exact hord u hu w (by simp [hw])
theorem fold_eq {p : Nm} {m : Int} {av : List Vt} : ∀ (rest acc : List Vt) (s : Nat), Win p av acc s rest → (rest.Pairwise fun x y => x.slot ≤ y.slot) → (rest.foldl (acc1 m) (acc, s)).1 = rest.foldl (acc2 m) acc
  | [], acc, s, _, _ => rfl
  | v :: rest, acc, s, h, hp => by
    rw [List.pairwise_cons] at hp
    have h1 := win_step (m := m) h hp.1
    rw [List.foldl_cons, List.foldl_cons, ← h1.2]
    exact fold_eq rest _ _ h1.1 hp.2
theorem accV_eq (m : Int) (p : Nm) (l : List Vt) : accV m p l = (ascV p l).foldl (acc2 m) [] := by
  refine fold_eq (p := p) (av := ascV p l) _ [] 0 ⟨Nat.le_refl _, fun u hu => by simp at hu, fun u hu => by simp at hu, fun u hu => by simp at hu⟩ ?_
  have hs := ascV_strict p l
  refine List.Pairwise.imp_of_mem ?_ hs
  intro x y hx hy h
  exact vless_slot (((ascV_mem p l x).1 hx).2.trans ((ascV_mem p l y).1 hy).2.symm) h
/-- What a vote may lean on lies before it. -/
def relB (v u : Vt) : Bool := decide (u.round < v.round) || ((u.round == v.round) && decide (u.kind < v.kind))
theorem any_rel {l : List Vt} {p r : Vt → Bool} (h : ∀ u ∈ l, p u = true → r u = true) (ha : l.any p = true) : (l.filter r).any p = true := by
  rw [List.any_eq_true] at *
  obtain ⟨u, hu, hp⟩ := ha
  exact ⟨u, List.mem_filter.2 ⟨hu, h u hu hp⟩, hp⟩
theorem sup_rel {m q : Int} {l : List Vt} {v : Vt} {p r : Vt → Bool} (h : ∀ u ∈ l, p u = true → r u = true) (ha : supB m q l v p = true) : supB m q (l.filter r) v p = true := by
  unfold supB at *
  simp only [Bool.and_eq_true] at *
  refine ⟨ha.1, ?_⟩
  rw [List.all_eq_true] at *
  intro i hi
  refine any_rel (fun u hu hp => ?_) (ha.2 i hi)
  rw [Bool.and_eq_true] at hp
  exact h u hu hp.2
theorem unl_rel {l : List Vt} {p r : Vt → Bool} (h : ∀ u ∈ l, p u = true → r u = true) (ha : unl (l.filter p) = true) : unl ((l.filter r).filter p) = true := by
  refine unl_mono (fun u hu => ?_) ha
  rw [List.mem_filter] at *
  exact ⟨List.mem_filter.2 ⟨hu.1, h u hu.1 hu.2⟩, hu.2⟩
theorem valid_low {u : Vt} (h : validB u = true) (hk : u.kind = 1 ∨ u.kind = 2) : u.round = 0 := by
  unfold validB at h
  simp only [Bool.and_eq_true] at h
  have h1 := h.2
  unfold restB at h1
  rcases hk with hk | hk <;> · simp [hk] at h1; omega
theorem valid_high {u : Vt} (h : validB u = true) (hk : u.kind = 3 ∨ u.kind = 4) : 1 ≤ u.round := by
  unfold validB at h
  simp only [Bool.and_eq_true] at h
  have h1 := h.2
  unfold restB at h1
  rcases hk with hk | hk <;> · simp [hk, btw] at h1; omega
theorem allow_local {m : Int} {v : Vt} {a : List Vt} (h : allowB m v a = true) : allowB m v (a.filter (relB v)) = true := by
  unfold allowB at *
  simp only [Bool.and_eq_true] at *
  refine ⟨h.1, ?_⟩
  have hv : validB v = true := by have := h.1; unfold okB at this; simp only [Bool.and_eq_true] at this; exact this.1.1.1
  have hk4 : v.kind ≤ 4 := by have := h.1; unfold okB at this; simp only [Bool.and_eq_true, Bool.not_eq_true', decide_eq_false_iff_not] at this; omega
  have hk1 : 1 ≤ v.kind := by have := hv; unfold validB btw at this; simp at this; omega
  have hj := h.2
  have hc : ∀ u ∈ a.filter (cntB m v), validB u = true := fun u hu => by
    have := (List.mem_filter.1 hu).2
    unfold cntB at this
    simp only [Bool.and_eq_true] at this
    exact this.1.1.1.1
  rw [List.filter_filter, show (fun x => cntB m v x && relB v x) = (fun x => relB v x && cntB m v x) from funext fun x => Bool.and_comm _ _, ← List.filter_filter]
  generalize a.filter (cntB m v) = l at hj hc
  unfold judB at *
  by_cases k1 : v.kind = 1
  · simpa [k1] using hj
  · by_cases k2 : v.kind = 2
    · simp only [k2] at hj ⊢
      refine any_rel (fun u hu hp => ?_) hj
      unfold poB at hp
      simp only [Bool.and_eq_true, beq_iff_eq] at hp
      have := valid_low (hc u hu) (.inl hp.1)
      have := valid_low hv (.inr k2)
      simp [relB]; omega
    · by_cases k3 : v.kind = 3
      · simp only [k3] at hj ⊢
        have hr := valid_high hv (.inl k3)
        change prevB m (quorum (size m)) l v = true at hj
        change prevB m (quorum (size m)) (l.filter (relB v)) v = true
        unfold prevB at *
        by_cases r1 : v.round = 1
        · simp only [r1, beq_self_eq_true, if_true, Bool.or_eq_true] at hj ⊢
          rcases hj with hj | hj
          · exact .inl hj
          · refine .inr (sup_rel (fun u hu hp => ?_) hj)
            unfold peB at hp
            simp only [Bool.and_eq_true, beq_iff_eq] at hp
            have := valid_low (hc u hu) (.inr hp.1)
            simp [relB]; omega
        · have r1' : (v.round == 1) = false := by simpa using r1
          simp only [r1', Bool.false_eq_true, if_false, Bool.or_eq_true, Bool.and_eq_true] at hj ⊢
          rcases hj with hj | hj
          · refine .inl ⟨sup_rel (fun u hu hp => ?_) hj.1, any_rel (fun u hu hp => ?_) hj.2⟩
            · unfold pvB pmB at hp
              simp only [Bool.or_eq_true, Bool.and_eq_true, beq_iff_eq] at hp
              simp [relB]; omega
            · unfold pvB at hp
              simp only [Bool.and_eq_true, beq_iff_eq] at hp
              simp [relB]; omega
          · refine .inr ⟨sup_rel (fun u hu hp => ?_) hj.1, any_rel (fun u hu hp => ?_) hj.2⟩
            · unfold pmB at hp
              simp only [Bool.and_eq_true, beq_iff_eq] at hp
              simp [relB]; omega
            · unfold pbB at hp
              simp only [Bool.and_eq_true, beq_iff_eq] at hp
              simp [relB]; omega
      · have k4 : v.kind = 4 := by omega
        simp only [k4] at hj ⊢
        change precB m (quorum (size m)) l v = true at hj
        change precB m (quorum (size m)) (l.filter (relB v)) v = true
        have hrel : ∀ u ∈ l, prB v u = true → relB v u = true := fun u hu hp => by
          unfold prB at hp
          simp only [Bool.and_eq_true, beq_iff_eq] at hp
          simp [relB]; omega
        unfold precB at *
        split
        · rename_i hch
          rw [if_pos hch] at hj
          exact sup_rel (fun u hu hp => hrel u hu (by rw [Bool.and_eq_true] at hp; exact hp.1)) hj
        · rename_i hch
          rw [if_neg hch, Bool.and_eq_true] at hj
          rw [Bool.and_eq_true]
          exact ⟨sup_rel hrel hj.1, unl_rel (fun u hu hp => hrel u hu (by rw [Bool.and_eq_true] at hp; exact hp.1)) hj.2⟩
theorem rel_less {v u : Vt} (hp : u.par = v.par) (hs : u.slot = v.slot) (h : relB v u = true) : vless u v = true := by
  unfold vless keyL
  rw [hp, hs, lexLt_eq, lexLt_eq]
  unfold relB at h
  simp only [Bool.or_eq_true, Bool.and_eq_true, decide_eq_true_eq, beq_iff_eq] at h
  rcases h with h | ⟨h1, h2⟩
  · rw [lexLt_ne (by omega)]; simpa using h
  · rw [h1, lexLt_eq, lexLt_ne (by omega)]; simpa using h2
def Built (m : Int) (acc : List Vt) : Prop := ∀ a v b, acc = a ++ v :: b → allowB m v a = true
theorem fold_sub (m : Int) : ∀ (rest acc : List Vt), ∃ t, rest.foldl (acc2 m) acc = acc ++ t ∧ t.Sublist rest
  | [], acc => ⟨[], by simp, List.Sublist.refl _⟩
  | v :: rest, acc => by
    rw [List.foldl_cons]
    unfold acc2
    by_cases h : allowB m v acc = true
    · rw [if_pos h]
      obtain ⟨t, h1, h2⟩ := fold_sub m rest (acc ++ [v])
      exact ⟨v :: t, by rw [show (fun a v => if allowB m v a = true then a ++ [v] else a) = acc2 m from rfl, h1]; simp, h2.cons_cons v⟩
    · rw [if_neg h]
      obtain ⟨t, h1, h2⟩ := fold_sub m rest acc
      exact ⟨t, h1, h2.cons v⟩
theorem built_snoc {m : Int} {acc : List Vt} {v : Vt} (h : Built m acc) (hv : allowB m v acc = true) : Built m (acc ++ [v]) := by
  intro a x b e
  rcases List.eq_nil_or_concat b with rfl | ⟨b', y, rfl⟩
  · have := List.append_inj' e (by simp)
    simp only [List.cons.injEq, and_true] at this
    rw [← this.1, ← this.2]; exact hv
  · rw [show a ++ x :: (b'.concat y) = (a ++ x :: b') ++ [y] by simp] at e
    have := List.append_inj' e (by simp)
    exact h a x b' this.1
theorem fold_built (m : Int) : ∀ (rest acc : List Vt), Built m acc → Built m (rest.foldl (acc2 m) acc)
  | [], _, h => h
  | v :: rest, acc, h => by
    rw [List.foldl_cons]
    refine fold_built m rest _ ?_
    unfold acc2
    split
    · rename_i hv; exact built_snoc h hv
    · exact h
theorem built_fold (m : Int) : ∀ (b a : List Vt), Built m (a ++ b) → b.foldl (acc2 m) a = a ++ b
  | [], a, _ => by simp
  | v :: b, a, h => by
    have hv := h a v b rfl
    rw [List.foldl_cons, show acc2 m a v = a ++ [v] from if_pos hv, built_fold m b (a ++ [v]) (by simpa using h)]
    simp
theorem accV_built (m : Int) (p : Nm) (l : List Vt) : Built m (accV m p l) := by
  rw [accV_eq]
  exact fold_built m _ _ fun a v b e => by simp at e
theorem accV_sub (m : Int) (p : Nm) (l : List Vt) : (accV m p l).Sublist (ascV p l) := by
  rw [accV_eq]
  obtain ⟨t, h1, h2⟩ := fold_sub m (ascV p l) []
  rw [h1]; simpa using h2
theorem accV_strict (m : Int) (p : Nm) (l : List Vt) : Strict (accV m p l) := List.Pairwise.sublist (accV_sub m p l) (ascV_strict p l)
theorem accV_mem {m : Int} {p : Nm} {l : List Vt} {v : Vt} (h : v ∈ accV m p l) : v ∈ l ∧ v.par = p := (ascV_mem p l v).1 ((accV_sub m p l).subset h)
theorem accV_len (m : Int) (p : Nm) (l : List Vt) : (accV m p l).length ≤ l.length := Nat.le_trans (accV_sub m p l).length_le (ascV_len p l)
theorem accV_allow {m : Int} {p : Nm} {l : List Vt} {v : Vt} (h : v ∈ accV m p l) : allowB m v (accV m p l) = true := by
  obtain ⟨a, b, e⟩ := List.append_of_mem h
  refine allowB_mono (fun u hu => ?_) (accV_built m p l a v b e)
  rw [e]; simp [hu]
theorem accV_again (m : Int) (p : Nm) (l : List Vt) : accV m p (accV m p l) = accV m p l := by
  have e : ascV p (accV m p l) = accV m p l := strict_ext (ascV_strict _ _) (accV_strict m p l) fun x => by
    rw [ascV_mem]
    exact ⟨fun h => h.1, fun h => ⟨h, (accV_mem h).2⟩⟩
  rw [accV_eq m p (accV m p l), e, built_fold m _ [] (by simpa using accV_built m p l)]
  simp
theorem allow_cnt {m : Int} {v : Vt} {a b : List Vt} (h : ∀ u ∈ a, cntB m v u = true → u ∈ b) (ha : allowB m v a = true) : allowB m v b = true := by
  unfold allowB at *
  rw [Bool.and_eq_true] at *
  refine ⟨ha.1, judB_mono (fun u hu => ?_) ha.2⟩
  rw [List.mem_filter] at *
  exact ⟨h u hu.1 hu.2, hu.2⟩
theorem accV_closed {m : Int} {p : Nm} {l : List Vt} {v : Vt} (hv : v ∈ l) (hp : v.par = p) (hn : v ∉ accV m p l) : allowB m v (accV m p l) = false := by
  have hs := ascV_strict p l
  obtain ⟨r1, r2, e⟩ := List.append_of_mem ((ascV_mem p l v).2 ⟨hv, hp⟩)
  have e1 := accV_eq m p l
  rw [e, List.foldl_append, List.foldl_cons] at e1
  by_cases h1 : allowB m v (r1.foldl (acc2 m) []) = true
  · exfalso
    apply hn
    rw [e1, show acc2 m (r1.foldl (acc2 m) []) v = r1.foldl (acc2 m) [] ++ [v] from if_pos h1]
    obtain ⟨t, h2, _⟩ := fold_sub m r2 (r1.foldl (acc2 m) [] ++ [v])
    rw [h2]; simp
  · rw [show acc2 m (r1.foldl (acc2 m) []) v = r1.foldl (acc2 m) [] from if_neg h1] at e1
    obtain ⟨t, h2, h3⟩ := fold_sub m r2 (r1.foldl (acc2 m) [])
    rw [h2] at e1
    by_cases h4 : allowB m v (accV m p l) = true
    · exfalso
      apply h1
      refine allow_cnt (fun u hu hc => ?_) (allow_local h4)
      rw [List.mem_filter] at hu
      unfold cntB at hc
      simp only [Bool.and_eq_true, beq_iff_eq] at hc
      have hl := rel_less hc.1.1.1.2 hc.1.1.2 hu.2
      have hm := hu.1
      rw [e1, List.mem_append] at hm
      rcases hm with hm | hm
      · exact hm
      · exfalso
        unfold Strict at hs
        rw [e, List.pairwise_append, List.pairwise_cons] at hs
        have := hs.2.1.1 u (h3.subset hm)
        have := vless_asym this
        rw [hl] at this; cases this
    · simpa using h4
end Go.Proofs.Ytphnfhonmbbddaa
