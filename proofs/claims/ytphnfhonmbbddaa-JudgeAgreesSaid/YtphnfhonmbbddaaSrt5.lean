/- Go's sort over a row, part 5: pdqsort. -/
import Derived.Test.YtphnfhonmbbddaaGH
namespace Go.Proofs.Ytphnfhonmbbddaa
open Go Go.RowKit
set_option linter.unusedVariables false

/-- A row that came out of dd by exchanges between aa and bb. -/
structure Pq {α : Type} [Inhabited α] (aa bb : Nat) (dd : Array α) where
  r : Array α
  h : Sort.PermIn aa bb dd r
set_option maxRecDepth 100000 in
set_option maxHeartbeats 2000000 in
theorem pdq_step {α : Type} [Cel α] [Inhabited α] {w00 : World} {g n : Nat} {ty : TypeId} {tail : List Value} {lt : α → α → Bool} {kf : Nat} {lb : Array Value} {sf : Nat} {sb : Array Value} {H0 : List (Nat × Obj)} (hS : SortOk Try.prog α w00 g n ty tail lt kf lb sf sb H0) (hn : n ≤ 1000) (k : Nat) (ih : ∀ (d : Array α) (a b : Nat) (limit : Int) (hd : d.size = n) (hab : a ≤ b) (hb : b ≤ n) (hl0 : 0 ≤ limit) (hl1 : limit ≤ 1000) (hk : b - a < k) (hBel : Sort.Below lt a b d) (H' : List (Nat × Obj)) (w : World) (hst : St w00 ((g, .cells (rowb d tail) ty (0, 0)) :: (H' ++ H0)) w), Calls Try.prog 73 #[.agg (LS kf lb sf sb), .int .i64 (a : Int), .int .i64 (b : Int), .int .i64 limit] w (fun rr w' => ∃ gs : Array α, (Sort.PermIn a b d gs ∧ Sort.SortedIn lt a b gs) ∧ rr = .returned (.tuple #[]) ∧ St w00 ((g, .cells (rowb gs tail) ty (0, 0)) :: (H' ++ H0)) w')) (d : Array α) (a b : Nat) (limit : Int) (hd : d.size = n) (hab : a ≤ b) (hb : b ≤ n) (hl0 : 0 ≤ limit) (hl1 : limit ≤ 1000) (hk : b - a ≤ k) (hBel : Sort.Below lt a b d) (H' : List (Nat × Obj)) (w : World) (hst : St w00 ((g, .cells (rowb d tail) ty (0, 0)) :: (H' ++ H0)) w) : Calls Try.prog 73 #[.agg (LS kf lb sf sb), .int .i64 a, .int .i64 b, .int .i64 limit] w (fun rr w' => ∃ gs : Array α, (Sort.PermIn a b d gs ∧ Sort.SortedIn lt a b gs) ∧ rr = .returned (.tuple #[]) ∧ St w00 ((g, .cells (rowb gs tail) ty (0, 0)) :: (H' ++ H0)) w') := by
 refine calls_W (n := 130) Try.func73 rfl [(0, .agg (LS kf lb sf sb)), (1, .int .i64 a), (2, .int .i64 b), (3, .int .i64 limit)] rfl ⟨by kernel_rfl, by kernel_rfl⟩ (W.weak (Ψ := St w00 ((g, Obj.cells (rowb d tail) ty (0, 0)) :: (H' ++ H0))) (fun w' h => by rw [h]; exact hst) (W.seq (W.rg od1 (T.bx 4 116 (.agg (LS kf lb sf sb)) ((LS kf lb sf sb)) tv3 (fun b1 => T.nil (QN.seq (W.seq (W.rg od1 (T.pb 8 true (T.nil (QN.seq (W.seq (W.rg od1 (T.pb 9 true (T.nil (QN.seq (W.block (W.loop (σ := Nat × Nat × Array α × Int × Bool × Bool) (fun gs => a ≤ gs.1 ∧ gs.2.1 ≤ b ∧ gs.1 ≤ gs.2.1 ∧ gs.2.2.1.size = n ∧ Sort.Below lt gs.1 gs.2.1 gs.2.2.1 ∧ 0 ≤ gs.2.2.2.1 ∧ gs.2.2.2.1 ≤ 1000 ∧ ∀ R, Sort.PermIn gs.1 gs.2.1 gs.2.2.1 R → Sort.SortedIn lt gs.1 gs.2.1 R → Sort.PermIn a b d R ∧ Sort.SortedIn lt a b R) (fun gs => [(1, .int .i64 (gs.1 : Int)), (2, .int .i64 (gs.2.1 : Int)), (3, .int .i64 gs.2.2.2.1), (4, .pointer (some ⟨b1, 0, none⟩)), (8, .bool gs.2.2.2.2.1), (9, .bool gs.2.2.2.2.2)]) (fun gs => St w00 ((b1, Obj.cells (LS kf lb sf sb) 116 (0, 0)) :: ((g, Obj.cells (rowb gs.2.2.1 tail) ty (0, 0)) :: (H' ++ H0)))) (fun gs => gs.2.1 - gs.1) (a, b, d, limit, true, true) ?_ (by kernel_rfl) (fun w h => h) ?_))))))))))))))))))
 ·
  try dsimp only
  exact ⟨Nat.le_refl _, Nat.le_refl _, hab, hd, hBel, hl0, hl1, fun R h1 h2 => ⟨h1, h2⟩⟩
 rintro ⟨aa, bb, dd, lim, wb, wp⟩ hI_
 obtain ⟨ha1, hb1, hab1, hdd, hB, hlim0, hlim1, hfin⟩ : a ≤ aa ∧ bb ≤ b ∧ aa ≤ bb ∧ dd.size = n ∧ Sort.Below lt aa bb dd ∧ 0 ≤ lim ∧ lim ≤ 1000 ∧ ∀ R, Sort.PermIn aa bb dd R → Sort.SortedIn lt aa bb R → Sort.PermIn a b d R ∧ Sort.SortedIn lt a b R := hI_
 have P0 := Sort.permIn_refl dd aa bb
 refine W.block (W.seq (W.rg od4 (T.pi 19 bb (T.pi 20 aa (T.pw 21 ((bb : Int) - (aa : Int)) (T.pe 10 (.int .i64 ((bb : Int) - (aa : Int))) (.int .i64 ((bb - aa : Nat) : Int)) (int_eq (by omega)) (T.nil (QN.seq (W.seq (W.seq (W.rg od2 (T.pi 22 ((bb - aa : Nat) : Int) (T.pb 23 (decide (((bb - aa : Nat) : Int) ≤ 12)) (T.nil (QN.seq (W.cd (decide (((bb - aa : Nat) : Int) ≤ 12)) (fun h2 => ?_) (fun h2 => ?_)))))))))))))))))
 ·
  have h2' := of_decide_eq_true h2
  refine W.seq (W.rg od4 (T.lr false 24 (LS kf lb sf sb) 116 b1 0 (fun w h => St.rangeM h (LS kf lb sf sb) mm0 (by kernel_rfl)) (T.pi 25 aa (T.pi 26 bb ?_))))
  have hsz : dd.size = n := P0.1.trans hdd
  refine T.callW 27 102 #[.agg (LS kf lb sf sb), .int .i64 aa, .int .i64 bb] (.tuple #[]) (St w00 ((g, Obj.cells (rowb (Sort.insertionSort lt dd aa bb) tail) ty (0, 0)) :: ((b1, Obj.cells (LS kf lb sf sb) 116 (0, 0)) :: (H' ++ H0)))) (by kernel_rfl) (by kernel_rfl) ent102 ?_ tv2 ?_
  · exact fun w hw => insSort_c hS hn dd aa bb hsz (by omega) (by omega) ((b1, Obj.cells (LS kf lb sf sb) 116 (0, 0)) :: H') w (show St w00 ((g, Obj.cells (rowb dd tail) ty (0, 0)) :: ((b1, Obj.cells (LS kf lb sf sb) 116 (0, 0)) :: (H' ++ H0))) w from (hw.perm (pm1.trans (pm0.cons _))))
  refine T.nil (QN.seq (W.ret (QN.thenRet (QN.blkRet (QN.thenRet (QN.blkRet (QN.done0 (.inl rfl) rfl (fun w hw => ?_))))))))
  exact ⟨_, hfin _ (Sort.permIn_trans _ _ _ _ _ P0 (Sort.insertionSort_holds (lt := lt) hS.swo _ aa bb (by omega) (by omega)).1) (Sort.insertionSort_holds (lt := lt) hS.swo _ aa bb (by omega) (by omega)).2, rfl, ((hw.perm pm0).part (((List.Sublist.refl _).cons _).cons_cons _))⟩
 ·
  have h2' := of_decide_eq_false h2
  refine W.skip (QN.seq (W.seq (W.seq (W.rg od2 (T.pi 28 lim (T.pb 29 (lim == 0) (T.nil (QN.seq (W.cd (lim == 0) (fun h3 => ?_) (fun h3 => ?_))))))))))
  ·
   have h3' := eq_of_beq h3
   refine W.seq (W.rg od4 (T.lr false 30 (LS kf lb sf sb) 116 b1 0 (fun w h => St.rangeM h (LS kf lb sf sb) mm0 (by kernel_rfl)) (T.pi 31 aa (T.pi 32 bb ?_))))
   have hsz : dd.size = n := P0.1.trans hdd
   refine T.callW 33 103 #[.agg (LS kf lb sf sb), .int .i64 aa, .int .i64 bb] (.tuple #[]) (St w00 ((g, Obj.cells (rowb (Sort.heapSort lt dd aa bb) tail) ty (0, 0)) :: ((b1, Obj.cells (LS kf lb sf sb) 116 (0, 0)) :: (H' ++ H0)))) (by kernel_rfl) (by kernel_rfl) ent103 ?_ tv2 ?_
   · exact fun w hw => heapSort_c hS hn dd aa bb hsz (by omega) (by omega) ((b1, Obj.cells (LS kf lb sf sb) 116 (0, 0)) :: H') w (show St w00 ((g, Obj.cells (rowb dd tail) ty (0, 0)) :: ((b1, Obj.cells (LS kf lb sf sb) 116 (0, 0)) :: (H' ++ H0))) w from (hw.perm (pm1.trans (pm0.cons _))))
   refine T.nil (QN.seq (W.ret (QN.thenRet (QN.blkRet (QN.thenRet (QN.blkRet (QN.done0 (.inl rfl) rfl (fun w hw => ?_))))))))
   exact ⟨_, hfin _ (Sort.permIn_trans _ _ _ _ _ P0 (Sort.heapSort_holds (lt := lt) hS.swo _ aa bb (by omega) (by omega)).1) (Sort.heapSort_holds (lt := lt) hS.swo _ aa bb (by omega) (by omega)).2, rfl, ((hw.perm pm0).part (((List.Sublist.refl _).cons _).cons_cons _))⟩
  ·
   have h3' := ne_of_beq_false h3
   refine W.skip (QN.seq (W.seq (W.seq (W.rg od2 (T.pb 34 wb (T.pb 35 (!wb) (T.nil (QN.seq (W.meet (β := Pq aa bb dd × {x : Int // 0 ≤ x ∧ x ≤ 1000}) (fun gs => [(1, .int .i64 aa), (2, .int .i64 bb), (3, .int .i64 gs.2.1), (4, .pointer (some ⟨b1, 0, none⟩)), (8, .bool wb), (9, .bool wp), (10, .int .i64 ((bb - aa : Nat) : Int)), (19, .int .i64 bb), (20, .int .i64 aa), (21, .int .i64 ((bb : Int) - (aa : Int))), (22, .int .i64 ((bb - aa : Nat) : Int)), (23, .bool (decide (((bb - aa : Nat) : Int) ≤ 12))), (28, .int .i64 lim), (29, .bool (lim == 0)), (34, .bool wb), (35, .bool (!wb))]) (fun gs => St w00 ((b1, Obj.cells (LS kf lb sf sb) 116 (0, 0)) :: ((g, Obj.cells (rowb gs.1.r tail) ty (0, 0)) :: (H' ++ H0)))) ?_ ?_)))))))))
   ·
    refine W.cd (!wb) (fun h4 => ?_) (fun h4 => ?_)
    ·
     have h4n := not_eq_true h4
     refine W.seq (W.rg od4 (T.lr false 36 (LS kf lb sf sb) 116 b1 0 (fun w h => St.rangeM h (LS kf lb sf sb) mm0 (by kernel_rfl)) (T.pi 37 aa (T.pi 38 bb ?_))))
     have hsz : dd.size = n := P0.1.trans hdd
     refine T.callG (β := Array α) 39 104 #[.agg (LS kf lb sf sb), .int .i64 aa, .int .i64 bb] (fun gs => .tuple #[]) (fun gs => St w00 ((g, Obj.cells (rowb gs tail) ty (0, 0)) :: ((b1, Obj.cells (LS kf lb sf sb) 116 (0, 0)) :: (H' ++ H0)))) (fun gs => Sort.PermIn aa bb dd gs) (by kernel_rfl) (by kernel_rfl) ent104 ?_ tv3 ?_
     · exact fun w hw => break_c hS hn dd aa bb hsz (by omega) (by omega) ((b1, Obj.cells (LS kf lb sf sb) 116 (0, 0)) :: H') w (show St w00 ((g, Obj.cells (rowb dd tail) ty (0, 0)) :: ((b1, Obj.cells (LS kf lb sf sb) 116 (0, 0)) :: (H' ++ H0))) w from (hw.perm (pm1.trans (pm0.cons _))))
     rintro e5 hp_
     have hp6 : Sort.PermIn aa bb dd e5 := hp_
     refine T.nil (QN.seq (W.rg od3 (T.pi 40 lim (T.pw 41 (lim - 1) (T.pi 3 (lim - 1) (T.nil ?_))))))
     exact QN.meet (⟨e5, Sort.permIn_trans _ _ _ _ _ P0 hp6⟩, ⟨lim - 1, by omega, by omega⟩) (by kernel_rfl) (fun w h => h.perm (pm1.trans (pm0.cons _)))
    ·
     have h4n := not_eq_false h4
     refine W.skip ?_
     exact QN.meet (⟨dd, P0⟩, ⟨lim, by omega, by omega⟩) (by kernel_rfl) (fun w h => h)
   rintro ⟨g1, l1⟩
   show QN _ [(1, .int .i64 aa), (2, .int .i64 bb), (3, .int .i64 l1.1), (4, .pointer (some ⟨b1, 0, none⟩)), (8, .bool wb), (9, .bool wp), (10, .int .i64 ((bb - aa : Nat) : Int)), (19, .int .i64 bb), (20, .int .i64 aa), (21, .int .i64 ((bb : Int) - (aa : Int))), (22, .int .i64 ((bb - aa : Nat) : Int)), (23, .bool (decide (((bb - aa : Nat) : Int) ≤ 12))), (28, .int .i64 lim), (29, .bool (lim == 0)), (34, .bool wb), (35, .bool (!wb))] (St w00 ((b1, Obj.cells (LS kf lb sf sb) 116 (0, 0)) :: ((g, Obj.cells (rowb g1.r tail) ty (0, 0)) :: (H' ++ H0)))) _ _
   have B7 : Sort.Below lt aa bb g1.r := hB.perm (by omega) g1.h
   have hz8 : g1.r.size = n := g1.h.1.trans hdd
   have hl1x : 0 ≤ l1.1 ∧ l1.1 ≤ 1000 := l1.2
   refine QN.seq (W.seq (W.rg od9 (T.lr false 43 (LS kf lb sf sb) 116 b1 0 (fun w h => St.rangeM h (LS kf lb sf sb) mm0 (by kernel_rfl)) (T.pi 44 aa (T.pi 45 bb ?_)))))
   have hsz : g1.r.size = n := g1.h.1.trans hdd
   refine T.callG (β := Nat × Int) 46 105 #[.agg (LS kf lb sf sb), .int .i64 aa, .int .i64 bb] (fun gs => .tuple #[.int .i64 (gs.1 : Int), .int .i64 gs.2]) (fun gs => St w00 ((g, Obj.cells (rowb g1.r tail) ty (0, 0)) :: ((b1, Obj.cells (LS kf lb sf sb) 116 (0, 0)) :: (H' ++ H0)))) (fun gs => aa ≤ gs.1 ∧ gs.1 < bb) (by kernel_rfl) (by kernel_rfl) ent105 ?_ tv3 ?_
   · exact fun w hw => pivot_c hS hn g1.r aa bb hsz (by omega) (by omega) ((b1, Obj.cells (LS kf lb sf sb) 116 (0, 0)) :: H') w (show St w00 ((g, Obj.cells (rowb g1.r tail) ty (0, 0)) :: ((b1, Obj.cells (LS kf lb sf sb) 116 (0, 0)) :: (H' ++ H0))) w from (hw.perm (pm1.trans (pm0.cons _))))
   rintro ⟨pv9, hint10⟩ hp_
   have hp11 : aa ≤ pv9 ∧ pv9 < bb := hp_
   refine T.pu 42 (.tuple #[.int .i64 pv9, .int .i64 hint10]) (T.pi 47 pv9 (T.pi 48 hint10 (T.pi 11 pv9 (T.pi 12 hint10 (T.nil (QN.seq (W.seq (W.seq (W.rg od2 (T.pi 49 hint10 (T.pb 50 (hint10 == 2) (T.nil (QN.seq (W.meet (β := Pq aa bb dd × {x : Nat // aa ≤ x ∧ x < bb} × Int) (fun gs => [(1, .int .i64 aa), (2, .int .i64 bb), (3, .int .i64 l1.1), (4, .pointer (some ⟨b1, 0, none⟩)), (8, .bool wb), (9, .bool wp), (10, .int .i64 ((bb - aa : Nat) : Int)), (11, .int .i64 (gs.2.1.1 : Int)), (12, .int .i64 gs.2.2), (19, .int .i64 bb), (20, .int .i64 aa), (21, .int .i64 ((bb : Int) - (aa : Int))), (22, .int .i64 ((bb - aa : Nat) : Int)), (23, .bool (decide (((bb - aa : Nat) : Int) ≤ 12))), (28, .int .i64 lim), (29, .bool (lim == 0)), (34, .bool wb), (35, .bool (!wb)), (42, .tuple #[.int .i64 pv9, .int .i64 hint10]), (43, .agg (LS kf lb sf sb)), (44, .int .i64 aa), (45, .int .i64 bb), (46, .tuple #[.int .i64 pv9, .int .i64 hint10]), (47, .int .i64 pv9), (48, .int .i64 hint10), (49, .int .i64 hint10), (50, .bool (hint10 == 2))]) (fun gs => St w00 ((g, Obj.cells (rowb gs.1.r tail) ty (0, 0)) :: ((b1, Obj.cells (LS kf lb sf sb) 116 (0, 0)) :: (H' ++ H0)))) ?_ ?_))))))))))))))
   ·
    refine W.cd (hint10 == 2) (fun h12 => ?_) (fun h12 => ?_)
    ·
     have h12' := eq_of_beq h12
     refine W.seq (W.rg od4 (T.lr false 51 (LS kf lb sf sb) 116 b1 0 (fun w h => St.rangeM h (LS kf lb sf sb) mm1 (by kernel_rfl)) (T.pi 52 aa (T.pi 53 bb ?_))))
     have hsz : g1.r.size = n := g1.h.1.trans hdd
     have P13 : Sort.PermIn aa bb dd (Sort.reverseRange g1.r aa bb) := Sort.permIn_trans _ _ _ _ _ g1.h (Sort.reverseRange_holds g1.r aa bb (by omega) (by omega))
     have hz15 : (Sort.reverseRange g1.r aa bb).size = n := P13.1.trans hdd
     have B14 : Sort.Below lt aa bb (Sort.reverseRange g1.r aa bb) := hB.perm (by omega) P13
     refine T.callW 54 106 #[.agg (LS kf lb sf sb), .int .i64 aa, .int .i64 bb] (.tuple #[]) (St w00 ((g, Obj.cells (rowb (Sort.reverseRange g1.r aa bb) tail) ty (0, 0)) :: ((b1, Obj.cells (LS kf lb sf sb) 116 (0, 0)) :: (H' ++ H0)))) (by kernel_rfl) (by kernel_rfl) ent106 ?_ tv2 ?_
     · exact fun w hw => reverse_c hS hn g1.r aa bb hsz (by omega) (by omega) ((b1, Obj.cells (LS kf lb sf sb) 116 (0, 0)) :: H') w (show St w00 ((g, Obj.cells (rowb g1.r tail) ty (0, 0)) :: ((b1, Obj.cells (LS kf lb sf sb) 116 (0, 0)) :: (H' ++ H0))) w from hw)
     refine T.nil (QN.seq (W.seq (W.rg od7 (T.pi 55 bb (T.pw 56 ((bb : Int) - 1) (T.pi 57 pv9 (T.pi 58 aa (T.pw 59 ((pv9 : Int) - (aa : Int)) (T.pw 60 (((bb : Int) - 1) - ((pv9 : Int) - (aa : Int))) (T.pe 11 (.int .i64 (((bb : Int) - 1) - ((pv9 : Int) - (aa : Int)))) (.int .i64 (((bb - 1) - (pv9 - aa) : Nat) : Int)) (int_eq (by omega)) (T.nil (QN.seq (W.rg od1 (T.pi 12 1 (T.nil ?_)))))))))))))))
     exact QN.meet (⟨Sort.reverseRange g1.r aa bb, P13⟩, ⟨((bb - 1) - (pv9 - aa)), by omega, by omega⟩, 1) (by kernel_rfl) (fun w h => h)
    ·
     have h12' := ne_of_beq_false h12
     refine W.skip ?_
     exact QN.meet (⟨g1.r, g1.h⟩, ⟨pv9, by omega, by omega⟩, hint10) (by kernel_rfl) (fun w h => h)
   rintro ⟨g2, p2, i2⟩
   show QN _ [(1, .int .i64 aa), (2, .int .i64 bb), (3, .int .i64 l1.1), (4, .pointer (some ⟨b1, 0, none⟩)), (8, .bool wb), (9, .bool wp), (10, .int .i64 ((bb - aa : Nat) : Int)), (11, .int .i64 (p2.1 : Int)), (12, .int .i64 i2), (19, .int .i64 bb), (20, .int .i64 aa), (21, .int .i64 ((bb : Int) - (aa : Int))), (22, .int .i64 ((bb - aa : Nat) : Int)), (23, .bool (decide (((bb - aa : Nat) : Int) ≤ 12))), (28, .int .i64 lim), (29, .bool (lim == 0)), (34, .bool wb), (35, .bool (!wb)), (42, .tuple #[.int .i64 pv9, .int .i64 hint10]), (43, .agg (LS kf lb sf sb)), (44, .int .i64 aa), (45, .int .i64 bb), (46, .tuple #[.int .i64 pv9, .int .i64 hint10]), (47, .int .i64 pv9), (48, .int .i64 hint10), (49, .int .i64 hint10), (50, .bool (hint10 == 2))] (St w00 ((g, Obj.cells (rowb g2.r tail) ty (0, 0)) :: ((b1, Obj.cells (LS kf lb sf sb) 116 (0, 0)) :: (H' ++ H0)))) _ _
   have B16 : Sort.Below lt aa bb g2.r := hB.perm (by omega) g2.h
   have hz17 : g2.r.size = n := g2.h.1.trans hdd
   have hp2x : aa ≤ p2.1 ∧ p2.1 < bb := p2.2
   refine QN.seq (W.seq (W.seq (W.rg od8 (T.pb 61 wb (T.pb 62 wb (T.bk [(2, false)] [(3, false), (4, false), (5, false), (6, false), (7, false)] 1 true wb 62 63 (.bool wp) (fun hg18 => ?_) ?_))))))
   ·
    have hg18_ := hg18
    refine T.pb 63 wp ?_
    exact T.blkEnd (by kernel_rfl) (fun w h => h)
   refine T.an 64 wb wp (T.pb 65 (wb && wp) (T.bk [(5, false), (6, false)] [(7, false)] 4 true (wb && wp) 65 67 (.bool (i2 == 1)) (fun hg19 => ?_) ?_))
   ·
    have hg19_ := hg19
    have hg19l := (Bool.and_eq_true_iff.1 hg19).1
    have hg19r := (Bool.and_eq_true_iff.1 hg19).2
    refine T.pi 66 i2 (T.pb 67 (i2 == 1) ?_)
    exact T.blkEnd (by kernel_rfl) (fun w h => h)
   refine T.an 68 (wb && wp) (i2 == 1) (T.nil (QN.seq (W.meet (β := Pq aa bb dd) (fun gs => [(1, .int .i64 aa), (2, .int .i64 bb), (3, .int .i64 l1.1), (4, .pointer (some ⟨b1, 0, none⟩)), (8, .bool wb), (9, .bool wp), (10, .int .i64 ((bb - aa : Nat) : Int)), (11, .int .i64 (p2.1 : Int)), (12, .int .i64 i2), (19, .int .i64 bb), (20, .int .i64 aa), (21, .int .i64 ((bb : Int) - (aa : Int))), (22, .int .i64 ((bb - aa : Nat) : Int)), (23, .bool (decide (((bb - aa : Nat) : Int) ≤ 12))), (28, .int .i64 lim), (29, .bool (lim == 0)), (34, .bool wb), (35, .bool (!wb)), (42, .tuple #[.int .i64 pv9, .int .i64 hint10]), (43, .agg (LS kf lb sf sb)), (44, .int .i64 aa), (45, .int .i64 bb), (46, .tuple #[.int .i64 pv9, .int .i64 hint10]), (47, .int .i64 pv9), (48, .int .i64 hint10), (49, .int .i64 hint10), (50, .bool (hint10 == 2)), (61, .bool wb), (62, .bool wb), (63, gv (wb == true) (.bool wp)), (64, .bool (wb && wp)), (65, .bool (wb && wp)), (67, gv ((wb && wp) == true) (.bool (i2 == 1))), (68, .bool ((wb && wp) && (i2 == 1)))]) (fun gs => St w00 ((g, Obj.cells (rowb gs.r tail) ty (0, 0)) :: ((b1, Obj.cells (LS kf lb sf sb) 116 (0, 0)) :: (H' ++ H0)))) ?_ ?_)))
   ·
    refine W.cd ((wb && wp) && (i2 == 1)) (fun h20 => ?_) (fun h20 => ?_)
    ·
     have h20l := (Bool.and_eq_true_iff.1 h20).1
     have h20r := (Bool.and_eq_true_iff.1 h20).2
     have h20ll := (Bool.and_eq_true_iff.1 h20l).1
     have h20lr := (Bool.and_eq_true_iff.1 h20l).2
     have h20r' := eq_of_beq h20r
     refine W.seq (W.rg od4 (T.lr false 69 (LS kf lb sf sb) 116 b1 0 (fun w h => St.rangeM h (LS kf lb sf sb) mm1 (by kernel_rfl)) (T.pi 70 aa (T.pi 71 bb ?_))))
     have hsz : g2.r.size = n := g2.h.1.trans hdd
     have hpi := Sort.partialInsertionSort_holds (lt := lt) hS.swo g2.r aa bb (by omega) (by omega) B16
     have P21 : Sort.PermIn aa bb dd ((Sort.partialInsertionSort lt g2.r aa bb).1) := Sort.permIn_trans _ _ _ _ _ g2.h hpi.1
     have hz23 : ((Sort.partialInsertionSort lt g2.r aa bb).1).size = n := P21.1.trans hdd
     have B22 : Sort.Below lt aa bb ((Sort.partialInsertionSort lt g2.r aa bb).1) := hB.perm (by omega) P21
     refine T.callW 72 107 #[.agg (LS kf lb sf sb), .int .i64 aa, .int .i64 bb] (.bool ((Sort.partialInsertionSort lt g2.r aa bb).2)) (St w00 ((g, Obj.cells (rowb ((Sort.partialInsertionSort lt g2.r aa bb).1) tail) ty (0, 0)) :: ((b1, Obj.cells (LS kf lb sf sb) 116 (0, 0)) :: (H' ++ H0)))) (by kernel_rfl) (by kernel_rfl) ent107 ?_ tv2 ?_
     · exact fun w hw => partial_c hS hn g2.r aa bb hsz (by omega) (by omega) ((b1, Obj.cells (LS kf lb sf sb) 116 (0, 0)) :: H') w (show St w00 ((g, Obj.cells (rowb g2.r tail) ty (0, 0)) :: ((b1, Obj.cells (LS kf lb sf sb) 116 (0, 0)) :: (H' ++ H0))) w from hw)
     refine T.nil (QN.seq (W.cd ((Sort.partialInsertionSort lt g2.r aa bb).2) (fun h24 => ?_) (fun h24 => ?_)))
     ·
      refine W.ret (QN.thenRet (QN.thenRet (QN.blkRet (QN.thenRet (QN.blkRet (QN.done0 (.inl rfl) rfl (fun w hw => ?_)))))))
      exact ⟨_, hfin _ P21 (hpi.2 h24), rfl, ((hw.perm pm0).part (((List.Sublist.refl _).cons _).cons_cons _))⟩
     ·
      refine W.skip ?_
      exact QN.meet (⟨(Sort.partialInsertionSort lt g2.r aa bb).1, P21⟩) (by kernel_rfl) (fun w h => h)
    ·
     refine W.skip ?_
     exact QN.meet (⟨g2.r, g2.h⟩) (by kernel_rfl) (fun w h => h)
   intro g3
   show QN _ [(1, .int .i64 aa), (2, .int .i64 bb), (3, .int .i64 l1.1), (4, .pointer (some ⟨b1, 0, none⟩)), (8, .bool wb), (9, .bool wp), (10, .int .i64 ((bb - aa : Nat) : Int)), (11, .int .i64 (p2.1 : Int)), (12, .int .i64 i2), (19, .int .i64 bb), (20, .int .i64 aa), (21, .int .i64 ((bb : Int) - (aa : Int))), (22, .int .i64 ((bb - aa : Nat) : Int)), (23, .bool (decide (((bb - aa : Nat) : Int) ≤ 12))), (28, .int .i64 lim), (29, .bool (lim == 0)), (34, .bool wb), (35, .bool (!wb)), (42, .tuple #[.int .i64 pv9, .int .i64 hint10]), (43, .agg (LS kf lb sf sb)), (44, .int .i64 aa), (45, .int .i64 bb), (46, .tuple #[.int .i64 pv9, .int .i64 hint10]), (47, .int .i64 pv9), (48, .int .i64 hint10), (49, .int .i64 hint10), (50, .bool (hint10 == 2)), (61, .bool wb), (62, .bool wb), (63, gv (wb == true) (.bool wp)), (64, .bool (wb && wp)), (65, .bool (wb && wp)), (67, gv ((wb && wp) == true) (.bool (i2 == 1))), (68, .bool ((wb && wp) && (i2 == 1)))] (St w00 ((g, Obj.cells (rowb g3.r tail) ty (0, 0)) :: ((b1, Obj.cells (LS kf lb sf sb) 116 (0, 0)) :: (H' ++ H0)))) _ _
   have B25 : Sort.Below lt aa bb g3.r := hB.perm (by omega) g3.h
   have hz26 : g3.r.size = n := g3.h.1.trans hdd
   refine QN.seq (W.seq (W.seq (W.rg od11 (T.pi 73 aa (T.pb 74 (decide (0 < (aa : Int))) (T.pb 75 (decide (0 < (aa : Int))) (T.bk [(3, false), (4, false), (5, false), (6, false), (7, false), (8, false), (9, false)] [(10, false)] 2 true (decide (0 < (aa : Int))) 75 82 (.bool (!(lt g3.r[(aa - 1)]! g3.r[p2.1]!))) (fun hg27 => ?_) ?_)))))))
   ·
    have hg27_ := hg27
    have hg27' := of_decide_eq_true hg27
    refine T.pu 76 (.pointer (some ⟨b1, 0, none⟩)) (T.ld false 77 (.func (.func kf) #[] lb) 90 b1 0 (fun w h => St.cellM h mm1 (by kernel_rfl)) (T.pi 78 aa (T.pw 79 ((aa : Int) - 1) (T.pi 80 (p2.1 : Int) (T.cp 81 kf (#[.int .i64 ((aa : Int) - 1), .int .i64 (p2.1 : Int)] ++ lb) (.bool (lt g3.r[(aa - 1)]! g3.r[p2.1]!)) hS.ent ?_ tv2 ?_)))))
    · exact fun w hw => hS.less ((b1, Obj.cells (LS kf lb sf sb) 116 (0, 0)) :: H') g3.r w ((aa : Int) - 1) (p2.1 : Int) (aa - 1) p2.1 (by first | assumption | (simp only [Sort.size_swp]; assumption)) (by omega) (by omega) (by omega) (by omega) (show St w00 ((g, Obj.cells (rowb g3.r tail) ty (0, 0)) :: ((b1, Obj.cells (LS kf lb sf sb) 116 (0, 0)) :: (H' ++ H0))) w from hw)
    refine T.pb 82 (!(lt g3.r[(aa - 1)]! g3.r[p2.1]!)) ?_
    exact T.blkEnd (by kernel_rfl) (fun w h => h)
   refine T.an 83 (decide (0 < (aa : Int))) (!(lt g3.r[(aa - 1)]! g3.r[p2.1]!)) (T.nil (QN.seq (W.cd ((decide (0 < (aa : Int))) && (!(lt g3.r[(aa - 1)]! g3.r[p2.1]!))) (fun h28 => ?_) (fun h28 => ?_))))
   ·
    have h28l := (Bool.and_eq_true_iff.1 h28).1
    have h28r := (Bool.and_eq_true_iff.1 h28).2
    have h28l' := of_decide_eq_true h28l
    have h28rn := not_eq_true h28r
    refine W.seq (W.rg od6 (T.lr false 84 (LS kf lb sf sb) 116 b1 0 (fun w h => St.rangeM h (LS kf lb sf sb) mm1 (by kernel_rfl)) (T.pi 85 aa (T.pi 86 bb (T.pi 87 (p2.1 : Int) ?_)))))
    have hsz : g3.r.size = n := g3.h.1.trans hdd
    have hre := Sort.round_eq hS.swo (Sort.partitionEqual_holds lt) (d3 := g3.r) (a := aa) (b := bb) (pivot := p2.1) (mid := (Sort.partitionEqual lt g3.r aa bb p2.1).1) (d4 := (Sort.partitionEqual lt g3.r aa bb p2.1).2) (by omega) (by omega) (by omega) (by omega) B25 (not_eq_true h28r) rfl
    obtain ⟨m1, m2, m3, m4, m5⟩ := hre
    refine T.callW 88 108 #[.agg (LS kf lb sf sb), .int .i64 aa, .int .i64 bb, .int .i64 (p2.1 : Int)] (.int .i64 (((Sort.partitionEqual lt g3.r aa bb p2.1).1 : Nat) : Int)) (St w00 ((g, Obj.cells (rowb ((Sort.partitionEqual lt g3.r aa bb p2.1).2) tail) ty (0, 0)) :: ((b1, Obj.cells (LS kf lb sf sb) 116 (0, 0)) :: (H' ++ H0)))) (by kernel_rfl) (by kernel_rfl) ent108 ?_ tv2 ?_
    · exact fun w hw => partEq_c hS hn g3.r aa bb p2.1 hsz (by omega) (by omega) (by omega) ((b1, Obj.cells (LS kf lb sf sb) 116 (0, 0)) :: H') w (show St w00 ((g, Obj.cells (rowb g3.r tail) ty (0, 0)) :: ((b1, Obj.cells (LS kf lb sf sb) 116 (0, 0)) :: (H' ++ H0))) w from hw)
    refine T.pe 13 (.int .i64 (((Sort.partitionEqual lt g3.r aa bb p2.1).1 : Nat) : Int)) (.int .i64 (((Sort.partitionEqual lt g3.r aa bb p2.1).1 : Nat) : Int)) (int_eq (by omega)) (T.nil (QN.seq (W.seq (W.rg od2 (T.pi 89 (((Sort.partitionEqual lt g3.r aa bb p2.1).1 : Nat) : Int) (T.pe 1 (.int .i64 (((Sort.partitionEqual lt g3.r aa bb p2.1).1 : Nat) : Int)) (.int .i64 (((Sort.partitionEqual lt g3.r aa bb p2.1).1 : Nat) : Int)) (int_eq (by omega)) (T.nil (QN.seq (W.exit (QN.thenExit (QN.blkHit (QN.back (((Sort.partitionEqual lt g3.r aa bb p2.1).1), bb, (Sort.partitionEqual lt g3.r aa bb p2.1).2, l1.1, wb, wp) ?_ ?_ (by kernel_rfl) (fun w h => h.perm (pm1.trans (pm0.cons _)))))))))))))))
    ·
     try dsimp only
     exact ⟨by omega, by omega, by omega, m3.trans (g3.h.1.trans hdd), m4, by omega, by omega, fun R h1 h2 => hfin R (Sort.permIn_trans _ _ _ _ _ g3.h (m5 R h1 h2).1) (m5 R h1 h2).2⟩
    · show bb - ((Sort.partitionEqual lt g3.r aa bb p2.1).1) < bb - aa; omega
   ·
    refine W.skip (QN.seq (W.seq (W.rg od10 (T.lr false 91 (LS kf lb sf sb) 116 b1 0 (fun w h => St.rangeM h (LS kf lb sf sb) mm1 (by kernel_rfl)) (T.pi 92 aa (T.pi 93 bb (T.pi 94 (p2.1 : Int) ?_)))))))
    have hsz : g3.r.size = n := g3.h.1.trans hdd
    have hrp := Sort.round_part hS.swo (Sort.partition_holds lt) (d3 := g3.r) (a := aa) (b := bb) (pivot := p2.1) (mid := (Sort.partition lt g3.r aa bb p2.1).1) (ap := (Sort.partition lt g3.r aa bb p2.1).2.1) (d4 := (Sort.partition lt g3.r aa bb p2.1).2.2) (by omega) (by omega) (by omega) B25 rfl
    obtain ⟨m1, m2, m3, m4, m5, m6, m7⟩ := hrp
    refine T.callW 95 109 #[.agg (LS kf lb sf sb), .int .i64 aa, .int .i64 bb, .int .i64 (p2.1 : Int)] (.tuple #[.int .i64 (((Sort.partition lt g3.r aa bb p2.1).1 : Nat) : Int), .bool ((Sort.partition lt g3.r aa bb p2.1).2.1)]) (St w00 ((g, Obj.cells (rowb ((Sort.partition lt g3.r aa bb p2.1).2.2) tail) ty (0, 0)) :: ((b1, Obj.cells (LS kf lb sf sb) 116 (0, 0)) :: (H' ++ H0)))) (by kernel_rfl) (by kernel_rfl) ent109 ?_ tv2 ?_
    · exact fun w hw => part_c hS hn g3.r aa bb p2.1 hsz (by omega) (by omega) (by omega) ((b1, Obj.cells (LS kf lb sf sb) 116 (0, 0)) :: H') w (show St w00 ((g, Obj.cells (rowb g3.r tail) ty (0, 0)) :: ((b1, Obj.cells (LS kf lb sf sb) 116 (0, 0)) :: (H' ++ H0))) w from hw)
    refine T.pu 90 (.tuple #[.int .i64 (((Sort.partition lt g3.r aa bb p2.1).1 : Nat) : Int), .bool ((Sort.partition lt g3.r aa bb p2.1).2.1)]) (T.pi 96 (((Sort.partition lt g3.r aa bb p2.1).1 : Nat) : Int) (T.pb 97 ((Sort.partition lt g3.r aa bb p2.1).2.1) (T.pe 14 (.int .i64 (((Sort.partition lt g3.r aa bb p2.1).1 : Nat) : Int)) (.int .i64 (((Sort.partition lt g3.r aa bb p2.1).1 : Nat) : Int)) (int_eq (by omega)) (T.pb 15 ((Sort.partition lt g3.r aa bb p2.1).2.1) (T.nil (QN.seq (W.seq (W.rg od2 (T.pb 98 ((Sort.partition lt g3.r aa bb p2.1).2.1) (T.pb 9 ((Sort.partition lt g3.r aa bb p2.1).2.1) (T.nil (QN.seq (W.seq (W.rg od8 (T.pi 99 (((Sort.partition lt g3.r aa bb p2.1).1 : Nat) : Int) (T.pi 100 aa (T.pw 101 ((((Sort.partition lt g3.r aa bb p2.1).1 : Nat) : Int) - (aa : Int)) (T.pi 102 bb (T.pi 103 (((Sort.partition lt g3.r aa bb p2.1).1 : Nat) : Int) (T.pw 104 ((bb : Int) - (((Sort.partition lt g3.r aa bb p2.1).1 : Nat) : Int)) (T.pe 16 (.int .i64 ((((Sort.partition lt g3.r aa bb p2.1).1 : Nat) : Int) - (aa : Int))) (.int .i64 ((((Sort.partition lt g3.r aa bb p2.1).1) - aa : Nat) : Int)) (int_eq (by omega)) (T.pe 17 (.int .i64 ((bb : Int) - (((Sort.partition lt g3.r aa bb p2.1).1 : Nat) : Int))) (.int .i64 ((bb - ((Sort.partition lt g3.r aa bb p2.1).1) : Nat) : Int)) (int_eq (by omega)) (T.nil (QN.seq (W.seq (W.rg od3 (T.pi 105 ((bb - aa : Nat) : Int) (T.pe 106 (.int .i64 (IntKind.i64.wrap (((bb - aa : Nat) : Int).tdiv 8))) (.int .i64 (((bb - aa : Nat) : Int) / 8)) (quo_int (by omega) (by decide) (by omega)) (T.pi 18 (((bb - aa : Nat) : Int) / 8) (T.nil (QN.seq (W.seq (W.rg od3 (T.pi 107 ((((Sort.partition lt g3.r aa bb p2.1).1) - aa : Nat) : Int) (T.pi 108 ((bb - ((Sort.partition lt g3.r aa bb p2.1).1) : Nat) : Int) (T.pb 109 (decide (((((Sort.partition lt g3.r aa bb p2.1).1) - aa : Nat) : Int) < ((bb - ((Sort.partition lt g3.r aa bb p2.1).1) : Nat) : Int))) (T.nil (QN.seq (W.cd (decide (((((Sort.partition lt g3.r aa bb p2.1).1) - aa : Nat) : Int) < ((bb - ((Sort.partition lt g3.r aa bb p2.1).1) : Nat) : Int))) (fun h29 => ?_) (fun h29 => ?_))))))))))))))))))))))))))))))))))))))))
    ·
     have h29' := of_decide_eq_true h29
     refine W.seq (W.rg od4 (T.pi 110 ((((Sort.partition lt g3.r aa bb p2.1).1) - aa : Nat) : Int) (T.pi 111 (((bb - aa : Nat) : Int) / 8) (T.pb 112 (decide ((((bb - aa : Nat) : Int) / 8) ≤ ((((Sort.partition lt g3.r aa bb p2.1).1) - aa : Nat) : Int))) (T.pb 8 (decide ((((bb - aa : Nat) : Int) / 8) ≤ ((((Sort.partition lt g3.r aa bb p2.1).1) - aa : Nat) : Int))) (T.nil (QN.seq (W.seq (W.rg od5 (T.lr false 113 (LS kf lb sf sb) 116 b1 0 (fun w h => St.rangeM h (LS kf lb sf sb) mm1 (by kernel_rfl)) (T.pi 114 aa (T.pi 115 (((Sort.partition lt g3.r aa bb p2.1).1 : Nat) : Int) (T.pi 116 l1.1 ?_)))))))))))))
     have hsz4 : ((Sort.partition lt g3.r aa bb p2.1).2.2).size = n := m3.trans (g3.h.1.trans hdd)
     refine T.callG (β := Array α) 117 73 #[.agg (LS kf lb sf sb), .int .i64 aa, .int .i64 (((Sort.partition lt g3.r aa bb p2.1).1 : Nat) : Int), .int .i64 l1.1] (fun gs => .tuple #[]) (fun gs => St w00 ((g, Obj.cells (rowb gs tail) ty (0, 0)) :: ((b1, Obj.cells (LS kf lb sf sb) 116 (0, 0)) :: (H' ++ H0)))) (fun gs => Sort.PermIn aa ((Sort.partition lt g3.r aa bb p2.1).1) ((Sort.partition lt g3.r aa bb p2.1).2.2) gs ∧ Sort.SortedIn lt aa ((Sort.partition lt g3.r aa bb p2.1).1) gs) (by kernel_rfl) (by kernel_rfl) ent73 ?_ tv3 ?_
     · exact fun w hw => ih ((Sort.partition lt g3.r aa bb p2.1).2.2) aa ((Sort.partition lt g3.r aa bb p2.1).1) l1.1 hsz4 (by omega) (by omega) (by omega) (by omega) (by omega) m4 ((b1, Obj.cells (LS kf lb sf sb) 116 (0, 0)) :: H') w (show St w00 ((g, Obj.cells (rowb ((Sort.partition lt g3.r aa bb p2.1).2.2) tail) ty (0, 0)) :: ((b1, Obj.cells (LS kf lb sf sb) 116 (0, 0)) :: (H' ++ H0))) w from hw)
     rintro e30 hp_
     have hp31 : Sort.PermIn aa ((Sort.partition lt g3.r aa bb p2.1).1) ((Sort.partition lt g3.r aa bb p2.1).2.2) e30 ∧ Sort.SortedIn lt aa ((Sort.partition lt g3.r aa bb p2.1).1) e30 := hp_
     refine T.nil (QN.seq (W.rg od3 (T.pi 118 (((Sort.partition lt g3.r aa bb p2.1).1 : Nat) : Int) (T.pw 119 ((((Sort.partition lt g3.r aa bb p2.1).1 : Nat) : Int) + 1) (T.pe 1 (.int .i64 ((((Sort.partition lt g3.r aa bb p2.1).1 : Nat) : Int) + 1)) (.int .i64 ((((Sort.partition lt g3.r aa bb p2.1).1) + 1 : Nat) : Int)) (int_eq (by omega)) (T.nil (QN.blkNormal (QN.back ((Sort.partition lt g3.r aa bb p2.1).1 + 1, bb, e30, l1.1, decide ((((bb - aa : Nat) : Int) / 8) ≤ ((((Sort.partition lt g3.r aa bb p2.1).1) - aa : Nat) : Int)), (Sort.partition lt g3.r aa bb p2.1).2.1) ?_ ?_ (by kernel_rfl) (fun w h => h.perm (pm1.trans (pm0.cons _)))))))))))
     ·
      try dsimp only
      exact ⟨by omega, by omega, by omega, hp31.1.1.trans hsz4, (m6 e30 hp31.1 hp31.2).1, by omega, by omega, fun R h1 h2 => hfin R (Sort.permIn_trans _ _ _ _ _ g3.h ((m6 e30 hp31.1 hp31.2).2 R h1 h2).1) ((m6 e30 hp31.1 hp31.2).2 R h1 h2).2⟩
     · show bb - ((Sort.partition lt g3.r aa bb p2.1).1 + 1) < bb - aa; omega
    ·
     have h29' := of_decide_eq_false h29
     refine W.seq (W.rg od4 (T.pi 120 ((bb - ((Sort.partition lt g3.r aa bb p2.1).1) : Nat) : Int) (T.pi 121 (((bb - aa : Nat) : Int) / 8) (T.pb 122 (decide ((((bb - aa : Nat) : Int) / 8) ≤ ((bb - ((Sort.partition lt g3.r aa bb p2.1).1) : Nat) : Int))) (T.pb 8 (decide ((((bb - aa : Nat) : Int) / 8) ≤ ((bb - ((Sort.partition lt g3.r aa bb p2.1).1) : Nat) : Int))) (T.nil (QN.seq (W.seq (W.rg od6 (T.lr false 123 (LS kf lb sf sb) 116 b1 0 (fun w h => St.rangeM h (LS kf lb sf sb) mm1 (by kernel_rfl)) (T.pi 124 (((Sort.partition lt g3.r aa bb p2.1).1 : Nat) : Int) (T.pw 125 ((((Sort.partition lt g3.r aa bb p2.1).1 : Nat) : Int) + 1) (T.pi 126 bb (T.pi 127 l1.1 ?_))))))))))))))
     have hsz4 : ((Sort.partition lt g3.r aa bb p2.1).2.2).size = n := m3.trans (g3.h.1.trans hdd)
     refine T.callG (β := Array α) 128 73 #[.agg (LS kf lb sf sb), .int .i64 ((((Sort.partition lt g3.r aa bb p2.1).1 : Nat) : Int) + 1), .int .i64 bb, .int .i64 l1.1] (fun gs => .tuple #[]) (fun gs => St w00 ((g, Obj.cells (rowb gs tail) ty (0, 0)) :: ((b1, Obj.cells (LS kf lb sf sb) 116 (0, 0)) :: (H' ++ H0)))) (fun gs => Sort.PermIn (((Sort.partition lt g3.r aa bb p2.1).1) + 1) bb ((Sort.partition lt g3.r aa bb p2.1).2.2) gs ∧ Sort.SortedIn lt (((Sort.partition lt g3.r aa bb p2.1).1) + 1) bb gs) (by kernel_rfl) (by kernel_rfl) ent73 ?_ tv3 ?_
     · exact fun w hw => ih ((Sort.partition lt g3.r aa bb p2.1).2.2) (((Sort.partition lt g3.r aa bb p2.1).1) + 1) bb l1.1 hsz4 (by omega) (by omega) (by omega) (by omega) (by omega) m5 ((b1, Obj.cells (LS kf lb sf sb) 116 (0, 0)) :: H') w (show St w00 ((g, Obj.cells (rowb ((Sort.partition lt g3.r aa bb p2.1).2.2) tail) ty (0, 0)) :: ((b1, Obj.cells (LS kf lb sf sb) 116 (0, 0)) :: (H' ++ H0))) w from hw)
     rintro e32 hp_
     have hp33 : Sort.PermIn (((Sort.partition lt g3.r aa bb p2.1).1) + 1) bb ((Sort.partition lt g3.r aa bb p2.1).2.2) e32 ∧ Sort.SortedIn lt (((Sort.partition lt g3.r aa bb p2.1).1) + 1) bb e32 := hp_
     refine T.nil (QN.seq (W.rg od2 (T.pi 129 (((Sort.partition lt g3.r aa bb p2.1).1 : Nat) : Int) (T.pi 2 (((Sort.partition lt g3.r aa bb p2.1).1 : Nat) : Int) (T.nil (QN.blkNormal (QN.back (aa, (Sort.partition lt g3.r aa bb p2.1).1, e32, l1.1, decide ((((bb - aa : Nat) : Int) / 8) ≤ ((bb - ((Sort.partition lt g3.r aa bb p2.1).1) : Nat) : Int)), (Sort.partition lt g3.r aa bb p2.1).2.1) ?_ ?_ (by kernel_rfl) (fun w h => h.perm (pm1.trans (pm0.cons _))))))))))
     ·
      try dsimp only
      exact ⟨by omega, by omega, by omega, hp33.1.1.trans hsz4, (m7 e32 hp33.1 hp33.2).1, by omega, by omega, fun R h1 h2 => hfin R (Sort.permIn_trans _ _ _ _ _ g3.h ((m7 e32 hp33.1 hp33.2).2 R h1 h2).1) ((m7 e32 hp33.1 hp33.2).2 R h1 h2).2⟩
     · show ((Sort.partition lt g3.r aa bb p2.1).1) - aa < bb - aa; omega
theorem pdq_c {α : Type} [Cel α] [Inhabited α] {w00 : World} {g n : Nat} {ty : TypeId} {tail : List Value} {lt : α → α → Bool} {kf : Nat} {lb : Array Value} {sf : Nat} {sb : Array Value} {H0 : List (Nat × Obj)} (hS : SortOk Try.prog α w00 g n ty tail lt kf lb sf sb H0) (hn : n ≤ 1000) : ∀ (k : Nat) (d : Array α) (a b : Nat) (limit : Int) (hd : d.size = n) (hab : a ≤ b) (hb : b ≤ n) (hl0 : 0 ≤ limit) (hl1 : limit ≤ 1000) (hk : b - a < k) (hBel : Sort.Below lt a b d) (H' : List (Nat × Obj)) (w : World) (hst : St w00 ((g, .cells (rowb d tail) ty (0, 0)) :: (H' ++ H0)) w), Calls Try.prog 73 #[.agg #[.func (.func kf) #[] lb, .func (.func sf) #[] sb], .int .i64 (a : Int), .int .i64 (b : Int), .int .i64 limit] w (fun rr w' => ∃ gs : Array α, (Sort.PermIn a b d gs ∧ Sort.SortedIn lt a b gs) ∧ rr = .returned (.tuple #[]) ∧ St w00 ((g, .cells (rowb gs tail) ty (0, 0)) :: (H' ++ H0)) w')
  | 0, d, a, b, limit, hd, hab, hb, hl0, hl1, hk, _, _, _, _ => absurd hk (by omega)
  | k + 1, d, a, b, limit, hd, hab, hb, hl0, hl1, hk, hBel, H', w, hst => pdq_step hS hn k (pdq_c hS hn k) d a b limit hd hab hb hl0 hl1 (by omega) hBel H' w hst
end Go.Proofs.Ytphnfhonmbbddaa
