/- Go's sort over a row, part 5: pdqsort. -/
import Derived.Test.YtnagichfngogkaaGH
namespace Go.Proofs.Ytnagichfngogkaa
open Go Go.RowKit
set_option linter.unusedVariables false

set_option maxRecDepth 100000 in
set_option maxHeartbeats 2000000 in
theorem pdq_step {α : Type} [Cel α] [Inhabited α] {w00 : World} {g n : Nat} {ty : TypeId} {tail : List Value} {lt : α → α → Bool} {kf : Nat} {lb : Array Value} {sf : Nat} {sb : Array Value} {H0 : List (Nat × Obj)} (hS : SortOk Try.prog α w00 g n ty tail lt kf lb sf sb H0) (hn : n ≤ 1000) (k : Nat) (ih : ∀ (d : Array α) (a b : Nat) (limit : Int) (hd : d.size = n) (hab : a ≤ b) (hb : b ≤ n) (hl0 : 0 ≤ limit) (hl1 : limit ≤ 1000) (hk : b - a < k) (hBel : Sort.Below lt a b d) (H' : List (Nat × Obj)) (w : World) (hst : St w00 ((g, .cells (rowb d tail) ty (0, 0)) :: (H' ++ H0)) w), Calls Try.prog 56 #[.agg #[.func (.func kf) #[] lb, .func (.func sf) #[] sb], .int .i64 (a : Int), .int .i64 (b : Int), .int .i64 limit] w (fun rr w' => ∃ gs : Array α, (Sort.PermIn a b d gs ∧ Sort.SortedIn lt a b gs) ∧ rr = .returned (.tuple #[]) ∧ St w00 ((g, .cells (rowb gs tail) ty (0, 0)) :: (H' ++ H0)) w')) (d : Array α) (a b : Nat) (limit : Int) (hd : d.size = n) (hab : a ≤ b) (hb : b ≤ n) (hl0 : 0 ≤ limit) (hl1 : limit ≤ 1000) (hk : b - a ≤ k) (hBel : Sort.Below lt a b d) (H' : List (Nat × Obj)) (w : World) (hst : St w00 ((g, .cells (rowb d tail) ty (0, 0)) :: (H' ++ H0)) w) : Calls Try.prog 56 #[.agg #[.func (.func kf) #[] lb, .func (.func sf) #[] sb], .int .i64 ((a : Int)), .int .i64 ((b : Int)), .int .i64 (limit)] w (fun rr w' => ∃ gs : Array α, (Sort.PermIn a b d gs ∧ Sort.SortedIn lt a b gs) ∧ rr = .returned (.tuple #[]) ∧ St w00 ((g, .cells (rowb gs tail) ty (0, 0)) :: (H' ++ H0)) w') := by
  refine calls_W (n := 130) Try.func56 rfl [(0, .agg #[.func (.func kf) #[] lb, .func (.func sf) #[] sb]), (1, .int .i64 ((a : Int))), (2, .int .i64 ((b : Int))), (3, .int .i64 (limit))] rfl ⟨by kernel_rfl, by kernel_rfl⟩ ?_
  refine W.weak (Ψ := St w00 ((g, Obj.cells (rowb d tail) ty (0, 0)) :: (H' ++ H0))) (fun w' h => by rw [h]; exact hst) ?_
  refine W.seq ?_
  refine W.region [(0, false)] (by kernel_rfl) ?_
  refine T.box 4 91 (.agg #[.func (.func kf) #[] lb, .func (.func sf) #[] sb]) (#[.func (.func kf) #[] lb, .func (.func sf) #[] sb]) (by kernel_rfl) (by kernel_rfl) (by kernel_rfl) (fun _ _ _ => trivial) (fun b1 => ?_)
  refine T.nil ?_
  refine QN.seq ?_
  refine W.seq ?_
  refine W.region [(0, false)] (by kernel_rfl) ?_
  refine T.pure 8 (.bool (true)) (by kernel_rfl) (fun w => by kernel_rfl) ?_
  refine T.nil ?_
  refine QN.seq ?_
  refine W.seq ?_
  refine W.region [(0, false)] (by kernel_rfl) ?_
  refine T.pure 9 (.bool (true)) (by kernel_rfl) (fun w => by kernel_rfl) ?_
  refine T.nil ?_
  refine QN.seq ?_
  refine W.block ?_
  refine W.loop (σ := Nat × Nat × Array α × Int × Bool × Bool) (fun gs => a ≤ gs.1 ∧ gs.2.1 ≤ b ∧ gs.1 ≤ gs.2.1 ∧ gs.2.2.1.size = n ∧ Sort.Below lt gs.1 gs.2.1 gs.2.2.1 ∧ 0 ≤ gs.2.2.2.1 ∧ gs.2.2.2.1 ≤ 1000 ∧ ∀ R, Sort.PermIn gs.1 gs.2.1 gs.2.2.1 R → Sort.SortedIn lt gs.1 gs.2.1 R → Sort.PermIn a b d R ∧ Sort.SortedIn lt a b R) (fun gs => [(1, .int .i64 ((gs.1 : Int))), (2, .int .i64 ((gs.2.1 : Int))), (3, .int .i64 (gs.2.2.2.1)), (4, .pointer (some ⟨b1, 0, none⟩)), (8, .bool (gs.2.2.2.2.1)), (9, .bool (gs.2.2.2.2.2))]) (fun gs => St w00 ((b1, Obj.cells #[.func (.func kf) #[] lb, .func (.func sf) #[] sb] 91 (0, 0)) :: ((g, Obj.cells (rowb gs.2.2.1 tail) ty (0, 0)) :: (H' ++ H0)))) (fun gs => gs.2.1 - gs.1) (a, b, d, limit, true, true) ?_ (by kernel_rfl) (fun w h => h) ?_
  · show a ≤ a ∧ b ≤ b ∧ a ≤ b ∧ d.size = n ∧ Sort.Below lt a b d ∧ 0 ≤ limit ∧ limit ≤ 1000 ∧ ∀ R, Sort.PermIn a b d R → Sort.SortedIn lt a b R → Sort.PermIn a b d R ∧ Sort.SortedIn lt a b R
    exact ⟨Nat.le_refl _, Nat.le_refl _, hab, hd, hBel, hl0, hl1, fun R h1 h2 => ⟨h1, h2⟩⟩
  rintro ⟨aa, bb, dd, lim, wb, wp⟩ hI_
  obtain ⟨ha1, hb1, hab1, hdd, hB, hlim0, hlim1, hfin⟩ : a ≤ aa ∧ bb ≤ b ∧ aa ≤ bb ∧ dd.size = n ∧ Sort.Below lt aa bb dd ∧ 0 ≤ lim ∧ lim ≤ 1000 ∧ ∀ R, Sort.PermIn aa bb dd R → Sort.SortedIn lt aa bb R → Sort.PermIn a b d R ∧ Sort.SortedIn lt a b R := hI_
  have P0 := Sort.permIn_refl dd aa bb
  show W _ _ [(1, .int .i64 ((aa : Int))), (2, .int .i64 ((bb : Int))), (3, .int .i64 (lim)), (4, .pointer (some ⟨b1, 0, none⟩)), (8, .bool (wb)), (9, .bool (wp))] (St w00 ((b1, Obj.cells #[.func (.func kf) #[] lb, .func (.func sf) #[] sb] 91 (0, 0)) :: ((g, Obj.cells (rowb dd tail) ty (0, 0)) :: (H' ++ H0)))) _ _
  refine W.block ?_
  refine W.seq ?_
  refine W.region [(0, false), (1, false), (2, false), (3, false)] (by kernel_rfl) ?_
  refine T.pure 19 (.int .i64 ((bb : Int))) (by kernel_rfl) (fun w => by kernel_rfl) ?_
  refine T.pure 20 (.int .i64 ((aa : Int))) (by kernel_rfl) (fun w => by kernel_rfl) ?_
  refine T.pureE 21 (.int .i64 (IntKind.i64.wrap ((bb : Int) - (aa : Int)))) (.int .i64 ((bb : Int) - (aa : Int))) (by kernel_rfl) (fun w => by kernel_rfl) (wrap_int (by omega) (by omega)) ?_
  refine T.pureE 10 (.int .i64 ((bb : Int) - (aa : Int))) (.int .i64 (((bb - aa : Nat) : Int))) (by kernel_rfl) (fun w => by kernel_rfl) (int_eq (by omega)) ?_
  refine T.nil ?_
  refine QN.seq ?_
  refine W.seq ?_
  refine W.seq ?_
  refine W.region [(0, false), (1, false)] (by kernel_rfl) ?_
  refine T.pure 22 (.int .i64 (((bb - aa : Nat) : Int))) (by kernel_rfl) (fun w => by kernel_rfl) ?_
  refine T.pure 23 (.bool (decide (((bb - aa : Nat) : Int) ≤ 12))) (by kernel_rfl) (fun w => by kernel_rfl) ?_
  refine T.nil ?_
  refine QN.seq ?_
  refine W.cond (decide (((bb - aa : Nat) : Int) ≤ 12)) (by kernel_rfl) (fun h2 => ?_) (fun h2 => ?_)
  · skip
    have h2' := of_decide_eq_true h2
    refine W.seq ?_
    refine W.region [(0, false), (1, false), (2, false), (3, false)] (by kernel_rfl) ?_
    refine T.loadR false 24 #[.func (.func kf) #[] lb, .func (.func sf) #[] sb] 91 b1 0 (by kernel_rfl) (by kernel_rfl) (by kernel_rfl) (by kernel_rfl) (fun w h => St.rangeM h #[.func (.func kf) #[] lb, .func (.func sf) #[] sb] (.head _) (by kernel_rfl)) ?_
    refine T.pure 25 (.int .i64 ((aa : Int))) (by kernel_rfl) (fun w => by kernel_rfl) ?_
    refine T.pure 26 (.int .i64 ((bb : Int))) (by kernel_rfl) (fun w => by kernel_rfl) ?_
    have hsz : dd.size = n := P0.1.trans hdd
    refine T.callW 27 77 #[.agg #[.func (.func kf) #[] lb, .func (.func sf) #[] sb], .int .i64 ((aa : Int)), .int .i64 ((bb : Int))] (.tuple #[]) (St w00 ((g, Obj.cells (rowb (Sort.insertionSort lt dd aa bb) tail) ty (0, 0)) :: ((b1, Obj.cells #[.func (.func kf) #[] lb, .func (.func sf) #[] sb] 91 (0, 0)) :: (H' ++ H0)))) (by kernel_rfl) (by kernel_rfl) ent77 ?_ (fun _ _ => trivial) ?_
    · exact fun w hw => insSort_c hS hn dd aa bb hsz (by omega) (by omega) ((b1, Obj.cells #[.func (.func kf) #[] lb, .func (.func sf) #[] sb] 91 (0, 0)) :: H') w (show St w00 ((g, Obj.cells (rowb dd tail) ty (0, 0)) :: ((b1, Obj.cells #[.func (.func kf) #[] lb, .func (.func sf) #[] sb] 91 (0, 0)) :: (H' ++ H0))) w from (hw.perm ((((List.Perm.refl _).cons _).trans (List.Perm.swap _ _ _)).trans ((List.Perm.refl _).cons _))))
    refine T.nil ?_
    refine QN.seq ?_
    refine W.ret ?_
    refine QN.thenRet ?_
    refine QN.blkRet ?_
    refine QN.thenRet ?_
    refine QN.blkRet ?_
    refine QN.done0 (.inl rfl) rfl (fun w hw => ?_)
    exact ⟨_, hfin _ (Sort.permIn_trans _ _ _ _ _ P0 (Sort.insertionSort_holds (lt := lt) hS.swo _ aa bb (by omega) (by omega)).1) (Sort.insertionSort_holds (lt := lt) hS.swo _ aa bb (by omega) (by omega)).2, rfl, ((hw.perm (List.Perm.refl _)).part (((List.Sublist.refl _).cons _).cons_cons _))⟩
  · skip
    have h2' := of_decide_eq_false h2
    refine W.skip ?_
    refine QN.seq ?_
    refine W.seq ?_
    refine W.seq ?_
    refine W.region [(0, false), (1, false)] (by kernel_rfl) ?_
    refine T.pure 28 (.int .i64 (lim)) (by kernel_rfl) (fun w => by kernel_rfl) ?_
    refine T.pure 29 (.bool (lim == 0)) (by kernel_rfl) (fun w => by kernel_rfl) ?_
    refine T.nil ?_
    refine QN.seq ?_
    refine W.cond (lim == 0) (by kernel_rfl) (fun h3 => ?_) (fun h3 => ?_)
    · skip
      have h3' := eq_of_beq h3
      refine W.seq ?_
      refine W.region [(0, false), (1, false), (2, false), (3, false)] (by kernel_rfl) ?_
      refine T.loadR false 30 #[.func (.func kf) #[] lb, .func (.func sf) #[] sb] 91 b1 0 (by kernel_rfl) (by kernel_rfl) (by kernel_rfl) (by kernel_rfl) (fun w h => St.rangeM h #[.func (.func kf) #[] lb, .func (.func sf) #[] sb] (.head _) (by kernel_rfl)) ?_
      refine T.pure 31 (.int .i64 ((aa : Int))) (by kernel_rfl) (fun w => by kernel_rfl) ?_
      refine T.pure 32 (.int .i64 ((bb : Int))) (by kernel_rfl) (fun w => by kernel_rfl) ?_
      have hsz : dd.size = n := P0.1.trans hdd
      refine T.callW 33 78 #[.agg #[.func (.func kf) #[] lb, .func (.func sf) #[] sb], .int .i64 ((aa : Int)), .int .i64 ((bb : Int))] (.tuple #[]) (St w00 ((g, Obj.cells (rowb (Sort.heapSort lt dd aa bb) tail) ty (0, 0)) :: ((b1, Obj.cells #[.func (.func kf) #[] lb, .func (.func sf) #[] sb] 91 (0, 0)) :: (H' ++ H0)))) (by kernel_rfl) (by kernel_rfl) ent78 ?_ (fun _ _ => trivial) ?_
      · exact fun w hw => heapSort_c hS hn dd aa bb hsz (by omega) (by omega) ((b1, Obj.cells #[.func (.func kf) #[] lb, .func (.func sf) #[] sb] 91 (0, 0)) :: H') w (show St w00 ((g, Obj.cells (rowb dd tail) ty (0, 0)) :: ((b1, Obj.cells #[.func (.func kf) #[] lb, .func (.func sf) #[] sb] 91 (0, 0)) :: (H' ++ H0))) w from (hw.perm ((((List.Perm.refl _).cons _).trans (List.Perm.swap _ _ _)).trans ((List.Perm.refl _).cons _))))
      refine T.nil ?_
      refine QN.seq ?_
      refine W.ret ?_
      refine QN.thenRet ?_
      refine QN.blkRet ?_
      refine QN.thenRet ?_
      refine QN.blkRet ?_
      refine QN.done0 (.inl rfl) rfl (fun w hw => ?_)
      exact ⟨_, hfin _ (Sort.permIn_trans _ _ _ _ _ P0 (Sort.heapSort_holds (lt := lt) hS.swo _ aa bb (by omega) (by omega)).1) (Sort.heapSort_holds (lt := lt) hS.swo _ aa bb (by omega) (by omega)).2, rfl, ((hw.perm (List.Perm.refl _)).part (((List.Sublist.refl _).cons _).cons_cons _))⟩
    · skip
      have h3' := ne_of_beq_false h3
      refine W.skip ?_
      refine QN.seq ?_
      refine W.seq ?_
      refine W.seq ?_
      refine W.region [(0, false), (1, false)] (by kernel_rfl) ?_
      refine T.pure 34 (.bool (wb)) (by kernel_rfl) (fun w => by kernel_rfl) ?_
      refine T.pure 35 (.bool (!wb)) (by kernel_rfl) (fun w => by kernel_rfl) ?_
      refine T.nil ?_
      refine QN.seq ?_
      refine W.cond (!wb) (by kernel_rfl) (fun h4 => ?_) (fun h4 => ?_)
      · skip
        have h4n := not_eq_true h4
        refine W.seq ?_
        refine W.region [(0, false), (1, false), (2, false), (3, false)] (by kernel_rfl) ?_
        refine T.loadR false 36 #[.func (.func kf) #[] lb, .func (.func sf) #[] sb] 91 b1 0 (by kernel_rfl) (by kernel_rfl) (by kernel_rfl) (by kernel_rfl) (fun w h => St.rangeM h #[.func (.func kf) #[] lb, .func (.func sf) #[] sb] (.head _) (by kernel_rfl)) ?_
        refine T.pure 37 (.int .i64 ((aa : Int))) (by kernel_rfl) (fun w => by kernel_rfl) ?_
        refine T.pure 38 (.int .i64 ((bb : Int))) (by kernel_rfl) (fun w => by kernel_rfl) ?_
        have hsz : dd.size = n := P0.1.trans hdd
        refine T.callG (β := Array α) 39 79 #[.agg #[.func (.func kf) #[] lb, .func (.func sf) #[] sb], .int .i64 ((aa : Int)), .int .i64 ((bb : Int))] (fun gs => .tuple #[]) (fun gs => St w00 ((g, Obj.cells (rowb gs tail) ty (0, 0)) :: ((b1, Obj.cells #[.func (.func kf) #[] lb, .func (.func sf) #[] sb] 91 (0, 0)) :: (H' ++ H0)))) (fun gs => Sort.PermIn aa bb dd gs) (by kernel_rfl) (by kernel_rfl) ent79 ?_ (fun _ _ _ => trivial) ?_
        · exact fun w hw => break_c hS hn dd aa bb hsz (by omega) (by omega) ((b1, Obj.cells #[.func (.func kf) #[] lb, .func (.func sf) #[] sb] 91 (0, 0)) :: H') w (show St w00 ((g, Obj.cells (rowb dd tail) ty (0, 0)) :: ((b1, Obj.cells #[.func (.func kf) #[] lb, .func (.func sf) #[] sb] 91 (0, 0)) :: (H' ++ H0))) w from (hw.perm ((((List.Perm.refl _).cons _).trans (List.Perm.swap _ _ _)).trans ((List.Perm.refl _).cons _))))
        rintro e5 hp_
        have hp6 : Sort.PermIn aa bb dd e5 := hp_
        refine T.nil ?_
        refine QN.seq ?_
        refine W.region [(0, false), (1, false), (2, false)] (by kernel_rfl) ?_
        refine T.pure 40 (.int .i64 (lim)) (by kernel_rfl) (fun w => by kernel_rfl) ?_
        refine T.pureE 41 (.int .i64 (IntKind.i64.wrap (lim - 1))) (.int .i64 (lim - 1)) (by kernel_rfl) (fun w => by kernel_rfl) (wrap_int (by omega) (by omega)) ?_
        refine T.pure 3 (.int .i64 (lim - 1)) (by kernel_rfl) (fun w => by kernel_rfl) ?_
        refine T.nil ?_
        refine QN.seq ?_
        refine W.seq ?_
        refine W.region [(0, false), (1, false), (2, false), (3, false), (4, false), (5, false), (6, false), (7, false), (8, false)] (by kernel_rfl) ?_
        refine T.loadR false 43 #[.func (.func kf) #[] lb, .func (.func sf) #[] sb] 91 b1 0 (by kernel_rfl) (by kernel_rfl) (by kernel_rfl) (by kernel_rfl) (fun w h => St.rangeM h #[.func (.func kf) #[] lb, .func (.func sf) #[] sb] (.tail _ (.head _)) (by kernel_rfl)) ?_
        refine T.pure 44 (.int .i64 ((aa : Int))) (by kernel_rfl) (fun w => by kernel_rfl) ?_
        refine T.pure 45 (.int .i64 ((bb : Int))) (by kernel_rfl) (fun w => by kernel_rfl) ?_
        have P7 : Sort.PermIn aa bb dd e5 := Sort.permIn_trans _ _ _ _ _ P0 hp6
        have B8 : Sort.Below lt aa bb e5 := hB.perm (by omega) P7
        have hsz : e5.size = n := P7.1.trans hdd
        refine T.callG (β := Nat × Int) 46 80 #[.agg #[.func (.func kf) #[] lb, .func (.func sf) #[] sb], .int .i64 ((aa : Int)), .int .i64 ((bb : Int))] (fun gs => .tuple #[.int .i64 ((gs.1 : Int)), .int .i64 (gs.2)]) (fun gs => St w00 ((g, Obj.cells (rowb e5 tail) ty (0, 0)) :: ((b1, Obj.cells #[.func (.func kf) #[] lb, .func (.func sf) #[] sb] 91 (0, 0)) :: (H' ++ H0)))) (fun gs => aa ≤ gs.1 ∧ gs.1 < bb) (by kernel_rfl) (by kernel_rfl) ent80 ?_ (fun _ _ _ => trivial) ?_
        · exact fun w hw => pivot_c hS hn e5 aa bb hsz (by omega) (by omega) ((b1, Obj.cells #[.func (.func kf) #[] lb, .func (.func sf) #[] sb] 91 (0, 0)) :: H') w (show St w00 ((g, Obj.cells (rowb e5 tail) ty (0, 0)) :: ((b1, Obj.cells #[.func (.func kf) #[] lb, .func (.func sf) #[] sb] 91 (0, 0)) :: (H' ++ H0))) w from (hw))
        rintro ⟨pv9, hint10⟩ hp_
        have hp11 : aa ≤ pv9 ∧ pv9 < bb := hp_
        refine T.pure 42 (.tuple #[.int .i64 ((pv9 : Int)), .int .i64 (hint10)]) (by kernel_rfl) (fun w => by kernel_rfl) ?_
        refine T.pure 47 (.int .i64 ((pv9 : Int))) (by kernel_rfl) (fun w => by kernel_rfl) ?_
        refine T.pure 48 (.int .i64 (hint10)) (by kernel_rfl) (fun w => by kernel_rfl) ?_
        refine T.pure 11 (.int .i64 ((pv9 : Int))) (by kernel_rfl) (fun w => by kernel_rfl) ?_
        refine T.pure 12 (.int .i64 (hint10)) (by kernel_rfl) (fun w => by kernel_rfl) ?_
        refine T.nil ?_
        refine QN.seq ?_
        refine W.seq ?_
        refine W.seq ?_
        refine W.region [(0, false), (1, false)] (by kernel_rfl) ?_
        refine T.pure 49 (.int .i64 (hint10)) (by kernel_rfl) (fun w => by kernel_rfl) ?_
        refine T.pure 50 (.bool (hint10 == 2)) (by kernel_rfl) (fun w => by kernel_rfl) ?_
        refine T.nil ?_
        refine QN.seq ?_
        refine W.cond (hint10 == 2) (by kernel_rfl) (fun h12 => ?_) (fun h12 => ?_)
        · skip
          have h12' := eq_of_beq h12
          refine W.seq ?_
          refine W.region [(0, false), (1, false), (2, false), (3, false)] (by kernel_rfl) ?_
          refine T.loadR false 51 #[.func (.func kf) #[] lb, .func (.func sf) #[] sb] 91 b1 0 (by kernel_rfl) (by kernel_rfl) (by kernel_rfl) (by kernel_rfl) (fun w h => St.rangeM h #[.func (.func kf) #[] lb, .func (.func sf) #[] sb] (.tail _ (.head _)) (by kernel_rfl)) ?_
          refine T.pure 52 (.int .i64 ((aa : Int))) (by kernel_rfl) (fun w => by kernel_rfl) ?_
          refine T.pure 53 (.int .i64 ((bb : Int))) (by kernel_rfl) (fun w => by kernel_rfl) ?_
          have hsz : e5.size = n := P7.1.trans hdd
          have P13 : Sort.PermIn aa bb dd (Sort.reverseRange e5 aa bb) := Sort.permIn_trans _ _ _ _ _ P7 (Sort.reverseRange_holds e5 aa bb (by omega) (by omega))
          have hz15 : (Sort.reverseRange e5 aa bb).size = n := P13.1.trans hdd
          have B14 : Sort.Below lt aa bb (Sort.reverseRange e5 aa bb) := hB.perm (by omega) P13
          refine T.callW 54 81 #[.agg #[.func (.func kf) #[] lb, .func (.func sf) #[] sb], .int .i64 ((aa : Int)), .int .i64 ((bb : Int))] (.tuple #[]) (St w00 ((g, Obj.cells (rowb (Sort.reverseRange e5 aa bb) tail) ty (0, 0)) :: ((b1, Obj.cells #[.func (.func kf) #[] lb, .func (.func sf) #[] sb] 91 (0, 0)) :: (H' ++ H0)))) (by kernel_rfl) (by kernel_rfl) ent81 ?_ (fun _ _ => trivial) ?_
          · exact fun w hw => reverse_c hS hn e5 aa bb hsz (by omega) (by omega) ((b1, Obj.cells #[.func (.func kf) #[] lb, .func (.func sf) #[] sb] 91 (0, 0)) :: H') w (show St w00 ((g, Obj.cells (rowb e5 tail) ty (0, 0)) :: ((b1, Obj.cells #[.func (.func kf) #[] lb, .func (.func sf) #[] sb] 91 (0, 0)) :: (H' ++ H0))) w from (hw))
          refine T.nil ?_
          refine QN.seq ?_
          refine W.seq ?_
          refine W.region [(0, false), (1, false), (2, false), (3, false), (4, false), (5, false), (6, false)] (by kernel_rfl) ?_
          refine T.pure 55 (.int .i64 ((bb : Int))) (by kernel_rfl) (fun w => by kernel_rfl) ?_
          refine T.pureE 56 (.int .i64 (IntKind.i64.wrap ((bb : Int) - 1))) (.int .i64 ((bb : Int) - 1)) (by kernel_rfl) (fun w => by kernel_rfl) (wrap_int (by omega) (by omega)) ?_
          refine T.pure 57 (.int .i64 ((pv9 : Int))) (by kernel_rfl) (fun w => by kernel_rfl) ?_
          refine T.pure 58 (.int .i64 ((aa : Int))) (by kernel_rfl) (fun w => by kernel_rfl) ?_
          refine T.pureE 59 (.int .i64 (IntKind.i64.wrap ((pv9 : Int) - (aa : Int)))) (.int .i64 ((pv9 : Int) - (aa : Int))) (by kernel_rfl) (fun w => by kernel_rfl) (wrap_int (by omega) (by omega)) ?_
          refine T.pureE 60 (.int .i64 (IntKind.i64.wrap (((bb : Int) - 1) - ((pv9 : Int) - (aa : Int))))) (.int .i64 (((bb : Int) - 1) - ((pv9 : Int) - (aa : Int)))) (by kernel_rfl) (fun w => by kernel_rfl) (wrap_int (by omega) (by omega)) ?_
          refine T.pureE 11 (.int .i64 (((bb : Int) - 1) - ((pv9 : Int) - (aa : Int)))) (.int .i64 ((((bb - 1) - (pv9 - aa) : Nat) : Int))) (by kernel_rfl) (fun w => by kernel_rfl) (int_eq (by omega)) ?_
          refine T.nil ?_
          refine QN.seq ?_
          refine W.region [(0, false)] (by kernel_rfl) ?_
          refine T.pure 12 (.int .i64 (1)) (by kernel_rfl) (fun w => by kernel_rfl) ?_
          refine T.nil ?_
          refine QN.seq ?_
          refine W.seq ?_
          refine W.seq ?_
          refine W.region [(0, false), (1, false), (2, false), (3, false), (4, false), (5, false), (6, false), (7, false)] (by kernel_rfl) ?_
          refine T.pure 61 (.bool (wb)) (by kernel_rfl) (fun w => by kernel_rfl) ?_
          refine T.pure 62 (.bool (wb)) (by kernel_rfl) (fun w => by kernel_rfl) ?_
          refine T.blk [(2, false)] [(3, false), (4, false), (5, false), (6, false), (7, false)] 1 true (wb) 62 63 (.bool (wp)) (by kernel_rfl) (by kernel_rfl) (by kernel_rfl) (fun hg16 => ?_) ?_
          · have hg16_ := hg16
            refine T.pure 63 (.bool (wp)) (by kernel_rfl) (fun w => by kernel_rfl) ?_
            exact T.blkEnd (by kernel_rfl) (fun w h => h)
          refine T.and 64 (wb) (wp) (by kernel_rfl) (by kernel_rfl) ?_
          refine T.pure 65 (.bool (wb && wp)) (by kernel_rfl) (fun w => by kernel_rfl) ?_
          refine T.blk [(5, false), (6, false)] [(7, false)] 4 true (wb && wp) 65 67 (.bool (1 == 1)) (by kernel_rfl) (by kernel_rfl) (by kernel_rfl) (fun hg17 => ?_) ?_
          · have hg17_ := hg17
            have hg17l := (Bool.and_eq_true_iff.1 hg17).1
            have hg17r := (Bool.and_eq_true_iff.1 hg17).2
            refine T.pure 66 (.int .i64 (1)) (by kernel_rfl) (fun w => by kernel_rfl) ?_
            refine T.pure 67 (.bool (1 == 1)) (by kernel_rfl) (fun w => by kernel_rfl) ?_
            exact T.blkEnd (by kernel_rfl) (fun w h => h)
          refine T.and 68 (wb && wp) (1 == 1) (by kernel_rfl) (by kernel_rfl) ?_
          refine T.nil ?_
          refine QN.seq ?_
          refine W.cond ((wb && wp) && (1 == 1)) (by kernel_rfl) (fun h18 => ?_) (fun h18 => ?_)
          · skip
            have h18l := (Bool.and_eq_true_iff.1 h18).1
            have h18r := (Bool.and_eq_true_iff.1 h18).2
            have h18ll := (Bool.and_eq_true_iff.1 h18l).1
            have h18lr := (Bool.and_eq_true_iff.1 h18l).2
            have h18r' := eq_of_beq h18r
            refine W.seq ?_
            refine W.region [(0, false), (1, false), (2, false), (3, false)] (by kernel_rfl) ?_
            refine T.loadR false 69 #[.func (.func kf) #[] lb, .func (.func sf) #[] sb] 91 b1 0 (by kernel_rfl) (by kernel_rfl) (by kernel_rfl) (by kernel_rfl) (fun w h => St.rangeM h #[.func (.func kf) #[] lb, .func (.func sf) #[] sb] (.tail _ (.head _)) (by kernel_rfl)) ?_
            refine T.pure 70 (.int .i64 ((aa : Int))) (by kernel_rfl) (fun w => by kernel_rfl) ?_
            refine T.pure 71 (.int .i64 ((bb : Int))) (by kernel_rfl) (fun w => by kernel_rfl) ?_
            have hsz : (Sort.reverseRange e5 aa bb).size = n := P13.1.trans hdd
            have hpi := Sort.partialInsertionSort_holds (lt := lt) hS.swo (Sort.reverseRange e5 aa bb) aa bb (by omega) (by omega) B14
            have P19 : Sort.PermIn aa bb dd ((Sort.partialInsertionSort lt (Sort.reverseRange e5 aa bb) aa bb).1) := Sort.permIn_trans _ _ _ _ _ P13 (hpi.1)
            have hz21 : ((Sort.partialInsertionSort lt (Sort.reverseRange e5 aa bb) aa bb).1).size = n := P19.1.trans hdd
            have B20 : Sort.Below lt aa bb ((Sort.partialInsertionSort lt (Sort.reverseRange e5 aa bb) aa bb).1) := hB.perm (by omega) P19
            refine T.callW 72 82 #[.agg #[.func (.func kf) #[] lb, .func (.func sf) #[] sb], .int .i64 ((aa : Int)), .int .i64 ((bb : Int))] (.bool ((Sort.partialInsertionSort lt (Sort.reverseRange e5 aa bb) aa bb).2)) (St w00 ((g, Obj.cells (rowb ((Sort.partialInsertionSort lt (Sort.reverseRange e5 aa bb) aa bb).1) tail) ty (0, 0)) :: ((b1, Obj.cells #[.func (.func kf) #[] lb, .func (.func sf) #[] sb] 91 (0, 0)) :: (H' ++ H0)))) (by kernel_rfl) (by kernel_rfl) ent82 ?_ (fun _ _ => trivial) ?_
            · exact fun w hw => partial_c hS hn (Sort.reverseRange e5 aa bb) aa bb hsz (by omega) (by omega) ((b1, Obj.cells #[.func (.func kf) #[] lb, .func (.func sf) #[] sb] 91 (0, 0)) :: H') w (show St w00 ((g, Obj.cells (rowb (Sort.reverseRange e5 aa bb) tail) ty (0, 0)) :: ((b1, Obj.cells #[.func (.func kf) #[] lb, .func (.func sf) #[] sb] 91 (0, 0)) :: (H' ++ H0))) w from (hw))
            refine T.nil ?_
            refine QN.seq ?_
            refine W.cond ((Sort.partialInsertionSort lt (Sort.reverseRange e5 aa bb) aa bb).2) (by kernel_rfl) (fun h22 => ?_) (fun h22 => ?_)
            · skip
              refine W.ret ?_
              refine QN.thenRet ?_
              refine QN.blkRet ?_
              refine QN.thenRet ?_
              refine QN.blkRet ?_
              refine QN.done0 (.inl rfl) rfl (fun w hw => ?_)
              exact ⟨_, hfin _ P19 (hpi.2 h22), rfl, ((hw.perm (List.Perm.refl _)).part (((List.Sublist.refl _).cons _).cons_cons _))⟩
            · skip
              refine W.skip ?_
              refine QN.seq ?_
              refine W.seq ?_
              refine W.seq ?_
              refine W.region [(0, false), (1, false), (2, false), (3, false), (4, false), (5, false), (6, false), (7, false), (8, false), (9, false), (10, false)] (by kernel_rfl) ?_
              refine T.pure 73 (.int .i64 ((aa : Int))) (by kernel_rfl) (fun w => by kernel_rfl) ?_
              refine T.pure 74 (.bool (decide (0 < (aa : Int)))) (by kernel_rfl) (fun w => by kernel_rfl) ?_
              refine T.pure 75 (.bool (decide (0 < (aa : Int)))) (by kernel_rfl) (fun w => by kernel_rfl) ?_
              refine T.blk [(3, false), (4, false), (5, false), (6, false), (7, false), (8, false), (9, false)] [(10, false)] 2 true (decide (0 < (aa : Int))) 75 82 (.bool (!(lt ((Sort.partialInsertionSort lt (Sort.reverseRange e5 aa bb) aa bb).1)[(aa - 1)]! ((Sort.partialInsertionSort lt (Sort.reverseRange e5 aa bb) aa bb).1)[((bb - 1) - (pv9 - aa))]!))) (by kernel_rfl) (by kernel_rfl) (by kernel_rfl) (fun hg23 => ?_) ?_
              · have hg23_ := hg23
                have hg23' := of_decide_eq_true hg23
                refine T.pure 76 (.pointer (some ⟨b1, 0, none⟩)) (by kernel_rfl) (fun w => by kernel_rfl) ?_
                refine T.load false 77 (.func (.func kf) #[] lb) 67 b1 0 (by kernel_rfl) (by kernel_rfl) (by kernel_rfl) (fun w h => St.cellM h (.tail _ (.head _)) (by kernel_rfl)) ?_
                refine T.pure 78 (.int .i64 ((aa : Int))) (by kernel_rfl) (fun w => by kernel_rfl) ?_
                refine T.pureE 79 (.int .i64 (IntKind.i64.wrap ((aa : Int) - 1))) (.int .i64 ((aa : Int) - 1)) (by kernel_rfl) (fun w => by kernel_rfl) (wrap_int (by omega) (by omega)) ?_
                refine T.pure 80 (.int .i64 ((((bb - 1) - (pv9 - aa) : Nat) : Int))) (by kernel_rfl) (fun w => by kernel_rfl) ?_
                refine T.callP 81 kf (#[.int .i64 ((aa : Int) - 1), .int .i64 ((((bb - 1) - (pv9 - aa) : Nat) : Int))] ++ lb) (.bool (lt ((Sort.partialInsertionSort lt (Sort.reverseRange e5 aa bb) aa bb).1)[(aa - 1)]! ((Sort.partialInsertionSort lt (Sort.reverseRange e5 aa bb) aa bb).1)[((bb - 1) - (pv9 - aa))]!)) (by kernel_rfl) (by kernel_rfl) hS.ent ?_ (fun _ _ => trivial) ?_
                · exact fun w hw => hS.less ((b1, Obj.cells #[.func (.func kf) #[] lb, .func (.func sf) #[] sb] 91 (0, 0)) :: H') ((Sort.partialInsertionSort lt (Sort.reverseRange e5 aa bb) aa bb).1) w ((aa : Int) - 1) ((((bb - 1) - (pv9 - aa) : Nat) : Int)) (aa - 1) ((bb - 1) - (pv9 - aa)) (by first | assumption | (simp only [Sort.size_swp]; assumption)) (by omega) (by omega) (by omega) (by omega) (show St w00 ((g, Obj.cells (rowb ((Sort.partialInsertionSort lt (Sort.reverseRange e5 aa bb) aa bb).1) tail) ty (0, 0)) :: ((b1, Obj.cells #[.func (.func kf) #[] lb, .func (.func sf) #[] sb] 91 (0, 0)) :: (H' ++ H0))) w from (hw))
                refine T.pure 82 (.bool (!(lt ((Sort.partialInsertionSort lt (Sort.reverseRange e5 aa bb) aa bb).1)[(aa - 1)]! ((Sort.partialInsertionSort lt (Sort.reverseRange e5 aa bb) aa bb).1)[((bb - 1) - (pv9 - aa))]!))) (by kernel_rfl) (fun w => by kernel_rfl) ?_
                exact T.blkEnd (by kernel_rfl) (fun w h => h)
              refine T.and 83 (decide (0 < (aa : Int))) (!(lt ((Sort.partialInsertionSort lt (Sort.reverseRange e5 aa bb) aa bb).1)[(aa - 1)]! ((Sort.partialInsertionSort lt (Sort.reverseRange e5 aa bb) aa bb).1)[((bb - 1) - (pv9 - aa))]!)) (by kernel_rfl) (by kernel_rfl) ?_
              refine T.nil ?_
              refine QN.seq ?_
              refine W.cond ((decide (0 < (aa : Int))) && (!(lt ((Sort.partialInsertionSort lt (Sort.reverseRange e5 aa bb) aa bb).1)[(aa - 1)]! ((Sort.partialInsertionSort lt (Sort.reverseRange e5 aa bb) aa bb).1)[((bb - 1) - (pv9 - aa))]!))) (by kernel_rfl) (fun h24 => ?_) (fun h24 => ?_)
              · skip
                have h24l := (Bool.and_eq_true_iff.1 h24).1
                have h24r := (Bool.and_eq_true_iff.1 h24).2
                have h24l' := of_decide_eq_true h24l
                have h24rn := not_eq_true h24r
                refine W.seq ?_
                refine W.region [(0, false), (1, false), (2, false), (3, false), (4, false), (5, false)] (by kernel_rfl) ?_
                refine T.loadR false 84 #[.func (.func kf) #[] lb, .func (.func sf) #[] sb] 91 b1 0 (by kernel_rfl) (by kernel_rfl) (by kernel_rfl) (by kernel_rfl) (fun w h => St.rangeM h #[.func (.func kf) #[] lb, .func (.func sf) #[] sb] (.tail _ (.head _)) (by kernel_rfl)) ?_
                refine T.pure 85 (.int .i64 ((aa : Int))) (by kernel_rfl) (fun w => by kernel_rfl) ?_
                refine T.pure 86 (.int .i64 ((bb : Int))) (by kernel_rfl) (fun w => by kernel_rfl) ?_
                refine T.pure 87 (.int .i64 ((((bb - 1) - (pv9 - aa) : Nat) : Int))) (by kernel_rfl) (fun w => by kernel_rfl) ?_
                have hsz : ((Sort.partialInsertionSort lt (Sort.reverseRange e5 aa bb) aa bb).1).size = n := P19.1.trans hdd
                have hre := Sort.round_eq hS.swo (Sort.partitionEqual_holds lt) (d3 := ((Sort.partialInsertionSort lt (Sort.reverseRange e5 aa bb) aa bb).1)) (a := aa) (b := bb) (pivot := ((bb - 1) - (pv9 - aa))) (mid := (Sort.partitionEqual lt ((Sort.partialInsertionSort lt (Sort.reverseRange e5 aa bb) aa bb).1) aa bb ((bb - 1) - (pv9 - aa))).1) (d4 := (Sort.partitionEqual lt ((Sort.partialInsertionSort lt (Sort.reverseRange e5 aa bb) aa bb).1) aa bb ((bb - 1) - (pv9 - aa))).2) (by omega) (by omega) (by omega) (by omega) B20 (not_eq_true h24r) rfl
                obtain ⟨m1, m2, m3, m4, m5⟩ := hre
                refine T.callW 88 83 #[.agg #[.func (.func kf) #[] lb, .func (.func sf) #[] sb], .int .i64 ((aa : Int)), .int .i64 ((bb : Int)), .int .i64 ((((bb - 1) - (pv9 - aa) : Nat) : Int))] (.int .i64 ((((Sort.partitionEqual lt ((Sort.partialInsertionSort lt (Sort.reverseRange e5 aa bb) aa bb).1) aa bb ((bb - 1) - (pv9 - aa))).1 : Nat) : Int))) (St w00 ((g, Obj.cells (rowb ((Sort.partitionEqual lt ((Sort.partialInsertionSort lt (Sort.reverseRange e5 aa bb) aa bb).1) aa bb ((bb - 1) - (pv9 - aa))).2) tail) ty (0, 0)) :: ((b1, Obj.cells #[.func (.func kf) #[] lb, .func (.func sf) #[] sb] 91 (0, 0)) :: (H' ++ H0)))) (by kernel_rfl) (by kernel_rfl) ent83 ?_ (fun _ _ => trivial) ?_
                · exact fun w hw => partEq_c hS hn ((Sort.partialInsertionSort lt (Sort.reverseRange e5 aa bb) aa bb).1) aa bb ((bb - 1) - (pv9 - aa)) hsz (by omega) (by omega) (by omega) ((b1, Obj.cells #[.func (.func kf) #[] lb, .func (.func sf) #[] sb] 91 (0, 0)) :: H') w (show St w00 ((g, Obj.cells (rowb ((Sort.partialInsertionSort lt (Sort.reverseRange e5 aa bb) aa bb).1) tail) ty (0, 0)) :: ((b1, Obj.cells #[.func (.func kf) #[] lb, .func (.func sf) #[] sb] 91 (0, 0)) :: (H' ++ H0))) w from (hw))
                refine T.pureE 13 (.int .i64 ((((Sort.partitionEqual lt ((Sort.partialInsertionSort lt (Sort.reverseRange e5 aa bb) aa bb).1) aa bb ((bb - 1) - (pv9 - aa))).1 : Nat) : Int))) (.int .i64 ((((Sort.partitionEqual lt ((Sort.partialInsertionSort lt (Sort.reverseRange e5 aa bb) aa bb).1) aa bb ((bb - 1) - (pv9 - aa))).1 : Nat) : Int))) (by kernel_rfl) (fun w => by kernel_rfl) (int_eq (by omega)) ?_
                refine T.nil ?_
                refine QN.seq ?_
                refine W.seq ?_
                refine W.region [(0, false), (1, false)] (by kernel_rfl) ?_
                refine T.pure 89 (.int .i64 ((((Sort.partitionEqual lt ((Sort.partialInsertionSort lt (Sort.reverseRange e5 aa bb) aa bb).1) aa bb ((bb - 1) - (pv9 - aa))).1 : Nat) : Int))) (by kernel_rfl) (fun w => by kernel_rfl) ?_
                refine T.pureE 1 (.int .i64 ((((Sort.partitionEqual lt ((Sort.partialInsertionSort lt (Sort.reverseRange e5 aa bb) aa bb).1) aa bb ((bb - 1) - (pv9 - aa))).1 : Nat) : Int))) (.int .i64 ((((Sort.partitionEqual lt ((Sort.partialInsertionSort lt (Sort.reverseRange e5 aa bb) aa bb).1) aa bb ((bb - 1) - (pv9 - aa))).1 : Nat) : Int))) (by kernel_rfl) (fun w => by kernel_rfl) (int_eq (by omega)) ?_
                refine T.nil ?_
                refine QN.seq ?_
                refine W.exit ?_
                refine QN.thenExit ?_
                refine QN.blkHit ?_
                refine QN.back (((Sort.partitionEqual lt ((Sort.partialInsertionSort lt (Sort.reverseRange e5 aa bb) aa bb).1) aa bb ((bb - 1) - (pv9 - aa))).1), bb, (Sort.partitionEqual lt ((Sort.partialInsertionSort lt (Sort.reverseRange e5 aa bb) aa bb).1) aa bb ((bb - 1) - (pv9 - aa))).2, lim - 1, wb, wp) ?_ ?_ (by kernel_rfl) (fun w h => h.perm ((((List.Perm.refl _).cons _).trans (List.Perm.swap _ _ _)).trans ((List.Perm.refl _).cons _)))
                · show a ≤ ((Sort.partitionEqual lt ((Sort.partialInsertionSort lt (Sort.reverseRange e5 aa bb) aa bb).1) aa bb ((bb - 1) - (pv9 - aa))).1) ∧ bb ≤ b ∧ ((Sort.partitionEqual lt ((Sort.partialInsertionSort lt (Sort.reverseRange e5 aa bb) aa bb).1) aa bb ((bb - 1) - (pv9 - aa))).1) ≤ bb ∧ ((Sort.partitionEqual lt ((Sort.partialInsertionSort lt (Sort.reverseRange e5 aa bb) aa bb).1) aa bb ((bb - 1) - (pv9 - aa))).2).size = n ∧ Sort.Below lt ((Sort.partitionEqual lt ((Sort.partialInsertionSort lt (Sort.reverseRange e5 aa bb) aa bb).1) aa bb ((bb - 1) - (pv9 - aa))).1) bb ((Sort.partitionEqual lt ((Sort.partialInsertionSort lt (Sort.reverseRange e5 aa bb) aa bb).1) aa bb ((bb - 1) - (pv9 - aa))).2) ∧ 0 ≤ (lim - 1) ∧ (lim - 1) ≤ 1000 ∧ ∀ R, Sort.PermIn ((Sort.partitionEqual lt ((Sort.partialInsertionSort lt (Sort.reverseRange e5 aa bb) aa bb).1) aa bb ((bb - 1) - (pv9 - aa))).1) bb ((Sort.partitionEqual lt ((Sort.partialInsertionSort lt (Sort.reverseRange e5 aa bb) aa bb).1) aa bb ((bb - 1) - (pv9 - aa))).2) R → Sort.SortedIn lt ((Sort.partitionEqual lt ((Sort.partialInsertionSort lt (Sort.reverseRange e5 aa bb) aa bb).1) aa bb ((bb - 1) - (pv9 - aa))).1) bb R → Sort.PermIn a b d R ∧ Sort.SortedIn lt a b R
                  exact ⟨by omega, by omega, by omega, m3.trans (P19.1.trans hdd), m4, by omega, by omega, fun R h1 h2 => hfin R (Sort.permIn_trans _ _ _ _ _ P19 (m5 R h1 h2).1) (m5 R h1 h2).2⟩
                · show bb - ((Sort.partitionEqual lt ((Sort.partialInsertionSort lt (Sort.reverseRange e5 aa bb) aa bb).1) aa bb ((bb - 1) - (pv9 - aa))).1) < bb - aa; omega
              · skip
                refine W.skip ?_
                refine QN.seq ?_
                refine W.seq ?_
                refine W.region [(0, false), (1, false), (2, false), (3, false), (4, false), (5, false), (6, false), (7, false), (8, false), (9, false)] (by kernel_rfl) ?_
                refine T.loadR false 91 #[.func (.func kf) #[] lb, .func (.func sf) #[] sb] 91 b1 0 (by kernel_rfl) (by kernel_rfl) (by kernel_rfl) (by kernel_rfl) (fun w h => St.rangeM h #[.func (.func kf) #[] lb, .func (.func sf) #[] sb] (.tail _ (.head _)) (by kernel_rfl)) ?_
                refine T.pure 92 (.int .i64 ((aa : Int))) (by kernel_rfl) (fun w => by kernel_rfl) ?_
                refine T.pure 93 (.int .i64 ((bb : Int))) (by kernel_rfl) (fun w => by kernel_rfl) ?_
                refine T.pure 94 (.int .i64 ((((bb - 1) - (pv9 - aa) : Nat) : Int))) (by kernel_rfl) (fun w => by kernel_rfl) ?_
                have hsz : ((Sort.partialInsertionSort lt (Sort.reverseRange e5 aa bb) aa bb).1).size = n := P19.1.trans hdd
                have hrp := Sort.round_part hS.swo (Sort.partition_holds lt) (d3 := ((Sort.partialInsertionSort lt (Sort.reverseRange e5 aa bb) aa bb).1)) (a := aa) (b := bb) (pivot := ((bb - 1) - (pv9 - aa))) (mid := (Sort.partition lt ((Sort.partialInsertionSort lt (Sort.reverseRange e5 aa bb) aa bb).1) aa bb ((bb - 1) - (pv9 - aa))).1) (ap := (Sort.partition lt ((Sort.partialInsertionSort lt (Sort.reverseRange e5 aa bb) aa bb).1) aa bb ((bb - 1) - (pv9 - aa))).2.1) (d4 := (Sort.partition lt ((Sort.partialInsertionSort lt (Sort.reverseRange e5 aa bb) aa bb).1) aa bb ((bb - 1) - (pv9 - aa))).2.2) (by omega) (by omega) (by omega) B20 rfl
                obtain ⟨m1, m2, m3, m4, m5, m6, m7⟩ := hrp
                refine T.callW 95 84 #[.agg #[.func (.func kf) #[] lb, .func (.func sf) #[] sb], .int .i64 ((aa : Int)), .int .i64 ((bb : Int)), .int .i64 ((((bb - 1) - (pv9 - aa) : Nat) : Int))] (.tuple #[.int .i64 ((((Sort.partition lt ((Sort.partialInsertionSort lt (Sort.reverseRange e5 aa bb) aa bb).1) aa bb ((bb - 1) - (pv9 - aa))).1 : Nat) : Int)), .bool ((Sort.partition lt ((Sort.partialInsertionSort lt (Sort.reverseRange e5 aa bb) aa bb).1) aa bb ((bb - 1) - (pv9 - aa))).2.1)]) (St w00 ((g, Obj.cells (rowb ((Sort.partition lt ((Sort.partialInsertionSort lt (Sort.reverseRange e5 aa bb) aa bb).1) aa bb ((bb - 1) - (pv9 - aa))).2.2) tail) ty (0, 0)) :: ((b1, Obj.cells #[.func (.func kf) #[] lb, .func (.func sf) #[] sb] 91 (0, 0)) :: (H' ++ H0)))) (by kernel_rfl) (by kernel_rfl) ent84 ?_ (fun _ _ => trivial) ?_
                · exact fun w hw => part_c hS hn ((Sort.partialInsertionSort lt (Sort.reverseRange e5 aa bb) aa bb).1) aa bb ((bb - 1) - (pv9 - aa)) hsz (by omega) (by omega) (by omega) ((b1, Obj.cells #[.func (.func kf) #[] lb, .func (.func sf) #[] sb] 91 (0, 0)) :: H') w (show St w00 ((g, Obj.cells (rowb ((Sort.partialInsertionSort lt (Sort.reverseRange e5 aa bb) aa bb).1) tail) ty (0, 0)) :: ((b1, Obj.cells #[.func (.func kf) #[] lb, .func (.func sf) #[] sb] 91 (0, 0)) :: (H' ++ H0))) w from (hw))
                refine T.pure 90 (.tuple #[.int .i64 ((((Sort.partition lt ((Sort.partialInsertionSort lt (Sort.reverseRange e5 aa bb) aa bb).1) aa bb ((bb - 1) - (pv9 - aa))).1 : Nat) : Int)), .bool ((Sort.partition lt ((Sort.partialInsertionSort lt (Sort.reverseRange e5 aa bb) aa bb).1) aa bb ((bb - 1) - (pv9 - aa))).2.1)]) (by kernel_rfl) (fun w => by kernel_rfl) ?_
                refine T.pure 96 (.int .i64 ((((Sort.partition lt ((Sort.partialInsertionSort lt (Sort.reverseRange e5 aa bb) aa bb).1) aa bb ((bb - 1) - (pv9 - aa))).1 : Nat) : Int))) (by kernel_rfl) (fun w => by kernel_rfl) ?_
                refine T.pure 97 (.bool ((Sort.partition lt ((Sort.partialInsertionSort lt (Sort.reverseRange e5 aa bb) aa bb).1) aa bb ((bb - 1) - (pv9 - aa))).2.1)) (by kernel_rfl) (fun w => by kernel_rfl) ?_
                refine T.pureE 14 (.int .i64 ((((Sort.partition lt ((Sort.partialInsertionSort lt (Sort.reverseRange e5 aa bb) aa bb).1) aa bb ((bb - 1) - (pv9 - aa))).1 : Nat) : Int))) (.int .i64 ((((Sort.partition lt ((Sort.partialInsertionSort lt (Sort.reverseRange e5 aa bb) aa bb).1) aa bb ((bb - 1) - (pv9 - aa))).1 : Nat) : Int))) (by kernel_rfl) (fun w => by kernel_rfl) (int_eq (by omega)) ?_
                refine T.pure 15 (.bool ((Sort.partition lt ((Sort.partialInsertionSort lt (Sort.reverseRange e5 aa bb) aa bb).1) aa bb ((bb - 1) - (pv9 - aa))).2.1)) (by kernel_rfl) (fun w => by kernel_rfl) ?_
                refine T.nil ?_
                refine QN.seq ?_
                refine W.seq ?_
                refine W.region [(0, false), (1, false)] (by kernel_rfl) ?_
                refine T.pure 98 (.bool ((Sort.partition lt ((Sort.partialInsertionSort lt (Sort.reverseRange e5 aa bb) aa bb).1) aa bb ((bb - 1) - (pv9 - aa))).2.1)) (by kernel_rfl) (fun w => by kernel_rfl) ?_
                refine T.pure 9 (.bool ((Sort.partition lt ((Sort.partialInsertionSort lt (Sort.reverseRange e5 aa bb) aa bb).1) aa bb ((bb - 1) - (pv9 - aa))).2.1)) (by kernel_rfl) (fun w => by kernel_rfl) ?_
                refine T.nil ?_
                refine QN.seq ?_
                refine W.seq ?_
                refine W.region [(0, false), (1, false), (2, false), (3, false), (4, false), (5, false), (6, false), (7, false)] (by kernel_rfl) ?_
                refine T.pure 99 (.int .i64 ((((Sort.partition lt ((Sort.partialInsertionSort lt (Sort.reverseRange e5 aa bb) aa bb).1) aa bb ((bb - 1) - (pv9 - aa))).1 : Nat) : Int))) (by kernel_rfl) (fun w => by kernel_rfl) ?_
                refine T.pure 100 (.int .i64 ((aa : Int))) (by kernel_rfl) (fun w => by kernel_rfl) ?_
                refine T.pureE 101 (.int .i64 (IntKind.i64.wrap ((((Sort.partition lt ((Sort.partialInsertionSort lt (Sort.reverseRange e5 aa bb) aa bb).1) aa bb ((bb - 1) - (pv9 - aa))).1 : Nat) : Int) - (aa : Int)))) (.int .i64 ((((Sort.partition lt ((Sort.partialInsertionSort lt (Sort.reverseRange e5 aa bb) aa bb).1) aa bb ((bb - 1) - (pv9 - aa))).1 : Nat) : Int) - (aa : Int))) (by kernel_rfl) (fun w => by kernel_rfl) (wrap_int (by omega) (by omega)) ?_
                refine T.pure 102 (.int .i64 ((bb : Int))) (by kernel_rfl) (fun w => by kernel_rfl) ?_
                refine T.pure 103 (.int .i64 ((((Sort.partition lt ((Sort.partialInsertionSort lt (Sort.reverseRange e5 aa bb) aa bb).1) aa bb ((bb - 1) - (pv9 - aa))).1 : Nat) : Int))) (by kernel_rfl) (fun w => by kernel_rfl) ?_
                refine T.pureE 104 (.int .i64 (IntKind.i64.wrap ((bb : Int) - (((Sort.partition lt ((Sort.partialInsertionSort lt (Sort.reverseRange e5 aa bb) aa bb).1) aa bb ((bb - 1) - (pv9 - aa))).1 : Nat) : Int)))) (.int .i64 ((bb : Int) - (((Sort.partition lt ((Sort.partialInsertionSort lt (Sort.reverseRange e5 aa bb) aa bb).1) aa bb ((bb - 1) - (pv9 - aa))).1 : Nat) : Int))) (by kernel_rfl) (fun w => by kernel_rfl) (wrap_int (by omega) (by omega)) ?_
                refine T.pureE 16 (.int .i64 ((((Sort.partition lt ((Sort.partialInsertionSort lt (Sort.reverseRange e5 aa bb) aa bb).1) aa bb ((bb - 1) - (pv9 - aa))).1 : Nat) : Int) - (aa : Int))) (.int .i64 (((((Sort.partition lt ((Sort.partialInsertionSort lt (Sort.reverseRange e5 aa bb) aa bb).1) aa bb ((bb - 1) - (pv9 - aa))).1) - aa : Nat) : Int))) (by kernel_rfl) (fun w => by kernel_rfl) (int_eq (by omega)) ?_
                refine T.pureE 17 (.int .i64 ((bb : Int) - (((Sort.partition lt ((Sort.partialInsertionSort lt (Sort.reverseRange e5 aa bb) aa bb).1) aa bb ((bb - 1) - (pv9 - aa))).1 : Nat) : Int))) (.int .i64 (((bb - ((Sort.partition lt ((Sort.partialInsertionSort lt (Sort.reverseRange e5 aa bb) aa bb).1) aa bb ((bb - 1) - (pv9 - aa))).1) : Nat) : Int))) (by kernel_rfl) (fun w => by kernel_rfl) (int_eq (by omega)) ?_
                refine T.nil ?_
                refine QN.seq ?_
                refine W.seq ?_
                refine W.region [(0, false), (1, false), (2, false)] (by kernel_rfl) ?_
                refine T.pure 105 (.int .i64 (((bb - aa : Nat) : Int))) (by kernel_rfl) (fun w => by kernel_rfl) ?_
                refine T.pureE 106 (.int .i64 (IntKind.i64.wrap ((((bb - aa : Nat) : Int)).tdiv 8))) (.int .i64 (((bb - aa : Nat) : Int) / 8)) (by kernel_rfl) (fun w => by kernel_rfl) (quo_int (by omega) (by decide) (by omega)) ?_
                refine T.pure 18 (.int .i64 (((bb - aa : Nat) : Int) / 8)) (by kernel_rfl) (fun w => by kernel_rfl) ?_
                refine T.nil ?_
                refine QN.seq ?_
                refine W.seq ?_
                refine W.region [(0, false), (1, false), (2, false)] (by kernel_rfl) ?_
                refine T.pure 107 (.int .i64 (((((Sort.partition lt ((Sort.partialInsertionSort lt (Sort.reverseRange e5 aa bb) aa bb).1) aa bb ((bb - 1) - (pv9 - aa))).1) - aa : Nat) : Int))) (by kernel_rfl) (fun w => by kernel_rfl) ?_
                refine T.pure 108 (.int .i64 (((bb - ((Sort.partition lt ((Sort.partialInsertionSort lt (Sort.reverseRange e5 aa bb) aa bb).1) aa bb ((bb - 1) - (pv9 - aa))).1) : Nat) : Int))) (by kernel_rfl) (fun w => by kernel_rfl) ?_
                refine T.pure 109 (.bool (decide (((((Sort.partition lt ((Sort.partialInsertionSort lt (Sort.reverseRange e5 aa bb) aa bb).1) aa bb ((bb - 1) - (pv9 - aa))).1) - aa : Nat) : Int) < ((bb - ((Sort.partition lt ((Sort.partialInsertionSort lt (Sort.reverseRange e5 aa bb) aa bb).1) aa bb ((bb - 1) - (pv9 - aa))).1) : Nat) : Int)))) (by kernel_rfl) (fun w => by kernel_rfl) ?_
                refine T.nil ?_
                refine QN.seq ?_
                refine W.cond (decide (((((Sort.partition lt ((Sort.partialInsertionSort lt (Sort.reverseRange e5 aa bb) aa bb).1) aa bb ((bb - 1) - (pv9 - aa))).1) - aa : Nat) : Int) < ((bb - ((Sort.partition lt ((Sort.partialInsertionSort lt (Sort.reverseRange e5 aa bb) aa bb).1) aa bb ((bb - 1) - (pv9 - aa))).1) : Nat) : Int))) (by kernel_rfl) (fun h25 => ?_) (fun h25 => ?_)
                · skip
                  have h25' := of_decide_eq_true h25
                  refine W.seq ?_
                  refine W.region [(0, false), (1, false), (2, false), (3, false)] (by kernel_rfl) ?_
                  refine T.pure 110 (.int .i64 (((((Sort.partition lt ((Sort.partialInsertionSort lt (Sort.reverseRange e5 aa bb) aa bb).1) aa bb ((bb - 1) - (pv9 - aa))).1) - aa : Nat) : Int))) (by kernel_rfl) (fun w => by kernel_rfl) ?_
                  refine T.pure 111 (.int .i64 (((bb - aa : Nat) : Int) / 8)) (by kernel_rfl) (fun w => by kernel_rfl) ?_
                  refine T.pure 112 (.bool (decide ((((bb - aa : Nat) : Int) / 8) ≤ ((((Sort.partition lt ((Sort.partialInsertionSort lt (Sort.reverseRange e5 aa bb) aa bb).1) aa bb ((bb - 1) - (pv9 - aa))).1) - aa : Nat) : Int)))) (by kernel_rfl) (fun w => by kernel_rfl) ?_
                  refine T.pure 8 (.bool (decide ((((bb - aa : Nat) : Int) / 8) ≤ ((((Sort.partition lt ((Sort.partialInsertionSort lt (Sort.reverseRange e5 aa bb) aa bb).1) aa bb ((bb - 1) - (pv9 - aa))).1) - aa : Nat) : Int)))) (by kernel_rfl) (fun w => by kernel_rfl) ?_
                  refine T.nil ?_
                  refine QN.seq ?_
                  refine W.seq ?_
                  refine W.region [(0, false), (1, false), (2, false), (3, false), (4, false)] (by kernel_rfl) ?_
                  refine T.loadR false 113 #[.func (.func kf) #[] lb, .func (.func sf) #[] sb] 91 b1 0 (by kernel_rfl) (by kernel_rfl) (by kernel_rfl) (by kernel_rfl) (fun w h => St.rangeM h #[.func (.func kf) #[] lb, .func (.func sf) #[] sb] (.tail _ (.head _)) (by kernel_rfl)) ?_
                  refine T.pure 114 (.int .i64 ((aa : Int))) (by kernel_rfl) (fun w => by kernel_rfl) ?_
                  refine T.pure 115 (.int .i64 ((((Sort.partition lt ((Sort.partialInsertionSort lt (Sort.reverseRange e5 aa bb) aa bb).1) aa bb ((bb - 1) - (pv9 - aa))).1 : Nat) : Int))) (by kernel_rfl) (fun w => by kernel_rfl) ?_
                  refine T.pure 116 (.int .i64 (lim - 1)) (by kernel_rfl) (fun w => by kernel_rfl) ?_
                  have hsz4 : ((Sort.partition lt ((Sort.partialInsertionSort lt (Sort.reverseRange e5 aa bb) aa bb).1) aa bb ((bb - 1) - (pv9 - aa))).2.2).size = n := m3.trans (P19.1.trans hdd)
                  refine T.callG (β := Array α) 117 56 #[.agg #[.func (.func kf) #[] lb, .func (.func sf) #[] sb], .int .i64 ((aa : Int)), .int .i64 ((((Sort.partition lt ((Sort.partialInsertionSort lt (Sort.reverseRange e5 aa bb) aa bb).1) aa bb ((bb - 1) - (pv9 - aa))).1 : Nat) : Int)), .int .i64 (lim - 1)] (fun gs => .tuple #[]) (fun gs => St w00 ((g, Obj.cells (rowb gs tail) ty (0, 0)) :: ((b1, Obj.cells #[.func (.func kf) #[] lb, .func (.func sf) #[] sb] 91 (0, 0)) :: (H' ++ H0)))) (fun gs => Sort.PermIn aa ((Sort.partition lt ((Sort.partialInsertionSort lt (Sort.reverseRange e5 aa bb) aa bb).1) aa bb ((bb - 1) - (pv9 - aa))).1) ((Sort.partition lt ((Sort.partialInsertionSort lt (Sort.reverseRange e5 aa bb) aa bb).1) aa bb ((bb - 1) - (pv9 - aa))).2.2) gs ∧ Sort.SortedIn lt aa ((Sort.partition lt ((Sort.partialInsertionSort lt (Sort.reverseRange e5 aa bb) aa bb).1) aa bb ((bb - 1) - (pv9 - aa))).1) gs) (by kernel_rfl) (by kernel_rfl) ent56 ?_ (fun _ _ _ => trivial) ?_
                  · exact fun w hw => ih ((Sort.partition lt ((Sort.partialInsertionSort lt (Sort.reverseRange e5 aa bb) aa bb).1) aa bb ((bb - 1) - (pv9 - aa))).2.2) aa ((Sort.partition lt ((Sort.partialInsertionSort lt (Sort.reverseRange e5 aa bb) aa bb).1) aa bb ((bb - 1) - (pv9 - aa))).1) (lim - 1) hsz4 (by omega) (by omega) (by omega) (by omega) (by omega) (m4) ((b1, Obj.cells #[.func (.func kf) #[] lb, .func (.func sf) #[] sb] 91 (0, 0)) :: H') w (show St w00 ((g, Obj.cells (rowb ((Sort.partition lt ((Sort.partialInsertionSort lt (Sort.reverseRange e5 aa bb) aa bb).1) aa bb ((bb - 1) - (pv9 - aa))).2.2) tail) ty (0, 0)) :: ((b1, Obj.cells #[.func (.func kf) #[] lb, .func (.func sf) #[] sb] 91 (0, 0)) :: (H' ++ H0))) w from (hw))
                  rintro e26 hp_
                  have hp27 : Sort.PermIn aa ((Sort.partition lt ((Sort.partialInsertionSort lt (Sort.reverseRange e5 aa bb) aa bb).1) aa bb ((bb - 1) - (pv9 - aa))).1) ((Sort.partition lt ((Sort.partialInsertionSort lt (Sort.reverseRange e5 aa bb) aa bb).1) aa bb ((bb - 1) - (pv9 - aa))).2.2) e26 ∧ Sort.SortedIn lt aa ((Sort.partition lt ((Sort.partialInsertionSort lt (Sort.reverseRange e5 aa bb) aa bb).1) aa bb ((bb - 1) - (pv9 - aa))).1) e26 := hp_
                  refine T.nil ?_
                  refine QN.seq ?_
                  refine W.region [(0, false), (1, false), (2, false)] (by kernel_rfl) ?_
                  refine T.pure 118 (.int .i64 ((((Sort.partition lt ((Sort.partialInsertionSort lt (Sort.reverseRange e5 aa bb) aa bb).1) aa bb ((bb - 1) - (pv9 - aa))).1 : Nat) : Int))) (by kernel_rfl) (fun w => by kernel_rfl) ?_
                  refine T.pureE 119 (.int .i64 (IntKind.i64.wrap ((((Sort.partition lt ((Sort.partialInsertionSort lt (Sort.reverseRange e5 aa bb) aa bb).1) aa bb ((bb - 1) - (pv9 - aa))).1 : Nat) : Int) + 1))) (.int .i64 ((((Sort.partition lt ((Sort.partialInsertionSort lt (Sort.reverseRange e5 aa bb) aa bb).1) aa bb ((bb - 1) - (pv9 - aa))).1 : Nat) : Int) + 1)) (by kernel_rfl) (fun w => by kernel_rfl) (wrap_int (by omega) (by omega)) ?_
                  refine T.pureE 1 (.int .i64 ((((Sort.partition lt ((Sort.partialInsertionSort lt (Sort.reverseRange e5 aa bb) aa bb).1) aa bb ((bb - 1) - (pv9 - aa))).1 : Nat) : Int) + 1)) (.int .i64 (((((Sort.partition lt ((Sort.partialInsertionSort lt (Sort.reverseRange e5 aa bb) aa bb).1) aa bb ((bb - 1) - (pv9 - aa))).1) + 1 : Nat) : Int))) (by kernel_rfl) (fun w => by kernel_rfl) (int_eq (by omega)) ?_
                  refine T.nil ?_
                  refine QN.blkNormal ?_
                  refine QN.back ((Sort.partition lt ((Sort.partialInsertionSort lt (Sort.reverseRange e5 aa bb) aa bb).1) aa bb ((bb - 1) - (pv9 - aa))).1 + 1, bb, e26, lim - 1, decide ((((bb - aa : Nat) : Int) / 8) ≤ ((((Sort.partition lt ((Sort.partialInsertionSort lt (Sort.reverseRange e5 aa bb) aa bb).1) aa bb ((bb - 1) - (pv9 - aa))).1) - aa : Nat) : Int)), (Sort.partition lt ((Sort.partialInsertionSort lt (Sort.reverseRange e5 aa bb) aa bb).1) aa bb ((bb - 1) - (pv9 - aa))).2.1) ?_ ?_ (by kernel_rfl) (fun w h => h.perm ((((List.Perm.refl _).cons _).trans (List.Perm.swap _ _ _)).trans ((List.Perm.refl _).cons _)))
                  · show a ≤ ((Sort.partition lt ((Sort.partialInsertionSort lt (Sort.reverseRange e5 aa bb) aa bb).1) aa bb ((bb - 1) - (pv9 - aa))).1 + 1) ∧ bb ≤ b ∧ ((Sort.partition lt ((Sort.partialInsertionSort lt (Sort.reverseRange e5 aa bb) aa bb).1) aa bb ((bb - 1) - (pv9 - aa))).1 + 1) ≤ bb ∧ e26.size = n ∧ Sort.Below lt ((Sort.partition lt ((Sort.partialInsertionSort lt (Sort.reverseRange e5 aa bb) aa bb).1) aa bb ((bb - 1) - (pv9 - aa))).1 + 1) bb e26 ∧ 0 ≤ (lim - 1) ∧ (lim - 1) ≤ 1000 ∧ ∀ R, Sort.PermIn ((Sort.partition lt ((Sort.partialInsertionSort lt (Sort.reverseRange e5 aa bb) aa bb).1) aa bb ((bb - 1) - (pv9 - aa))).1 + 1) bb e26 R → Sort.SortedIn lt ((Sort.partition lt ((Sort.partialInsertionSort lt (Sort.reverseRange e5 aa bb) aa bb).1) aa bb ((bb - 1) - (pv9 - aa))).1 + 1) bb R → Sort.PermIn a b d R ∧ Sort.SortedIn lt a b R
                    exact ⟨by omega, by omega, by omega, hp27.1.1.trans hsz4, (m6 e26 hp27.1 hp27.2).1, by omega, by omega, fun R h1 h2 => hfin R (Sort.permIn_trans _ _ _ _ _ P19 ((m6 e26 hp27.1 hp27.2).2 R h1 h2).1) ((m6 e26 hp27.1 hp27.2).2 R h1 h2).2⟩
                  · show bb - ((Sort.partition lt ((Sort.partialInsertionSort lt (Sort.reverseRange e5 aa bb) aa bb).1) aa bb ((bb - 1) - (pv9 - aa))).1 + 1) < bb - aa; omega
                · skip
                  have h25' := of_decide_eq_false h25
                  refine W.seq ?_
                  refine W.region [(0, false), (1, false), (2, false), (3, false)] (by kernel_rfl) ?_
                  refine T.pure 120 (.int .i64 (((bb - ((Sort.partition lt ((Sort.partialInsertionSort lt (Sort.reverseRange e5 aa bb) aa bb).1) aa bb ((bb - 1) - (pv9 - aa))).1) : Nat) : Int))) (by kernel_rfl) (fun w => by kernel_rfl) ?_
                  refine T.pure 121 (.int .i64 (((bb - aa : Nat) : Int) / 8)) (by kernel_rfl) (fun w => by kernel_rfl) ?_
                  refine T.pure 122 (.bool (decide ((((bb - aa : Nat) : Int) / 8) ≤ ((bb - ((Sort.partition lt ((Sort.partialInsertionSort lt (Sort.reverseRange e5 aa bb) aa bb).1) aa bb ((bb - 1) - (pv9 - aa))).1) : Nat) : Int)))) (by kernel_rfl) (fun w => by kernel_rfl) ?_
                  refine T.pure 8 (.bool (decide ((((bb - aa : Nat) : Int) / 8) ≤ ((bb - ((Sort.partition lt ((Sort.partialInsertionSort lt (Sort.reverseRange e5 aa bb) aa bb).1) aa bb ((bb - 1) - (pv9 - aa))).1) : Nat) : Int)))) (by kernel_rfl) (fun w => by kernel_rfl) ?_
                  refine T.nil ?_
                  refine QN.seq ?_
                  refine W.seq ?_
                  refine W.region [(0, false), (1, false), (2, false), (3, false), (4, false), (5, false)] (by kernel_rfl) ?_
                  refine T.loadR false 123 #[.func (.func kf) #[] lb, .func (.func sf) #[] sb] 91 b1 0 (by kernel_rfl) (by kernel_rfl) (by kernel_rfl) (by kernel_rfl) (fun w h => St.rangeM h #[.func (.func kf) #[] lb, .func (.func sf) #[] sb] (.tail _ (.head _)) (by kernel_rfl)) ?_
                  refine T.pure 124 (.int .i64 ((((Sort.partition lt ((Sort.partialInsertionSort lt (Sort.reverseRange e5 aa bb) aa bb).1) aa bb ((bb - 1) - (pv9 - aa))).1 : Nat) : Int))) (by kernel_rfl) (fun w => by kernel_rfl) ?_
                  refine T.pureE 125 (.int .i64 (IntKind.i64.wrap ((((Sort.partition lt ((Sort.partialInsertionSort lt (Sort.reverseRange e5 aa bb) aa bb).1) aa bb ((bb - 1) - (pv9 - aa))).1 : Nat) : Int) + 1))) (.int .i64 ((((Sort.partition lt ((Sort.partialInsertionSort lt (Sort.reverseRange e5 aa bb) aa bb).1) aa bb ((bb - 1) - (pv9 - aa))).1 : Nat) : Int) + 1)) (by kernel_rfl) (fun w => by kernel_rfl) (wrap_int (by omega) (by omega)) ?_
                  refine T.pure 126 (.int .i64 ((bb : Int))) (by kernel_rfl) (fun w => by kernel_rfl) ?_
                  refine T.pure 127 (.int .i64 (lim - 1)) (by kernel_rfl) (fun w => by kernel_rfl) ?_
                  have hsz4 : ((Sort.partition lt ((Sort.partialInsertionSort lt (Sort.reverseRange e5 aa bb) aa bb).1) aa bb ((bb - 1) - (pv9 - aa))).2.2).size = n := m3.trans (P19.1.trans hdd)
                  refine T.callG (β := Array α) 128 56 #[.agg #[.func (.func kf) #[] lb, .func (.func sf) #[] sb], .int .i64 ((((Sort.partition lt ((Sort.partialInsertionSort lt (Sort.reverseRange e5 aa bb) aa bb).1) aa bb ((bb - 1) - (pv9 - aa))).1 : Nat) : Int) + 1), .int .i64 ((bb : Int)), .int .i64 (lim - 1)] (fun gs => .tuple #[]) (fun gs => St w00 ((g, Obj.cells (rowb gs tail) ty (0, 0)) :: ((b1, Obj.cells #[.func (.func kf) #[] lb, .func (.func sf) #[] sb] 91 (0, 0)) :: (H' ++ H0)))) (fun gs => Sort.PermIn (((Sort.partition lt ((Sort.partialInsertionSort lt (Sort.reverseRange e5 aa bb) aa bb).1) aa bb ((bb - 1) - (pv9 - aa))).1) + 1) bb ((Sort.partition lt ((Sort.partialInsertionSort lt (Sort.reverseRange e5 aa bb) aa bb).1) aa bb ((bb - 1) - (pv9 - aa))).2.2) gs ∧ Sort.SortedIn lt (((Sort.partition lt ((Sort.partialInsertionSort lt (Sort.reverseRange e5 aa bb) aa bb).1) aa bb ((bb - 1) - (pv9 - aa))).1) + 1) bb gs) (by kernel_rfl) (by kernel_rfl) ent56 ?_ (fun _ _ _ => trivial) ?_
                  · exact fun w hw => ih ((Sort.partition lt ((Sort.partialInsertionSort lt (Sort.reverseRange e5 aa bb) aa bb).1) aa bb ((bb - 1) - (pv9 - aa))).2.2) (((Sort.partition lt ((Sort.partialInsertionSort lt (Sort.reverseRange e5 aa bb) aa bb).1) aa bb ((bb - 1) - (pv9 - aa))).1) + 1) bb (lim - 1) hsz4 (by omega) (by omega) (by omega) (by omega) (by omega) (m5) ((b1, Obj.cells #[.func (.func kf) #[] lb, .func (.func sf) #[] sb] 91 (0, 0)) :: H') w (show St w00 ((g, Obj.cells (rowb ((Sort.partition lt ((Sort.partialInsertionSort lt (Sort.reverseRange e5 aa bb) aa bb).1) aa bb ((bb - 1) - (pv9 - aa))).2.2) tail) ty (0, 0)) :: ((b1, Obj.cells #[.func (.func kf) #[] lb, .func (.func sf) #[] sb] 91 (0, 0)) :: (H' ++ H0))) w from (hw))
                  rintro e28 hp_
                  have hp29 : Sort.PermIn (((Sort.partition lt ((Sort.partialInsertionSort lt (Sort.reverseRange e5 aa bb) aa bb).1) aa bb ((bb - 1) - (pv9 - aa))).1) + 1) bb ((Sort.partition lt ((Sort.partialInsertionSort lt (Sort.reverseRange e5 aa bb) aa bb).1) aa bb ((bb - 1) - (pv9 - aa))).2.2) e28 ∧ Sort.SortedIn lt (((Sort.partition lt ((Sort.partialInsertionSort lt (Sort.reverseRange e5 aa bb) aa bb).1) aa bb ((bb - 1) - (pv9 - aa))).1) + 1) bb e28 := hp_
                  refine T.nil ?_
                  refine QN.seq ?_
                  refine W.region [(0, false), (1, false)] (by kernel_rfl) ?_
                  refine T.pure 129 (.int .i64 ((((Sort.partition lt ((Sort.partialInsertionSort lt (Sort.reverseRange e5 aa bb) aa bb).1) aa bb ((bb - 1) - (pv9 - aa))).1 : Nat) : Int))) (by kernel_rfl) (fun w => by kernel_rfl) ?_
                  refine T.pure 2 (.int .i64 ((((Sort.partition lt ((Sort.partialInsertionSort lt (Sort.reverseRange e5 aa bb) aa bb).1) aa bb ((bb - 1) - (pv9 - aa))).1 : Nat) : Int))) (by kernel_rfl) (fun w => by kernel_rfl) ?_
                  refine T.nil ?_
                  refine QN.blkNormal ?_
                  refine QN.back (aa, (Sort.partition lt ((Sort.partialInsertionSort lt (Sort.reverseRange e5 aa bb) aa bb).1) aa bb ((bb - 1) - (pv9 - aa))).1, e28, lim - 1, decide ((((bb - aa : Nat) : Int) / 8) ≤ ((bb - ((Sort.partition lt ((Sort.partialInsertionSort lt (Sort.reverseRange e5 aa bb) aa bb).1) aa bb ((bb - 1) - (pv9 - aa))).1) : Nat) : Int)), (Sort.partition lt ((Sort.partialInsertionSort lt (Sort.reverseRange e5 aa bb) aa bb).1) aa bb ((bb - 1) - (pv9 - aa))).2.1) ?_ ?_ (by kernel_rfl) (fun w h => h.perm ((((List.Perm.refl _).cons _).trans (List.Perm.swap _ _ _)).trans ((List.Perm.refl _).cons _)))
                  · show a ≤ aa ∧ ((Sort.partition lt ((Sort.partialInsertionSort lt (Sort.reverseRange e5 aa bb) aa bb).1) aa bb ((bb - 1) - (pv9 - aa))).1) ≤ b ∧ aa ≤ ((Sort.partition lt ((Sort.partialInsertionSort lt (Sort.reverseRange e5 aa bb) aa bb).1) aa bb ((bb - 1) - (pv9 - aa))).1) ∧ e28.size = n ∧ Sort.Below lt aa ((Sort.partition lt ((Sort.partialInsertionSort lt (Sort.reverseRange e5 aa bb) aa bb).1) aa bb ((bb - 1) - (pv9 - aa))).1) e28 ∧ 0 ≤ (lim - 1) ∧ (lim - 1) ≤ 1000 ∧ ∀ R, Sort.PermIn aa ((Sort.partition lt ((Sort.partialInsertionSort lt (Sort.reverseRange e5 aa bb) aa bb).1) aa bb ((bb - 1) - (pv9 - aa))).1) e28 R → Sort.SortedIn lt aa ((Sort.partition lt ((Sort.partialInsertionSort lt (Sort.reverseRange e5 aa bb) aa bb).1) aa bb ((bb - 1) - (pv9 - aa))).1) R → Sort.PermIn a b d R ∧ Sort.SortedIn lt a b R
                    exact ⟨by omega, by omega, by omega, hp29.1.1.trans hsz4, (m7 e28 hp29.1 hp29.2).1, by omega, by omega, fun R h1 h2 => hfin R (Sort.permIn_trans _ _ _ _ _ P19 ((m7 e28 hp29.1 hp29.2).2 R h1 h2).1) ((m7 e28 hp29.1 hp29.2).2 R h1 h2).2⟩
                  · show ((Sort.partition lt ((Sort.partialInsertionSort lt (Sort.reverseRange e5 aa bb) aa bb).1) aa bb ((bb - 1) - (pv9 - aa))).1) - aa < bb - aa; omega
          · skip
            refine W.skip ?_
            refine QN.seq ?_
            refine W.seq ?_
            refine W.seq ?_
            refine W.region [(0, false), (1, false), (2, false), (3, false), (4, false), (5, false), (6, false), (7, false), (8, false), (9, false), (10, false)] (by kernel_rfl) ?_
            refine T.pure 73 (.int .i64 ((aa : Int))) (by kernel_rfl) (fun w => by kernel_rfl) ?_
            refine T.pure 74 (.bool (decide (0 < (aa : Int)))) (by kernel_rfl) (fun w => by kernel_rfl) ?_
            refine T.pure 75 (.bool (decide (0 < (aa : Int)))) (by kernel_rfl) (fun w => by kernel_rfl) ?_
            refine T.blk [(3, false), (4, false), (5, false), (6, false), (7, false), (8, false), (9, false)] [(10, false)] 2 true (decide (0 < (aa : Int))) 75 82 (.bool (!(lt (Sort.reverseRange e5 aa bb)[(aa - 1)]! (Sort.reverseRange e5 aa bb)[((bb - 1) - (pv9 - aa))]!))) (by kernel_rfl) (by kernel_rfl) (by kernel_rfl) (fun hg30 => ?_) ?_
            · have hg30_ := hg30
              have hg30' := of_decide_eq_true hg30
              refine T.pure 76 (.pointer (some ⟨b1, 0, none⟩)) (by kernel_rfl) (fun w => by kernel_rfl) ?_
              refine T.load false 77 (.func (.func kf) #[] lb) 67 b1 0 (by kernel_rfl) (by kernel_rfl) (by kernel_rfl) (fun w h => St.cellM h (.tail _ (.head _)) (by kernel_rfl)) ?_
              refine T.pure 78 (.int .i64 ((aa : Int))) (by kernel_rfl) (fun w => by kernel_rfl) ?_
              refine T.pureE 79 (.int .i64 (IntKind.i64.wrap ((aa : Int) - 1))) (.int .i64 ((aa : Int) - 1)) (by kernel_rfl) (fun w => by kernel_rfl) (wrap_int (by omega) (by omega)) ?_
              refine T.pure 80 (.int .i64 ((((bb - 1) - (pv9 - aa) : Nat) : Int))) (by kernel_rfl) (fun w => by kernel_rfl) ?_
              refine T.callP 81 kf (#[.int .i64 ((aa : Int) - 1), .int .i64 ((((bb - 1) - (pv9 - aa) : Nat) : Int))] ++ lb) (.bool (lt (Sort.reverseRange e5 aa bb)[(aa - 1)]! (Sort.reverseRange e5 aa bb)[((bb - 1) - (pv9 - aa))]!)) (by kernel_rfl) (by kernel_rfl) hS.ent ?_ (fun _ _ => trivial) ?_
              · exact fun w hw => hS.less ((b1, Obj.cells #[.func (.func kf) #[] lb, .func (.func sf) #[] sb] 91 (0, 0)) :: H') (Sort.reverseRange e5 aa bb) w ((aa : Int) - 1) ((((bb - 1) - (pv9 - aa) : Nat) : Int)) (aa - 1) ((bb - 1) - (pv9 - aa)) (by first | assumption | (simp only [Sort.size_swp]; assumption)) (by omega) (by omega) (by omega) (by omega) (show St w00 ((g, Obj.cells (rowb (Sort.reverseRange e5 aa bb) tail) ty (0, 0)) :: ((b1, Obj.cells #[.func (.func kf) #[] lb, .func (.func sf) #[] sb] 91 (0, 0)) :: (H' ++ H0))) w from (hw))
              refine T.pure 82 (.bool (!(lt (Sort.reverseRange e5 aa bb)[(aa - 1)]! (Sort.reverseRange e5 aa bb)[((bb - 1) - (pv9 - aa))]!))) (by kernel_rfl) (fun w => by kernel_rfl) ?_
              exact T.blkEnd (by kernel_rfl) (fun w h => h)
            refine T.and 83 (decide (0 < (aa : Int))) (!(lt (Sort.reverseRange e5 aa bb)[(aa - 1)]! (Sort.reverseRange e5 aa bb)[((bb - 1) - (pv9 - aa))]!)) (by kernel_rfl) (by kernel_rfl) ?_
            refine T.nil ?_
            refine QN.seq ?_
            refine W.cond ((decide (0 < (aa : Int))) && (!(lt (Sort.reverseRange e5 aa bb)[(aa - 1)]! (Sort.reverseRange e5 aa bb)[((bb - 1) - (pv9 - aa))]!))) (by kernel_rfl) (fun h31 => ?_) (fun h31 => ?_)
            · skip
              have h31l := (Bool.and_eq_true_iff.1 h31).1
              have h31r := (Bool.and_eq_true_iff.1 h31).2
              have h31l' := of_decide_eq_true h31l
              have h31rn := not_eq_true h31r
              refine W.seq ?_
              refine W.region [(0, false), (1, false), (2, false), (3, false), (4, false), (5, false)] (by kernel_rfl) ?_
              refine T.loadR false 84 #[.func (.func kf) #[] lb, .func (.func sf) #[] sb] 91 b1 0 (by kernel_rfl) (by kernel_rfl) (by kernel_rfl) (by kernel_rfl) (fun w h => St.rangeM h #[.func (.func kf) #[] lb, .func (.func sf) #[] sb] (.tail _ (.head _)) (by kernel_rfl)) ?_
              refine T.pure 85 (.int .i64 ((aa : Int))) (by kernel_rfl) (fun w => by kernel_rfl) ?_
              refine T.pure 86 (.int .i64 ((bb : Int))) (by kernel_rfl) (fun w => by kernel_rfl) ?_
              refine T.pure 87 (.int .i64 ((((bb - 1) - (pv9 - aa) : Nat) : Int))) (by kernel_rfl) (fun w => by kernel_rfl) ?_
              have hsz : (Sort.reverseRange e5 aa bb).size = n := P13.1.trans hdd
              have hre := Sort.round_eq hS.swo (Sort.partitionEqual_holds lt) (d3 := (Sort.reverseRange e5 aa bb)) (a := aa) (b := bb) (pivot := ((bb - 1) - (pv9 - aa))) (mid := (Sort.partitionEqual lt (Sort.reverseRange e5 aa bb) aa bb ((bb - 1) - (pv9 - aa))).1) (d4 := (Sort.partitionEqual lt (Sort.reverseRange e5 aa bb) aa bb ((bb - 1) - (pv9 - aa))).2) (by omega) (by omega) (by omega) (by omega) B14 (not_eq_true h31r) rfl
              obtain ⟨m1, m2, m3, m4, m5⟩ := hre
              refine T.callW 88 83 #[.agg #[.func (.func kf) #[] lb, .func (.func sf) #[] sb], .int .i64 ((aa : Int)), .int .i64 ((bb : Int)), .int .i64 ((((bb - 1) - (pv9 - aa) : Nat) : Int))] (.int .i64 ((((Sort.partitionEqual lt (Sort.reverseRange e5 aa bb) aa bb ((bb - 1) - (pv9 - aa))).1 : Nat) : Int))) (St w00 ((g, Obj.cells (rowb ((Sort.partitionEqual lt (Sort.reverseRange e5 aa bb) aa bb ((bb - 1) - (pv9 - aa))).2) tail) ty (0, 0)) :: ((b1, Obj.cells #[.func (.func kf) #[] lb, .func (.func sf) #[] sb] 91 (0, 0)) :: (H' ++ H0)))) (by kernel_rfl) (by kernel_rfl) ent83 ?_ (fun _ _ => trivial) ?_
              · exact fun w hw => partEq_c hS hn (Sort.reverseRange e5 aa bb) aa bb ((bb - 1) - (pv9 - aa)) hsz (by omega) (by omega) (by omega) ((b1, Obj.cells #[.func (.func kf) #[] lb, .func (.func sf) #[] sb] 91 (0, 0)) :: H') w (show St w00 ((g, Obj.cells (rowb (Sort.reverseRange e5 aa bb) tail) ty (0, 0)) :: ((b1, Obj.cells #[.func (.func kf) #[] lb, .func (.func sf) #[] sb] 91 (0, 0)) :: (H' ++ H0))) w from (hw))
              refine T.pureE 13 (.int .i64 ((((Sort.partitionEqual lt (Sort.reverseRange e5 aa bb) aa bb ((bb - 1) - (pv9 - aa))).1 : Nat) : Int))) (.int .i64 ((((Sort.partitionEqual lt (Sort.reverseRange e5 aa bb) aa bb ((bb - 1) - (pv9 - aa))).1 : Nat) : Int))) (by kernel_rfl) (fun w => by kernel_rfl) (int_eq (by omega)) ?_
              refine T.nil ?_
              refine QN.seq ?_
              refine W.seq ?_
              refine W.region [(0, false), (1, false)] (by kernel_rfl) ?_
              refine T.pure 89 (.int .i64 ((((Sort.partitionEqual lt (Sort.reverseRange e5 aa bb) aa bb ((bb - 1) - (pv9 - aa))).1 : Nat) : Int))) (by kernel_rfl) (fun w => by kernel_rfl) ?_
              refine T.pureE 1 (.int .i64 ((((Sort.partitionEqual lt (Sort.reverseRange e5 aa bb) aa bb ((bb - 1) - (pv9 - aa))).1 : Nat) : Int))) (.int .i64 ((((Sort.partitionEqual lt (Sort.reverseRange e5 aa bb) aa bb ((bb - 1) - (pv9 - aa))).1 : Nat) : Int))) (by kernel_rfl) (fun w => by kernel_rfl) (int_eq (by omega)) ?_
              refine T.nil ?_
              refine QN.seq ?_
              refine W.exit ?_
              refine QN.thenExit ?_
              refine QN.blkHit ?_
              refine QN.back (((Sort.partitionEqual lt (Sort.reverseRange e5 aa bb) aa bb ((bb - 1) - (pv9 - aa))).1), bb, (Sort.partitionEqual lt (Sort.reverseRange e5 aa bb) aa bb ((bb - 1) - (pv9 - aa))).2, lim - 1, wb, wp) ?_ ?_ (by kernel_rfl) (fun w h => h.perm ((((List.Perm.refl _).cons _).trans (List.Perm.swap _ _ _)).trans ((List.Perm.refl _).cons _)))
              · show a ≤ ((Sort.partitionEqual lt (Sort.reverseRange e5 aa bb) aa bb ((bb - 1) - (pv9 - aa))).1) ∧ bb ≤ b ∧ ((Sort.partitionEqual lt (Sort.reverseRange e5 aa bb) aa bb ((bb - 1) - (pv9 - aa))).1) ≤ bb ∧ ((Sort.partitionEqual lt (Sort.reverseRange e5 aa bb) aa bb ((bb - 1) - (pv9 - aa))).2).size = n ∧ Sort.Below lt ((Sort.partitionEqual lt (Sort.reverseRange e5 aa bb) aa bb ((bb - 1) - (pv9 - aa))).1) bb ((Sort.partitionEqual lt (Sort.reverseRange e5 aa bb) aa bb ((bb - 1) - (pv9 - aa))).2) ∧ 0 ≤ (lim - 1) ∧ (lim - 1) ≤ 1000 ∧ ∀ R, Sort.PermIn ((Sort.partitionEqual lt (Sort.reverseRange e5 aa bb) aa bb ((bb - 1) - (pv9 - aa))).1) bb ((Sort.partitionEqual lt (Sort.reverseRange e5 aa bb) aa bb ((bb - 1) - (pv9 - aa))).2) R → Sort.SortedIn lt ((Sort.partitionEqual lt (Sort.reverseRange e5 aa bb) aa bb ((bb - 1) - (pv9 - aa))).1) bb R → Sort.PermIn a b d R ∧ Sort.SortedIn lt a b R
                exact ⟨by omega, by omega, by omega, m3.trans (P13.1.trans hdd), m4, by omega, by omega, fun R h1 h2 => hfin R (Sort.permIn_trans _ _ _ _ _ P13 (m5 R h1 h2).1) (m5 R h1 h2).2⟩
              · show bb - ((Sort.partitionEqual lt (Sort.reverseRange e5 aa bb) aa bb ((bb - 1) - (pv9 - aa))).1) < bb - aa; omega
            · skip
              refine W.skip ?_
              refine QN.seq ?_
              refine W.seq ?_
              refine W.region [(0, false), (1, false), (2, false), (3, false), (4, false), (5, false), (6, false), (7, false), (8, false), (9, false)] (by kernel_rfl) ?_
              refine T.loadR false 91 #[.func (.func kf) #[] lb, .func (.func sf) #[] sb] 91 b1 0 (by kernel_rfl) (by kernel_rfl) (by kernel_rfl) (by kernel_rfl) (fun w h => St.rangeM h #[.func (.func kf) #[] lb, .func (.func sf) #[] sb] (.tail _ (.head _)) (by kernel_rfl)) ?_
              refine T.pure 92 (.int .i64 ((aa : Int))) (by kernel_rfl) (fun w => by kernel_rfl) ?_
              refine T.pure 93 (.int .i64 ((bb : Int))) (by kernel_rfl) (fun w => by kernel_rfl) ?_
              refine T.pure 94 (.int .i64 ((((bb - 1) - (pv9 - aa) : Nat) : Int))) (by kernel_rfl) (fun w => by kernel_rfl) ?_
              have hsz : (Sort.reverseRange e5 aa bb).size = n := P13.1.trans hdd
              have hrp := Sort.round_part hS.swo (Sort.partition_holds lt) (d3 := (Sort.reverseRange e5 aa bb)) (a := aa) (b := bb) (pivot := ((bb - 1) - (pv9 - aa))) (mid := (Sort.partition lt (Sort.reverseRange e5 aa bb) aa bb ((bb - 1) - (pv9 - aa))).1) (ap := (Sort.partition lt (Sort.reverseRange e5 aa bb) aa bb ((bb - 1) - (pv9 - aa))).2.1) (d4 := (Sort.partition lt (Sort.reverseRange e5 aa bb) aa bb ((bb - 1) - (pv9 - aa))).2.2) (by omega) (by omega) (by omega) B14 rfl
              obtain ⟨m1, m2, m3, m4, m5, m6, m7⟩ := hrp
              refine T.callW 95 84 #[.agg #[.func (.func kf) #[] lb, .func (.func sf) #[] sb], .int .i64 ((aa : Int)), .int .i64 ((bb : Int)), .int .i64 ((((bb - 1) - (pv9 - aa) : Nat) : Int))] (.tuple #[.int .i64 ((((Sort.partition lt (Sort.reverseRange e5 aa bb) aa bb ((bb - 1) - (pv9 - aa))).1 : Nat) : Int)), .bool ((Sort.partition lt (Sort.reverseRange e5 aa bb) aa bb ((bb - 1) - (pv9 - aa))).2.1)]) (St w00 ((g, Obj.cells (rowb ((Sort.partition lt (Sort.reverseRange e5 aa bb) aa bb ((bb - 1) - (pv9 - aa))).2.2) tail) ty (0, 0)) :: ((b1, Obj.cells #[.func (.func kf) #[] lb, .func (.func sf) #[] sb] 91 (0, 0)) :: (H' ++ H0)))) (by kernel_rfl) (by kernel_rfl) ent84 ?_ (fun _ _ => trivial) ?_
              · exact fun w hw => part_c hS hn (Sort.reverseRange e5 aa bb) aa bb ((bb - 1) - (pv9 - aa)) hsz (by omega) (by omega) (by omega) ((b1, Obj.cells #[.func (.func kf) #[] lb, .func (.func sf) #[] sb] 91 (0, 0)) :: H') w (show St w00 ((g, Obj.cells (rowb (Sort.reverseRange e5 aa bb) tail) ty (0, 0)) :: ((b1, Obj.cells #[.func (.func kf) #[] lb, .func (.func sf) #[] sb] 91 (0, 0)) :: (H' ++ H0))) w from (hw))
              refine T.pure 90 (.tuple #[.int .i64 ((((Sort.partition lt (Sort.reverseRange e5 aa bb) aa bb ((bb - 1) - (pv9 - aa))).1 : Nat) : Int)), .bool ((Sort.partition lt (Sort.reverseRange e5 aa bb) aa bb ((bb - 1) - (pv9 - aa))).2.1)]) (by kernel_rfl) (fun w => by kernel_rfl) ?_
              refine T.pure 96 (.int .i64 ((((Sort.partition lt (Sort.reverseRange e5 aa bb) aa bb ((bb - 1) - (pv9 - aa))).1 : Nat) : Int))) (by kernel_rfl) (fun w => by kernel_rfl) ?_
              refine T.pure 97 (.bool ((Sort.partition lt (Sort.reverseRange e5 aa bb) aa bb ((bb - 1) - (pv9 - aa))).2.1)) (by kernel_rfl) (fun w => by kernel_rfl) ?_
              refine T.pureE 14 (.int .i64 ((((Sort.partition lt (Sort.reverseRange e5 aa bb) aa bb ((bb - 1) - (pv9 - aa))).1 : Nat) : Int))) (.int .i64 ((((Sort.partition lt (Sort.reverseRange e5 aa bb) aa bb ((bb - 1) - (pv9 - aa))).1 : Nat) : Int))) (by kernel_rfl) (fun w => by kernel_rfl) (int_eq (by omega)) ?_
              refine T.pure 15 (.bool ((Sort.partition lt (Sort.reverseRange e5 aa bb) aa bb ((bb - 1) - (pv9 - aa))).2.1)) (by kernel_rfl) (fun w => by kernel_rfl) ?_
              refine T.nil ?_
              refine QN.seq ?_
              refine W.seq ?_
              refine W.region [(0, false), (1, false)] (by kernel_rfl) ?_
              refine T.pure 98 (.bool ((Sort.partition lt (Sort.reverseRange e5 aa bb) aa bb ((bb - 1) - (pv9 - aa))).2.1)) (by kernel_rfl) (fun w => by kernel_rfl) ?_
              refine T.pure 9 (.bool ((Sort.partition lt (Sort.reverseRange e5 aa bb) aa bb ((bb - 1) - (pv9 - aa))).2.1)) (by kernel_rfl) (fun w => by kernel_rfl) ?_
              refine T.nil ?_
              refine QN.seq ?_
              refine W.seq ?_
              refine W.region [(0, false), (1, false), (2, false), (3, false), (4, false), (5, false), (6, false), (7, false)] (by kernel_rfl) ?_
              refine T.pure 99 (.int .i64 ((((Sort.partition lt (Sort.reverseRange e5 aa bb) aa bb ((bb - 1) - (pv9 - aa))).1 : Nat) : Int))) (by kernel_rfl) (fun w => by kernel_rfl) ?_
              refine T.pure 100 (.int .i64 ((aa : Int))) (by kernel_rfl) (fun w => by kernel_rfl) ?_
              refine T.pureE 101 (.int .i64 (IntKind.i64.wrap ((((Sort.partition lt (Sort.reverseRange e5 aa bb) aa bb ((bb - 1) - (pv9 - aa))).1 : Nat) : Int) - (aa : Int)))) (.int .i64 ((((Sort.partition lt (Sort.reverseRange e5 aa bb) aa bb ((bb - 1) - (pv9 - aa))).1 : Nat) : Int) - (aa : Int))) (by kernel_rfl) (fun w => by kernel_rfl) (wrap_int (by omega) (by omega)) ?_
              refine T.pure 102 (.int .i64 ((bb : Int))) (by kernel_rfl) (fun w => by kernel_rfl) ?_
              refine T.pure 103 (.int .i64 ((((Sort.partition lt (Sort.reverseRange e5 aa bb) aa bb ((bb - 1) - (pv9 - aa))).1 : Nat) : Int))) (by kernel_rfl) (fun w => by kernel_rfl) ?_
              refine T.pureE 104 (.int .i64 (IntKind.i64.wrap ((bb : Int) - (((Sort.partition lt (Sort.reverseRange e5 aa bb) aa bb ((bb - 1) - (pv9 - aa))).1 : Nat) : Int)))) (.int .i64 ((bb : Int) - (((Sort.partition lt (Sort.reverseRange e5 aa bb) aa bb ((bb - 1) - (pv9 - aa))).1 : Nat) : Int))) (by kernel_rfl) (fun w => by kernel_rfl) (wrap_int (by omega) (by omega)) ?_
              refine T.pureE 16 (.int .i64 ((((Sort.partition lt (Sort.reverseRange e5 aa bb) aa bb ((bb - 1) - (pv9 - aa))).1 : Nat) : Int) - (aa : Int))) (.int .i64 (((((Sort.partition lt (Sort.reverseRange e5 aa bb) aa bb ((bb - 1) - (pv9 - aa))).1) - aa : Nat) : Int))) (by kernel_rfl) (fun w => by kernel_rfl) (int_eq (by omega)) ?_
              refine T.pureE 17 (.int .i64 ((bb : Int) - (((Sort.partition lt (Sort.reverseRange e5 aa bb) aa bb ((bb - 1) - (pv9 - aa))).1 : Nat) : Int))) (.int .i64 (((bb - ((Sort.partition lt (Sort.reverseRange e5 aa bb) aa bb ((bb - 1) - (pv9 - aa))).1) : Nat) : Int))) (by kernel_rfl) (fun w => by kernel_rfl) (int_eq (by omega)) ?_
              refine T.nil ?_
              refine QN.seq ?_
              refine W.seq ?_
              refine W.region [(0, false), (1, false), (2, false)] (by kernel_rfl) ?_
              refine T.pure 105 (.int .i64 (((bb - aa : Nat) : Int))) (by kernel_rfl) (fun w => by kernel_rfl) ?_
              refine T.pureE 106 (.int .i64 (IntKind.i64.wrap ((((bb - aa : Nat) : Int)).tdiv 8))) (.int .i64 (((bb - aa : Nat) : Int) / 8)) (by kernel_rfl) (fun w => by kernel_rfl) (quo_int (by omega) (by decide) (by omega)) ?_
              refine T.pure 18 (.int .i64 (((bb - aa : Nat) : Int) / 8)) (by kernel_rfl) (fun w => by kernel_rfl) ?_
              refine T.nil ?_
              refine QN.seq ?_
              refine W.seq ?_
              refine W.region [(0, false), (1, false), (2, false)] (by kernel_rfl) ?_
              refine T.pure 107 (.int .i64 (((((Sort.partition lt (Sort.reverseRange e5 aa bb) aa bb ((bb - 1) - (pv9 - aa))).1) - aa : Nat) : Int))) (by kernel_rfl) (fun w => by kernel_rfl) ?_
              refine T.pure 108 (.int .i64 (((bb - ((Sort.partition lt (Sort.reverseRange e5 aa bb) aa bb ((bb - 1) - (pv9 - aa))).1) : Nat) : Int))) (by kernel_rfl) (fun w => by kernel_rfl) ?_
              refine T.pure 109 (.bool (decide (((((Sort.partition lt (Sort.reverseRange e5 aa bb) aa bb ((bb - 1) - (pv9 - aa))).1) - aa : Nat) : Int) < ((bb - ((Sort.partition lt (Sort.reverseRange e5 aa bb) aa bb ((bb - 1) - (pv9 - aa))).1) : Nat) : Int)))) (by kernel_rfl) (fun w => by kernel_rfl) ?_
              refine T.nil ?_
              refine QN.seq ?_
              refine W.cond (decide (((((Sort.partition lt (Sort.reverseRange e5 aa bb) aa bb ((bb - 1) - (pv9 - aa))).1) - aa : Nat) : Int) < ((bb - ((Sort.partition lt (Sort.reverseRange e5 aa bb) aa bb ((bb - 1) - (pv9 - aa))).1) : Nat) : Int))) (by kernel_rfl) (fun h32 => ?_) (fun h32 => ?_)
              · skip
                have h32' := of_decide_eq_true h32
                refine W.seq ?_
                refine W.region [(0, false), (1, false), (2, false), (3, false)] (by kernel_rfl) ?_
                refine T.pure 110 (.int .i64 (((((Sort.partition lt (Sort.reverseRange e5 aa bb) aa bb ((bb - 1) - (pv9 - aa))).1) - aa : Nat) : Int))) (by kernel_rfl) (fun w => by kernel_rfl) ?_
                refine T.pure 111 (.int .i64 (((bb - aa : Nat) : Int) / 8)) (by kernel_rfl) (fun w => by kernel_rfl) ?_
                refine T.pure 112 (.bool (decide ((((bb - aa : Nat) : Int) / 8) ≤ ((((Sort.partition lt (Sort.reverseRange e5 aa bb) aa bb ((bb - 1) - (pv9 - aa))).1) - aa : Nat) : Int)))) (by kernel_rfl) (fun w => by kernel_rfl) ?_
                refine T.pure 8 (.bool (decide ((((bb - aa : Nat) : Int) / 8) ≤ ((((Sort.partition lt (Sort.reverseRange e5 aa bb) aa bb ((bb - 1) - (pv9 - aa))).1) - aa : Nat) : Int)))) (by kernel_rfl) (fun w => by kernel_rfl) ?_
                refine T.nil ?_
                refine QN.seq ?_
                refine W.seq ?_
                refine W.region [(0, false), (1, false), (2, false), (3, false), (4, false)] (by kernel_rfl) ?_
                refine T.loadR false 113 #[.func (.func kf) #[] lb, .func (.func sf) #[] sb] 91 b1 0 (by kernel_rfl) (by kernel_rfl) (by kernel_rfl) (by kernel_rfl) (fun w h => St.rangeM h #[.func (.func kf) #[] lb, .func (.func sf) #[] sb] (.tail _ (.head _)) (by kernel_rfl)) ?_
                refine T.pure 114 (.int .i64 ((aa : Int))) (by kernel_rfl) (fun w => by kernel_rfl) ?_
                refine T.pure 115 (.int .i64 ((((Sort.partition lt (Sort.reverseRange e5 aa bb) aa bb ((bb - 1) - (pv9 - aa))).1 : Nat) : Int))) (by kernel_rfl) (fun w => by kernel_rfl) ?_
                refine T.pure 116 (.int .i64 (lim - 1)) (by kernel_rfl) (fun w => by kernel_rfl) ?_
                have hsz4 : ((Sort.partition lt (Sort.reverseRange e5 aa bb) aa bb ((bb - 1) - (pv9 - aa))).2.2).size = n := m3.trans (P13.1.trans hdd)
                refine T.callG (β := Array α) 117 56 #[.agg #[.func (.func kf) #[] lb, .func (.func sf) #[] sb], .int .i64 ((aa : Int)), .int .i64 ((((Sort.partition lt (Sort.reverseRange e5 aa bb) aa bb ((bb - 1) - (pv9 - aa))).1 : Nat) : Int)), .int .i64 (lim - 1)] (fun gs => .tuple #[]) (fun gs => St w00 ((g, Obj.cells (rowb gs tail) ty (0, 0)) :: ((b1, Obj.cells #[.func (.func kf) #[] lb, .func (.func sf) #[] sb] 91 (0, 0)) :: (H' ++ H0)))) (fun gs => Sort.PermIn aa ((Sort.partition lt (Sort.reverseRange e5 aa bb) aa bb ((bb - 1) - (pv9 - aa))).1) ((Sort.partition lt (Sort.reverseRange e5 aa bb) aa bb ((bb - 1) - (pv9 - aa))).2.2) gs ∧ Sort.SortedIn lt aa ((Sort.partition lt (Sort.reverseRange e5 aa bb) aa bb ((bb - 1) - (pv9 - aa))).1) gs) (by kernel_rfl) (by kernel_rfl) ent56 ?_ (fun _ _ _ => trivial) ?_
                · exact fun w hw => ih ((Sort.partition lt (Sort.reverseRange e5 aa bb) aa bb ((bb - 1) - (pv9 - aa))).2.2) aa ((Sort.partition lt (Sort.reverseRange e5 aa bb) aa bb ((bb - 1) - (pv9 - aa))).1) (lim - 1) hsz4 (by omega) (by omega) (by omega) (by omega) (by omega) (m4) ((b1, Obj.cells #[.func (.func kf) #[] lb, .func (.func sf) #[] sb] 91 (0, 0)) :: H') w (show St w00 ((g, Obj.cells (rowb ((Sort.partition lt (Sort.reverseRange e5 aa bb) aa bb ((bb - 1) - (pv9 - aa))).2.2) tail) ty (0, 0)) :: ((b1, Obj.cells #[.func (.func kf) #[] lb, .func (.func sf) #[] sb] 91 (0, 0)) :: (H' ++ H0))) w from (hw))
                rintro e33 hp_
                have hp34 : Sort.PermIn aa ((Sort.partition lt (Sort.reverseRange e5 aa bb) aa bb ((bb - 1) - (pv9 - aa))).1) ((Sort.partition lt (Sort.reverseRange e5 aa bb) aa bb ((bb - 1) - (pv9 - aa))).2.2) e33 ∧ Sort.SortedIn lt aa ((Sort.partition lt (Sort.reverseRange e5 aa bb) aa bb ((bb - 1) - (pv9 - aa))).1) e33 := hp_
                refine T.nil ?_
                refine QN.seq ?_
                refine W.region [(0, false), (1, false), (2, false)] (by kernel_rfl) ?_
                refine T.pure 118 (.int .i64 ((((Sort.partition lt (Sort.reverseRange e5 aa bb) aa bb ((bb - 1) - (pv9 - aa))).1 : Nat) : Int))) (by kernel_rfl) (fun w => by kernel_rfl) ?_
                refine T.pureE 119 (.int .i64 (IntKind.i64.wrap ((((Sort.partition lt (Sort.reverseRange e5 aa bb) aa bb ((bb - 1) - (pv9 - aa))).1 : Nat) : Int) + 1))) (.int .i64 ((((Sort.partition lt (Sort.reverseRange e5 aa bb) aa bb ((bb - 1) - (pv9 - aa))).1 : Nat) : Int) + 1)) (by kernel_rfl) (fun w => by kernel_rfl) (wrap_int (by omega) (by omega)) ?_
                refine T.pureE 1 (.int .i64 ((((Sort.partition lt (Sort.reverseRange e5 aa bb) aa bb ((bb - 1) - (pv9 - aa))).1 : Nat) : Int) + 1)) (.int .i64 (((((Sort.partition lt (Sort.reverseRange e5 aa bb) aa bb ((bb - 1) - (pv9 - aa))).1) + 1 : Nat) : Int))) (by kernel_rfl) (fun w => by kernel_rfl) (int_eq (by omega)) ?_
                refine T.nil ?_
                refine QN.blkNormal ?_
                refine QN.back ((Sort.partition lt (Sort.reverseRange e5 aa bb) aa bb ((bb - 1) - (pv9 - aa))).1 + 1, bb, e33, lim - 1, decide ((((bb - aa : Nat) : Int) / 8) ≤ ((((Sort.partition lt (Sort.reverseRange e5 aa bb) aa bb ((bb - 1) - (pv9 - aa))).1) - aa : Nat) : Int)), (Sort.partition lt (Sort.reverseRange e5 aa bb) aa bb ((bb - 1) - (pv9 - aa))).2.1) ?_ ?_ (by kernel_rfl) (fun w h => h.perm ((((List.Perm.refl _).cons _).trans (List.Perm.swap _ _ _)).trans ((List.Perm.refl _).cons _)))
                · show a ≤ ((Sort.partition lt (Sort.reverseRange e5 aa bb) aa bb ((bb - 1) - (pv9 - aa))).1 + 1) ∧ bb ≤ b ∧ ((Sort.partition lt (Sort.reverseRange e5 aa bb) aa bb ((bb - 1) - (pv9 - aa))).1 + 1) ≤ bb ∧ e33.size = n ∧ Sort.Below lt ((Sort.partition lt (Sort.reverseRange e5 aa bb) aa bb ((bb - 1) - (pv9 - aa))).1 + 1) bb e33 ∧ 0 ≤ (lim - 1) ∧ (lim - 1) ≤ 1000 ∧ ∀ R, Sort.PermIn ((Sort.partition lt (Sort.reverseRange e5 aa bb) aa bb ((bb - 1) - (pv9 - aa))).1 + 1) bb e33 R → Sort.SortedIn lt ((Sort.partition lt (Sort.reverseRange e5 aa bb) aa bb ((bb - 1) - (pv9 - aa))).1 + 1) bb R → Sort.PermIn a b d R ∧ Sort.SortedIn lt a b R
                  exact ⟨by omega, by omega, by omega, hp34.1.1.trans hsz4, (m6 e33 hp34.1 hp34.2).1, by omega, by omega, fun R h1 h2 => hfin R (Sort.permIn_trans _ _ _ _ _ P13 ((m6 e33 hp34.1 hp34.2).2 R h1 h2).1) ((m6 e33 hp34.1 hp34.2).2 R h1 h2).2⟩
                · show bb - ((Sort.partition lt (Sort.reverseRange e5 aa bb) aa bb ((bb - 1) - (pv9 - aa))).1 + 1) < bb - aa; omega
              · skip
                have h32' := of_decide_eq_false h32
                refine W.seq ?_
                refine W.region [(0, false), (1, false), (2, false), (3, false)] (by kernel_rfl) ?_
                refine T.pure 120 (.int .i64 (((bb - ((Sort.partition lt (Sort.reverseRange e5 aa bb) aa bb ((bb - 1) - (pv9 - aa))).1) : Nat) : Int))) (by kernel_rfl) (fun w => by kernel_rfl) ?_
                refine T.pure 121 (.int .i64 (((bb - aa : Nat) : Int) / 8)) (by kernel_rfl) (fun w => by kernel_rfl) ?_
                refine T.pure 122 (.bool (decide ((((bb - aa : Nat) : Int) / 8) ≤ ((bb - ((Sort.partition lt (Sort.reverseRange e5 aa bb) aa bb ((bb - 1) - (pv9 - aa))).1) : Nat) : Int)))) (by kernel_rfl) (fun w => by kernel_rfl) ?_
                refine T.pure 8 (.bool (decide ((((bb - aa : Nat) : Int) / 8) ≤ ((bb - ((Sort.partition lt (Sort.reverseRange e5 aa bb) aa bb ((bb - 1) - (pv9 - aa))).1) : Nat) : Int)))) (by kernel_rfl) (fun w => by kernel_rfl) ?_
                refine T.nil ?_
                refine QN.seq ?_
                refine W.seq ?_
                refine W.region [(0, false), (1, false), (2, false), (3, false), (4, false), (5, false)] (by kernel_rfl) ?_
                refine T.loadR false 123 #[.func (.func kf) #[] lb, .func (.func sf) #[] sb] 91 b1 0 (by kernel_rfl) (by kernel_rfl) (by kernel_rfl) (by kernel_rfl) (fun w h => St.rangeM h #[.func (.func kf) #[] lb, .func (.func sf) #[] sb] (.tail _ (.head _)) (by kernel_rfl)) ?_
                refine T.pure 124 (.int .i64 ((((Sort.partition lt (Sort.reverseRange e5 aa bb) aa bb ((bb - 1) - (pv9 - aa))).1 : Nat) : Int))) (by kernel_rfl) (fun w => by kernel_rfl) ?_
                refine T.pureE 125 (.int .i64 (IntKind.i64.wrap ((((Sort.partition lt (Sort.reverseRange e5 aa bb) aa bb ((bb - 1) - (pv9 - aa))).1 : Nat) : Int) + 1))) (.int .i64 ((((Sort.partition lt (Sort.reverseRange e5 aa bb) aa bb ((bb - 1) - (pv9 - aa))).1 : Nat) : Int) + 1)) (by kernel_rfl) (fun w => by kernel_rfl) (wrap_int (by omega) (by omega)) ?_
                refine T.pure 126 (.int .i64 ((bb : Int))) (by kernel_rfl) (fun w => by kernel_rfl) ?_
                refine T.pure 127 (.int .i64 (lim - 1)) (by kernel_rfl) (fun w => by kernel_rfl) ?_
                have hsz4 : ((Sort.partition lt (Sort.reverseRange e5 aa bb) aa bb ((bb - 1) - (pv9 - aa))).2.2).size = n := m3.trans (P13.1.trans hdd)
                refine T.callG (β := Array α) 128 56 #[.agg #[.func (.func kf) #[] lb, .func (.func sf) #[] sb], .int .i64 ((((Sort.partition lt (Sort.reverseRange e5 aa bb) aa bb ((bb - 1) - (pv9 - aa))).1 : Nat) : Int) + 1), .int .i64 ((bb : Int)), .int .i64 (lim - 1)] (fun gs => .tuple #[]) (fun gs => St w00 ((g, Obj.cells (rowb gs tail) ty (0, 0)) :: ((b1, Obj.cells #[.func (.func kf) #[] lb, .func (.func sf) #[] sb] 91 (0, 0)) :: (H' ++ H0)))) (fun gs => Sort.PermIn (((Sort.partition lt (Sort.reverseRange e5 aa bb) aa bb ((bb - 1) - (pv9 - aa))).1) + 1) bb ((Sort.partition lt (Sort.reverseRange e5 aa bb) aa bb ((bb - 1) - (pv9 - aa))).2.2) gs ∧ Sort.SortedIn lt (((Sort.partition lt (Sort.reverseRange e5 aa bb) aa bb ((bb - 1) - (pv9 - aa))).1) + 1) bb gs) (by kernel_rfl) (by kernel_rfl) ent56 ?_ (fun _ _ _ => trivial) ?_
                · exact fun w hw => ih ((Sort.partition lt (Sort.reverseRange e5 aa bb) aa bb ((bb - 1) - (pv9 - aa))).2.2) (((Sort.partition lt (Sort.reverseRange e5 aa bb) aa bb ((bb - 1) - (pv9 - aa))).1) + 1) bb (lim - 1) hsz4 (by omega) (by omega) (by omega) (by omega) (by omega) (m5) ((b1, Obj.cells #[.func (.func kf) #[] lb, .func (.func sf) #[] sb] 91 (0, 0)) :: H') w (show St w00 ((g, Obj.cells (rowb ((Sort.partition lt (Sort.reverseRange e5 aa bb) aa bb ((bb - 1) - (pv9 - aa))).2.2) tail) ty (0, 0)) :: ((b1, Obj.cells #[.func (.func kf) #[] lb, .func (.func sf) #[] sb] 91 (0, 0)) :: (H' ++ H0))) w from (hw))
                rintro e35 hp_
                have hp36 : Sort.PermIn (((Sort.partition lt (Sort.reverseRange e5 aa bb) aa bb ((bb - 1) - (pv9 - aa))).1) + 1) bb ((Sort.partition lt (Sort.reverseRange e5 aa bb) aa bb ((bb - 1) - (pv9 - aa))).2.2) e35 ∧ Sort.SortedIn lt (((Sort.partition lt (Sort.reverseRange e5 aa bb) aa bb ((bb - 1) - (pv9 - aa))).1) + 1) bb e35 := hp_
                refine T.nil ?_
                refine QN.seq ?_
                refine W.region [(0, false), (1, false)] (by kernel_rfl) ?_
                refine T.pure 129 (.int .i64 ((((Sort.partition lt (Sort.reverseRange e5 aa bb) aa bb ((bb - 1) - (pv9 - aa))).1 : Nat) : Int))) (by kernel_rfl) (fun w => by kernel_rfl) ?_
                refine T.pure 2 (.int .i64 ((((Sort.partition lt (Sort.reverseRange e5 aa bb) aa bb ((bb - 1) - (pv9 - aa))).1 : Nat) : Int))) (by kernel_rfl) (fun w => by kernel_rfl) ?_
                refine T.nil ?_
                refine QN.blkNormal ?_
                refine QN.back (aa, (Sort.partition lt (Sort.reverseRange e5 aa bb) aa bb ((bb - 1) - (pv9 - aa))).1, e35, lim - 1, decide ((((bb - aa : Nat) : Int) / 8) ≤ ((bb - ((Sort.partition lt (Sort.reverseRange e5 aa bb) aa bb ((bb - 1) - (pv9 - aa))).1) : Nat) : Int)), (Sort.partition lt (Sort.reverseRange e5 aa bb) aa bb ((bb - 1) - (pv9 - aa))).2.1) ?_ ?_ (by kernel_rfl) (fun w h => h.perm ((((List.Perm.refl _).cons _).trans (List.Perm.swap _ _ _)).trans ((List.Perm.refl _).cons _)))
                · show a ≤ aa ∧ ((Sort.partition lt (Sort.reverseRange e5 aa bb) aa bb ((bb - 1) - (pv9 - aa))).1) ≤ b ∧ aa ≤ ((Sort.partition lt (Sort.reverseRange e5 aa bb) aa bb ((bb - 1) - (pv9 - aa))).1) ∧ e35.size = n ∧ Sort.Below lt aa ((Sort.partition lt (Sort.reverseRange e5 aa bb) aa bb ((bb - 1) - (pv9 - aa))).1) e35 ∧ 0 ≤ (lim - 1) ∧ (lim - 1) ≤ 1000 ∧ ∀ R, Sort.PermIn aa ((Sort.partition lt (Sort.reverseRange e5 aa bb) aa bb ((bb - 1) - (pv9 - aa))).1) e35 R → Sort.SortedIn lt aa ((Sort.partition lt (Sort.reverseRange e5 aa bb) aa bb ((bb - 1) - (pv9 - aa))).1) R → Sort.PermIn a b d R ∧ Sort.SortedIn lt a b R
                  exact ⟨by omega, by omega, by omega, hp36.1.1.trans hsz4, (m7 e35 hp36.1 hp36.2).1, by omega, by omega, fun R h1 h2 => hfin R (Sort.permIn_trans _ _ _ _ _ P13 ((m7 e35 hp36.1 hp36.2).2 R h1 h2).1) ((m7 e35 hp36.1 hp36.2).2 R h1 h2).2⟩
                · show ((Sort.partition lt (Sort.reverseRange e5 aa bb) aa bb ((bb - 1) - (pv9 - aa))).1) - aa < bb - aa; omega
        · skip
          have h12' := ne_of_beq_false h12
          refine W.skip ?_
          refine QN.seq ?_
          refine W.seq ?_
          refine W.seq ?_
          refine W.region [(0, false), (1, false), (2, false), (3, false), (4, false), (5, false), (6, false), (7, false)] (by kernel_rfl) ?_
          refine T.pure 61 (.bool (wb)) (by kernel_rfl) (fun w => by kernel_rfl) ?_
          refine T.pure 62 (.bool (wb)) (by kernel_rfl) (fun w => by kernel_rfl) ?_
          refine T.blk [(2, false)] [(3, false), (4, false), (5, false), (6, false), (7, false)] 1 true (wb) 62 63 (.bool (wp)) (by kernel_rfl) (by kernel_rfl) (by kernel_rfl) (fun hg37 => ?_) ?_
          · have hg37_ := hg37
            refine T.pure 63 (.bool (wp)) (by kernel_rfl) (fun w => by kernel_rfl) ?_
            exact T.blkEnd (by kernel_rfl) (fun w h => h)
          refine T.and 64 (wb) (wp) (by kernel_rfl) (by kernel_rfl) ?_
          refine T.pure 65 (.bool (wb && wp)) (by kernel_rfl) (fun w => by kernel_rfl) ?_
          refine T.blk [(5, false), (6, false)] [(7, false)] 4 true (wb && wp) 65 67 (.bool (hint10 == 1)) (by kernel_rfl) (by kernel_rfl) (by kernel_rfl) (fun hg38 => ?_) ?_
          · have hg38_ := hg38
            have hg38l := (Bool.and_eq_true_iff.1 hg38).1
            have hg38r := (Bool.and_eq_true_iff.1 hg38).2
            refine T.pure 66 (.int .i64 (hint10)) (by kernel_rfl) (fun w => by kernel_rfl) ?_
            refine T.pure 67 (.bool (hint10 == 1)) (by kernel_rfl) (fun w => by kernel_rfl) ?_
            exact T.blkEnd (by kernel_rfl) (fun w h => h)
          refine T.and 68 (wb && wp) (hint10 == 1) (by kernel_rfl) (by kernel_rfl) ?_
          refine T.nil ?_
          refine QN.seq ?_
          refine W.cond ((wb && wp) && (hint10 == 1)) (by kernel_rfl) (fun h39 => ?_) (fun h39 => ?_)
          · skip
            have h39l := (Bool.and_eq_true_iff.1 h39).1
            have h39r := (Bool.and_eq_true_iff.1 h39).2
            have h39ll := (Bool.and_eq_true_iff.1 h39l).1
            have h39lr := (Bool.and_eq_true_iff.1 h39l).2
            have h39r' := eq_of_beq h39r
            refine W.seq ?_
            refine W.region [(0, false), (1, false), (2, false), (3, false)] (by kernel_rfl) ?_
            refine T.loadR false 69 #[.func (.func kf) #[] lb, .func (.func sf) #[] sb] 91 b1 0 (by kernel_rfl) (by kernel_rfl) (by kernel_rfl) (by kernel_rfl) (fun w h => St.rangeM h #[.func (.func kf) #[] lb, .func (.func sf) #[] sb] (.tail _ (.head _)) (by kernel_rfl)) ?_
            refine T.pure 70 (.int .i64 ((aa : Int))) (by kernel_rfl) (fun w => by kernel_rfl) ?_
            refine T.pure 71 (.int .i64 ((bb : Int))) (by kernel_rfl) (fun w => by kernel_rfl) ?_
            have hsz : e5.size = n := P7.1.trans hdd
            have hpi := Sort.partialInsertionSort_holds (lt := lt) hS.swo e5 aa bb (by omega) (by omega) B8
            have P40 : Sort.PermIn aa bb dd ((Sort.partialInsertionSort lt e5 aa bb).1) := Sort.permIn_trans _ _ _ _ _ P7 (hpi.1)
            have hz42 : ((Sort.partialInsertionSort lt e5 aa bb).1).size = n := P40.1.trans hdd
            have B41 : Sort.Below lt aa bb ((Sort.partialInsertionSort lt e5 aa bb).1) := hB.perm (by omega) P40
            refine T.callW 72 82 #[.agg #[.func (.func kf) #[] lb, .func (.func sf) #[] sb], .int .i64 ((aa : Int)), .int .i64 ((bb : Int))] (.bool ((Sort.partialInsertionSort lt e5 aa bb).2)) (St w00 ((g, Obj.cells (rowb ((Sort.partialInsertionSort lt e5 aa bb).1) tail) ty (0, 0)) :: ((b1, Obj.cells #[.func (.func kf) #[] lb, .func (.func sf) #[] sb] 91 (0, 0)) :: (H' ++ H0)))) (by kernel_rfl) (by kernel_rfl) ent82 ?_ (fun _ _ => trivial) ?_
            · exact fun w hw => partial_c hS hn e5 aa bb hsz (by omega) (by omega) ((b1, Obj.cells #[.func (.func kf) #[] lb, .func (.func sf) #[] sb] 91 (0, 0)) :: H') w (show St w00 ((g, Obj.cells (rowb e5 tail) ty (0, 0)) :: ((b1, Obj.cells #[.func (.func kf) #[] lb, .func (.func sf) #[] sb] 91 (0, 0)) :: (H' ++ H0))) w from (hw))
            refine T.nil ?_
            refine QN.seq ?_
            refine W.cond ((Sort.partialInsertionSort lt e5 aa bb).2) (by kernel_rfl) (fun h43 => ?_) (fun h43 => ?_)
            · skip
              refine W.ret ?_
              refine QN.thenRet ?_
              refine QN.blkRet ?_
              refine QN.thenRet ?_
              refine QN.blkRet ?_
              refine QN.done0 (.inl rfl) rfl (fun w hw => ?_)
              exact ⟨_, hfin _ P40 (hpi.2 h43), rfl, ((hw.perm (List.Perm.refl _)).part (((List.Sublist.refl _).cons _).cons_cons _))⟩
            · skip
              refine W.skip ?_
              refine QN.seq ?_
              refine W.seq ?_
              refine W.seq ?_
              refine W.region [(0, false), (1, false), (2, false), (3, false), (4, false), (5, false), (6, false), (7, false), (8, false), (9, false), (10, false)] (by kernel_rfl) ?_
              refine T.pure 73 (.int .i64 ((aa : Int))) (by kernel_rfl) (fun w => by kernel_rfl) ?_
              refine T.pure 74 (.bool (decide (0 < (aa : Int)))) (by kernel_rfl) (fun w => by kernel_rfl) ?_
              refine T.pure 75 (.bool (decide (0 < (aa : Int)))) (by kernel_rfl) (fun w => by kernel_rfl) ?_
              refine T.blk [(3, false), (4, false), (5, false), (6, false), (7, false), (8, false), (9, false)] [(10, false)] 2 true (decide (0 < (aa : Int))) 75 82 (.bool (!(lt ((Sort.partialInsertionSort lt e5 aa bb).1)[(aa - 1)]! ((Sort.partialInsertionSort lt e5 aa bb).1)[pv9]!))) (by kernel_rfl) (by kernel_rfl) (by kernel_rfl) (fun hg44 => ?_) ?_
              · have hg44_ := hg44
                have hg44' := of_decide_eq_true hg44
                refine T.pure 76 (.pointer (some ⟨b1, 0, none⟩)) (by kernel_rfl) (fun w => by kernel_rfl) ?_
                refine T.load false 77 (.func (.func kf) #[] lb) 67 b1 0 (by kernel_rfl) (by kernel_rfl) (by kernel_rfl) (fun w h => St.cellM h (.tail _ (.head _)) (by kernel_rfl)) ?_
                refine T.pure 78 (.int .i64 ((aa : Int))) (by kernel_rfl) (fun w => by kernel_rfl) ?_
                refine T.pureE 79 (.int .i64 (IntKind.i64.wrap ((aa : Int) - 1))) (.int .i64 ((aa : Int) - 1)) (by kernel_rfl) (fun w => by kernel_rfl) (wrap_int (by omega) (by omega)) ?_
                refine T.pure 80 (.int .i64 ((pv9 : Int))) (by kernel_rfl) (fun w => by kernel_rfl) ?_
                refine T.callP 81 kf (#[.int .i64 ((aa : Int) - 1), .int .i64 ((pv9 : Int))] ++ lb) (.bool (lt ((Sort.partialInsertionSort lt e5 aa bb).1)[(aa - 1)]! ((Sort.partialInsertionSort lt e5 aa bb).1)[pv9]!)) (by kernel_rfl) (by kernel_rfl) hS.ent ?_ (fun _ _ => trivial) ?_
                · exact fun w hw => hS.less ((b1, Obj.cells #[.func (.func kf) #[] lb, .func (.func sf) #[] sb] 91 (0, 0)) :: H') ((Sort.partialInsertionSort lt e5 aa bb).1) w ((aa : Int) - 1) ((pv9 : Int)) (aa - 1) pv9 (by first | assumption | (simp only [Sort.size_swp]; assumption)) (by omega) (by omega) (by omega) (by omega) (show St w00 ((g, Obj.cells (rowb ((Sort.partialInsertionSort lt e5 aa bb).1) tail) ty (0, 0)) :: ((b1, Obj.cells #[.func (.func kf) #[] lb, .func (.func sf) #[] sb] 91 (0, 0)) :: (H' ++ H0))) w from (hw))
                refine T.pure 82 (.bool (!(lt ((Sort.partialInsertionSort lt e5 aa bb).1)[(aa - 1)]! ((Sort.partialInsertionSort lt e5 aa bb).1)[pv9]!))) (by kernel_rfl) (fun w => by kernel_rfl) ?_
                exact T.blkEnd (by kernel_rfl) (fun w h => h)
              refine T.and 83 (decide (0 < (aa : Int))) (!(lt ((Sort.partialInsertionSort lt e5 aa bb).1)[(aa - 1)]! ((Sort.partialInsertionSort lt e5 aa bb).1)[pv9]!)) (by kernel_rfl) (by kernel_rfl) ?_
              refine T.nil ?_
              refine QN.seq ?_
              refine W.cond ((decide (0 < (aa : Int))) && (!(lt ((Sort.partialInsertionSort lt e5 aa bb).1)[(aa - 1)]! ((Sort.partialInsertionSort lt e5 aa bb).1)[pv9]!))) (by kernel_rfl) (fun h45 => ?_) (fun h45 => ?_)
              · skip
                have h45l := (Bool.and_eq_true_iff.1 h45).1
                have h45r := (Bool.and_eq_true_iff.1 h45).2
                have h45l' := of_decide_eq_true h45l
                have h45rn := not_eq_true h45r
                refine W.seq ?_
                refine W.region [(0, false), (1, false), (2, false), (3, false), (4, false), (5, false)] (by kernel_rfl) ?_
                refine T.loadR false 84 #[.func (.func kf) #[] lb, .func (.func sf) #[] sb] 91 b1 0 (by kernel_rfl) (by kernel_rfl) (by kernel_rfl) (by kernel_rfl) (fun w h => St.rangeM h #[.func (.func kf) #[] lb, .func (.func sf) #[] sb] (.tail _ (.head _)) (by kernel_rfl)) ?_
                refine T.pure 85 (.int .i64 ((aa : Int))) (by kernel_rfl) (fun w => by kernel_rfl) ?_
                refine T.pure 86 (.int .i64 ((bb : Int))) (by kernel_rfl) (fun w => by kernel_rfl) ?_
                refine T.pure 87 (.int .i64 ((pv9 : Int))) (by kernel_rfl) (fun w => by kernel_rfl) ?_
                have hsz : ((Sort.partialInsertionSort lt e5 aa bb).1).size = n := P40.1.trans hdd
                have hre := Sort.round_eq hS.swo (Sort.partitionEqual_holds lt) (d3 := ((Sort.partialInsertionSort lt e5 aa bb).1)) (a := aa) (b := bb) (pivot := pv9) (mid := (Sort.partitionEqual lt ((Sort.partialInsertionSort lt e5 aa bb).1) aa bb pv9).1) (d4 := (Sort.partitionEqual lt ((Sort.partialInsertionSort lt e5 aa bb).1) aa bb pv9).2) (by omega) (by omega) (by omega) (by omega) B41 (not_eq_true h45r) rfl
                obtain ⟨m1, m2, m3, m4, m5⟩ := hre
                refine T.callW 88 83 #[.agg #[.func (.func kf) #[] lb, .func (.func sf) #[] sb], .int .i64 ((aa : Int)), .int .i64 ((bb : Int)), .int .i64 ((pv9 : Int))] (.int .i64 ((((Sort.partitionEqual lt ((Sort.partialInsertionSort lt e5 aa bb).1) aa bb pv9).1 : Nat) : Int))) (St w00 ((g, Obj.cells (rowb ((Sort.partitionEqual lt ((Sort.partialInsertionSort lt e5 aa bb).1) aa bb pv9).2) tail) ty (0, 0)) :: ((b1, Obj.cells #[.func (.func kf) #[] lb, .func (.func sf) #[] sb] 91 (0, 0)) :: (H' ++ H0)))) (by kernel_rfl) (by kernel_rfl) ent83 ?_ (fun _ _ => trivial) ?_
                · exact fun w hw => partEq_c hS hn ((Sort.partialInsertionSort lt e5 aa bb).1) aa bb pv9 hsz (by omega) (by omega) (by omega) ((b1, Obj.cells #[.func (.func kf) #[] lb, .func (.func sf) #[] sb] 91 (0, 0)) :: H') w (show St w00 ((g, Obj.cells (rowb ((Sort.partialInsertionSort lt e5 aa bb).1) tail) ty (0, 0)) :: ((b1, Obj.cells #[.func (.func kf) #[] lb, .func (.func sf) #[] sb] 91 (0, 0)) :: (H' ++ H0))) w from (hw))
                refine T.pureE 13 (.int .i64 ((((Sort.partitionEqual lt ((Sort.partialInsertionSort lt e5 aa bb).1) aa bb pv9).1 : Nat) : Int))) (.int .i64 ((((Sort.partitionEqual lt ((Sort.partialInsertionSort lt e5 aa bb).1) aa bb pv9).1 : Nat) : Int))) (by kernel_rfl) (fun w => by kernel_rfl) (int_eq (by omega)) ?_
                refine T.nil ?_
                refine QN.seq ?_
                refine W.seq ?_
                refine W.region [(0, false), (1, false)] (by kernel_rfl) ?_
                refine T.pure 89 (.int .i64 ((((Sort.partitionEqual lt ((Sort.partialInsertionSort lt e5 aa bb).1) aa bb pv9).1 : Nat) : Int))) (by kernel_rfl) (fun w => by kernel_rfl) ?_
                refine T.pureE 1 (.int .i64 ((((Sort.partitionEqual lt ((Sort.partialInsertionSort lt e5 aa bb).1) aa bb pv9).1 : Nat) : Int))) (.int .i64 ((((Sort.partitionEqual lt ((Sort.partialInsertionSort lt e5 aa bb).1) aa bb pv9).1 : Nat) : Int))) (by kernel_rfl) (fun w => by kernel_rfl) (int_eq (by omega)) ?_
                refine T.nil ?_
                refine QN.seq ?_
                refine W.exit ?_
                refine QN.thenExit ?_
                refine QN.blkHit ?_
                refine QN.back (((Sort.partitionEqual lt ((Sort.partialInsertionSort lt e5 aa bb).1) aa bb pv9).1), bb, (Sort.partitionEqual lt ((Sort.partialInsertionSort lt e5 aa bb).1) aa bb pv9).2, lim - 1, wb, wp) ?_ ?_ (by kernel_rfl) (fun w h => h.perm ((((List.Perm.refl _).cons _).trans (List.Perm.swap _ _ _)).trans ((List.Perm.refl _).cons _)))
                · show a ≤ ((Sort.partitionEqual lt ((Sort.partialInsertionSort lt e5 aa bb).1) aa bb pv9).1) ∧ bb ≤ b ∧ ((Sort.partitionEqual lt ((Sort.partialInsertionSort lt e5 aa bb).1) aa bb pv9).1) ≤ bb ∧ ((Sort.partitionEqual lt ((Sort.partialInsertionSort lt e5 aa bb).1) aa bb pv9).2).size = n ∧ Sort.Below lt ((Sort.partitionEqual lt ((Sort.partialInsertionSort lt e5 aa bb).1) aa bb pv9).1) bb ((Sort.partitionEqual lt ((Sort.partialInsertionSort lt e5 aa bb).1) aa bb pv9).2) ∧ 0 ≤ (lim - 1) ∧ (lim - 1) ≤ 1000 ∧ ∀ R, Sort.PermIn ((Sort.partitionEqual lt ((Sort.partialInsertionSort lt e5 aa bb).1) aa bb pv9).1) bb ((Sort.partitionEqual lt ((Sort.partialInsertionSort lt e5 aa bb).1) aa bb pv9).2) R → Sort.SortedIn lt ((Sort.partitionEqual lt ((Sort.partialInsertionSort lt e5 aa bb).1) aa bb pv9).1) bb R → Sort.PermIn a b d R ∧ Sort.SortedIn lt a b R
                  exact ⟨by omega, by omega, by omega, m3.trans (P40.1.trans hdd), m4, by omega, by omega, fun R h1 h2 => hfin R (Sort.permIn_trans _ _ _ _ _ P40 (m5 R h1 h2).1) (m5 R h1 h2).2⟩
                · show bb - ((Sort.partitionEqual lt ((Sort.partialInsertionSort lt e5 aa bb).1) aa bb pv9).1) < bb - aa; omega
              · skip
                refine W.skip ?_
                refine QN.seq ?_
                refine W.seq ?_
                refine W.region [(0, false), (1, false), (2, false), (3, false), (4, false), (5, false), (6, false), (7, false), (8, false), (9, false)] (by kernel_rfl) ?_
                refine T.loadR false 91 #[.func (.func kf) #[] lb, .func (.func sf) #[] sb] 91 b1 0 (by kernel_rfl) (by kernel_rfl) (by kernel_rfl) (by kernel_rfl) (fun w h => St.rangeM h #[.func (.func kf) #[] lb, .func (.func sf) #[] sb] (.tail _ (.head _)) (by kernel_rfl)) ?_
                refine T.pure 92 (.int .i64 ((aa : Int))) (by kernel_rfl) (fun w => by kernel_rfl) ?_
                refine T.pure 93 (.int .i64 ((bb : Int))) (by kernel_rfl) (fun w => by kernel_rfl) ?_
                refine T.pure 94 (.int .i64 ((pv9 : Int))) (by kernel_rfl) (fun w => by kernel_rfl) ?_
                have hsz : ((Sort.partialInsertionSort lt e5 aa bb).1).size = n := P40.1.trans hdd
                have hrp := Sort.round_part hS.swo (Sort.partition_holds lt) (d3 := ((Sort.partialInsertionSort lt e5 aa bb).1)) (a := aa) (b := bb) (pivot := pv9) (mid := (Sort.partition lt ((Sort.partialInsertionSort lt e5 aa bb).1) aa bb pv9).1) (ap := (Sort.partition lt ((Sort.partialInsertionSort lt e5 aa bb).1) aa bb pv9).2.1) (d4 := (Sort.partition lt ((Sort.partialInsertionSort lt e5 aa bb).1) aa bb pv9).2.2) (by omega) (by omega) (by omega) B41 rfl
                obtain ⟨m1, m2, m3, m4, m5, m6, m7⟩ := hrp
                refine T.callW 95 84 #[.agg #[.func (.func kf) #[] lb, .func (.func sf) #[] sb], .int .i64 ((aa : Int)), .int .i64 ((bb : Int)), .int .i64 ((pv9 : Int))] (.tuple #[.int .i64 ((((Sort.partition lt ((Sort.partialInsertionSort lt e5 aa bb).1) aa bb pv9).1 : Nat) : Int)), .bool ((Sort.partition lt ((Sort.partialInsertionSort lt e5 aa bb).1) aa bb pv9).2.1)]) (St w00 ((g, Obj.cells (rowb ((Sort.partition lt ((Sort.partialInsertionSort lt e5 aa bb).1) aa bb pv9).2.2) tail) ty (0, 0)) :: ((b1, Obj.cells #[.func (.func kf) #[] lb, .func (.func sf) #[] sb] 91 (0, 0)) :: (H' ++ H0)))) (by kernel_rfl) (by kernel_rfl) ent84 ?_ (fun _ _ => trivial) ?_
                · exact fun w hw => part_c hS hn ((Sort.partialInsertionSort lt e5 aa bb).1) aa bb pv9 hsz (by omega) (by omega) (by omega) ((b1, Obj.cells #[.func (.func kf) #[] lb, .func (.func sf) #[] sb] 91 (0, 0)) :: H') w (show St w00 ((g, Obj.cells (rowb ((Sort.partialInsertionSort lt e5 aa bb).1) tail) ty (0, 0)) :: ((b1, Obj.cells #[.func (.func kf) #[] lb, .func (.func sf) #[] sb] 91 (0, 0)) :: (H' ++ H0))) w from (hw))
                refine T.pure 90 (.tuple #[.int .i64 ((((Sort.partition lt ((Sort.partialInsertionSort lt e5 aa bb).1) aa bb pv9).1 : Nat) : Int)), .bool ((Sort.partition lt ((Sort.partialInsertionSort lt e5 aa bb).1) aa bb pv9).2.1)]) (by kernel_rfl) (fun w => by kernel_rfl) ?_
                refine T.pure 96 (.int .i64 ((((Sort.partition lt ((Sort.partialInsertionSort lt e5 aa bb).1) aa bb pv9).1 : Nat) : Int))) (by kernel_rfl) (fun w => by kernel_rfl) ?_
                refine T.pure 97 (.bool ((Sort.partition lt ((Sort.partialInsertionSort lt e5 aa bb).1) aa bb pv9).2.1)) (by kernel_rfl) (fun w => by kernel_rfl) ?_
                refine T.pureE 14 (.int .i64 ((((Sort.partition lt ((Sort.partialInsertionSort lt e5 aa bb).1) aa bb pv9).1 : Nat) : Int))) (.int .i64 ((((Sort.partition lt ((Sort.partialInsertionSort lt e5 aa bb).1) aa bb pv9).1 : Nat) : Int))) (by kernel_rfl) (fun w => by kernel_rfl) (int_eq (by omega)) ?_
                refine T.pure 15 (.bool ((Sort.partition lt ((Sort.partialInsertionSort lt e5 aa bb).1) aa bb pv9).2.1)) (by kernel_rfl) (fun w => by kernel_rfl) ?_
                refine T.nil ?_
                refine QN.seq ?_
                refine W.seq ?_
                refine W.region [(0, false), (1, false)] (by kernel_rfl) ?_
                refine T.pure 98 (.bool ((Sort.partition lt ((Sort.partialInsertionSort lt e5 aa bb).1) aa bb pv9).2.1)) (by kernel_rfl) (fun w => by kernel_rfl) ?_
                refine T.pure 9 (.bool ((Sort.partition lt ((Sort.partialInsertionSort lt e5 aa bb).1) aa bb pv9).2.1)) (by kernel_rfl) (fun w => by kernel_rfl) ?_
                refine T.nil ?_
                refine QN.seq ?_
                refine W.seq ?_
                refine W.region [(0, false), (1, false), (2, false), (3, false), (4, false), (5, false), (6, false), (7, false)] (by kernel_rfl) ?_
                refine T.pure 99 (.int .i64 ((((Sort.partition lt ((Sort.partialInsertionSort lt e5 aa bb).1) aa bb pv9).1 : Nat) : Int))) (by kernel_rfl) (fun w => by kernel_rfl) ?_
                refine T.pure 100 (.int .i64 ((aa : Int))) (by kernel_rfl) (fun w => by kernel_rfl) ?_
                refine T.pureE 101 (.int .i64 (IntKind.i64.wrap ((((Sort.partition lt ((Sort.partialInsertionSort lt e5 aa bb).1) aa bb pv9).1 : Nat) : Int) - (aa : Int)))) (.int .i64 ((((Sort.partition lt ((Sort.partialInsertionSort lt e5 aa bb).1) aa bb pv9).1 : Nat) : Int) - (aa : Int))) (by kernel_rfl) (fun w => by kernel_rfl) (wrap_int (by omega) (by omega)) ?_
                refine T.pure 102 (.int .i64 ((bb : Int))) (by kernel_rfl) (fun w => by kernel_rfl) ?_
                refine T.pure 103 (.int .i64 ((((Sort.partition lt ((Sort.partialInsertionSort lt e5 aa bb).1) aa bb pv9).1 : Nat) : Int))) (by kernel_rfl) (fun w => by kernel_rfl) ?_
                refine T.pureE 104 (.int .i64 (IntKind.i64.wrap ((bb : Int) - (((Sort.partition lt ((Sort.partialInsertionSort lt e5 aa bb).1) aa bb pv9).1 : Nat) : Int)))) (.int .i64 ((bb : Int) - (((Sort.partition lt ((Sort.partialInsertionSort lt e5 aa bb).1) aa bb pv9).1 : Nat) : Int))) (by kernel_rfl) (fun w => by kernel_rfl) (wrap_int (by omega) (by omega)) ?_
                refine T.pureE 16 (.int .i64 ((((Sort.partition lt ((Sort.partialInsertionSort lt e5 aa bb).1) aa bb pv9).1 : Nat) : Int) - (aa : Int))) (.int .i64 (((((Sort.partition lt ((Sort.partialInsertionSort lt e5 aa bb).1) aa bb pv9).1) - aa : Nat) : Int))) (by kernel_rfl) (fun w => by kernel_rfl) (int_eq (by omega)) ?_
                refine T.pureE 17 (.int .i64 ((bb : Int) - (((Sort.partition lt ((Sort.partialInsertionSort lt e5 aa bb).1) aa bb pv9).1 : Nat) : Int))) (.int .i64 (((bb - ((Sort.partition lt ((Sort.partialInsertionSort lt e5 aa bb).1) aa bb pv9).1) : Nat) : Int))) (by kernel_rfl) (fun w => by kernel_rfl) (int_eq (by omega)) ?_
                refine T.nil ?_
                refine QN.seq ?_
                refine W.seq ?_
                refine W.region [(0, false), (1, false), (2, false)] (by kernel_rfl) ?_
                refine T.pure 105 (.int .i64 (((bb - aa : Nat) : Int))) (by kernel_rfl) (fun w => by kernel_rfl) ?_
                refine T.pureE 106 (.int .i64 (IntKind.i64.wrap ((((bb - aa : Nat) : Int)).tdiv 8))) (.int .i64 (((bb - aa : Nat) : Int) / 8)) (by kernel_rfl) (fun w => by kernel_rfl) (quo_int (by omega) (by decide) (by omega)) ?_
                refine T.pure 18 (.int .i64 (((bb - aa : Nat) : Int) / 8)) (by kernel_rfl) (fun w => by kernel_rfl) ?_
                refine T.nil ?_
                refine QN.seq ?_
                refine W.seq ?_
                refine W.region [(0, false), (1, false), (2, false)] (by kernel_rfl) ?_
                refine T.pure 107 (.int .i64 (((((Sort.partition lt ((Sort.partialInsertionSort lt e5 aa bb).1) aa bb pv9).1) - aa : Nat) : Int))) (by kernel_rfl) (fun w => by kernel_rfl) ?_
                refine T.pure 108 (.int .i64 (((bb - ((Sort.partition lt ((Sort.partialInsertionSort lt e5 aa bb).1) aa bb pv9).1) : Nat) : Int))) (by kernel_rfl) (fun w => by kernel_rfl) ?_
                refine T.pure 109 (.bool (decide (((((Sort.partition lt ((Sort.partialInsertionSort lt e5 aa bb).1) aa bb pv9).1) - aa : Nat) : Int) < ((bb - ((Sort.partition lt ((Sort.partialInsertionSort lt e5 aa bb).1) aa bb pv9).1) : Nat) : Int)))) (by kernel_rfl) (fun w => by kernel_rfl) ?_
                refine T.nil ?_
                refine QN.seq ?_
                refine W.cond (decide (((((Sort.partition lt ((Sort.partialInsertionSort lt e5 aa bb).1) aa bb pv9).1) - aa : Nat) : Int) < ((bb - ((Sort.partition lt ((Sort.partialInsertionSort lt e5 aa bb).1) aa bb pv9).1) : Nat) : Int))) (by kernel_rfl) (fun h46 => ?_) (fun h46 => ?_)
                · skip
                  have h46' := of_decide_eq_true h46
                  refine W.seq ?_
                  refine W.region [(0, false), (1, false), (2, false), (3, false)] (by kernel_rfl) ?_
                  refine T.pure 110 (.int .i64 (((((Sort.partition lt ((Sort.partialInsertionSort lt e5 aa bb).1) aa bb pv9).1) - aa : Nat) : Int))) (by kernel_rfl) (fun w => by kernel_rfl) ?_
                  refine T.pure 111 (.int .i64 (((bb - aa : Nat) : Int) / 8)) (by kernel_rfl) (fun w => by kernel_rfl) ?_
                  refine T.pure 112 (.bool (decide ((((bb - aa : Nat) : Int) / 8) ≤ ((((Sort.partition lt ((Sort.partialInsertionSort lt e5 aa bb).1) aa bb pv9).1) - aa : Nat) : Int)))) (by kernel_rfl) (fun w => by kernel_rfl) ?_
                  refine T.pure 8 (.bool (decide ((((bb - aa : Nat) : Int) / 8) ≤ ((((Sort.partition lt ((Sort.partialInsertionSort lt e5 aa bb).1) aa bb pv9).1) - aa : Nat) : Int)))) (by kernel_rfl) (fun w => by kernel_rfl) ?_
                  refine T.nil ?_
                  refine QN.seq ?_
                  refine W.seq ?_
                  refine W.region [(0, false), (1, false), (2, false), (3, false), (4, false)] (by kernel_rfl) ?_
                  refine T.loadR false 113 #[.func (.func kf) #[] lb, .func (.func sf) #[] sb] 91 b1 0 (by kernel_rfl) (by kernel_rfl) (by kernel_rfl) (by kernel_rfl) (fun w h => St.rangeM h #[.func (.func kf) #[] lb, .func (.func sf) #[] sb] (.tail _ (.head _)) (by kernel_rfl)) ?_
                  refine T.pure 114 (.int .i64 ((aa : Int))) (by kernel_rfl) (fun w => by kernel_rfl) ?_
                  refine T.pure 115 (.int .i64 ((((Sort.partition lt ((Sort.partialInsertionSort lt e5 aa bb).1) aa bb pv9).1 : Nat) : Int))) (by kernel_rfl) (fun w => by kernel_rfl) ?_
                  refine T.pure 116 (.int .i64 (lim - 1)) (by kernel_rfl) (fun w => by kernel_rfl) ?_
                  have hsz4 : ((Sort.partition lt ((Sort.partialInsertionSort lt e5 aa bb).1) aa bb pv9).2.2).size = n := m3.trans (P40.1.trans hdd)
                  refine T.callG (β := Array α) 117 56 #[.agg #[.func (.func kf) #[] lb, .func (.func sf) #[] sb], .int .i64 ((aa : Int)), .int .i64 ((((Sort.partition lt ((Sort.partialInsertionSort lt e5 aa bb).1) aa bb pv9).1 : Nat) : Int)), .int .i64 (lim - 1)] (fun gs => .tuple #[]) (fun gs => St w00 ((g, Obj.cells (rowb gs tail) ty (0, 0)) :: ((b1, Obj.cells #[.func (.func kf) #[] lb, .func (.func sf) #[] sb] 91 (0, 0)) :: (H' ++ H0)))) (fun gs => Sort.PermIn aa ((Sort.partition lt ((Sort.partialInsertionSort lt e5 aa bb).1) aa bb pv9).1) ((Sort.partition lt ((Sort.partialInsertionSort lt e5 aa bb).1) aa bb pv9).2.2) gs ∧ Sort.SortedIn lt aa ((Sort.partition lt ((Sort.partialInsertionSort lt e5 aa bb).1) aa bb pv9).1) gs) (by kernel_rfl) (by kernel_rfl) ent56 ?_ (fun _ _ _ => trivial) ?_
                  · exact fun w hw => ih ((Sort.partition lt ((Sort.partialInsertionSort lt e5 aa bb).1) aa bb pv9).2.2) aa ((Sort.partition lt ((Sort.partialInsertionSort lt e5 aa bb).1) aa bb pv9).1) (lim - 1) hsz4 (by omega) (by omega) (by omega) (by omega) (by omega) (m4) ((b1, Obj.cells #[.func (.func kf) #[] lb, .func (.func sf) #[] sb] 91 (0, 0)) :: H') w (show St w00 ((g, Obj.cells (rowb ((Sort.partition lt ((Sort.partialInsertionSort lt e5 aa bb).1) aa bb pv9).2.2) tail) ty (0, 0)) :: ((b1, Obj.cells #[.func (.func kf) #[] lb, .func (.func sf) #[] sb] 91 (0, 0)) :: (H' ++ H0))) w from (hw))
                  rintro e47 hp_
                  have hp48 : Sort.PermIn aa ((Sort.partition lt ((Sort.partialInsertionSort lt e5 aa bb).1) aa bb pv9).1) ((Sort.partition lt ((Sort.partialInsertionSort lt e5 aa bb).1) aa bb pv9).2.2) e47 ∧ Sort.SortedIn lt aa ((Sort.partition lt ((Sort.partialInsertionSort lt e5 aa bb).1) aa bb pv9).1) e47 := hp_
                  refine T.nil ?_
                  refine QN.seq ?_
                  refine W.region [(0, false), (1, false), (2, false)] (by kernel_rfl) ?_
                  refine T.pure 118 (.int .i64 ((((Sort.partition lt ((Sort.partialInsertionSort lt e5 aa bb).1) aa bb pv9).1 : Nat) : Int))) (by kernel_rfl) (fun w => by kernel_rfl) ?_
                  refine T.pureE 119 (.int .i64 (IntKind.i64.wrap ((((Sort.partition lt ((Sort.partialInsertionSort lt e5 aa bb).1) aa bb pv9).1 : Nat) : Int) + 1))) (.int .i64 ((((Sort.partition lt ((Sort.partialInsertionSort lt e5 aa bb).1) aa bb pv9).1 : Nat) : Int) + 1)) (by kernel_rfl) (fun w => by kernel_rfl) (wrap_int (by omega) (by omega)) ?_
                  refine T.pureE 1 (.int .i64 ((((Sort.partition lt ((Sort.partialInsertionSort lt e5 aa bb).1) aa bb pv9).1 : Nat) : Int) + 1)) (.int .i64 (((((Sort.partition lt ((Sort.partialInsertionSort lt e5 aa bb).1) aa bb pv9).1) + 1 : Nat) : Int))) (by kernel_rfl) (fun w => by kernel_rfl) (int_eq (by omega)) ?_
                  refine T.nil ?_
                  refine QN.blkNormal ?_
                  refine QN.back ((Sort.partition lt ((Sort.partialInsertionSort lt e5 aa bb).1) aa bb pv9).1 + 1, bb, e47, lim - 1, decide ((((bb - aa : Nat) : Int) / 8) ≤ ((((Sort.partition lt ((Sort.partialInsertionSort lt e5 aa bb).1) aa bb pv9).1) - aa : Nat) : Int)), (Sort.partition lt ((Sort.partialInsertionSort lt e5 aa bb).1) aa bb pv9).2.1) ?_ ?_ (by kernel_rfl) (fun w h => h.perm ((((List.Perm.refl _).cons _).trans (List.Perm.swap _ _ _)).trans ((List.Perm.refl _).cons _)))
                  · show a ≤ ((Sort.partition lt ((Sort.partialInsertionSort lt e5 aa bb).1) aa bb pv9).1 + 1) ∧ bb ≤ b ∧ ((Sort.partition lt ((Sort.partialInsertionSort lt e5 aa bb).1) aa bb pv9).1 + 1) ≤ bb ∧ e47.size = n ∧ Sort.Below lt ((Sort.partition lt ((Sort.partialInsertionSort lt e5 aa bb).1) aa bb pv9).1 + 1) bb e47 ∧ 0 ≤ (lim - 1) ∧ (lim - 1) ≤ 1000 ∧ ∀ R, Sort.PermIn ((Sort.partition lt ((Sort.partialInsertionSort lt e5 aa bb).1) aa bb pv9).1 + 1) bb e47 R → Sort.SortedIn lt ((Sort.partition lt ((Sort.partialInsertionSort lt e5 aa bb).1) aa bb pv9).1 + 1) bb R → Sort.PermIn a b d R ∧ Sort.SortedIn lt a b R
                    exact ⟨by omega, by omega, by omega, hp48.1.1.trans hsz4, (m6 e47 hp48.1 hp48.2).1, by omega, by omega, fun R h1 h2 => hfin R (Sort.permIn_trans _ _ _ _ _ P40 ((m6 e47 hp48.1 hp48.2).2 R h1 h2).1) ((m6 e47 hp48.1 hp48.2).2 R h1 h2).2⟩
                  · show bb - ((Sort.partition lt ((Sort.partialInsertionSort lt e5 aa bb).1) aa bb pv9).1 + 1) < bb - aa; omega
                · skip
                  have h46' := of_decide_eq_false h46
                  refine W.seq ?_
                  refine W.region [(0, false), (1, false), (2, false), (3, false)] (by kernel_rfl) ?_
                  refine T.pure 120 (.int .i64 (((bb - ((Sort.partition lt ((Sort.partialInsertionSort lt e5 aa bb).1) aa bb pv9).1) : Nat) : Int))) (by kernel_rfl) (fun w => by kernel_rfl) ?_
                  refine T.pure 121 (.int .i64 (((bb - aa : Nat) : Int) / 8)) (by kernel_rfl) (fun w => by kernel_rfl) ?_
                  refine T.pure 122 (.bool (decide ((((bb - aa : Nat) : Int) / 8) ≤ ((bb - ((Sort.partition lt ((Sort.partialInsertionSort lt e5 aa bb).1) aa bb pv9).1) : Nat) : Int)))) (by kernel_rfl) (fun w => by kernel_rfl) ?_
                  refine T.pure 8 (.bool (decide ((((bb - aa : Nat) : Int) / 8) ≤ ((bb - ((Sort.partition lt ((Sort.partialInsertionSort lt e5 aa bb).1) aa bb pv9).1) : Nat) : Int)))) (by kernel_rfl) (fun w => by kernel_rfl) ?_
                  refine T.nil ?_
                  refine QN.seq ?_
                  refine W.seq ?_
                  refine W.region [(0, false), (1, false), (2, false), (3, false), (4, false), (5, false)] (by kernel_rfl) ?_
                  refine T.loadR false 123 #[.func (.func kf) #[] lb, .func (.func sf) #[] sb] 91 b1 0 (by kernel_rfl) (by kernel_rfl) (by kernel_rfl) (by kernel_rfl) (fun w h => St.rangeM h #[.func (.func kf) #[] lb, .func (.func sf) #[] sb] (.tail _ (.head _)) (by kernel_rfl)) ?_
                  refine T.pure 124 (.int .i64 ((((Sort.partition lt ((Sort.partialInsertionSort lt e5 aa bb).1) aa bb pv9).1 : Nat) : Int))) (by kernel_rfl) (fun w => by kernel_rfl) ?_
                  refine T.pureE 125 (.int .i64 (IntKind.i64.wrap ((((Sort.partition lt ((Sort.partialInsertionSort lt e5 aa bb).1) aa bb pv9).1 : Nat) : Int) + 1))) (.int .i64 ((((Sort.partition lt ((Sort.partialInsertionSort lt e5 aa bb).1) aa bb pv9).1 : Nat) : Int) + 1)) (by kernel_rfl) (fun w => by kernel_rfl) (wrap_int (by omega) (by omega)) ?_
                  refine T.pure 126 (.int .i64 ((bb : Int))) (by kernel_rfl) (fun w => by kernel_rfl) ?_
                  refine T.pure 127 (.int .i64 (lim - 1)) (by kernel_rfl) (fun w => by kernel_rfl) ?_
                  have hsz4 : ((Sort.partition lt ((Sort.partialInsertionSort lt e5 aa bb).1) aa bb pv9).2.2).size = n := m3.trans (P40.1.trans hdd)
                  refine T.callG (β := Array α) 128 56 #[.agg #[.func (.func kf) #[] lb, .func (.func sf) #[] sb], .int .i64 ((((Sort.partition lt ((Sort.partialInsertionSort lt e5 aa bb).1) aa bb pv9).1 : Nat) : Int) + 1), .int .i64 ((bb : Int)), .int .i64 (lim - 1)] (fun gs => .tuple #[]) (fun gs => St w00 ((g, Obj.cells (rowb gs tail) ty (0, 0)) :: ((b1, Obj.cells #[.func (.func kf) #[] lb, .func (.func sf) #[] sb] 91 (0, 0)) :: (H' ++ H0)))) (fun gs => Sort.PermIn (((Sort.partition lt ((Sort.partialInsertionSort lt e5 aa bb).1) aa bb pv9).1) + 1) bb ((Sort.partition lt ((Sort.partialInsertionSort lt e5 aa bb).1) aa bb pv9).2.2) gs ∧ Sort.SortedIn lt (((Sort.partition lt ((Sort.partialInsertionSort lt e5 aa bb).1) aa bb pv9).1) + 1) bb gs) (by kernel_rfl) (by kernel_rfl) ent56 ?_ (fun _ _ _ => trivial) ?_
                  · exact fun w hw => ih ((Sort.partition lt ((Sort.partialInsertionSort lt e5 aa bb).1) aa bb pv9).2.2) (((Sort.partition lt ((Sort.partialInsertionSort lt e5 aa bb).1) aa bb pv9).1) + 1) bb (lim - 1) hsz4 (by omega) (by omega) (by omega) (by omega) (by omega) (m5) ((b1, Obj.cells #[.func (.func kf) #[] lb, .func (.func sf) #[] sb] 91 (0, 0)) :: H') w (show St w00 ((g, Obj.cells (rowb ((Sort.partition lt ((Sort.partialInsertionSort lt e5 aa bb).1) aa bb pv9).2.2) tail) ty (0, 0)) :: ((b1, Obj.cells #[.func (.func kf) #[] lb, .func (.func sf) #[] sb] 91 (0, 0)) :: (H' ++ H0))) w from (hw))
                  rintro e49 hp_
                  have hp50 : Sort.PermIn (((Sort.partition lt ((Sort.partialInsertionSort lt e5 aa bb).1) aa bb pv9).1) + 1) bb ((Sort.partition lt ((Sort.partialInsertionSort lt e5 aa bb).1) aa bb pv9).2.2) e49 ∧ Sort.SortedIn lt (((Sort.partition lt ((Sort.partialInsertionSort lt e5 aa bb).1) aa bb pv9).1) + 1) bb e49 := hp_
                  refine T.nil ?_
                  refine QN.seq ?_
                  refine W.region [(0, false), (1, false)] (by kernel_rfl) ?_
                  refine T.pure 129 (.int .i64 ((((Sort.partition lt ((Sort.partialInsertionSort lt e5 aa bb).1) aa bb pv9).1 : Nat) : Int))) (by kernel_rfl) (fun w => by kernel_rfl) ?_
                  refine T.pure 2 (.int .i64 ((((Sort.partition lt ((Sort.partialInsertionSort lt e5 aa bb).1) aa bb pv9).1 : Nat) : Int))) (by kernel_rfl) (fun w => by kernel_rfl) ?_
                  refine T.nil ?_
                  refine QN.blkNormal ?_
                  refine QN.back (aa, (Sort.partition lt ((Sort.partialInsertionSort lt e5 aa bb).1) aa bb pv9).1, e49, lim - 1, decide ((((bb - aa : Nat) : Int) / 8) ≤ ((bb - ((Sort.partition lt ((Sort.partialInsertionSort lt e5 aa bb).1) aa bb pv9).1) : Nat) : Int)), (Sort.partition lt ((Sort.partialInsertionSort lt e5 aa bb).1) aa bb pv9).2.1) ?_ ?_ (by kernel_rfl) (fun w h => h.perm ((((List.Perm.refl _).cons _).trans (List.Perm.swap _ _ _)).trans ((List.Perm.refl _).cons _)))
                  · show a ≤ aa ∧ ((Sort.partition lt ((Sort.partialInsertionSort lt e5 aa bb).1) aa bb pv9).1) ≤ b ∧ aa ≤ ((Sort.partition lt ((Sort.partialInsertionSort lt e5 aa bb).1) aa bb pv9).1) ∧ e49.size = n ∧ Sort.Below lt aa ((Sort.partition lt ((Sort.partialInsertionSort lt e5 aa bb).1) aa bb pv9).1) e49 ∧ 0 ≤ (lim - 1) ∧ (lim - 1) ≤ 1000 ∧ ∀ R, Sort.PermIn aa ((Sort.partition lt ((Sort.partialInsertionSort lt e5 aa bb).1) aa bb pv9).1) e49 R → Sort.SortedIn lt aa ((Sort.partition lt ((Sort.partialInsertionSort lt e5 aa bb).1) aa bb pv9).1) R → Sort.PermIn a b d R ∧ Sort.SortedIn lt a b R
                    exact ⟨by omega, by omega, by omega, hp50.1.1.trans hsz4, (m7 e49 hp50.1 hp50.2).1, by omega, by omega, fun R h1 h2 => hfin R (Sort.permIn_trans _ _ _ _ _ P40 ((m7 e49 hp50.1 hp50.2).2 R h1 h2).1) ((m7 e49 hp50.1 hp50.2).2 R h1 h2).2⟩
                  · show ((Sort.partition lt ((Sort.partialInsertionSort lt e5 aa bb).1) aa bb pv9).1) - aa < bb - aa; omega
          · skip
            refine W.skip ?_
            refine QN.seq ?_
            refine W.seq ?_
            refine W.seq ?_
            refine W.region [(0, false), (1, false), (2, false), (3, false), (4, false), (5, false), (6, false), (7, false), (8, false), (9, false), (10, false)] (by kernel_rfl) ?_
            refine T.pure 73 (.int .i64 ((aa : Int))) (by kernel_rfl) (fun w => by kernel_rfl) ?_
            refine T.pure 74 (.bool (decide (0 < (aa : Int)))) (by kernel_rfl) (fun w => by kernel_rfl) ?_
            refine T.pure 75 (.bool (decide (0 < (aa : Int)))) (by kernel_rfl) (fun w => by kernel_rfl) ?_
            refine T.blk [(3, false), (4, false), (5, false), (6, false), (7, false), (8, false), (9, false)] [(10, false)] 2 true (decide (0 < (aa : Int))) 75 82 (.bool (!(lt e5[(aa - 1)]! e5[pv9]!))) (by kernel_rfl) (by kernel_rfl) (by kernel_rfl) (fun hg51 => ?_) ?_
            · have hg51_ := hg51
              have hg51' := of_decide_eq_true hg51
              refine T.pure 76 (.pointer (some ⟨b1, 0, none⟩)) (by kernel_rfl) (fun w => by kernel_rfl) ?_
              refine T.load false 77 (.func (.func kf) #[] lb) 67 b1 0 (by kernel_rfl) (by kernel_rfl) (by kernel_rfl) (fun w h => St.cellM h (.tail _ (.head _)) (by kernel_rfl)) ?_
              refine T.pure 78 (.int .i64 ((aa : Int))) (by kernel_rfl) (fun w => by kernel_rfl) ?_
              refine T.pureE 79 (.int .i64 (IntKind.i64.wrap ((aa : Int) - 1))) (.int .i64 ((aa : Int) - 1)) (by kernel_rfl) (fun w => by kernel_rfl) (wrap_int (by omega) (by omega)) ?_
              refine T.pure 80 (.int .i64 ((pv9 : Int))) (by kernel_rfl) (fun w => by kernel_rfl) ?_
              refine T.callP 81 kf (#[.int .i64 ((aa : Int) - 1), .int .i64 ((pv9 : Int))] ++ lb) (.bool (lt e5[(aa - 1)]! e5[pv9]!)) (by kernel_rfl) (by kernel_rfl) hS.ent ?_ (fun _ _ => trivial) ?_
              · exact fun w hw => hS.less ((b1, Obj.cells #[.func (.func kf) #[] lb, .func (.func sf) #[] sb] 91 (0, 0)) :: H') e5 w ((aa : Int) - 1) ((pv9 : Int)) (aa - 1) pv9 (by first | assumption | (simp only [Sort.size_swp]; assumption)) (by omega) (by omega) (by omega) (by omega) (show St w00 ((g, Obj.cells (rowb e5 tail) ty (0, 0)) :: ((b1, Obj.cells #[.func (.func kf) #[] lb, .func (.func sf) #[] sb] 91 (0, 0)) :: (H' ++ H0))) w from (hw))
              refine T.pure 82 (.bool (!(lt e5[(aa - 1)]! e5[pv9]!))) (by kernel_rfl) (fun w => by kernel_rfl) ?_
              exact T.blkEnd (by kernel_rfl) (fun w h => h)
            refine T.and 83 (decide (0 < (aa : Int))) (!(lt e5[(aa - 1)]! e5[pv9]!)) (by kernel_rfl) (by kernel_rfl) ?_
            refine T.nil ?_
            refine QN.seq ?_
            refine W.cond ((decide (0 < (aa : Int))) && (!(lt e5[(aa - 1)]! e5[pv9]!))) (by kernel_rfl) (fun h52 => ?_) (fun h52 => ?_)
            · skip
              have h52l := (Bool.and_eq_true_iff.1 h52).1
              have h52r := (Bool.and_eq_true_iff.1 h52).2
              have h52l' := of_decide_eq_true h52l
              have h52rn := not_eq_true h52r
              refine W.seq ?_
              refine W.region [(0, false), (1, false), (2, false), (3, false), (4, false), (5, false)] (by kernel_rfl) ?_
              refine T.loadR false 84 #[.func (.func kf) #[] lb, .func (.func sf) #[] sb] 91 b1 0 (by kernel_rfl) (by kernel_rfl) (by kernel_rfl) (by kernel_rfl) (fun w h => St.rangeM h #[.func (.func kf) #[] lb, .func (.func sf) #[] sb] (.tail _ (.head _)) (by kernel_rfl)) ?_
              refine T.pure 85 (.int .i64 ((aa : Int))) (by kernel_rfl) (fun w => by kernel_rfl) ?_
              refine T.pure 86 (.int .i64 ((bb : Int))) (by kernel_rfl) (fun w => by kernel_rfl) ?_
              refine T.pure 87 (.int .i64 ((pv9 : Int))) (by kernel_rfl) (fun w => by kernel_rfl) ?_
              have hsz : e5.size = n := P7.1.trans hdd
              have hre := Sort.round_eq hS.swo (Sort.partitionEqual_holds lt) (d3 := e5) (a := aa) (b := bb) (pivot := pv9) (mid := (Sort.partitionEqual lt e5 aa bb pv9).1) (d4 := (Sort.partitionEqual lt e5 aa bb pv9).2) (by omega) (by omega) (by omega) (by omega) B8 (not_eq_true h52r) rfl
              obtain ⟨m1, m2, m3, m4, m5⟩ := hre
              refine T.callW 88 83 #[.agg #[.func (.func kf) #[] lb, .func (.func sf) #[] sb], .int .i64 ((aa : Int)), .int .i64 ((bb : Int)), .int .i64 ((pv9 : Int))] (.int .i64 ((((Sort.partitionEqual lt e5 aa bb pv9).1 : Nat) : Int))) (St w00 ((g, Obj.cells (rowb ((Sort.partitionEqual lt e5 aa bb pv9).2) tail) ty (0, 0)) :: ((b1, Obj.cells #[.func (.func kf) #[] lb, .func (.func sf) #[] sb] 91 (0, 0)) :: (H' ++ H0)))) (by kernel_rfl) (by kernel_rfl) ent83 ?_ (fun _ _ => trivial) ?_
              · exact fun w hw => partEq_c hS hn e5 aa bb pv9 hsz (by omega) (by omega) (by omega) ((b1, Obj.cells #[.func (.func kf) #[] lb, .func (.func sf) #[] sb] 91 (0, 0)) :: H') w (show St w00 ((g, Obj.cells (rowb e5 tail) ty (0, 0)) :: ((b1, Obj.cells #[.func (.func kf) #[] lb, .func (.func sf) #[] sb] 91 (0, 0)) :: (H' ++ H0))) w from (hw))
              refine T.pureE 13 (.int .i64 ((((Sort.partitionEqual lt e5 aa bb pv9).1 : Nat) : Int))) (.int .i64 ((((Sort.partitionEqual lt e5 aa bb pv9).1 : Nat) : Int))) (by kernel_rfl) (fun w => by kernel_rfl) (int_eq (by omega)) ?_
              refine T.nil ?_
              refine QN.seq ?_
              refine W.seq ?_
              refine W.region [(0, false), (1, false)] (by kernel_rfl) ?_
              refine T.pure 89 (.int .i64 ((((Sort.partitionEqual lt e5 aa bb pv9).1 : Nat) : Int))) (by kernel_rfl) (fun w => by kernel_rfl) ?_
              refine T.pureE 1 (.int .i64 ((((Sort.partitionEqual lt e5 aa bb pv9).1 : Nat) : Int))) (.int .i64 ((((Sort.partitionEqual lt e5 aa bb pv9).1 : Nat) : Int))) (by kernel_rfl) (fun w => by kernel_rfl) (int_eq (by omega)) ?_
              refine T.nil ?_
              refine QN.seq ?_
              refine W.exit ?_
              refine QN.thenExit ?_
              refine QN.blkHit ?_
              refine QN.back (((Sort.partitionEqual lt e5 aa bb pv9).1), bb, (Sort.partitionEqual lt e5 aa bb pv9).2, lim - 1, wb, wp) ?_ ?_ (by kernel_rfl) (fun w h => h.perm ((((List.Perm.refl _).cons _).trans (List.Perm.swap _ _ _)).trans ((List.Perm.refl _).cons _)))
              · show a ≤ ((Sort.partitionEqual lt e5 aa bb pv9).1) ∧ bb ≤ b ∧ ((Sort.partitionEqual lt e5 aa bb pv9).1) ≤ bb ∧ ((Sort.partitionEqual lt e5 aa bb pv9).2).size = n ∧ Sort.Below lt ((Sort.partitionEqual lt e5 aa bb pv9).1) bb ((Sort.partitionEqual lt e5 aa bb pv9).2) ∧ 0 ≤ (lim - 1) ∧ (lim - 1) ≤ 1000 ∧ ∀ R, Sort.PermIn ((Sort.partitionEqual lt e5 aa bb pv9).1) bb ((Sort.partitionEqual lt e5 aa bb pv9).2) R → Sort.SortedIn lt ((Sort.partitionEqual lt e5 aa bb pv9).1) bb R → Sort.PermIn a b d R ∧ Sort.SortedIn lt a b R
                exact ⟨by omega, by omega, by omega, m3.trans (P7.1.trans hdd), m4, by omega, by omega, fun R h1 h2 => hfin R (Sort.permIn_trans _ _ _ _ _ P7 (m5 R h1 h2).1) (m5 R h1 h2).2⟩
              · show bb - ((Sort.partitionEqual lt e5 aa bb pv9).1) < bb - aa; omega
            · skip
              refine W.skip ?_
              refine QN.seq ?_
              refine W.seq ?_
              refine W.region [(0, false), (1, false), (2, false), (3, false), (4, false), (5, false), (6, false), (7, false), (8, false), (9, false)] (by kernel_rfl) ?_
              refine T.loadR false 91 #[.func (.func kf) #[] lb, .func (.func sf) #[] sb] 91 b1 0 (by kernel_rfl) (by kernel_rfl) (by kernel_rfl) (by kernel_rfl) (fun w h => St.rangeM h #[.func (.func kf) #[] lb, .func (.func sf) #[] sb] (.tail _ (.head _)) (by kernel_rfl)) ?_
              refine T.pure 92 (.int .i64 ((aa : Int))) (by kernel_rfl) (fun w => by kernel_rfl) ?_
              refine T.pure 93 (.int .i64 ((bb : Int))) (by kernel_rfl) (fun w => by kernel_rfl) ?_
              refine T.pure 94 (.int .i64 ((pv9 : Int))) (by kernel_rfl) (fun w => by kernel_rfl) ?_
              have hsz : e5.size = n := P7.1.trans hdd
              have hrp := Sort.round_part hS.swo (Sort.partition_holds lt) (d3 := e5) (a := aa) (b := bb) (pivot := pv9) (mid := (Sort.partition lt e5 aa bb pv9).1) (ap := (Sort.partition lt e5 aa bb pv9).2.1) (d4 := (Sort.partition lt e5 aa bb pv9).2.2) (by omega) (by omega) (by omega) B8 rfl
              obtain ⟨m1, m2, m3, m4, m5, m6, m7⟩ := hrp
              refine T.callW 95 84 #[.agg #[.func (.func kf) #[] lb, .func (.func sf) #[] sb], .int .i64 ((aa : Int)), .int .i64 ((bb : Int)), .int .i64 ((pv9 : Int))] (.tuple #[.int .i64 ((((Sort.partition lt e5 aa bb pv9).1 : Nat) : Int)), .bool ((Sort.partition lt e5 aa bb pv9).2.1)]) (St w00 ((g, Obj.cells (rowb ((Sort.partition lt e5 aa bb pv9).2.2) tail) ty (0, 0)) :: ((b1, Obj.cells #[.func (.func kf) #[] lb, .func (.func sf) #[] sb] 91 (0, 0)) :: (H' ++ H0)))) (by kernel_rfl) (by kernel_rfl) ent84 ?_ (fun _ _ => trivial) ?_
              · exact fun w hw => part_c hS hn e5 aa bb pv9 hsz (by omega) (by omega) (by omega) ((b1, Obj.cells #[.func (.func kf) #[] lb, .func (.func sf) #[] sb] 91 (0, 0)) :: H') w (show St w00 ((g, Obj.cells (rowb e5 tail) ty (0, 0)) :: ((b1, Obj.cells #[.func (.func kf) #[] lb, .func (.func sf) #[] sb] 91 (0, 0)) :: (H' ++ H0))) w from (hw))
              refine T.pure 90 (.tuple #[.int .i64 ((((Sort.partition lt e5 aa bb pv9).1 : Nat) : Int)), .bool ((Sort.partition lt e5 aa bb pv9).2.1)]) (by kernel_rfl) (fun w => by kernel_rfl) ?_
              refine T.pure 96 (.int .i64 ((((Sort.partition lt e5 aa bb pv9).1 : Nat) : Int))) (by kernel_rfl) (fun w => by kernel_rfl) ?_
              refine T.pure 97 (.bool ((Sort.partition lt e5 aa bb pv9).2.1)) (by kernel_rfl) (fun w => by kernel_rfl) ?_
              refine T.pureE 14 (.int .i64 ((((Sort.partition lt e5 aa bb pv9).1 : Nat) : Int))) (.int .i64 ((((Sort.partition lt e5 aa bb pv9).1 : Nat) : Int))) (by kernel_rfl) (fun w => by kernel_rfl) (int_eq (by omega)) ?_
              refine T.pure 15 (.bool ((Sort.partition lt e5 aa bb pv9).2.1)) (by kernel_rfl) (fun w => by kernel_rfl) ?_
              refine T.nil ?_
              refine QN.seq ?_
              refine W.seq ?_
              refine W.region [(0, false), (1, false)] (by kernel_rfl) ?_
              refine T.pure 98 (.bool ((Sort.partition lt e5 aa bb pv9).2.1)) (by kernel_rfl) (fun w => by kernel_rfl) ?_
              refine T.pure 9 (.bool ((Sort.partition lt e5 aa bb pv9).2.1)) (by kernel_rfl) (fun w => by kernel_rfl) ?_
              refine T.nil ?_
              refine QN.seq ?_
              refine W.seq ?_
              refine W.region [(0, false), (1, false), (2, false), (3, false), (4, false), (5, false), (6, false), (7, false)] (by kernel_rfl) ?_
              refine T.pure 99 (.int .i64 ((((Sort.partition lt e5 aa bb pv9).1 : Nat) : Int))) (by kernel_rfl) (fun w => by kernel_rfl) ?_
              refine T.pure 100 (.int .i64 ((aa : Int))) (by kernel_rfl) (fun w => by kernel_rfl) ?_
              refine T.pureE 101 (.int .i64 (IntKind.i64.wrap ((((Sort.partition lt e5 aa bb pv9).1 : Nat) : Int) - (aa : Int)))) (.int .i64 ((((Sort.partition lt e5 aa bb pv9).1 : Nat) : Int) - (aa : Int))) (by kernel_rfl) (fun w => by kernel_rfl) (wrap_int (by omega) (by omega)) ?_
              refine T.pure 102 (.int .i64 ((bb : Int))) (by kernel_rfl) (fun w => by kernel_rfl) ?_
              refine T.pure 103 (.int .i64 ((((Sort.partition lt e5 aa bb pv9).1 : Nat) : Int))) (by kernel_rfl) (fun w => by kernel_rfl) ?_
              refine T.pureE 104 (.int .i64 (IntKind.i64.wrap ((bb : Int) - (((Sort.partition lt e5 aa bb pv9).1 : Nat) : Int)))) (.int .i64 ((bb : Int) - (((Sort.partition lt e5 aa bb pv9).1 : Nat) : Int))) (by kernel_rfl) (fun w => by kernel_rfl) (wrap_int (by omega) (by omega)) ?_
              refine T.pureE 16 (.int .i64 ((((Sort.partition lt e5 aa bb pv9).1 : Nat) : Int) - (aa : Int))) (.int .i64 (((((Sort.partition lt e5 aa bb pv9).1) - aa : Nat) : Int))) (by kernel_rfl) (fun w => by kernel_rfl) (int_eq (by omega)) ?_
              refine T.pureE 17 (.int .i64 ((bb : Int) - (((Sort.partition lt e5 aa bb pv9).1 : Nat) : Int))) (.int .i64 (((bb - ((Sort.partition lt e5 aa bb pv9).1) : Nat) : Int))) (by kernel_rfl) (fun w => by kernel_rfl) (int_eq (by omega)) ?_
              refine T.nil ?_
              refine QN.seq ?_
              refine W.seq ?_
              refine W.region [(0, false), (1, false), (2, false)] (by kernel_rfl) ?_
              refine T.pure 105 (.int .i64 (((bb - aa : Nat) : Int))) (by kernel_rfl) (fun w => by kernel_rfl) ?_
              refine T.pureE 106 (.int .i64 (IntKind.i64.wrap ((((bb - aa : Nat) : Int)).tdiv 8))) (.int .i64 (((bb - aa : Nat) : Int) / 8)) (by kernel_rfl) (fun w => by kernel_rfl) (quo_int (by omega) (by decide) (by omega)) ?_
              refine T.pure 18 (.int .i64 (((bb - aa : Nat) : Int) / 8)) (by kernel_rfl) (fun w => by kernel_rfl) ?_
              refine T.nil ?_
              refine QN.seq ?_
              refine W.seq ?_
              refine W.region [(0, false), (1, false), (2, false)] (by kernel_rfl) ?_
              refine T.pure 107 (.int .i64 (((((Sort.partition lt e5 aa bb pv9).1) - aa : Nat) : Int))) (by kernel_rfl) (fun w => by kernel_rfl) ?_
              refine T.pure 108 (.int .i64 (((bb - ((Sort.partition lt e5 aa bb pv9).1) : Nat) : Int))) (by kernel_rfl) (fun w => by kernel_rfl) ?_
              refine T.pure 109 (.bool (decide (((((Sort.partition lt e5 aa bb pv9).1) - aa : Nat) : Int) < ((bb - ((Sort.partition lt e5 aa bb pv9).1) : Nat) : Int)))) (by kernel_rfl) (fun w => by kernel_rfl) ?_
              refine T.nil ?_
              refine QN.seq ?_
              refine W.cond (decide (((((Sort.partition lt e5 aa bb pv9).1) - aa : Nat) : Int) < ((bb - ((Sort.partition lt e5 aa bb pv9).1) : Nat) : Int))) (by kernel_rfl) (fun h53 => ?_) (fun h53 => ?_)
              · skip
                have h53' := of_decide_eq_true h53
                refine W.seq ?_
                refine W.region [(0, false), (1, false), (2, false), (3, false)] (by kernel_rfl) ?_
                refine T.pure 110 (.int .i64 (((((Sort.partition lt e5 aa bb pv9).1) - aa : Nat) : Int))) (by kernel_rfl) (fun w => by kernel_rfl) ?_
                refine T.pure 111 (.int .i64 (((bb - aa : Nat) : Int) / 8)) (by kernel_rfl) (fun w => by kernel_rfl) ?_
                refine T.pure 112 (.bool (decide ((((bb - aa : Nat) : Int) / 8) ≤ ((((Sort.partition lt e5 aa bb pv9).1) - aa : Nat) : Int)))) (by kernel_rfl) (fun w => by kernel_rfl) ?_
                refine T.pure 8 (.bool (decide ((((bb - aa : Nat) : Int) / 8) ≤ ((((Sort.partition lt e5 aa bb pv9).1) - aa : Nat) : Int)))) (by kernel_rfl) (fun w => by kernel_rfl) ?_
                refine T.nil ?_
                refine QN.seq ?_
                refine W.seq ?_
                refine W.region [(0, false), (1, false), (2, false), (3, false), (4, false)] (by kernel_rfl) ?_
                refine T.loadR false 113 #[.func (.func kf) #[] lb, .func (.func sf) #[] sb] 91 b1 0 (by kernel_rfl) (by kernel_rfl) (by kernel_rfl) (by kernel_rfl) (fun w h => St.rangeM h #[.func (.func kf) #[] lb, .func (.func sf) #[] sb] (.tail _ (.head _)) (by kernel_rfl)) ?_
                refine T.pure 114 (.int .i64 ((aa : Int))) (by kernel_rfl) (fun w => by kernel_rfl) ?_
                refine T.pure 115 (.int .i64 ((((Sort.partition lt e5 aa bb pv9).1 : Nat) : Int))) (by kernel_rfl) (fun w => by kernel_rfl) ?_
                refine T.pure 116 (.int .i64 (lim - 1)) (by kernel_rfl) (fun w => by kernel_rfl) ?_
                have hsz4 : ((Sort.partition lt e5 aa bb pv9).2.2).size = n := m3.trans (P7.1.trans hdd)
                refine T.callG (β := Array α) 117 56 #[.agg #[.func (.func kf) #[] lb, .func (.func sf) #[] sb], .int .i64 ((aa : Int)), .int .i64 ((((Sort.partition lt e5 aa bb pv9).1 : Nat) : Int)), .int .i64 (lim - 1)] (fun gs => .tuple #[]) (fun gs => St w00 ((g, Obj.cells (rowb gs tail) ty (0, 0)) :: ((b1, Obj.cells #[.func (.func kf) #[] lb, .func (.func sf) #[] sb] 91 (0, 0)) :: (H' ++ H0)))) (fun gs => Sort.PermIn aa ((Sort.partition lt e5 aa bb pv9).1) ((Sort.partition lt e5 aa bb pv9).2.2) gs ∧ Sort.SortedIn lt aa ((Sort.partition lt e5 aa bb pv9).1) gs) (by kernel_rfl) (by kernel_rfl) ent56 ?_ (fun _ _ _ => trivial) ?_
                · exact fun w hw => ih ((Sort.partition lt e5 aa bb pv9).2.2) aa ((Sort.partition lt e5 aa bb pv9).1) (lim - 1) hsz4 (by omega) (by omega) (by omega) (by omega) (by omega) (m4) ((b1, Obj.cells #[.func (.func kf) #[] lb, .func (.func sf) #[] sb] 91 (0, 0)) :: H') w (show St w00 ((g, Obj.cells (rowb ((Sort.partition lt e5 aa bb pv9).2.2) tail) ty (0, 0)) :: ((b1, Obj.cells #[.func (.func kf) #[] lb, .func (.func sf) #[] sb] 91 (0, 0)) :: (H' ++ H0))) w from (hw))
                rintro e54 hp_
                have hp55 : Sort.PermIn aa ((Sort.partition lt e5 aa bb pv9).1) ((Sort.partition lt e5 aa bb pv9).2.2) e54 ∧ Sort.SortedIn lt aa ((Sort.partition lt e5 aa bb pv9).1) e54 := hp_
                refine T.nil ?_
                refine QN.seq ?_
                refine W.region [(0, false), (1, false), (2, false)] (by kernel_rfl) ?_
                refine T.pure 118 (.int .i64 ((((Sort.partition lt e5 aa bb pv9).1 : Nat) : Int))) (by kernel_rfl) (fun w => by kernel_rfl) ?_
                refine T.pureE 119 (.int .i64 (IntKind.i64.wrap ((((Sort.partition lt e5 aa bb pv9).1 : Nat) : Int) + 1))) (.int .i64 ((((Sort.partition lt e5 aa bb pv9).1 : Nat) : Int) + 1)) (by kernel_rfl) (fun w => by kernel_rfl) (wrap_int (by omega) (by omega)) ?_
                refine T.pureE 1 (.int .i64 ((((Sort.partition lt e5 aa bb pv9).1 : Nat) : Int) + 1)) (.int .i64 (((((Sort.partition lt e5 aa bb pv9).1) + 1 : Nat) : Int))) (by kernel_rfl) (fun w => by kernel_rfl) (int_eq (by omega)) ?_
                refine T.nil ?_
                refine QN.blkNormal ?_
                refine QN.back ((Sort.partition lt e5 aa bb pv9).1 + 1, bb, e54, lim - 1, decide ((((bb - aa : Nat) : Int) / 8) ≤ ((((Sort.partition lt e5 aa bb pv9).1) - aa : Nat) : Int)), (Sort.partition lt e5 aa bb pv9).2.1) ?_ ?_ (by kernel_rfl) (fun w h => h.perm ((((List.Perm.refl _).cons _).trans (List.Perm.swap _ _ _)).trans ((List.Perm.refl _).cons _)))
                · show a ≤ ((Sort.partition lt e5 aa bb pv9).1 + 1) ∧ bb ≤ b ∧ ((Sort.partition lt e5 aa bb pv9).1 + 1) ≤ bb ∧ e54.size = n ∧ Sort.Below lt ((Sort.partition lt e5 aa bb pv9).1 + 1) bb e54 ∧ 0 ≤ (lim - 1) ∧ (lim - 1) ≤ 1000 ∧ ∀ R, Sort.PermIn ((Sort.partition lt e5 aa bb pv9).1 + 1) bb e54 R → Sort.SortedIn lt ((Sort.partition lt e5 aa bb pv9).1 + 1) bb R → Sort.PermIn a b d R ∧ Sort.SortedIn lt a b R
                  exact ⟨by omega, by omega, by omega, hp55.1.1.trans hsz4, (m6 e54 hp55.1 hp55.2).1, by omega, by omega, fun R h1 h2 => hfin R (Sort.permIn_trans _ _ _ _ _ P7 ((m6 e54 hp55.1 hp55.2).2 R h1 h2).1) ((m6 e54 hp55.1 hp55.2).2 R h1 h2).2⟩
                · show bb - ((Sort.partition lt e5 aa bb pv9).1 + 1) < bb - aa; omega
              · skip
                have h53' := of_decide_eq_false h53
                refine W.seq ?_
                refine W.region [(0, false), (1, false), (2, false), (3, false)] (by kernel_rfl) ?_
                refine T.pure 120 (.int .i64 (((bb - ((Sort.partition lt e5 aa bb pv9).1) : Nat) : Int))) (by kernel_rfl) (fun w => by kernel_rfl) ?_
                refine T.pure 121 (.int .i64 (((bb - aa : Nat) : Int) / 8)) (by kernel_rfl) (fun w => by kernel_rfl) ?_
                refine T.pure 122 (.bool (decide ((((bb - aa : Nat) : Int) / 8) ≤ ((bb - ((Sort.partition lt e5 aa bb pv9).1) : Nat) : Int)))) (by kernel_rfl) (fun w => by kernel_rfl) ?_
                refine T.pure 8 (.bool (decide ((((bb - aa : Nat) : Int) / 8) ≤ ((bb - ((Sort.partition lt e5 aa bb pv9).1) : Nat) : Int)))) (by kernel_rfl) (fun w => by kernel_rfl) ?_
                refine T.nil ?_
                refine QN.seq ?_
                refine W.seq ?_
                refine W.region [(0, false), (1, false), (2, false), (3, false), (4, false), (5, false)] (by kernel_rfl) ?_
                refine T.loadR false 123 #[.func (.func kf) #[] lb, .func (.func sf) #[] sb] 91 b1 0 (by kernel_rfl) (by kernel_rfl) (by kernel_rfl) (by kernel_rfl) (fun w h => St.rangeM h #[.func (.func kf) #[] lb, .func (.func sf) #[] sb] (.tail _ (.head _)) (by kernel_rfl)) ?_
                refine T.pure 124 (.int .i64 ((((Sort.partition lt e5 aa bb pv9).1 : Nat) : Int))) (by kernel_rfl) (fun w => by kernel_rfl) ?_
                refine T.pureE 125 (.int .i64 (IntKind.i64.wrap ((((Sort.partition lt e5 aa bb pv9).1 : Nat) : Int) + 1))) (.int .i64 ((((Sort.partition lt e5 aa bb pv9).1 : Nat) : Int) + 1)) (by kernel_rfl) (fun w => by kernel_rfl) (wrap_int (by omega) (by omega)) ?_
                refine T.pure 126 (.int .i64 ((bb : Int))) (by kernel_rfl) (fun w => by kernel_rfl) ?_
                refine T.pure 127 (.int .i64 (lim - 1)) (by kernel_rfl) (fun w => by kernel_rfl) ?_
                have hsz4 : ((Sort.partition lt e5 aa bb pv9).2.2).size = n := m3.trans (P7.1.trans hdd)
                refine T.callG (β := Array α) 128 56 #[.agg #[.func (.func kf) #[] lb, .func (.func sf) #[] sb], .int .i64 ((((Sort.partition lt e5 aa bb pv9).1 : Nat) : Int) + 1), .int .i64 ((bb : Int)), .int .i64 (lim - 1)] (fun gs => .tuple #[]) (fun gs => St w00 ((g, Obj.cells (rowb gs tail) ty (0, 0)) :: ((b1, Obj.cells #[.func (.func kf) #[] lb, .func (.func sf) #[] sb] 91 (0, 0)) :: (H' ++ H0)))) (fun gs => Sort.PermIn (((Sort.partition lt e5 aa bb pv9).1) + 1) bb ((Sort.partition lt e5 aa bb pv9).2.2) gs ∧ Sort.SortedIn lt (((Sort.partition lt e5 aa bb pv9).1) + 1) bb gs) (by kernel_rfl) (by kernel_rfl) ent56 ?_ (fun _ _ _ => trivial) ?_
                · exact fun w hw => ih ((Sort.partition lt e5 aa bb pv9).2.2) (((Sort.partition lt e5 aa bb pv9).1) + 1) bb (lim - 1) hsz4 (by omega) (by omega) (by omega) (by omega) (by omega) (m5) ((b1, Obj.cells #[.func (.func kf) #[] lb, .func (.func sf) #[] sb] 91 (0, 0)) :: H') w (show St w00 ((g, Obj.cells (rowb ((Sort.partition lt e5 aa bb pv9).2.2) tail) ty (0, 0)) :: ((b1, Obj.cells #[.func (.func kf) #[] lb, .func (.func sf) #[] sb] 91 (0, 0)) :: (H' ++ H0))) w from (hw))
                rintro e56 hp_
                have hp57 : Sort.PermIn (((Sort.partition lt e5 aa bb pv9).1) + 1) bb ((Sort.partition lt e5 aa bb pv9).2.2) e56 ∧ Sort.SortedIn lt (((Sort.partition lt e5 aa bb pv9).1) + 1) bb e56 := hp_
                refine T.nil ?_
                refine QN.seq ?_
                refine W.region [(0, false), (1, false)] (by kernel_rfl) ?_
                refine T.pure 129 (.int .i64 ((((Sort.partition lt e5 aa bb pv9).1 : Nat) : Int))) (by kernel_rfl) (fun w => by kernel_rfl) ?_
                refine T.pure 2 (.int .i64 ((((Sort.partition lt e5 aa bb pv9).1 : Nat) : Int))) (by kernel_rfl) (fun w => by kernel_rfl) ?_
                refine T.nil ?_
                refine QN.blkNormal ?_
                refine QN.back (aa, (Sort.partition lt e5 aa bb pv9).1, e56, lim - 1, decide ((((bb - aa : Nat) : Int) / 8) ≤ ((bb - ((Sort.partition lt e5 aa bb pv9).1) : Nat) : Int)), (Sort.partition lt e5 aa bb pv9).2.1) ?_ ?_ (by kernel_rfl) (fun w h => h.perm ((((List.Perm.refl _).cons _).trans (List.Perm.swap _ _ _)).trans ((List.Perm.refl _).cons _)))
                · show a ≤ aa ∧ ((Sort.partition lt e5 aa bb pv9).1) ≤ b ∧ aa ≤ ((Sort.partition lt e5 aa bb pv9).1) ∧ e56.size = n ∧ Sort.Below lt aa ((Sort.partition lt e5 aa bb pv9).1) e56 ∧ 0 ≤ (lim - 1) ∧ (lim - 1) ≤ 1000 ∧ ∀ R, Sort.PermIn aa ((Sort.partition lt e5 aa bb pv9).1) e56 R → Sort.SortedIn lt aa ((Sort.partition lt e5 aa bb pv9).1) R → Sort.PermIn a b d R ∧ Sort.SortedIn lt a b R
                  exact ⟨by omega, by omega, by omega, hp57.1.1.trans hsz4, (m7 e56 hp57.1 hp57.2).1, by omega, by omega, fun R h1 h2 => hfin R (Sort.permIn_trans _ _ _ _ _ P7 ((m7 e56 hp57.1 hp57.2).2 R h1 h2).1) ((m7 e56 hp57.1 hp57.2).2 R h1 h2).2⟩
                · show ((Sort.partition lt e5 aa bb pv9).1) - aa < bb - aa; omega
      · skip
        have h4n := not_eq_false h4
        refine W.skip ?_
        refine QN.seq ?_
        refine W.seq ?_
        refine W.region [(0, false), (1, false), (2, false), (3, false), (4, false), (5, false), (6, false), (7, false), (8, false)] (by kernel_rfl) ?_
        refine T.loadR false 43 #[.func (.func kf) #[] lb, .func (.func sf) #[] sb] 91 b1 0 (by kernel_rfl) (by kernel_rfl) (by kernel_rfl) (by kernel_rfl) (fun w h => St.rangeM h #[.func (.func kf) #[] lb, .func (.func sf) #[] sb] (.head _) (by kernel_rfl)) ?_
        refine T.pure 44 (.int .i64 ((aa : Int))) (by kernel_rfl) (fun w => by kernel_rfl) ?_
        refine T.pure 45 (.int .i64 ((bb : Int))) (by kernel_rfl) (fun w => by kernel_rfl) ?_
        have hsz : dd.size = n := P0.1.trans hdd
        refine T.callG (β := Nat × Int) 46 80 #[.agg #[.func (.func kf) #[] lb, .func (.func sf) #[] sb], .int .i64 ((aa : Int)), .int .i64 ((bb : Int))] (fun gs => .tuple #[.int .i64 ((gs.1 : Int)), .int .i64 (gs.2)]) (fun gs => St w00 ((g, Obj.cells (rowb dd tail) ty (0, 0)) :: ((b1, Obj.cells #[.func (.func kf) #[] lb, .func (.func sf) #[] sb] 91 (0, 0)) :: (H' ++ H0)))) (fun gs => aa ≤ gs.1 ∧ gs.1 < bb) (by kernel_rfl) (by kernel_rfl) ent80 ?_ (fun _ _ _ => trivial) ?_
        · exact fun w hw => pivot_c hS hn dd aa bb hsz (by omega) (by omega) ((b1, Obj.cells #[.func (.func kf) #[] lb, .func (.func sf) #[] sb] 91 (0, 0)) :: H') w (show St w00 ((g, Obj.cells (rowb dd tail) ty (0, 0)) :: ((b1, Obj.cells #[.func (.func kf) #[] lb, .func (.func sf) #[] sb] 91 (0, 0)) :: (H' ++ H0))) w from (hw.perm ((((List.Perm.refl _).cons _).trans (List.Perm.swap _ _ _)).trans ((List.Perm.refl _).cons _))))
        rintro ⟨pv58, hint59⟩ hp_
        have hp60 : aa ≤ pv58 ∧ pv58 < bb := hp_
        refine T.pure 42 (.tuple #[.int .i64 ((pv58 : Int)), .int .i64 (hint59)]) (by kernel_rfl) (fun w => by kernel_rfl) ?_
        refine T.pure 47 (.int .i64 ((pv58 : Int))) (by kernel_rfl) (fun w => by kernel_rfl) ?_
        refine T.pure 48 (.int .i64 (hint59)) (by kernel_rfl) (fun w => by kernel_rfl) ?_
        refine T.pure 11 (.int .i64 ((pv58 : Int))) (by kernel_rfl) (fun w => by kernel_rfl) ?_
        refine T.pure 12 (.int .i64 (hint59)) (by kernel_rfl) (fun w => by kernel_rfl) ?_
        refine T.nil ?_
        refine QN.seq ?_
        refine W.seq ?_
        refine W.seq ?_
        refine W.region [(0, false), (1, false)] (by kernel_rfl) ?_
        refine T.pure 49 (.int .i64 (hint59)) (by kernel_rfl) (fun w => by kernel_rfl) ?_
        refine T.pure 50 (.bool (hint59 == 2)) (by kernel_rfl) (fun w => by kernel_rfl) ?_
        refine T.nil ?_
        refine QN.seq ?_
        refine W.cond (hint59 == 2) (by kernel_rfl) (fun h61 => ?_) (fun h61 => ?_)
        · skip
          have h61' := eq_of_beq h61
          refine W.seq ?_
          refine W.region [(0, false), (1, false), (2, false), (3, false)] (by kernel_rfl) ?_
          refine T.loadR false 51 #[.func (.func kf) #[] lb, .func (.func sf) #[] sb] 91 b1 0 (by kernel_rfl) (by kernel_rfl) (by kernel_rfl) (by kernel_rfl) (fun w h => St.rangeM h #[.func (.func kf) #[] lb, .func (.func sf) #[] sb] (.tail _ (.head _)) (by kernel_rfl)) ?_
          refine T.pure 52 (.int .i64 ((aa : Int))) (by kernel_rfl) (fun w => by kernel_rfl) ?_
          refine T.pure 53 (.int .i64 ((bb : Int))) (by kernel_rfl) (fun w => by kernel_rfl) ?_
          have hsz : dd.size = n := P0.1.trans hdd
          have P62 : Sort.PermIn aa bb dd (Sort.reverseRange dd aa bb) := Sort.permIn_trans _ _ _ _ _ P0 (Sort.reverseRange_holds dd aa bb (by omega) (by omega))
          have hz64 : (Sort.reverseRange dd aa bb).size = n := P62.1.trans hdd
          have B63 : Sort.Below lt aa bb (Sort.reverseRange dd aa bb) := hB.perm (by omega) P62
          refine T.callW 54 81 #[.agg #[.func (.func kf) #[] lb, .func (.func sf) #[] sb], .int .i64 ((aa : Int)), .int .i64 ((bb : Int))] (.tuple #[]) (St w00 ((g, Obj.cells (rowb (Sort.reverseRange dd aa bb) tail) ty (0, 0)) :: ((b1, Obj.cells #[.func (.func kf) #[] lb, .func (.func sf) #[] sb] 91 (0, 0)) :: (H' ++ H0)))) (by kernel_rfl) (by kernel_rfl) ent81 ?_ (fun _ _ => trivial) ?_
          · exact fun w hw => reverse_c hS hn dd aa bb hsz (by omega) (by omega) ((b1, Obj.cells #[.func (.func kf) #[] lb, .func (.func sf) #[] sb] 91 (0, 0)) :: H') w (show St w00 ((g, Obj.cells (rowb dd tail) ty (0, 0)) :: ((b1, Obj.cells #[.func (.func kf) #[] lb, .func (.func sf) #[] sb] 91 (0, 0)) :: (H' ++ H0))) w from (hw))
          refine T.nil ?_
          refine QN.seq ?_
          refine W.seq ?_
          refine W.region [(0, false), (1, false), (2, false), (3, false), (4, false), (5, false), (6, false)] (by kernel_rfl) ?_
          refine T.pure 55 (.int .i64 ((bb : Int))) (by kernel_rfl) (fun w => by kernel_rfl) ?_
          refine T.pureE 56 (.int .i64 (IntKind.i64.wrap ((bb : Int) - 1))) (.int .i64 ((bb : Int) - 1)) (by kernel_rfl) (fun w => by kernel_rfl) (wrap_int (by omega) (by omega)) ?_
          refine T.pure 57 (.int .i64 ((pv58 : Int))) (by kernel_rfl) (fun w => by kernel_rfl) ?_
          refine T.pure 58 (.int .i64 ((aa : Int))) (by kernel_rfl) (fun w => by kernel_rfl) ?_
          refine T.pureE 59 (.int .i64 (IntKind.i64.wrap ((pv58 : Int) - (aa : Int)))) (.int .i64 ((pv58 : Int) - (aa : Int))) (by kernel_rfl) (fun w => by kernel_rfl) (wrap_int (by omega) (by omega)) ?_
          refine T.pureE 60 (.int .i64 (IntKind.i64.wrap (((bb : Int) - 1) - ((pv58 : Int) - (aa : Int))))) (.int .i64 (((bb : Int) - 1) - ((pv58 : Int) - (aa : Int)))) (by kernel_rfl) (fun w => by kernel_rfl) (wrap_int (by omega) (by omega)) ?_
          refine T.pureE 11 (.int .i64 (((bb : Int) - 1) - ((pv58 : Int) - (aa : Int)))) (.int .i64 ((((bb - 1) - (pv58 - aa) : Nat) : Int))) (by kernel_rfl) (fun w => by kernel_rfl) (int_eq (by omega)) ?_
          refine T.nil ?_
          refine QN.seq ?_
          refine W.region [(0, false)] (by kernel_rfl) ?_
          refine T.pure 12 (.int .i64 (1)) (by kernel_rfl) (fun w => by kernel_rfl) ?_
          refine T.nil ?_
          refine QN.seq ?_
          refine W.seq ?_
          refine W.seq ?_
          refine W.region [(0, false), (1, false), (2, false), (3, false), (4, false), (5, false), (6, false), (7, false)] (by kernel_rfl) ?_
          refine T.pure 61 (.bool (wb)) (by kernel_rfl) (fun w => by kernel_rfl) ?_
          refine T.pure 62 (.bool (wb)) (by kernel_rfl) (fun w => by kernel_rfl) ?_
          refine T.blk [(2, false)] [(3, false), (4, false), (5, false), (6, false), (7, false)] 1 true (wb) 62 63 (.bool (wp)) (by kernel_rfl) (by kernel_rfl) (by kernel_rfl) (fun hg65 => ?_) ?_
          · have hg65_ := hg65
            refine T.pure 63 (.bool (wp)) (by kernel_rfl) (fun w => by kernel_rfl) ?_
            exact T.blkEnd (by kernel_rfl) (fun w h => h)
          refine T.and 64 (wb) (wp) (by kernel_rfl) (by kernel_rfl) ?_
          refine T.pure 65 (.bool (wb && wp)) (by kernel_rfl) (fun w => by kernel_rfl) ?_
          refine T.blk [(5, false), (6, false)] [(7, false)] 4 true (wb && wp) 65 67 (.bool (1 == 1)) (by kernel_rfl) (by kernel_rfl) (by kernel_rfl) (fun hg66 => ?_) ?_
          · have hg66_ := hg66
            have hg66l := (Bool.and_eq_true_iff.1 hg66).1
            have hg66r := (Bool.and_eq_true_iff.1 hg66).2
            refine T.pure 66 (.int .i64 (1)) (by kernel_rfl) (fun w => by kernel_rfl) ?_
            refine T.pure 67 (.bool (1 == 1)) (by kernel_rfl) (fun w => by kernel_rfl) ?_
            exact T.blkEnd (by kernel_rfl) (fun w h => h)
          refine T.and 68 (wb && wp) (1 == 1) (by kernel_rfl) (by kernel_rfl) ?_
          refine T.nil ?_
          refine QN.seq ?_
          refine W.cond ((wb && wp) && (1 == 1)) (by kernel_rfl) (fun h67 => ?_) (fun h67 => ?_)
          · skip
            have h67l := (Bool.and_eq_true_iff.1 h67).1
            have h67r := (Bool.and_eq_true_iff.1 h67).2
            have h67ll := (Bool.and_eq_true_iff.1 h67l).1
            have h67lr := (Bool.and_eq_true_iff.1 h67l).2
            have h67r' := eq_of_beq h67r
            refine W.seq ?_
            refine W.region [(0, false), (1, false), (2, false), (3, false)] (by kernel_rfl) ?_
            refine T.loadR false 69 #[.func (.func kf) #[] lb, .func (.func sf) #[] sb] 91 b1 0 (by kernel_rfl) (by kernel_rfl) (by kernel_rfl) (by kernel_rfl) (fun w h => St.rangeM h #[.func (.func kf) #[] lb, .func (.func sf) #[] sb] (.tail _ (.head _)) (by kernel_rfl)) ?_
            refine T.pure 70 (.int .i64 ((aa : Int))) (by kernel_rfl) (fun w => by kernel_rfl) ?_
            refine T.pure 71 (.int .i64 ((bb : Int))) (by kernel_rfl) (fun w => by kernel_rfl) ?_
            have hsz : (Sort.reverseRange dd aa bb).size = n := P62.1.trans hdd
            have hpi := Sort.partialInsertionSort_holds (lt := lt) hS.swo (Sort.reverseRange dd aa bb) aa bb (by omega) (by omega) B63
            have P68 : Sort.PermIn aa bb dd ((Sort.partialInsertionSort lt (Sort.reverseRange dd aa bb) aa bb).1) := Sort.permIn_trans _ _ _ _ _ P62 (hpi.1)
            have hz70 : ((Sort.partialInsertionSort lt (Sort.reverseRange dd aa bb) aa bb).1).size = n := P68.1.trans hdd
            have B69 : Sort.Below lt aa bb ((Sort.partialInsertionSort lt (Sort.reverseRange dd aa bb) aa bb).1) := hB.perm (by omega) P68
            refine T.callW 72 82 #[.agg #[.func (.func kf) #[] lb, .func (.func sf) #[] sb], .int .i64 ((aa : Int)), .int .i64 ((bb : Int))] (.bool ((Sort.partialInsertionSort lt (Sort.reverseRange dd aa bb) aa bb).2)) (St w00 ((g, Obj.cells (rowb ((Sort.partialInsertionSort lt (Sort.reverseRange dd aa bb) aa bb).1) tail) ty (0, 0)) :: ((b1, Obj.cells #[.func (.func kf) #[] lb, .func (.func sf) #[] sb] 91 (0, 0)) :: (H' ++ H0)))) (by kernel_rfl) (by kernel_rfl) ent82 ?_ (fun _ _ => trivial) ?_
            · exact fun w hw => partial_c hS hn (Sort.reverseRange dd aa bb) aa bb hsz (by omega) (by omega) ((b1, Obj.cells #[.func (.func kf) #[] lb, .func (.func sf) #[] sb] 91 (0, 0)) :: H') w (show St w00 ((g, Obj.cells (rowb (Sort.reverseRange dd aa bb) tail) ty (0, 0)) :: ((b1, Obj.cells #[.func (.func kf) #[] lb, .func (.func sf) #[] sb] 91 (0, 0)) :: (H' ++ H0))) w from (hw))
            refine T.nil ?_
            refine QN.seq ?_
            refine W.cond ((Sort.partialInsertionSort lt (Sort.reverseRange dd aa bb) aa bb).2) (by kernel_rfl) (fun h71 => ?_) (fun h71 => ?_)
            · skip
              refine W.ret ?_
              refine QN.thenRet ?_
              refine QN.blkRet ?_
              refine QN.thenRet ?_
              refine QN.blkRet ?_
              refine QN.done0 (.inl rfl) rfl (fun w hw => ?_)
              exact ⟨_, hfin _ P68 (hpi.2 h71), rfl, ((hw.perm (List.Perm.refl _)).part (((List.Sublist.refl _).cons _).cons_cons _))⟩
            · skip
              refine W.skip ?_
              refine QN.seq ?_
              refine W.seq ?_
              refine W.seq ?_
              refine W.region [(0, false), (1, false), (2, false), (3, false), (4, false), (5, false), (6, false), (7, false), (8, false), (9, false), (10, false)] (by kernel_rfl) ?_
              refine T.pure 73 (.int .i64 ((aa : Int))) (by kernel_rfl) (fun w => by kernel_rfl) ?_
              refine T.pure 74 (.bool (decide (0 < (aa : Int)))) (by kernel_rfl) (fun w => by kernel_rfl) ?_
              refine T.pure 75 (.bool (decide (0 < (aa : Int)))) (by kernel_rfl) (fun w => by kernel_rfl) ?_
              refine T.blk [(3, false), (4, false), (5, false), (6, false), (7, false), (8, false), (9, false)] [(10, false)] 2 true (decide (0 < (aa : Int))) 75 82 (.bool (!(lt ((Sort.partialInsertionSort lt (Sort.reverseRange dd aa bb) aa bb).1)[(aa - 1)]! ((Sort.partialInsertionSort lt (Sort.reverseRange dd aa bb) aa bb).1)[((bb - 1) - (pv58 - aa))]!))) (by kernel_rfl) (by kernel_rfl) (by kernel_rfl) (fun hg72 => ?_) ?_
              · have hg72_ := hg72
                have hg72' := of_decide_eq_true hg72
                refine T.pure 76 (.pointer (some ⟨b1, 0, none⟩)) (by kernel_rfl) (fun w => by kernel_rfl) ?_
                refine T.load false 77 (.func (.func kf) #[] lb) 67 b1 0 (by kernel_rfl) (by kernel_rfl) (by kernel_rfl) (fun w h => St.cellM h (.tail _ (.head _)) (by kernel_rfl)) ?_
                refine T.pure 78 (.int .i64 ((aa : Int))) (by kernel_rfl) (fun w => by kernel_rfl) ?_
                refine T.pureE 79 (.int .i64 (IntKind.i64.wrap ((aa : Int) - 1))) (.int .i64 ((aa : Int) - 1)) (by kernel_rfl) (fun w => by kernel_rfl) (wrap_int (by omega) (by omega)) ?_
                refine T.pure 80 (.int .i64 ((((bb - 1) - (pv58 - aa) : Nat) : Int))) (by kernel_rfl) (fun w => by kernel_rfl) ?_
                refine T.callP 81 kf (#[.int .i64 ((aa : Int) - 1), .int .i64 ((((bb - 1) - (pv58 - aa) : Nat) : Int))] ++ lb) (.bool (lt ((Sort.partialInsertionSort lt (Sort.reverseRange dd aa bb) aa bb).1)[(aa - 1)]! ((Sort.partialInsertionSort lt (Sort.reverseRange dd aa bb) aa bb).1)[((bb - 1) - (pv58 - aa))]!)) (by kernel_rfl) (by kernel_rfl) hS.ent ?_ (fun _ _ => trivial) ?_
                · exact fun w hw => hS.less ((b1, Obj.cells #[.func (.func kf) #[] lb, .func (.func sf) #[] sb] 91 (0, 0)) :: H') ((Sort.partialInsertionSort lt (Sort.reverseRange dd aa bb) aa bb).1) w ((aa : Int) - 1) ((((bb - 1) - (pv58 - aa) : Nat) : Int)) (aa - 1) ((bb - 1) - (pv58 - aa)) (by first | assumption | (simp only [Sort.size_swp]; assumption)) (by omega) (by omega) (by omega) (by omega) (show St w00 ((g, Obj.cells (rowb ((Sort.partialInsertionSort lt (Sort.reverseRange dd aa bb) aa bb).1) tail) ty (0, 0)) :: ((b1, Obj.cells #[.func (.func kf) #[] lb, .func (.func sf) #[] sb] 91 (0, 0)) :: (H' ++ H0))) w from (hw))
                refine T.pure 82 (.bool (!(lt ((Sort.partialInsertionSort lt (Sort.reverseRange dd aa bb) aa bb).1)[(aa - 1)]! ((Sort.partialInsertionSort lt (Sort.reverseRange dd aa bb) aa bb).1)[((bb - 1) - (pv58 - aa))]!))) (by kernel_rfl) (fun w => by kernel_rfl) ?_
                exact T.blkEnd (by kernel_rfl) (fun w h => h)
              refine T.and 83 (decide (0 < (aa : Int))) (!(lt ((Sort.partialInsertionSort lt (Sort.reverseRange dd aa bb) aa bb).1)[(aa - 1)]! ((Sort.partialInsertionSort lt (Sort.reverseRange dd aa bb) aa bb).1)[((bb - 1) - (pv58 - aa))]!)) (by kernel_rfl) (by kernel_rfl) ?_
              refine T.nil ?_
              refine QN.seq ?_
              refine W.cond ((decide (0 < (aa : Int))) && (!(lt ((Sort.partialInsertionSort lt (Sort.reverseRange dd aa bb) aa bb).1)[(aa - 1)]! ((Sort.partialInsertionSort lt (Sort.reverseRange dd aa bb) aa bb).1)[((bb - 1) - (pv58 - aa))]!))) (by kernel_rfl) (fun h73 => ?_) (fun h73 => ?_)
              · skip
                have h73l := (Bool.and_eq_true_iff.1 h73).1
                have h73r := (Bool.and_eq_true_iff.1 h73).2
                have h73l' := of_decide_eq_true h73l
                have h73rn := not_eq_true h73r
                refine W.seq ?_
                refine W.region [(0, false), (1, false), (2, false), (3, false), (4, false), (5, false)] (by kernel_rfl) ?_
                refine T.loadR false 84 #[.func (.func kf) #[] lb, .func (.func sf) #[] sb] 91 b1 0 (by kernel_rfl) (by kernel_rfl) (by kernel_rfl) (by kernel_rfl) (fun w h => St.rangeM h #[.func (.func kf) #[] lb, .func (.func sf) #[] sb] (.tail _ (.head _)) (by kernel_rfl)) ?_
                refine T.pure 85 (.int .i64 ((aa : Int))) (by kernel_rfl) (fun w => by kernel_rfl) ?_
                refine T.pure 86 (.int .i64 ((bb : Int))) (by kernel_rfl) (fun w => by kernel_rfl) ?_
                refine T.pure 87 (.int .i64 ((((bb - 1) - (pv58 - aa) : Nat) : Int))) (by kernel_rfl) (fun w => by kernel_rfl) ?_
                have hsz : ((Sort.partialInsertionSort lt (Sort.reverseRange dd aa bb) aa bb).1).size = n := P68.1.trans hdd
                have hre := Sort.round_eq hS.swo (Sort.partitionEqual_holds lt) (d3 := ((Sort.partialInsertionSort lt (Sort.reverseRange dd aa bb) aa bb).1)) (a := aa) (b := bb) (pivot := ((bb - 1) - (pv58 - aa))) (mid := (Sort.partitionEqual lt ((Sort.partialInsertionSort lt (Sort.reverseRange dd aa bb) aa bb).1) aa bb ((bb - 1) - (pv58 - aa))).1) (d4 := (Sort.partitionEqual lt ((Sort.partialInsertionSort lt (Sort.reverseRange dd aa bb) aa bb).1) aa bb ((bb - 1) - (pv58 - aa))).2) (by omega) (by omega) (by omega) (by omega) B69 (not_eq_true h73r) rfl
                obtain ⟨m1, m2, m3, m4, m5⟩ := hre
                refine T.callW 88 83 #[.agg #[.func (.func kf) #[] lb, .func (.func sf) #[] sb], .int .i64 ((aa : Int)), .int .i64 ((bb : Int)), .int .i64 ((((bb - 1) - (pv58 - aa) : Nat) : Int))] (.int .i64 ((((Sort.partitionEqual lt ((Sort.partialInsertionSort lt (Sort.reverseRange dd aa bb) aa bb).1) aa bb ((bb - 1) - (pv58 - aa))).1 : Nat) : Int))) (St w00 ((g, Obj.cells (rowb ((Sort.partitionEqual lt ((Sort.partialInsertionSort lt (Sort.reverseRange dd aa bb) aa bb).1) aa bb ((bb - 1) - (pv58 - aa))).2) tail) ty (0, 0)) :: ((b1, Obj.cells #[.func (.func kf) #[] lb, .func (.func sf) #[] sb] 91 (0, 0)) :: (H' ++ H0)))) (by kernel_rfl) (by kernel_rfl) ent83 ?_ (fun _ _ => trivial) ?_
                · exact fun w hw => partEq_c hS hn ((Sort.partialInsertionSort lt (Sort.reverseRange dd aa bb) aa bb).1) aa bb ((bb - 1) - (pv58 - aa)) hsz (by omega) (by omega) (by omega) ((b1, Obj.cells #[.func (.func kf) #[] lb, .func (.func sf) #[] sb] 91 (0, 0)) :: H') w (show St w00 ((g, Obj.cells (rowb ((Sort.partialInsertionSort lt (Sort.reverseRange dd aa bb) aa bb).1) tail) ty (0, 0)) :: ((b1, Obj.cells #[.func (.func kf) #[] lb, .func (.func sf) #[] sb] 91 (0, 0)) :: (H' ++ H0))) w from (hw))
                refine T.pureE 13 (.int .i64 ((((Sort.partitionEqual lt ((Sort.partialInsertionSort lt (Sort.reverseRange dd aa bb) aa bb).1) aa bb ((bb - 1) - (pv58 - aa))).1 : Nat) : Int))) (.int .i64 ((((Sort.partitionEqual lt ((Sort.partialInsertionSort lt (Sort.reverseRange dd aa bb) aa bb).1) aa bb ((bb - 1) - (pv58 - aa))).1 : Nat) : Int))) (by kernel_rfl) (fun w => by kernel_rfl) (int_eq (by omega)) ?_
                refine T.nil ?_
                refine QN.seq ?_
                refine W.seq ?_
                refine W.region [(0, false), (1, false)] (by kernel_rfl) ?_
                refine T.pure 89 (.int .i64 ((((Sort.partitionEqual lt ((Sort.partialInsertionSort lt (Sort.reverseRange dd aa bb) aa bb).1) aa bb ((bb - 1) - (pv58 - aa))).1 : Nat) : Int))) (by kernel_rfl) (fun w => by kernel_rfl) ?_
                refine T.pureE 1 (.int .i64 ((((Sort.partitionEqual lt ((Sort.partialInsertionSort lt (Sort.reverseRange dd aa bb) aa bb).1) aa bb ((bb - 1) - (pv58 - aa))).1 : Nat) : Int))) (.int .i64 ((((Sort.partitionEqual lt ((Sort.partialInsertionSort lt (Sort.reverseRange dd aa bb) aa bb).1) aa bb ((bb - 1) - (pv58 - aa))).1 : Nat) : Int))) (by kernel_rfl) (fun w => by kernel_rfl) (int_eq (by omega)) ?_
                refine T.nil ?_
                refine QN.seq ?_
                refine W.exit ?_
                refine QN.thenExit ?_
                refine QN.blkHit ?_
                refine QN.back (((Sort.partitionEqual lt ((Sort.partialInsertionSort lt (Sort.reverseRange dd aa bb) aa bb).1) aa bb ((bb - 1) - (pv58 - aa))).1), bb, (Sort.partitionEqual lt ((Sort.partialInsertionSort lt (Sort.reverseRange dd aa bb) aa bb).1) aa bb ((bb - 1) - (pv58 - aa))).2, lim, wb, wp) ?_ ?_ (by kernel_rfl) (fun w h => h.perm ((((List.Perm.refl _).cons _).trans (List.Perm.swap _ _ _)).trans ((List.Perm.refl _).cons _)))
                · show a ≤ ((Sort.partitionEqual lt ((Sort.partialInsertionSort lt (Sort.reverseRange dd aa bb) aa bb).1) aa bb ((bb - 1) - (pv58 - aa))).1) ∧ bb ≤ b ∧ ((Sort.partitionEqual lt ((Sort.partialInsertionSort lt (Sort.reverseRange dd aa bb) aa bb).1) aa bb ((bb - 1) - (pv58 - aa))).1) ≤ bb ∧ ((Sort.partitionEqual lt ((Sort.partialInsertionSort lt (Sort.reverseRange dd aa bb) aa bb).1) aa bb ((bb - 1) - (pv58 - aa))).2).size = n ∧ Sort.Below lt ((Sort.partitionEqual lt ((Sort.partialInsertionSort lt (Sort.reverseRange dd aa bb) aa bb).1) aa bb ((bb - 1) - (pv58 - aa))).1) bb ((Sort.partitionEqual lt ((Sort.partialInsertionSort lt (Sort.reverseRange dd aa bb) aa bb).1) aa bb ((bb - 1) - (pv58 - aa))).2) ∧ 0 ≤ lim ∧ lim ≤ 1000 ∧ ∀ R, Sort.PermIn ((Sort.partitionEqual lt ((Sort.partialInsertionSort lt (Sort.reverseRange dd aa bb) aa bb).1) aa bb ((bb - 1) - (pv58 - aa))).1) bb ((Sort.partitionEqual lt ((Sort.partialInsertionSort lt (Sort.reverseRange dd aa bb) aa bb).1) aa bb ((bb - 1) - (pv58 - aa))).2) R → Sort.SortedIn lt ((Sort.partitionEqual lt ((Sort.partialInsertionSort lt (Sort.reverseRange dd aa bb) aa bb).1) aa bb ((bb - 1) - (pv58 - aa))).1) bb R → Sort.PermIn a b d R ∧ Sort.SortedIn lt a b R
                  exact ⟨by omega, by omega, by omega, m3.trans (P68.1.trans hdd), m4, by omega, by omega, fun R h1 h2 => hfin R (Sort.permIn_trans _ _ _ _ _ P68 (m5 R h1 h2).1) (m5 R h1 h2).2⟩
                · show bb - ((Sort.partitionEqual lt ((Sort.partialInsertionSort lt (Sort.reverseRange dd aa bb) aa bb).1) aa bb ((bb - 1) - (pv58 - aa))).1) < bb - aa; omega
              · skip
                refine W.skip ?_
                refine QN.seq ?_
                refine W.seq ?_
                refine W.region [(0, false), (1, false), (2, false), (3, false), (4, false), (5, false), (6, false), (7, false), (8, false), (9, false)] (by kernel_rfl) ?_
                refine T.loadR false 91 #[.func (.func kf) #[] lb, .func (.func sf) #[] sb] 91 b1 0 (by kernel_rfl) (by kernel_rfl) (by kernel_rfl) (by kernel_rfl) (fun w h => St.rangeM h #[.func (.func kf) #[] lb, .func (.func sf) #[] sb] (.tail _ (.head _)) (by kernel_rfl)) ?_
                refine T.pure 92 (.int .i64 ((aa : Int))) (by kernel_rfl) (fun w => by kernel_rfl) ?_
                refine T.pure 93 (.int .i64 ((bb : Int))) (by kernel_rfl) (fun w => by kernel_rfl) ?_
                refine T.pure 94 (.int .i64 ((((bb - 1) - (pv58 - aa) : Nat) : Int))) (by kernel_rfl) (fun w => by kernel_rfl) ?_
                have hsz : ((Sort.partialInsertionSort lt (Sort.reverseRange dd aa bb) aa bb).1).size = n := P68.1.trans hdd
                have hrp := Sort.round_part hS.swo (Sort.partition_holds lt) (d3 := ((Sort.partialInsertionSort lt (Sort.reverseRange dd aa bb) aa bb).1)) (a := aa) (b := bb) (pivot := ((bb - 1) - (pv58 - aa))) (mid := (Sort.partition lt ((Sort.partialInsertionSort lt (Sort.reverseRange dd aa bb) aa bb).1) aa bb ((bb - 1) - (pv58 - aa))).1) (ap := (Sort.partition lt ((Sort.partialInsertionSort lt (Sort.reverseRange dd aa bb) aa bb).1) aa bb ((bb - 1) - (pv58 - aa))).2.1) (d4 := (Sort.partition lt ((Sort.partialInsertionSort lt (Sort.reverseRange dd aa bb) aa bb).1) aa bb ((bb - 1) - (pv58 - aa))).2.2) (by omega) (by omega) (by omega) B69 rfl
                obtain ⟨m1, m2, m3, m4, m5, m6, m7⟩ := hrp
                refine T.callW 95 84 #[.agg #[.func (.func kf) #[] lb, .func (.func sf) #[] sb], .int .i64 ((aa : Int)), .int .i64 ((bb : Int)), .int .i64 ((((bb - 1) - (pv58 - aa) : Nat) : Int))] (.tuple #[.int .i64 ((((Sort.partition lt ((Sort.partialInsertionSort lt (Sort.reverseRange dd aa bb) aa bb).1) aa bb ((bb - 1) - (pv58 - aa))).1 : Nat) : Int)), .bool ((Sort.partition lt ((Sort.partialInsertionSort lt (Sort.reverseRange dd aa bb) aa bb).1) aa bb ((bb - 1) - (pv58 - aa))).2.1)]) (St w00 ((g, Obj.cells (rowb ((Sort.partition lt ((Sort.partialInsertionSort lt (Sort.reverseRange dd aa bb) aa bb).1) aa bb ((bb - 1) - (pv58 - aa))).2.2) tail) ty (0, 0)) :: ((b1, Obj.cells #[.func (.func kf) #[] lb, .func (.func sf) #[] sb] 91 (0, 0)) :: (H' ++ H0)))) (by kernel_rfl) (by kernel_rfl) ent84 ?_ (fun _ _ => trivial) ?_
                · exact fun w hw => part_c hS hn ((Sort.partialInsertionSort lt (Sort.reverseRange dd aa bb) aa bb).1) aa bb ((bb - 1) - (pv58 - aa)) hsz (by omega) (by omega) (by omega) ((b1, Obj.cells #[.func (.func kf) #[] lb, .func (.func sf) #[] sb] 91 (0, 0)) :: H') w (show St w00 ((g, Obj.cells (rowb ((Sort.partialInsertionSort lt (Sort.reverseRange dd aa bb) aa bb).1) tail) ty (0, 0)) :: ((b1, Obj.cells #[.func (.func kf) #[] lb, .func (.func sf) #[] sb] 91 (0, 0)) :: (H' ++ H0))) w from (hw))
                refine T.pure 90 (.tuple #[.int .i64 ((((Sort.partition lt ((Sort.partialInsertionSort lt (Sort.reverseRange dd aa bb) aa bb).1) aa bb ((bb - 1) - (pv58 - aa))).1 : Nat) : Int)), .bool ((Sort.partition lt ((Sort.partialInsertionSort lt (Sort.reverseRange dd aa bb) aa bb).1) aa bb ((bb - 1) - (pv58 - aa))).2.1)]) (by kernel_rfl) (fun w => by kernel_rfl) ?_
                refine T.pure 96 (.int .i64 ((((Sort.partition lt ((Sort.partialInsertionSort lt (Sort.reverseRange dd aa bb) aa bb).1) aa bb ((bb - 1) - (pv58 - aa))).1 : Nat) : Int))) (by kernel_rfl) (fun w => by kernel_rfl) ?_
                refine T.pure 97 (.bool ((Sort.partition lt ((Sort.partialInsertionSort lt (Sort.reverseRange dd aa bb) aa bb).1) aa bb ((bb - 1) - (pv58 - aa))).2.1)) (by kernel_rfl) (fun w => by kernel_rfl) ?_
                refine T.pureE 14 (.int .i64 ((((Sort.partition lt ((Sort.partialInsertionSort lt (Sort.reverseRange dd aa bb) aa bb).1) aa bb ((bb - 1) - (pv58 - aa))).1 : Nat) : Int))) (.int .i64 ((((Sort.partition lt ((Sort.partialInsertionSort lt (Sort.reverseRange dd aa bb) aa bb).1) aa bb ((bb - 1) - (pv58 - aa))).1 : Nat) : Int))) (by kernel_rfl) (fun w => by kernel_rfl) (int_eq (by omega)) ?_
                refine T.pure 15 (.bool ((Sort.partition lt ((Sort.partialInsertionSort lt (Sort.reverseRange dd aa bb) aa bb).1) aa bb ((bb - 1) - (pv58 - aa))).2.1)) (by kernel_rfl) (fun w => by kernel_rfl) ?_
                refine T.nil ?_
                refine QN.seq ?_
                refine W.seq ?_
                refine W.region [(0, false), (1, false)] (by kernel_rfl) ?_
                refine T.pure 98 (.bool ((Sort.partition lt ((Sort.partialInsertionSort lt (Sort.reverseRange dd aa bb) aa bb).1) aa bb ((bb - 1) - (pv58 - aa))).2.1)) (by kernel_rfl) (fun w => by kernel_rfl) ?_
                refine T.pure 9 (.bool ((Sort.partition lt ((Sort.partialInsertionSort lt (Sort.reverseRange dd aa bb) aa bb).1) aa bb ((bb - 1) - (pv58 - aa))).2.1)) (by kernel_rfl) (fun w => by kernel_rfl) ?_
                refine T.nil ?_
                refine QN.seq ?_
                refine W.seq ?_
                refine W.region [(0, false), (1, false), (2, false), (3, false), (4, false), (5, false), (6, false), (7, false)] (by kernel_rfl) ?_
                refine T.pure 99 (.int .i64 ((((Sort.partition lt ((Sort.partialInsertionSort lt (Sort.reverseRange dd aa bb) aa bb).1) aa bb ((bb - 1) - (pv58 - aa))).1 : Nat) : Int))) (by kernel_rfl) (fun w => by kernel_rfl) ?_
                refine T.pure 100 (.int .i64 ((aa : Int))) (by kernel_rfl) (fun w => by kernel_rfl) ?_
                refine T.pureE 101 (.int .i64 (IntKind.i64.wrap ((((Sort.partition lt ((Sort.partialInsertionSort lt (Sort.reverseRange dd aa bb) aa bb).1) aa bb ((bb - 1) - (pv58 - aa))).1 : Nat) : Int) - (aa : Int)))) (.int .i64 ((((Sort.partition lt ((Sort.partialInsertionSort lt (Sort.reverseRange dd aa bb) aa bb).1) aa bb ((bb - 1) - (pv58 - aa))).1 : Nat) : Int) - (aa : Int))) (by kernel_rfl) (fun w => by kernel_rfl) (wrap_int (by omega) (by omega)) ?_
                refine T.pure 102 (.int .i64 ((bb : Int))) (by kernel_rfl) (fun w => by kernel_rfl) ?_
                refine T.pure 103 (.int .i64 ((((Sort.partition lt ((Sort.partialInsertionSort lt (Sort.reverseRange dd aa bb) aa bb).1) aa bb ((bb - 1) - (pv58 - aa))).1 : Nat) : Int))) (by kernel_rfl) (fun w => by kernel_rfl) ?_
                refine T.pureE 104 (.int .i64 (IntKind.i64.wrap ((bb : Int) - (((Sort.partition lt ((Sort.partialInsertionSort lt (Sort.reverseRange dd aa bb) aa bb).1) aa bb ((bb - 1) - (pv58 - aa))).1 : Nat) : Int)))) (.int .i64 ((bb : Int) - (((Sort.partition lt ((Sort.partialInsertionSort lt (Sort.reverseRange dd aa bb) aa bb).1) aa bb ((bb - 1) - (pv58 - aa))).1 : Nat) : Int))) (by kernel_rfl) (fun w => by kernel_rfl) (wrap_int (by omega) (by omega)) ?_
                refine T.pureE 16 (.int .i64 ((((Sort.partition lt ((Sort.partialInsertionSort lt (Sort.reverseRange dd aa bb) aa bb).1) aa bb ((bb - 1) - (pv58 - aa))).1 : Nat) : Int) - (aa : Int))) (.int .i64 (((((Sort.partition lt ((Sort.partialInsertionSort lt (Sort.reverseRange dd aa bb) aa bb).1) aa bb ((bb - 1) - (pv58 - aa))).1) - aa : Nat) : Int))) (by kernel_rfl) (fun w => by kernel_rfl) (int_eq (by omega)) ?_
                refine T.pureE 17 (.int .i64 ((bb : Int) - (((Sort.partition lt ((Sort.partialInsertionSort lt (Sort.reverseRange dd aa bb) aa bb).1) aa bb ((bb - 1) - (pv58 - aa))).1 : Nat) : Int))) (.int .i64 (((bb - ((Sort.partition lt ((Sort.partialInsertionSort lt (Sort.reverseRange dd aa bb) aa bb).1) aa bb ((bb - 1) - (pv58 - aa))).1) : Nat) : Int))) (by kernel_rfl) (fun w => by kernel_rfl) (int_eq (by omega)) ?_
                refine T.nil ?_
                refine QN.seq ?_
                refine W.seq ?_
                refine W.region [(0, false), (1, false), (2, false)] (by kernel_rfl) ?_
                refine T.pure 105 (.int .i64 (((bb - aa : Nat) : Int))) (by kernel_rfl) (fun w => by kernel_rfl) ?_
                refine T.pureE 106 (.int .i64 (IntKind.i64.wrap ((((bb - aa : Nat) : Int)).tdiv 8))) (.int .i64 (((bb - aa : Nat) : Int) / 8)) (by kernel_rfl) (fun w => by kernel_rfl) (quo_int (by omega) (by decide) (by omega)) ?_
                refine T.pure 18 (.int .i64 (((bb - aa : Nat) : Int) / 8)) (by kernel_rfl) (fun w => by kernel_rfl) ?_
                refine T.nil ?_
                refine QN.seq ?_
                refine W.seq ?_
                refine W.region [(0, false), (1, false), (2, false)] (by kernel_rfl) ?_
                refine T.pure 107 (.int .i64 (((((Sort.partition lt ((Sort.partialInsertionSort lt (Sort.reverseRange dd aa bb) aa bb).1) aa bb ((bb - 1) - (pv58 - aa))).1) - aa : Nat) : Int))) (by kernel_rfl) (fun w => by kernel_rfl) ?_
                refine T.pure 108 (.int .i64 (((bb - ((Sort.partition lt ((Sort.partialInsertionSort lt (Sort.reverseRange dd aa bb) aa bb).1) aa bb ((bb - 1) - (pv58 - aa))).1) : Nat) : Int))) (by kernel_rfl) (fun w => by kernel_rfl) ?_
                refine T.pure 109 (.bool (decide (((((Sort.partition lt ((Sort.partialInsertionSort lt (Sort.reverseRange dd aa bb) aa bb).1) aa bb ((bb - 1) - (pv58 - aa))).1) - aa : Nat) : Int) < ((bb - ((Sort.partition lt ((Sort.partialInsertionSort lt (Sort.reverseRange dd aa bb) aa bb).1) aa bb ((bb - 1) - (pv58 - aa))).1) : Nat) : Int)))) (by kernel_rfl) (fun w => by kernel_rfl) ?_
                refine T.nil ?_
                refine QN.seq ?_
                refine W.cond (decide (((((Sort.partition lt ((Sort.partialInsertionSort lt (Sort.reverseRange dd aa bb) aa bb).1) aa bb ((bb - 1) - (pv58 - aa))).1) - aa : Nat) : Int) < ((bb - ((Sort.partition lt ((Sort.partialInsertionSort lt (Sort.reverseRange dd aa bb) aa bb).1) aa bb ((bb - 1) - (pv58 - aa))).1) : Nat) : Int))) (by kernel_rfl) (fun h74 => ?_) (fun h74 => ?_)
                · skip
                  have h74' := of_decide_eq_true h74
                  refine W.seq ?_
                  refine W.region [(0, false), (1, false), (2, false), (3, false)] (by kernel_rfl) ?_
                  refine T.pure 110 (.int .i64 (((((Sort.partition lt ((Sort.partialInsertionSort lt (Sort.reverseRange dd aa bb) aa bb).1) aa bb ((bb - 1) - (pv58 - aa))).1) - aa : Nat) : Int))) (by kernel_rfl) (fun w => by kernel_rfl) ?_
                  refine T.pure 111 (.int .i64 (((bb - aa : Nat) : Int) / 8)) (by kernel_rfl) (fun w => by kernel_rfl) ?_
                  refine T.pure 112 (.bool (decide ((((bb - aa : Nat) : Int) / 8) ≤ ((((Sort.partition lt ((Sort.partialInsertionSort lt (Sort.reverseRange dd aa bb) aa bb).1) aa bb ((bb - 1) - (pv58 - aa))).1) - aa : Nat) : Int)))) (by kernel_rfl) (fun w => by kernel_rfl) ?_
                  refine T.pure 8 (.bool (decide ((((bb - aa : Nat) : Int) / 8) ≤ ((((Sort.partition lt ((Sort.partialInsertionSort lt (Sort.reverseRange dd aa bb) aa bb).1) aa bb ((bb - 1) - (pv58 - aa))).1) - aa : Nat) : Int)))) (by kernel_rfl) (fun w => by kernel_rfl) ?_
                  refine T.nil ?_
                  refine QN.seq ?_
                  refine W.seq ?_
                  refine W.region [(0, false), (1, false), (2, false), (3, false), (4, false)] (by kernel_rfl) ?_
                  refine T.loadR false 113 #[.func (.func kf) #[] lb, .func (.func sf) #[] sb] 91 b1 0 (by kernel_rfl) (by kernel_rfl) (by kernel_rfl) (by kernel_rfl) (fun w h => St.rangeM h #[.func (.func kf) #[] lb, .func (.func sf) #[] sb] (.tail _ (.head _)) (by kernel_rfl)) ?_
                  refine T.pure 114 (.int .i64 ((aa : Int))) (by kernel_rfl) (fun w => by kernel_rfl) ?_
                  refine T.pure 115 (.int .i64 ((((Sort.partition lt ((Sort.partialInsertionSort lt (Sort.reverseRange dd aa bb) aa bb).1) aa bb ((bb - 1) - (pv58 - aa))).1 : Nat) : Int))) (by kernel_rfl) (fun w => by kernel_rfl) ?_
                  refine T.pure 116 (.int .i64 (lim)) (by kernel_rfl) (fun w => by kernel_rfl) ?_
                  have hsz4 : ((Sort.partition lt ((Sort.partialInsertionSort lt (Sort.reverseRange dd aa bb) aa bb).1) aa bb ((bb - 1) - (pv58 - aa))).2.2).size = n := m3.trans (P68.1.trans hdd)
                  refine T.callG (β := Array α) 117 56 #[.agg #[.func (.func kf) #[] lb, .func (.func sf) #[] sb], .int .i64 ((aa : Int)), .int .i64 ((((Sort.partition lt ((Sort.partialInsertionSort lt (Sort.reverseRange dd aa bb) aa bb).1) aa bb ((bb - 1) - (pv58 - aa))).1 : Nat) : Int)), .int .i64 (lim)] (fun gs => .tuple #[]) (fun gs => St w00 ((g, Obj.cells (rowb gs tail) ty (0, 0)) :: ((b1, Obj.cells #[.func (.func kf) #[] lb, .func (.func sf) #[] sb] 91 (0, 0)) :: (H' ++ H0)))) (fun gs => Sort.PermIn aa ((Sort.partition lt ((Sort.partialInsertionSort lt (Sort.reverseRange dd aa bb) aa bb).1) aa bb ((bb - 1) - (pv58 - aa))).1) ((Sort.partition lt ((Sort.partialInsertionSort lt (Sort.reverseRange dd aa bb) aa bb).1) aa bb ((bb - 1) - (pv58 - aa))).2.2) gs ∧ Sort.SortedIn lt aa ((Sort.partition lt ((Sort.partialInsertionSort lt (Sort.reverseRange dd aa bb) aa bb).1) aa bb ((bb - 1) - (pv58 - aa))).1) gs) (by kernel_rfl) (by kernel_rfl) ent56 ?_ (fun _ _ _ => trivial) ?_
                  · exact fun w hw => ih ((Sort.partition lt ((Sort.partialInsertionSort lt (Sort.reverseRange dd aa bb) aa bb).1) aa bb ((bb - 1) - (pv58 - aa))).2.2) aa ((Sort.partition lt ((Sort.partialInsertionSort lt (Sort.reverseRange dd aa bb) aa bb).1) aa bb ((bb - 1) - (pv58 - aa))).1) lim hsz4 (by omega) (by omega) (by omega) (by omega) (by omega) (m4) ((b1, Obj.cells #[.func (.func kf) #[] lb, .func (.func sf) #[] sb] 91 (0, 0)) :: H') w (show St w00 ((g, Obj.cells (rowb ((Sort.partition lt ((Sort.partialInsertionSort lt (Sort.reverseRange dd aa bb) aa bb).1) aa bb ((bb - 1) - (pv58 - aa))).2.2) tail) ty (0, 0)) :: ((b1, Obj.cells #[.func (.func kf) #[] lb, .func (.func sf) #[] sb] 91 (0, 0)) :: (H' ++ H0))) w from (hw))
                  rintro e75 hp_
                  have hp76 : Sort.PermIn aa ((Sort.partition lt ((Sort.partialInsertionSort lt (Sort.reverseRange dd aa bb) aa bb).1) aa bb ((bb - 1) - (pv58 - aa))).1) ((Sort.partition lt ((Sort.partialInsertionSort lt (Sort.reverseRange dd aa bb) aa bb).1) aa bb ((bb - 1) - (pv58 - aa))).2.2) e75 ∧ Sort.SortedIn lt aa ((Sort.partition lt ((Sort.partialInsertionSort lt (Sort.reverseRange dd aa bb) aa bb).1) aa bb ((bb - 1) - (pv58 - aa))).1) e75 := hp_
                  refine T.nil ?_
                  refine QN.seq ?_
                  refine W.region [(0, false), (1, false), (2, false)] (by kernel_rfl) ?_
                  refine T.pure 118 (.int .i64 ((((Sort.partition lt ((Sort.partialInsertionSort lt (Sort.reverseRange dd aa bb) aa bb).1) aa bb ((bb - 1) - (pv58 - aa))).1 : Nat) : Int))) (by kernel_rfl) (fun w => by kernel_rfl) ?_
                  refine T.pureE 119 (.int .i64 (IntKind.i64.wrap ((((Sort.partition lt ((Sort.partialInsertionSort lt (Sort.reverseRange dd aa bb) aa bb).1) aa bb ((bb - 1) - (pv58 - aa))).1 : Nat) : Int) + 1))) (.int .i64 ((((Sort.partition lt ((Sort.partialInsertionSort lt (Sort.reverseRange dd aa bb) aa bb).1) aa bb ((bb - 1) - (pv58 - aa))).1 : Nat) : Int) + 1)) (by kernel_rfl) (fun w => by kernel_rfl) (wrap_int (by omega) (by omega)) ?_
                  refine T.pureE 1 (.int .i64 ((((Sort.partition lt ((Sort.partialInsertionSort lt (Sort.reverseRange dd aa bb) aa bb).1) aa bb ((bb - 1) - (pv58 - aa))).1 : Nat) : Int) + 1)) (.int .i64 (((((Sort.partition lt ((Sort.partialInsertionSort lt (Sort.reverseRange dd aa bb) aa bb).1) aa bb ((bb - 1) - (pv58 - aa))).1) + 1 : Nat) : Int))) (by kernel_rfl) (fun w => by kernel_rfl) (int_eq (by omega)) ?_
                  refine T.nil ?_
                  refine QN.blkNormal ?_
                  refine QN.back ((Sort.partition lt ((Sort.partialInsertionSort lt (Sort.reverseRange dd aa bb) aa bb).1) aa bb ((bb - 1) - (pv58 - aa))).1 + 1, bb, e75, lim, decide ((((bb - aa : Nat) : Int) / 8) ≤ ((((Sort.partition lt ((Sort.partialInsertionSort lt (Sort.reverseRange dd aa bb) aa bb).1) aa bb ((bb - 1) - (pv58 - aa))).1) - aa : Nat) : Int)), (Sort.partition lt ((Sort.partialInsertionSort lt (Sort.reverseRange dd aa bb) aa bb).1) aa bb ((bb - 1) - (pv58 - aa))).2.1) ?_ ?_ (by kernel_rfl) (fun w h => h.perm ((((List.Perm.refl _).cons _).trans (List.Perm.swap _ _ _)).trans ((List.Perm.refl _).cons _)))
                  · show a ≤ ((Sort.partition lt ((Sort.partialInsertionSort lt (Sort.reverseRange dd aa bb) aa bb).1) aa bb ((bb - 1) - (pv58 - aa))).1 + 1) ∧ bb ≤ b ∧ ((Sort.partition lt ((Sort.partialInsertionSort lt (Sort.reverseRange dd aa bb) aa bb).1) aa bb ((bb - 1) - (pv58 - aa))).1 + 1) ≤ bb ∧ e75.size = n ∧ Sort.Below lt ((Sort.partition lt ((Sort.partialInsertionSort lt (Sort.reverseRange dd aa bb) aa bb).1) aa bb ((bb - 1) - (pv58 - aa))).1 + 1) bb e75 ∧ 0 ≤ lim ∧ lim ≤ 1000 ∧ ∀ R, Sort.PermIn ((Sort.partition lt ((Sort.partialInsertionSort lt (Sort.reverseRange dd aa bb) aa bb).1) aa bb ((bb - 1) - (pv58 - aa))).1 + 1) bb e75 R → Sort.SortedIn lt ((Sort.partition lt ((Sort.partialInsertionSort lt (Sort.reverseRange dd aa bb) aa bb).1) aa bb ((bb - 1) - (pv58 - aa))).1 + 1) bb R → Sort.PermIn a b d R ∧ Sort.SortedIn lt a b R
                    exact ⟨by omega, by omega, by omega, hp76.1.1.trans hsz4, (m6 e75 hp76.1 hp76.2).1, by omega, by omega, fun R h1 h2 => hfin R (Sort.permIn_trans _ _ _ _ _ P68 ((m6 e75 hp76.1 hp76.2).2 R h1 h2).1) ((m6 e75 hp76.1 hp76.2).2 R h1 h2).2⟩
                  · show bb - ((Sort.partition lt ((Sort.partialInsertionSort lt (Sort.reverseRange dd aa bb) aa bb).1) aa bb ((bb - 1) - (pv58 - aa))).1 + 1) < bb - aa; omega
                · skip
                  have h74' := of_decide_eq_false h74
                  refine W.seq ?_
                  refine W.region [(0, false), (1, false), (2, false), (3, false)] (by kernel_rfl) ?_
                  refine T.pure 120 (.int .i64 (((bb - ((Sort.partition lt ((Sort.partialInsertionSort lt (Sort.reverseRange dd aa bb) aa bb).1) aa bb ((bb - 1) - (pv58 - aa))).1) : Nat) : Int))) (by kernel_rfl) (fun w => by kernel_rfl) ?_
                  refine T.pure 121 (.int .i64 (((bb - aa : Nat) : Int) / 8)) (by kernel_rfl) (fun w => by kernel_rfl) ?_
                  refine T.pure 122 (.bool (decide ((((bb - aa : Nat) : Int) / 8) ≤ ((bb - ((Sort.partition lt ((Sort.partialInsertionSort lt (Sort.reverseRange dd aa bb) aa bb).1) aa bb ((bb - 1) - (pv58 - aa))).1) : Nat) : Int)))) (by kernel_rfl) (fun w => by kernel_rfl) ?_
                  refine T.pure 8 (.bool (decide ((((bb - aa : Nat) : Int) / 8) ≤ ((bb - ((Sort.partition lt ((Sort.partialInsertionSort lt (Sort.reverseRange dd aa bb) aa bb).1) aa bb ((bb - 1) - (pv58 - aa))).1) : Nat) : Int)))) (by kernel_rfl) (fun w => by kernel_rfl) ?_
                  refine T.nil ?_
                  refine QN.seq ?_
                  refine W.seq ?_
                  refine W.region [(0, false), (1, false), (2, false), (3, false), (4, false), (5, false)] (by kernel_rfl) ?_
                  refine T.loadR false 123 #[.func (.func kf) #[] lb, .func (.func sf) #[] sb] 91 b1 0 (by kernel_rfl) (by kernel_rfl) (by kernel_rfl) (by kernel_rfl) (fun w h => St.rangeM h #[.func (.func kf) #[] lb, .func (.func sf) #[] sb] (.tail _ (.head _)) (by kernel_rfl)) ?_
                  refine T.pure 124 (.int .i64 ((((Sort.partition lt ((Sort.partialInsertionSort lt (Sort.reverseRange dd aa bb) aa bb).1) aa bb ((bb - 1) - (pv58 - aa))).1 : Nat) : Int))) (by kernel_rfl) (fun w => by kernel_rfl) ?_
                  refine T.pureE 125 (.int .i64 (IntKind.i64.wrap ((((Sort.partition lt ((Sort.partialInsertionSort lt (Sort.reverseRange dd aa bb) aa bb).1) aa bb ((bb - 1) - (pv58 - aa))).1 : Nat) : Int) + 1))) (.int .i64 ((((Sort.partition lt ((Sort.partialInsertionSort lt (Sort.reverseRange dd aa bb) aa bb).1) aa bb ((bb - 1) - (pv58 - aa))).1 : Nat) : Int) + 1)) (by kernel_rfl) (fun w => by kernel_rfl) (wrap_int (by omega) (by omega)) ?_
                  refine T.pure 126 (.int .i64 ((bb : Int))) (by kernel_rfl) (fun w => by kernel_rfl) ?_
                  refine T.pure 127 (.int .i64 (lim)) (by kernel_rfl) (fun w => by kernel_rfl) ?_
                  have hsz4 : ((Sort.partition lt ((Sort.partialInsertionSort lt (Sort.reverseRange dd aa bb) aa bb).1) aa bb ((bb - 1) - (pv58 - aa))).2.2).size = n := m3.trans (P68.1.trans hdd)
                  refine T.callG (β := Array α) 128 56 #[.agg #[.func (.func kf) #[] lb, .func (.func sf) #[] sb], .int .i64 ((((Sort.partition lt ((Sort.partialInsertionSort lt (Sort.reverseRange dd aa bb) aa bb).1) aa bb ((bb - 1) - (pv58 - aa))).1 : Nat) : Int) + 1), .int .i64 ((bb : Int)), .int .i64 (lim)] (fun gs => .tuple #[]) (fun gs => St w00 ((g, Obj.cells (rowb gs tail) ty (0, 0)) :: ((b1, Obj.cells #[.func (.func kf) #[] lb, .func (.func sf) #[] sb] 91 (0, 0)) :: (H' ++ H0)))) (fun gs => Sort.PermIn (((Sort.partition lt ((Sort.partialInsertionSort lt (Sort.reverseRange dd aa bb) aa bb).1) aa bb ((bb - 1) - (pv58 - aa))).1) + 1) bb ((Sort.partition lt ((Sort.partialInsertionSort lt (Sort.reverseRange dd aa bb) aa bb).1) aa bb ((bb - 1) - (pv58 - aa))).2.2) gs ∧ Sort.SortedIn lt (((Sort.partition lt ((Sort.partialInsertionSort lt (Sort.reverseRange dd aa bb) aa bb).1) aa bb ((bb - 1) - (pv58 - aa))).1) + 1) bb gs) (by kernel_rfl) (by kernel_rfl) ent56 ?_ (fun _ _ _ => trivial) ?_
                  · exact fun w hw => ih ((Sort.partition lt ((Sort.partialInsertionSort lt (Sort.reverseRange dd aa bb) aa bb).1) aa bb ((bb - 1) - (pv58 - aa))).2.2) (((Sort.partition lt ((Sort.partialInsertionSort lt (Sort.reverseRange dd aa bb) aa bb).1) aa bb ((bb - 1) - (pv58 - aa))).1) + 1) bb lim hsz4 (by omega) (by omega) (by omega) (by omega) (by omega) (m5) ((b1, Obj.cells #[.func (.func kf) #[] lb, .func (.func sf) #[] sb] 91 (0, 0)) :: H') w (show St w00 ((g, Obj.cells (rowb ((Sort.partition lt ((Sort.partialInsertionSort lt (Sort.reverseRange dd aa bb) aa bb).1) aa bb ((bb - 1) - (pv58 - aa))).2.2) tail) ty (0, 0)) :: ((b1, Obj.cells #[.func (.func kf) #[] lb, .func (.func sf) #[] sb] 91 (0, 0)) :: (H' ++ H0))) w from (hw))
                  rintro e77 hp_
                  have hp78 : Sort.PermIn (((Sort.partition lt ((Sort.partialInsertionSort lt (Sort.reverseRange dd aa bb) aa bb).1) aa bb ((bb - 1) - (pv58 - aa))).1) + 1) bb ((Sort.partition lt ((Sort.partialInsertionSort lt (Sort.reverseRange dd aa bb) aa bb).1) aa bb ((bb - 1) - (pv58 - aa))).2.2) e77 ∧ Sort.SortedIn lt (((Sort.partition lt ((Sort.partialInsertionSort lt (Sort.reverseRange dd aa bb) aa bb).1) aa bb ((bb - 1) - (pv58 - aa))).1) + 1) bb e77 := hp_
                  refine T.nil ?_
                  refine QN.seq ?_
                  refine W.region [(0, false), (1, false)] (by kernel_rfl) ?_
                  refine T.pure 129 (.int .i64 ((((Sort.partition lt ((Sort.partialInsertionSort lt (Sort.reverseRange dd aa bb) aa bb).1) aa bb ((bb - 1) - (pv58 - aa))).1 : Nat) : Int))) (by kernel_rfl) (fun w => by kernel_rfl) ?_
                  refine T.pure 2 (.int .i64 ((((Sort.partition lt ((Sort.partialInsertionSort lt (Sort.reverseRange dd aa bb) aa bb).1) aa bb ((bb - 1) - (pv58 - aa))).1 : Nat) : Int))) (by kernel_rfl) (fun w => by kernel_rfl) ?_
                  refine T.nil ?_
                  refine QN.blkNormal ?_
                  refine QN.back (aa, (Sort.partition lt ((Sort.partialInsertionSort lt (Sort.reverseRange dd aa bb) aa bb).1) aa bb ((bb - 1) - (pv58 - aa))).1, e77, lim, decide ((((bb - aa : Nat) : Int) / 8) ≤ ((bb - ((Sort.partition lt ((Sort.partialInsertionSort lt (Sort.reverseRange dd aa bb) aa bb).1) aa bb ((bb - 1) - (pv58 - aa))).1) : Nat) : Int)), (Sort.partition lt ((Sort.partialInsertionSort lt (Sort.reverseRange dd aa bb) aa bb).1) aa bb ((bb - 1) - (pv58 - aa))).2.1) ?_ ?_ (by kernel_rfl) (fun w h => h.perm ((((List.Perm.refl _).cons _).trans (List.Perm.swap _ _ _)).trans ((List.Perm.refl _).cons _)))
                  · show a ≤ aa ∧ ((Sort.partition lt ((Sort.partialInsertionSort lt (Sort.reverseRange dd aa bb) aa bb).1) aa bb ((bb - 1) - (pv58 - aa))).1) ≤ b ∧ aa ≤ ((Sort.partition lt ((Sort.partialInsertionSort lt (Sort.reverseRange dd aa bb) aa bb).1) aa bb ((bb - 1) - (pv58 - aa))).1) ∧ e77.size = n ∧ Sort.Below lt aa ((Sort.partition lt ((Sort.partialInsertionSort lt (Sort.reverseRange dd aa bb) aa bb).1) aa bb ((bb - 1) - (pv58 - aa))).1) e77 ∧ 0 ≤ lim ∧ lim ≤ 1000 ∧ ∀ R, Sort.PermIn aa ((Sort.partition lt ((Sort.partialInsertionSort lt (Sort.reverseRange dd aa bb) aa bb).1) aa bb ((bb - 1) - (pv58 - aa))).1) e77 R → Sort.SortedIn lt aa ((Sort.partition lt ((Sort.partialInsertionSort lt (Sort.reverseRange dd aa bb) aa bb).1) aa bb ((bb - 1) - (pv58 - aa))).1) R → Sort.PermIn a b d R ∧ Sort.SortedIn lt a b R
                    exact ⟨by omega, by omega, by omega, hp78.1.1.trans hsz4, (m7 e77 hp78.1 hp78.2).1, by omega, by omega, fun R h1 h2 => hfin R (Sort.permIn_trans _ _ _ _ _ P68 ((m7 e77 hp78.1 hp78.2).2 R h1 h2).1) ((m7 e77 hp78.1 hp78.2).2 R h1 h2).2⟩
                  · show ((Sort.partition lt ((Sort.partialInsertionSort lt (Sort.reverseRange dd aa bb) aa bb).1) aa bb ((bb - 1) - (pv58 - aa))).1) - aa < bb - aa; omega
          · skip
            refine W.skip ?_
            refine QN.seq ?_
            refine W.seq ?_
            refine W.seq ?_
            refine W.region [(0, false), (1, false), (2, false), (3, false), (4, false), (5, false), (6, false), (7, false), (8, false), (9, false), (10, false)] (by kernel_rfl) ?_
            refine T.pure 73 (.int .i64 ((aa : Int))) (by kernel_rfl) (fun w => by kernel_rfl) ?_
            refine T.pure 74 (.bool (decide (0 < (aa : Int)))) (by kernel_rfl) (fun w => by kernel_rfl) ?_
            refine T.pure 75 (.bool (decide (0 < (aa : Int)))) (by kernel_rfl) (fun w => by kernel_rfl) ?_
            refine T.blk [(3, false), (4, false), (5, false), (6, false), (7, false), (8, false), (9, false)] [(10, false)] 2 true (decide (0 < (aa : Int))) 75 82 (.bool (!(lt (Sort.reverseRange dd aa bb)[(aa - 1)]! (Sort.reverseRange dd aa bb)[((bb - 1) - (pv58 - aa))]!))) (by kernel_rfl) (by kernel_rfl) (by kernel_rfl) (fun hg79 => ?_) ?_
            · have hg79_ := hg79
              have hg79' := of_decide_eq_true hg79
              refine T.pure 76 (.pointer (some ⟨b1, 0, none⟩)) (by kernel_rfl) (fun w => by kernel_rfl) ?_
              refine T.load false 77 (.func (.func kf) #[] lb) 67 b1 0 (by kernel_rfl) (by kernel_rfl) (by kernel_rfl) (fun w h => St.cellM h (.tail _ (.head _)) (by kernel_rfl)) ?_
              refine T.pure 78 (.int .i64 ((aa : Int))) (by kernel_rfl) (fun w => by kernel_rfl) ?_
              refine T.pureE 79 (.int .i64 (IntKind.i64.wrap ((aa : Int) - 1))) (.int .i64 ((aa : Int) - 1)) (by kernel_rfl) (fun w => by kernel_rfl) (wrap_int (by omega) (by omega)) ?_
              refine T.pure 80 (.int .i64 ((((bb - 1) - (pv58 - aa) : Nat) : Int))) (by kernel_rfl) (fun w => by kernel_rfl) ?_
              refine T.callP 81 kf (#[.int .i64 ((aa : Int) - 1), .int .i64 ((((bb - 1) - (pv58 - aa) : Nat) : Int))] ++ lb) (.bool (lt (Sort.reverseRange dd aa bb)[(aa - 1)]! (Sort.reverseRange dd aa bb)[((bb - 1) - (pv58 - aa))]!)) (by kernel_rfl) (by kernel_rfl) hS.ent ?_ (fun _ _ => trivial) ?_
              · exact fun w hw => hS.less ((b1, Obj.cells #[.func (.func kf) #[] lb, .func (.func sf) #[] sb] 91 (0, 0)) :: H') (Sort.reverseRange dd aa bb) w ((aa : Int) - 1) ((((bb - 1) - (pv58 - aa) : Nat) : Int)) (aa - 1) ((bb - 1) - (pv58 - aa)) (by first | assumption | (simp only [Sort.size_swp]; assumption)) (by omega) (by omega) (by omega) (by omega) (show St w00 ((g, Obj.cells (rowb (Sort.reverseRange dd aa bb) tail) ty (0, 0)) :: ((b1, Obj.cells #[.func (.func kf) #[] lb, .func (.func sf) #[] sb] 91 (0, 0)) :: (H' ++ H0))) w from (hw))
              refine T.pure 82 (.bool (!(lt (Sort.reverseRange dd aa bb)[(aa - 1)]! (Sort.reverseRange dd aa bb)[((bb - 1) - (pv58 - aa))]!))) (by kernel_rfl) (fun w => by kernel_rfl) ?_
              exact T.blkEnd (by kernel_rfl) (fun w h => h)
            refine T.and 83 (decide (0 < (aa : Int))) (!(lt (Sort.reverseRange dd aa bb)[(aa - 1)]! (Sort.reverseRange dd aa bb)[((bb - 1) - (pv58 - aa))]!)) (by kernel_rfl) (by kernel_rfl) ?_
            refine T.nil ?_
            refine QN.seq ?_
            refine W.cond ((decide (0 < (aa : Int))) && (!(lt (Sort.reverseRange dd aa bb)[(aa - 1)]! (Sort.reverseRange dd aa bb)[((bb - 1) - (pv58 - aa))]!))) (by kernel_rfl) (fun h80 => ?_) (fun h80 => ?_)
            · skip
              have h80l := (Bool.and_eq_true_iff.1 h80).1
              have h80r := (Bool.and_eq_true_iff.1 h80).2
              have h80l' := of_decide_eq_true h80l
              have h80rn := not_eq_true h80r
              refine W.seq ?_
              refine W.region [(0, false), (1, false), (2, false), (3, false), (4, false), (5, false)] (by kernel_rfl) ?_
              refine T.loadR false 84 #[.func (.func kf) #[] lb, .func (.func sf) #[] sb] 91 b1 0 (by kernel_rfl) (by kernel_rfl) (by kernel_rfl) (by kernel_rfl) (fun w h => St.rangeM h #[.func (.func kf) #[] lb, .func (.func sf) #[] sb] (.tail _ (.head _)) (by kernel_rfl)) ?_
              refine T.pure 85 (.int .i64 ((aa : Int))) (by kernel_rfl) (fun w => by kernel_rfl) ?_
              refine T.pure 86 (.int .i64 ((bb : Int))) (by kernel_rfl) (fun w => by kernel_rfl) ?_
              refine T.pure 87 (.int .i64 ((((bb - 1) - (pv58 - aa) : Nat) : Int))) (by kernel_rfl) (fun w => by kernel_rfl) ?_
              have hsz : (Sort.reverseRange dd aa bb).size = n := P62.1.trans hdd
              have hre := Sort.round_eq hS.swo (Sort.partitionEqual_holds lt) (d3 := (Sort.reverseRange dd aa bb)) (a := aa) (b := bb) (pivot := ((bb - 1) - (pv58 - aa))) (mid := (Sort.partitionEqual lt (Sort.reverseRange dd aa bb) aa bb ((bb - 1) - (pv58 - aa))).1) (d4 := (Sort.partitionEqual lt (Sort.reverseRange dd aa bb) aa bb ((bb - 1) - (pv58 - aa))).2) (by omega) (by omega) (by omega) (by omega) B63 (not_eq_true h80r) rfl
              obtain ⟨m1, m2, m3, m4, m5⟩ := hre
              refine T.callW 88 83 #[.agg #[.func (.func kf) #[] lb, .func (.func sf) #[] sb], .int .i64 ((aa : Int)), .int .i64 ((bb : Int)), .int .i64 ((((bb - 1) - (pv58 - aa) : Nat) : Int))] (.int .i64 ((((Sort.partitionEqual lt (Sort.reverseRange dd aa bb) aa bb ((bb - 1) - (pv58 - aa))).1 : Nat) : Int))) (St w00 ((g, Obj.cells (rowb ((Sort.partitionEqual lt (Sort.reverseRange dd aa bb) aa bb ((bb - 1) - (pv58 - aa))).2) tail) ty (0, 0)) :: ((b1, Obj.cells #[.func (.func kf) #[] lb, .func (.func sf) #[] sb] 91 (0, 0)) :: (H' ++ H0)))) (by kernel_rfl) (by kernel_rfl) ent83 ?_ (fun _ _ => trivial) ?_
              · exact fun w hw => partEq_c hS hn (Sort.reverseRange dd aa bb) aa bb ((bb - 1) - (pv58 - aa)) hsz (by omega) (by omega) (by omega) ((b1, Obj.cells #[.func (.func kf) #[] lb, .func (.func sf) #[] sb] 91 (0, 0)) :: H') w (show St w00 ((g, Obj.cells (rowb (Sort.reverseRange dd aa bb) tail) ty (0, 0)) :: ((b1, Obj.cells #[.func (.func kf) #[] lb, .func (.func sf) #[] sb] 91 (0, 0)) :: (H' ++ H0))) w from (hw))
              refine T.pureE 13 (.int .i64 ((((Sort.partitionEqual lt (Sort.reverseRange dd aa bb) aa bb ((bb - 1) - (pv58 - aa))).1 : Nat) : Int))) (.int .i64 ((((Sort.partitionEqual lt (Sort.reverseRange dd aa bb) aa bb ((bb - 1) - (pv58 - aa))).1 : Nat) : Int))) (by kernel_rfl) (fun w => by kernel_rfl) (int_eq (by omega)) ?_
              refine T.nil ?_
              refine QN.seq ?_
              refine W.seq ?_
              refine W.region [(0, false), (1, false)] (by kernel_rfl) ?_
              refine T.pure 89 (.int .i64 ((((Sort.partitionEqual lt (Sort.reverseRange dd aa bb) aa bb ((bb - 1) - (pv58 - aa))).1 : Nat) : Int))) (by kernel_rfl) (fun w => by kernel_rfl) ?_
              refine T.pureE 1 (.int .i64 ((((Sort.partitionEqual lt (Sort.reverseRange dd aa bb) aa bb ((bb - 1) - (pv58 - aa))).1 : Nat) : Int))) (.int .i64 ((((Sort.partitionEqual lt (Sort.reverseRange dd aa bb) aa bb ((bb - 1) - (pv58 - aa))).1 : Nat) : Int))) (by kernel_rfl) (fun w => by kernel_rfl) (int_eq (by omega)) ?_
              refine T.nil ?_
              refine QN.seq ?_
              refine W.exit ?_
              refine QN.thenExit ?_
              refine QN.blkHit ?_
              refine QN.back (((Sort.partitionEqual lt (Sort.reverseRange dd aa bb) aa bb ((bb - 1) - (pv58 - aa))).1), bb, (Sort.partitionEqual lt (Sort.reverseRange dd aa bb) aa bb ((bb - 1) - (pv58 - aa))).2, lim, wb, wp) ?_ ?_ (by kernel_rfl) (fun w h => h.perm ((((List.Perm.refl _).cons _).trans (List.Perm.swap _ _ _)).trans ((List.Perm.refl _).cons _)))
              · show a ≤ ((Sort.partitionEqual lt (Sort.reverseRange dd aa bb) aa bb ((bb - 1) - (pv58 - aa))).1) ∧ bb ≤ b ∧ ((Sort.partitionEqual lt (Sort.reverseRange dd aa bb) aa bb ((bb - 1) - (pv58 - aa))).1) ≤ bb ∧ ((Sort.partitionEqual lt (Sort.reverseRange dd aa bb) aa bb ((bb - 1) - (pv58 - aa))).2).size = n ∧ Sort.Below lt ((Sort.partitionEqual lt (Sort.reverseRange dd aa bb) aa bb ((bb - 1) - (pv58 - aa))).1) bb ((Sort.partitionEqual lt (Sort.reverseRange dd aa bb) aa bb ((bb - 1) - (pv58 - aa))).2) ∧ 0 ≤ lim ∧ lim ≤ 1000 ∧ ∀ R, Sort.PermIn ((Sort.partitionEqual lt (Sort.reverseRange dd aa bb) aa bb ((bb - 1) - (pv58 - aa))).1) bb ((Sort.partitionEqual lt (Sort.reverseRange dd aa bb) aa bb ((bb - 1) - (pv58 - aa))).2) R → Sort.SortedIn lt ((Sort.partitionEqual lt (Sort.reverseRange dd aa bb) aa bb ((bb - 1) - (pv58 - aa))).1) bb R → Sort.PermIn a b d R ∧ Sort.SortedIn lt a b R
                exact ⟨by omega, by omega, by omega, m3.trans (P62.1.trans hdd), m4, by omega, by omega, fun R h1 h2 => hfin R (Sort.permIn_trans _ _ _ _ _ P62 (m5 R h1 h2).1) (m5 R h1 h2).2⟩
              · show bb - ((Sort.partitionEqual lt (Sort.reverseRange dd aa bb) aa bb ((bb - 1) - (pv58 - aa))).1) < bb - aa; omega
            · skip
              refine W.skip ?_
              refine QN.seq ?_
              refine W.seq ?_
              refine W.region [(0, false), (1, false), (2, false), (3, false), (4, false), (5, false), (6, false), (7, false), (8, false), (9, false)] (by kernel_rfl) ?_
              refine T.loadR false 91 #[.func (.func kf) #[] lb, .func (.func sf) #[] sb] 91 b1 0 (by kernel_rfl) (by kernel_rfl) (by kernel_rfl) (by kernel_rfl) (fun w h => St.rangeM h #[.func (.func kf) #[] lb, .func (.func sf) #[] sb] (.tail _ (.head _)) (by kernel_rfl)) ?_
              refine T.pure 92 (.int .i64 ((aa : Int))) (by kernel_rfl) (fun w => by kernel_rfl) ?_
              refine T.pure 93 (.int .i64 ((bb : Int))) (by kernel_rfl) (fun w => by kernel_rfl) ?_
              refine T.pure 94 (.int .i64 ((((bb - 1) - (pv58 - aa) : Nat) : Int))) (by kernel_rfl) (fun w => by kernel_rfl) ?_
              have hsz : (Sort.reverseRange dd aa bb).size = n := P62.1.trans hdd
              have hrp := Sort.round_part hS.swo (Sort.partition_holds lt) (d3 := (Sort.reverseRange dd aa bb)) (a := aa) (b := bb) (pivot := ((bb - 1) - (pv58 - aa))) (mid := (Sort.partition lt (Sort.reverseRange dd aa bb) aa bb ((bb - 1) - (pv58 - aa))).1) (ap := (Sort.partition lt (Sort.reverseRange dd aa bb) aa bb ((bb - 1) - (pv58 - aa))).2.1) (d4 := (Sort.partition lt (Sort.reverseRange dd aa bb) aa bb ((bb - 1) - (pv58 - aa))).2.2) (by omega) (by omega) (by omega) B63 rfl
              obtain ⟨m1, m2, m3, m4, m5, m6, m7⟩ := hrp
              refine T.callW 95 84 #[.agg #[.func (.func kf) #[] lb, .func (.func sf) #[] sb], .int .i64 ((aa : Int)), .int .i64 ((bb : Int)), .int .i64 ((((bb - 1) - (pv58 - aa) : Nat) : Int))] (.tuple #[.int .i64 ((((Sort.partition lt (Sort.reverseRange dd aa bb) aa bb ((bb - 1) - (pv58 - aa))).1 : Nat) : Int)), .bool ((Sort.partition lt (Sort.reverseRange dd aa bb) aa bb ((bb - 1) - (pv58 - aa))).2.1)]) (St w00 ((g, Obj.cells (rowb ((Sort.partition lt (Sort.reverseRange dd aa bb) aa bb ((bb - 1) - (pv58 - aa))).2.2) tail) ty (0, 0)) :: ((b1, Obj.cells #[.func (.func kf) #[] lb, .func (.func sf) #[] sb] 91 (0, 0)) :: (H' ++ H0)))) (by kernel_rfl) (by kernel_rfl) ent84 ?_ (fun _ _ => trivial) ?_
              · exact fun w hw => part_c hS hn (Sort.reverseRange dd aa bb) aa bb ((bb - 1) - (pv58 - aa)) hsz (by omega) (by omega) (by omega) ((b1, Obj.cells #[.func (.func kf) #[] lb, .func (.func sf) #[] sb] 91 (0, 0)) :: H') w (show St w00 ((g, Obj.cells (rowb (Sort.reverseRange dd aa bb) tail) ty (0, 0)) :: ((b1, Obj.cells #[.func (.func kf) #[] lb, .func (.func sf) #[] sb] 91 (0, 0)) :: (H' ++ H0))) w from (hw))
              refine T.pure 90 (.tuple #[.int .i64 ((((Sort.partition lt (Sort.reverseRange dd aa bb) aa bb ((bb - 1) - (pv58 - aa))).1 : Nat) : Int)), .bool ((Sort.partition lt (Sort.reverseRange dd aa bb) aa bb ((bb - 1) - (pv58 - aa))).2.1)]) (by kernel_rfl) (fun w => by kernel_rfl) ?_
              refine T.pure 96 (.int .i64 ((((Sort.partition lt (Sort.reverseRange dd aa bb) aa bb ((bb - 1) - (pv58 - aa))).1 : Nat) : Int))) (by kernel_rfl) (fun w => by kernel_rfl) ?_
              refine T.pure 97 (.bool ((Sort.partition lt (Sort.reverseRange dd aa bb) aa bb ((bb - 1) - (pv58 - aa))).2.1)) (by kernel_rfl) (fun w => by kernel_rfl) ?_
              refine T.pureE 14 (.int .i64 ((((Sort.partition lt (Sort.reverseRange dd aa bb) aa bb ((bb - 1) - (pv58 - aa))).1 : Nat) : Int))) (.int .i64 ((((Sort.partition lt (Sort.reverseRange dd aa bb) aa bb ((bb - 1) - (pv58 - aa))).1 : Nat) : Int))) (by kernel_rfl) (fun w => by kernel_rfl) (int_eq (by omega)) ?_
              refine T.pure 15 (.bool ((Sort.partition lt (Sort.reverseRange dd aa bb) aa bb ((bb - 1) - (pv58 - aa))).2.1)) (by kernel_rfl) (fun w => by kernel_rfl) ?_
              refine T.nil ?_
              refine QN.seq ?_
              refine W.seq ?_
              refine W.region [(0, false), (1, false)] (by kernel_rfl) ?_
              refine T.pure 98 (.bool ((Sort.partition lt (Sort.reverseRange dd aa bb) aa bb ((bb - 1) - (pv58 - aa))).2.1)) (by kernel_rfl) (fun w => by kernel_rfl) ?_
              refine T.pure 9 (.bool ((Sort.partition lt (Sort.reverseRange dd aa bb) aa bb ((bb - 1) - (pv58 - aa))).2.1)) (by kernel_rfl) (fun w => by kernel_rfl) ?_
              refine T.nil ?_
              refine QN.seq ?_
              refine W.seq ?_
              refine W.region [(0, false), (1, false), (2, false), (3, false), (4, false), (5, false), (6, false), (7, false)] (by kernel_rfl) ?_
              refine T.pure 99 (.int .i64 ((((Sort.partition lt (Sort.reverseRange dd aa bb) aa bb ((bb - 1) - (pv58 - aa))).1 : Nat) : Int))) (by kernel_rfl) (fun w => by kernel_rfl) ?_
              refine T.pure 100 (.int .i64 ((aa : Int))) (by kernel_rfl) (fun w => by kernel_rfl) ?_
              refine T.pureE 101 (.int .i64 (IntKind.i64.wrap ((((Sort.partition lt (Sort.reverseRange dd aa bb) aa bb ((bb - 1) - (pv58 - aa))).1 : Nat) : Int) - (aa : Int)))) (.int .i64 ((((Sort.partition lt (Sort.reverseRange dd aa bb) aa bb ((bb - 1) - (pv58 - aa))).1 : Nat) : Int) - (aa : Int))) (by kernel_rfl) (fun w => by kernel_rfl) (wrap_int (by omega) (by omega)) ?_
              refine T.pure 102 (.int .i64 ((bb : Int))) (by kernel_rfl) (fun w => by kernel_rfl) ?_
              refine T.pure 103 (.int .i64 ((((Sort.partition lt (Sort.reverseRange dd aa bb) aa bb ((bb - 1) - (pv58 - aa))).1 : Nat) : Int))) (by kernel_rfl) (fun w => by kernel_rfl) ?_
              refine T.pureE 104 (.int .i64 (IntKind.i64.wrap ((bb : Int) - (((Sort.partition lt (Sort.reverseRange dd aa bb) aa bb ((bb - 1) - (pv58 - aa))).1 : Nat) : Int)))) (.int .i64 ((bb : Int) - (((Sort.partition lt (Sort.reverseRange dd aa bb) aa bb ((bb - 1) - (pv58 - aa))).1 : Nat) : Int))) (by kernel_rfl) (fun w => by kernel_rfl) (wrap_int (by omega) (by omega)) ?_
              refine T.pureE 16 (.int .i64 ((((Sort.partition lt (Sort.reverseRange dd aa bb) aa bb ((bb - 1) - (pv58 - aa))).1 : Nat) : Int) - (aa : Int))) (.int .i64 (((((Sort.partition lt (Sort.reverseRange dd aa bb) aa bb ((bb - 1) - (pv58 - aa))).1) - aa : Nat) : Int))) (by kernel_rfl) (fun w => by kernel_rfl) (int_eq (by omega)) ?_
              refine T.pureE 17 (.int .i64 ((bb : Int) - (((Sort.partition lt (Sort.reverseRange dd aa bb) aa bb ((bb - 1) - (pv58 - aa))).1 : Nat) : Int))) (.int .i64 (((bb - ((Sort.partition lt (Sort.reverseRange dd aa bb) aa bb ((bb - 1) - (pv58 - aa))).1) : Nat) : Int))) (by kernel_rfl) (fun w => by kernel_rfl) (int_eq (by omega)) ?_
              refine T.nil ?_
              refine QN.seq ?_
              refine W.seq ?_
              refine W.region [(0, false), (1, false), (2, false)] (by kernel_rfl) ?_
              refine T.pure 105 (.int .i64 (((bb - aa : Nat) : Int))) (by kernel_rfl) (fun w => by kernel_rfl) ?_
              refine T.pureE 106 (.int .i64 (IntKind.i64.wrap ((((bb - aa : Nat) : Int)).tdiv 8))) (.int .i64 (((bb - aa : Nat) : Int) / 8)) (by kernel_rfl) (fun w => by kernel_rfl) (quo_int (by omega) (by decide) (by omega)) ?_
              refine T.pure 18 (.int .i64 (((bb - aa : Nat) : Int) / 8)) (by kernel_rfl) (fun w => by kernel_rfl) ?_
              refine T.nil ?_
              refine QN.seq ?_
              refine W.seq ?_
              refine W.region [(0, false), (1, false), (2, false)] (by kernel_rfl) ?_
              refine T.pure 107 (.int .i64 (((((Sort.partition lt (Sort.reverseRange dd aa bb) aa bb ((bb - 1) - (pv58 - aa))).1) - aa : Nat) : Int))) (by kernel_rfl) (fun w => by kernel_rfl) ?_
              refine T.pure 108 (.int .i64 (((bb - ((Sort.partition lt (Sort.reverseRange dd aa bb) aa bb ((bb - 1) - (pv58 - aa))).1) : Nat) : Int))) (by kernel_rfl) (fun w => by kernel_rfl) ?_
              refine T.pure 109 (.bool (decide (((((Sort.partition lt (Sort.reverseRange dd aa bb) aa bb ((bb - 1) - (pv58 - aa))).1) - aa : Nat) : Int) < ((bb - ((Sort.partition lt (Sort.reverseRange dd aa bb) aa bb ((bb - 1) - (pv58 - aa))).1) : Nat) : Int)))) (by kernel_rfl) (fun w => by kernel_rfl) ?_
              refine T.nil ?_
              refine QN.seq ?_
              refine W.cond (decide (((((Sort.partition lt (Sort.reverseRange dd aa bb) aa bb ((bb - 1) - (pv58 - aa))).1) - aa : Nat) : Int) < ((bb - ((Sort.partition lt (Sort.reverseRange dd aa bb) aa bb ((bb - 1) - (pv58 - aa))).1) : Nat) : Int))) (by kernel_rfl) (fun h81 => ?_) (fun h81 => ?_)
              · skip
                have h81' := of_decide_eq_true h81
                refine W.seq ?_
                refine W.region [(0, false), (1, false), (2, false), (3, false)] (by kernel_rfl) ?_
                refine T.pure 110 (.int .i64 (((((Sort.partition lt (Sort.reverseRange dd aa bb) aa bb ((bb - 1) - (pv58 - aa))).1) - aa : Nat) : Int))) (by kernel_rfl) (fun w => by kernel_rfl) ?_
                refine T.pure 111 (.int .i64 (((bb - aa : Nat) : Int) / 8)) (by kernel_rfl) (fun w => by kernel_rfl) ?_
                refine T.pure 112 (.bool (decide ((((bb - aa : Nat) : Int) / 8) ≤ ((((Sort.partition lt (Sort.reverseRange dd aa bb) aa bb ((bb - 1) - (pv58 - aa))).1) - aa : Nat) : Int)))) (by kernel_rfl) (fun w => by kernel_rfl) ?_
                refine T.pure 8 (.bool (decide ((((bb - aa : Nat) : Int) / 8) ≤ ((((Sort.partition lt (Sort.reverseRange dd aa bb) aa bb ((bb - 1) - (pv58 - aa))).1) - aa : Nat) : Int)))) (by kernel_rfl) (fun w => by kernel_rfl) ?_
                refine T.nil ?_
                refine QN.seq ?_
                refine W.seq ?_
                refine W.region [(0, false), (1, false), (2, false), (3, false), (4, false)] (by kernel_rfl) ?_
                refine T.loadR false 113 #[.func (.func kf) #[] lb, .func (.func sf) #[] sb] 91 b1 0 (by kernel_rfl) (by kernel_rfl) (by kernel_rfl) (by kernel_rfl) (fun w h => St.rangeM h #[.func (.func kf) #[] lb, .func (.func sf) #[] sb] (.tail _ (.head _)) (by kernel_rfl)) ?_
                refine T.pure 114 (.int .i64 ((aa : Int))) (by kernel_rfl) (fun w => by kernel_rfl) ?_
                refine T.pure 115 (.int .i64 ((((Sort.partition lt (Sort.reverseRange dd aa bb) aa bb ((bb - 1) - (pv58 - aa))).1 : Nat) : Int))) (by kernel_rfl) (fun w => by kernel_rfl) ?_
                refine T.pure 116 (.int .i64 (lim)) (by kernel_rfl) (fun w => by kernel_rfl) ?_
                have hsz4 : ((Sort.partition lt (Sort.reverseRange dd aa bb) aa bb ((bb - 1) - (pv58 - aa))).2.2).size = n := m3.trans (P62.1.trans hdd)
                refine T.callG (β := Array α) 117 56 #[.agg #[.func (.func kf) #[] lb, .func (.func sf) #[] sb], .int .i64 ((aa : Int)), .int .i64 ((((Sort.partition lt (Sort.reverseRange dd aa bb) aa bb ((bb - 1) - (pv58 - aa))).1 : Nat) : Int)), .int .i64 (lim)] (fun gs => .tuple #[]) (fun gs => St w00 ((g, Obj.cells (rowb gs tail) ty (0, 0)) :: ((b1, Obj.cells #[.func (.func kf) #[] lb, .func (.func sf) #[] sb] 91 (0, 0)) :: (H' ++ H0)))) (fun gs => Sort.PermIn aa ((Sort.partition lt (Sort.reverseRange dd aa bb) aa bb ((bb - 1) - (pv58 - aa))).1) ((Sort.partition lt (Sort.reverseRange dd aa bb) aa bb ((bb - 1) - (pv58 - aa))).2.2) gs ∧ Sort.SortedIn lt aa ((Sort.partition lt (Sort.reverseRange dd aa bb) aa bb ((bb - 1) - (pv58 - aa))).1) gs) (by kernel_rfl) (by kernel_rfl) ent56 ?_ (fun _ _ _ => trivial) ?_
                · exact fun w hw => ih ((Sort.partition lt (Sort.reverseRange dd aa bb) aa bb ((bb - 1) - (pv58 - aa))).2.2) aa ((Sort.partition lt (Sort.reverseRange dd aa bb) aa bb ((bb - 1) - (pv58 - aa))).1) lim hsz4 (by omega) (by omega) (by omega) (by omega) (by omega) (m4) ((b1, Obj.cells #[.func (.func kf) #[] lb, .func (.func sf) #[] sb] 91 (0, 0)) :: H') w (show St w00 ((g, Obj.cells (rowb ((Sort.partition lt (Sort.reverseRange dd aa bb) aa bb ((bb - 1) - (pv58 - aa))).2.2) tail) ty (0, 0)) :: ((b1, Obj.cells #[.func (.func kf) #[] lb, .func (.func sf) #[] sb] 91 (0, 0)) :: (H' ++ H0))) w from (hw))
                rintro e82 hp_
                have hp83 : Sort.PermIn aa ((Sort.partition lt (Sort.reverseRange dd aa bb) aa bb ((bb - 1) - (pv58 - aa))).1) ((Sort.partition lt (Sort.reverseRange dd aa bb) aa bb ((bb - 1) - (pv58 - aa))).2.2) e82 ∧ Sort.SortedIn lt aa ((Sort.partition lt (Sort.reverseRange dd aa bb) aa bb ((bb - 1) - (pv58 - aa))).1) e82 := hp_
                refine T.nil ?_
                refine QN.seq ?_
                refine W.region [(0, false), (1, false), (2, false)] (by kernel_rfl) ?_
                refine T.pure 118 (.int .i64 ((((Sort.partition lt (Sort.reverseRange dd aa bb) aa bb ((bb - 1) - (pv58 - aa))).1 : Nat) : Int))) (by kernel_rfl) (fun w => by kernel_rfl) ?_
                refine T.pureE 119 (.int .i64 (IntKind.i64.wrap ((((Sort.partition lt (Sort.reverseRange dd aa bb) aa bb ((bb - 1) - (pv58 - aa))).1 : Nat) : Int) + 1))) (.int .i64 ((((Sort.partition lt (Sort.reverseRange dd aa bb) aa bb ((bb - 1) - (pv58 - aa))).1 : Nat) : Int) + 1)) (by kernel_rfl) (fun w => by kernel_rfl) (wrap_int (by omega) (by omega)) ?_
                refine T.pureE 1 (.int .i64 ((((Sort.partition lt (Sort.reverseRange dd aa bb) aa bb ((bb - 1) - (pv58 - aa))).1 : Nat) : Int) + 1)) (.int .i64 (((((Sort.partition lt (Sort.reverseRange dd aa bb) aa bb ((bb - 1) - (pv58 - aa))).1) + 1 : Nat) : Int))) (by kernel_rfl) (fun w => by kernel_rfl) (int_eq (by omega)) ?_
                refine T.nil ?_
                refine QN.blkNormal ?_
                refine QN.back ((Sort.partition lt (Sort.reverseRange dd aa bb) aa bb ((bb - 1) - (pv58 - aa))).1 + 1, bb, e82, lim, decide ((((bb - aa : Nat) : Int) / 8) ≤ ((((Sort.partition lt (Sort.reverseRange dd aa bb) aa bb ((bb - 1) - (pv58 - aa))).1) - aa : Nat) : Int)), (Sort.partition lt (Sort.reverseRange dd aa bb) aa bb ((bb - 1) - (pv58 - aa))).2.1) ?_ ?_ (by kernel_rfl) (fun w h => h.perm ((((List.Perm.refl _).cons _).trans (List.Perm.swap _ _ _)).trans ((List.Perm.refl _).cons _)))
                · show a ≤ ((Sort.partition lt (Sort.reverseRange dd aa bb) aa bb ((bb - 1) - (pv58 - aa))).1 + 1) ∧ bb ≤ b ∧ ((Sort.partition lt (Sort.reverseRange dd aa bb) aa bb ((bb - 1) - (pv58 - aa))).1 + 1) ≤ bb ∧ e82.size = n ∧ Sort.Below lt ((Sort.partition lt (Sort.reverseRange dd aa bb) aa bb ((bb - 1) - (pv58 - aa))).1 + 1) bb e82 ∧ 0 ≤ lim ∧ lim ≤ 1000 ∧ ∀ R, Sort.PermIn ((Sort.partition lt (Sort.reverseRange dd aa bb) aa bb ((bb - 1) - (pv58 - aa))).1 + 1) bb e82 R → Sort.SortedIn lt ((Sort.partition lt (Sort.reverseRange dd aa bb) aa bb ((bb - 1) - (pv58 - aa))).1 + 1) bb R → Sort.PermIn a b d R ∧ Sort.SortedIn lt a b R
                  exact ⟨by omega, by omega, by omega, hp83.1.1.trans hsz4, (m6 e82 hp83.1 hp83.2).1, by omega, by omega, fun R h1 h2 => hfin R (Sort.permIn_trans _ _ _ _ _ P62 ((m6 e82 hp83.1 hp83.2).2 R h1 h2).1) ((m6 e82 hp83.1 hp83.2).2 R h1 h2).2⟩
                · show bb - ((Sort.partition lt (Sort.reverseRange dd aa bb) aa bb ((bb - 1) - (pv58 - aa))).1 + 1) < bb - aa; omega
              · skip
                have h81' := of_decide_eq_false h81
                refine W.seq ?_
                refine W.region [(0, false), (1, false), (2, false), (3, false)] (by kernel_rfl) ?_
                refine T.pure 120 (.int .i64 (((bb - ((Sort.partition lt (Sort.reverseRange dd aa bb) aa bb ((bb - 1) - (pv58 - aa))).1) : Nat) : Int))) (by kernel_rfl) (fun w => by kernel_rfl) ?_
                refine T.pure 121 (.int .i64 (((bb - aa : Nat) : Int) / 8)) (by kernel_rfl) (fun w => by kernel_rfl) ?_
                refine T.pure 122 (.bool (decide ((((bb - aa : Nat) : Int) / 8) ≤ ((bb - ((Sort.partition lt (Sort.reverseRange dd aa bb) aa bb ((bb - 1) - (pv58 - aa))).1) : Nat) : Int)))) (by kernel_rfl) (fun w => by kernel_rfl) ?_
                refine T.pure 8 (.bool (decide ((((bb - aa : Nat) : Int) / 8) ≤ ((bb - ((Sort.partition lt (Sort.reverseRange dd aa bb) aa bb ((bb - 1) - (pv58 - aa))).1) : Nat) : Int)))) (by kernel_rfl) (fun w => by kernel_rfl) ?_
                refine T.nil ?_
                refine QN.seq ?_
                refine W.seq ?_
                refine W.region [(0, false), (1, false), (2, false), (3, false), (4, false), (5, false)] (by kernel_rfl) ?_
                refine T.loadR false 123 #[.func (.func kf) #[] lb, .func (.func sf) #[] sb] 91 b1 0 (by kernel_rfl) (by kernel_rfl) (by kernel_rfl) (by kernel_rfl) (fun w h => St.rangeM h #[.func (.func kf) #[] lb, .func (.func sf) #[] sb] (.tail _ (.head _)) (by kernel_rfl)) ?_
                refine T.pure 124 (.int .i64 ((((Sort.partition lt (Sort.reverseRange dd aa bb) aa bb ((bb - 1) - (pv58 - aa))).1 : Nat) : Int))) (by kernel_rfl) (fun w => by kernel_rfl) ?_
                refine T.pureE 125 (.int .i64 (IntKind.i64.wrap ((((Sort.partition lt (Sort.reverseRange dd aa bb) aa bb ((bb - 1) - (pv58 - aa))).1 : Nat) : Int) + 1))) (.int .i64 ((((Sort.partition lt (Sort.reverseRange dd aa bb) aa bb ((bb - 1) - (pv58 - aa))).1 : Nat) : Int) + 1)) (by kernel_rfl) (fun w => by kernel_rfl) (wrap_int (by omega) (by omega)) ?_
                refine T.pure 126 (.int .i64 ((bb : Int))) (by kernel_rfl) (fun w => by kernel_rfl) ?_
                refine T.pure 127 (.int .i64 (lim)) (by kernel_rfl) (fun w => by kernel_rfl) ?_
                have hsz4 : ((Sort.partition lt (Sort.reverseRange dd aa bb) aa bb ((bb - 1) - (pv58 - aa))).2.2).size = n := m3.trans (P62.1.trans hdd)
                refine T.callG (β := Array α) 128 56 #[.agg #[.func (.func kf) #[] lb, .func (.func sf) #[] sb], .int .i64 ((((Sort.partition lt (Sort.reverseRange dd aa bb) aa bb ((bb - 1) - (pv58 - aa))).1 : Nat) : Int) + 1), .int .i64 ((bb : Int)), .int .i64 (lim)] (fun gs => .tuple #[]) (fun gs => St w00 ((g, Obj.cells (rowb gs tail) ty (0, 0)) :: ((b1, Obj.cells #[.func (.func kf) #[] lb, .func (.func sf) #[] sb] 91 (0, 0)) :: (H' ++ H0)))) (fun gs => Sort.PermIn (((Sort.partition lt (Sort.reverseRange dd aa bb) aa bb ((bb - 1) - (pv58 - aa))).1) + 1) bb ((Sort.partition lt (Sort.reverseRange dd aa bb) aa bb ((bb - 1) - (pv58 - aa))).2.2) gs ∧ Sort.SortedIn lt (((Sort.partition lt (Sort.reverseRange dd aa bb) aa bb ((bb - 1) - (pv58 - aa))).1) + 1) bb gs) (by kernel_rfl) (by kernel_rfl) ent56 ?_ (fun _ _ _ => trivial) ?_
                · exact fun w hw => ih ((Sort.partition lt (Sort.reverseRange dd aa bb) aa bb ((bb - 1) - (pv58 - aa))).2.2) (((Sort.partition lt (Sort.reverseRange dd aa bb) aa bb ((bb - 1) - (pv58 - aa))).1) + 1) bb lim hsz4 (by omega) (by omega) (by omega) (by omega) (by omega) (m5) ((b1, Obj.cells #[.func (.func kf) #[] lb, .func (.func sf) #[] sb] 91 (0, 0)) :: H') w (show St w00 ((g, Obj.cells (rowb ((Sort.partition lt (Sort.reverseRange dd aa bb) aa bb ((bb - 1) - (pv58 - aa))).2.2) tail) ty (0, 0)) :: ((b1, Obj.cells #[.func (.func kf) #[] lb, .func (.func sf) #[] sb] 91 (0, 0)) :: (H' ++ H0))) w from (hw))
                rintro e84 hp_
                have hp85 : Sort.PermIn (((Sort.partition lt (Sort.reverseRange dd aa bb) aa bb ((bb - 1) - (pv58 - aa))).1) + 1) bb ((Sort.partition lt (Sort.reverseRange dd aa bb) aa bb ((bb - 1) - (pv58 - aa))).2.2) e84 ∧ Sort.SortedIn lt (((Sort.partition lt (Sort.reverseRange dd aa bb) aa bb ((bb - 1) - (pv58 - aa))).1) + 1) bb e84 := hp_
                refine T.nil ?_
                refine QN.seq ?_
                refine W.region [(0, false), (1, false)] (by kernel_rfl) ?_
                refine T.pure 129 (.int .i64 ((((Sort.partition lt (Sort.reverseRange dd aa bb) aa bb ((bb - 1) - (pv58 - aa))).1 : Nat) : Int))) (by kernel_rfl) (fun w => by kernel_rfl) ?_
                refine T.pure 2 (.int .i64 ((((Sort.partition lt (Sort.reverseRange dd aa bb) aa bb ((bb - 1) - (pv58 - aa))).1 : Nat) : Int))) (by kernel_rfl) (fun w => by kernel_rfl) ?_
                refine T.nil ?_
                refine QN.blkNormal ?_
                refine QN.back (aa, (Sort.partition lt (Sort.reverseRange dd aa bb) aa bb ((bb - 1) - (pv58 - aa))).1, e84, lim, decide ((((bb - aa : Nat) : Int) / 8) ≤ ((bb - ((Sort.partition lt (Sort.reverseRange dd aa bb) aa bb ((bb - 1) - (pv58 - aa))).1) : Nat) : Int)), (Sort.partition lt (Sort.reverseRange dd aa bb) aa bb ((bb - 1) - (pv58 - aa))).2.1) ?_ ?_ (by kernel_rfl) (fun w h => h.perm ((((List.Perm.refl _).cons _).trans (List.Perm.swap _ _ _)).trans ((List.Perm.refl _).cons _)))
                · show a ≤ aa ∧ ((Sort.partition lt (Sort.reverseRange dd aa bb) aa bb ((bb - 1) - (pv58 - aa))).1) ≤ b ∧ aa ≤ ((Sort.partition lt (Sort.reverseRange dd aa bb) aa bb ((bb - 1) - (pv58 - aa))).1) ∧ e84.size = n ∧ Sort.Below lt aa ((Sort.partition lt (Sort.reverseRange dd aa bb) aa bb ((bb - 1) - (pv58 - aa))).1) e84 ∧ 0 ≤ lim ∧ lim ≤ 1000 ∧ ∀ R, Sort.PermIn aa ((Sort.partition lt (Sort.reverseRange dd aa bb) aa bb ((bb - 1) - (pv58 - aa))).1) e84 R → Sort.SortedIn lt aa ((Sort.partition lt (Sort.reverseRange dd aa bb) aa bb ((bb - 1) - (pv58 - aa))).1) R → Sort.PermIn a b d R ∧ Sort.SortedIn lt a b R
                  exact ⟨by omega, by omega, by omega, hp85.1.1.trans hsz4, (m7 e84 hp85.1 hp85.2).1, by omega, by omega, fun R h1 h2 => hfin R (Sort.permIn_trans _ _ _ _ _ P62 ((m7 e84 hp85.1 hp85.2).2 R h1 h2).1) ((m7 e84 hp85.1 hp85.2).2 R h1 h2).2⟩
                · show ((Sort.partition lt (Sort.reverseRange dd aa bb) aa bb ((bb - 1) - (pv58 - aa))).1) - aa < bb - aa; omega
        · skip
          have h61' := ne_of_beq_false h61
          refine W.skip ?_
          refine QN.seq ?_
          refine W.seq ?_
          refine W.seq ?_
          refine W.region [(0, false), (1, false), (2, false), (3, false), (4, false), (5, false), (6, false), (7, false)] (by kernel_rfl) ?_
          refine T.pure 61 (.bool (wb)) (by kernel_rfl) (fun w => by kernel_rfl) ?_
          refine T.pure 62 (.bool (wb)) (by kernel_rfl) (fun w => by kernel_rfl) ?_
          refine T.blk [(2, false)] [(3, false), (4, false), (5, false), (6, false), (7, false)] 1 true (wb) 62 63 (.bool (wp)) (by kernel_rfl) (by kernel_rfl) (by kernel_rfl) (fun hg86 => ?_) ?_
          · have hg86_ := hg86
            refine T.pure 63 (.bool (wp)) (by kernel_rfl) (fun w => by kernel_rfl) ?_
            exact T.blkEnd (by kernel_rfl) (fun w h => h)
          refine T.and 64 (wb) (wp) (by kernel_rfl) (by kernel_rfl) ?_
          refine T.pure 65 (.bool (wb && wp)) (by kernel_rfl) (fun w => by kernel_rfl) ?_
          refine T.blk [(5, false), (6, false)] [(7, false)] 4 true (wb && wp) 65 67 (.bool (hint59 == 1)) (by kernel_rfl) (by kernel_rfl) (by kernel_rfl) (fun hg87 => ?_) ?_
          · have hg87_ := hg87
            have hg87l := (Bool.and_eq_true_iff.1 hg87).1
            have hg87r := (Bool.and_eq_true_iff.1 hg87).2
            refine T.pure 66 (.int .i64 (hint59)) (by kernel_rfl) (fun w => by kernel_rfl) ?_
            refine T.pure 67 (.bool (hint59 == 1)) (by kernel_rfl) (fun w => by kernel_rfl) ?_
            exact T.blkEnd (by kernel_rfl) (fun w h => h)
          refine T.and 68 (wb && wp) (hint59 == 1) (by kernel_rfl) (by kernel_rfl) ?_
          refine T.nil ?_
          refine QN.seq ?_
          refine W.cond ((wb && wp) && (hint59 == 1)) (by kernel_rfl) (fun h88 => ?_) (fun h88 => ?_)
          · skip
            have h88l := (Bool.and_eq_true_iff.1 h88).1
            have h88r := (Bool.and_eq_true_iff.1 h88).2
            have h88ll := (Bool.and_eq_true_iff.1 h88l).1
            have h88lr := (Bool.and_eq_true_iff.1 h88l).2
            have h88r' := eq_of_beq h88r
            refine W.seq ?_
            refine W.region [(0, false), (1, false), (2, false), (3, false)] (by kernel_rfl) ?_
            refine T.loadR false 69 #[.func (.func kf) #[] lb, .func (.func sf) #[] sb] 91 b1 0 (by kernel_rfl) (by kernel_rfl) (by kernel_rfl) (by kernel_rfl) (fun w h => St.rangeM h #[.func (.func kf) #[] lb, .func (.func sf) #[] sb] (.tail _ (.head _)) (by kernel_rfl)) ?_
            refine T.pure 70 (.int .i64 ((aa : Int))) (by kernel_rfl) (fun w => by kernel_rfl) ?_
            refine T.pure 71 (.int .i64 ((bb : Int))) (by kernel_rfl) (fun w => by kernel_rfl) ?_
            have hsz : dd.size = n := P0.1.trans hdd
            have hpi := Sort.partialInsertionSort_holds (lt := lt) hS.swo dd aa bb (by omega) (by omega) hB
            have P89 : Sort.PermIn aa bb dd ((Sort.partialInsertionSort lt dd aa bb).1) := Sort.permIn_trans _ _ _ _ _ P0 (hpi.1)
            have hz91 : ((Sort.partialInsertionSort lt dd aa bb).1).size = n := P89.1.trans hdd
            have B90 : Sort.Below lt aa bb ((Sort.partialInsertionSort lt dd aa bb).1) := hB.perm (by omega) P89
            refine T.callW 72 82 #[.agg #[.func (.func kf) #[] lb, .func (.func sf) #[] sb], .int .i64 ((aa : Int)), .int .i64 ((bb : Int))] (.bool ((Sort.partialInsertionSort lt dd aa bb).2)) (St w00 ((g, Obj.cells (rowb ((Sort.partialInsertionSort lt dd aa bb).1) tail) ty (0, 0)) :: ((b1, Obj.cells #[.func (.func kf) #[] lb, .func (.func sf) #[] sb] 91 (0, 0)) :: (H' ++ H0)))) (by kernel_rfl) (by kernel_rfl) ent82 ?_ (fun _ _ => trivial) ?_
            · exact fun w hw => partial_c hS hn dd aa bb hsz (by omega) (by omega) ((b1, Obj.cells #[.func (.func kf) #[] lb, .func (.func sf) #[] sb] 91 (0, 0)) :: H') w (show St w00 ((g, Obj.cells (rowb dd tail) ty (0, 0)) :: ((b1, Obj.cells #[.func (.func kf) #[] lb, .func (.func sf) #[] sb] 91 (0, 0)) :: (H' ++ H0))) w from (hw))
            refine T.nil ?_
            refine QN.seq ?_
            refine W.cond ((Sort.partialInsertionSort lt dd aa bb).2) (by kernel_rfl) (fun h92 => ?_) (fun h92 => ?_)
            · skip
              refine W.ret ?_
              refine QN.thenRet ?_
              refine QN.blkRet ?_
              refine QN.thenRet ?_
              refine QN.blkRet ?_
              refine QN.done0 (.inl rfl) rfl (fun w hw => ?_)
              exact ⟨_, hfin _ P89 (hpi.2 h92), rfl, ((hw.perm (List.Perm.refl _)).part (((List.Sublist.refl _).cons _).cons_cons _))⟩
            · skip
              refine W.skip ?_
              refine QN.seq ?_
              refine W.seq ?_
              refine W.seq ?_
              refine W.region [(0, false), (1, false), (2, false), (3, false), (4, false), (5, false), (6, false), (7, false), (8, false), (9, false), (10, false)] (by kernel_rfl) ?_
              refine T.pure 73 (.int .i64 ((aa : Int))) (by kernel_rfl) (fun w => by kernel_rfl) ?_
              refine T.pure 74 (.bool (decide (0 < (aa : Int)))) (by kernel_rfl) (fun w => by kernel_rfl) ?_
              refine T.pure 75 (.bool (decide (0 < (aa : Int)))) (by kernel_rfl) (fun w => by kernel_rfl) ?_
              refine T.blk [(3, false), (4, false), (5, false), (6, false), (7, false), (8, false), (9, false)] [(10, false)] 2 true (decide (0 < (aa : Int))) 75 82 (.bool (!(lt ((Sort.partialInsertionSort lt dd aa bb).1)[(aa - 1)]! ((Sort.partialInsertionSort lt dd aa bb).1)[pv58]!))) (by kernel_rfl) (by kernel_rfl) (by kernel_rfl) (fun hg93 => ?_) ?_
              · have hg93_ := hg93
                have hg93' := of_decide_eq_true hg93
                refine T.pure 76 (.pointer (some ⟨b1, 0, none⟩)) (by kernel_rfl) (fun w => by kernel_rfl) ?_
                refine T.load false 77 (.func (.func kf) #[] lb) 67 b1 0 (by kernel_rfl) (by kernel_rfl) (by kernel_rfl) (fun w h => St.cellM h (.tail _ (.head _)) (by kernel_rfl)) ?_
                refine T.pure 78 (.int .i64 ((aa : Int))) (by kernel_rfl) (fun w => by kernel_rfl) ?_
                refine T.pureE 79 (.int .i64 (IntKind.i64.wrap ((aa : Int) - 1))) (.int .i64 ((aa : Int) - 1)) (by kernel_rfl) (fun w => by kernel_rfl) (wrap_int (by omega) (by omega)) ?_
                refine T.pure 80 (.int .i64 ((pv58 : Int))) (by kernel_rfl) (fun w => by kernel_rfl) ?_
                refine T.callP 81 kf (#[.int .i64 ((aa : Int) - 1), .int .i64 ((pv58 : Int))] ++ lb) (.bool (lt ((Sort.partialInsertionSort lt dd aa bb).1)[(aa - 1)]! ((Sort.partialInsertionSort lt dd aa bb).1)[pv58]!)) (by kernel_rfl) (by kernel_rfl) hS.ent ?_ (fun _ _ => trivial) ?_
                · exact fun w hw => hS.less ((b1, Obj.cells #[.func (.func kf) #[] lb, .func (.func sf) #[] sb] 91 (0, 0)) :: H') ((Sort.partialInsertionSort lt dd aa bb).1) w ((aa : Int) - 1) ((pv58 : Int)) (aa - 1) pv58 (by first | assumption | (simp only [Sort.size_swp]; assumption)) (by omega) (by omega) (by omega) (by omega) (show St w00 ((g, Obj.cells (rowb ((Sort.partialInsertionSort lt dd aa bb).1) tail) ty (0, 0)) :: ((b1, Obj.cells #[.func (.func kf) #[] lb, .func (.func sf) #[] sb] 91 (0, 0)) :: (H' ++ H0))) w from (hw))
                refine T.pure 82 (.bool (!(lt ((Sort.partialInsertionSort lt dd aa bb).1)[(aa - 1)]! ((Sort.partialInsertionSort lt dd aa bb).1)[pv58]!))) (by kernel_rfl) (fun w => by kernel_rfl) ?_
                exact T.blkEnd (by kernel_rfl) (fun w h => h)
              refine T.and 83 (decide (0 < (aa : Int))) (!(lt ((Sort.partialInsertionSort lt dd aa bb).1)[(aa - 1)]! ((Sort.partialInsertionSort lt dd aa bb).1)[pv58]!)) (by kernel_rfl) (by kernel_rfl) ?_
              refine T.nil ?_
              refine QN.seq ?_
              refine W.cond ((decide (0 < (aa : Int))) && (!(lt ((Sort.partialInsertionSort lt dd aa bb).1)[(aa - 1)]! ((Sort.partialInsertionSort lt dd aa bb).1)[pv58]!))) (by kernel_rfl) (fun h94 => ?_) (fun h94 => ?_)
              · skip
                have h94l := (Bool.and_eq_true_iff.1 h94).1
                have h94r := (Bool.and_eq_true_iff.1 h94).2
                have h94l' := of_decide_eq_true h94l
                have h94rn := not_eq_true h94r
                refine W.seq ?_
                refine W.region [(0, false), (1, false), (2, false), (3, false), (4, false), (5, false)] (by kernel_rfl) ?_
                refine T.loadR false 84 #[.func (.func kf) #[] lb, .func (.func sf) #[] sb] 91 b1 0 (by kernel_rfl) (by kernel_rfl) (by kernel_rfl) (by kernel_rfl) (fun w h => St.rangeM h #[.func (.func kf) #[] lb, .func (.func sf) #[] sb] (.tail _ (.head _)) (by kernel_rfl)) ?_
                refine T.pure 85 (.int .i64 ((aa : Int))) (by kernel_rfl) (fun w => by kernel_rfl) ?_
                refine T.pure 86 (.int .i64 ((bb : Int))) (by kernel_rfl) (fun w => by kernel_rfl) ?_
                refine T.pure 87 (.int .i64 ((pv58 : Int))) (by kernel_rfl) (fun w => by kernel_rfl) ?_
                have hsz : ((Sort.partialInsertionSort lt dd aa bb).1).size = n := P89.1.trans hdd
                have hre := Sort.round_eq hS.swo (Sort.partitionEqual_holds lt) (d3 := ((Sort.partialInsertionSort lt dd aa bb).1)) (a := aa) (b := bb) (pivot := pv58) (mid := (Sort.partitionEqual lt ((Sort.partialInsertionSort lt dd aa bb).1) aa bb pv58).1) (d4 := (Sort.partitionEqual lt ((Sort.partialInsertionSort lt dd aa bb).1) aa bb pv58).2) (by omega) (by omega) (by omega) (by omega) B90 (not_eq_true h94r) rfl
                obtain ⟨m1, m2, m3, m4, m5⟩ := hre
                refine T.callW 88 83 #[.agg #[.func (.func kf) #[] lb, .func (.func sf) #[] sb], .int .i64 ((aa : Int)), .int .i64 ((bb : Int)), .int .i64 ((pv58 : Int))] (.int .i64 ((((Sort.partitionEqual lt ((Sort.partialInsertionSort lt dd aa bb).1) aa bb pv58).1 : Nat) : Int))) (St w00 ((g, Obj.cells (rowb ((Sort.partitionEqual lt ((Sort.partialInsertionSort lt dd aa bb).1) aa bb pv58).2) tail) ty (0, 0)) :: ((b1, Obj.cells #[.func (.func kf) #[] lb, .func (.func sf) #[] sb] 91 (0, 0)) :: (H' ++ H0)))) (by kernel_rfl) (by kernel_rfl) ent83 ?_ (fun _ _ => trivial) ?_
                · exact fun w hw => partEq_c hS hn ((Sort.partialInsertionSort lt dd aa bb).1) aa bb pv58 hsz (by omega) (by omega) (by omega) ((b1, Obj.cells #[.func (.func kf) #[] lb, .func (.func sf) #[] sb] 91 (0, 0)) :: H') w (show St w00 ((g, Obj.cells (rowb ((Sort.partialInsertionSort lt dd aa bb).1) tail) ty (0, 0)) :: ((b1, Obj.cells #[.func (.func kf) #[] lb, .func (.func sf) #[] sb] 91 (0, 0)) :: (H' ++ H0))) w from (hw))
                refine T.pureE 13 (.int .i64 ((((Sort.partitionEqual lt ((Sort.partialInsertionSort lt dd aa bb).1) aa bb pv58).1 : Nat) : Int))) (.int .i64 ((((Sort.partitionEqual lt ((Sort.partialInsertionSort lt dd aa bb).1) aa bb pv58).1 : Nat) : Int))) (by kernel_rfl) (fun w => by kernel_rfl) (int_eq (by omega)) ?_
                refine T.nil ?_
                refine QN.seq ?_
                refine W.seq ?_
                refine W.region [(0, false), (1, false)] (by kernel_rfl) ?_
                refine T.pure 89 (.int .i64 ((((Sort.partitionEqual lt ((Sort.partialInsertionSort lt dd aa bb).1) aa bb pv58).1 : Nat) : Int))) (by kernel_rfl) (fun w => by kernel_rfl) ?_
                refine T.pureE 1 (.int .i64 ((((Sort.partitionEqual lt ((Sort.partialInsertionSort lt dd aa bb).1) aa bb pv58).1 : Nat) : Int))) (.int .i64 ((((Sort.partitionEqual lt ((Sort.partialInsertionSort lt dd aa bb).1) aa bb pv58).1 : Nat) : Int))) (by kernel_rfl) (fun w => by kernel_rfl) (int_eq (by omega)) ?_
                refine T.nil ?_
                refine QN.seq ?_
                refine W.exit ?_
                refine QN.thenExit ?_
                refine QN.blkHit ?_
                refine QN.back (((Sort.partitionEqual lt ((Sort.partialInsertionSort lt dd aa bb).1) aa bb pv58).1), bb, (Sort.partitionEqual lt ((Sort.partialInsertionSort lt dd aa bb).1) aa bb pv58).2, lim, wb, wp) ?_ ?_ (by kernel_rfl) (fun w h => h.perm ((((List.Perm.refl _).cons _).trans (List.Perm.swap _ _ _)).trans ((List.Perm.refl _).cons _)))
                · show a ≤ ((Sort.partitionEqual lt ((Sort.partialInsertionSort lt dd aa bb).1) aa bb pv58).1) ∧ bb ≤ b ∧ ((Sort.partitionEqual lt ((Sort.partialInsertionSort lt dd aa bb).1) aa bb pv58).1) ≤ bb ∧ ((Sort.partitionEqual lt ((Sort.partialInsertionSort lt dd aa bb).1) aa bb pv58).2).size = n ∧ Sort.Below lt ((Sort.partitionEqual lt ((Sort.partialInsertionSort lt dd aa bb).1) aa bb pv58).1) bb ((Sort.partitionEqual lt ((Sort.partialInsertionSort lt dd aa bb).1) aa bb pv58).2) ∧ 0 ≤ lim ∧ lim ≤ 1000 ∧ ∀ R, Sort.PermIn ((Sort.partitionEqual lt ((Sort.partialInsertionSort lt dd aa bb).1) aa bb pv58).1) bb ((Sort.partitionEqual lt ((Sort.partialInsertionSort lt dd aa bb).1) aa bb pv58).2) R → Sort.SortedIn lt ((Sort.partitionEqual lt ((Sort.partialInsertionSort lt dd aa bb).1) aa bb pv58).1) bb R → Sort.PermIn a b d R ∧ Sort.SortedIn lt a b R
                  exact ⟨by omega, by omega, by omega, m3.trans (P89.1.trans hdd), m4, by omega, by omega, fun R h1 h2 => hfin R (Sort.permIn_trans _ _ _ _ _ P89 (m5 R h1 h2).1) (m5 R h1 h2).2⟩
                · show bb - ((Sort.partitionEqual lt ((Sort.partialInsertionSort lt dd aa bb).1) aa bb pv58).1) < bb - aa; omega
              · skip
                refine W.skip ?_
                refine QN.seq ?_
                refine W.seq ?_
                refine W.region [(0, false), (1, false), (2, false), (3, false), (4, false), (5, false), (6, false), (7, false), (8, false), (9, false)] (by kernel_rfl) ?_
                refine T.loadR false 91 #[.func (.func kf) #[] lb, .func (.func sf) #[] sb] 91 b1 0 (by kernel_rfl) (by kernel_rfl) (by kernel_rfl) (by kernel_rfl) (fun w h => St.rangeM h #[.func (.func kf) #[] lb, .func (.func sf) #[] sb] (.tail _ (.head _)) (by kernel_rfl)) ?_
                refine T.pure 92 (.int .i64 ((aa : Int))) (by kernel_rfl) (fun w => by kernel_rfl) ?_
                refine T.pure 93 (.int .i64 ((bb : Int))) (by kernel_rfl) (fun w => by kernel_rfl) ?_
                refine T.pure 94 (.int .i64 ((pv58 : Int))) (by kernel_rfl) (fun w => by kernel_rfl) ?_
                have hsz : ((Sort.partialInsertionSort lt dd aa bb).1).size = n := P89.1.trans hdd
                have hrp := Sort.round_part hS.swo (Sort.partition_holds lt) (d3 := ((Sort.partialInsertionSort lt dd aa bb).1)) (a := aa) (b := bb) (pivot := pv58) (mid := (Sort.partition lt ((Sort.partialInsertionSort lt dd aa bb).1) aa bb pv58).1) (ap := (Sort.partition lt ((Sort.partialInsertionSort lt dd aa bb).1) aa bb pv58).2.1) (d4 := (Sort.partition lt ((Sort.partialInsertionSort lt dd aa bb).1) aa bb pv58).2.2) (by omega) (by omega) (by omega) B90 rfl
                obtain ⟨m1, m2, m3, m4, m5, m6, m7⟩ := hrp
                refine T.callW 95 84 #[.agg #[.func (.func kf) #[] lb, .func (.func sf) #[] sb], .int .i64 ((aa : Int)), .int .i64 ((bb : Int)), .int .i64 ((pv58 : Int))] (.tuple #[.int .i64 ((((Sort.partition lt ((Sort.partialInsertionSort lt dd aa bb).1) aa bb pv58).1 : Nat) : Int)), .bool ((Sort.partition lt ((Sort.partialInsertionSort lt dd aa bb).1) aa bb pv58).2.1)]) (St w00 ((g, Obj.cells (rowb ((Sort.partition lt ((Sort.partialInsertionSort lt dd aa bb).1) aa bb pv58).2.2) tail) ty (0, 0)) :: ((b1, Obj.cells #[.func (.func kf) #[] lb, .func (.func sf) #[] sb] 91 (0, 0)) :: (H' ++ H0)))) (by kernel_rfl) (by kernel_rfl) ent84 ?_ (fun _ _ => trivial) ?_
                · exact fun w hw => part_c hS hn ((Sort.partialInsertionSort lt dd aa bb).1) aa bb pv58 hsz (by omega) (by omega) (by omega) ((b1, Obj.cells #[.func (.func kf) #[] lb, .func (.func sf) #[] sb] 91 (0, 0)) :: H') w (show St w00 ((g, Obj.cells (rowb ((Sort.partialInsertionSort lt dd aa bb).1) tail) ty (0, 0)) :: ((b1, Obj.cells #[.func (.func kf) #[] lb, .func (.func sf) #[] sb] 91 (0, 0)) :: (H' ++ H0))) w from (hw))
                refine T.pure 90 (.tuple #[.int .i64 ((((Sort.partition lt ((Sort.partialInsertionSort lt dd aa bb).1) aa bb pv58).1 : Nat) : Int)), .bool ((Sort.partition lt ((Sort.partialInsertionSort lt dd aa bb).1) aa bb pv58).2.1)]) (by kernel_rfl) (fun w => by kernel_rfl) ?_
                refine T.pure 96 (.int .i64 ((((Sort.partition lt ((Sort.partialInsertionSort lt dd aa bb).1) aa bb pv58).1 : Nat) : Int))) (by kernel_rfl) (fun w => by kernel_rfl) ?_
                refine T.pure 97 (.bool ((Sort.partition lt ((Sort.partialInsertionSort lt dd aa bb).1) aa bb pv58).2.1)) (by kernel_rfl) (fun w => by kernel_rfl) ?_
                refine T.pureE 14 (.int .i64 ((((Sort.partition lt ((Sort.partialInsertionSort lt dd aa bb).1) aa bb pv58).1 : Nat) : Int))) (.int .i64 ((((Sort.partition lt ((Sort.partialInsertionSort lt dd aa bb).1) aa bb pv58).1 : Nat) : Int))) (by kernel_rfl) (fun w => by kernel_rfl) (int_eq (by omega)) ?_
                refine T.pure 15 (.bool ((Sort.partition lt ((Sort.partialInsertionSort lt dd aa bb).1) aa bb pv58).2.1)) (by kernel_rfl) (fun w => by kernel_rfl) ?_
                refine T.nil ?_
                refine QN.seq ?_
                refine W.seq ?_
                refine W.region [(0, false), (1, false)] (by kernel_rfl) ?_
                refine T.pure 98 (.bool ((Sort.partition lt ((Sort.partialInsertionSort lt dd aa bb).1) aa bb pv58).2.1)) (by kernel_rfl) (fun w => by kernel_rfl) ?_
                refine T.pure 9 (.bool ((Sort.partition lt ((Sort.partialInsertionSort lt dd aa bb).1) aa bb pv58).2.1)) (by kernel_rfl) (fun w => by kernel_rfl) ?_
                refine T.nil ?_
                refine QN.seq ?_
                refine W.seq ?_
                refine W.region [(0, false), (1, false), (2, false), (3, false), (4, false), (5, false), (6, false), (7, false)] (by kernel_rfl) ?_
                refine T.pure 99 (.int .i64 ((((Sort.partition lt ((Sort.partialInsertionSort lt dd aa bb).1) aa bb pv58).1 : Nat) : Int))) (by kernel_rfl) (fun w => by kernel_rfl) ?_
                refine T.pure 100 (.int .i64 ((aa : Int))) (by kernel_rfl) (fun w => by kernel_rfl) ?_
                refine T.pureE 101 (.int .i64 (IntKind.i64.wrap ((((Sort.partition lt ((Sort.partialInsertionSort lt dd aa bb).1) aa bb pv58).1 : Nat) : Int) - (aa : Int)))) (.int .i64 ((((Sort.partition lt ((Sort.partialInsertionSort lt dd aa bb).1) aa bb pv58).1 : Nat) : Int) - (aa : Int))) (by kernel_rfl) (fun w => by kernel_rfl) (wrap_int (by omega) (by omega)) ?_
                refine T.pure 102 (.int .i64 ((bb : Int))) (by kernel_rfl) (fun w => by kernel_rfl) ?_
                refine T.pure 103 (.int .i64 ((((Sort.partition lt ((Sort.partialInsertionSort lt dd aa bb).1) aa bb pv58).1 : Nat) : Int))) (by kernel_rfl) (fun w => by kernel_rfl) ?_
                refine T.pureE 104 (.int .i64 (IntKind.i64.wrap ((bb : Int) - (((Sort.partition lt ((Sort.partialInsertionSort lt dd aa bb).1) aa bb pv58).1 : Nat) : Int)))) (.int .i64 ((bb : Int) - (((Sort.partition lt ((Sort.partialInsertionSort lt dd aa bb).1) aa bb pv58).1 : Nat) : Int))) (by kernel_rfl) (fun w => by kernel_rfl) (wrap_int (by omega) (by omega)) ?_
                refine T.pureE 16 (.int .i64 ((((Sort.partition lt ((Sort.partialInsertionSort lt dd aa bb).1) aa bb pv58).1 : Nat) : Int) - (aa : Int))) (.int .i64 (((((Sort.partition lt ((Sort.partialInsertionSort lt dd aa bb).1) aa bb pv58).1) - aa : Nat) : Int))) (by kernel_rfl) (fun w => by kernel_rfl) (int_eq (by omega)) ?_
                refine T.pureE 17 (.int .i64 ((bb : Int) - (((Sort.partition lt ((Sort.partialInsertionSort lt dd aa bb).1) aa bb pv58).1 : Nat) : Int))) (.int .i64 (((bb - ((Sort.partition lt ((Sort.partialInsertionSort lt dd aa bb).1) aa bb pv58).1) : Nat) : Int))) (by kernel_rfl) (fun w => by kernel_rfl) (int_eq (by omega)) ?_
                refine T.nil ?_
                refine QN.seq ?_
                refine W.seq ?_
                refine W.region [(0, false), (1, false), (2, false)] (by kernel_rfl) ?_
                refine T.pure 105 (.int .i64 (((bb - aa : Nat) : Int))) (by kernel_rfl) (fun w => by kernel_rfl) ?_
                refine T.pureE 106 (.int .i64 (IntKind.i64.wrap ((((bb - aa : Nat) : Int)).tdiv 8))) (.int .i64 (((bb - aa : Nat) : Int) / 8)) (by kernel_rfl) (fun w => by kernel_rfl) (quo_int (by omega) (by decide) (by omega)) ?_
                refine T.pure 18 (.int .i64 (((bb - aa : Nat) : Int) / 8)) (by kernel_rfl) (fun w => by kernel_rfl) ?_
                refine T.nil ?_
                refine QN.seq ?_
                refine W.seq ?_
                refine W.region [(0, false), (1, false), (2, false)] (by kernel_rfl) ?_
                refine T.pure 107 (.int .i64 (((((Sort.partition lt ((Sort.partialInsertionSort lt dd aa bb).1) aa bb pv58).1) - aa : Nat) : Int))) (by kernel_rfl) (fun w => by kernel_rfl) ?_
                refine T.pure 108 (.int .i64 (((bb - ((Sort.partition lt ((Sort.partialInsertionSort lt dd aa bb).1) aa bb pv58).1) : Nat) : Int))) (by kernel_rfl) (fun w => by kernel_rfl) ?_
                refine T.pure 109 (.bool (decide (((((Sort.partition lt ((Sort.partialInsertionSort lt dd aa bb).1) aa bb pv58).1) - aa : Nat) : Int) < ((bb - ((Sort.partition lt ((Sort.partialInsertionSort lt dd aa bb).1) aa bb pv58).1) : Nat) : Int)))) (by kernel_rfl) (fun w => by kernel_rfl) ?_
                refine T.nil ?_
                refine QN.seq ?_
                refine W.cond (decide (((((Sort.partition lt ((Sort.partialInsertionSort lt dd aa bb).1) aa bb pv58).1) - aa : Nat) : Int) < ((bb - ((Sort.partition lt ((Sort.partialInsertionSort lt dd aa bb).1) aa bb pv58).1) : Nat) : Int))) (by kernel_rfl) (fun h95 => ?_) (fun h95 => ?_)
                · skip
                  have h95' := of_decide_eq_true h95
                  refine W.seq ?_
                  refine W.region [(0, false), (1, false), (2, false), (3, false)] (by kernel_rfl) ?_
                  refine T.pure 110 (.int .i64 (((((Sort.partition lt ((Sort.partialInsertionSort lt dd aa bb).1) aa bb pv58).1) - aa : Nat) : Int))) (by kernel_rfl) (fun w => by kernel_rfl) ?_
                  refine T.pure 111 (.int .i64 (((bb - aa : Nat) : Int) / 8)) (by kernel_rfl) (fun w => by kernel_rfl) ?_
                  refine T.pure 112 (.bool (decide ((((bb - aa : Nat) : Int) / 8) ≤ ((((Sort.partition lt ((Sort.partialInsertionSort lt dd aa bb).1) aa bb pv58).1) - aa : Nat) : Int)))) (by kernel_rfl) (fun w => by kernel_rfl) ?_
                  refine T.pure 8 (.bool (decide ((((bb - aa : Nat) : Int) / 8) ≤ ((((Sort.partition lt ((Sort.partialInsertionSort lt dd aa bb).1) aa bb pv58).1) - aa : Nat) : Int)))) (by kernel_rfl) (fun w => by kernel_rfl) ?_
                  refine T.nil ?_
                  refine QN.seq ?_
                  refine W.seq ?_
                  refine W.region [(0, false), (1, false), (2, false), (3, false), (4, false)] (by kernel_rfl) ?_
                  refine T.loadR false 113 #[.func (.func kf) #[] lb, .func (.func sf) #[] sb] 91 b1 0 (by kernel_rfl) (by kernel_rfl) (by kernel_rfl) (by kernel_rfl) (fun w h => St.rangeM h #[.func (.func kf) #[] lb, .func (.func sf) #[] sb] (.tail _ (.head _)) (by kernel_rfl)) ?_
                  refine T.pure 114 (.int .i64 ((aa : Int))) (by kernel_rfl) (fun w => by kernel_rfl) ?_
                  refine T.pure 115 (.int .i64 ((((Sort.partition lt ((Sort.partialInsertionSort lt dd aa bb).1) aa bb pv58).1 : Nat) : Int))) (by kernel_rfl) (fun w => by kernel_rfl) ?_
                  refine T.pure 116 (.int .i64 (lim)) (by kernel_rfl) (fun w => by kernel_rfl) ?_
                  have hsz4 : ((Sort.partition lt ((Sort.partialInsertionSort lt dd aa bb).1) aa bb pv58).2.2).size = n := m3.trans (P89.1.trans hdd)
                  refine T.callG (β := Array α) 117 56 #[.agg #[.func (.func kf) #[] lb, .func (.func sf) #[] sb], .int .i64 ((aa : Int)), .int .i64 ((((Sort.partition lt ((Sort.partialInsertionSort lt dd aa bb).1) aa bb pv58).1 : Nat) : Int)), .int .i64 (lim)] (fun gs => .tuple #[]) (fun gs => St w00 ((g, Obj.cells (rowb gs tail) ty (0, 0)) :: ((b1, Obj.cells #[.func (.func kf) #[] lb, .func (.func sf) #[] sb] 91 (0, 0)) :: (H' ++ H0)))) (fun gs => Sort.PermIn aa ((Sort.partition lt ((Sort.partialInsertionSort lt dd aa bb).1) aa bb pv58).1) ((Sort.partition lt ((Sort.partialInsertionSort lt dd aa bb).1) aa bb pv58).2.2) gs ∧ Sort.SortedIn lt aa ((Sort.partition lt ((Sort.partialInsertionSort lt dd aa bb).1) aa bb pv58).1) gs) (by kernel_rfl) (by kernel_rfl) ent56 ?_ (fun _ _ _ => trivial) ?_
                  · exact fun w hw => ih ((Sort.partition lt ((Sort.partialInsertionSort lt dd aa bb).1) aa bb pv58).2.2) aa ((Sort.partition lt ((Sort.partialInsertionSort lt dd aa bb).1) aa bb pv58).1) lim hsz4 (by omega) (by omega) (by omega) (by omega) (by omega) (m4) ((b1, Obj.cells #[.func (.func kf) #[] lb, .func (.func sf) #[] sb] 91 (0, 0)) :: H') w (show St w00 ((g, Obj.cells (rowb ((Sort.partition lt ((Sort.partialInsertionSort lt dd aa bb).1) aa bb pv58).2.2) tail) ty (0, 0)) :: ((b1, Obj.cells #[.func (.func kf) #[] lb, .func (.func sf) #[] sb] 91 (0, 0)) :: (H' ++ H0))) w from (hw))
                  rintro e96 hp_
                  have hp97 : Sort.PermIn aa ((Sort.partition lt ((Sort.partialInsertionSort lt dd aa bb).1) aa bb pv58).1) ((Sort.partition lt ((Sort.partialInsertionSort lt dd aa bb).1) aa bb pv58).2.2) e96 ∧ Sort.SortedIn lt aa ((Sort.partition lt ((Sort.partialInsertionSort lt dd aa bb).1) aa bb pv58).1) e96 := hp_
                  refine T.nil ?_
                  refine QN.seq ?_
                  refine W.region [(0, false), (1, false), (2, false)] (by kernel_rfl) ?_
                  refine T.pure 118 (.int .i64 ((((Sort.partition lt ((Sort.partialInsertionSort lt dd aa bb).1) aa bb pv58).1 : Nat) : Int))) (by kernel_rfl) (fun w => by kernel_rfl) ?_
                  refine T.pureE 119 (.int .i64 (IntKind.i64.wrap ((((Sort.partition lt ((Sort.partialInsertionSort lt dd aa bb).1) aa bb pv58).1 : Nat) : Int) + 1))) (.int .i64 ((((Sort.partition lt ((Sort.partialInsertionSort lt dd aa bb).1) aa bb pv58).1 : Nat) : Int) + 1)) (by kernel_rfl) (fun w => by kernel_rfl) (wrap_int (by omega) (by omega)) ?_
                  refine T.pureE 1 (.int .i64 ((((Sort.partition lt ((Sort.partialInsertionSort lt dd aa bb).1) aa bb pv58).1 : Nat) : Int) + 1)) (.int .i64 (((((Sort.partition lt ((Sort.partialInsertionSort lt dd aa bb).1) aa bb pv58).1) + 1 : Nat) : Int))) (by kernel_rfl) (fun w => by kernel_rfl) (int_eq (by omega)) ?_
                  refine T.nil ?_
                  refine QN.blkNormal ?_
                  refine QN.back ((Sort.partition lt ((Sort.partialInsertionSort lt dd aa bb).1) aa bb pv58).1 + 1, bb, e96, lim, decide ((((bb - aa : Nat) : Int) / 8) ≤ ((((Sort.partition lt ((Sort.partialInsertionSort lt dd aa bb).1) aa bb pv58).1) - aa : Nat) : Int)), (Sort.partition lt ((Sort.partialInsertionSort lt dd aa bb).1) aa bb pv58).2.1) ?_ ?_ (by kernel_rfl) (fun w h => h.perm ((((List.Perm.refl _).cons _).trans (List.Perm.swap _ _ _)).trans ((List.Perm.refl _).cons _)))
                  · show a ≤ ((Sort.partition lt ((Sort.partialInsertionSort lt dd aa bb).1) aa bb pv58).1 + 1) ∧ bb ≤ b ∧ ((Sort.partition lt ((Sort.partialInsertionSort lt dd aa bb).1) aa bb pv58).1 + 1) ≤ bb ∧ e96.size = n ∧ Sort.Below lt ((Sort.partition lt ((Sort.partialInsertionSort lt dd aa bb).1) aa bb pv58).1 + 1) bb e96 ∧ 0 ≤ lim ∧ lim ≤ 1000 ∧ ∀ R, Sort.PermIn ((Sort.partition lt ((Sort.partialInsertionSort lt dd aa bb).1) aa bb pv58).1 + 1) bb e96 R → Sort.SortedIn lt ((Sort.partition lt ((Sort.partialInsertionSort lt dd aa bb).1) aa bb pv58).1 + 1) bb R → Sort.PermIn a b d R ∧ Sort.SortedIn lt a b R
                    exact ⟨by omega, by omega, by omega, hp97.1.1.trans hsz4, (m6 e96 hp97.1 hp97.2).1, by omega, by omega, fun R h1 h2 => hfin R (Sort.permIn_trans _ _ _ _ _ P89 ((m6 e96 hp97.1 hp97.2).2 R h1 h2).1) ((m6 e96 hp97.1 hp97.2).2 R h1 h2).2⟩
                  · show bb - ((Sort.partition lt ((Sort.partialInsertionSort lt dd aa bb).1) aa bb pv58).1 + 1) < bb - aa; omega
                · skip
                  have h95' := of_decide_eq_false h95
                  refine W.seq ?_
                  refine W.region [(0, false), (1, false), (2, false), (3, false)] (by kernel_rfl) ?_
                  refine T.pure 120 (.int .i64 (((bb - ((Sort.partition lt ((Sort.partialInsertionSort lt dd aa bb).1) aa bb pv58).1) : Nat) : Int))) (by kernel_rfl) (fun w => by kernel_rfl) ?_
                  refine T.pure 121 (.int .i64 (((bb - aa : Nat) : Int) / 8)) (by kernel_rfl) (fun w => by kernel_rfl) ?_
                  refine T.pure 122 (.bool (decide ((((bb - aa : Nat) : Int) / 8) ≤ ((bb - ((Sort.partition lt ((Sort.partialInsertionSort lt dd aa bb).1) aa bb pv58).1) : Nat) : Int)))) (by kernel_rfl) (fun w => by kernel_rfl) ?_
                  refine T.pure 8 (.bool (decide ((((bb - aa : Nat) : Int) / 8) ≤ ((bb - ((Sort.partition lt ((Sort.partialInsertionSort lt dd aa bb).1) aa bb pv58).1) : Nat) : Int)))) (by kernel_rfl) (fun w => by kernel_rfl) ?_
                  refine T.nil ?_
                  refine QN.seq ?_
                  refine W.seq ?_
                  refine W.region [(0, false), (1, false), (2, false), (3, false), (4, false), (5, false)] (by kernel_rfl) ?_
                  refine T.loadR false 123 #[.func (.func kf) #[] lb, .func (.func sf) #[] sb] 91 b1 0 (by kernel_rfl) (by kernel_rfl) (by kernel_rfl) (by kernel_rfl) (fun w h => St.rangeM h #[.func (.func kf) #[] lb, .func (.func sf) #[] sb] (.tail _ (.head _)) (by kernel_rfl)) ?_
                  refine T.pure 124 (.int .i64 ((((Sort.partition lt ((Sort.partialInsertionSort lt dd aa bb).1) aa bb pv58).1 : Nat) : Int))) (by kernel_rfl) (fun w => by kernel_rfl) ?_
                  refine T.pureE 125 (.int .i64 (IntKind.i64.wrap ((((Sort.partition lt ((Sort.partialInsertionSort lt dd aa bb).1) aa bb pv58).1 : Nat) : Int) + 1))) (.int .i64 ((((Sort.partition lt ((Sort.partialInsertionSort lt dd aa bb).1) aa bb pv58).1 : Nat) : Int) + 1)) (by kernel_rfl) (fun w => by kernel_rfl) (wrap_int (by omega) (by omega)) ?_
                  refine T.pure 126 (.int .i64 ((bb : Int))) (by kernel_rfl) (fun w => by kernel_rfl) ?_
                  refine T.pure 127 (.int .i64 (lim)) (by kernel_rfl) (fun w => by kernel_rfl) ?_
                  have hsz4 : ((Sort.partition lt ((Sort.partialInsertionSort lt dd aa bb).1) aa bb pv58).2.2).size = n := m3.trans (P89.1.trans hdd)
                  refine T.callG (β := Array α) 128 56 #[.agg #[.func (.func kf) #[] lb, .func (.func sf) #[] sb], .int .i64 ((((Sort.partition lt ((Sort.partialInsertionSort lt dd aa bb).1) aa bb pv58).1 : Nat) : Int) + 1), .int .i64 ((bb : Int)), .int .i64 (lim)] (fun gs => .tuple #[]) (fun gs => St w00 ((g, Obj.cells (rowb gs tail) ty (0, 0)) :: ((b1, Obj.cells #[.func (.func kf) #[] lb, .func (.func sf) #[] sb] 91 (0, 0)) :: (H' ++ H0)))) (fun gs => Sort.PermIn (((Sort.partition lt ((Sort.partialInsertionSort lt dd aa bb).1) aa bb pv58).1) + 1) bb ((Sort.partition lt ((Sort.partialInsertionSort lt dd aa bb).1) aa bb pv58).2.2) gs ∧ Sort.SortedIn lt (((Sort.partition lt ((Sort.partialInsertionSort lt dd aa bb).1) aa bb pv58).1) + 1) bb gs) (by kernel_rfl) (by kernel_rfl) ent56 ?_ (fun _ _ _ => trivial) ?_
                  · exact fun w hw => ih ((Sort.partition lt ((Sort.partialInsertionSort lt dd aa bb).1) aa bb pv58).2.2) (((Sort.partition lt ((Sort.partialInsertionSort lt dd aa bb).1) aa bb pv58).1) + 1) bb lim hsz4 (by omega) (by omega) (by omega) (by omega) (by omega) (m5) ((b1, Obj.cells #[.func (.func kf) #[] lb, .func (.func sf) #[] sb] 91 (0, 0)) :: H') w (show St w00 ((g, Obj.cells (rowb ((Sort.partition lt ((Sort.partialInsertionSort lt dd aa bb).1) aa bb pv58).2.2) tail) ty (0, 0)) :: ((b1, Obj.cells #[.func (.func kf) #[] lb, .func (.func sf) #[] sb] 91 (0, 0)) :: (H' ++ H0))) w from (hw))
                  rintro e98 hp_
                  have hp99 : Sort.PermIn (((Sort.partition lt ((Sort.partialInsertionSort lt dd aa bb).1) aa bb pv58).1) + 1) bb ((Sort.partition lt ((Sort.partialInsertionSort lt dd aa bb).1) aa bb pv58).2.2) e98 ∧ Sort.SortedIn lt (((Sort.partition lt ((Sort.partialInsertionSort lt dd aa bb).1) aa bb pv58).1) + 1) bb e98 := hp_
                  refine T.nil ?_
                  refine QN.seq ?_
                  refine W.region [(0, false), (1, false)] (by kernel_rfl) ?_
                  refine T.pure 129 (.int .i64 ((((Sort.partition lt ((Sort.partialInsertionSort lt dd aa bb).1) aa bb pv58).1 : Nat) : Int))) (by kernel_rfl) (fun w => by kernel_rfl) ?_
                  refine T.pure 2 (.int .i64 ((((Sort.partition lt ((Sort.partialInsertionSort lt dd aa bb).1) aa bb pv58).1 : Nat) : Int))) (by kernel_rfl) (fun w => by kernel_rfl) ?_
                  refine T.nil ?_
                  refine QN.blkNormal ?_
                  refine QN.back (aa, (Sort.partition lt ((Sort.partialInsertionSort lt dd aa bb).1) aa bb pv58).1, e98, lim, decide ((((bb - aa : Nat) : Int) / 8) ≤ ((bb - ((Sort.partition lt ((Sort.partialInsertionSort lt dd aa bb).1) aa bb pv58).1) : Nat) : Int)), (Sort.partition lt ((Sort.partialInsertionSort lt dd aa bb).1) aa bb pv58).2.1) ?_ ?_ (by kernel_rfl) (fun w h => h.perm ((((List.Perm.refl _).cons _).trans (List.Perm.swap _ _ _)).trans ((List.Perm.refl _).cons _)))
                  · show a ≤ aa ∧ ((Sort.partition lt ((Sort.partialInsertionSort lt dd aa bb).1) aa bb pv58).1) ≤ b ∧ aa ≤ ((Sort.partition lt ((Sort.partialInsertionSort lt dd aa bb).1) aa bb pv58).1) ∧ e98.size = n ∧ Sort.Below lt aa ((Sort.partition lt ((Sort.partialInsertionSort lt dd aa bb).1) aa bb pv58).1) e98 ∧ 0 ≤ lim ∧ lim ≤ 1000 ∧ ∀ R, Sort.PermIn aa ((Sort.partition lt ((Sort.partialInsertionSort lt dd aa bb).1) aa bb pv58).1) e98 R → Sort.SortedIn lt aa ((Sort.partition lt ((Sort.partialInsertionSort lt dd aa bb).1) aa bb pv58).1) R → Sort.PermIn a b d R ∧ Sort.SortedIn lt a b R
                    exact ⟨by omega, by omega, by omega, hp99.1.1.trans hsz4, (m7 e98 hp99.1 hp99.2).1, by omega, by omega, fun R h1 h2 => hfin R (Sort.permIn_trans _ _ _ _ _ P89 ((m7 e98 hp99.1 hp99.2).2 R h1 h2).1) ((m7 e98 hp99.1 hp99.2).2 R h1 h2).2⟩
                  · show ((Sort.partition lt ((Sort.partialInsertionSort lt dd aa bb).1) aa bb pv58).1) - aa < bb - aa; omega
          · skip
            refine W.skip ?_
            refine QN.seq ?_
            refine W.seq ?_
            refine W.seq ?_
            refine W.region [(0, false), (1, false), (2, false), (3, false), (4, false), (5, false), (6, false), (7, false), (8, false), (9, false), (10, false)] (by kernel_rfl) ?_
            refine T.pure 73 (.int .i64 ((aa : Int))) (by kernel_rfl) (fun w => by kernel_rfl) ?_
            refine T.pure 74 (.bool (decide (0 < (aa : Int)))) (by kernel_rfl) (fun w => by kernel_rfl) ?_
            refine T.pure 75 (.bool (decide (0 < (aa : Int)))) (by kernel_rfl) (fun w => by kernel_rfl) ?_
            refine T.blk [(3, false), (4, false), (5, false), (6, false), (7, false), (8, false), (9, false)] [(10, false)] 2 true (decide (0 < (aa : Int))) 75 82 (.bool (!(lt dd[(aa - 1)]! dd[pv58]!))) (by kernel_rfl) (by kernel_rfl) (by kernel_rfl) (fun hg100 => ?_) ?_
            · have hg100_ := hg100
              have hg100' := of_decide_eq_true hg100
              refine T.pure 76 (.pointer (some ⟨b1, 0, none⟩)) (by kernel_rfl) (fun w => by kernel_rfl) ?_
              refine T.load false 77 (.func (.func kf) #[] lb) 67 b1 0 (by kernel_rfl) (by kernel_rfl) (by kernel_rfl) (fun w h => St.cellM h (.tail _ (.head _)) (by kernel_rfl)) ?_
              refine T.pure 78 (.int .i64 ((aa : Int))) (by kernel_rfl) (fun w => by kernel_rfl) ?_
              refine T.pureE 79 (.int .i64 (IntKind.i64.wrap ((aa : Int) - 1))) (.int .i64 ((aa : Int) - 1)) (by kernel_rfl) (fun w => by kernel_rfl) (wrap_int (by omega) (by omega)) ?_
              refine T.pure 80 (.int .i64 ((pv58 : Int))) (by kernel_rfl) (fun w => by kernel_rfl) ?_
              refine T.callP 81 kf (#[.int .i64 ((aa : Int) - 1), .int .i64 ((pv58 : Int))] ++ lb) (.bool (lt dd[(aa - 1)]! dd[pv58]!)) (by kernel_rfl) (by kernel_rfl) hS.ent ?_ (fun _ _ => trivial) ?_
              · exact fun w hw => hS.less ((b1, Obj.cells #[.func (.func kf) #[] lb, .func (.func sf) #[] sb] 91 (0, 0)) :: H') dd w ((aa : Int) - 1) ((pv58 : Int)) (aa - 1) pv58 (by first | assumption | (simp only [Sort.size_swp]; assumption)) (by omega) (by omega) (by omega) (by omega) (show St w00 ((g, Obj.cells (rowb dd tail) ty (0, 0)) :: ((b1, Obj.cells #[.func (.func kf) #[] lb, .func (.func sf) #[] sb] 91 (0, 0)) :: (H' ++ H0))) w from (hw))
              refine T.pure 82 (.bool (!(lt dd[(aa - 1)]! dd[pv58]!))) (by kernel_rfl) (fun w => by kernel_rfl) ?_
              exact T.blkEnd (by kernel_rfl) (fun w h => h)
            refine T.and 83 (decide (0 < (aa : Int))) (!(lt dd[(aa - 1)]! dd[pv58]!)) (by kernel_rfl) (by kernel_rfl) ?_
            refine T.nil ?_
            refine QN.seq ?_
            refine W.cond ((decide (0 < (aa : Int))) && (!(lt dd[(aa - 1)]! dd[pv58]!))) (by kernel_rfl) (fun h101 => ?_) (fun h101 => ?_)
            · skip
              have h101l := (Bool.and_eq_true_iff.1 h101).1
              have h101r := (Bool.and_eq_true_iff.1 h101).2
              have h101l' := of_decide_eq_true h101l
              have h101rn := not_eq_true h101r
              refine W.seq ?_
              refine W.region [(0, false), (1, false), (2, false), (3, false), (4, false), (5, false)] (by kernel_rfl) ?_
              refine T.loadR false 84 #[.func (.func kf) #[] lb, .func (.func sf) #[] sb] 91 b1 0 (by kernel_rfl) (by kernel_rfl) (by kernel_rfl) (by kernel_rfl) (fun w h => St.rangeM h #[.func (.func kf) #[] lb, .func (.func sf) #[] sb] (.tail _ (.head _)) (by kernel_rfl)) ?_
              refine T.pure 85 (.int .i64 ((aa : Int))) (by kernel_rfl) (fun w => by kernel_rfl) ?_
              refine T.pure 86 (.int .i64 ((bb : Int))) (by kernel_rfl) (fun w => by kernel_rfl) ?_
              refine T.pure 87 (.int .i64 ((pv58 : Int))) (by kernel_rfl) (fun w => by kernel_rfl) ?_
              have hsz : dd.size = n := P0.1.trans hdd
              have hre := Sort.round_eq hS.swo (Sort.partitionEqual_holds lt) (d3 := dd) (a := aa) (b := bb) (pivot := pv58) (mid := (Sort.partitionEqual lt dd aa bb pv58).1) (d4 := (Sort.partitionEqual lt dd aa bb pv58).2) (by omega) (by omega) (by omega) (by omega) hB (not_eq_true h101r) rfl
              obtain ⟨m1, m2, m3, m4, m5⟩ := hre
              refine T.callW 88 83 #[.agg #[.func (.func kf) #[] lb, .func (.func sf) #[] sb], .int .i64 ((aa : Int)), .int .i64 ((bb : Int)), .int .i64 ((pv58 : Int))] (.int .i64 ((((Sort.partitionEqual lt dd aa bb pv58).1 : Nat) : Int))) (St w00 ((g, Obj.cells (rowb ((Sort.partitionEqual lt dd aa bb pv58).2) tail) ty (0, 0)) :: ((b1, Obj.cells #[.func (.func kf) #[] lb, .func (.func sf) #[] sb] 91 (0, 0)) :: (H' ++ H0)))) (by kernel_rfl) (by kernel_rfl) ent83 ?_ (fun _ _ => trivial) ?_
              · exact fun w hw => partEq_c hS hn dd aa bb pv58 hsz (by omega) (by omega) (by omega) ((b1, Obj.cells #[.func (.func kf) #[] lb, .func (.func sf) #[] sb] 91 (0, 0)) :: H') w (show St w00 ((g, Obj.cells (rowb dd tail) ty (0, 0)) :: ((b1, Obj.cells #[.func (.func kf) #[] lb, .func (.func sf) #[] sb] 91 (0, 0)) :: (H' ++ H0))) w from (hw))
              refine T.pureE 13 (.int .i64 ((((Sort.partitionEqual lt dd aa bb pv58).1 : Nat) : Int))) (.int .i64 ((((Sort.partitionEqual lt dd aa bb pv58).1 : Nat) : Int))) (by kernel_rfl) (fun w => by kernel_rfl) (int_eq (by omega)) ?_
              refine T.nil ?_
              refine QN.seq ?_
              refine W.seq ?_
              refine W.region [(0, false), (1, false)] (by kernel_rfl) ?_
              refine T.pure 89 (.int .i64 ((((Sort.partitionEqual lt dd aa bb pv58).1 : Nat) : Int))) (by kernel_rfl) (fun w => by kernel_rfl) ?_
              refine T.pureE 1 (.int .i64 ((((Sort.partitionEqual lt dd aa bb pv58).1 : Nat) : Int))) (.int .i64 ((((Sort.partitionEqual lt dd aa bb pv58).1 : Nat) : Int))) (by kernel_rfl) (fun w => by kernel_rfl) (int_eq (by omega)) ?_
              refine T.nil ?_
              refine QN.seq ?_
              refine W.exit ?_
              refine QN.thenExit ?_
              refine QN.blkHit ?_
              refine QN.back (((Sort.partitionEqual lt dd aa bb pv58).1), bb, (Sort.partitionEqual lt dd aa bb pv58).2, lim, wb, wp) ?_ ?_ (by kernel_rfl) (fun w h => h.perm ((((List.Perm.refl _).cons _).trans (List.Perm.swap _ _ _)).trans ((List.Perm.refl _).cons _)))
              · show a ≤ ((Sort.partitionEqual lt dd aa bb pv58).1) ∧ bb ≤ b ∧ ((Sort.partitionEqual lt dd aa bb pv58).1) ≤ bb ∧ ((Sort.partitionEqual lt dd aa bb pv58).2).size = n ∧ Sort.Below lt ((Sort.partitionEqual lt dd aa bb pv58).1) bb ((Sort.partitionEqual lt dd aa bb pv58).2) ∧ 0 ≤ lim ∧ lim ≤ 1000 ∧ ∀ R, Sort.PermIn ((Sort.partitionEqual lt dd aa bb pv58).1) bb ((Sort.partitionEqual lt dd aa bb pv58).2) R → Sort.SortedIn lt ((Sort.partitionEqual lt dd aa bb pv58).1) bb R → Sort.PermIn a b d R ∧ Sort.SortedIn lt a b R
                exact ⟨by omega, by omega, by omega, m3.trans (P0.1.trans hdd), m4, by omega, by omega, fun R h1 h2 => hfin R (Sort.permIn_trans _ _ _ _ _ P0 (m5 R h1 h2).1) (m5 R h1 h2).2⟩
              · show bb - ((Sort.partitionEqual lt dd aa bb pv58).1) < bb - aa; omega
            · skip
              refine W.skip ?_
              refine QN.seq ?_
              refine W.seq ?_
              refine W.region [(0, false), (1, false), (2, false), (3, false), (4, false), (5, false), (6, false), (7, false), (8, false), (9, false)] (by kernel_rfl) ?_
              refine T.loadR false 91 #[.func (.func kf) #[] lb, .func (.func sf) #[] sb] 91 b1 0 (by kernel_rfl) (by kernel_rfl) (by kernel_rfl) (by kernel_rfl) (fun w h => St.rangeM h #[.func (.func kf) #[] lb, .func (.func sf) #[] sb] (.tail _ (.head _)) (by kernel_rfl)) ?_
              refine T.pure 92 (.int .i64 ((aa : Int))) (by kernel_rfl) (fun w => by kernel_rfl) ?_
              refine T.pure 93 (.int .i64 ((bb : Int))) (by kernel_rfl) (fun w => by kernel_rfl) ?_
              refine T.pure 94 (.int .i64 ((pv58 : Int))) (by kernel_rfl) (fun w => by kernel_rfl) ?_
              have hsz : dd.size = n := P0.1.trans hdd
              have hrp := Sort.round_part hS.swo (Sort.partition_holds lt) (d3 := dd) (a := aa) (b := bb) (pivot := pv58) (mid := (Sort.partition lt dd aa bb pv58).1) (ap := (Sort.partition lt dd aa bb pv58).2.1) (d4 := (Sort.partition lt dd aa bb pv58).2.2) (by omega) (by omega) (by omega) hB rfl
              obtain ⟨m1, m2, m3, m4, m5, m6, m7⟩ := hrp
              refine T.callW 95 84 #[.agg #[.func (.func kf) #[] lb, .func (.func sf) #[] sb], .int .i64 ((aa : Int)), .int .i64 ((bb : Int)), .int .i64 ((pv58 : Int))] (.tuple #[.int .i64 ((((Sort.partition lt dd aa bb pv58).1 : Nat) : Int)), .bool ((Sort.partition lt dd aa bb pv58).2.1)]) (St w00 ((g, Obj.cells (rowb ((Sort.partition lt dd aa bb pv58).2.2) tail) ty (0, 0)) :: ((b1, Obj.cells #[.func (.func kf) #[] lb, .func (.func sf) #[] sb] 91 (0, 0)) :: (H' ++ H0)))) (by kernel_rfl) (by kernel_rfl) ent84 ?_ (fun _ _ => trivial) ?_
              · exact fun w hw => part_c hS hn dd aa bb pv58 hsz (by omega) (by omega) (by omega) ((b1, Obj.cells #[.func (.func kf) #[] lb, .func (.func sf) #[] sb] 91 (0, 0)) :: H') w (show St w00 ((g, Obj.cells (rowb dd tail) ty (0, 0)) :: ((b1, Obj.cells #[.func (.func kf) #[] lb, .func (.func sf) #[] sb] 91 (0, 0)) :: (H' ++ H0))) w from (hw))
              refine T.pure 90 (.tuple #[.int .i64 ((((Sort.partition lt dd aa bb pv58).1 : Nat) : Int)), .bool ((Sort.partition lt dd aa bb pv58).2.1)]) (by kernel_rfl) (fun w => by kernel_rfl) ?_
              refine T.pure 96 (.int .i64 ((((Sort.partition lt dd aa bb pv58).1 : Nat) : Int))) (by kernel_rfl) (fun w => by kernel_rfl) ?_
              refine T.pure 97 (.bool ((Sort.partition lt dd aa bb pv58).2.1)) (by kernel_rfl) (fun w => by kernel_rfl) ?_
              refine T.pureE 14 (.int .i64 ((((Sort.partition lt dd aa bb pv58).1 : Nat) : Int))) (.int .i64 ((((Sort.partition lt dd aa bb pv58).1 : Nat) : Int))) (by kernel_rfl) (fun w => by kernel_rfl) (int_eq (by omega)) ?_
              refine T.pure 15 (.bool ((Sort.partition lt dd aa bb pv58).2.1)) (by kernel_rfl) (fun w => by kernel_rfl) ?_
              refine T.nil ?_
              refine QN.seq ?_
              refine W.seq ?_
              refine W.region [(0, false), (1, false)] (by kernel_rfl) ?_
              refine T.pure 98 (.bool ((Sort.partition lt dd aa bb pv58).2.1)) (by kernel_rfl) (fun w => by kernel_rfl) ?_
              refine T.pure 9 (.bool ((Sort.partition lt dd aa bb pv58).2.1)) (by kernel_rfl) (fun w => by kernel_rfl) ?_
              refine T.nil ?_
              refine QN.seq ?_
              refine W.seq ?_
              refine W.region [(0, false), (1, false), (2, false), (3, false), (4, false), (5, false), (6, false), (7, false)] (by kernel_rfl) ?_
              refine T.pure 99 (.int .i64 ((((Sort.partition lt dd aa bb pv58).1 : Nat) : Int))) (by kernel_rfl) (fun w => by kernel_rfl) ?_
              refine T.pure 100 (.int .i64 ((aa : Int))) (by kernel_rfl) (fun w => by kernel_rfl) ?_
              refine T.pureE 101 (.int .i64 (IntKind.i64.wrap ((((Sort.partition lt dd aa bb pv58).1 : Nat) : Int) - (aa : Int)))) (.int .i64 ((((Sort.partition lt dd aa bb pv58).1 : Nat) : Int) - (aa : Int))) (by kernel_rfl) (fun w => by kernel_rfl) (wrap_int (by omega) (by omega)) ?_
              refine T.pure 102 (.int .i64 ((bb : Int))) (by kernel_rfl) (fun w => by kernel_rfl) ?_
              refine T.pure 103 (.int .i64 ((((Sort.partition lt dd aa bb pv58).1 : Nat) : Int))) (by kernel_rfl) (fun w => by kernel_rfl) ?_
              refine T.pureE 104 (.int .i64 (IntKind.i64.wrap ((bb : Int) - (((Sort.partition lt dd aa bb pv58).1 : Nat) : Int)))) (.int .i64 ((bb : Int) - (((Sort.partition lt dd aa bb pv58).1 : Nat) : Int))) (by kernel_rfl) (fun w => by kernel_rfl) (wrap_int (by omega) (by omega)) ?_
              refine T.pureE 16 (.int .i64 ((((Sort.partition lt dd aa bb pv58).1 : Nat) : Int) - (aa : Int))) (.int .i64 (((((Sort.partition lt dd aa bb pv58).1) - aa : Nat) : Int))) (by kernel_rfl) (fun w => by kernel_rfl) (int_eq (by omega)) ?_
              refine T.pureE 17 (.int .i64 ((bb : Int) - (((Sort.partition lt dd aa bb pv58).1 : Nat) : Int))) (.int .i64 (((bb - ((Sort.partition lt dd aa bb pv58).1) : Nat) : Int))) (by kernel_rfl) (fun w => by kernel_rfl) (int_eq (by omega)) ?_
              refine T.nil ?_
              refine QN.seq ?_
              refine W.seq ?_
              refine W.region [(0, false), (1, false), (2, false)] (by kernel_rfl) ?_
              refine T.pure 105 (.int .i64 (((bb - aa : Nat) : Int))) (by kernel_rfl) (fun w => by kernel_rfl) ?_
              refine T.pureE 106 (.int .i64 (IntKind.i64.wrap ((((bb - aa : Nat) : Int)).tdiv 8))) (.int .i64 (((bb - aa : Nat) : Int) / 8)) (by kernel_rfl) (fun w => by kernel_rfl) (quo_int (by omega) (by decide) (by omega)) ?_
              refine T.pure 18 (.int .i64 (((bb - aa : Nat) : Int) / 8)) (by kernel_rfl) (fun w => by kernel_rfl) ?_
              refine T.nil ?_
              refine QN.seq ?_
              refine W.seq ?_
              refine W.region [(0, false), (1, false), (2, false)] (by kernel_rfl) ?_
              refine T.pure 107 (.int .i64 (((((Sort.partition lt dd aa bb pv58).1) - aa : Nat) : Int))) (by kernel_rfl) (fun w => by kernel_rfl) ?_
              refine T.pure 108 (.int .i64 (((bb - ((Sort.partition lt dd aa bb pv58).1) : Nat) : Int))) (by kernel_rfl) (fun w => by kernel_rfl) ?_
              refine T.pure 109 (.bool (decide (((((Sort.partition lt dd aa bb pv58).1) - aa : Nat) : Int) < ((bb - ((Sort.partition lt dd aa bb pv58).1) : Nat) : Int)))) (by kernel_rfl) (fun w => by kernel_rfl) ?_
              refine T.nil ?_
              refine QN.seq ?_
              refine W.cond (decide (((((Sort.partition lt dd aa bb pv58).1) - aa : Nat) : Int) < ((bb - ((Sort.partition lt dd aa bb pv58).1) : Nat) : Int))) (by kernel_rfl) (fun h102 => ?_) (fun h102 => ?_)
              · skip
                have h102' := of_decide_eq_true h102
                refine W.seq ?_
                refine W.region [(0, false), (1, false), (2, false), (3, false)] (by kernel_rfl) ?_
                refine T.pure 110 (.int .i64 (((((Sort.partition lt dd aa bb pv58).1) - aa : Nat) : Int))) (by kernel_rfl) (fun w => by kernel_rfl) ?_
                refine T.pure 111 (.int .i64 (((bb - aa : Nat) : Int) / 8)) (by kernel_rfl) (fun w => by kernel_rfl) ?_
                refine T.pure 112 (.bool (decide ((((bb - aa : Nat) : Int) / 8) ≤ ((((Sort.partition lt dd aa bb pv58).1) - aa : Nat) : Int)))) (by kernel_rfl) (fun w => by kernel_rfl) ?_
                refine T.pure 8 (.bool (decide ((((bb - aa : Nat) : Int) / 8) ≤ ((((Sort.partition lt dd aa bb pv58).1) - aa : Nat) : Int)))) (by kernel_rfl) (fun w => by kernel_rfl) ?_
                refine T.nil ?_
                refine QN.seq ?_
                refine W.seq ?_
                refine W.region [(0, false), (1, false), (2, false), (3, false), (4, false)] (by kernel_rfl) ?_
                refine T.loadR false 113 #[.func (.func kf) #[] lb, .func (.func sf) #[] sb] 91 b1 0 (by kernel_rfl) (by kernel_rfl) (by kernel_rfl) (by kernel_rfl) (fun w h => St.rangeM h #[.func (.func kf) #[] lb, .func (.func sf) #[] sb] (.tail _ (.head _)) (by kernel_rfl)) ?_
                refine T.pure 114 (.int .i64 ((aa : Int))) (by kernel_rfl) (fun w => by kernel_rfl) ?_
                refine T.pure 115 (.int .i64 ((((Sort.partition lt dd aa bb pv58).1 : Nat) : Int))) (by kernel_rfl) (fun w => by kernel_rfl) ?_
                refine T.pure 116 (.int .i64 (lim)) (by kernel_rfl) (fun w => by kernel_rfl) ?_
                have hsz4 : ((Sort.partition lt dd aa bb pv58).2.2).size = n := m3.trans (P0.1.trans hdd)
                refine T.callG (β := Array α) 117 56 #[.agg #[.func (.func kf) #[] lb, .func (.func sf) #[] sb], .int .i64 ((aa : Int)), .int .i64 ((((Sort.partition lt dd aa bb pv58).1 : Nat) : Int)), .int .i64 (lim)] (fun gs => .tuple #[]) (fun gs => St w00 ((g, Obj.cells (rowb gs tail) ty (0, 0)) :: ((b1, Obj.cells #[.func (.func kf) #[] lb, .func (.func sf) #[] sb] 91 (0, 0)) :: (H' ++ H0)))) (fun gs => Sort.PermIn aa ((Sort.partition lt dd aa bb pv58).1) ((Sort.partition lt dd aa bb pv58).2.2) gs ∧ Sort.SortedIn lt aa ((Sort.partition lt dd aa bb pv58).1) gs) (by kernel_rfl) (by kernel_rfl) ent56 ?_ (fun _ _ _ => trivial) ?_
                · exact fun w hw => ih ((Sort.partition lt dd aa bb pv58).2.2) aa ((Sort.partition lt dd aa bb pv58).1) lim hsz4 (by omega) (by omega) (by omega) (by omega) (by omega) (m4) ((b1, Obj.cells #[.func (.func kf) #[] lb, .func (.func sf) #[] sb] 91 (0, 0)) :: H') w (show St w00 ((g, Obj.cells (rowb ((Sort.partition lt dd aa bb pv58).2.2) tail) ty (0, 0)) :: ((b1, Obj.cells #[.func (.func kf) #[] lb, .func (.func sf) #[] sb] 91 (0, 0)) :: (H' ++ H0))) w from (hw))
                rintro e103 hp_
                have hp104 : Sort.PermIn aa ((Sort.partition lt dd aa bb pv58).1) ((Sort.partition lt dd aa bb pv58).2.2) e103 ∧ Sort.SortedIn lt aa ((Sort.partition lt dd aa bb pv58).1) e103 := hp_
                refine T.nil ?_
                refine QN.seq ?_
                refine W.region [(0, false), (1, false), (2, false)] (by kernel_rfl) ?_
                refine T.pure 118 (.int .i64 ((((Sort.partition lt dd aa bb pv58).1 : Nat) : Int))) (by kernel_rfl) (fun w => by kernel_rfl) ?_
                refine T.pureE 119 (.int .i64 (IntKind.i64.wrap ((((Sort.partition lt dd aa bb pv58).1 : Nat) : Int) + 1))) (.int .i64 ((((Sort.partition lt dd aa bb pv58).1 : Nat) : Int) + 1)) (by kernel_rfl) (fun w => by kernel_rfl) (wrap_int (by omega) (by omega)) ?_
                refine T.pureE 1 (.int .i64 ((((Sort.partition lt dd aa bb pv58).1 : Nat) : Int) + 1)) (.int .i64 (((((Sort.partition lt dd aa bb pv58).1) + 1 : Nat) : Int))) (by kernel_rfl) (fun w => by kernel_rfl) (int_eq (by omega)) ?_
                refine T.nil ?_
                refine QN.blkNormal ?_
                refine QN.back ((Sort.partition lt dd aa bb pv58).1 + 1, bb, e103, lim, decide ((((bb - aa : Nat) : Int) / 8) ≤ ((((Sort.partition lt dd aa bb pv58).1) - aa : Nat) : Int)), (Sort.partition lt dd aa bb pv58).2.1) ?_ ?_ (by kernel_rfl) (fun w h => h.perm ((((List.Perm.refl _).cons _).trans (List.Perm.swap _ _ _)).trans ((List.Perm.refl _).cons _)))
                · show a ≤ ((Sort.partition lt dd aa bb pv58).1 + 1) ∧ bb ≤ b ∧ ((Sort.partition lt dd aa bb pv58).1 + 1) ≤ bb ∧ e103.size = n ∧ Sort.Below lt ((Sort.partition lt dd aa bb pv58).1 + 1) bb e103 ∧ 0 ≤ lim ∧ lim ≤ 1000 ∧ ∀ R, Sort.PermIn ((Sort.partition lt dd aa bb pv58).1 + 1) bb e103 R → Sort.SortedIn lt ((Sort.partition lt dd aa bb pv58).1 + 1) bb R → Sort.PermIn a b d R ∧ Sort.SortedIn lt a b R
                  exact ⟨by omega, by omega, by omega, hp104.1.1.trans hsz4, (m6 e103 hp104.1 hp104.2).1, by omega, by omega, fun R h1 h2 => hfin R (Sort.permIn_trans _ _ _ _ _ P0 ((m6 e103 hp104.1 hp104.2).2 R h1 h2).1) ((m6 e103 hp104.1 hp104.2).2 R h1 h2).2⟩
                · show bb - ((Sort.partition lt dd aa bb pv58).1 + 1) < bb - aa; omega
              · skip
                have h102' := of_decide_eq_false h102
                refine W.seq ?_
                refine W.region [(0, false), (1, false), (2, false), (3, false)] (by kernel_rfl) ?_
                refine T.pure 120 (.int .i64 (((bb - ((Sort.partition lt dd aa bb pv58).1) : Nat) : Int))) (by kernel_rfl) (fun w => by kernel_rfl) ?_
                refine T.pure 121 (.int .i64 (((bb - aa : Nat) : Int) / 8)) (by kernel_rfl) (fun w => by kernel_rfl) ?_
                refine T.pure 122 (.bool (decide ((((bb - aa : Nat) : Int) / 8) ≤ ((bb - ((Sort.partition lt dd aa bb pv58).1) : Nat) : Int)))) (by kernel_rfl) (fun w => by kernel_rfl) ?_
                refine T.pure 8 (.bool (decide ((((bb - aa : Nat) : Int) / 8) ≤ ((bb - ((Sort.partition lt dd aa bb pv58).1) : Nat) : Int)))) (by kernel_rfl) (fun w => by kernel_rfl) ?_
                refine T.nil ?_
                refine QN.seq ?_
                refine W.seq ?_
                refine W.region [(0, false), (1, false), (2, false), (3, false), (4, false), (5, false)] (by kernel_rfl) ?_
                refine T.loadR false 123 #[.func (.func kf) #[] lb, .func (.func sf) #[] sb] 91 b1 0 (by kernel_rfl) (by kernel_rfl) (by kernel_rfl) (by kernel_rfl) (fun w h => St.rangeM h #[.func (.func kf) #[] lb, .func (.func sf) #[] sb] (.tail _ (.head _)) (by kernel_rfl)) ?_
                refine T.pure 124 (.int .i64 ((((Sort.partition lt dd aa bb pv58).1 : Nat) : Int))) (by kernel_rfl) (fun w => by kernel_rfl) ?_
                refine T.pureE 125 (.int .i64 (IntKind.i64.wrap ((((Sort.partition lt dd aa bb pv58).1 : Nat) : Int) + 1))) (.int .i64 ((((Sort.partition lt dd aa bb pv58).1 : Nat) : Int) + 1)) (by kernel_rfl) (fun w => by kernel_rfl) (wrap_int (by omega) (by omega)) ?_
                refine T.pure 126 (.int .i64 ((bb : Int))) (by kernel_rfl) (fun w => by kernel_rfl) ?_
                refine T.pure 127 (.int .i64 (lim)) (by kernel_rfl) (fun w => by kernel_rfl) ?_
                have hsz4 : ((Sort.partition lt dd aa bb pv58).2.2).size = n := m3.trans (P0.1.trans hdd)
                refine T.callG (β := Array α) 128 56 #[.agg #[.func (.func kf) #[] lb, .func (.func sf) #[] sb], .int .i64 ((((Sort.partition lt dd aa bb pv58).1 : Nat) : Int) + 1), .int .i64 ((bb : Int)), .int .i64 (lim)] (fun gs => .tuple #[]) (fun gs => St w00 ((g, Obj.cells (rowb gs tail) ty (0, 0)) :: ((b1, Obj.cells #[.func (.func kf) #[] lb, .func (.func sf) #[] sb] 91 (0, 0)) :: (H' ++ H0)))) (fun gs => Sort.PermIn (((Sort.partition lt dd aa bb pv58).1) + 1) bb ((Sort.partition lt dd aa bb pv58).2.2) gs ∧ Sort.SortedIn lt (((Sort.partition lt dd aa bb pv58).1) + 1) bb gs) (by kernel_rfl) (by kernel_rfl) ent56 ?_ (fun _ _ _ => trivial) ?_
                · exact fun w hw => ih ((Sort.partition lt dd aa bb pv58).2.2) (((Sort.partition lt dd aa bb pv58).1) + 1) bb lim hsz4 (by omega) (by omega) (by omega) (by omega) (by omega) (m5) ((b1, Obj.cells #[.func (.func kf) #[] lb, .func (.func sf) #[] sb] 91 (0, 0)) :: H') w (show St w00 ((g, Obj.cells (rowb ((Sort.partition lt dd aa bb pv58).2.2) tail) ty (0, 0)) :: ((b1, Obj.cells #[.func (.func kf) #[] lb, .func (.func sf) #[] sb] 91 (0, 0)) :: (H' ++ H0))) w from (hw))
                rintro e105 hp_
                have hp106 : Sort.PermIn (((Sort.partition lt dd aa bb pv58).1) + 1) bb ((Sort.partition lt dd aa bb pv58).2.2) e105 ∧ Sort.SortedIn lt (((Sort.partition lt dd aa bb pv58).1) + 1) bb e105 := hp_
                refine T.nil ?_
                refine QN.seq ?_
                refine W.region [(0, false), (1, false)] (by kernel_rfl) ?_
                refine T.pure 129 (.int .i64 ((((Sort.partition lt dd aa bb pv58).1 : Nat) : Int))) (by kernel_rfl) (fun w => by kernel_rfl) ?_
                refine T.pure 2 (.int .i64 ((((Sort.partition lt dd aa bb pv58).1 : Nat) : Int))) (by kernel_rfl) (fun w => by kernel_rfl) ?_
                refine T.nil ?_
                refine QN.blkNormal ?_
                refine QN.back (aa, (Sort.partition lt dd aa bb pv58).1, e105, lim, decide ((((bb - aa : Nat) : Int) / 8) ≤ ((bb - ((Sort.partition lt dd aa bb pv58).1) : Nat) : Int)), (Sort.partition lt dd aa bb pv58).2.1) ?_ ?_ (by kernel_rfl) (fun w h => h.perm ((((List.Perm.refl _).cons _).trans (List.Perm.swap _ _ _)).trans ((List.Perm.refl _).cons _)))
                · show a ≤ aa ∧ ((Sort.partition lt dd aa bb pv58).1) ≤ b ∧ aa ≤ ((Sort.partition lt dd aa bb pv58).1) ∧ e105.size = n ∧ Sort.Below lt aa ((Sort.partition lt dd aa bb pv58).1) e105 ∧ 0 ≤ lim ∧ lim ≤ 1000 ∧ ∀ R, Sort.PermIn aa ((Sort.partition lt dd aa bb pv58).1) e105 R → Sort.SortedIn lt aa ((Sort.partition lt dd aa bb pv58).1) R → Sort.PermIn a b d R ∧ Sort.SortedIn lt a b R
                  exact ⟨by omega, by omega, by omega, hp106.1.1.trans hsz4, (m7 e105 hp106.1 hp106.2).1, by omega, by omega, fun R h1 h2 => hfin R (Sort.permIn_trans _ _ _ _ _ P0 ((m7 e105 hp106.1 hp106.2).2 R h1 h2).1) ((m7 e105 hp106.1 hp106.2).2 R h1 h2).2⟩
                · show ((Sort.partition lt dd aa bb pv58).1) - aa < bb - aa; omega
theorem pdq_c {α : Type} [Cel α] [Inhabited α] {w00 : World} {g n : Nat} {ty : TypeId} {tail : List Value} {lt : α → α → Bool} {kf : Nat} {lb : Array Value} {sf : Nat} {sb : Array Value} {H0 : List (Nat × Obj)} (hS : SortOk Try.prog α w00 g n ty tail lt kf lb sf sb H0) (hn : n ≤ 1000) : ∀ (k : Nat) (d : Array α) (a b : Nat) (limit : Int) (hd : d.size = n) (hab : a ≤ b) (hb : b ≤ n) (hl0 : 0 ≤ limit) (hl1 : limit ≤ 1000) (hk : b - a < k) (hBel : Sort.Below lt a b d) (H' : List (Nat × Obj)) (w : World) (hst : St w00 ((g, .cells (rowb d tail) ty (0, 0)) :: (H' ++ H0)) w), Calls Try.prog 56 #[.agg #[.func (.func kf) #[] lb, .func (.func sf) #[] sb], .int .i64 (a : Int), .int .i64 (b : Int), .int .i64 limit] w (fun rr w' => ∃ gs : Array α, (Sort.PermIn a b d gs ∧ Sort.SortedIn lt a b gs) ∧ rr = .returned (.tuple #[]) ∧ St w00 ((g, .cells (rowb gs tail) ty (0, 0)) :: (H' ++ H0)) w')
  | 0, d, a, b, limit, hd, hab, hb, hl0, hl1, hk, _, _, _, _ => absurd hk (by omega)
  | k + 1, d, a, b, limit, hd, hab, hb, hl0, hl1, hk, hBel, H', w, hst => pdq_step hS hn k (pdq_c hS hn k) d a b limit hd hab hb hl0 hl1 (by omega) hBel H' w hst
end Go.Proofs.Ytnagichfngogkaa
