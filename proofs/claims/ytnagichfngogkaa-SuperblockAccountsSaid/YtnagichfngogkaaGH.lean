/- Go's sort over a row, part 3: the pivot. -/
import Derived.Test.YtnagichfngogkaaGF
namespace Go.Proofs.Ytnagichfngogkaa
open Go Go.RowKit
set_option linter.unusedVariables false

set_option maxRecDepth 100000 in
set_option maxHeartbeats 2000000 in
theorem order2_c {α : Type} [Cel α] [Inhabited α] {w00 : World} {g n : Nat} {ty : TypeId} {tail : List Value} {lt : α → α → Bool} {kf : Nat} {lb : Array Value} {sf : Nat} {sb : Array Value} {H0 : List (Nat × Obj)} (hS : SortOk Try.prog α w00 g n ty tail lt kf lb sf sb H0) (hn : n ≤ 1000) (d : Array α) (a b : Nat) (hd : d.size = n) (ha : a < n) (hb : b < n) (bs : Nat) (s : Int) (hs0 : 0 ≤ s) (hs1 : s ≤ 1000) (H' : List (Nat × Obj)) (w : World) (hst : St w00 ((g, .cells (rowb d tail) ty (0, 0)) :: (bs, .cells #[.int .i64 s] 3 (0, 0)) :: (H' ++ H0)) w) : Calls Try.prog 101 #[.agg #[.func (.func kf) #[] lb, .func (.func sf) #[] sb], .int .i64 ((a : Int)), .int .i64 ((b : Int)), .pointer (some ⟨bs, 0, none⟩)] w (fun rr w' => ∃ gs : Nat × Nat × Int, (((gs.1 = a ∧ gs.2.1 = b) ∨ (gs.1 = b ∧ gs.2.1 = a)) ∧ 0 ≤ gs.2.2 ∧ gs.2.2 ≤ s + 1) ∧ rr = .returned (.tuple #[.int .i64 (gs.1 : Int), .int .i64 (gs.2.1 : Int)]) ∧ St w00 ((g, .cells (rowb d tail) ty (0, 0)) :: (bs, .cells #[.int .i64 (gs.2.2)] 3 (0, 0)) :: (H' ++ H0)) w') := by
  refine calls_W (n := 24) Try.func101 rfl [(0, .agg #[.func (.func kf) #[] lb, .func (.func sf) #[] sb]), (1, .int .i64 ((a : Int))), (2, .int .i64 ((b : Int))), (3, .pointer (some ⟨bs, 0, none⟩))] rfl ⟨by kernel_rfl, by kernel_rfl⟩ ?_
  refine W.weak (Ψ := St w00 ((g, Obj.cells (rowb d tail) ty (0, 0)) :: ((bs, Obj.cells #[.int .i64 (s)] 3 (0, 0)) :: (H' ++ H0)))) (fun w' h => by rw [h]; exact hst) ?_
  refine W.seq ?_
  refine W.region [(0, false), (1, false), (2, false)] (by kernel_rfl) ?_
  refine T.box 4 91 (.agg #[.func (.func kf) #[] lb, .func (.func sf) #[] sb]) (#[.func (.func kf) #[] lb, .func (.func sf) #[] sb]) (by kernel_rfl) (by kernel_rfl) (by kernel_rfl) (fun _ _ _ => trivial) (fun b1 => ?_)
  refine T.pure 8 (.int .i64 (0)) (by kernel_rfl) (fun w => by kernel_rfl) ?_
  refine T.pure 9 (.int .i64 (0)) (by kernel_rfl) (fun w => by kernel_rfl) ?_
  refine T.nil ?_
  refine QN.seq ?_
  refine W.seq ?_
  refine W.seq ?_
  refine W.region [(0, false), (1, false), (2, false), (3, false), (4, false)] (by kernel_rfl) ?_
  refine T.pure 10 (.pointer (some ⟨b1, 0, none⟩)) (by kernel_rfl) (fun w => by kernel_rfl) ?_
  refine T.load false 11 (.func (.func kf) #[] lb) 67 b1 0 (by kernel_rfl) (by kernel_rfl) (by kernel_rfl) (fun w h => St.cellM h (.head _) (by kernel_rfl)) ?_
  refine T.pure 12 (.int .i64 ((b : Int))) (by kernel_rfl) (fun w => by kernel_rfl) ?_
  refine T.pure 13 (.int .i64 ((a : Int))) (by kernel_rfl) (fun w => by kernel_rfl) ?_
  refine T.callP 14 kf (#[.int .i64 ((b : Int)), .int .i64 ((a : Int))] ++ lb) (.bool (lt d[b]! d[a]!)) (by kernel_rfl) (by kernel_rfl) hS.ent ?_ (fun _ _ => trivial) ?_
  · exact fun w hw => hS.less ((b1, Obj.cells #[.func (.func kf) #[] lb, .func (.func sf) #[] sb] 91 (0, 0)) :: ((bs, Obj.cells #[.int .i64 (s)] 3 (0, 0)) :: H')) d w ((b : Int)) ((a : Int)) b a (by first | assumption | (simp only [Sort.size_swp]; assumption)) (by omega) (by omega) (by omega) (by omega) (show St w00 ((g, Obj.cells (rowb d tail) ty (0, 0)) :: ((b1, Obj.cells #[.func (.func kf) #[] lb, .func (.func sf) #[] sb] 91 (0, 0)) :: ((bs, Obj.cells #[.int .i64 (s)] 3 (0, 0)) :: (H' ++ H0)))) w from (hw.perm ((((List.Perm.refl _).cons _).trans (List.Perm.swap _ _ _)).trans (((List.Perm.refl _).trans ((List.Perm.refl _).cons _)).cons _))))
  refine T.nil ?_
  refine QN.seq ?_
  refine W.cond (lt d[b]! d[a]!) (by kernel_rfl) (fun h2 => ?_) (fun h2 => ?_)
  · skip
    refine W.seq ?_
    refine W.region [(0, false), (1, false), (2, false), (3, false), (4, false), (5, false)] (by kernel_rfl) ?_
    refine T.pure 15 (.pointer (some ⟨bs, 0, none⟩)) (by kernel_rfl) (fun w => by kernel_rfl) ?_
    refine T.pure 16 (.pointer (some ⟨bs, 0, none⟩)) (by kernel_rfl) (fun w => by kernel_rfl) ?_
    refine T.load false 17 (.int .i64 (s)) 3 bs 0 (by kernel_rfl) (by kernel_rfl) (by kernel_rfl) (fun w h => St.cellM h (.tail _ (.tail _ (.head _))) (by kernel_rfl)) ?_
    refine T.pureE 18 (.int .i64 (IntKind.i64.wrap (s + 1))) (.int .i64 (s + 1)) (by kernel_rfl) (fun w => by kernel_rfl) (wrap_int (by omega) (by omega)) ?_
    refine T.pure 19 (.pointer (some ⟨bs, 0, none⟩)) (by kernel_rfl) (fun w => by kernel_rfl) ?_
    refine T.storeP 3 bs 0 (.int .i64 (s + 1)) #[.int .i64 (s)] #[.int .i64 (s + 1)] 3 (by kernel_rfl) (by kernel_rfl) (by kernel_rfl) (by kernel_rfl) (by kernel_rfl) (by kernel_rfl) (((((List.Perm.refl _).cons _).trans (List.Perm.swap _ _ _)).cons _).trans (List.Perm.swap _ _ _)) (fun _ _ => trivial) ?_
    refine T.nil ?_
    refine QN.seq ?_
    refine W.seq ?_
    refine W.region [(0, false), (1, false), (2, false), (3, false)] (by kernel_rfl) ?_
    refine T.pure 20 (.int .i64 ((b : Int))) (by kernel_rfl) (fun w => by kernel_rfl) ?_
    refine T.pure 21 (.int .i64 ((a : Int))) (by kernel_rfl) (fun w => by kernel_rfl) ?_
    refine T.pure 8 (.int .i64 ((b : Int))) (by kernel_rfl) (fun w => by kernel_rfl) ?_
    refine T.pure 9 (.int .i64 ((a : Int))) (by kernel_rfl) (fun w => by kernel_rfl) ?_
    refine T.nil ?_
    refine QN.seq ?_
    refine W.ret ?_
    refine QN.thenRet ?_
    refine QN.done2 (.inl rfl) 8 9 (.int .i64 ((b : Int))) (.int .i64 ((a : Int))) rfl (by kernel_rfl) (by kernel_rfl) (fun w hw => ?_)
    exact (show ∃ gs : Nat × Nat × Int, _ from ⟨(b, a, s + 1), ⟨.inr ⟨rfl, rfl⟩, (by show (0 : Int) ≤ s + 1; omega), (by show (s + 1 : Int) ≤ s + 1; omega)⟩, rfl, ((hw.perm ((((((List.Perm.refl _).cons _).trans (List.Perm.swap _ _ _)).cons _).trans (List.Perm.swap _ _ _)).trans ((List.Perm.refl _).cons _))).part ((((List.Sublist.refl _).cons _).cons_cons _).cons_cons _))⟩)
  · skip
    refine W.skip ?_
    refine QN.seq ?_
    refine W.seq ?_
    refine W.region [(0, false), (1, false), (2, false), (3, false)] (by kernel_rfl) ?_
    refine T.pure 22 (.int .i64 ((a : Int))) (by kernel_rfl) (fun w => by kernel_rfl) ?_
    refine T.pure 23 (.int .i64 ((b : Int))) (by kernel_rfl) (fun w => by kernel_rfl) ?_
    refine T.pure 8 (.int .i64 ((a : Int))) (by kernel_rfl) (fun w => by kernel_rfl) ?_
    refine T.pure 9 (.int .i64 ((b : Int))) (by kernel_rfl) (fun w => by kernel_rfl) ?_
    refine T.nil ?_
    refine QN.seq ?_
    refine W.ret ?_
    refine QN.done2 (.inl rfl) 8 9 (.int .i64 ((a : Int))) (.int .i64 ((b : Int))) rfl (by kernel_rfl) (by kernel_rfl) (fun w hw => ?_)
    exact (show ∃ gs : Nat × Nat × Int, _ from ⟨(a, b, s), ⟨.inl ⟨rfl, rfl⟩, (by show (0 : Int) ≤ s; omega), (by show (s : Int) ≤ s + 1; omega)⟩, rfl, ((hw.perm ((((List.Perm.refl _).cons _).trans (List.Perm.swap _ _ _)).trans ((((List.Perm.refl _).cons _).trans (List.Perm.swap _ _ _)).cons _))).part ((((List.Sublist.refl _).cons _).cons_cons _).cons_cons _))⟩)
set_option maxRecDepth 100000 in
set_option maxHeartbeats 2000000 in
theorem median_c {α : Type} [Cel α] [Inhabited α] {w00 : World} {g n : Nat} {ty : TypeId} {tail : List Value} {lt : α → α → Bool} {kf : Nat} {lb : Array Value} {sf : Nat} {sb : Array Value} {H0 : List (Nat × Obj)} (hS : SortOk Try.prog α w00 g n ty tail lt kf lb sf sb H0) (hn : n ≤ 1000) (d : Array α) (a b c : Nat) (hd : d.size = n) (ha : a < n) (hb : b < n) (hc : c < n) (bs : Nat) (s : Int) (hs0 : 0 ≤ s) (hs1 : s ≤ 900) (H' : List (Nat × Obj)) (w : World) (hst : St w00 ((g, .cells (rowb d tail) ty (0, 0)) :: (bs, .cells #[.int .i64 s] 3 (0, 0)) :: (H' ++ H0)) w) : Calls Try.prog 99 #[.agg #[.func (.func kf) #[] lb, .func (.func sf) #[] sb], .int .i64 ((a : Int)), .int .i64 ((b : Int)), .int .i64 ((c : Int)), .pointer (some ⟨bs, 0, none⟩)] w (fun rr w' => ∃ gs : Nat × Int, ((gs.1 = a ∨ gs.1 = b ∨ gs.1 = c) ∧ 0 ≤ gs.2 ∧ gs.2 ≤ s + 3) ∧ rr = .returned (.int .i64 (gs.1 : Int)) ∧ St w00 ((g, .cells (rowb d tail) ty (0, 0)) :: (bs, .cells #[.int .i64 (gs.2)] 3 (0, 0)) :: (H' ++ H0)) w') := by
  refine calls_W (n := 36) Try.func99 rfl [(0, .agg #[.func (.func kf) #[] lb, .func (.func sf) #[] sb]), (1, .int .i64 ((a : Int))), (2, .int .i64 ((b : Int))), (3, .int .i64 ((c : Int))), (4, .pointer (some ⟨bs, 0, none⟩))] rfl ⟨by kernel_rfl, by kernel_rfl⟩ ?_
  refine W.weak (Ψ := St w00 ((g, Obj.cells (rowb d tail) ty (0, 0)) :: ((bs, Obj.cells #[.int .i64 (s)] 3 (0, 0)) :: (H' ++ H0)))) (fun w' h => by rw [h]; exact hst) ?_
  refine W.seq ?_
  refine W.region [(0, false), (1, false)] (by kernel_rfl) ?_
  refine T.box 5 91 (.agg #[.func (.func kf) #[] lb, .func (.func sf) #[] sb]) (#[.func (.func kf) #[] lb, .func (.func sf) #[] sb]) (by kernel_rfl) (by kernel_rfl) (by kernel_rfl) (fun _ _ _ => trivial) (fun b1 => ?_)
  refine T.pure 10 (.int .i64 (0)) (by kernel_rfl) (fun w => by kernel_rfl) ?_
  refine T.nil ?_
  refine QN.seq ?_
  refine W.seq ?_
  refine W.region [(0, false), (1, false), (2, false), (3, false), (4, false), (5, false), (6, false), (7, false), (8, false), (9, false)] (by kernel_rfl) ?_
  refine T.loadR false 12 #[.func (.func kf) #[] lb, .func (.func sf) #[] sb] 91 b1 0 (by kernel_rfl) (by kernel_rfl) (by kernel_rfl) (by kernel_rfl) (fun w h => St.rangeM h #[.func (.func kf) #[] lb, .func (.func sf) #[] sb] (.head _) (by kernel_rfl)) ?_
  refine T.pure 13 (.int .i64 ((a : Int))) (by kernel_rfl) (fun w => by kernel_rfl) ?_
  refine T.pure 14 (.int .i64 ((b : Int))) (by kernel_rfl) (fun w => by kernel_rfl) ?_
  refine T.pure 15 (.pointer (some ⟨bs, 0, none⟩)) (by kernel_rfl) (fun w => by kernel_rfl) ?_
  refine T.callG (β := Nat × Nat × Int) 16 101 #[.agg #[.func (.func kf) #[] lb, .func (.func sf) #[] sb], .int .i64 ((a : Int)), .int .i64 ((b : Int)), .pointer (some ⟨bs, 0, none⟩)] (fun gs => .tuple #[.int .i64 ((gs.1 : Int)), .int .i64 ((gs.2.1 : Int))]) (fun gs => St w00 ((g, Obj.cells (rowb d tail) ty (0, 0)) :: ((bs, Obj.cells #[.int .i64 (gs.2.2)] 3 (0, 0)) :: ((b1, Obj.cells #[.func (.func kf) #[] lb, .func (.func sf) #[] sb] 91 (0, 0)) :: (H' ++ H0))))) (fun gs => ((gs.1 = a ∧ gs.2.1 = b) ∨ (gs.1 = b ∧ gs.2.1 = a)) ∧ 0 ≤ gs.2.2 ∧ gs.2.2 ≤ s + 1) (by kernel_rfl) (by kernel_rfl) ent101 ?_ (fun _ _ _ => trivial) ?_
  · exact fun w hw => order2_c hS hn d a b (by first | assumption | (simp only [Sort.size_swp]; assumption)) (by omega) (by omega)  bs s (by omega) (by omega) ((b1, Obj.cells #[.func (.func kf) #[] lb, .func (.func sf) #[] sb] 91 (0, 0)) :: H') w (show St w00 ((g, Obj.cells (rowb d tail) ty (0, 0)) :: ((bs, Obj.cells #[.int .i64 (s)] 3 (0, 0)) :: ((b1, Obj.cells #[.func (.func kf) #[] lb, .func (.func sf) #[] sb] 91 (0, 0)) :: (H' ++ H0)))) w from (hw.perm ((((List.Perm.refl _).cons _).trans (List.Perm.swap _ _ _)).trans (((((List.Perm.refl _).cons _).trans (List.Perm.swap _ _ _)).trans ((List.Perm.refl _).cons _)).cons _))))
  rintro ⟨x2, y3, s4⟩ hp_
  have hp5 : ((x2 = a ∧ y3 = b) ∨ (x2 = b ∧ y3 = a)) ∧ 0 ≤ s4 ∧ s4 ≤ s + 1 := hp_
  refine T.pure 11 (.tuple #[.int .i64 ((x2 : Int)), .int .i64 ((y3 : Int))]) (by kernel_rfl) (fun w => by kernel_rfl) ?_
  refine T.pure 17 (.int .i64 ((x2 : Int))) (by kernel_rfl) (fun w => by kernel_rfl) ?_
  refine T.pure 18 (.int .i64 ((y3 : Int))) (by kernel_rfl) (fun w => by kernel_rfl) ?_
  refine T.pure 1 (.int .i64 ((x2 : Int))) (by kernel_rfl) (fun w => by kernel_rfl) ?_
  refine T.pure 2 (.int .i64 ((y3 : Int))) (by kernel_rfl) (fun w => by kernel_rfl) ?_
  refine T.nil ?_
  refine QN.seq ?_
  refine W.seq ?_
  refine W.region [(0, false), (1, false), (2, false), (3, false), (4, false), (5, false), (6, false), (7, false), (8, false), (9, false)] (by kernel_rfl) ?_
  refine T.loadR false 20 #[.func (.func kf) #[] lb, .func (.func sf) #[] sb] 91 b1 0 (by kernel_rfl) (by kernel_rfl) (by kernel_rfl) (by kernel_rfl) (fun w h => St.rangeM h #[.func (.func kf) #[] lb, .func (.func sf) #[] sb] (.tail _ (.tail _ (.head _))) (by kernel_rfl)) ?_
  refine T.pure 21 (.int .i64 ((y3 : Int))) (by kernel_rfl) (fun w => by kernel_rfl) ?_
  refine T.pure 22 (.int .i64 ((c : Int))) (by kernel_rfl) (fun w => by kernel_rfl) ?_
  refine T.pure 23 (.pointer (some ⟨bs, 0, none⟩)) (by kernel_rfl) (fun w => by kernel_rfl) ?_
  refine T.callG (β := Nat × Nat × Int) 24 101 #[.agg #[.func (.func kf) #[] lb, .func (.func sf) #[] sb], .int .i64 ((y3 : Int)), .int .i64 ((c : Int)), .pointer (some ⟨bs, 0, none⟩)] (fun gs => .tuple #[.int .i64 ((gs.1 : Int)), .int .i64 ((gs.2.1 : Int))]) (fun gs => St w00 ((g, Obj.cells (rowb d tail) ty (0, 0)) :: ((bs, Obj.cells #[.int .i64 (gs.2.2)] 3 (0, 0)) :: ((b1, Obj.cells #[.func (.func kf) #[] lb, .func (.func sf) #[] sb] 91 (0, 0)) :: (H' ++ H0))))) (fun gs => ((gs.1 = y3 ∧ gs.2.1 = c) ∨ (gs.1 = c ∧ gs.2.1 = y3)) ∧ 0 ≤ gs.2.2 ∧ gs.2.2 ≤ s4 + 1) (by kernel_rfl) (by kernel_rfl) ent101 ?_ (fun _ _ _ => trivial) ?_
  · exact fun w hw => order2_c hS hn d y3 c (by first | assumption | (simp only [Sort.size_swp]; assumption)) (by omega) (by omega)  bs s4 (by omega) (by omega) ((b1, Obj.cells #[.func (.func kf) #[] lb, .func (.func sf) #[] sb] 91 (0, 0)) :: H') w (show St w00 ((g, Obj.cells (rowb d tail) ty (0, 0)) :: ((bs, Obj.cells #[.int .i64 (s4)] 3 (0, 0)) :: ((b1, Obj.cells #[.func (.func kf) #[] lb, .func (.func sf) #[] sb] 91 (0, 0)) :: (H' ++ H0)))) w from (hw))
  rintro ⟨x6, y7, s8⟩ hp_
  have hp9 : ((x6 = y3 ∧ y7 = c) ∨ (x6 = c ∧ y7 = y3)) ∧ 0 ≤ s8 ∧ s8 ≤ s4 + 1 := hp_
  refine T.pure 19 (.tuple #[.int .i64 ((x6 : Int)), .int .i64 ((y7 : Int))]) (by kernel_rfl) (fun w => by kernel_rfl) ?_
  refine T.pure 25 (.int .i64 ((x6 : Int))) (by kernel_rfl) (fun w => by kernel_rfl) ?_
  refine T.pure 26 (.int .i64 ((y7 : Int))) (by kernel_rfl) (fun w => by kernel_rfl) ?_
  refine T.pure 2 (.int .i64 ((x6 : Int))) (by kernel_rfl) (fun w => by kernel_rfl) ?_
  refine T.pure 3 (.int .i64 ((y7 : Int))) (by kernel_rfl) (fun w => by kernel_rfl) ?_
  refine T.nil ?_
  refine QN.seq ?_
  refine W.seq ?_
  refine W.region [(0, false), (1, false), (2, false), (3, false), (4, false), (5, false), (6, false), (7, false), (8, false), (9, false)] (by kernel_rfl) ?_
  refine T.loadR false 28 #[.func (.func kf) #[] lb, .func (.func sf) #[] sb] 91 b1 0 (by kernel_rfl) (by kernel_rfl) (by kernel_rfl) (by kernel_rfl) (fun w h => St.rangeM h #[.func (.func kf) #[] lb, .func (.func sf) #[] sb] (.tail _ (.tail _ (.head _))) (by kernel_rfl)) ?_
  refine T.pure 29 (.int .i64 ((x2 : Int))) (by kernel_rfl) (fun w => by kernel_rfl) ?_
  refine T.pure 30 (.int .i64 ((x6 : Int))) (by kernel_rfl) (fun w => by kernel_rfl) ?_
  refine T.pure 31 (.pointer (some ⟨bs, 0, none⟩)) (by kernel_rfl) (fun w => by kernel_rfl) ?_
  refine T.callG (β := Nat × Nat × Int) 32 101 #[.agg #[.func (.func kf) #[] lb, .func (.func sf) #[] sb], .int .i64 ((x2 : Int)), .int .i64 ((x6 : Int)), .pointer (some ⟨bs, 0, none⟩)] (fun gs => .tuple #[.int .i64 ((gs.1 : Int)), .int .i64 ((gs.2.1 : Int))]) (fun gs => St w00 ((g, Obj.cells (rowb d tail) ty (0, 0)) :: ((bs, Obj.cells #[.int .i64 (gs.2.2)] 3 (0, 0)) :: ((b1, Obj.cells #[.func (.func kf) #[] lb, .func (.func sf) #[] sb] 91 (0, 0)) :: (H' ++ H0))))) (fun gs => ((gs.1 = x2 ∧ gs.2.1 = x6) ∨ (gs.1 = x6 ∧ gs.2.1 = x2)) ∧ 0 ≤ gs.2.2 ∧ gs.2.2 ≤ s8 + 1) (by kernel_rfl) (by kernel_rfl) ent101 ?_ (fun _ _ _ => trivial) ?_
  · exact fun w hw => order2_c hS hn d x2 x6 (by first | assumption | (simp only [Sort.size_swp]; assumption)) (by omega) (by omega)  bs s8 (by omega) (by omega) ((b1, Obj.cells #[.func (.func kf) #[] lb, .func (.func sf) #[] sb] 91 (0, 0)) :: H') w (show St w00 ((g, Obj.cells (rowb d tail) ty (0, 0)) :: ((bs, Obj.cells #[.int .i64 (s8)] 3 (0, 0)) :: ((b1, Obj.cells #[.func (.func kf) #[] lb, .func (.func sf) #[] sb] 91 (0, 0)) :: (H' ++ H0)))) w from (hw))
  rintro ⟨x10, y11, s12⟩ hp_
  have hp13 : ((x10 = x2 ∧ y11 = x6) ∨ (x10 = x6 ∧ y11 = x2)) ∧ 0 ≤ s12 ∧ s12 ≤ s8 + 1 := hp_
  refine T.pure 27 (.tuple #[.int .i64 ((x10 : Int)), .int .i64 ((y11 : Int))]) (by kernel_rfl) (fun w => by kernel_rfl) ?_
  refine T.pure 33 (.int .i64 ((x10 : Int))) (by kernel_rfl) (fun w => by kernel_rfl) ?_
  refine T.pure 34 (.int .i64 ((y11 : Int))) (by kernel_rfl) (fun w => by kernel_rfl) ?_
  refine T.pure 1 (.int .i64 ((x10 : Int))) (by kernel_rfl) (fun w => by kernel_rfl) ?_
  refine T.pure 2 (.int .i64 ((y11 : Int))) (by kernel_rfl) (fun w => by kernel_rfl) ?_
  refine T.nil ?_
  refine QN.seq ?_
  refine W.seq ?_
  refine W.region [(0, false), (1, false)] (by kernel_rfl) ?_
  refine T.pure 35 (.int .i64 ((y11 : Int))) (by kernel_rfl) (fun w => by kernel_rfl) ?_
  refine T.pure 10 (.int .i64 ((y11 : Int))) (by kernel_rfl) (fun w => by kernel_rfl) ?_
  refine T.nil ?_
  refine QN.seq ?_
  refine W.ret ?_
  refine QN.done (.inl rfl) 10 (.int .i64 ((y11 : Int))) rfl (by kernel_rfl) (fun w hw => ?_)
  exact (show ∃ gs : Nat × Int, _ from ⟨(y11, s12), ⟨(by show y11 = a ∨ y11 = b ∨ y11 = c; omega), (by show (0 : Int) ≤ s12; omega), (by show (s12 : Int) ≤ s + 3; omega)⟩, rfl, ((hw.perm ((List.Perm.refl _).trans ((List.Perm.refl _).cons _))).part ((((List.Sublist.refl _).cons _).cons_cons _).cons_cons _))⟩)
set_option maxRecDepth 100000 in
set_option maxHeartbeats 2000000 in
theorem medAdj_c {α : Type} [Cel α] [Inhabited α] {w00 : World} {g n : Nat} {ty : TypeId} {tail : List Value} {lt : α → α → Bool} {kf : Nat} {lb : Array Value} {sf : Nat} {sb : Array Value} {H0 : List (Nat × Obj)} (hS : SortOk Try.prog α w00 g n ty tail lt kf lb sf sb H0) (hn : n ≤ 1000) (d : Array α) (a : Nat) (hd : d.size = n) (ha : a + 1 < n) (ha1 : 1 ≤ a) (bs : Nat) (s : Int) (hs0 : 0 ≤ s) (hs1 : s ≤ 900) (H' : List (Nat × Obj)) (w : World) (hst : St w00 ((g, .cells (rowb d tail) ty (0, 0)) :: (bs, .cells #[.int .i64 s] 3 (0, 0)) :: (H' ++ H0)) w) : Calls Try.prog 98 #[.agg #[.func (.func kf) #[] lb, .func (.func sf) #[] sb], .int .i64 ((a : Int)), .pointer (some ⟨bs, 0, none⟩)] w (fun rr w' => ∃ gs : Nat × Int, ((a ≤ gs.1 + 1 ∧ gs.1 ≤ a + 1) ∧ 0 ≤ gs.2 ∧ gs.2 ≤ s + 3) ∧ rr = .returned (.int .i64 (gs.1 : Int)) ∧ St w00 ((g, .cells (rowb d tail) ty (0, 0)) :: (bs, .cells #[.int .i64 (gs.2)] 3 (0, 0)) :: (H' ++ H0)) w') := by
  refine calls_W (n := 15) Try.func98 rfl [(0, .agg #[.func (.func kf) #[] lb, .func (.func sf) #[] sb]), (1, .int .i64 ((a : Int))), (2, .pointer (some ⟨bs, 0, none⟩))] rfl ⟨by kernel_rfl, by kernel_rfl⟩ ?_
  refine W.weak (Ψ := St w00 ((g, Obj.cells (rowb d tail) ty (0, 0)) :: ((bs, Obj.cells #[.int .i64 (s)] 3 (0, 0)) :: (H' ++ H0)))) (fun w' h => by rw [h]; exact hst) ?_
  refine W.seq ?_
  refine W.region [(0, false), (1, false)] (by kernel_rfl) ?_
  refine T.box 3 91 (.agg #[.func (.func kf) #[] lb, .func (.func sf) #[] sb]) (#[.func (.func kf) #[] lb, .func (.func sf) #[] sb]) (by kernel_rfl) (by kernel_rfl) (by kernel_rfl) (fun _ _ _ => trivial) (fun b1 => ?_)
  refine T.pure 6 (.int .i64 (0)) (by kernel_rfl) (fun w => by kernel_rfl) ?_
  refine T.nil ?_
  refine QN.seq ?_
  refine W.seq ?_
  refine W.region [(0, false), (1, false), (2, false), (3, false), (4, false), (5, false), (6, false), (7, false), (8, false)] (by kernel_rfl) ?_
  refine T.loadR false 7 #[.func (.func kf) #[] lb, .func (.func sf) #[] sb] 91 b1 0 (by kernel_rfl) (by kernel_rfl) (by kernel_rfl) (by kernel_rfl) (fun w h => St.rangeM h #[.func (.func kf) #[] lb, .func (.func sf) #[] sb] (.head _) (by kernel_rfl)) ?_
  refine T.pure 8 (.int .i64 ((a : Int))) (by kernel_rfl) (fun w => by kernel_rfl) ?_
  refine T.pureE 9 (.int .i64 (IntKind.i64.wrap ((a : Int) - 1))) (.int .i64 (((a - 1 : Nat) : Int))) (by kernel_rfl) (fun w => by kernel_rfl) ((wrap_int (by omega) (by omega)).trans (int_eq (by omega))) ?_
  refine T.pure 10 (.int .i64 ((a : Int))) (by kernel_rfl) (fun w => by kernel_rfl) ?_
  refine T.pure 11 (.int .i64 ((a : Int))) (by kernel_rfl) (fun w => by kernel_rfl) ?_
  refine T.pureE 12 (.int .i64 (IntKind.i64.wrap ((a : Int) + 1))) (.int .i64 ((a : Int) + 1)) (by kernel_rfl) (fun w => by kernel_rfl) (wrap_int (by omega) (by omega)) ?_
  refine T.pure 13 (.pointer (some ⟨bs, 0, none⟩)) (by kernel_rfl) (fun w => by kernel_rfl) ?_
  refine T.callG (β := Nat × Int) 14 99 #[.agg #[.func (.func kf) #[] lb, .func (.func sf) #[] sb], .int .i64 (((a - 1 : Nat) : Int)), .int .i64 ((a : Int)), .int .i64 ((a : Int) + 1), .pointer (some ⟨bs, 0, none⟩)] (fun gs => .int .i64 ((gs.1 : Int))) (fun gs => St w00 ((g, Obj.cells (rowb d tail) ty (0, 0)) :: ((bs, Obj.cells #[.int .i64 (gs.2)] 3 (0, 0)) :: ((b1, Obj.cells #[.func (.func kf) #[] lb, .func (.func sf) #[] sb] 91 (0, 0)) :: (H' ++ H0))))) (fun gs => (gs.1 = (a - 1) ∨ gs.1 = a ∨ gs.1 = (a + 1)) ∧ 0 ≤ gs.2 ∧ gs.2 ≤ s + 3) (by kernel_rfl) (by kernel_rfl) ent99 ?_ (fun _ _ _ => trivial) ?_
  · exact fun w hw => median_c hS hn d (a - 1) a (a + 1) (by first | assumption | (simp only [Sort.size_swp]; assumption)) (by omega) (by omega) (by omega)  bs s (by omega) (by omega) ((b1, Obj.cells #[.func (.func kf) #[] lb, .func (.func sf) #[] sb] 91 (0, 0)) :: H') w (show St w00 ((g, Obj.cells (rowb d tail) ty (0, 0)) :: ((bs, Obj.cells #[.int .i64 (s)] 3 (0, 0)) :: ((b1, Obj.cells #[.func (.func kf) #[] lb, .func (.func sf) #[] sb] 91 (0, 0)) :: (H' ++ H0)))) w from (hw.perm ((((List.Perm.refl _).cons _).trans (List.Perm.swap _ _ _)).trans (((((List.Perm.refl _).cons _).trans (List.Perm.swap _ _ _)).trans ((List.Perm.refl _).cons _)).cons _))))
  rintro ⟨x2, s3⟩ hp_
  have hp4 : (x2 = (a - 1) ∨ x2 = a ∨ x2 = (a + 1)) ∧ 0 ≤ s3 ∧ s3 ≤ s + 3 := hp_
  refine T.pure 6 (.int .i64 ((x2 : Int))) (by kernel_rfl) (fun w => by kernel_rfl) ?_
  refine T.nil ?_
  refine QN.seq ?_
  refine W.ret ?_
  refine QN.done (.inl rfl) 6 (.int .i64 ((x2 : Int))) rfl (by kernel_rfl) (fun w hw => ?_)
  exact (show ∃ gs : Nat × Int, _ from ⟨(x2, s3), ⟨(by show a ≤ x2 + 1 ∧ x2 ≤ a + 1; omega), (by show (0 : Int) ≤ s3; omega), (by show (s3 : Int) ≤ s + 3; omega)⟩, rfl, ((hw.perm ((List.Perm.refl _).trans ((List.Perm.refl _).cons _))).part ((((List.Sublist.refl _).cons _).cons_cons _).cons_cons _))⟩)
set_option maxRecDepth 100000 in
set_option maxHeartbeats 2000000 in
theorem pivot_c {α : Type} [Cel α] [Inhabited α] {w00 : World} {g n : Nat} {ty : TypeId} {tail : List Value} {lt : α → α → Bool} {kf : Nat} {lb : Array Value} {sf : Nat} {sb : Array Value} {H0 : List (Nat × Obj)} (hS : SortOk Try.prog α w00 g n ty tail lt kf lb sf sb H0) (hn : n ≤ 1000) (d : Array α) (a b : Nat) (hd : d.size = n) (hab : a < b) (hb : b ≤ n) (H' : List (Nat × Obj)) (w : World) (hst : St w00 ((g, .cells (rowb d tail) ty (0, 0)) :: (H' ++ H0)) w) : Calls Try.prog 80 #[.agg #[.func (.func kf) #[] lb, .func (.func sf) #[] sb], .int .i64 ((a : Int)), .int .i64 ((b : Int))] w (fun rr w' => ∃ gs : Nat × Int, (a ≤ gs.1 ∧ gs.1 < b) ∧ rr = .returned (.tuple #[.int .i64 (gs.1 : Int), .int .i64 gs.2]) ∧ St w00 ((g, .cells (rowb d tail) ty (0, 0)) :: (H' ++ H0)) w') := by
  refine calls_W (n := 57) Try.func80 rfl [(0, .agg #[.func (.func kf) #[] lb, .func (.func sf) #[] sb]), (1, .int .i64 ((a : Int))), (2, .int .i64 ((b : Int)))] rfl ⟨by kernel_rfl, by kernel_rfl⟩ ?_
  refine W.weak (Ψ := St w00 ((g, Obj.cells (rowb d tail) ty (0, 0)) :: (H' ++ H0))) (fun w' h => by rw [h]; exact hst) ?_
  refine W.seq ?_
  refine W.region [(0, false), (1, false), (2, false)] (by kernel_rfl) ?_
  refine T.box 3 91 (.agg #[.func (.func kf) #[] lb, .func (.func sf) #[] sb]) (#[.func (.func kf) #[] lb, .func (.func sf) #[] sb]) (by kernel_rfl) (by kernel_rfl) (by kernel_rfl) (fun _ _ _ => trivial) (fun b1 => ?_)
  refine T.pure 6 (.int .i64 (0)) (by kernel_rfl) (fun w => by kernel_rfl) ?_
  refine T.pure 7 (.int .i64 (0)) (by kernel_rfl) (fun w => by kernel_rfl) ?_
  refine T.nil ?_
  refine QN.seq ?_
  refine W.seq ?_
  refine W.region [(0, false), (1, false), (2, false), (3, false)] (by kernel_rfl) ?_
  refine T.pure 13 (.int .i64 ((b : Int))) (by kernel_rfl) (fun w => by kernel_rfl) ?_
  refine T.pure 14 (.int .i64 ((a : Int))) (by kernel_rfl) (fun w => by kernel_rfl) ?_
  refine T.pureE 15 (.int .i64 (IntKind.i64.wrap ((b : Int) - (a : Int)))) (.int .i64 ((b : Int) - (a : Int))) (by kernel_rfl) (fun w => by kernel_rfl) (wrap_int (by omega) (by omega)) ?_
  refine T.pureE 8 (.int .i64 ((b : Int) - (a : Int))) (.int .i64 (((b - a : Nat) : Int))) (by kernel_rfl) (fun w => by kernel_rfl) (int_eq (by omega)) ?_
  refine T.nil ?_
  refine QN.seq ?_
  refine W.seq ?_
  refine W.region [(0, false)] (by kernel_rfl) ?_
  refine T.alloc 9 3 #[.int .i64 (0)] (by kernel_rfl) (by kernel_rfl) (by kernel_rfl) (fun _ _ _ => trivial) (fun b2 => ?_)
  refine T.nil ?_
  refine QN.seq ?_
  refine W.seq ?_
  refine W.region [(0, false), (1, false), (2, false), (3, false), (4, false), (5, false)] (by kernel_rfl) ?_
  refine T.pure 16 (.int .i64 ((a : Int))) (by kernel_rfl) (fun w => by kernel_rfl) ?_
  refine T.pure 17 (.int .i64 (((b - a : Nat) : Int))) (by kernel_rfl) (fun w => by kernel_rfl) ?_
  refine T.pureE 18 (.int .i64 (IntKind.i64.wrap ((((b - a : Nat) : Int)).tdiv 4))) (.int .i64 (((b - a : Nat) : Int) / 4)) (by kernel_rfl) (fun w => by kernel_rfl) (quo_int (by omega) (by decide) (by omega)) ?_
  refine T.pureE 19 (.int .i64 (IntKind.i64.wrap ((((b - a : Nat) : Int) / 4) * 1))) (.int .i64 ((((b - a : Nat) : Int) / 4) * 1)) (by kernel_rfl) (fun w => by kernel_rfl) (wrap_int (by omega) (by omega)) ?_
  refine T.pureE 20 (.int .i64 (IntKind.i64.wrap ((a : Int) + ((((b - a : Nat) : Int) / 4) * 1)))) (.int .i64 ((a : Int) + ((((b - a : Nat) : Int) / 4) * 1))) (by kernel_rfl) (fun w => by kernel_rfl) (wrap_int (by omega) (by omega)) ?_
  refine T.pureE 10 (.int .i64 ((a : Int) + ((((b - a : Nat) : Int) / 4) * 1))) (.int .i64 (((a + (((b - a) / 4) * 1) : Nat) : Int))) (by kernel_rfl) (fun w => by kernel_rfl) (int_eq (by omega)) ?_
  refine T.nil ?_
  refine QN.seq ?_
  refine W.seq ?_
  refine W.region [(0, false), (1, false), (2, false), (3, false), (4, false), (5, false)] (by kernel_rfl) ?_
  refine T.pure 21 (.int .i64 ((a : Int))) (by kernel_rfl) (fun w => by kernel_rfl) ?_
  refine T.pure 22 (.int .i64 (((b - a : Nat) : Int))) (by kernel_rfl) (fun w => by kernel_rfl) ?_
  refine T.pureE 23 (.int .i64 (IntKind.i64.wrap ((((b - a : Nat) : Int)).tdiv 4))) (.int .i64 (((b - a : Nat) : Int) / 4)) (by kernel_rfl) (fun w => by kernel_rfl) (quo_int (by omega) (by decide) (by omega)) ?_
  refine T.pureE 24 (.int .i64 (IntKind.i64.wrap ((((b - a : Nat) : Int) / 4) * 2))) (.int .i64 ((((b - a : Nat) : Int) / 4) * 2)) (by kernel_rfl) (fun w => by kernel_rfl) (wrap_int (by omega) (by omega)) ?_
  refine T.pureE 25 (.int .i64 (IntKind.i64.wrap ((a : Int) + ((((b - a : Nat) : Int) / 4) * 2)))) (.int .i64 ((a : Int) + ((((b - a : Nat) : Int) / 4) * 2))) (by kernel_rfl) (fun w => by kernel_rfl) (wrap_int (by omega) (by omega)) ?_
  refine T.pureE 11 (.int .i64 ((a : Int) + ((((b - a : Nat) : Int) / 4) * 2))) (.int .i64 (((a + (((b - a) / 4) * 2) : Nat) : Int))) (by kernel_rfl) (fun w => by kernel_rfl) (int_eq (by omega)) ?_
  refine T.nil ?_
  refine QN.seq ?_
  refine W.seq ?_
  refine W.region [(0, false), (1, false), (2, false), (3, false), (4, false), (5, false)] (by kernel_rfl) ?_
  refine T.pure 26 (.int .i64 ((a : Int))) (by kernel_rfl) (fun w => by kernel_rfl) ?_
  refine T.pure 27 (.int .i64 (((b - a : Nat) : Int))) (by kernel_rfl) (fun w => by kernel_rfl) ?_
  refine T.pureE 28 (.int .i64 (IntKind.i64.wrap ((((b - a : Nat) : Int)).tdiv 4))) (.int .i64 (((b - a : Nat) : Int) / 4)) (by kernel_rfl) (fun w => by kernel_rfl) (quo_int (by omega) (by decide) (by omega)) ?_
  refine T.pureE 29 (.int .i64 (IntKind.i64.wrap ((((b - a : Nat) : Int) / 4) * 3))) (.int .i64 ((((b - a : Nat) : Int) / 4) * 3)) (by kernel_rfl) (fun w => by kernel_rfl) (wrap_int (by omega) (by omega)) ?_
  refine T.pureE 30 (.int .i64 (IntKind.i64.wrap ((a : Int) + ((((b - a : Nat) : Int) / 4) * 3)))) (.int .i64 ((a : Int) + ((((b - a : Nat) : Int) / 4) * 3))) (by kernel_rfl) (fun w => by kernel_rfl) (wrap_int (by omega) (by omega)) ?_
  refine T.pureE 12 (.int .i64 ((a : Int) + ((((b - a : Nat) : Int) / 4) * 3))) (.int .i64 (((a + (((b - a) / 4) * 3) : Nat) : Int))) (by kernel_rfl) (fun w => by kernel_rfl) (int_eq (by omega)) ?_
  refine T.nil ?_
  refine QN.seq ?_
  refine W.seq ?_
  refine W.seq ?_
  refine W.region [(0, false), (1, false)] (by kernel_rfl) ?_
  refine T.pure 31 (.int .i64 (((b - a : Nat) : Int))) (by kernel_rfl) (fun w => by kernel_rfl) ?_
  refine T.pure 32 (.bool (decide (8 ≤ ((b - a : Nat) : Int)))) (by kernel_rfl) (fun w => by kernel_rfl) ?_
  refine T.nil ?_
  refine QN.seq ?_
  refine W.cond (decide (8 ≤ ((b - a : Nat) : Int))) (by kernel_rfl) (fun h3 => ?_) (fun h3 => ?_)
  · skip
    have h3' := of_decide_eq_true h3
    refine W.seq ?_
    refine W.seq ?_
    refine W.region [(0, false), (1, false)] (by kernel_rfl) ?_
    refine T.pure 33 (.int .i64 (((b - a : Nat) : Int))) (by kernel_rfl) (fun w => by kernel_rfl) ?_
    refine T.pure 34 (.bool (decide (50 ≤ ((b - a : Nat) : Int)))) (by kernel_rfl) (fun w => by kernel_rfl) ?_
    refine T.nil ?_
    refine QN.seq ?_
    refine W.cond (decide (50 ≤ ((b - a : Nat) : Int))) (by kernel_rfl) (fun h4 => ?_) (fun h4 => ?_)
    · skip
      have h4' := of_decide_eq_true h4
      refine W.seq ?_
      refine W.region [(0, false), (1, false), (2, false), (3, false)] (by kernel_rfl) ?_
      refine T.loadR false 35 #[.func (.func kf) #[] lb, .func (.func sf) #[] sb] 91 b1 0 (by kernel_rfl) (by kernel_rfl) (by kernel_rfl) (by kernel_rfl) (fun w h => St.rangeM h #[.func (.func kf) #[] lb, .func (.func sf) #[] sb] (.tail _ (.head _)) (by kernel_rfl)) ?_
      refine T.pure 36 (.int .i64 (((a + (((b - a) / 4) * 1) : Nat) : Int))) (by kernel_rfl) (fun w => by kernel_rfl) ?_
      refine T.callG (β := Nat × Int) 37 98 #[.agg #[.func (.func kf) #[] lb, .func (.func sf) #[] sb], .int .i64 (((a + (((b - a) / 4) * 1) : Nat) : Int)), .pointer (some ⟨b2, 0, none⟩)] (fun gs => .int .i64 ((gs.1 : Int))) (fun gs => St w00 ((g, Obj.cells (rowb d tail) ty (0, 0)) :: ((b2, Obj.cells #[.int .i64 (gs.2)] 3 (0, 0)) :: ((b1, Obj.cells #[.func (.func kf) #[] lb, .func (.func sf) #[] sb] 91 (0, 0)) :: (H' ++ H0))))) (fun gs => ((a + (((b - a) / 4) * 1)) ≤ gs.1 + 1 ∧ gs.1 ≤ (a + (((b - a) / 4) * 1)) + 1) ∧ 0 ≤ gs.2 ∧ gs.2 ≤ 0 + 3) (by kernel_rfl) (by kernel_rfl) ent98 ?_ (fun _ _ _ => trivial) ?_
      · exact fun w hw => medAdj_c hS hn d (a + (((b - a) / 4) * 1)) (by first | assumption | (simp only [Sort.size_swp]; assumption)) (by omega) (by omega)  b2 0 (by omega) (by omega) ((b1, Obj.cells #[.func (.func kf) #[] lb, .func (.func sf) #[] sb] 91 (0, 0)) :: H') w (show St w00 ((g, Obj.cells (rowb d tail) ty (0, 0)) :: ((b2, Obj.cells #[.int .i64 (0)] 3 (0, 0)) :: ((b1, Obj.cells #[.func (.func kf) #[] lb, .func (.func sf) #[] sb] 91 (0, 0)) :: (H' ++ H0)))) w from (hw.perm ((((((List.Perm.refl _).cons _).trans (List.Perm.swap _ _ _)).cons _).trans (List.Perm.swap _ _ _)).trans (((List.Perm.refl _).trans ((List.Perm.refl _).cons _)).cons _))))
      rintro ⟨x5, s6⟩ hp_
      have hp7 : ((a + (((b - a) / 4) * 1)) ≤ x5 + 1 ∧ x5 ≤ (a + (((b - a) / 4) * 1)) + 1) ∧ 0 ≤ s6 ∧ s6 ≤ 0 + 3 := hp_
      refine T.pure 10 (.int .i64 ((x5 : Int))) (by kernel_rfl) (fun w => by kernel_rfl) ?_
      refine T.nil ?_
      refine QN.seq ?_
      refine W.seq ?_
      refine W.region [(0, false), (1, false), (2, false), (3, false)] (by kernel_rfl) ?_
      refine T.loadR false 38 #[.func (.func kf) #[] lb, .func (.func sf) #[] sb] 91 b1 0 (by kernel_rfl) (by kernel_rfl) (by kernel_rfl) (by kernel_rfl) (fun w h => St.rangeM h #[.func (.func kf) #[] lb, .func (.func sf) #[] sb] (.tail _ (.tail _ (.head _))) (by kernel_rfl)) ?_
      refine T.pure 39 (.int .i64 (((a + (((b - a) / 4) * 2) : Nat) : Int))) (by kernel_rfl) (fun w => by kernel_rfl) ?_
      refine T.callG (β := Nat × Int) 40 98 #[.agg #[.func (.func kf) #[] lb, .func (.func sf) #[] sb], .int .i64 (((a + (((b - a) / 4) * 2) : Nat) : Int)), .pointer (some ⟨b2, 0, none⟩)] (fun gs => .int .i64 ((gs.1 : Int))) (fun gs => St w00 ((g, Obj.cells (rowb d tail) ty (0, 0)) :: ((b2, Obj.cells #[.int .i64 (gs.2)] 3 (0, 0)) :: ((b1, Obj.cells #[.func (.func kf) #[] lb, .func (.func sf) #[] sb] 91 (0, 0)) :: (H' ++ H0))))) (fun gs => ((a + (((b - a) / 4) * 2)) ≤ gs.1 + 1 ∧ gs.1 ≤ (a + (((b - a) / 4) * 2)) + 1) ∧ 0 ≤ gs.2 ∧ gs.2 ≤ s6 + 3) (by kernel_rfl) (by kernel_rfl) ent98 ?_ (fun _ _ _ => trivial) ?_
      · exact fun w hw => medAdj_c hS hn d (a + (((b - a) / 4) * 2)) (by first | assumption | (simp only [Sort.size_swp]; assumption)) (by omega) (by omega)  b2 s6 (by omega) (by omega) ((b1, Obj.cells #[.func (.func kf) #[] lb, .func (.func sf) #[] sb] 91 (0, 0)) :: H') w (show St w00 ((g, Obj.cells (rowb d tail) ty (0, 0)) :: ((b2, Obj.cells #[.int .i64 (s6)] 3 (0, 0)) :: ((b1, Obj.cells #[.func (.func kf) #[] lb, .func (.func sf) #[] sb] 91 (0, 0)) :: (H' ++ H0)))) w from (hw))
      rintro ⟨x8, s9⟩ hp_
      have hp10 : ((a + (((b - a) / 4) * 2)) ≤ x8 + 1 ∧ x8 ≤ (a + (((b - a) / 4) * 2)) + 1) ∧ 0 ≤ s9 ∧ s9 ≤ s6 + 3 := hp_
      refine T.pure 11 (.int .i64 ((x8 : Int))) (by kernel_rfl) (fun w => by kernel_rfl) ?_
      refine T.nil ?_
      refine QN.seq ?_
      refine W.region [(0, false), (1, false), (2, false), (3, false)] (by kernel_rfl) ?_
      refine T.loadR false 41 #[.func (.func kf) #[] lb, .func (.func sf) #[] sb] 91 b1 0 (by kernel_rfl) (by kernel_rfl) (by kernel_rfl) (by kernel_rfl) (fun w h => St.rangeM h #[.func (.func kf) #[] lb, .func (.func sf) #[] sb] (.tail _ (.tail _ (.head _))) (by kernel_rfl)) ?_
      refine T.pure 42 (.int .i64 (((a + (((b - a) / 4) * 3) : Nat) : Int))) (by kernel_rfl) (fun w => by kernel_rfl) ?_
      refine T.callG (β := Nat × Int) 43 98 #[.agg #[.func (.func kf) #[] lb, .func (.func sf) #[] sb], .int .i64 (((a + (((b - a) / 4) * 3) : Nat) : Int)), .pointer (some ⟨b2, 0, none⟩)] (fun gs => .int .i64 ((gs.1 : Int))) (fun gs => St w00 ((g, Obj.cells (rowb d tail) ty (0, 0)) :: ((b2, Obj.cells #[.int .i64 (gs.2)] 3 (0, 0)) :: ((b1, Obj.cells #[.func (.func kf) #[] lb, .func (.func sf) #[] sb] 91 (0, 0)) :: (H' ++ H0))))) (fun gs => ((a + (((b - a) / 4) * 3)) ≤ gs.1 + 1 ∧ gs.1 ≤ (a + (((b - a) / 4) * 3)) + 1) ∧ 0 ≤ gs.2 ∧ gs.2 ≤ s9 + 3) (by kernel_rfl) (by kernel_rfl) ent98 ?_ (fun _ _ _ => trivial) ?_
      · exact fun w hw => medAdj_c hS hn d (a + (((b - a) / 4) * 3)) (by first | assumption | (simp only [Sort.size_swp]; assumption)) (by omega) (by omega)  b2 s9 (by omega) (by omega) ((b1, Obj.cells #[.func (.func kf) #[] lb, .func (.func sf) #[] sb] 91 (0, 0)) :: H') w (show St w00 ((g, Obj.cells (rowb d tail) ty (0, 0)) :: ((b2, Obj.cells #[.int .i64 (s9)] 3 (0, 0)) :: ((b1, Obj.cells #[.func (.func kf) #[] lb, .func (.func sf) #[] sb] 91 (0, 0)) :: (H' ++ H0)))) w from (hw))
      rintro ⟨x11, s12⟩ hp_
      have hp13 : ((a + (((b - a) / 4) * 3)) ≤ x11 + 1 ∧ x11 ≤ (a + (((b - a) / 4) * 3)) + 1) ∧ 0 ≤ s12 ∧ s12 ≤ s9 + 3 := hp_
      refine T.pure 12 (.int .i64 ((x11 : Int))) (by kernel_rfl) (fun w => by kernel_rfl) ?_
      refine T.nil ?_
      refine QN.seq ?_
      refine W.region [(0, false), (1, false), (2, false), (3, false), (4, false), (5, false)] (by kernel_rfl) ?_
      refine T.loadR false 44 #[.func (.func kf) #[] lb, .func (.func sf) #[] sb] 91 b1 0 (by kernel_rfl) (by kernel_rfl) (by kernel_rfl) (by kernel_rfl) (fun w h => St.rangeM h #[.func (.func kf) #[] lb, .func (.func sf) #[] sb] (.tail _ (.tail _ (.head _))) (by kernel_rfl)) ?_
      refine T.pure 45 (.int .i64 ((x5 : Int))) (by kernel_rfl) (fun w => by kernel_rfl) ?_
      refine T.pure 46 (.int .i64 ((x8 : Int))) (by kernel_rfl) (fun w => by kernel_rfl) ?_
      refine T.pure 47 (.int .i64 ((x11 : Int))) (by kernel_rfl) (fun w => by kernel_rfl) ?_
      refine T.callG (β := Nat × Int) 48 99 #[.agg #[.func (.func kf) #[] lb, .func (.func sf) #[] sb], .int .i64 ((x5 : Int)), .int .i64 ((x8 : Int)), .int .i64 ((x11 : Int)), .pointer (some ⟨b2, 0, none⟩)] (fun gs => .int .i64 ((gs.1 : Int))) (fun gs => St w00 ((g, Obj.cells (rowb d tail) ty (0, 0)) :: ((b2, Obj.cells #[.int .i64 (gs.2)] 3 (0, 0)) :: ((b1, Obj.cells #[.func (.func kf) #[] lb, .func (.func sf) #[] sb] 91 (0, 0)) :: (H' ++ H0))))) (fun gs => (gs.1 = x5 ∨ gs.1 = x8 ∨ gs.1 = x11) ∧ 0 ≤ gs.2 ∧ gs.2 ≤ s12 + 3) (by kernel_rfl) (by kernel_rfl) ent99 ?_ (fun _ _ _ => trivial) ?_
      · exact fun w hw => median_c hS hn d x5 x8 x11 (by first | assumption | (simp only [Sort.size_swp]; assumption)) (by omega) (by omega) (by omega)  b2 s12 (by omega) (by omega) ((b1, Obj.cells #[.func (.func kf) #[] lb, .func (.func sf) #[] sb] 91 (0, 0)) :: H') w (show St w00 ((g, Obj.cells (rowb d tail) ty (0, 0)) :: ((b2, Obj.cells #[.int .i64 (s12)] 3 (0, 0)) :: ((b1, Obj.cells #[.func (.func kf) #[] lb, .func (.func sf) #[] sb] 91 (0, 0)) :: (H' ++ H0)))) w from (hw))
      rintro ⟨x14, s15⟩ hp_
      have hp16 : (x14 = x5 ∨ x14 = x8 ∨ x14 = x11) ∧ 0 ≤ s15 ∧ s15 ≤ s12 + 3 := hp_
      refine T.pure 11 (.int .i64 ((x14 : Int))) (by kernel_rfl) (fun w => by kernel_rfl) ?_
      refine T.nil ?_
      refine QN.seq ?_
      refine W.seq ?_
      refine W.region [(0, false)] (by kernel_rfl) ?_
      refine T.load false 49 (.int .i64 (s15)) 3 b2 0 (by kernel_rfl) (by kernel_rfl) (by kernel_rfl) (fun w h => St.cellM h (.tail _ (.head _)) (by kernel_rfl)) ?_
      refine T.nil ?_
      refine QN.seq ?_
      refine W.block ?_
      refine W.seq ?_
      refine W.region [(0, false), (1, false)] (by kernel_rfl) ?_
      refine T.pure 52 (.bool (s15 == 0)) (by kernel_rfl) (fun w => by kernel_rfl) ?_
      refine T.pure 51 (.bool (s15 == 0)) (by kernel_rfl) (fun w => by kernel_rfl) ?_
      refine T.nil ?_
      refine QN.seq ?_
      refine W.cond (s15 == 0) (by kernel_rfl) (fun h17 => ?_) (fun h17 => ?_)
      · skip
        have h17' := eq_of_beq h17
        refine W.seq ?_
        refine W.region [(0, false), (1, false), (2, false)] (by kernel_rfl) ?_
        refine T.pure 53 (.int .i64 ((x14 : Int))) (by kernel_rfl) (fun w => by kernel_rfl) ?_
        refine T.pure 6 (.int .i64 ((x14 : Int))) (by kernel_rfl) (fun w => by kernel_rfl) ?_
        refine T.pure 7 (.int .i64 (1)) (by kernel_rfl) (fun w => by kernel_rfl) ?_
        refine T.nil ?_
        refine QN.seq ?_
        refine W.ret ?_
        refine QN.blkRet ?_
        refine QN.done2 (.inl rfl) 6 7 (.int .i64 ((x14 : Int))) (.int .i64 (1)) rfl (by kernel_rfl) (by kernel_rfl) (fun w hw => ?_)
        exact (show ∃ gs : Nat × Int, _ from ⟨(x14, 1), (by show a ≤ x14 ∧ x14 < b; omega), rfl, ((hw.perm (List.Perm.refl _)).part ((((List.Sublist.refl _).cons _).cons _).cons_cons _))⟩)
      · skip
        have h17' := ne_of_beq_false h17
        refine W.seq ?_
        refine W.region [(0, false), (1, false)] (by kernel_rfl) ?_
        refine T.pure 55 (.bool (s15 == 12)) (by kernel_rfl) (fun w => by kernel_rfl) ?_
        refine T.pure 54 (.bool (s15 == 12)) (by kernel_rfl) (fun w => by kernel_rfl) ?_
        refine T.nil ?_
        refine QN.seq ?_
        refine W.cond (s15 == 12) (by kernel_rfl) (fun h18 => ?_) (fun h18 => ?_)
        · skip
          have h18' := eq_of_beq h18
          refine W.seq ?_
          refine W.region [(0, false), (1, false), (2, false)] (by kernel_rfl) ?_
          refine T.pure 56 (.int .i64 ((x14 : Int))) (by kernel_rfl) (fun w => by kernel_rfl) ?_
          refine T.pure 6 (.int .i64 ((x14 : Int))) (by kernel_rfl) (fun w => by kernel_rfl) ?_
          refine T.pure 7 (.int .i64 (2)) (by kernel_rfl) (fun w => by kernel_rfl) ?_
          refine T.nil ?_
          refine QN.seq ?_
          refine W.ret ?_
          refine QN.blkRet ?_
          refine QN.done2 (.inl rfl) 6 7 (.int .i64 ((x14 : Int))) (.int .i64 (2)) rfl (by kernel_rfl) (by kernel_rfl) (fun w hw => ?_)
          exact (show ∃ gs : Nat × Int, _ from ⟨(x14, 2), (by show a ≤ x14 ∧ x14 < b; omega), rfl, ((hw.perm (List.Perm.refl _)).part ((((List.Sublist.refl _).cons _).cons _).cons_cons _))⟩)
        · skip
          have h18' := ne_of_beq_false h18
          refine W.seq ?_
          refine W.region [(0, false), (1, false), (2, false)] (by kernel_rfl) ?_
          refine T.pure 50 (.int .i64 ((x14 : Int))) (by kernel_rfl) (fun w => by kernel_rfl) ?_
          refine T.pure 6 (.int .i64 ((x14 : Int))) (by kernel_rfl) (fun w => by kernel_rfl) ?_
          refine T.pure 7 (.int .i64 (0)) (by kernel_rfl) (fun w => by kernel_rfl) ?_
          refine T.nil ?_
          refine QN.seq ?_
          refine W.ret ?_
          refine QN.blkRet ?_
          refine QN.done2 (.inl rfl) 6 7 (.int .i64 ((x14 : Int))) (.int .i64 (0)) rfl (by kernel_rfl) (by kernel_rfl) (fun w hw => ?_)
          exact (show ∃ gs : Nat × Int, _ from ⟨(x14, 0), (by show a ≤ x14 ∧ x14 < b; omega), rfl, ((hw.perm (List.Perm.refl _)).part ((((List.Sublist.refl _).cons _).cons _).cons_cons _))⟩)
    · skip
      have h4' := of_decide_eq_false h4
      refine W.skip ?_
      refine QN.seq ?_
      refine W.region [(0, false), (1, false), (2, false), (3, false), (4, false), (5, false)] (by kernel_rfl) ?_
      refine T.loadR false 44 #[.func (.func kf) #[] lb, .func (.func sf) #[] sb] 91 b1 0 (by kernel_rfl) (by kernel_rfl) (by kernel_rfl) (by kernel_rfl) (fun w h => St.rangeM h #[.func (.func kf) #[] lb, .func (.func sf) #[] sb] (.tail _ (.head _)) (by kernel_rfl)) ?_
      refine T.pure 45 (.int .i64 (((a + (((b - a) / 4) * 1) : Nat) : Int))) (by kernel_rfl) (fun w => by kernel_rfl) ?_
      refine T.pure 46 (.int .i64 (((a + (((b - a) / 4) * 2) : Nat) : Int))) (by kernel_rfl) (fun w => by kernel_rfl) ?_
      refine T.pure 47 (.int .i64 (((a + (((b - a) / 4) * 3) : Nat) : Int))) (by kernel_rfl) (fun w => by kernel_rfl) ?_
      refine T.callG (β := Nat × Int) 48 99 #[.agg #[.func (.func kf) #[] lb, .func (.func sf) #[] sb], .int .i64 (((a + (((b - a) / 4) * 1) : Nat) : Int)), .int .i64 (((a + (((b - a) / 4) * 2) : Nat) : Int)), .int .i64 (((a + (((b - a) / 4) * 3) : Nat) : Int)), .pointer (some ⟨b2, 0, none⟩)] (fun gs => .int .i64 ((gs.1 : Int))) (fun gs => St w00 ((g, Obj.cells (rowb d tail) ty (0, 0)) :: ((b2, Obj.cells #[.int .i64 (gs.2)] 3 (0, 0)) :: ((b1, Obj.cells #[.func (.func kf) #[] lb, .func (.func sf) #[] sb] 91 (0, 0)) :: (H' ++ H0))))) (fun gs => (gs.1 = (a + (((b - a) / 4) * 1)) ∨ gs.1 = (a + (((b - a) / 4) * 2)) ∨ gs.1 = (a + (((b - a) / 4) * 3))) ∧ 0 ≤ gs.2 ∧ gs.2 ≤ 0 + 3) (by kernel_rfl) (by kernel_rfl) ent99 ?_ (fun _ _ _ => trivial) ?_
      · exact fun w hw => median_c hS hn d (a + (((b - a) / 4) * 1)) (a + (((b - a) / 4) * 2)) (a + (((b - a) / 4) * 3)) (by first | assumption | (simp only [Sort.size_swp]; assumption)) (by omega) (by omega) (by omega)  b2 0 (by omega) (by omega) ((b1, Obj.cells #[.func (.func kf) #[] lb, .func (.func sf) #[] sb] 91 (0, 0)) :: H') w (show St w00 ((g, Obj.cells (rowb d tail) ty (0, 0)) :: ((b2, Obj.cells #[.int .i64 (0)] 3 (0, 0)) :: ((b1, Obj.cells #[.func (.func kf) #[] lb, .func (.func sf) #[] sb] 91 (0, 0)) :: (H' ++ H0)))) w from (hw.perm ((((((List.Perm.refl _).cons _).trans (List.Perm.swap _ _ _)).cons _).trans (List.Perm.swap _ _ _)).trans (((List.Perm.refl _).trans ((List.Perm.refl _).cons _)).cons _))))
      rintro ⟨x19, s20⟩ hp_
      have hp21 : (x19 = (a + (((b - a) / 4) * 1)) ∨ x19 = (a + (((b - a) / 4) * 2)) ∨ x19 = (a + (((b - a) / 4) * 3))) ∧ 0 ≤ s20 ∧ s20 ≤ 0 + 3 := hp_
      refine T.pure 11 (.int .i64 ((x19 : Int))) (by kernel_rfl) (fun w => by kernel_rfl) ?_
      refine T.nil ?_
      refine QN.seq ?_
      refine W.seq ?_
      refine W.region [(0, false)] (by kernel_rfl) ?_
      refine T.load false 49 (.int .i64 (s20)) 3 b2 0 (by kernel_rfl) (by kernel_rfl) (by kernel_rfl) (fun w h => St.cellM h (.tail _ (.head _)) (by kernel_rfl)) ?_
      refine T.nil ?_
      refine QN.seq ?_
      refine W.block ?_
      refine W.seq ?_
      refine W.region [(0, false), (1, false)] (by kernel_rfl) ?_
      refine T.pure 52 (.bool (s20 == 0)) (by kernel_rfl) (fun w => by kernel_rfl) ?_
      refine T.pure 51 (.bool (s20 == 0)) (by kernel_rfl) (fun w => by kernel_rfl) ?_
      refine T.nil ?_
      refine QN.seq ?_
      refine W.cond (s20 == 0) (by kernel_rfl) (fun h22 => ?_) (fun h22 => ?_)
      · skip
        have h22' := eq_of_beq h22
        refine W.seq ?_
        refine W.region [(0, false), (1, false), (2, false)] (by kernel_rfl) ?_
        refine T.pure 53 (.int .i64 ((x19 : Int))) (by kernel_rfl) (fun w => by kernel_rfl) ?_
        refine T.pure 6 (.int .i64 ((x19 : Int))) (by kernel_rfl) (fun w => by kernel_rfl) ?_
        refine T.pure 7 (.int .i64 (1)) (by kernel_rfl) (fun w => by kernel_rfl) ?_
        refine T.nil ?_
        refine QN.seq ?_
        refine W.ret ?_
        refine QN.blkRet ?_
        refine QN.done2 (.inl rfl) 6 7 (.int .i64 ((x19 : Int))) (.int .i64 (1)) rfl (by kernel_rfl) (by kernel_rfl) (fun w hw => ?_)
        exact (show ∃ gs : Nat × Int, _ from ⟨(x19, 1), (by show a ≤ x19 ∧ x19 < b; omega), rfl, ((hw.perm (List.Perm.refl _)).part ((((List.Sublist.refl _).cons _).cons _).cons_cons _))⟩)
      · skip
        have h22' := ne_of_beq_false h22
        refine W.seq ?_
        refine W.region [(0, false), (1, false)] (by kernel_rfl) ?_
        refine T.pure 55 (.bool (s20 == 12)) (by kernel_rfl) (fun w => by kernel_rfl) ?_
        refine T.pure 54 (.bool (s20 == 12)) (by kernel_rfl) (fun w => by kernel_rfl) ?_
        refine T.nil ?_
        refine QN.seq ?_
        refine W.cond (s20 == 12) (by kernel_rfl) (fun h23 => ?_) (fun h23 => ?_)
        · skip
          have h23' := eq_of_beq h23
          refine W.seq ?_
          refine W.region [(0, false), (1, false), (2, false)] (by kernel_rfl) ?_
          refine T.pure 56 (.int .i64 ((x19 : Int))) (by kernel_rfl) (fun w => by kernel_rfl) ?_
          refine T.pure 6 (.int .i64 ((x19 : Int))) (by kernel_rfl) (fun w => by kernel_rfl) ?_
          refine T.pure 7 (.int .i64 (2)) (by kernel_rfl) (fun w => by kernel_rfl) ?_
          refine T.nil ?_
          refine QN.seq ?_
          refine W.ret ?_
          refine QN.blkRet ?_
          refine QN.done2 (.inl rfl) 6 7 (.int .i64 ((x19 : Int))) (.int .i64 (2)) rfl (by kernel_rfl) (by kernel_rfl) (fun w hw => ?_)
          exact (show ∃ gs : Nat × Int, _ from ⟨(x19, 2), (by show a ≤ x19 ∧ x19 < b; omega), rfl, ((hw.perm (List.Perm.refl _)).part ((((List.Sublist.refl _).cons _).cons _).cons_cons _))⟩)
        · skip
          have h23' := ne_of_beq_false h23
          refine W.seq ?_
          refine W.region [(0, false), (1, false), (2, false)] (by kernel_rfl) ?_
          refine T.pure 50 (.int .i64 ((x19 : Int))) (by kernel_rfl) (fun w => by kernel_rfl) ?_
          refine T.pure 6 (.int .i64 ((x19 : Int))) (by kernel_rfl) (fun w => by kernel_rfl) ?_
          refine T.pure 7 (.int .i64 (0)) (by kernel_rfl) (fun w => by kernel_rfl) ?_
          refine T.nil ?_
          refine QN.seq ?_
          refine W.ret ?_
          refine QN.blkRet ?_
          refine QN.done2 (.inl rfl) 6 7 (.int .i64 ((x19 : Int))) (.int .i64 (0)) rfl (by kernel_rfl) (by kernel_rfl) (fun w hw => ?_)
          exact (show ∃ gs : Nat × Int, _ from ⟨(x19, 0), (by show a ≤ x19 ∧ x19 < b; omega), rfl, ((hw.perm (List.Perm.refl _)).part ((((List.Sublist.refl _).cons _).cons _).cons_cons _))⟩)
  · skip
    have h3' := of_decide_eq_false h3
    refine W.skip ?_
    refine QN.seq ?_
    refine W.seq ?_
    refine W.region [(0, false)] (by kernel_rfl) ?_
    refine T.load false 49 (.int .i64 (0)) 3 b2 0 (by kernel_rfl) (by kernel_rfl) (by kernel_rfl) (fun w h => St.cellM h (.head _) (by kernel_rfl)) ?_
    refine T.nil ?_
    refine QN.seq ?_
    refine W.block ?_
    refine W.seq ?_
    refine W.region [(0, false), (1, false)] (by kernel_rfl) ?_
    refine T.pure 52 (.bool (0 == 0)) (by kernel_rfl) (fun w => by kernel_rfl) ?_
    refine T.pure 51 (.bool (0 == 0)) (by kernel_rfl) (fun w => by kernel_rfl) ?_
    refine T.nil ?_
    refine QN.seq ?_
    refine W.cond (0 == 0) (by kernel_rfl) (fun h24 => ?_) (fun h24 => ?_)
    · skip
      have h24' := eq_of_beq h24
      refine W.seq ?_
      refine W.region [(0, false), (1, false), (2, false)] (by kernel_rfl) ?_
      refine T.pure 53 (.int .i64 (((a + (((b - a) / 4) * 2) : Nat) : Int))) (by kernel_rfl) (fun w => by kernel_rfl) ?_
      refine T.pure 6 (.int .i64 (((a + (((b - a) / 4) * 2) : Nat) : Int))) (by kernel_rfl) (fun w => by kernel_rfl) ?_
      refine T.pure 7 (.int .i64 (1)) (by kernel_rfl) (fun w => by kernel_rfl) ?_
      refine T.nil ?_
      refine QN.seq ?_
      refine W.ret ?_
      refine QN.blkRet ?_
      refine QN.done2 (.inl rfl) 6 7 (.int .i64 (((a + (((b - a) / 4) * 2) : Nat) : Int))) (.int .i64 (1)) rfl (by kernel_rfl) (by kernel_rfl) (fun w hw => ?_)
      exact (show ∃ gs : Nat × Int, _ from ⟨((a + (((b - a) / 4) * 2)), 1), (by show a ≤ (a + (((b - a) / 4) * 2)) ∧ (a + (((b - a) / 4) * 2)) < b; omega), rfl, ((hw.perm (((((List.Perm.refl _).cons _).trans (List.Perm.swap _ _ _)).cons _).trans (List.Perm.swap _ _ _))).part ((((List.Sublist.refl _).cons _).cons _).cons_cons _))⟩)
    · skip
      have h24' := ne_of_beq_false h24
      refine W.seq ?_
      refine W.region [(0, false), (1, false)] (by kernel_rfl) ?_
      refine T.pure 55 (.bool (0 == 12)) (by kernel_rfl) (fun w => by kernel_rfl) ?_
      refine T.pure 54 (.bool (0 == 12)) (by kernel_rfl) (fun w => by kernel_rfl) ?_
      refine T.nil ?_
      refine QN.seq ?_
      refine W.cond (0 == 12) (by kernel_rfl) (fun h25 => ?_) (fun h25 => ?_)
      · skip
        have h25' := eq_of_beq h25
        refine W.seq ?_
        refine W.region [(0, false), (1, false), (2, false)] (by kernel_rfl) ?_
        refine T.pure 56 (.int .i64 (((a + (((b - a) / 4) * 2) : Nat) : Int))) (by kernel_rfl) (fun w => by kernel_rfl) ?_
        refine T.pure 6 (.int .i64 (((a + (((b - a) / 4) * 2) : Nat) : Int))) (by kernel_rfl) (fun w => by kernel_rfl) ?_
        refine T.pure 7 (.int .i64 (2)) (by kernel_rfl) (fun w => by kernel_rfl) ?_
        refine T.nil ?_
        refine QN.seq ?_
        refine W.ret ?_
        refine QN.blkRet ?_
        refine QN.done2 (.inl rfl) 6 7 (.int .i64 (((a + (((b - a) / 4) * 2) : Nat) : Int))) (.int .i64 (2)) rfl (by kernel_rfl) (by kernel_rfl) (fun w hw => ?_)
        exact (show ∃ gs : Nat × Int, _ from ⟨((a + (((b - a) / 4) * 2)), 2), (by show a ≤ (a + (((b - a) / 4) * 2)) ∧ (a + (((b - a) / 4) * 2)) < b; omega), rfl, ((hw.perm (((((List.Perm.refl _).cons _).trans (List.Perm.swap _ _ _)).cons _).trans (List.Perm.swap _ _ _))).part ((((List.Sublist.refl _).cons _).cons _).cons_cons _))⟩)
      · skip
        have h25' := ne_of_beq_false h25
        refine W.seq ?_
        refine W.region [(0, false), (1, false), (2, false)] (by kernel_rfl) ?_
        refine T.pure 50 (.int .i64 (((a + (((b - a) / 4) * 2) : Nat) : Int))) (by kernel_rfl) (fun w => by kernel_rfl) ?_
        refine T.pure 6 (.int .i64 (((a + (((b - a) / 4) * 2) : Nat) : Int))) (by kernel_rfl) (fun w => by kernel_rfl) ?_
        refine T.pure 7 (.int .i64 (0)) (by kernel_rfl) (fun w => by kernel_rfl) ?_
        refine T.nil ?_
        refine QN.seq ?_
        refine W.ret ?_
        refine QN.blkRet ?_
        refine QN.done2 (.inl rfl) 6 7 (.int .i64 (((a + (((b - a) / 4) * 2) : Nat) : Int))) (.int .i64 (0)) rfl (by kernel_rfl) (by kernel_rfl) (fun w hw => ?_)
        exact (show ∃ gs : Nat × Int, _ from ⟨((a + (((b - a) / 4) * 2)), 0), (by show a ≤ (a + (((b - a) / 4) * 2)) ∧ (a + (((b - a) / 4) * 2)) < b; omega), rfl, ((hw.perm (((((List.Perm.refl _).cons _).trans (List.Perm.swap _ _ _)).cons _).trans (List.Perm.swap _ _ _))).part ((((List.Sublist.refl _).cons _).cons _).cons_cons _))⟩)
end Go.Proofs.Ytnagichfngogkaa

/- Go's sort over a row, part 4: the patterns. -/
namespace Go.Proofs.Ytnagichfngogkaa
open Go Go.RowKit
set_option linter.unusedVariables false

theorem bl_lt (x : Nat) : x < 2 ^ Sort.bitsLen x := by
  unfold Sort.bitsLen
  split
  · omega
  · exact Nat.lt_log2_self
theorem bl_le (x : Nat) (h : 0 < x) : 2 ^ Sort.bitsLen x ≤ 2 * x := by
  unfold Sort.bitsLen
  rw [if_neg (by omega), Nat.pow_succ]
  have := Nat.log2_self_le (n := x) (by omega)
  omega
theorem bl_bd (x k : Nat) (h : x < 2 ^ k) : Sort.bitsLen x ≤ k := by
  unfold Sort.bitsLen
  split
  · omega
  · rename_i h0
    have := (Nat.log2_lt h0).2 h
    omega
theorem bl_256 (x : Nat) (h : 256 ≤ x) : 8 + Sort.bitsLen (x / 256) = Sort.bitsLen x := by
  have h1 : 0 < x / 256 := by omega
  have a1 := bl_lt x
  have a2 := bl_le x (by omega)
  have b1 := bl_lt (x / 256)
  have b2 := bl_le (x / 256) h1
  have e1 : 2 ^ (8 + Sort.bitsLen (x / 256)) = 256 * 2 ^ Sort.bitsLen (x / 256) := by rw [Nat.pow_add]
  by_cases hc : 8 + Sort.bitsLen (x / 256) = Sort.bitsLen x
  · exact hc
  · exfalso
    rcases Nat.lt_or_gt_of_ne hc with hlt | hgt
    · have : 2 ^ (8 + Sort.bitsLen (x / 256) + 1) ≤ 2 ^ Sort.bitsLen x := Nat.pow_le_pow_right (by omega) hlt
      rw [Nat.pow_succ, e1] at this
      omega
    · have : 2 ^ (Sort.bitsLen x + 1) ≤ 2 ^ (8 + Sort.bitsLen (x / 256)) := Nat.pow_le_pow_right (by omega) hgt
      rw [Nat.pow_succ, e1] at this
      omega
theorem and_u64 (x y : Int) (h0 : 0 ≤ y) (h1 : y < 18446744073709551616) : ∃ k : Nat, bits .and .u64 x y = (k : Int) ∧ (k : Int) ≤ y := by
  refine ⟨(BitVec.ofInt 64 x &&& BitVec.ofInt 64 y).toNat, ?_, ?_⟩
  · show IntKind.u64.wrap _ = _
    rw [IntKind.wrap_u64]
    have := (BitVec.ofInt 64 x &&& BitVec.ofInt 64 y).isLt
    show ((BitVec.ofInt 64 x &&& BitVec.ofInt 64 y).toNat : Int) % 18446744073709551616 = _
    omega
  · have : (BitVec.ofInt 64 x &&& BitVec.ofInt 64 y).toNat ≤ (BitVec.ofInt 64 y).toNat := by rw [BitVec.toNat_and]; exact Nat.and_le_right
    have e : ((BitVec.ofInt 64 y).toNat : Int) = y := by rw [BitVec.toNat_ofInt]; simp; omega
    omega
theorem xor_u64 (x y : Int) : 0 ≤ bits .xor .u64 x y ∧ bits .xor .u64 x y < 18446744073709551616 := by
  show 0 ≤ IntKind.u64.wrap _ ∧ IntKind.u64.wrap _ < _
  rw [IntKind.wrap_u64]
  omega
theorem fdiv256 (x : Nat) : ((x : Int)).fdiv (2 ^ 8) = ((x / 256 : Nat) : Int) := by
  rw [Int.fdiv_eq_ediv_of_nonneg _ (by decide)]; simp
set_option maxRecDepth 100000 in
set_option maxHeartbeats 2000000 in
theorem len64_c (x : Nat) (hx : x < 65536) (w : World) : Calls Try.prog 76 #[.int .u64 ((x : Int))] w (fun rr w' => rr = .returned (.int .i64 ((Sort.bitsLen x : Nat) : Int)) ∧ Below w.heap.size w w') := by
  refine calls_W (n := 25) Try.func76 rfl [(0, .int .u64 ((x : Int)))] rfl ⟨by kernel_rfl, by kernel_rfl⟩ ?_
  refine W.weak (Ψ := St w []) (fun w' h => by rw [h]; exact St.start w) ?_
  refine W.seq ?_
  refine W.region [(0, false)] (by kernel_rfl) ?_
  refine T.pure 2 (.int .i64 (0)) (by kernel_rfl) (fun w => by kernel_rfl) ?_
  refine T.nil ?_
  refine QN.seq ?_
  refine W.seq ?_
  refine W.seq ?_
  refine W.region [(0, false), (1, false)] (by kernel_rfl) ?_
  refine T.pure 3 (.int .u64 ((x : Int))) (by kernel_rfl) (fun w => by kernel_rfl) ?_
  refine T.pure 4 (.bool (decide (4294967296 ≤ (x : Int)))) (by kernel_rfl) (fun w => by kernel_rfl) ?_
  refine T.nil ?_
  refine QN.seq ?_
  refine W.cond (decide (4294967296 ≤ (x : Int))) (by kernel_rfl) (fun h1 => ?_) (fun h1 => ?_)
  · exact absurd (of_decide_eq_true h1) (by omega)
  · skip
    have h1' := of_decide_eq_false h1
    refine W.skip ?_
    refine QN.seq ?_
    refine W.seq ?_
    refine W.seq ?_
    refine W.region [(0, false), (1, false)] (by kernel_rfl) ?_
    refine T.pure 7 (.int .u64 ((x : Int))) (by kernel_rfl) (fun w => by kernel_rfl) ?_
    refine T.pure 8 (.bool (decide (65536 ≤ (x : Int)))) (by kernel_rfl) (fun w => by kernel_rfl) ?_
    refine T.nil ?_
    refine QN.seq ?_
    refine W.cond (decide (65536 ≤ (x : Int))) (by kernel_rfl) (fun h2 => ?_) (fun h2 => ?_)
    · exact absurd (of_decide_eq_true h2) (by omega)
    · skip
      have h2' := of_decide_eq_false h2
      refine W.skip ?_
      refine QN.seq ?_
      refine W.seq ?_
      refine W.seq ?_
      refine W.region [(0, false), (1, false)] (by kernel_rfl) ?_
      refine T.pure 13 (.int .u64 ((x : Int))) (by kernel_rfl) (fun w => by kernel_rfl) ?_
      refine T.pure 14 (.bool (decide (256 ≤ (x : Int)))) (by kernel_rfl) (fun w => by kernel_rfl) ?_
      refine T.nil ?_
      refine QN.seq ?_
      refine W.cond (decide (256 ≤ (x : Int))) (by kernel_rfl) (fun h3 => ?_) (fun h3 => ?_)
      · skip
        have h3' := of_decide_eq_true h3
        refine W.seq ?_
        refine W.region [(0, false), (1, false), (2, false)] (by kernel_rfl) ?_
        refine T.pure 15 (.int .u64 ((x : Int))) (by kernel_rfl) (fun w => by kernel_rfl) ?_
        refine T.pureE 16 (.int .u64 (((x : Int)).fdiv (2 ^ 8))) (.int .u64 (((x / 256 : Nat) : Int))) (by kernel_rfl) (fun w => by kernel_rfl) (int_eq (fdiv256 x)) ?_
        refine T.pure 0 (.int .u64 (((x / 256 : Nat) : Int))) (by kernel_rfl) (fun w => by kernel_rfl) ?_
        refine T.nil ?_
        refine QN.seq ?_
        refine W.region [(0, false), (1, false), (2, false)] (by kernel_rfl) ?_
        refine T.pure 17 (.int .i64 (0)) (by kernel_rfl) (fun w => by kernel_rfl) ?_
        refine T.pureE 18 (.int .i64 (IntKind.i64.wrap (0 + 8))) (.int .i64 (0 + 8)) (by kernel_rfl) (fun w => by kernel_rfl) (wrap_int (by omega) (by omega)) ?_
        refine T.pure 2 (.int .i64 (0 + 8)) (by kernel_rfl) (fun w => by kernel_rfl) ?_
        refine T.nil ?_
        refine QN.seq ?_
        refine W.seq ?_
        refine W.region [(0, false), (1, false), (2, false), (3, false), (4, false), (5, false), (6, false)] (by kernel_rfl) ?_
        refine T.pure 19 (.int .i64 (0 + 8)) (by kernel_rfl) (fun w => by kernel_rfl) ?_
        refine T.pure 20 (.int .u64 (((x / 256 : Nat) : Int))) (by kernel_rfl) (fun w => by kernel_rfl) ?_
        refine T.pureE 21 (.int .u8 (IntKind.u8.wrap ((x / 256 : Nat) : Int))) (.int .u8 (((x / 256 : Nat) : Int))) (by kernel_rfl) (fun w => by kernel_rfl) (wrap8_int (by omega) (by omega)) ?_
        refine T.indexS 22 9 Sort.bitsLen .u8 (((x / 256 : Nat) : Int)) (x / 256) (256) (by kernel_rfl) (by kernel_rfl) (by kernel_rfl) (by kernel_rfl) (by omega) (by omega) ?_
        have hbl := bl_bd (x / 256) 8 (by omega)
        refine T.pureE 23 (.int .i64 (IntKind.i64.wrap ((Sort.bitsLen (x / 256) : Nat) : Int))) (.int .i64 (((Sort.bitsLen (x / 256) : Nat) : Int))) (by kernel_rfl) (fun w => by kernel_rfl) (wrap_int (by omega) (by omega)) ?_
        refine T.pureE 24 (.int .i64 (IntKind.i64.wrap ((0 + 8) + ((Sort.bitsLen (x / 256) : Nat) : Int)))) (.int .i64 ((0 + 8) + ((Sort.bitsLen (x / 256) : Nat) : Int))) (by kernel_rfl) (fun w => by kernel_rfl) (wrap_int (by omega) (by omega)) ?_
        refine T.pure 2 (.int .i64 ((0 + 8) + ((Sort.bitsLen (x / 256) : Nat) : Int))) (by kernel_rfl) (fun w => by kernel_rfl) ?_
        refine T.nil ?_
        refine QN.seq ?_
        refine W.ret ?_
        refine QN.done (.inl rfl) 2 (.int .i64 ((0 + 8) + ((Sort.bitsLen (x / 256) : Nat) : Int))) rfl (by kernel_rfl) (fun w hw => ⟨?_, hw.below⟩)
        exact ret_int (by have := bl_256 x (by omega); omega)
      · skip
        have h3' := of_decide_eq_false h3
        refine W.skip ?_
        refine QN.seq ?_
        refine W.seq ?_
        refine W.region [(0, false), (1, false), (2, false), (3, false), (4, false), (5, false), (6, false)] (by kernel_rfl) ?_
        refine T.pure 19 (.int .i64 (0)) (by kernel_rfl) (fun w => by kernel_rfl) ?_
        refine T.pure 20 (.int .u64 ((x : Int))) (by kernel_rfl) (fun w => by kernel_rfl) ?_
        refine T.pureE 21 (.int .u8 (IntKind.u8.wrap (x : Int))) (.int .u8 ((x : Int))) (by kernel_rfl) (fun w => by kernel_rfl) (wrap8_int (by omega) (by omega)) ?_
        refine T.indexS 22 9 Sort.bitsLen .u8 ((x : Int)) x (256) (by kernel_rfl) (by kernel_rfl) (by kernel_rfl) (by kernel_rfl) (by omega) (by omega) ?_
        have hbl := bl_bd x 8 (by omega)
        refine T.pureE 23 (.int .i64 (IntKind.i64.wrap ((Sort.bitsLen x : Nat) : Int))) (.int .i64 (((Sort.bitsLen x : Nat) : Int))) (by kernel_rfl) (fun w => by kernel_rfl) (wrap_int (by omega) (by omega)) ?_
        refine T.pureE 24 (.int .i64 (IntKind.i64.wrap (0 + ((Sort.bitsLen x : Nat) : Int)))) (.int .i64 (0 + ((Sort.bitsLen x : Nat) : Int))) (by kernel_rfl) (fun w => by kernel_rfl) (wrap_int (by omega) (by omega)) ?_
        refine T.pure 2 (.int .i64 (0 + ((Sort.bitsLen x : Nat) : Int))) (by kernel_rfl) (fun w => by kernel_rfl) ?_
        refine T.nil ?_
        refine QN.seq ?_
        refine W.ret ?_
        refine QN.done (.inl rfl) 2 (.int .i64 (0 + ((Sort.bitsLen x : Nat) : Int))) rfl (by kernel_rfl) (fun w hw => ⟨?_, hw.below⟩)
        exact ret_int (by omega)
set_option maxRecDepth 100000 in
set_option maxHeartbeats 2000000 in
theorem len_c (x : Nat) (hx : x < 65536) (w : World) : Calls Try.prog 55 #[.int .u64 ((x : Int))] w (fun rr w' => rr = .returned (.int .i64 ((Sort.bitsLen x : Nat) : Int)) ∧ Below w.heap.size w w') := by
  refine calls_W (n := 8) Try.func55 rfl [(0, .int .u64 ((x : Int)))] rfl ⟨by kernel_rfl, by kernel_rfl⟩ ?_
  refine W.weak (Ψ := St w []) (fun w' h => by rw [h]; exact St.start w) ?_
  refine W.seq ?_
  refine W.region [(0, false)] (by kernel_rfl) ?_
  refine T.pure 2 (.int .i64 (0)) (by kernel_rfl) (fun w => by kernel_rfl) ?_
  refine T.nil ?_
  refine QN.seq ?_
  refine W.seq ?_
  refine W.cond false (by kernel_rfl) (fun h1 => ?_) (fun h1 => ?_)
  · exact absurd h1 (by decide)
  · skip
    refine W.skip ?_
    refine QN.seq ?_
    refine W.seq ?_
    refine W.region [(0, false), (1, false), (2, false)] (by kernel_rfl) ?_
    refine T.pure 6 (.int .u64 ((x : Int))) (by kernel_rfl) (fun w => by kernel_rfl) ?_
    refine T.callP 7 76 #[.int .u64 ((x : Int))] (.int .i64 (((Sort.bitsLen x : Nat) : Int))) (by kernel_rfl) (by kernel_rfl) ent76 (fun w hw => len64_c _ (by omega) w) (fun _ _ => trivial) ?_
    refine T.pure 2 (.int .i64 (((Sort.bitsLen x : Nat) : Int))) (by kernel_rfl) (fun w => by kernel_rfl) ?_
    refine T.nil ?_
    refine QN.seq ?_
    refine W.ret ?_
    refine QN.done (.inl rfl) 2 (.int .i64 (((Sort.bitsLen x : Nat) : Int))) rfl (by kernel_rfl) (fun w hw => ⟨?_, hw.below⟩)
    exact rfl
set_option maxRecDepth 100000 in
set_option maxHeartbeats 2000000 in
theorem np2_c (x : Nat) (hx : x < 65536) (w : World) : Calls Try.prog 96 #[.int .i64 ((x : Int))] w (fun rr w' => rr = .returned (.int .u64 ((2 ^ Sort.bitsLen x : Nat) : Int)) ∧ Below w.heap.size w w') := by
  have hbl := bl_bd x 16 hx
  refine calls_W (n := 10) Try.func96 rfl [(0, .int .i64 ((x : Int)))] rfl ⟨by kernel_rfl, by kernel_rfl⟩ ?_
  refine W.weak (Ψ := St w []) (fun w' h => by rw [h]; exact St.start w) ?_
  refine W.seq ?_
  refine W.region [(0, false)] (by kernel_rfl) ?_
  refine T.pure 2 (.int .u64 (0)) (by kernel_rfl) (fun w => by kernel_rfl) ?_
  refine T.nil ?_
  refine QN.seq ?_
  refine W.seq ?_
  refine W.region [(0, false), (1, false), (2, false), (3, false), (4, false)] (by kernel_rfl) ?_
  refine T.pure 4 (.int .i64 ((x : Int))) (by kernel_rfl) (fun w => by kernel_rfl) ?_
  refine T.pureE 5 (.int .u64 (IntKind.u64.wrap (x : Int))) (.int .u64 ((x : Int))) (by kernel_rfl) (fun w => by kernel_rfl) (wrapu_int (by omega) (by omega)) ?_
  refine T.callP 6 55 #[.int .u64 ((x : Int))] (.int .i64 (((Sort.bitsLen x : Nat) : Int))) (by kernel_rfl) (by kernel_rfl) ent55 (fun w hw => len_c _ (by omega) w) (fun _ _ => trivial) ?_
  refine T.pureE 7 (.int .u64 (IntKind.u64.wrap ((Sort.bitsLen x : Nat) : Int))) (.int .u64 (((Sort.bitsLen x : Nat) : Int))) (by kernel_rfl) (fun w => by kernel_rfl) (wrapu_int (by omega) (by omega)) ?_
  refine T.pure 3 (.int .u64 (((Sort.bitsLen x : Nat) : Int))) (by kernel_rfl) (fun w => by kernel_rfl) ?_
  refine T.nil ?_
  refine QN.seq ?_
  refine W.seq ?_
  refine W.region [(0, false), (1, false), (2, false)] (by kernel_rfl) ?_
  refine T.pure 8 (.int .u64 (((Sort.bitsLen x : Nat) : Int))) (by kernel_rfl) (fun w => by kernel_rfl) ?_
  refine T.shl 9 .u64 .u64 1 (((Sort.bitsLen x : Nat) : Int)) (.int .u64 (2 ^ (((Sort.bitsLen x : Nat) : Int)).toNat)) (by kernel_rfl) (by kernel_rfl) (by omega) (shl_oneu (by omega) (by omega)) ?_
  refine T.pure 2 (.int .u64 (2 ^ (((Sort.bitsLen x : Nat) : Int)).toNat)) (by kernel_rfl) (fun w => by kernel_rfl) ?_
  refine T.nil ?_
  refine QN.seq ?_
  refine W.ret ?_
  refine QN.done (.inl rfl) 2 (.int .u64 (2 ^ (((Sort.bitsLen x : Nat) : Int)).toNat)) rfl (by kernel_rfl) (fun w hw => ⟨?_, hw.below⟩)
  exact ret_int (by simp)
set_option maxRecDepth 100000 in
set_option maxHeartbeats 2000000 in
theorem next_c {w00 : World} (rb : Nat) (r : Int) (HT : List (Nat × Obj)) (w : World) (hst : St w00 ((rb, .cells #[.int .u64 r] 111 (0, 0)) :: HT) w) : Calls Try.prog 97 #[.pointer (some ⟨rb, 0, none⟩)] w (fun rr w' => ∃ gs : Int, (0 ≤ gs ∧ gs < 18446744073709551616) ∧ rr = .returned (.int .u64 gs) ∧ St w00 ((rb, .cells #[.int .u64 gs] 111 (0, 0)) :: HT) w') := by
  refine calls_W (n := 33) Try.func97 rfl [(0, .pointer (some ⟨rb, 0, none⟩))] rfl ⟨by kernel_rfl, by kernel_rfl⟩ ?_
  refine W.weak (Ψ := St w00 ((rb, Obj.cells #[.int .u64 (r)] 111 (0, 0)) :: HT)) (fun w' h => by rw [h]; exact hst) ?_
  refine W.seq ?_
  refine W.region [(0, false)] (by kernel_rfl) ?_
  refine T.pure 2 (.int .u64 (0)) (by kernel_rfl) (fun w => by kernel_rfl) ?_
  refine T.nil ?_
  refine QN.seq ?_
  refine W.seq ?_
  refine W.still (Ψ := St w00 ((rb, Obj.cells #[.int .u64 (r)] 111 (0, 0)) :: HT)) 8 [0, 1, 2, 3, 4, 5, 6, 7] (by kernel_rfl) hmx (by kernel_rfl) (by kernel_rfl) (fun w h => h.drew) ?_
  refine Hd.pure 3 (.pointer (some ⟨rb, 0, none⟩)) (by kernel_rfl) (fun w => by kernel_rfl) ?_
  refine Hd.pure 4 (.pointer (some ⟨rb, 0, none⟩)) (by kernel_rfl) (fun w => by kernel_rfl) ?_
  refine Hd.load false 5 (.int .u64 (r)) 111 rb 0 (by kernel_rfl) (by kernel_rfl) (by kernel_rfl) (fun w h => St.cellM h (.head _) (by kernel_rfl)) ?_
  refine Hd.pure 6 (.pointer (some ⟨rb, 0, none⟩)) (by kernel_rfl) (fun w => by kernel_rfl) ?_
  refine Hd.pure 7 (.pointer (some ⟨rb, 0, none⟩)) (by kernel_rfl) (fun w => by kernel_rfl) ?_
  refine Hd.load false 8 (.int .u64 (r)) 111 rb 0 (by kernel_rfl) (by kernel_rfl) (by kernel_rfl) (fun w h => St.cellM h (.head _) (by kernel_rfl)) ?_
  refine Hd.pure 9 (.int .u64 (IntKind.u64.wrap (r * 2 ^ 13))) (by kernel_rfl) (fun w => by kernel_rfl) ?_
  refine Hd.pure 10 (.int .u64 (bits .xor .u64 r (IntKind.u64.wrap (r * 2 ^ 13)))) (by kernel_rfl) (fun w => by kernel_rfl) ?_
  refine Hd.done [(8, false), (9, false)] (by kernel_rfl) ?_
  refine T.pure 11 (.pointer (some ⟨rb, 0, none⟩)) (by kernel_rfl) (fun w => by kernel_rfl) ?_
  refine T.storeP 111 rb 0 (.int .u64 (bits .xor .u64 r (IntKind.u64.wrap (r * 2 ^ 13)))) #[.int .u64 (r)] #[.int .u64 (bits .xor .u64 r (IntKind.u64.wrap (r * 2 ^ 13)))] 111 (by kernel_rfl) (by kernel_rfl) (by kernel_rfl) (by kernel_rfl) (by kernel_rfl) (by kernel_rfl) (List.Perm.refl _) (fun _ _ => trivial) ?_
  refine T.nil ?_
  refine QN.seq ?_
  refine W.seq ?_
  refine W.still (Ψ := St w00 ((rb, Obj.cells #[.int .u64 (bits .xor .u64 r (IntKind.u64.wrap (r * 2 ^ 13)))] 111 (0, 0)) :: HT)) 8 [0, 1, 2, 3, 4, 5, 6, 7] (by kernel_rfl) hmx (by kernel_rfl) (by kernel_rfl) (fun w h => h.drew) ?_
  refine Hd.pure 12 (.pointer (some ⟨rb, 0, none⟩)) (by kernel_rfl) (fun w => by kernel_rfl) ?_
  refine Hd.pure 13 (.pointer (some ⟨rb, 0, none⟩)) (by kernel_rfl) (fun w => by kernel_rfl) ?_
  refine Hd.load false 14 (.int .u64 (bits .xor .u64 r (IntKind.u64.wrap (r * 2 ^ 13)))) 111 rb 0 (by kernel_rfl) (by kernel_rfl) (by kernel_rfl) (fun w h => St.cellM h (.head _) (by kernel_rfl)) ?_
  refine Hd.pure 15 (.pointer (some ⟨rb, 0, none⟩)) (by kernel_rfl) (fun w => by kernel_rfl) ?_
  refine Hd.pure 16 (.pointer (some ⟨rb, 0, none⟩)) (by kernel_rfl) (fun w => by kernel_rfl) ?_
  refine Hd.load false 17 (.int .u64 (bits .xor .u64 r (IntKind.u64.wrap (r * 2 ^ 13)))) 111 rb 0 (by kernel_rfl) (by kernel_rfl) (by kernel_rfl) (fun w h => St.cellM h (.head _) (by kernel_rfl)) ?_
  refine Hd.pure 18 (.int .u64 ((bits .xor .u64 r (IntKind.u64.wrap (r * 2 ^ 13))).fdiv (2 ^ 7))) (by kernel_rfl) (fun w => by kernel_rfl) ?_
  refine Hd.pure 19 (.int .u64 (bits .xor .u64 (bits .xor .u64 r (IntKind.u64.wrap (r * 2 ^ 13))) ((bits .xor .u64 r (IntKind.u64.wrap (r * 2 ^ 13))).fdiv (2 ^ 7)))) (by kernel_rfl) (fun w => by kernel_rfl) ?_
  refine Hd.done [(8, false), (9, false)] (by kernel_rfl) ?_
  refine T.pure 20 (.pointer (some ⟨rb, 0, none⟩)) (by kernel_rfl) (fun w => by kernel_rfl) ?_
  refine T.storeP 111 rb 0 (.int .u64 (bits .xor .u64 (bits .xor .u64 r (IntKind.u64.wrap (r * 2 ^ 13))) ((bits .xor .u64 r (IntKind.u64.wrap (r * 2 ^ 13))).fdiv (2 ^ 7)))) #[.int .u64 (bits .xor .u64 r (IntKind.u64.wrap (r * 2 ^ 13)))] #[.int .u64 (bits .xor .u64 (bits .xor .u64 r (IntKind.u64.wrap (r * 2 ^ 13))) ((bits .xor .u64 r (IntKind.u64.wrap (r * 2 ^ 13))).fdiv (2 ^ 7)))] 111 (by kernel_rfl) (by kernel_rfl) (by kernel_rfl) (by kernel_rfl) (by kernel_rfl) (by kernel_rfl) (List.Perm.refl _) (fun _ _ => trivial) ?_
  refine T.nil ?_
  refine QN.seq ?_
  refine W.seq ?_
  refine W.still (Ψ := St w00 ((rb, Obj.cells #[.int .u64 (bits .xor .u64 (bits .xor .u64 r (IntKind.u64.wrap (r * 2 ^ 13))) ((bits .xor .u64 r (IntKind.u64.wrap (r * 2 ^ 13))).fdiv (2 ^ 7)))] 111 (0, 0)) :: HT)) 8 [0, 1, 2, 3, 4, 5, 6, 7] (by kernel_rfl) hmx (by kernel_rfl) (by kernel_rfl) (fun w h => h.drew) ?_
  refine Hd.pure 21 (.pointer (some ⟨rb, 0, none⟩)) (by kernel_rfl) (fun w => by kernel_rfl) ?_
  refine Hd.pure 22 (.pointer (some ⟨rb, 0, none⟩)) (by kernel_rfl) (fun w => by kernel_rfl) ?_
  refine Hd.load false 23 (.int .u64 (bits .xor .u64 (bits .xor .u64 r (IntKind.u64.wrap (r * 2 ^ 13))) ((bits .xor .u64 r (IntKind.u64.wrap (r * 2 ^ 13))).fdiv (2 ^ 7)))) 111 rb 0 (by kernel_rfl) (by kernel_rfl) (by kernel_rfl) (fun w h => St.cellM h (.head _) (by kernel_rfl)) ?_
  refine Hd.pure 24 (.pointer (some ⟨rb, 0, none⟩)) (by kernel_rfl) (fun w => by kernel_rfl) ?_
  refine Hd.pure 25 (.pointer (some ⟨rb, 0, none⟩)) (by kernel_rfl) (fun w => by kernel_rfl) ?_
  refine Hd.load false 26 (.int .u64 (bits .xor .u64 (bits .xor .u64 r (IntKind.u64.wrap (r * 2 ^ 13))) ((bits .xor .u64 r (IntKind.u64.wrap (r * 2 ^ 13))).fdiv (2 ^ 7)))) 111 rb 0 (by kernel_rfl) (by kernel_rfl) (by kernel_rfl) (fun w h => St.cellM h (.head _) (by kernel_rfl)) ?_
  refine Hd.pure 27 (.int .u64 (IntKind.u64.wrap ((bits .xor .u64 (bits .xor .u64 r (IntKind.u64.wrap (r * 2 ^ 13))) ((bits .xor .u64 r (IntKind.u64.wrap (r * 2 ^ 13))).fdiv (2 ^ 7))) * 2 ^ 17))) (by kernel_rfl) (fun w => by kernel_rfl) ?_
  refine Hd.pure 28 (.int .u64 (bits .xor .u64 (bits .xor .u64 (bits .xor .u64 r (IntKind.u64.wrap (r * 2 ^ 13))) ((bits .xor .u64 r (IntKind.u64.wrap (r * 2 ^ 13))).fdiv (2 ^ 7))) (IntKind.u64.wrap ((bits .xor .u64 (bits .xor .u64 r (IntKind.u64.wrap (r * 2 ^ 13))) ((bits .xor .u64 r (IntKind.u64.wrap (r * 2 ^ 13))).fdiv (2 ^ 7))) * 2 ^ 17)))) (by kernel_rfl) (fun w => by kernel_rfl) ?_
  refine Hd.done [(8, false), (9, false)] (by kernel_rfl) ?_
  refine T.pure 29 (.pointer (some ⟨rb, 0, none⟩)) (by kernel_rfl) (fun w => by kernel_rfl) ?_
  refine T.storeP 111 rb 0 (.int .u64 (bits .xor .u64 (bits .xor .u64 (bits .xor .u64 r (IntKind.u64.wrap (r * 2 ^ 13))) ((bits .xor .u64 r (IntKind.u64.wrap (r * 2 ^ 13))).fdiv (2 ^ 7))) (IntKind.u64.wrap ((bits .xor .u64 (bits .xor .u64 r (IntKind.u64.wrap (r * 2 ^ 13))) ((bits .xor .u64 r (IntKind.u64.wrap (r * 2 ^ 13))).fdiv (2 ^ 7))) * 2 ^ 17)))) #[.int .u64 (bits .xor .u64 (bits .xor .u64 r (IntKind.u64.wrap (r * 2 ^ 13))) ((bits .xor .u64 r (IntKind.u64.wrap (r * 2 ^ 13))).fdiv (2 ^ 7)))] #[.int .u64 (bits .xor .u64 (bits .xor .u64 (bits .xor .u64 r (IntKind.u64.wrap (r * 2 ^ 13))) ((bits .xor .u64 r (IntKind.u64.wrap (r * 2 ^ 13))).fdiv (2 ^ 7))) (IntKind.u64.wrap ((bits .xor .u64 (bits .xor .u64 r (IntKind.u64.wrap (r * 2 ^ 13))) ((bits .xor .u64 r (IntKind.u64.wrap (r * 2 ^ 13))).fdiv (2 ^ 7))) * 2 ^ 17)))] 111 (by kernel_rfl) (by kernel_rfl) (by kernel_rfl) (by kernel_rfl) (by kernel_rfl) (by kernel_rfl) (List.Perm.refl _) (fun _ _ => trivial) ?_
  refine T.nil ?_
  refine QN.seq ?_
  refine W.seq ?_
  refine W.region [(0, false), (1, false), (2, false), (3, false)] (by kernel_rfl) ?_
  refine T.pure 30 (.pointer (some ⟨rb, 0, none⟩)) (by kernel_rfl) (fun w => by kernel_rfl) ?_
  refine T.pure 31 (.pointer (some ⟨rb, 0, none⟩)) (by kernel_rfl) (fun w => by kernel_rfl) ?_
  refine T.load false 32 (.int .u64 (bits .xor .u64 (bits .xor .u64 (bits .xor .u64 r (IntKind.u64.wrap (r * 2 ^ 13))) ((bits .xor .u64 r (IntKind.u64.wrap (r * 2 ^ 13))).fdiv (2 ^ 7))) (IntKind.u64.wrap ((bits .xor .u64 (bits .xor .u64 r (IntKind.u64.wrap (r * 2 ^ 13))) ((bits .xor .u64 r (IntKind.u64.wrap (r * 2 ^ 13))).fdiv (2 ^ 7))) * 2 ^ 17)))) 111 rb 0 (by kernel_rfl) (by kernel_rfl) (by kernel_rfl) (fun w h => St.cellM h (.head _) (by kernel_rfl)) ?_
  refine T.pure 2 (.int .u64 (bits .xor .u64 (bits .xor .u64 (bits .xor .u64 r (IntKind.u64.wrap (r * 2 ^ 13))) ((bits .xor .u64 r (IntKind.u64.wrap (r * 2 ^ 13))).fdiv (2 ^ 7))) (IntKind.u64.wrap ((bits .xor .u64 (bits .xor .u64 r (IntKind.u64.wrap (r * 2 ^ 13))) ((bits .xor .u64 r (IntKind.u64.wrap (r * 2 ^ 13))).fdiv (2 ^ 7))) * 2 ^ 17)))) (by kernel_rfl) (fun w => by kernel_rfl) ?_
  refine T.nil ?_
  refine QN.seq ?_
  refine W.ret ?_
  refine QN.done (.inl rfl) 2 (.int .u64 (bits .xor .u64 (bits .xor .u64 (bits .xor .u64 r (IntKind.u64.wrap (r * 2 ^ 13))) ((bits .xor .u64 r (IntKind.u64.wrap (r * 2 ^ 13))).fdiv (2 ^ 7))) (IntKind.u64.wrap ((bits .xor .u64 (bits .xor .u64 r (IntKind.u64.wrap (r * 2 ^ 13))) ((bits .xor .u64 r (IntKind.u64.wrap (r * 2 ^ 13))).fdiv (2 ^ 7))) * 2 ^ 17)))) rfl (by kernel_rfl) (fun w hw => ?_)
  exact ⟨_, xor_u64 _ _, rfl, hw⟩
set_option maxRecDepth 100000 in
set_option maxHeartbeats 2000000 in
theorem break_c {α : Type} [Cel α] [Inhabited α] {w00 : World} {g n : Nat} {ty : TypeId} {tail : List Value} {lt : α → α → Bool} {kf : Nat} {lb : Array Value} {sf : Nat} {sb : Array Value} {H0 : List (Nat × Obj)} (hS : SortOk Try.prog α w00 g n ty tail lt kf lb sf sb H0) (hn : n ≤ 1000) (d : Array α) (a b : Nat) (hd : d.size = n) (hab : a ≤ b) (hb : b ≤ n) (H' : List (Nat × Obj)) (w : World) (hst : St w00 ((g, .cells (rowb d tail) ty (0, 0)) :: (H' ++ H0)) w) : Calls Try.prog 79 #[.agg #[.func (.func kf) #[] lb, .func (.func sf) #[] sb], .int .i64 ((a : Int)), .int .i64 ((b : Int))] w (fun rr w' => ∃ gs : Array α, (Sort.PermIn a b d gs) ∧ rr = .returned (.tuple #[]) ∧ St w00 ((g, .cells (rowb gs tail) ty (0, 0)) :: (H' ++ H0)) w') := by
  have hbl := bl_bd (b - a) 16 (by omega)
  have hM0 := Nat.two_pow_pos (Sort.bitsLen (b - a))
  have hM1 : 0 < b - a → 2 ^ Sort.bitsLen (b - a) ≤ 2 * (b - a) := fun h => bl_le (b - a) h
  refine calls_W (n := 54) Try.func79 rfl [(0, .agg #[.func (.func kf) #[] lb, .func (.func sf) #[] sb]), (1, .int .i64 ((a : Int))), (2, .int .i64 ((b : Int)))] rfl ⟨by kernel_rfl, by kernel_rfl⟩ ?_
  refine W.weak (Ψ := St w00 ((g, Obj.cells (rowb d tail) ty (0, 0)) :: (H' ++ H0))) (fun w' h => by rw [h]; exact hst) ?_
  refine W.seq ?_
  refine W.region [(0, false)] (by kernel_rfl) ?_
  refine T.box 3 91 (.agg #[.func (.func kf) #[] lb, .func (.func sf) #[] sb]) (#[.func (.func kf) #[] lb, .func (.func sf) #[] sb]) (by kernel_rfl) (by kernel_rfl) (by kernel_rfl) (fun _ _ _ => trivial) (fun b1 => ?_)
  refine T.nil ?_
  refine QN.seq ?_
  refine W.seq ?_
  refine W.region [(0, false), (1, false), (2, false), (3, false)] (by kernel_rfl) ?_
  refine T.pure 11 (.int .i64 ((b : Int))) (by kernel_rfl) (fun w => by kernel_rfl) ?_
  refine T.pure 12 (.int .i64 ((a : Int))) (by kernel_rfl) (fun w => by kernel_rfl) ?_
  refine T.pureE 13 (.int .i64 (IntKind.i64.wrap ((b : Int) - (a : Int)))) (.int .i64 ((b : Int) - (a : Int))) (by kernel_rfl) (fun w => by kernel_rfl) (wrap_int (by omega) (by omega)) ?_
  refine T.pureE 6 (.int .i64 ((b : Int) - (a : Int))) (.int .i64 (((b - a : Nat) : Int))) (by kernel_rfl) (fun w => by kernel_rfl) (int_eq (by omega)) ?_
  refine T.nil ?_
  refine QN.seq ?_
  refine W.seq ?_
  refine W.region [(0, false), (1, false)] (by kernel_rfl) ?_
  refine T.pure 14 (.int .i64 (((b - a : Nat) : Int))) (by kernel_rfl) (fun w => by kernel_rfl) ?_
  refine T.pure 15 (.bool (decide (8 ≤ ((b - a : Nat) : Int)))) (by kernel_rfl) (fun w => by kernel_rfl) ?_
  refine T.nil ?_
  refine QN.seq ?_
  refine W.cond (decide (8 ≤ ((b - a : Nat) : Int))) (by kernel_rfl) (fun h2 => ?_) (fun h2 => ?_)
  · skip
    have h2' := of_decide_eq_true h2
    refine W.seq ?_
    refine W.region [(0, false), (1, false), (2, false), (3, false)] (by kernel_rfl) ?_
    refine T.pure 16 (.int .i64 (((b - a : Nat) : Int))) (by kernel_rfl) (fun w => by kernel_rfl) ?_
    refine T.pureE 17 (.int .u64 (IntKind.u64.wrap ((b - a : Nat) : Int))) (.int .u64 (((b - a : Nat) : Int))) (by kernel_rfl) (fun w => by kernel_rfl) (wrapu_int (by omega) (by omega)) ?_
    refine T.alloc 7 111 #[.int .u64 (0)] (by kernel_rfl) (by kernel_rfl) (by kernel_rfl) (fun _ _ _ => trivial) (fun b3 => ?_)
    refine T.storeP 111 b3 0 (.int .u64 (((b - a : Nat) : Int))) #[.int .u64 (0)] #[.int .u64 (((b - a : Nat) : Int))] 111 (by kernel_rfl) (by kernel_rfl) (by kernel_rfl) (by kernel_rfl) (by kernel_rfl) (by kernel_rfl) (List.Perm.refl _) (fun _ _ => trivial) ?_
    refine T.nil ?_
    refine QN.seq ?_
    refine W.seq ?_
    refine W.region [(0, false), (1, false), (2, false)] (by kernel_rfl) ?_
    refine T.pure 18 (.int .i64 (((b - a : Nat) : Int))) (by kernel_rfl) (fun w => by kernel_rfl) ?_
    refine T.callP 19 96 #[.int .i64 (((b - a : Nat) : Int))] (.int .u64 (((2 ^ Sort.bitsLen (b - a) : Nat) : Int))) (by kernel_rfl) (by kernel_rfl) ent96 (fun w hw => np2_c _ (by omega) w) (fun _ _ => trivial) ?_
    refine T.pure 8 (.int .u64 (((2 ^ Sort.bitsLen (b - a) : Nat) : Int))) (by kernel_rfl) (fun w => by kernel_rfl) ?_
    refine T.nil ?_
    refine QN.seq ?_
    refine W.seq ?_
    refine W.region [(0, false), (1, false), (2, false), (3, false), (4, false), (5, false), (6, false)] (by kernel_rfl) ?_
    refine T.pure 20 (.int .i64 ((a : Int))) (by kernel_rfl) (fun w => by kernel_rfl) ?_
    refine T.pure 21 (.int .i64 (((b - a : Nat) : Int))) (by kernel_rfl) (fun w => by kernel_rfl) ?_
    refine T.pureE 22 (.int .i64 (IntKind.i64.wrap ((((b - a : Nat) : Int)).tdiv 4))) (.int .i64 (((b - a : Nat) : Int) / 4)) (by kernel_rfl) (fun w => by kernel_rfl) (quo_int (by omega) (by decide) (by omega)) ?_
    refine T.pureE 23 (.int .i64 (IntKind.i64.wrap ((((b - a : Nat) : Int) / 4) * 2))) (.int .i64 ((((b - a : Nat) : Int) / 4) * 2)) (by kernel_rfl) (fun w => by kernel_rfl) (wrap_int (by omega) (by omega)) ?_
    refine T.pureE 24 (.int .i64 (IntKind.i64.wrap ((a : Int) + ((((b - a : Nat) : Int) / 4) * 2)))) (.int .i64 ((a : Int) + ((((b - a : Nat) : Int) / 4) * 2))) (by kernel_rfl) (fun w => by kernel_rfl) (wrap_int (by omega) (by omega)) ?_
    refine T.pureE 25 (.int .i64 (IntKind.i64.wrap (((a : Int) + ((((b - a : Nat) : Int) / 4) * 2)) - 1))) (.int .i64 (((a : Int) + ((((b - a : Nat) : Int) / 4) * 2)) - 1)) (by kernel_rfl) (fun w => by kernel_rfl) (wrap_int (by omega) (by omega)) ?_
    refine T.pureE 9 (.int .i64 (((a : Int) + ((((b - a : Nat) : Int) / 4) * 2)) - 1)) (.int .i64 ((((a + (((b - a) / 4) * 2)) - 1 : Nat) : Int))) (by kernel_rfl) (fun w => by kernel_rfl) (int_eq (by omega)) ?_
    refine T.nil ?_
    refine QN.seq ?_
    refine W.block ?_
    refine W.loop (σ := Nat × Array α × Int) (fun gs => a + (b - a) / 4 * 2 - 1 ≤ gs.1 ∧ gs.1 ≤ a + (b - a) / 4 * 2 + 2 ∧ Sort.PermIn a b d gs.2.1 ∧ gs.2.1.size = n) (fun gs => [(1, .int .i64 ((a : Int))), (3, .pointer (some ⟨b1, 0, none⟩)), (6, .int .i64 (((b - a : Nat) : Int))), (7, .pointer (some ⟨b3, 0, none⟩)), (8, .int .u64 (((2 ^ Sort.bitsLen (b - a) : Nat) : Int))), (9, .int .i64 ((gs.1 : Int)))]) (fun gs => St w00 ((b3, Obj.cells #[.int .u64 (gs.2.2)] 111 (0, 0)) :: ((b1, Obj.cells #[.func (.func kf) #[] lb, .func (.func sf) #[] sb] 91 (0, 0)) :: ((g, Obj.cells (rowb gs.2.1 tail) ty (0, 0)) :: (H' ++ H0))))) (fun gs => (a + (b - a) / 4 * 2 + 2) - gs.1) (a + (b - a) / 4 * 2 - 1, d, ((b - a : Nat) : Int)) ?_ (by kernel_rfl) (fun w h => h) ?_
    · show a + (b - a) / 4 * 2 - 1 ≤ (a + (b - a) / 4 * 2 - 1) ∧ (a + (b - a) / 4 * 2 - 1) ≤ a + (b - a) / 4 * 2 + 2 ∧ Sort.PermIn a b d d ∧ d.size = n
      exact ⟨Nat.le_refl _, by omega, Sort.permIn_refl _ _ _, hd⟩
    rintro ⟨idx, dd, r⟩ hI_
    obtain ⟨hi1, hi2, hperm, hdd⟩ : a + (b - a) / 4 * 2 - 1 ≤ idx ∧ idx ≤ a + (b - a) / 4 * 2 + 2 ∧ Sort.PermIn a b d dd ∧ dd.size = n := hI_
    show W _ _ [(1, .int .i64 ((a : Int))), (3, .pointer (some ⟨b1, 0, none⟩)), (6, .int .i64 (((b - a : Nat) : Int))), (7, .pointer (some ⟨b3, 0, none⟩)), (8, .int .u64 (((2 ^ Sort.bitsLen (b - a) : Nat) : Int))), (9, .int .i64 ((idx : Int)))] (St w00 ((b3, Obj.cells #[.int .u64 (r)] 111 (0, 0)) :: ((b1, Obj.cells #[.func (.func kf) #[] lb, .func (.func sf) #[] sb] 91 (0, 0)) :: ((g, Obj.cells (rowb dd tail) ty (0, 0)) :: (H' ++ H0))))) _ _
    refine W.seq ?_
    refine W.seq ?_
    refine W.region [(0, false), (1, false), (2, false), (3, false), (4, false), (5, false), (6, false), (7, false)] (by kernel_rfl) ?_
    refine T.pure 26 (.int .i64 ((idx : Int))) (by kernel_rfl) (fun w => by kernel_rfl) ?_
    refine T.pure 27 (.int .i64 ((a : Int))) (by kernel_rfl) (fun w => by kernel_rfl) ?_
    refine T.pure 28 (.int .i64 (((b - a : Nat) : Int))) (by kernel_rfl) (fun w => by kernel_rfl) ?_
    refine T.pureE 29 (.int .i64 (IntKind.i64.wrap ((((b - a : Nat) : Int)).tdiv 4))) (.int .i64 (((b - a : Nat) : Int) / 4)) (by kernel_rfl) (fun w => by kernel_rfl) (quo_int (by omega) (by decide) (by omega)) ?_
    refine T.pureE 30 (.int .i64 (IntKind.i64.wrap ((((b - a : Nat) : Int) / 4) * 2))) (.int .i64 ((((b - a : Nat) : Int) / 4) * 2)) (by kernel_rfl) (fun w => by kernel_rfl) (wrap_int (by omega) (by omega)) ?_
    refine T.pureE 31 (.int .i64 (IntKind.i64.wrap ((a : Int) + ((((b - a : Nat) : Int) / 4) * 2)))) (.int .i64 ((a : Int) + ((((b - a : Nat) : Int) / 4) * 2))) (by kernel_rfl) (fun w => by kernel_rfl) (wrap_int (by omega) (by omega)) ?_
    refine T.pureE 32 (.int .i64 (IntKind.i64.wrap (((a : Int) + ((((b - a : Nat) : Int) / 4) * 2)) + 1))) (.int .i64 (((a : Int) + ((((b - a : Nat) : Int) / 4) * 2)) + 1)) (by kernel_rfl) (fun w => by kernel_rfl) (wrap_int (by omega) (by omega)) ?_
    refine T.pure 33 (.bool (decide ((idx : Int) ≤ (((a : Int) + ((((b - a : Nat) : Int) / 4) * 2)) + 1)))) (by kernel_rfl) (fun w => by kernel_rfl) ?_
    refine T.nil ?_
    refine QN.seq ?_
    refine W.cond (decide ((idx : Int) ≤ (((a : Int) + ((((b - a : Nat) : Int) / 4) * 2)) + 1))) (by kernel_rfl) (fun h4 => ?_) (fun h4 => ?_)
    · skip
      have h4' := of_decide_eq_true h4
      refine W.skip ?_
      refine QN.seq ?_
      refine W.seq ?_
      refine W.block ?_
      refine W.seq ?_
      refine W.region [(0, false), (1, false), (2, false), (3, false), (4, false), (5, false)] (by kernel_rfl) ?_
      refine T.callG (β := Int) 36 97 #[.pointer (some ⟨b3, 0, none⟩)] (fun gs => .int .u64 (gs)) (fun gs => St w00 ((b3, Obj.cells #[.int .u64 (gs)] 111 (0, 0)) :: ((b1, Obj.cells #[.func (.func kf) #[] lb, .func (.func sf) #[] sb] 91 (0, 0)) :: ((g, Obj.cells (rowb dd tail) ty (0, 0)) :: (H' ++ H0))))) (fun gs => 0 ≤ gs ∧ gs < 18446744073709551616) (by kernel_rfl) (by kernel_rfl) ent97 ?_ (fun _ _ _ => trivial) ?_
      · exact fun w hw => next_c b3 r _ w (show St w00 ((b3, Obj.cells #[.int .u64 (r)] 111 (0, 0)) :: ((b1, Obj.cells #[.func (.func kf) #[] lb, .func (.func sf) #[] sb] 91 (0, 0)) :: ((g, Obj.cells (rowb dd tail) ty (0, 0)) :: (H' ++ H0)))) w from (hw))
      rintro r5 hp_
      have hp6 : 0 ≤ r5 ∧ r5 < 18446744073709551616 := hp_
      refine T.pure 37 (.int .u64 (((2 ^ Sort.bitsLen (b - a) : Nat) : Int))) (by kernel_rfl) (fun w => by kernel_rfl) ?_
      refine T.pureE 38 (.int .u64 (IntKind.u64.wrap (((2 ^ Sort.bitsLen (b - a) : Nat) : Int) - 1))) (.int .u64 (((2 ^ Sort.bitsLen (b - a) : Nat) : Int) - 1)) (by kernel_rfl) (fun w => by kernel_rfl) (wrapu_int (by omega) (by omega)) ?_
      refine T.pure 39 (.int .u64 (bits .and .u64 r5 (((2 ^ Sort.bitsLen (b - a) : Nat) : Int) - 1))) (by kernel_rfl) (fun w => by kernel_rfl) ?_
      obtain ⟨ot7, ho8, hp9⟩ := and_u64 (r5) (((2 ^ Sort.bitsLen (b - a) : Nat) : Int) - 1) (by omega) (by omega)
      refine T.pureE 40 (.int .i64 (IntKind.i64.wrap (bits .and .u64 r5 (((2 ^ Sort.bitsLen (b - a) : Nat) : Int) - 1)))) (.int .i64 (ot7 : Int)) (by kernel_rfl) (fun w => by kernel_rfl) (by rw [ho8]; exact wrap_int (by omega) (by omega)) ?_
      refine T.pure 10 (.int .i64 ((ot7 : Int))) (by kernel_rfl) (fun w => by kernel_rfl) ?_
      refine T.nil ?_
      refine QN.seq ?_
      refine W.seq ?_
      refine W.seq ?_
      refine W.region [(0, false), (1, false), (2, false)] (by kernel_rfl) ?_
      refine T.pure 41 (.int .i64 ((ot7 : Int))) (by kernel_rfl) (fun w => by kernel_rfl) ?_
      refine T.pure 42 (.int .i64 (((b - a : Nat) : Int))) (by kernel_rfl) (fun w => by kernel_rfl) ?_
      refine T.pure 43 (.bool (decide (((b - a : Nat) : Int) ≤ (ot7 : Int)))) (by kernel_rfl) (fun w => by kernel_rfl) ?_
      refine T.nil ?_
      refine QN.seq ?_
      refine W.cond (decide (((b - a : Nat) : Int) ≤ (ot7 : Int))) (by kernel_rfl) (fun h10 => ?_) (fun h10 => ?_)
      · skip
        have h10' := of_decide_eq_true h10
        refine W.region [(0, false), (1, false), (2, false), (3, false)] (by kernel_rfl) ?_
        refine T.pure 44 (.int .i64 ((ot7 : Int))) (by kernel_rfl) (fun w => by kernel_rfl) ?_
        refine T.pure 45 (.int .i64 (((b - a : Nat) : Int))) (by kernel_rfl) (fun w => by kernel_rfl) ?_
        refine T.pureE 46 (.int .i64 (IntKind.i64.wrap ((ot7 : Int) - ((b - a : Nat) : Int)))) (.int .i64 ((ot7 : Int) - ((b - a : Nat) : Int))) (by kernel_rfl) (fun w => by kernel_rfl) (wrap_int (by omega) (by omega)) ?_
        refine T.pureE 10 (.int .i64 ((ot7 : Int) - ((b - a : Nat) : Int))) (.int .i64 (((ot7 - (b - a) : Nat) : Int))) (by kernel_rfl) (fun w => by kernel_rfl) (int_eq (by omega)) ?_
        refine T.nil ?_
        refine QN.seq ?_
        refine W.region [(0, false), (1, false), (2, false), (3, false), (4, false), (5, false), (6, false)] (by kernel_rfl) ?_
        refine T.pure 47 (.pointer (some ⟨b1, 1, none⟩)) (by kernel_rfl) (fun w => by kernel_rfl) ?_
        refine T.load false 48 (.func (.func sf) #[] sb) 86 b1 1 (by kernel_rfl) (by kernel_rfl) (by kernel_rfl) (fun w h => St.cellM h (.tail _ (.head _)) (by kernel_rfl)) ?_
        refine T.pure 49 (.int .i64 ((idx : Int))) (by kernel_rfl) (fun w => by kernel_rfl) ?_
        refine T.pure 50 (.int .i64 ((a : Int))) (by kernel_rfl) (fun w => by kernel_rfl) ?_
        refine T.pure 51 (.int .i64 (((ot7 - (b - a) : Nat) : Int))) (by kernel_rfl) (fun w => by kernel_rfl) ?_
        refine T.pureE 52 (.int .i64 (IntKind.i64.wrap ((a : Int) + ((ot7 - (b - a) : Nat) : Int)))) (.int .i64 ((a : Int) + ((ot7 - (b - a) : Nat) : Int))) (by kernel_rfl) (fun w => by kernel_rfl) (wrap_int (by omega) (by omega)) ?_
        refine T.callV 53 sf (#[.int .i64 ((idx : Int)), .int .i64 ((a : Int) + ((ot7 - (b - a) : Nat) : Int))] ++ sb) (.tuple #[]) (St w00 ((g, Obj.cells (rowb (Sort.swp dd idx (a + (ot7 - (b - a)))) tail) ty (0, 0)) :: ((b3, Obj.cells #[.int .u64 (r5)] 111 (0, 0)) :: ((b1, Obj.cells #[.func (.func kf) #[] lb, .func (.func sf) #[] sb] 91 (0, 0)) :: (H' ++ H0))))) (by kernel_rfl) (by kernel_rfl) ?_ (fun _ _ => trivial) ?_
        · exact fun w hw => hS.swap ((b3, Obj.cells #[.int .u64 (r5)] 111 (0, 0)) :: ((b1, Obj.cells #[.func (.func kf) #[] lb, .func (.func sf) #[] sb] 91 (0, 0)) :: H')) dd w ((idx : Int)) ((a : Int) + ((ot7 - (b - a) : Nat) : Int)) idx (a + (ot7 - (b - a))) (by first | assumption | (simp only [Sort.size_swp]; assumption)) (by omega) (by omega) (by omega) (by omega) (show St w00 ((g, Obj.cells (rowb dd tail) ty (0, 0)) :: ((b3, Obj.cells #[.int .u64 (r5)] 111 (0, 0)) :: ((b1, Obj.cells #[.func (.func kf) #[] lb, .func (.func sf) #[] sb] 91 (0, 0)) :: (H' ++ H0)))) w from (hw.perm ((((((List.Perm.refl _).cons _).trans (List.Perm.swap _ _ _)).cons _).trans (List.Perm.swap _ _ _)).trans (((List.Perm.refl _).trans ((List.Perm.refl _).cons _)).cons _))))
        refine T.nil ?_
        refine QN.blkNormal ?_
        refine QN.seq ?_
        refine W.region [(0, false), (1, false), (2, false)] (by kernel_rfl) ?_
        refine T.pure 34 (.int .i64 ((idx : Int))) (by kernel_rfl) (fun w => by kernel_rfl) ?_
        refine T.pureE 35 (.int .i64 (IntKind.i64.wrap ((idx : Int) + 1))) (.int .i64 ((idx : Int) + 1)) (by kernel_rfl) (fun w => by kernel_rfl) (wrap_int (by omega) (by omega)) ?_
        refine T.pureE 9 (.int .i64 ((idx : Int) + 1)) (.int .i64 (((idx + 1 : Nat) : Int))) (by kernel_rfl) (fun w => by kernel_rfl) (int_eq (by omega)) ?_
        refine T.nil ?_
        refine QN.back (idx + 1, Sort.swp dd idx (a + (ot7 - (b - a))), r5) ?_ ?_ (by kernel_rfl) (fun w h => h.perm ((((List.Perm.refl _).cons _).trans (List.Perm.swap _ _ _)).trans (((((List.Perm.refl _).cons _).trans (List.Perm.swap _ _ _)).trans ((List.Perm.refl _).cons _)).cons _)))
        · show a + (b - a) / 4 * 2 - 1 ≤ (idx + 1) ∧ (idx + 1) ≤ a + (b - a) / 4 * 2 + 2 ∧ Sort.PermIn a b d (Sort.swp dd idx (a + (ot7 - (b - a)))) ∧ (Sort.swp dd idx (a + (ot7 - (b - a)))).size = n
          exact ⟨by omega, by omega, Sort.permIn_trans _ _ _ a b hperm (Sort.swp_permIn _ a b _ _ (by omega) (by omega) (by omega) (by omega) (by omega)), by rw [Sort.size_swp]; exact hdd⟩
        · show (a + (b - a) / 4 * 2 + 2) - (idx + 1) < (a + (b - a) / 4 * 2 + 2) - idx; omega
      · skip
        have h10' := of_decide_eq_false h10
        refine W.skip ?_
        refine QN.seq ?_
        refine W.region [(0, false), (1, false), (2, false), (3, false), (4, false), (5, false), (6, false)] (by kernel_rfl) ?_
        refine T.pure 47 (.pointer (some ⟨b1, 1, none⟩)) (by kernel_rfl) (fun w => by kernel_rfl) ?_
        refine T.load false 48 (.func (.func sf) #[] sb) 86 b1 1 (by kernel_rfl) (by kernel_rfl) (by kernel_rfl) (fun w h => St.cellM h (.tail _ (.head _)) (by kernel_rfl)) ?_
        refine T.pure 49 (.int .i64 ((idx : Int))) (by kernel_rfl) (fun w => by kernel_rfl) ?_
        refine T.pure 50 (.int .i64 ((a : Int))) (by kernel_rfl) (fun w => by kernel_rfl) ?_
        refine T.pure 51 (.int .i64 ((ot7 : Int))) (by kernel_rfl) (fun w => by kernel_rfl) ?_
        refine T.pureE 52 (.int .i64 (IntKind.i64.wrap ((a : Int) + (ot7 : Int)))) (.int .i64 ((a : Int) + (ot7 : Int))) (by kernel_rfl) (fun w => by kernel_rfl) (wrap_int (by omega) (by omega)) ?_
        refine T.callV 53 sf (#[.int .i64 ((idx : Int)), .int .i64 ((a : Int) + (ot7 : Int))] ++ sb) (.tuple #[]) (St w00 ((g, Obj.cells (rowb (Sort.swp dd idx (a + ot7)) tail) ty (0, 0)) :: ((b3, Obj.cells #[.int .u64 (r5)] 111 (0, 0)) :: ((b1, Obj.cells #[.func (.func kf) #[] lb, .func (.func sf) #[] sb] 91 (0, 0)) :: (H' ++ H0))))) (by kernel_rfl) (by kernel_rfl) ?_ (fun _ _ => trivial) ?_
        · exact fun w hw => hS.swap ((b3, Obj.cells #[.int .u64 (r5)] 111 (0, 0)) :: ((b1, Obj.cells #[.func (.func kf) #[] lb, .func (.func sf) #[] sb] 91 (0, 0)) :: H')) dd w ((idx : Int)) ((a : Int) + (ot7 : Int)) idx (a + ot7) (by first | assumption | (simp only [Sort.size_swp]; assumption)) (by omega) (by omega) (by omega) (by omega) (show St w00 ((g, Obj.cells (rowb dd tail) ty (0, 0)) :: ((b3, Obj.cells #[.int .u64 (r5)] 111 (0, 0)) :: ((b1, Obj.cells #[.func (.func kf) #[] lb, .func (.func sf) #[] sb] 91 (0, 0)) :: (H' ++ H0)))) w from (hw.perm ((((((List.Perm.refl _).cons _).trans (List.Perm.swap _ _ _)).cons _).trans (List.Perm.swap _ _ _)).trans (((List.Perm.refl _).trans ((List.Perm.refl _).cons _)).cons _))))
        refine T.nil ?_
        refine QN.blkNormal ?_
        refine QN.seq ?_
        refine W.region [(0, false), (1, false), (2, false)] (by kernel_rfl) ?_
        refine T.pure 34 (.int .i64 ((idx : Int))) (by kernel_rfl) (fun w => by kernel_rfl) ?_
        refine T.pureE 35 (.int .i64 (IntKind.i64.wrap ((idx : Int) + 1))) (.int .i64 ((idx : Int) + 1)) (by kernel_rfl) (fun w => by kernel_rfl) (wrap_int (by omega) (by omega)) ?_
        refine T.pureE 9 (.int .i64 ((idx : Int) + 1)) (.int .i64 (((idx + 1 : Nat) : Int))) (by kernel_rfl) (fun w => by kernel_rfl) (int_eq (by omega)) ?_
        refine T.nil ?_
        refine QN.back (idx + 1, Sort.swp dd idx (a + ot7), r5) ?_ ?_ (by kernel_rfl) (fun w h => h.perm ((((List.Perm.refl _).cons _).trans (List.Perm.swap _ _ _)).trans (((((List.Perm.refl _).cons _).trans (List.Perm.swap _ _ _)).trans ((List.Perm.refl _).cons _)).cons _)))
        · show a + (b - a) / 4 * 2 - 1 ≤ (idx + 1) ∧ (idx + 1) ≤ a + (b - a) / 4 * 2 + 2 ∧ Sort.PermIn a b d (Sort.swp dd idx (a + ot7)) ∧ (Sort.swp dd idx (a + ot7)).size = n
          exact ⟨by omega, by omega, Sort.permIn_trans _ _ _ a b hperm (Sort.swp_permIn _ a b _ _ (by omega) (by omega) (by omega) (by omega) (by omega)), by rw [Sort.size_swp]; exact hdd⟩
        · show (a + (b - a) / 4 * 2 + 2) - (idx + 1) < (a + (b - a) / 4 * 2 + 2) - idx; omega
    · skip
      have h4' := of_decide_eq_false h4
      refine W.exit ?_
      refine QN.thenExit ?_
      refine QN.thenExit ?_
      refine QN.blkHit ?_
      refine QN.done0 (.inr rfl) rfl (fun w hw => ?_)
      exact ⟨dd, hperm, rfl, ((hw.perm (((((List.Perm.refl _).cons _).trans (List.Perm.swap _ _ _)).cons _).trans (List.Perm.swap _ _ _))).part ((((List.Sublist.refl _).cons _).cons _).cons_cons _))⟩
  · skip
    have h2' := of_decide_eq_false h2
    refine W.skip ?_
    refine QN.done0 (.inr rfl) rfl (fun w hw => ?_)
    exact ⟨d, Sort.permIn_refl _ _ _, rfl, ((hw.perm (((List.Perm.refl _).cons _).trans (List.Perm.swap _ _ _))).part (((List.Sublist.refl _).cons _).cons_cons _))⟩
end Go.Proofs.Ytnagichfngogkaa
