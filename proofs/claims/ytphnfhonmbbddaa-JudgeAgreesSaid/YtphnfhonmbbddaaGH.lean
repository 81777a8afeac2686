/- Go's sort over a row, part 3: the pivot. -/
import Derived.Test.YtphnfhonmbbddaaGF
namespace Go.Proofs.Ytphnfhonmbbddaa
open Go Go.RowKit
set_option linter.unusedVariables false

set_option maxRecDepth 100000 in
set_option maxHeartbeats 2000000 in
theorem order2_c {α : Type} [Cel α] [Inhabited α] {w00 : World} {g n : Nat} {ty : TypeId} {tail : List Value} {lt : α → α → Bool} {kf : Nat} {lb : Array Value} {sf : Nat} {sb : Array Value} {H0 : List (Nat × Obj)} (hS : SortOk Try.prog α w00 g n ty tail lt kf lb sf sb H0) (hn : n ≤ 1000) (d : Array α) (a b : Nat) (hd : d.size = n) (ha : a < n) (hb : b < n) (bs : Nat) (s : Int) (hs0 : 0 ≤ s) (hs1 : s ≤ 1000) (H' : List (Nat × Obj)) (w : World) (hst : St w00 ((g, .cells (rowb d tail) ty (0, 0)) :: (bs, .cells #[.int .i64 s] 3 (0, 0)) :: (H' ++ H0)) w) : Calls Try.prog 136 #[.agg (LS kf lb sf sb), .int .i64 a, .int .i64 b, .pointer (some ⟨bs, 0, none⟩)] w (fun rr w' => ∃ gs : Nat × Nat × Int, (((gs.1 = a ∧ gs.2.1 = b) ∨ (gs.1 = b ∧ gs.2.1 = a)) ∧ 0 ≤ gs.2.2 ∧ gs.2.2 ≤ s + 1) ∧ rr = .returned (.tuple #[.int .i64 (gs.1 : Int), .int .i64 (gs.2.1 : Int)]) ∧ St w00 ((g, .cells (rowb d tail) ty (0, 0)) :: (bs, .cells #[.int .i64 gs.2.2] 3 (0, 0)) :: (H' ++ H0)) w') := by
 refine calls_W (n := 24) Try.func136 rfl [(0, .agg (LS kf lb sf sb)), (1, .int .i64 a), (2, .int .i64 b), (3, .pointer (some ⟨bs, 0, none⟩))] rfl ⟨by kernel_rfl, by kernel_rfl⟩ (W.weak (Ψ := St w00 ((g, Obj.cells (rowb d tail) ty (0, 0)) :: ((bs, Obj.cells #[.int .i64 s] 3 (0, 0)) :: (H' ++ H0)))) (fun w' h => by rw [h]; exact hst) (W.seq (W.rg od3 (T.bx 4 116 (.agg (LS kf lb sf sb)) ((LS kf lb sf sb)) tv3 (fun b1 => T.pi 8 0 (T.pi 9 0 (T.nil (QN.seq (W.seq (W.seq (W.rg od5 (T.pu 10 (.pointer (some ⟨b1, 0, none⟩)) (T.ld false 11 (.func (.func kf) #[] lb) 90 b1 0 (fun w h => St.cellM h mm0 (by kernel_rfl)) (T.pi 12 b (T.pi 13 a (T.cp 14 kf (#[.int .i64 b, .int .i64 a] ++ lb) (.bool (lt d[b]! d[a]!)) hS.ent ?_ tv2 ?_))))))))))))))))
 · exact fun w hw => hS.less ((b1, Obj.cells (LS kf lb sf sb) 116 (0, 0)) :: ((bs, Obj.cells #[.int .i64 s] 3 (0, 0)) :: H')) d w (b : Int) (a : Int) b a (by first | assumption | (simp only [Sort.size_swp]; assumption)) (by omega) (by omega) (by omega) (by omega) (show St w00 ((g, Obj.cells (rowb d tail) ty (0, 0)) :: ((b1, Obj.cells (LS kf lb sf sb) 116 (0, 0)) :: ((bs, Obj.cells #[.int .i64 s] 3 (0, 0)) :: (H' ++ H0)))) w from (hw.perm (pm1.trans ((pm0.trans (pm0.cons _)).cons _))))
 refine T.nil (QN.seq (W.cd (lt d[b]! d[a]!) (fun h2 => ?_) (fun h2 => ?_)))
 ·
  refine W.seq (W.rg od6 (T.pu 15 (.pointer (some ⟨bs, 0, none⟩)) (T.pu 16 (.pointer (some ⟨bs, 0, none⟩)) (T.ld false 17 (.int .i64 s) 3 bs 0 (fun w h => St.cellM h mm2 (by kernel_rfl)) (T.pw 18 (s + 1) (T.pu 19 (.pointer (some ⟨bs, 0, none⟩)) (T.sp 3 bs 0 (.int .i64 (s + 1)) #[.int .i64 s] #[.int .i64 (s + 1)] 3 pm2 tv2 (T.nil (QN.seq (W.seq (W.rg od4 (T.pi 20 b (T.pi 21 a (T.pi 8 b (T.pi 9 a (T.nil (QN.seq (W.ret (QN.thenRet (QN.done2 (.inl rfl) 8 9 (.int .i64 b) (.int .i64 a) rfl (by kernel_rfl) (by kernel_rfl) (fun w hw => ?_)))))))))))))))))))))
  exact (show ∃ gs : Nat × Nat × Int, _ from ⟨(b, a, s + 1), ⟨.inr ⟨rfl, rfl⟩, (by show (0 : Int) ≤ s + 1; omega), (by show (s + 1 : Int) ≤ s + 1; omega)⟩, rfl, ((hw.perm (pm2.trans (pm0.cons _))).part ((((List.Sublist.refl _).cons _).cons_cons _).cons_cons _))⟩)
 ·
  refine W.skip (QN.seq (W.seq (W.rg od4 (T.pi 22 a (T.pi 23 b (T.pi 8 a (T.pi 9 b (T.nil (QN.seq (W.ret (QN.done2 (.inl rfl) 8 9 (.int .i64 a) (.int .i64 b) rfl (by kernel_rfl) (by kernel_rfl) (fun w hw => ?_))))))))))))
  exact (show ∃ gs : Nat × Nat × Int, _ from ⟨(a, b, s), ⟨.inl ⟨rfl, rfl⟩, (by show (0 : Int) ≤ s; omega), (by show (s : Int) ≤ s + 1; omega)⟩, rfl, ((hw.perm (pm1.trans (pm1.cons _))).part ((((List.Sublist.refl _).cons _).cons_cons _).cons_cons _))⟩)
set_option maxRecDepth 100000 in
set_option maxHeartbeats 2000000 in
theorem median_c {α : Type} [Cel α] [Inhabited α] {w00 : World} {g n : Nat} {ty : TypeId} {tail : List Value} {lt : α → α → Bool} {kf : Nat} {lb : Array Value} {sf : Nat} {sb : Array Value} {H0 : List (Nat × Obj)} (hS : SortOk Try.prog α w00 g n ty tail lt kf lb sf sb H0) (hn : n ≤ 1000) (d : Array α) (a b c : Nat) (hd : d.size = n) (ha : a < n) (hb : b < n) (hc : c < n) (bs : Nat) (s : Int) (hs0 : 0 ≤ s) (hs1 : s ≤ 900) (H' : List (Nat × Obj)) (w : World) (hst : St w00 ((g, .cells (rowb d tail) ty (0, 0)) :: (bs, .cells #[.int .i64 s] 3 (0, 0)) :: (H' ++ H0)) w) : Calls Try.prog 133 #[.agg (LS kf lb sf sb), .int .i64 a, .int .i64 b, .int .i64 c, .pointer (some ⟨bs, 0, none⟩)] w (fun rr w' => ∃ gs : Nat × Int, ((gs.1 = a ∨ gs.1 = b ∨ gs.1 = c) ∧ 0 ≤ gs.2 ∧ gs.2 ≤ s + 3) ∧ rr = .returned (.int .i64 (gs.1 : Int)) ∧ St w00 ((g, .cells (rowb d tail) ty (0, 0)) :: (bs, .cells #[.int .i64 gs.2] 3 (0, 0)) :: (H' ++ H0)) w') := by
 refine calls_W (n := 36) Try.func133 rfl [(0, .agg (LS kf lb sf sb)), (1, .int .i64 a), (2, .int .i64 b), (3, .int .i64 c), (4, .pointer (some ⟨bs, 0, none⟩))] rfl ⟨by kernel_rfl, by kernel_rfl⟩ (W.weak (Ψ := St w00 ((g, Obj.cells (rowb d tail) ty (0, 0)) :: ((bs, Obj.cells #[.int .i64 s] 3 (0, 0)) :: (H' ++ H0)))) (fun w' h => by rw [h]; exact hst) (W.seq (W.rg od2 (T.bx 5 116 (.agg (LS kf lb sf sb)) ((LS kf lb sf sb)) tv3 (fun b1 => T.pi 10 0 (T.nil (QN.seq (W.seq (W.rg od10 (T.lr false 12 (LS kf lb sf sb) 116 b1 0 (fun w h => St.rangeM h (LS kf lb sf sb) mm0 (by kernel_rfl)) (T.pi 13 a (T.pi 14 b (T.pu 15 (.pointer (some ⟨bs, 0, none⟩)) (T.callG (β := Nat × Nat × Int) 16 136 #[.agg (LS kf lb sf sb), .int .i64 a, .int .i64 b, .pointer (some ⟨bs, 0, none⟩)] (fun gs => .tuple #[.int .i64 (gs.1 : Int), .int .i64 (gs.2.1 : Int)]) (fun gs => St w00 ((g, Obj.cells (rowb d tail) ty (0, 0)) :: ((bs, Obj.cells #[.int .i64 gs.2.2] 3 (0, 0)) :: ((b1, Obj.cells (LS kf lb sf sb) 116 (0, 0)) :: (H' ++ H0))))) (fun gs => ((gs.1 = a ∧ gs.2.1 = b) ∨ (gs.1 = b ∧ gs.2.1 = a)) ∧ 0 ≤ gs.2.2 ∧ gs.2.2 ≤ s + 1) (by kernel_rfl) (by kernel_rfl) ent136 ?_ tv3 ?_))))))))))))))
 · exact fun w hw => order2_c hS hn d a b (by first | assumption | (simp only [Sort.size_swp]; assumption)) (by omega) (by omega)  bs s (by omega) (by omega) ((b1, Obj.cells (LS kf lb sf sb) 116 (0, 0)) :: H') w (show St w00 ((g, Obj.cells (rowb d tail) ty (0, 0)) :: ((bs, Obj.cells #[.int .i64 s] 3 (0, 0)) :: ((b1, Obj.cells (LS kf lb sf sb) 116 (0, 0)) :: (H' ++ H0)))) w from (hw.perm (pm1.trans ((pm1.trans (pm0.cons _)).cons _))))
 rintro ⟨x2, y3, s4⟩ hp_
 have hp5 : ((x2 = a ∧ y3 = b) ∨ (x2 = b ∧ y3 = a)) ∧ 0 ≤ s4 ∧ s4 ≤ s + 1 := hp_
 refine T.pu 11 (.tuple #[.int .i64 x2, .int .i64 y3]) (T.pi 17 x2 (T.pi 18 y3 (T.pi 1 x2 (T.pi 2 y3 (T.nil (QN.seq (W.seq (W.rg od10 (T.lr false 20 (LS kf lb sf sb) 116 b1 0 (fun w h => St.rangeM h (LS kf lb sf sb) mm2 (by kernel_rfl)) (T.pi 21 y3 (T.pi 22 c (T.pu 23 (.pointer (some ⟨bs, 0, none⟩)) (T.callG (β := Nat × Nat × Int) 24 136 #[.agg (LS kf lb sf sb), .int .i64 y3, .int .i64 c, .pointer (some ⟨bs, 0, none⟩)] (fun gs => .tuple #[.int .i64 (gs.1 : Int), .int .i64 (gs.2.1 : Int)]) (fun gs => St w00 ((g, Obj.cells (rowb d tail) ty (0, 0)) :: ((bs, Obj.cells #[.int .i64 gs.2.2] 3 (0, 0)) :: ((b1, Obj.cells (LS kf lb sf sb) 116 (0, 0)) :: (H' ++ H0))))) (fun gs => ((gs.1 = y3 ∧ gs.2.1 = c) ∨ (gs.1 = c ∧ gs.2.1 = y3)) ∧ 0 ≤ gs.2.2 ∧ gs.2.2 ≤ s4 + 1) (by kernel_rfl) (by kernel_rfl) ent136 ?_ tv3 ?_)))))))))))))
 · exact fun w hw => order2_c hS hn d y3 c (by first | assumption | (simp only [Sort.size_swp]; assumption)) (by omega) (by omega)  bs s4 (by omega) (by omega) ((b1, Obj.cells (LS kf lb sf sb) 116 (0, 0)) :: H') w (show St w00 ((g, Obj.cells (rowb d tail) ty (0, 0)) :: ((bs, Obj.cells #[.int .i64 s4] 3 (0, 0)) :: ((b1, Obj.cells (LS kf lb sf sb) 116 (0, 0)) :: (H' ++ H0)))) w from hw)
 rintro ⟨x6, y7, s8⟩ hp_
 have hp9 : ((x6 = y3 ∧ y7 = c) ∨ (x6 = c ∧ y7 = y3)) ∧ 0 ≤ s8 ∧ s8 ≤ s4 + 1 := hp_
 refine T.pu 19 (.tuple #[.int .i64 x6, .int .i64 y7]) (T.pi 25 x6 (T.pi 26 y7 (T.pi 2 x6 (T.pi 3 y7 (T.nil (QN.seq (W.seq (W.rg od10 (T.lr false 28 (LS kf lb sf sb) 116 b1 0 (fun w h => St.rangeM h (LS kf lb sf sb) mm2 (by kernel_rfl)) (T.pi 29 x2 (T.pi 30 x6 (T.pu 31 (.pointer (some ⟨bs, 0, none⟩)) (T.callG (β := Nat × Nat × Int) 32 136 #[.agg (LS kf lb sf sb), .int .i64 x2, .int .i64 x6, .pointer (some ⟨bs, 0, none⟩)] (fun gs => .tuple #[.int .i64 (gs.1 : Int), .int .i64 (gs.2.1 : Int)]) (fun gs => St w00 ((g, Obj.cells (rowb d tail) ty (0, 0)) :: ((bs, Obj.cells #[.int .i64 gs.2.2] 3 (0, 0)) :: ((b1, Obj.cells (LS kf lb sf sb) 116 (0, 0)) :: (H' ++ H0))))) (fun gs => ((gs.1 = x2 ∧ gs.2.1 = x6) ∨ (gs.1 = x6 ∧ gs.2.1 = x2)) ∧ 0 ≤ gs.2.2 ∧ gs.2.2 ≤ s8 + 1) (by kernel_rfl) (by kernel_rfl) ent136 ?_ tv3 ?_)))))))))))))
 · exact fun w hw => order2_c hS hn d x2 x6 (by first | assumption | (simp only [Sort.size_swp]; assumption)) (by omega) (by omega)  bs s8 (by omega) (by omega) ((b1, Obj.cells (LS kf lb sf sb) 116 (0, 0)) :: H') w (show St w00 ((g, Obj.cells (rowb d tail) ty (0, 0)) :: ((bs, Obj.cells #[.int .i64 s8] 3 (0, 0)) :: ((b1, Obj.cells (LS kf lb sf sb) 116 (0, 0)) :: (H' ++ H0)))) w from hw)
 rintro ⟨x10, y11, s12⟩ hp_
 have hp13 : ((x10 = x2 ∧ y11 = x6) ∨ (x10 = x6 ∧ y11 = x2)) ∧ 0 ≤ s12 ∧ s12 ≤ s8 + 1 := hp_
 refine T.pu 27 (.tuple #[.int .i64 x10, .int .i64 y11]) (T.pi 33 x10 (T.pi 34 y11 (T.pi 1 x10 (T.pi 2 y11 (T.nil (QN.seq (W.seq (W.rg od2 (T.pi 35 y11 (T.pi 10 y11 (T.nil (QN.seq (W.ret (QN.done (.inl rfl) 10 (.int .i64 y11) rfl (by kernel_rfl) (fun w hw => ?_)))))))))))))))
 exact (show ∃ gs : Nat × Int, _ from ⟨(y11, s12), ⟨(by show y11 = a ∨ y11 = b ∨ y11 = c; omega), (by show (0 : Int) ≤ s12; omega), (by show (s12 : Int) ≤ s + 3; omega)⟩, rfl, ((hw.perm (pm0.trans (pm0.cons _))).part ((((List.Sublist.refl _).cons _).cons_cons _).cons_cons _))⟩)
set_option maxRecDepth 100000 in
set_option maxHeartbeats 2000000 in
theorem medAdj_c {α : Type} [Cel α] [Inhabited α] {w00 : World} {g n : Nat} {ty : TypeId} {tail : List Value} {lt : α → α → Bool} {kf : Nat} {lb : Array Value} {sf : Nat} {sb : Array Value} {H0 : List (Nat × Obj)} (hS : SortOk Try.prog α w00 g n ty tail lt kf lb sf sb H0) (hn : n ≤ 1000) (d : Array α) (a : Nat) (hd : d.size = n) (ha : a + 1 < n) (ha1 : 1 ≤ a) (bs : Nat) (s : Int) (hs0 : 0 ≤ s) (hs1 : s ≤ 900) (H' : List (Nat × Obj)) (w : World) (hst : St w00 ((g, .cells (rowb d tail) ty (0, 0)) :: (bs, .cells #[.int .i64 s] 3 (0, 0)) :: (H' ++ H0)) w) : Calls Try.prog 132 #[.agg (LS kf lb sf sb), .int .i64 a, .pointer (some ⟨bs, 0, none⟩)] w (fun rr w' => ∃ gs : Nat × Int, ((a ≤ gs.1 + 1 ∧ gs.1 ≤ a + 1) ∧ 0 ≤ gs.2 ∧ gs.2 ≤ s + 3) ∧ rr = .returned (.int .i64 (gs.1 : Int)) ∧ St w00 ((g, .cells (rowb d tail) ty (0, 0)) :: (bs, .cells #[.int .i64 gs.2] 3 (0, 0)) :: (H' ++ H0)) w') := by
 refine calls_W (n := 15) Try.func132 rfl [(0, .agg (LS kf lb sf sb)), (1, .int .i64 a), (2, .pointer (some ⟨bs, 0, none⟩))] rfl ⟨by kernel_rfl, by kernel_rfl⟩ (W.weak (Ψ := St w00 ((g, Obj.cells (rowb d tail) ty (0, 0)) :: ((bs, Obj.cells #[.int .i64 s] 3 (0, 0)) :: (H' ++ H0)))) (fun w' h => by rw [h]; exact hst) (W.seq (W.rg od2 (T.bx 3 116 (.agg (LS kf lb sf sb)) ((LS kf lb sf sb)) tv3 (fun b1 => T.pi 6 0 (T.nil (QN.seq (W.seq (W.rg od9 (T.lr false 7 (LS kf lb sf sb) 116 b1 0 (fun w h => St.rangeM h (LS kf lb sf sb) mm0 (by kernel_rfl)) (T.pi 8 a (T.pe 9 (.int .i64 (IntKind.i64.wrap ((a : Int) - 1))) (.int .i64 ((a - 1 : Nat) : Int)) ((wrap_int (by omega) (by omega)).trans (int_eq (by omega))) (T.pi 10 a (T.pi 11 a (T.pw 12 ((a : Int) + 1) (T.pu 13 (.pointer (some ⟨bs, 0, none⟩)) (T.callG (β := Nat × Int) 14 133 #[.agg (LS kf lb sf sb), .int .i64 ((a - 1 : Nat) : Int), .int .i64 a, .int .i64 ((a : Int) + 1), .pointer (some ⟨bs, 0, none⟩)] (fun gs => .int .i64 (gs.1 : Int)) (fun gs => St w00 ((g, Obj.cells (rowb d tail) ty (0, 0)) :: ((bs, Obj.cells #[.int .i64 gs.2] 3 (0, 0)) :: ((b1, Obj.cells (LS kf lb sf sb) 116 (0, 0)) :: (H' ++ H0))))) (fun gs => (gs.1 = (a - 1) ∨ gs.1 = a ∨ gs.1 = (a + 1)) ∧ 0 ≤ gs.2 ∧ gs.2 ≤ s + 3) (by kernel_rfl) (by kernel_rfl) ent133 ?_ tv3 ?_)))))))))))))))))
 · exact fun w hw => median_c hS hn d (a - 1) a (a + 1) (by first | assumption | (simp only [Sort.size_swp]; assumption)) (by omega) (by omega) (by omega)  bs s (by omega) (by omega) ((b1, Obj.cells (LS kf lb sf sb) 116 (0, 0)) :: H') w (show St w00 ((g, Obj.cells (rowb d tail) ty (0, 0)) :: ((bs, Obj.cells #[.int .i64 s] 3 (0, 0)) :: ((b1, Obj.cells (LS kf lb sf sb) 116 (0, 0)) :: (H' ++ H0)))) w from (hw.perm (pm1.trans ((pm1.trans (pm0.cons _)).cons _))))
 rintro ⟨x2, s3⟩ hp_
 have hp4 : (x2 = (a - 1) ∨ x2 = a ∨ x2 = (a + 1)) ∧ 0 ≤ s3 ∧ s3 ≤ s + 3 := hp_
 refine T.pi 6 x2 (T.nil (QN.seq (W.ret (QN.done (.inl rfl) 6 (.int .i64 x2) rfl (by kernel_rfl) (fun w hw => ?_)))))
 exact (show ∃ gs : Nat × Int, _ from ⟨(x2, s3), ⟨(by show a ≤ x2 + 1 ∧ x2 ≤ a + 1; omega), (by show (0 : Int) ≤ s3; omega), (by show (s3 : Int) ≤ s + 3; omega)⟩, rfl, ((hw.perm (pm0.trans (pm0.cons _))).part ((((List.Sublist.refl _).cons _).cons_cons _).cons_cons _))⟩)
set_option maxRecDepth 100000 in
set_option maxHeartbeats 2000000 in
theorem pivot_c {α : Type} [Cel α] [Inhabited α] {w00 : World} {g n : Nat} {ty : TypeId} {tail : List Value} {lt : α → α → Bool} {kf : Nat} {lb : Array Value} {sf : Nat} {sb : Array Value} {H0 : List (Nat × Obj)} (hS : SortOk Try.prog α w00 g n ty tail lt kf lb sf sb H0) (hn : n ≤ 1000) (d : Array α) (a b : Nat) (hd : d.size = n) (hab : a < b) (hb : b ≤ n) (H' : List (Nat × Obj)) (w : World) (hst : St w00 ((g, .cells (rowb d tail) ty (0, 0)) :: (H' ++ H0)) w) : Calls Try.prog 105 #[.agg (LS kf lb sf sb), .int .i64 a, .int .i64 b] w (fun rr w' => ∃ gs : Nat × Int, (a ≤ gs.1 ∧ gs.1 < b) ∧ rr = .returned (.tuple #[.int .i64 (gs.1 : Int), .int .i64 gs.2]) ∧ St w00 ((g, .cells (rowb d tail) ty (0, 0)) :: (H' ++ H0)) w') := by
 refine calls_W (n := 57) Try.func105 rfl [(0, .agg (LS kf lb sf sb)), (1, .int .i64 a), (2, .int .i64 b)] rfl ⟨by kernel_rfl, by kernel_rfl⟩ (W.weak (Ψ := St w00 ((g, Obj.cells (rowb d tail) ty (0, 0)) :: (H' ++ H0))) (fun w' h => by rw [h]; exact hst) (W.seq (W.rg od3 (T.bx 3 116 (.agg (LS kf lb sf sb)) ((LS kf lb sf sb)) tv3 (fun b1 => T.pi 6 0 (T.pi 7 0 (T.nil (QN.seq (W.seq (W.rg od4 (T.pi 13 b (T.pi 14 a (T.pw 15 ((b : Int) - (a : Int)) (T.pe 8 (.int .i64 ((b : Int) - (a : Int))) (.int .i64 ((b - a : Nat) : Int)) (int_eq (by omega)) (T.nil (QN.seq (W.seq (W.rg od1 (T.al 9 3 #[.int .i64 0] tv3 (fun b2 => T.nil (QN.seq (W.seq (W.rg od6 (T.pi 16 a (T.pi 17 ((b - a : Nat) : Int) (T.pe 18 (.int .i64 (IntKind.i64.wrap (((b - a : Nat) : Int).tdiv 4))) (.int .i64 (((b - a : Nat) : Int) / 4)) (quo_int (by omega) (by decide) (by omega)) (T.pw 19 ((((b - a : Nat) : Int) / 4) * 1) (T.pw 20 ((a : Int) + ((((b - a : Nat) : Int) / 4) * 1)) (T.pe 10 (.int .i64 ((a : Int) + ((((b - a : Nat) : Int) / 4) * 1))) (.int .i64 ((a + (((b - a) / 4) * 1) : Nat) : Int)) (int_eq (by omega)) (T.nil (QN.seq (W.seq (W.rg od6 (T.pi 21 a (T.pi 22 ((b - a : Nat) : Int) (T.pe 23 (.int .i64 (IntKind.i64.wrap (((b - a : Nat) : Int).tdiv 4))) (.int .i64 (((b - a : Nat) : Int) / 4)) (quo_int (by omega) (by decide) (by omega)) (T.pw 24 ((((b - a : Nat) : Int) / 4) * 2) (T.pw 25 ((a : Int) + ((((b - a : Nat) : Int) / 4) * 2)) (T.pe 11 (.int .i64 ((a : Int) + ((((b - a : Nat) : Int) / 4) * 2))) (.int .i64 ((a + (((b - a) / 4) * 2) : Nat) : Int)) (int_eq (by omega)) (T.nil (QN.seq (W.seq (W.rg od6 (T.pi 26 a (T.pi 27 ((b - a : Nat) : Int) (T.pe 28 (.int .i64 (IntKind.i64.wrap (((b - a : Nat) : Int).tdiv 4))) (.int .i64 (((b - a : Nat) : Int) / 4)) (quo_int (by omega) (by decide) (by omega)) (T.pw 29 ((((b - a : Nat) : Int) / 4) * 3) (T.pw 30 ((a : Int) + ((((b - a : Nat) : Int) / 4) * 3)) (T.pe 12 (.int .i64 ((a : Int) + ((((b - a : Nat) : Int) / 4) * 3))) (.int .i64 ((a + (((b - a) / 4) * 3) : Nat) : Int)) (int_eq (by omega)) (T.nil (QN.seq (W.seq (W.seq (W.rg od2 (T.pi 31 ((b - a : Nat) : Int) (T.pb 32 (decide (8 ≤ ((b - a : Nat) : Int))) (T.nil (QN.seq (W.cd (decide (8 ≤ ((b - a : Nat) : Int))) (fun h3 => ?_) (fun h3 => ?_))))))))))))))))))))))))))))))))))))))))))))))))))))))))))))
 ·
  have h3' := of_decide_eq_true h3
  refine W.seq (W.seq (W.rg od2 (T.pi 33 ((b - a : Nat) : Int) (T.pb 34 (decide (50 ≤ ((b - a : Nat) : Int))) (T.nil (QN.seq (W.cd (decide (50 ≤ ((b - a : Nat) : Int))) (fun h4 => ?_) (fun h4 => ?_))))))))
  ·
   have h4' := of_decide_eq_true h4
   refine W.seq (W.rg od4 (T.lr false 35 (LS kf lb sf sb) 116 b1 0 (fun w h => St.rangeM h (LS kf lb sf sb) mm1 (by kernel_rfl)) (T.pi 36 ((a + (((b - a) / 4) * 1) : Nat) : Int) (T.callG (β := Nat × Int) 37 132 #[.agg (LS kf lb sf sb), .int .i64 ((a + (((b - a) / 4) * 1) : Nat) : Int), .pointer (some ⟨b2, 0, none⟩)] (fun gs => .int .i64 (gs.1 : Int)) (fun gs => St w00 ((g, Obj.cells (rowb d tail) ty (0, 0)) :: ((b2, Obj.cells #[.int .i64 gs.2] 3 (0, 0)) :: ((b1, Obj.cells (LS kf lb sf sb) 116 (0, 0)) :: (H' ++ H0))))) (fun gs => ((a + (((b - a) / 4) * 1)) ≤ gs.1 + 1 ∧ gs.1 ≤ (a + (((b - a) / 4) * 1)) + 1) ∧ 0 ≤ gs.2 ∧ gs.2 ≤ 0 + 3) (by kernel_rfl) (by kernel_rfl) ent132 ?_ tv3 ?_))))
   · exact fun w hw => medAdj_c hS hn d (a + (((b - a) / 4) * 1)) (by first | assumption | (simp only [Sort.size_swp]; assumption)) (by omega) (by omega)  b2 0 (by omega) (by omega) ((b1, Obj.cells (LS kf lb sf sb) 116 (0, 0)) :: H') w (show St w00 ((g, Obj.cells (rowb d tail) ty (0, 0)) :: ((b2, Obj.cells #[.int .i64 0] 3 (0, 0)) :: ((b1, Obj.cells (LS kf lb sf sb) 116 (0, 0)) :: (H' ++ H0)))) w from (hw.perm (pm2.trans ((pm0.trans (pm0.cons _)).cons _))))
   rintro ⟨x5, s6⟩ hp_
   have hp7 : ((a + (((b - a) / 4) * 1)) ≤ x5 + 1 ∧ x5 ≤ (a + (((b - a) / 4) * 1)) + 1) ∧ 0 ≤ s6 ∧ s6 ≤ 0 + 3 := hp_
   refine T.pi 10 x5 (T.nil (QN.seq (W.seq (W.rg od4 (T.lr false 38 (LS kf lb sf sb) 116 b1 0 (fun w h => St.rangeM h (LS kf lb sf sb) mm2 (by kernel_rfl)) (T.pi 39 ((a + (((b - a) / 4) * 2) : Nat) : Int) (T.callG (β := Nat × Int) 40 132 #[.agg (LS kf lb sf sb), .int .i64 ((a + (((b - a) / 4) * 2) : Nat) : Int), .pointer (some ⟨b2, 0, none⟩)] (fun gs => .int .i64 (gs.1 : Int)) (fun gs => St w00 ((g, Obj.cells (rowb d tail) ty (0, 0)) :: ((b2, Obj.cells #[.int .i64 gs.2] 3 (0, 0)) :: ((b1, Obj.cells (LS kf lb sf sb) 116 (0, 0)) :: (H' ++ H0))))) (fun gs => ((a + (((b - a) / 4) * 2)) ≤ gs.1 + 1 ∧ gs.1 ≤ (a + (((b - a) / 4) * 2)) + 1) ∧ 0 ≤ gs.2 ∧ gs.2 ≤ s6 + 3) (by kernel_rfl) (by kernel_rfl) ent132 ?_ tv3 ?_)))))))
   · exact fun w hw => medAdj_c hS hn d (a + (((b - a) / 4) * 2)) (by first | assumption | (simp only [Sort.size_swp]; assumption)) (by omega) (by omega)  b2 s6 (by omega) (by omega) ((b1, Obj.cells (LS kf lb sf sb) 116 (0, 0)) :: H') w (show St w00 ((g, Obj.cells (rowb d tail) ty (0, 0)) :: ((b2, Obj.cells #[.int .i64 s6] 3 (0, 0)) :: ((b1, Obj.cells (LS kf lb sf sb) 116 (0, 0)) :: (H' ++ H0)))) w from hw)
   rintro ⟨x8, s9⟩ hp_
   have hp10 : ((a + (((b - a) / 4) * 2)) ≤ x8 + 1 ∧ x8 ≤ (a + (((b - a) / 4) * 2)) + 1) ∧ 0 ≤ s9 ∧ s9 ≤ s6 + 3 := hp_
   refine T.pi 11 x8 (T.nil (QN.seq (W.rg od4 (T.lr false 41 (LS kf lb sf sb) 116 b1 0 (fun w h => St.rangeM h (LS kf lb sf sb) mm2 (by kernel_rfl)) (T.pi 42 ((a + (((b - a) / 4) * 3) : Nat) : Int) (T.callG (β := Nat × Int) 43 132 #[.agg (LS kf lb sf sb), .int .i64 ((a + (((b - a) / 4) * 3) : Nat) : Int), .pointer (some ⟨b2, 0, none⟩)] (fun gs => .int .i64 (gs.1 : Int)) (fun gs => St w00 ((g, Obj.cells (rowb d tail) ty (0, 0)) :: ((b2, Obj.cells #[.int .i64 gs.2] 3 (0, 0)) :: ((b1, Obj.cells (LS kf lb sf sb) 116 (0, 0)) :: (H' ++ H0))))) (fun gs => ((a + (((b - a) / 4) * 3)) ≤ gs.1 + 1 ∧ gs.1 ≤ (a + (((b - a) / 4) * 3)) + 1) ∧ 0 ≤ gs.2 ∧ gs.2 ≤ s9 + 3) (by kernel_rfl) (by kernel_rfl) ent132 ?_ tv3 ?_))))))
   · exact fun w hw => medAdj_c hS hn d (a + (((b - a) / 4) * 3)) (by first | assumption | (simp only [Sort.size_swp]; assumption)) (by omega) (by omega)  b2 s9 (by omega) (by omega) ((b1, Obj.cells (LS kf lb sf sb) 116 (0, 0)) :: H') w (show St w00 ((g, Obj.cells (rowb d tail) ty (0, 0)) :: ((b2, Obj.cells #[.int .i64 s9] 3 (0, 0)) :: ((b1, Obj.cells (LS kf lb sf sb) 116 (0, 0)) :: (H' ++ H0)))) w from hw)
   rintro ⟨x11, s12⟩ hp_
   have hp13 : ((a + (((b - a) / 4) * 3)) ≤ x11 + 1 ∧ x11 ≤ (a + (((b - a) / 4) * 3)) + 1) ∧ 0 ≤ s12 ∧ s12 ≤ s9 + 3 := hp_
   refine T.pi 12 x11 (T.nil (QN.seq (W.rg od6 (T.lr false 44 (LS kf lb sf sb) 116 b1 0 (fun w h => St.rangeM h (LS kf lb sf sb) mm2 (by kernel_rfl)) (T.pi 45 x5 (T.pi 46 x8 (T.pi 47 x11 (T.callG (β := Nat × Int) 48 133 #[.agg (LS kf lb sf sb), .int .i64 x5, .int .i64 x8, .int .i64 x11, .pointer (some ⟨b2, 0, none⟩)] (fun gs => .int .i64 (gs.1 : Int)) (fun gs => St w00 ((g, Obj.cells (rowb d tail) ty (0, 0)) :: ((b2, Obj.cells #[.int .i64 gs.2] 3 (0, 0)) :: ((b1, Obj.cells (LS kf lb sf sb) 116 (0, 0)) :: (H' ++ H0))))) (fun gs => (gs.1 = x5 ∨ gs.1 = x8 ∨ gs.1 = x11) ∧ 0 ≤ gs.2 ∧ gs.2 ≤ s12 + 3) (by kernel_rfl) (by kernel_rfl) ent133 ?_ tv3 ?_))))))))
   · exact fun w hw => median_c hS hn d x5 x8 x11 (by first | assumption | (simp only [Sort.size_swp]; assumption)) (by omega) (by omega) (by omega)  b2 s12 (by omega) (by omega) ((b1, Obj.cells (LS kf lb sf sb) 116 (0, 0)) :: H') w (show St w00 ((g, Obj.cells (rowb d tail) ty (0, 0)) :: ((b2, Obj.cells #[.int .i64 s12] 3 (0, 0)) :: ((b1, Obj.cells (LS kf lb sf sb) 116 (0, 0)) :: (H' ++ H0)))) w from hw)
   rintro ⟨x14, s15⟩ hp_
   have hp16 : (x14 = x5 ∨ x14 = x8 ∨ x14 = x11) ∧ 0 ≤ s15 ∧ s15 ≤ s12 + 3 := hp_
   refine T.pi 11 x14 (T.nil (QN.seq (W.seq (W.rg od1 (T.ld false 49 (.int .i64 s15) 3 b2 0 (fun w h => St.cellM h mm1 (by kernel_rfl)) (T.nil (QN.seq (W.block (W.seq (W.rg od2 (T.pb 52 (s15 == 0) (T.pb 51 (s15 == 0) (T.nil (QN.seq (W.cd (s15 == 0) (fun h17 => ?_) (fun h17 => ?_))))))))))))))))
   ·
    have h17' := eq_of_beq h17
    refine W.seq (W.rg od3 (T.pi 53 x14 (T.pi 6 x14 (T.pi 7 1 (T.nil (QN.seq (W.ret (QN.blkRet (QN.done2 (.inl rfl) 6 7 (.int .i64 x14) (.int .i64 1) rfl (by kernel_rfl) (by kernel_rfl) (fun w hw => ?_))))))))))
    exact (show ∃ gs : Nat × Int, _ from ⟨(x14, 1), (by show a ≤ x14 ∧ x14 < b; omega), rfl, ((hw.perm pm0).part ((((List.Sublist.refl _).cons _).cons _).cons_cons _))⟩)
   ·
    have h17' := ne_of_beq_false h17
    refine W.seq (W.rg od2 (T.pb 55 (s15 == 12) (T.pb 54 (s15 == 12) (T.nil (QN.seq (W.cd (s15 == 12) (fun h18 => ?_) (fun h18 => ?_)))))))
    ·
     have h18' := eq_of_beq h18
     refine W.seq (W.rg od3 (T.pi 56 x14 (T.pi 6 x14 (T.pi 7 2 (T.nil (QN.seq (W.ret (QN.blkRet (QN.done2 (.inl rfl) 6 7 (.int .i64 x14) (.int .i64 2) rfl (by kernel_rfl) (by kernel_rfl) (fun w hw => ?_))))))))))
     exact (show ∃ gs : Nat × Int, _ from ⟨(x14, 2), (by show a ≤ x14 ∧ x14 < b; omega), rfl, ((hw.perm pm0).part ((((List.Sublist.refl _).cons _).cons _).cons_cons _))⟩)
    ·
     have h18' := ne_of_beq_false h18
     refine W.seq (W.rg od3 (T.pi 50 x14 (T.pi 6 x14 (T.pi 7 0 (T.nil (QN.seq (W.ret (QN.blkRet (QN.done2 (.inl rfl) 6 7 (.int .i64 x14) (.int .i64 0) rfl (by kernel_rfl) (by kernel_rfl) (fun w hw => ?_))))))))))
     exact (show ∃ gs : Nat × Int, _ from ⟨(x14, 0), (by show a ≤ x14 ∧ x14 < b; omega), rfl, ((hw.perm pm0).part ((((List.Sublist.refl _).cons _).cons _).cons_cons _))⟩)
  ·
   have h4' := of_decide_eq_false h4
   refine W.skip (QN.seq (W.rg od6 (T.lr false 44 (LS kf lb sf sb) 116 b1 0 (fun w h => St.rangeM h (LS kf lb sf sb) mm1 (by kernel_rfl)) (T.pi 45 ((a + (((b - a) / 4) * 1) : Nat) : Int) (T.pi 46 ((a + (((b - a) / 4) * 2) : Nat) : Int) (T.pi 47 ((a + (((b - a) / 4) * 3) : Nat) : Int) (T.callG (β := Nat × Int) 48 133 #[.agg (LS kf lb sf sb), .int .i64 ((a + (((b - a) / 4) * 1) : Nat) : Int), .int .i64 ((a + (((b - a) / 4) * 2) : Nat) : Int), .int .i64 ((a + (((b - a) / 4) * 3) : Nat) : Int), .pointer (some ⟨b2, 0, none⟩)] (fun gs => .int .i64 (gs.1 : Int)) (fun gs => St w00 ((g, Obj.cells (rowb d tail) ty (0, 0)) :: ((b2, Obj.cells #[.int .i64 gs.2] 3 (0, 0)) :: ((b1, Obj.cells (LS kf lb sf sb) 116 (0, 0)) :: (H' ++ H0))))) (fun gs => (gs.1 = (a + (((b - a) / 4) * 1)) ∨ gs.1 = (a + (((b - a) / 4) * 2)) ∨ gs.1 = (a + (((b - a) / 4) * 3))) ∧ 0 ≤ gs.2 ∧ gs.2 ≤ 0 + 3) (by kernel_rfl) (by kernel_rfl) ent133 ?_ tv3 ?_)))))))
   · exact fun w hw => median_c hS hn d (a + (((b - a) / 4) * 1)) (a + (((b - a) / 4) * 2)) (a + (((b - a) / 4) * 3)) (by first | assumption | (simp only [Sort.size_swp]; assumption)) (by omega) (by omega) (by omega)  b2 0 (by omega) (by omega) ((b1, Obj.cells (LS kf lb sf sb) 116 (0, 0)) :: H') w (show St w00 ((g, Obj.cells (rowb d tail) ty (0, 0)) :: ((b2, Obj.cells #[.int .i64 0] 3 (0, 0)) :: ((b1, Obj.cells (LS kf lb sf sb) 116 (0, 0)) :: (H' ++ H0)))) w from (hw.perm (pm2.trans ((pm0.trans (pm0.cons _)).cons _))))
   rintro ⟨x19, s20⟩ hp_
   have hp21 : (x19 = (a + (((b - a) / 4) * 1)) ∨ x19 = (a + (((b - a) / 4) * 2)) ∨ x19 = (a + (((b - a) / 4) * 3))) ∧ 0 ≤ s20 ∧ s20 ≤ 0 + 3 := hp_
   refine T.pi 11 x19 (T.nil (QN.seq (W.seq (W.rg od1 (T.ld false 49 (.int .i64 s20) 3 b2 0 (fun w h => St.cellM h mm1 (by kernel_rfl)) (T.nil (QN.seq (W.block (W.seq (W.rg od2 (T.pb 52 (s20 == 0) (T.pb 51 (s20 == 0) (T.nil (QN.seq (W.cd (s20 == 0) (fun h22 => ?_) (fun h22 => ?_))))))))))))))))
   ·
    have h22' := eq_of_beq h22
    refine W.seq (W.rg od3 (T.pi 53 x19 (T.pi 6 x19 (T.pi 7 1 (T.nil (QN.seq (W.ret (QN.blkRet (QN.done2 (.inl rfl) 6 7 (.int .i64 x19) (.int .i64 1) rfl (by kernel_rfl) (by kernel_rfl) (fun w hw => ?_))))))))))
    exact (show ∃ gs : Nat × Int, _ from ⟨(x19, 1), (by show a ≤ x19 ∧ x19 < b; omega), rfl, ((hw.perm pm0).part ((((List.Sublist.refl _).cons _).cons _).cons_cons _))⟩)
   ·
    have h22' := ne_of_beq_false h22
    refine W.seq (W.rg od2 (T.pb 55 (s20 == 12) (T.pb 54 (s20 == 12) (T.nil (QN.seq (W.cd (s20 == 12) (fun h23 => ?_) (fun h23 => ?_)))))))
    ·
     have h23' := eq_of_beq h23
     refine W.seq (W.rg od3 (T.pi 56 x19 (T.pi 6 x19 (T.pi 7 2 (T.nil (QN.seq (W.ret (QN.blkRet (QN.done2 (.inl rfl) 6 7 (.int .i64 x19) (.int .i64 2) rfl (by kernel_rfl) (by kernel_rfl) (fun w hw => ?_))))))))))
     exact (show ∃ gs : Nat × Int, _ from ⟨(x19, 2), (by show a ≤ x19 ∧ x19 < b; omega), rfl, ((hw.perm pm0).part ((((List.Sublist.refl _).cons _).cons _).cons_cons _))⟩)
    ·
     have h23' := ne_of_beq_false h23
     refine W.seq (W.rg od3 (T.pi 50 x19 (T.pi 6 x19 (T.pi 7 0 (T.nil (QN.seq (W.ret (QN.blkRet (QN.done2 (.inl rfl) 6 7 (.int .i64 x19) (.int .i64 0) rfl (by kernel_rfl) (by kernel_rfl) (fun w hw => ?_))))))))))
     exact (show ∃ gs : Nat × Int, _ from ⟨(x19, 0), (by show a ≤ x19 ∧ x19 < b; omega), rfl, ((hw.perm pm0).part ((((List.Sublist.refl _).cons _).cons _).cons_cons _))⟩)
 ·
  have h3' := of_decide_eq_false h3
  refine W.skip (QN.seq (W.seq (W.rg od1 (T.ld false 49 (.int .i64 0) 3 b2 0 (fun w h => St.cellM h mm0 (by kernel_rfl)) (T.nil (QN.seq (W.block (W.seq (W.rg od2 (T.pb 52 (0 == 0) (T.pb 51 (0 == 0) (T.nil (QN.seq (W.cd (0 == 0) (fun h24 => ?_) (fun h24 => ?_)))))))))))))))
  ·
   have h24' := eq_of_beq h24
   refine W.seq (W.rg od3 (T.pi 53 ((a + (((b - a) / 4) * 2) : Nat) : Int) (T.pi 6 ((a + (((b - a) / 4) * 2) : Nat) : Int) (T.pi 7 1 (T.nil (QN.seq (W.ret (QN.blkRet (QN.done2 (.inl rfl) 6 7 (.int .i64 ((a + (((b - a) / 4) * 2) : Nat) : Int)) (.int .i64 1) rfl (by kernel_rfl) (by kernel_rfl) (fun w hw => ?_))))))))))
   exact (show ∃ gs : Nat × Int, _ from ⟨((a + (((b - a) / 4) * 2)), 1), (by show a ≤ (a + (((b - a) / 4) * 2)) ∧ (a + (((b - a) / 4) * 2)) < b; omega), rfl, ((hw.perm pm2).part ((((List.Sublist.refl _).cons _).cons _).cons_cons _))⟩)
  ·
   have h24' := ne_of_beq_false h24
   refine W.seq (W.rg od2 (T.pb 55 (0 == 12) (T.pb 54 (0 == 12) (T.nil (QN.seq (W.cd (0 == 12) (fun h25 => ?_) (fun h25 => ?_)))))))
   ·
    have h25' := eq_of_beq h25
    refine W.seq (W.rg od3 (T.pi 56 ((a + (((b - a) / 4) * 2) : Nat) : Int) (T.pi 6 ((a + (((b - a) / 4) * 2) : Nat) : Int) (T.pi 7 2 (T.nil (QN.seq (W.ret (QN.blkRet (QN.done2 (.inl rfl) 6 7 (.int .i64 ((a + (((b - a) / 4) * 2) : Nat) : Int)) (.int .i64 2) rfl (by kernel_rfl) (by kernel_rfl) (fun w hw => ?_))))))))))
    exact (show ∃ gs : Nat × Int, _ from ⟨((a + (((b - a) / 4) * 2)), 2), (by show a ≤ (a + (((b - a) / 4) * 2)) ∧ (a + (((b - a) / 4) * 2)) < b; omega), rfl, ((hw.perm pm2).part ((((List.Sublist.refl _).cons _).cons _).cons_cons _))⟩)
   ·
    have h25' := ne_of_beq_false h25
    refine W.seq (W.rg od3 (T.pi 50 ((a + (((b - a) / 4) * 2) : Nat) : Int) (T.pi 6 ((a + (((b - a) / 4) * 2) : Nat) : Int) (T.pi 7 0 (T.nil (QN.seq (W.ret (QN.blkRet (QN.done2 (.inl rfl) 6 7 (.int .i64 ((a + (((b - a) / 4) * 2) : Nat) : Int)) (.int .i64 0) rfl (by kernel_rfl) (by kernel_rfl) (fun w hw => ?_))))))))))
    exact (show ∃ gs : Nat × Int, _ from ⟨((a + (((b - a) / 4) * 2)), 0), (by show a ≤ (a + (((b - a) / 4) * 2)) ∧ (a + (((b - a) / 4) * 2)) < b; omega), rfl, ((hw.perm pm2).part ((((List.Sublist.refl _).cons _).cons _).cons_cons _))⟩)
end Go.Proofs.Ytphnfhonmbbddaa

/- Go's sort over a row, part 4: the patterns. -/
namespace Go.Proofs.Ytphnfhonmbbddaa
open Go Go.RowKit
set_option linter.unusedVariables false

theorem bl_lt (x : Nat) : x < 2 ^ Sort.bitsLen x := by
  unfold Sort.bitsLen
  split
  · omega
  · exact Nat.lt_log2_self
theorem bl_le (x : Nat) (h : 0 < x) : 2 ^ Sort.bitsLen x ≤ 2 * x := by
  unfold Sort.bitsLen
  rw [if_neg (by omega), Nat.pow_succ]
  have := Nat.log2_self_le (n := x) (by omega)
  omega
theorem bl_bd (x k : Nat) (h : x < 2 ^ k) : Sort.bitsLen x ≤ k := by
  unfold Sort.bitsLen
  split
  · omega
  · rename_i h0
    have := (Nat.log2_lt h0).2 h
    omega
theorem bl_256 (x : Nat) (h : 256 ≤ x) : 8 + Sort.bitsLen (x / 256) = Sort.bitsLen x := by
  have h1 : 0 < x / 256 := by omega
  have a1 := bl_lt x
  have a2 := bl_le x (by omega)
  have b1 := bl_lt (x / 256)
  have b2 := bl_le (x / 256) h1
  have e1 : 2 ^ (8 + Sort.bitsLen (x / 256)) = 256 * 2 ^ Sort.bitsLen (x / 256) := by rw [Nat.pow_add]
  by_cases hc : 8 + Sort.bitsLen (x / 256) = Sort.bitsLen x
  · exact hc
  · exfalso
    rcases Nat.lt_or_gt_of_ne hc with hlt | hgt
    · have : 2 ^ (8 + Sort.bitsLen (x / 256) + 1) ≤ 2 ^ Sort.bitsLen x := Nat.pow_le_pow_right (by omega) hlt
      rw [Nat.pow_succ, e1] at this
      omega
    · have : 2 ^ (Sort.bitsLen x + 1) ≤ 2 ^ (8 + Sort.bitsLen (x / 256)) := Nat.pow_le_pow_right (by omega) hgt
      rw [Nat.pow_succ, e1] at this
      omega
theorem and_u64 (x y : Int) (h0 : 0 ≤ y) (h1 : y < 18446744073709551616) : ∃ k : Nat, bits .and .u64 x y = (k : Int) ∧ (k : Int) ≤ y := by
  refine ⟨(BitVec.ofInt 64 x &&& BitVec.ofInt 64 y).toNat, ?_, ?_⟩
  · show IntKind.u64.wrap _ = _
    rw [IntKind.wrap_u64]
    have := (BitVec.ofInt 64 x &&& BitVec.ofInt 64 y).isLt
    show ((BitVec.ofInt 64 x &&& BitVec.ofInt 64 y).toNat : Int) % 18446744073709551616 = _
    omega
  · have : (BitVec.ofInt 64 x &&& BitVec.ofInt 64 y).toNat ≤ (BitVec.ofInt 64 y).toNat := by rw [BitVec.toNat_and]; exact Nat.and_le_right
    have e : ((BitVec.ofInt 64 y).toNat : Int) = y := by rw [BitVec.toNat_ofInt]; simp; omega
    omega
theorem xor_u64 (x y : Int) : 0 ≤ bits .xor .u64 x y ∧ bits .xor .u64 x y < 18446744073709551616 := by
  show 0 ≤ IntKind.u64.wrap _ ∧ IntKind.u64.wrap _ < _
  rw [IntKind.wrap_u64]
  omega
theorem fdiv256 (x : Nat) : ((x : Int)).fdiv (2 ^ 8) = ((x / 256 : Nat) : Int) := by
  rw [Int.fdiv_eq_ediv_of_nonneg _ (by decide)]; simp
set_option maxRecDepth 100000 in
set_option maxHeartbeats 2000000 in
theorem len64_c (x : Nat) (hx : x < 65536) (w : World) : Calls Try.prog 101 #[.int .u64 (x : Int)] w (fun rr w' => rr = .returned (.int .i64 ((Sort.bitsLen x : Nat) : Int)) ∧ Below w.heap.size w w') := by
 refine calls_W (n := 25) Try.func101 rfl [(0, .int .u64 (x : Int))] rfl ⟨by kernel_rfl, by kernel_rfl⟩ (W.weak (Ψ := St w []) (fun w' h => by rw [h]; exact St.start w) (W.seq (W.rg od1 (T.pi 2 0 (T.nil (QN.seq (W.seq (W.seq (W.rg od2 (T.pu 3 (.int .u64 (x : Int)) (T.pb 4 (decide (4294967296 ≤ (x : Int))) (T.nil (QN.seq (W.cd (decide (4294967296 ≤ (x : Int))) (fun h1 => ?_) (fun h1 => ?_)))))))))))))))
 · exact absurd (of_decide_eq_true h1) (by omega)
 ·
  have h1' := of_decide_eq_false h1
  refine W.skip (QN.seq (W.seq (W.seq (W.rg od2 (T.pu 7 (.int .u64 (x : Int)) (T.pb 8 (decide (65536 ≤ (x : Int))) (T.nil (QN.seq (W.cd (decide (65536 ≤ (x : Int))) (fun h2 => ?_) (fun h2 => ?_))))))))))
  · exact absurd (of_decide_eq_true h2) (by omega)
  ·
   have h2' := of_decide_eq_false h2
   refine W.skip (QN.seq (W.seq (W.seq (W.rg od2 (T.pu 13 (.int .u64 (x : Int)) (T.pb 14 (decide (256 ≤ (x : Int))) (T.nil (QN.seq (W.cd (decide (256 ≤ (x : Int))) (fun h3 => ?_) (fun h3 => ?_))))))))))
   ·
    have h3' := of_decide_eq_true h3
    refine W.seq (W.rg od3 (T.pu 15 (.int .u64 (x : Int)) (T.pe 16 (.int .u64 ((x : Int).fdiv (2 ^ 8))) (.int .u64 ((x / 256 : Nat) : Int)) (int_eq (fdiv256 x)) (T.pu 0 (.int .u64 ((x / 256 : Nat) : Int)) (T.nil (QN.seq (W.rg od3 (T.pi 17 0 (T.pw 18 (0 + 8) (T.pi 2 (0 + 8) (T.nil (QN.seq (W.seq (W.rg od7 (T.pi 19 (0 + 8) (T.pu 20 (.int .u64 ((x / 256 : Nat) : Int)) (T.pe 21 (.int .u8 (IntKind.u8.wrap ((x / 256 : Nat) : Int))) (.int .u8 ((x / 256 : Nat) : Int)) (wrap8_int (by omega) (by omega)) (T.indexS 22 9 Sort.bitsLen .u8 ((x / 256 : Nat) : Int) (x / 256) 256 (by kernel_rfl) (by kernel_rfl) (by kernel_rfl) (by kernel_rfl) (by omega) (by omega) ?_))))))))))))))))))
    have hbl := bl_bd (x / 256) 8 (by omega)
    refine T.pw 23 ((Sort.bitsLen (x / 256) : Nat) : Int) (T.pw 24 ((0 + 8) + ((Sort.bitsLen (x / 256) : Nat) : Int)) (T.pi 2 ((0 + 8) + ((Sort.bitsLen (x / 256) : Nat) : Int)) (T.nil (QN.seq (W.ret (QN.done (.inl rfl) 2 (.int .i64 ((0 + 8) + ((Sort.bitsLen (x / 256) : Nat) : Int))) rfl (by kernel_rfl) (fun w hw => ⟨?_, hw.below⟩)))))))
    exact ret_int (by have := bl_256 x (by omega); omega)
   ·
    have h3' := of_decide_eq_false h3
    refine W.skip (QN.seq (W.seq (W.rg od7 (T.pi 19 0 (T.pu 20 (.int .u64 (x : Int)) (T.pe 21 (.int .u8 (IntKind.u8.wrap (x : Int))) (.int .u8 (x : Int)) (wrap8_int (by omega) (by omega)) (T.indexS 22 9 Sort.bitsLen .u8 (x : Int) x 256 (by kernel_rfl) (by kernel_rfl) (by kernel_rfl) (by kernel_rfl) (by omega) (by omega) ?_)))))))
    have hbl := bl_bd x 8 (by omega)
    refine T.pw 23 ((Sort.bitsLen x : Nat) : Int) (T.pw 24 (0 + ((Sort.bitsLen x : Nat) : Int)) (T.pi 2 (0 + ((Sort.bitsLen x : Nat) : Int)) (T.nil (QN.seq (W.ret (QN.done (.inl rfl) 2 (.int .i64 (0 + ((Sort.bitsLen x : Nat) : Int))) rfl (by kernel_rfl) (fun w hw => ⟨?_, hw.below⟩)))))))
    exact ret_int (by omega)
set_option maxRecDepth 100000 in
set_option maxHeartbeats 2000000 in
theorem len_c (x : Nat) (hx : x < 65536) (w : World) : Calls Try.prog 72 #[.int .u64 (x : Int)] w (fun rr w' => rr = .returned (.int .i64 ((Sort.bitsLen x : Nat) : Int)) ∧ Below w.heap.size w w') := by
 refine calls_W (n := 8) Try.func72 rfl [(0, .int .u64 (x : Int))] rfl ⟨by kernel_rfl, by kernel_rfl⟩ (W.weak (Ψ := St w []) (fun w' h => by rw [h]; exact St.start w) (W.seq (W.rg od1 (T.pi 2 0 (T.nil (QN.seq (W.seq (W.cd false (fun h1 => ?_) (fun h1 => ?_)))))))))
 · exact absurd h1 (by decide)
 ·
  refine W.skip (QN.seq (W.seq (W.rg od3 (T.pu 6 (.int .u64 (x : Int)) (T.cp 7 101 #[.int .u64 (x : Int)] (.int .i64 ((Sort.bitsLen x : Nat) : Int)) ent101 (fun w hw => len64_c _ (by omega) w) tv2 (T.pi 2 ((Sort.bitsLen x : Nat) : Int) (T.nil (QN.seq (W.ret (QN.done (.inl rfl) 2 (.int .i64 ((Sort.bitsLen x : Nat) : Int)) rfl (by kernel_rfl) (fun w hw => ⟨?_, hw.below⟩)))))))))))
  exact rfl
set_option maxRecDepth 100000 in
set_option maxHeartbeats 2000000 in
theorem np2_c (x : Nat) (hx : x < 65536) (w : World) : Calls Try.prog 130 #[.int .i64 x] w (fun rr w' => rr = .returned (.int .u64 ((2 ^ Sort.bitsLen x : Nat) : Int)) ∧ Below w.heap.size w w') := by
 have hbl := bl_bd x 16 hx
 refine calls_W (n := 10) Try.func130 rfl [(0, .int .i64 x)] rfl ⟨by kernel_rfl, by kernel_rfl⟩ (W.weak (Ψ := St w []) (fun w' h => by rw [h]; exact St.start w) (W.seq (W.rg od1 (T.pu 2 (.int .u64 0) (T.nil (QN.seq (W.seq (W.rg od5 (T.pi 4 x (T.pe 5 (.int .u64 (IntKind.u64.wrap (x : Int))) (.int .u64 (x : Int)) (wrapu_int (by omega) (by omega)) (T.cp 6 72 #[.int .u64 (x : Int)] (.int .i64 ((Sort.bitsLen x : Nat) : Int)) ent72 (fun w hw => len_c _ (by omega) w) tv2 (T.pe 7 (.int .u64 (IntKind.u64.wrap ((Sort.bitsLen x : Nat) : Int))) (.int .u64 ((Sort.bitsLen x : Nat) : Int)) (wrapu_int (by omega) (by omega)) (T.pu 3 (.int .u64 ((Sort.bitsLen x : Nat) : Int)) (T.nil (QN.seq (W.seq (W.rg od3 (T.pu 8 (.int .u64 ((Sort.bitsLen x : Nat) : Int)) (T.shl 9 .u64 .u64 1 ((Sort.bitsLen x : Nat) : Int) (.int .u64 (2 ^ ((Sort.bitsLen x : Nat) : Int).toNat)) (by kernel_rfl) (by kernel_rfl) (by omega) (shl_oneu (by omega) (by omega)) (T.pu 2 (.int .u64 (2 ^ ((Sort.bitsLen x : Nat) : Int).toNat)) (T.nil (QN.seq (W.ret (QN.done (.inl rfl) 2 (.int .u64 (2 ^ ((Sort.bitsLen x : Nat) : Int).toNat)) rfl (by kernel_rfl) (fun w hw => ⟨?_, hw.below⟩)))))))))))))))))))))))))
 exact ret_int (by simp)
set_option maxRecDepth 100000 in
set_option maxHeartbeats 2000000 in
theorem next_c {w00 : World} (rb : Nat) (r : Int) (HT : List (Nat × Obj)) (w : World) (hst : St w00 ((rb, .cells #[.int .u64 r] 141 (0, 0)) :: HT) w) : Calls Try.prog 131 #[.pointer (some ⟨rb, 0, none⟩)] w (fun rr w' => ∃ gs : Int, (0 ≤ gs ∧ gs < 18446744073709551616) ∧ rr = .returned (.int .u64 gs) ∧ St w00 ((rb, .cells #[.int .u64 gs] 141 (0, 0)) :: HT) w') := by
 refine calls_W (n := 33) Try.func131 rfl [(0, .pointer (some ⟨rb, 0, none⟩))] rfl ⟨by kernel_rfl, by kernel_rfl⟩ (W.weak (Ψ := St w00 ((rb, Obj.cells #[.int .u64 r] 141 (0, 0)) :: HT)) (fun w' h => by rw [h]; exact hst) (W.seq (W.rg od1 (T.pu 2 (.int .u64 0) (T.nil (QN.seq (W.seq (W.still (Ψ := St w00 ((rb, Obj.cells #[.int .u64 r] 141 (0, 0)) :: HT)) 8 [0, 1, 2, 3, 4, 5, 6, 7] (by kernel_rfl) hmx (by kernel_rfl) (by kernel_rfl) (fun w h => h.drew) (Hd.pure 3 (.pointer (some ⟨rb, 0, none⟩)) (by kernel_rfl) (fun w => by kernel_rfl) (Hd.pure 4 (.pointer (some ⟨rb, 0, none⟩)) (by kernel_rfl) (fun w => by kernel_rfl) (Hd.load false 5 (.int .u64 r) 141 rb 0 (by kernel_rfl) (by kernel_rfl) (by kernel_rfl) (fun w h => St.cellM h mm0 (by kernel_rfl)) (Hd.pure 6 (.pointer (some ⟨rb, 0, none⟩)) (by kernel_rfl) (fun w => by kernel_rfl) (Hd.pure 7 (.pointer (some ⟨rb, 0, none⟩)) (by kernel_rfl) (fun w => by kernel_rfl) (Hd.load false 8 (.int .u64 r) 141 rb 0 (by kernel_rfl) (by kernel_rfl) (by kernel_rfl) (fun w h => St.cellM h mm0 (by kernel_rfl)) (Hd.pure 9 (.int .u64 (IntKind.u64.wrap (r * 2 ^ 13))) (by kernel_rfl) (fun w => by kernel_rfl) (Hd.pure 10 (.int .u64 (bits .xor .u64 r (IntKind.u64.wrap (r * 2 ^ 13)))) (by kernel_rfl) (fun w => by kernel_rfl) (Hd.done [(8, false), (9, false)] (by kernel_rfl) (T.pu 11 (.pointer (some ⟨rb, 0, none⟩)) (T.sp 141 rb 0 (.int .u64 (bits .xor .u64 r (IntKind.u64.wrap (r * 2 ^ 13)))) #[.int .u64 r] #[.int .u64 (bits .xor .u64 r (IntKind.u64.wrap (r * 2 ^ 13)))] 141 pm0 tv2 (T.nil (QN.seq (W.seq (W.still (Ψ := St w00 ((rb, Obj.cells #[.int .u64 (bits .xor .u64 r (IntKind.u64.wrap (r * 2 ^ 13)))] 141 (0, 0)) :: HT)) 8 [0, 1, 2, 3, 4, 5, 6, 7] (by kernel_rfl) hmx (by kernel_rfl) (by kernel_rfl) (fun w h => h.drew) (Hd.pure 12 (.pointer (some ⟨rb, 0, none⟩)) (by kernel_rfl) (fun w => by kernel_rfl) (Hd.pure 13 (.pointer (some ⟨rb, 0, none⟩)) (by kernel_rfl) (fun w => by kernel_rfl) (Hd.load false 14 (.int .u64 (bits .xor .u64 r (IntKind.u64.wrap (r * 2 ^ 13)))) 141 rb 0 (by kernel_rfl) (by kernel_rfl) (by kernel_rfl) (fun w h => St.cellM h mm0 (by kernel_rfl)) (Hd.pure 15 (.pointer (some ⟨rb, 0, none⟩)) (by kernel_rfl) (fun w => by kernel_rfl) (Hd.pure 16 (.pointer (some ⟨rb, 0, none⟩)) (by kernel_rfl) (fun w => by kernel_rfl) (Hd.load false 17 (.int .u64 (bits .xor .u64 r (IntKind.u64.wrap (r * 2 ^ 13)))) 141 rb 0 (by kernel_rfl) (by kernel_rfl) (by kernel_rfl) (fun w h => St.cellM h mm0 (by kernel_rfl)) (Hd.pure 18 (.int .u64 ((bits .xor .u64 r (IntKind.u64.wrap (r * 2 ^ 13))).fdiv (2 ^ 7))) (by kernel_rfl) (fun w => by kernel_rfl) (Hd.pure 19 (.int .u64 (bits .xor .u64 (bits .xor .u64 r (IntKind.u64.wrap (r * 2 ^ 13))) ((bits .xor .u64 r (IntKind.u64.wrap (r * 2 ^ 13))).fdiv (2 ^ 7)))) (by kernel_rfl) (fun w => by kernel_rfl) (Hd.done [(8, false), (9, false)] (by kernel_rfl) (T.pu 20 (.pointer (some ⟨rb, 0, none⟩)) (T.sp 141 rb 0 (.int .u64 (bits .xor .u64 (bits .xor .u64 r (IntKind.u64.wrap (r * 2 ^ 13))) ((bits .xor .u64 r (IntKind.u64.wrap (r * 2 ^ 13))).fdiv (2 ^ 7)))) #[.int .u64 (bits .xor .u64 r (IntKind.u64.wrap (r * 2 ^ 13)))] #[.int .u64 (bits .xor .u64 (bits .xor .u64 r (IntKind.u64.wrap (r * 2 ^ 13))) ((bits .xor .u64 r (IntKind.u64.wrap (r * 2 ^ 13))).fdiv (2 ^ 7)))] 141 pm0 tv2 (T.nil (QN.seq (W.seq (W.still (Ψ := St w00 ((rb, Obj.cells #[.int .u64 (bits .xor .u64 (bits .xor .u64 r (IntKind.u64.wrap (r * 2 ^ 13))) ((bits .xor .u64 r (IntKind.u64.wrap (r * 2 ^ 13))).fdiv (2 ^ 7)))] 141 (0, 0)) :: HT)) 8 [0, 1, 2, 3, 4, 5, 6, 7] (by kernel_rfl) hmx (by kernel_rfl) (by kernel_rfl) (fun w h => h.drew) (Hd.pure 21 (.pointer (some ⟨rb, 0, none⟩)) (by kernel_rfl) (fun w => by kernel_rfl) (Hd.pure 22 (.pointer (some ⟨rb, 0, none⟩)) (by kernel_rfl) (fun w => by kernel_rfl) (Hd.load false 23 (.int .u64 (bits .xor .u64 (bits .xor .u64 r (IntKind.u64.wrap (r * 2 ^ 13))) ((bits .xor .u64 r (IntKind.u64.wrap (r * 2 ^ 13))).fdiv (2 ^ 7)))) 141 rb 0 (by kernel_rfl) (by kernel_rfl) (by kernel_rfl) (fun w h => St.cellM h mm0 (by kernel_rfl)) (Hd.pure 24 (.pointer (some ⟨rb, 0, none⟩)) (by kernel_rfl) (fun w => by kernel_rfl) (Hd.pure 25 (.pointer (some ⟨rb, 0, none⟩)) (by kernel_rfl) (fun w => by kernel_rfl) (Hd.load false 26 (.int .u64 (bits .xor .u64 (bits .xor .u64 r (IntKind.u64.wrap (r * 2 ^ 13))) ((bits .xor .u64 r (IntKind.u64.wrap (r * 2 ^ 13))).fdiv (2 ^ 7)))) 141 rb 0 (by kernel_rfl) (by kernel_rfl) (by kernel_rfl) (fun w h => St.cellM h mm0 (by kernel_rfl)) (Hd.pure 27 (.int .u64 (IntKind.u64.wrap ((bits .xor .u64 (bits .xor .u64 r (IntKind.u64.wrap (r * 2 ^ 13))) ((bits .xor .u64 r (IntKind.u64.wrap (r * 2 ^ 13))).fdiv (2 ^ 7))) * 2 ^ 17))) (by kernel_rfl) (fun w => by kernel_rfl) (Hd.pure 28 (.int .u64 (bits .xor .u64 (bits .xor .u64 (bits .xor .u64 r (IntKind.u64.wrap (r * 2 ^ 13))) ((bits .xor .u64 r (IntKind.u64.wrap (r * 2 ^ 13))).fdiv (2 ^ 7))) (IntKind.u64.wrap ((bits .xor .u64 (bits .xor .u64 r (IntKind.u64.wrap (r * 2 ^ 13))) ((bits .xor .u64 r (IntKind.u64.wrap (r * 2 ^ 13))).fdiv (2 ^ 7))) * 2 ^ 17)))) (by kernel_rfl) (fun w => by kernel_rfl) (Hd.done [(8, false), (9, false)] (by kernel_rfl) (T.pu 29 (.pointer (some ⟨rb, 0, none⟩)) (T.sp 141 rb 0 (.int .u64 (bits .xor .u64 (bits .xor .u64 (bits .xor .u64 r (IntKind.u64.wrap (r * 2 ^ 13))) ((bits .xor .u64 r (IntKind.u64.wrap (r * 2 ^ 13))).fdiv (2 ^ 7))) (IntKind.u64.wrap ((bits .xor .u64 (bits .xor .u64 r (IntKind.u64.wrap (r * 2 ^ 13))) ((bits .xor .u64 r (IntKind.u64.wrap (r * 2 ^ 13))).fdiv (2 ^ 7))) * 2 ^ 17)))) #[.int .u64 (bits .xor .u64 (bits .xor .u64 r (IntKind.u64.wrap (r * 2 ^ 13))) ((bits .xor .u64 r (IntKind.u64.wrap (r * 2 ^ 13))).fdiv (2 ^ 7)))] #[.int .u64 (bits .xor .u64 (bits .xor .u64 (bits .xor .u64 r (IntKind.u64.wrap (r * 2 ^ 13))) ((bits .xor .u64 r (IntKind.u64.wrap (r * 2 ^ 13))).fdiv (2 ^ 7))) (IntKind.u64.wrap ((bits .xor .u64 (bits .xor .u64 r (IntKind.u64.wrap (r * 2 ^ 13))) ((bits .xor .u64 r (IntKind.u64.wrap (r * 2 ^ 13))).fdiv (2 ^ 7))) * 2 ^ 17)))] 141 pm0 tv2 (T.nil (QN.seq (W.seq (W.rg od4 (T.pu 30 (.pointer (some ⟨rb, 0, none⟩)) (T.pu 31 (.pointer (some ⟨rb, 0, none⟩)) (T.ld false 32 (.int .u64 (bits .xor .u64 (bits .xor .u64 (bits .xor .u64 r (IntKind.u64.wrap (r * 2 ^ 13))) ((bits .xor .u64 r (IntKind.u64.wrap (r * 2 ^ 13))).fdiv (2 ^ 7))) (IntKind.u64.wrap ((bits .xor .u64 (bits .xor .u64 r (IntKind.u64.wrap (r * 2 ^ 13))) ((bits .xor .u64 r (IntKind.u64.wrap (r * 2 ^ 13))).fdiv (2 ^ 7))) * 2 ^ 17)))) 141 rb 0 (fun w h => St.cellM h mm0 (by kernel_rfl)) (T.pu 2 (.int .u64 (bits .xor .u64 (bits .xor .u64 (bits .xor .u64 r (IntKind.u64.wrap (r * 2 ^ 13))) ((bits .xor .u64 r (IntKind.u64.wrap (r * 2 ^ 13))).fdiv (2 ^ 7))) (IntKind.u64.wrap ((bits .xor .u64 (bits .xor .u64 r (IntKind.u64.wrap (r * 2 ^ 13))) ((bits .xor .u64 r (IntKind.u64.wrap (r * 2 ^ 13))).fdiv (2 ^ 7))) * 2 ^ 17)))) (T.nil (QN.seq (W.ret (QN.done (.inl rfl) 2 (.int .u64 (bits .xor .u64 (bits .xor .u64 (bits .xor .u64 r (IntKind.u64.wrap (r * 2 ^ 13))) ((bits .xor .u64 r (IntKind.u64.wrap (r * 2 ^ 13))).fdiv (2 ^ 7))) (IntKind.u64.wrap ((bits .xor .u64 (bits .xor .u64 r (IntKind.u64.wrap (r * 2 ^ 13))) ((bits .xor .u64 r (IntKind.u64.wrap (r * 2 ^ 13))).fdiv (2 ^ 7))) * 2 ^ 17)))) rfl (by kernel_rfl) (fun w hw => ?_))))))))))))))))))))))))))))))))))))))))))))))))))))))))))))))
 exact ⟨_, xor_u64 _ _, rfl, hw⟩
set_option maxRecDepth 100000 in
set_option maxHeartbeats 2000000 in
theorem break_c {α : Type} [Cel α] [Inhabited α] {w00 : World} {g n : Nat} {ty : TypeId} {tail : List Value} {lt : α → α → Bool} {kf : Nat} {lb : Array Value} {sf : Nat} {sb : Array Value} {H0 : List (Nat × Obj)} (hS : SortOk Try.prog α w00 g n ty tail lt kf lb sf sb H0) (hn : n ≤ 1000) (d : Array α) (a b : Nat) (hd : d.size = n) (hab : a ≤ b) (hb : b ≤ n) (H' : List (Nat × Obj)) (w : World) (hst : St w00 ((g, .cells (rowb d tail) ty (0, 0)) :: (H' ++ H0)) w) : Calls Try.prog 104 #[.agg (LS kf lb sf sb), .int .i64 a, .int .i64 b] w (fun rr w' => ∃ gs : Array α, (Sort.PermIn a b d gs) ∧ rr = .returned (.tuple #[]) ∧ St w00 ((g, .cells (rowb gs tail) ty (0, 0)) :: (H' ++ H0)) w') := by
 have hbl := bl_bd (b - a) 16 (by omega)
 have hM0 := Nat.two_pow_pos (Sort.bitsLen (b - a))
 have hM1 : 0 < b - a → 2 ^ Sort.bitsLen (b - a) ≤ 2 * (b - a) := fun h => bl_le (b - a) h
 refine calls_W (n := 54) Try.func104 rfl [(0, .agg (LS kf lb sf sb)), (1, .int .i64 a), (2, .int .i64 b)] rfl ⟨by kernel_rfl, by kernel_rfl⟩ (W.weak (Ψ := St w00 ((g, Obj.cells (rowb d tail) ty (0, 0)) :: (H' ++ H0))) (fun w' h => by rw [h]; exact hst) (W.seq (W.rg od1 (T.bx 3 116 (.agg (LS kf lb sf sb)) ((LS kf lb sf sb)) tv3 (fun b1 => T.nil (QN.seq (W.seq (W.rg od4 (T.pi 11 b (T.pi 12 a (T.pw 13 ((b : Int) - (a : Int)) (T.pe 6 (.int .i64 ((b : Int) - (a : Int))) (.int .i64 ((b - a : Nat) : Int)) (int_eq (by omega)) (T.nil (QN.seq (W.seq (W.rg od2 (T.pi 14 ((b - a : Nat) : Int) (T.pb 15 (decide (8 ≤ ((b - a : Nat) : Int))) (T.nil (QN.seq (W.cd (decide (8 ≤ ((b - a : Nat) : Int))) (fun h2 => ?_) (fun h2 => ?_))))))))))))))))))))))
 ·
  have h2' := of_decide_eq_true h2
  refine W.seq (W.rg od4 (T.pi 16 ((b - a : Nat) : Int) (T.pe 17 (.int .u64 (IntKind.u64.wrap ((b - a : Nat) : Int))) (.int .u64 ((b - a : Nat) : Int)) (wrapu_int (by omega) (by omega)) (T.al 7 141 #[.int .u64 0] tv3 (fun b3 => T.sp 141 b3 0 (.int .u64 ((b - a : Nat) : Int)) #[.int .u64 0] #[.int .u64 ((b - a : Nat) : Int)] 141 pm0 tv2 (T.nil (QN.seq (W.seq (W.rg od3 (T.pi 18 ((b - a : Nat) : Int) (T.cp 19 130 #[.int .i64 ((b - a : Nat) : Int)] (.int .u64 ((2 ^ Sort.bitsLen (b - a) : Nat) : Int)) ent130 (fun w hw => np2_c _ (by omega) w) tv2 (T.pu 8 (.int .u64 ((2 ^ Sort.bitsLen (b - a) : Nat) : Int)) (T.nil (QN.seq (W.seq (W.rg od7 (T.pi 20 a (T.pi 21 ((b - a : Nat) : Int) (T.pe 22 (.int .i64 (IntKind.i64.wrap (((b - a : Nat) : Int).tdiv 4))) (.int .i64 (((b - a : Nat) : Int) / 4)) (quo_int (by omega) (by decide) (by omega)) (T.pw 23 ((((b - a : Nat) : Int) / 4) * 2) (T.pw 24 ((a : Int) + ((((b - a : Nat) : Int) / 4) * 2)) (T.pw 25 (((a : Int) + ((((b - a : Nat) : Int) / 4) * 2)) - 1) (T.pe 9 (.int .i64 (((a : Int) + ((((b - a : Nat) : Int) / 4) * 2)) - 1)) (.int .i64 (((a + (((b - a) / 4) * 2)) - 1 : Nat) : Int)) (int_eq (by omega)) (T.nil (QN.seq (W.block (W.loop (σ := Nat × Array α × Int) (fun gs => a + (b - a) / 4 * 2 - 1 ≤ gs.1 ∧ gs.1 ≤ a + (b - a) / 4 * 2 + 2 ∧ Sort.PermIn a b d gs.2.1 ∧ gs.2.1.size = n) (fun gs => [(1, .int .i64 a), (3, .pointer (some ⟨b1, 0, none⟩)), (6, .int .i64 ((b - a : Nat) : Int)), (7, .pointer (some ⟨b3, 0, none⟩)), (8, .int .u64 ((2 ^ Sort.bitsLen (b - a) : Nat) : Int)), (9, .int .i64 (gs.1 : Int))]) (fun gs => St w00 ((b3, Obj.cells #[.int .u64 gs.2.2] 141 (0, 0)) :: ((b1, Obj.cells (LS kf lb sf sb) 116 (0, 0)) :: ((g, Obj.cells (rowb gs.2.1 tail) ty (0, 0)) :: (H' ++ H0))))) (fun gs => (a + (b - a) / 4 * 2 + 2) - gs.1) (a + (b - a) / 4 * 2 - 1, d, ((b - a : Nat) : Int)) ?_ (by kernel_rfl) (fun w h => h) ?_)))))))))))))))))))))))))))
  ·
   try dsimp only
   exact ⟨Nat.le_refl _, by omega, Sort.permIn_refl _ _ _, hd⟩
  rintro ⟨idx, dd, r⟩ hI_
  obtain ⟨hi1, hi2, hperm, hdd⟩ : a + (b - a) / 4 * 2 - 1 ≤ idx ∧ idx ≤ a + (b - a) / 4 * 2 + 2 ∧ Sort.PermIn a b d dd ∧ dd.size = n := hI_
  refine W.seq (W.seq (W.rg od8 (T.pi 26 idx (T.pi 27 a (T.pi 28 ((b - a : Nat) : Int) (T.pe 29 (.int .i64 (IntKind.i64.wrap (((b - a : Nat) : Int).tdiv 4))) (.int .i64 (((b - a : Nat) : Int) / 4)) (quo_int (by omega) (by decide) (by omega)) (T.pw 30 ((((b - a : Nat) : Int) / 4) * 2) (T.pw 31 ((a : Int) + ((((b - a : Nat) : Int) / 4) * 2)) (T.pw 32 (((a : Int) + ((((b - a : Nat) : Int) / 4) * 2)) + 1) (T.pb 33 (decide ((idx : Int) ≤ (((a : Int) + ((((b - a : Nat) : Int) / 4) * 2)) + 1))) (T.nil (QN.seq (W.cd (decide ((idx : Int) ≤ (((a : Int) + ((((b - a : Nat) : Int) / 4) * 2)) + 1))) (fun h4 => ?_) (fun h4 => ?_))))))))))))))
  ·
   have h4' := of_decide_eq_true h4
   refine W.skip (QN.seq (W.seq (W.block (W.seq (W.rg od6 (T.callG (β := Int) 36 131 #[.pointer (some ⟨b3, 0, none⟩)] (fun gs => .int .u64 gs) (fun gs => St w00 ((b3, Obj.cells #[.int .u64 gs] 141 (0, 0)) :: ((b1, Obj.cells (LS kf lb sf sb) 116 (0, 0)) :: ((g, Obj.cells (rowb dd tail) ty (0, 0)) :: (H' ++ H0))))) (fun gs => 0 ≤ gs ∧ gs < 18446744073709551616) (by kernel_rfl) (by kernel_rfl) ent131 ?_ tv3 ?_))))))
   · exact fun w hw => next_c b3 r _ w (show St w00 ((b3, Obj.cells #[.int .u64 r] 141 (0, 0)) :: ((b1, Obj.cells (LS kf lb sf sb) 116 (0, 0)) :: ((g, Obj.cells (rowb dd tail) ty (0, 0)) :: (H' ++ H0)))) w from hw)
   rintro r5 hp_
   have hp6 : 0 ≤ r5 ∧ r5 < 18446744073709551616 := hp_
   refine T.pu 37 (.int .u64 ((2 ^ Sort.bitsLen (b - a) : Nat) : Int)) (T.pe 38 (.int .u64 (IntKind.u64.wrap (((2 ^ Sort.bitsLen (b - a) : Nat) : Int) - 1))) (.int .u64 (((2 ^ Sort.bitsLen (b - a) : Nat) : Int) - 1)) (wrapu_int (by omega) (by omega)) (T.pu 39 (.int .u64 (bits .and .u64 r5 (((2 ^ Sort.bitsLen (b - a) : Nat) : Int) - 1))) ?_))
   obtain ⟨ot7, ho8, hp9⟩ := and_u64 r5 (((2 ^ Sort.bitsLen (b - a) : Nat) : Int) - 1) (by omega) (by omega)
   refine T.pe 40 (.int .i64 (IntKind.i64.wrap (bits .and .u64 r5 (((2 ^ Sort.bitsLen (b - a) : Nat) : Int) - 1)))) (.int .i64 (ot7 : Int)) (by rw [ho8]; exact wrap_int (by omega) (by omega)) (T.pi 10 ot7 (T.nil (QN.seq (W.seq (W.seq (W.rg od3 (T.pi 41 ot7 (T.pi 42 ((b - a : Nat) : Int) (T.pb 43 (decide (((b - a : Nat) : Int) ≤ (ot7 : Int))) (T.nil (QN.seq (W.cd (decide (((b - a : Nat) : Int) ≤ (ot7 : Int))) (fun h10 => ?_) (fun h10 => ?_)))))))))))))
   ·
    have h10' := of_decide_eq_true h10
    refine W.rg od4 (T.pi 44 ot7 (T.pi 45 ((b - a : Nat) : Int) (T.pw 46 ((ot7 : Int) - ((b - a : Nat) : Int)) (T.pe 10 (.int .i64 ((ot7 : Int) - ((b - a : Nat) : Int))) (.int .i64 ((ot7 - (b - a) : Nat) : Int)) (int_eq (by omega)) (T.nil (QN.seq (W.rg od7 (T.pu 47 (.pointer (some ⟨b1, 1, none⟩)) (T.ld false 48 (.func (.func sf) #[] sb) 111 b1 1 (fun w h => St.cellM h mm1 (by kernel_rfl)) (T.pi 49 idx (T.pi 50 a (T.pi 51 ((ot7 - (b - a) : Nat) : Int) (T.pw 52 ((a : Int) + ((ot7 - (b - a) : Nat) : Int)) (T.callV 53 sf (#[.int .i64 idx, .int .i64 ((a : Int) + ((ot7 - (b - a) : Nat) : Int))] ++ sb) (.tuple #[]) (St w00 ((g, Obj.cells (rowb (Sort.swp dd idx (a + (ot7 - (b - a)))) tail) ty (0, 0)) :: ((b3, Obj.cells #[.int .u64 r5] 141 (0, 0)) :: ((b1, Obj.cells (LS kf lb sf sb) 116 (0, 0)) :: (H' ++ H0))))) (by kernel_rfl) (by kernel_rfl) ?_ tv2 ?_))))))))))))))
    · exact fun w hw => hS.swap ((b3, Obj.cells #[.int .u64 r5] 141 (0, 0)) :: ((b1, Obj.cells (LS kf lb sf sb) 116 (0, 0)) :: H')) dd w (idx : Int) ((a : Int) + ((ot7 - (b - a) : Nat) : Int)) idx (a + (ot7 - (b - a))) (by first | assumption | (simp only [Sort.size_swp]; assumption)) (by omega) (by omega) (by omega) (by omega) (show St w00 ((g, Obj.cells (rowb dd tail) ty (0, 0)) :: ((b3, Obj.cells #[.int .u64 r5] 141 (0, 0)) :: ((b1, Obj.cells (LS kf lb sf sb) 116 (0, 0)) :: (H' ++ H0)))) w from (hw.perm (pm2.trans ((pm0.trans (pm0.cons _)).cons _))))
    refine T.nil (QN.blkNormal (QN.seq (W.rg od3 (T.pi 34 idx (T.pw 35 ((idx : Int) + 1) (T.pe 9 (.int .i64 ((idx : Int) + 1)) (.int .i64 ((idx + 1 : Nat) : Int)) (int_eq (by omega)) (T.nil (QN.back (idx + 1, Sort.swp dd idx (a + (ot7 - (b - a))), r5) ?_ ?_ (by kernel_rfl) (fun w h => h.perm (pm1.trans ((pm1.trans (pm0.cons _)).cons _)))))))))))
    ·
     try dsimp only
     exact ⟨by omega, by omega, Sort.permIn_trans _ _ _ a b hperm (Sort.swp_permIn _ a b _ _ (by omega) (by omega) (by omega) (by omega) (by omega)), by rw [Sort.size_swp]; exact hdd⟩
    · show (a + (b - a) / 4 * 2 + 2) - (idx + 1) < (a + (b - a) / 4 * 2 + 2) - idx; omega
   ·
    have h10' := of_decide_eq_false h10
    refine W.skip (QN.seq (W.rg od7 (T.pu 47 (.pointer (some ⟨b1, 1, none⟩)) (T.ld false 48 (.func (.func sf) #[] sb) 111 b1 1 (fun w h => St.cellM h mm1 (by kernel_rfl)) (T.pi 49 idx (T.pi 50 a (T.pi 51 ot7 (T.pw 52 ((a : Int) + (ot7 : Int)) (T.callV 53 sf (#[.int .i64 idx, .int .i64 ((a : Int) + (ot7 : Int))] ++ sb) (.tuple #[]) (St w00 ((g, Obj.cells (rowb (Sort.swp dd idx (a + ot7)) tail) ty (0, 0)) :: ((b3, Obj.cells #[.int .u64 r5] 141 (0, 0)) :: ((b1, Obj.cells (LS kf lb sf sb) 116 (0, 0)) :: (H' ++ H0))))) (by kernel_rfl) (by kernel_rfl) ?_ tv2 ?_)))))))))
    · exact fun w hw => hS.swap ((b3, Obj.cells #[.int .u64 r5] 141 (0, 0)) :: ((b1, Obj.cells (LS kf lb sf sb) 116 (0, 0)) :: H')) dd w (idx : Int) ((a : Int) + (ot7 : Int)) idx (a + ot7) (by first | assumption | (simp only [Sort.size_swp]; assumption)) (by omega) (by omega) (by omega) (by omega) (show St w00 ((g, Obj.cells (rowb dd tail) ty (0, 0)) :: ((b3, Obj.cells #[.int .u64 r5] 141 (0, 0)) :: ((b1, Obj.cells (LS kf lb sf sb) 116 (0, 0)) :: (H' ++ H0)))) w from (hw.perm (pm2.trans ((pm0.trans (pm0.cons _)).cons _))))
    refine T.nil (QN.blkNormal (QN.seq (W.rg od3 (T.pi 34 idx (T.pw 35 ((idx : Int) + 1) (T.pe 9 (.int .i64 ((idx : Int) + 1)) (.int .i64 ((idx + 1 : Nat) : Int)) (int_eq (by omega)) (T.nil (QN.back (idx + 1, Sort.swp dd idx (a + ot7), r5) ?_ ?_ (by kernel_rfl) (fun w h => h.perm (pm1.trans ((pm1.trans (pm0.cons _)).cons _)))))))))))
    ·
     try dsimp only
     exact ⟨by omega, by omega, Sort.permIn_trans _ _ _ a b hperm (Sort.swp_permIn _ a b _ _ (by omega) (by omega) (by omega) (by omega) (by omega)), by rw [Sort.size_swp]; exact hdd⟩
    · show (a + (b - a) / 4 * 2 + 2) - (idx + 1) < (a + (b - a) / 4 * 2 + 2) - idx; omega
  ·
   have h4' := of_decide_eq_false h4
   refine W.exit (QN.thenExit (QN.thenExit (QN.blkHit (QN.done0 (.inr rfl) rfl (fun w hw => ?_)))))
   exact ⟨dd, hperm, rfl, ((hw.perm pm2).part ((((List.Sublist.refl _).cons _).cons _).cons_cons _))⟩
 ·
  have h2' := of_decide_eq_false h2
  refine W.skip (QN.done0 (.inr rfl) rfl (fun w hw => ?_))
  exact ⟨d, Sort.permIn_refl _ _ _, rfl, ((hw.perm pm1).part (((List.Sublist.refl _).cons _).cons_cons _))⟩
end Go.Proofs.Ytphnfhonmbbddaa
