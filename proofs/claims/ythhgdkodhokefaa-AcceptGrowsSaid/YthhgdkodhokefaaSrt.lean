/- Go's sort over a row, part 1. -/
import Derived.Test.YthhgdkodhokefaaEnt
import Derived.Test.YthhgdkodhokefaaSort
namespace Go.Proofs.Ythhgdkodhokefaa
open Go Go.RowKit
set_option linter.unusedVariables false

section
variable {α : Type} [Inhabited α] {lt : α → α → Bool}
theorem ins_step {a j : Nat} {d : Array α} (h : ((decide ((a : Int) < (j : Int))) && (lt d[j]! d[j - 1]!)) = true) : Sort.insInner lt a (j - 1) (Sort.swp d j (j - 1)) = Sort.insInner lt a j d := by
  rw [Bool.and_eq_true, decide_eq_true_eq] at h
  obtain ⟨k, rfl⟩ : ∃ k, j = k + 1 := ⟨j - 1, by omega⟩
  have h2 := h.2
  rw [Nat.add_sub_cancel] at h2 ⊢
  rw [Sort.insInner]
  rw [if_pos (by rw [Bool.and_eq_true, decide_eq_true_eq]; exact ⟨by omega, h2⟩)]
theorem ins_stop {a j : Nat} {d : Array α} (h : ((decide ((a : Int) < (j : Int))) && (lt d[j]! d[j - 1]!)) = false) : Sort.insInner lt a j d = d := by
  cases j with
  | zero => rfl
  | succ k =>
    rw [Sort.insInner]
    rw [Nat.add_sub_cancel] at h
    rw [if_neg]
    rw [Bool.and_eq_true, decide_eq_true_eq]
    rintro ⟨h1, h2⟩
    rw [h2, Bool.and_true, decide_eq_false_iff_not] at h
    omega
theorem insO_step {a b i : Nat} {d d' : Array α} (hi : i < b) (h : d' = Sort.insInner lt a i d) : Sort.insOuter lt a b (i + 1) d' = Sort.insOuter lt a b i d := by
  rw [h]; conv => rhs; rw [Sort.insOuter]
  rw [if_pos hi]
theorem insO_stop {a b i : Nat} {d : Array α} (hi : ¬ i < b) : Sort.insOuter lt a b i d = d := by rw [Sort.insOuter, if_neg hi]
end
set_option maxRecDepth 100000 in
set_option maxHeartbeats 2000000 in
theorem insSort_c {α : Type} [Cel α] [Inhabited α] {w00 : World} {g n : Nat} {ty : TypeId} {tail : List Value} {lt : α → α → Bool} {kf : Nat} {lb : Array Value} {sf : Nat} {sb : Array Value} {H0 : List (Nat × Obj)} (hS : SortOk Try.prog α w00 g n ty tail lt kf lb sf sb H0) (hn : n ≤ 1000) (d : Array α) (a b : Nat) (hd : d.size = n) (hab : a ≤ b) (hb : b ≤ n) (H' : List (Nat × Obj)) (w : World) (hst : St w00 ((g, .cells (rowb d tail) ty (0, 0)) :: (H' ++ H0)) w) : Calls Try.prog 105 #[.agg #[.func (.func kf) #[] lb, .func (.func sf) #[] sb], .int .i64 ((a : Int)), .int .i64 ((b : Int))] w (fun rr w' => rr = .returned (.tuple #[]) ∧ St w00 ((g, .cells (rowb (Sort.insertionSort lt d a b) tail) ty (0, 0)) :: (H' ++ H0)) w') := by
  refine calls_W (n := 35) Try.func105 rfl [(0, .agg #[.func (.func kf) #[] lb, .func (.func sf) #[] sb]), (1, .int .i64 ((a : Int))), (2, .int .i64 ((b : Int)))] rfl ⟨by kernel_rfl, by kernel_rfl⟩ ?_
  refine W.weak (Ψ := St w00 ((g, .cells (rowb d tail) ty (0, 0)) :: (H' ++ H0))) (fun w' h => by rw [h]; exact hst) ?_
  refine W.seq ?_
  refine W.region [(0, false)] (by kernel_rfl) ?_
  refine T.box 3 119 (.agg #[.func (.func kf) #[] lb, .func (.func sf) #[] sb]) (#[.func (.func kf) #[] lb, .func (.func sf) #[] sb]) (by kernel_rfl) (by kernel_rfl) (by kernel_rfl) (fun _ _ _ => trivial) (fun b1 => ?_)
  refine T.nil ?_
  refine QN.seq ?_
  refine W.seq ?_
  refine W.region [(0, false), (1, false), (2, false)] (by kernel_rfl) ?_
  refine T.pure 8 (.int .i64 ((a : Int))) (by kernel_rfl) (fun w => by kernel_rfl) ?_
  refine T.pureE 9 (.int .i64 (IntKind.i64.wrap ((a : Int) + 1))) (.int .i64 ((a : Int) + 1)) (by kernel_rfl) (fun w => by kernel_rfl) (wrap_int (by omega) (by omega)) ?_
  refine T.pure 6 (.int .i64 ((a : Int) + 1)) (by kernel_rfl) (fun w => by kernel_rfl) ?_
  refine T.nil ?_
  refine QN.seq ?_
  refine W.block ?_
  refine W.loop (σ := Nat × Array α) (fun gs => a + 1 ≤ gs.1 ∧ gs.1 ≤ b + 1 ∧ gs.2.size = n ∧ Sort.insOuter lt a b gs.1 gs.2 = Sort.insOuter lt a b (a + 1) d) (fun gs => [(1, .int .i64 ((a : Int))), (2, .int .i64 ((b : Int))), (3, .pointer (some ⟨b1, 0, none⟩)), (6, .int .i64 ((gs.1 : Int)))]) (fun gs => St w00 ((b1, .cells #[.func (.func kf) #[] lb, .func (.func sf) #[] sb] 119 (0, 0)) :: ((g, .cells (rowb gs.2 tail) ty (0, 0)) :: (H' ++ H0)))) (fun gs => b + 1 - gs.1) (a + 1, d) ?_ (by kernel_rfl) (fun w h => h) ?_
  · show a + 1 ≤ (a + 1) ∧ (a + 1) ≤ b + 1 ∧ d.size = n ∧ Sort.insOuter lt a b (a + 1) d = Sort.insOuter lt a b (a + 1) d
    exact ⟨Nat.le_refl _, by omega, hd, rfl⟩
  rintro ⟨i, dd⟩ hI_
  obtain ⟨hi1, hi2, hdd, he⟩ : a + 1 ≤ i ∧ i ≤ b + 1 ∧ dd.size = n ∧ Sort.insOuter lt a b i dd = Sort.insOuter lt a b (a + 1) d := hI_
  show W _ _ [(1, .int .i64 ((a : Int))), (2, .int .i64 ((b : Int))), (3, .pointer (some ⟨b1, 0, none⟩)), (6, .int .i64 ((i : Int)))] (St w00 ((b1, .cells #[.func (.func kf) #[] lb, .func (.func sf) #[] sb] 119 (0, 0)) :: ((g, .cells (rowb dd tail) ty (0, 0)) :: (H' ++ H0)))) _ _
  refine W.seq ?_
  refine W.seq ?_
  refine W.region [(0, false), (1, false), (2, false)] (by kernel_rfl) ?_
  refine T.pure 10 (.int .i64 ((i : Int))) (by kernel_rfl) (fun w => by kernel_rfl) ?_
  refine T.pure 11 (.int .i64 ((b : Int))) (by kernel_rfl) (fun w => by kernel_rfl) ?_
  refine T.pure 12 (.bool (decide ((i : Int) < (b : Int)))) (by kernel_rfl) (fun w => by kernel_rfl) ?_
  refine T.nil ?_
  refine QN.seq ?_
  refine W.cond (decide ((i : Int) < (b : Int))) (by kernel_rfl) (fun h2 => ?_) (fun h2 => ?_)
  · skip
    have h2' := of_decide_eq_true h2
    refine W.skip ?_
    refine QN.seq ?_
    refine W.seq ?_
    refine W.block ?_
    refine W.seq ?_
    refine W.region [(0, false), (1, false)] (by kernel_rfl) ?_
    refine T.pure 15 (.int .i64 ((i : Int))) (by kernel_rfl) (fun w => by kernel_rfl) ?_
    refine T.pure 7 (.int .i64 ((i : Int))) (by kernel_rfl) (fun w => by kernel_rfl) ?_
    refine T.nil ?_
    refine QN.seq ?_
    refine W.block ?_
    refine W.loop (σ := Nat × Array α) (fun gs => a ≤ gs.1 ∧ gs.1 ≤ i ∧ gs.2.size = n ∧ Sort.insInner lt a gs.1 gs.2 = Sort.insInner lt a i dd) (fun gs => [(1, .int .i64 ((a : Int))), (2, .int .i64 ((b : Int))), (3, .pointer (some ⟨b1, 0, none⟩)), (6, .int .i64 ((i : Int))), (7, .int .i64 ((gs.1 : Int))), (10, .int .i64 ((i : Int))), (11, .int .i64 ((b : Int))), (12, .bool (decide ((i : Int) < (b : Int)))), (15, .int .i64 ((i : Int)))]) (fun gs => St w00 ((b1, .cells #[.func (.func kf) #[] lb, .func (.func sf) #[] sb] 119 (0, 0)) :: ((g, .cells (rowb gs.2 tail) ty (0, 0)) :: (H' ++ H0)))) (fun gs => gs.1) (i, dd) ?_ (by kernel_rfl) (fun w h => h) ?_
    · show a ≤ i ∧ i ≤ i ∧ dd.size = n ∧ Sort.insInner lt a i dd = Sort.insInner lt a i dd
      exact ⟨by omega, Nat.le_refl _, hdd, rfl⟩
    rintro ⟨j, d2⟩ hI_
    obtain ⟨hj1, hj2, hd2, he2⟩ : a ≤ j ∧ j ≤ i ∧ d2.size = n ∧ Sort.insInner lt a j d2 = Sort.insInner lt a i dd := hI_
    show W _ _ [(1, .int .i64 ((a : Int))), (2, .int .i64 ((b : Int))), (3, .pointer (some ⟨b1, 0, none⟩)), (6, .int .i64 ((i : Int))), (7, .int .i64 ((j : Int))), (10, .int .i64 ((i : Int))), (11, .int .i64 ((b : Int))), (12, .bool (decide ((i : Int) < (b : Int)))), (15, .int .i64 ((i : Int)))] (St w00 ((b1, .cells #[.func (.func kf) #[] lb, .func (.func sf) #[] sb] 119 (0, 0)) :: ((g, .cells (rowb d2 tail) ty (0, 0)) :: (H' ++ H0)))) _ _
    refine W.seq ?_
    refine W.seq ?_
    refine W.region [(0, false), (1, false), (2, false), (3, false), (4, false), (5, false), (6, false), (7, false), (8, false), (9, false), (10, false)] (by kernel_rfl) ?_
    refine T.pure 16 (.int .i64 ((j : Int))) (by kernel_rfl) (fun w => by kernel_rfl) ?_
    refine T.pure 17 (.int .i64 ((a : Int))) (by kernel_rfl) (fun w => by kernel_rfl) ?_
    refine T.pure 18 (.bool (decide ((a : Int) < (j : Int)))) (by kernel_rfl) (fun w => by kernel_rfl) ?_
    refine T.pure 19 (.bool (decide ((a : Int) < (j : Int)))) (by kernel_rfl) (fun w => by kernel_rfl) ?_
    refine T.blk [(4, false), (5, false), (6, false), (7, false), (8, false), (9, false)] [(10, false)] 3 true (decide ((a : Int) < (j : Int))) 19 25 (.bool (lt d2[j]! d2[(j - 1)]!)) (by kernel_rfl) (by kernel_rfl) (by kernel_rfl) (fun hg3 => ?_) ?_
    · have hg3_ := hg3
      have hg3' := of_decide_eq_true hg3
      refine T.pure 20 (.pointer (some ⟨b1, 0, none⟩)) (by kernel_rfl) (fun w => by kernel_rfl) ?_
      refine T.load false 21 (.func (.func kf) #[] lb) 100 b1 0 (by kernel_rfl) (by kernel_rfl) (by kernel_rfl) (fun w h => St.cellM h (.head _) (by kernel_rfl)) ?_
      refine T.pure 22 (.int .i64 ((j : Int))) (by kernel_rfl) (fun w => by kernel_rfl) ?_
      refine T.pure 23 (.int .i64 ((j : Int))) (by kernel_rfl) (fun w => by kernel_rfl) ?_
      refine T.pureE 24 (.int .i64 (IntKind.i64.wrap ((j : Int) - 1))) (.int .i64 ((j : Int) - 1)) (by kernel_rfl) (fun w => by kernel_rfl) (wrap_int (by omega) (by omega)) ?_
      refine T.callP 25 kf (#[.int .i64 ((j : Int)), .int .i64 ((j : Int) - 1)] ++ lb) (.bool (lt d2[j]! d2[(j - 1)]!)) (by kernel_rfl) (by kernel_rfl) hS.ent ?_ (fun _ _ => trivial) ?_
      · exact fun w hw => hS.less ((b1, .cells #[.func (.func kf) #[] lb, .func (.func sf) #[] sb] 119 (0, 0)) :: H') d2 w ((j : Int)) ((j : Int) - 1) j (j - 1) (by first | assumption | (simp only [Sort.size_swp]; assumption)) (by omega) (by omega) (by omega) (by omega) (show St w00 ((g, .cells (rowb d2 tail) ty (0, 0)) :: ((b1, .cells #[.func (.func kf) #[] lb, .func (.func sf) #[] sb] 119 (0, 0)) :: (H' ++ H0))) w from (hw.perm ((((List.Perm.refl _).cons _).trans (List.Perm.swap _ _ _)).trans ((List.Perm.refl _).cons _))))
      exact T.blkEnd (by kernel_rfl) (fun w h => h)
    refine T.and 26 (decide ((a : Int) < (j : Int))) (lt d2[j]! d2[(j - 1)]!) (by kernel_rfl) (by kernel_rfl) ?_
    refine T.nil ?_
    refine QN.seq ?_
    refine W.cond ((decide ((a : Int) < (j : Int))) && (lt d2[j]! d2[(j - 1)]!)) (by kernel_rfl) (fun h4 => ?_) (fun h4 => ?_)
    · skip
      have h4l := (Bool.and_eq_true_iff.1 h4).1
      have h4r := (Bool.and_eq_true_iff.1 h4).2
      have h4l' := of_decide_eq_true h4l
      refine W.skip ?_
      refine QN.seq ?_
      refine W.seq ?_
      refine W.block ?_
      refine W.region [(0, false), (1, false), (2, false), (3, false), (4, false), (5, false)] (by kernel_rfl) ?_
      refine T.pure 29 (.pointer (some ⟨b1, 1, none⟩)) (by kernel_rfl) (fun w => by kernel_rfl) ?_
      refine T.load false 30 (.func (.func sf) #[] sb) 114 b1 1 (by kernel_rfl) (by kernel_rfl) (by kernel_rfl) (fun w h => St.cellM h (.head _) (by kernel_rfl)) ?_
      refine T.pure 31 (.int .i64 ((j : Int))) (by kernel_rfl) (fun w => by kernel_rfl) ?_
      refine T.pure 32 (.int .i64 ((j : Int))) (by kernel_rfl) (fun w => by kernel_rfl) ?_
      refine T.pureE 33 (.int .i64 (IntKind.i64.wrap ((j : Int) - 1))) (.int .i64 ((j : Int) - 1)) (by kernel_rfl) (fun w => by kernel_rfl) (wrap_int (by omega) (by omega)) ?_
      refine T.callV 34 sf (#[.int .i64 ((j : Int)), .int .i64 ((j : Int) - 1)] ++ sb) (.tuple #[]) (St w00 ((g, .cells (rowb (Sort.swp d2 j (j - 1)) tail) ty (0, 0)) :: ((b1, .cells #[.func (.func kf) #[] lb, .func (.func sf) #[] sb] 119 (0, 0)) :: (H' ++ H0)))) (by kernel_rfl) (by kernel_rfl) ?_ (fun _ _ => trivial) ?_
      · exact fun w hw => hS.swap ((b1, .cells #[.func (.func kf) #[] lb, .func (.func sf) #[] sb] 119 (0, 0)) :: H') d2 w ((j : Int)) ((j : Int) - 1) j (j - 1) (by first | assumption | (simp only [Sort.size_swp]; assumption)) (by omega) (by omega) (by omega) (by omega) (show St w00 ((g, .cells (rowb d2 tail) ty (0, 0)) :: ((b1, .cells #[.func (.func kf) #[] lb, .func (.func sf) #[] sb] 119 (0, 0)) :: (H' ++ H0))) w from (hw.perm ((((List.Perm.refl _).cons _).trans (List.Perm.swap _ _ _)).trans ((List.Perm.refl _).cons _))))
      refine T.nil ?_
      refine QN.blkNormal ?_
      refine QN.seq ?_
      refine W.region [(0, false), (1, false), (2, false)] (by kernel_rfl) ?_
      refine T.pure 27 (.int .i64 ((j : Int))) (by kernel_rfl) (fun w => by kernel_rfl) ?_
      refine T.pureE 28 (.int .i64 (IntKind.i64.wrap ((j : Int) - 1))) (.int .i64 ((j : Int) - 1)) (by kernel_rfl) (fun w => by kernel_rfl) (wrap_int (by omega) (by omega)) ?_
      refine T.pure 7 (.int .i64 ((j : Int) - 1)) (by kernel_rfl) (fun w => by kernel_rfl) ?_
      refine T.nil ?_
      refine QN.cast 7 (.int .i64 ((j : Int) - 1)) (.int .i64 (((j - 1 : Nat) : Int))) (by kernel_rfl) (int_eq (by omega)) ?_
      refine QN.back (j - 1, Sort.swp d2 j (j - 1)) ?_ ?_ (by kernel_rfl) (fun w h => h.perm ((((List.Perm.refl _).cons _).trans (List.Perm.swap _ _ _)).trans ((List.Perm.refl _).cons _)))
      · show a ≤ (j - 1) ∧ (j - 1) ≤ i ∧ (Sort.swp d2 j (j - 1)).size = n ∧ Sort.insInner lt a (j - 1) (Sort.swp d2 j (j - 1)) = Sort.insInner lt a i dd
        exact ⟨by omega, by omega, by rw [Sort.size_swp]; exact hd2, (ins_step h4).trans he2⟩
      · show _ < _; omega
    · skip
      refine W.exit ?_
      refine QN.thenExit ?_
      refine QN.thenExit ?_
      refine QN.blkHit ?_
      refine QN.blkNormal ?_
      refine QN.seq ?_
      refine W.region [(0, false), (1, false), (2, false)] (by kernel_rfl) ?_
      refine T.pure 13 (.int .i64 ((i : Int))) (by kernel_rfl) (fun w => by kernel_rfl) ?_
      refine T.pureE 14 (.int .i64 (IntKind.i64.wrap ((i : Int) + 1))) (.int .i64 ((i : Int) + 1)) (by kernel_rfl) (fun w => by kernel_rfl) (wrap_int (by omega) (by omega)) ?_
      refine T.pure 6 (.int .i64 ((i : Int) + 1)) (by kernel_rfl) (fun w => by kernel_rfl) ?_
      refine T.nil ?_
      refine QN.back (i + 1, d2) ?_ ?_ (by kernel_rfl) (fun w h => h)
      · show a + 1 ≤ (i + 1) ∧ (i + 1) ≤ b + 1 ∧ d2.size = n ∧ Sort.insOuter lt a b (i + 1) d2 = Sort.insOuter lt a b (a + 1) d
        exact ⟨by omega, by omega, hd2, (insO_step (by omega) ((ins_stop h4).symm.trans he2)).trans he⟩
      · show b + 1 - (i + 1) < b + 1 - i; omega
  · skip
    have h2' := of_decide_eq_false h2
    refine W.exit ?_
    refine QN.thenExit ?_
    refine QN.thenExit ?_
    refine QN.blkHit ?_
    refine QN.done0 (.inr rfl) rfl (fun w hw => ?_)
    exact ⟨rfl, by rw [show Sort.insertionSort lt d a b = dd from by rw [Sort.insertionSort, ← he, insO_stop (by omega)]]; exact ((hw.perm (((List.Perm.refl _).cons _).trans (List.Perm.swap _ _ _))).part (((List.Sublist.refl _).cons _).cons_cons _))⟩
section
variable {α : Type} [Inhabited α] {lt : α → α → Bool}
theorem sd_c {hi root : Nat} {z : Bool} {r : Bool} (c : ((decide (((2 * (root : Int)) + 1) + 1 < (hi : Int))) && z) = r) : ((decide (2 * root + 1 + 1 < hi)) && z) = r := by
  rw [← c]; congr 1; exact decide_eq_decide.2 (by omega)
theorem sd_stop {hi first root : Nat} {d : Array α} (h : (hi : Int) ≤ (2 * (root : Int)) + 1) : Sort.siftDown lt hi first root d = d := by rw [Sort.siftDown, dif_pos (by omega)]
theorem sd_ret1 {hi first root : Nat} {d : Array α} (h : ¬ (hi : Int) ≤ (2 * (root : Int)) + 1) (c : ((decide (((2 * (root : Int)) + 1) + 1 < (hi : Int))) && (lt d[(first + ((2 * root) + 1))]! d[((first + ((2 * root) + 1)) + 1)]!)) = true) (h2 : (!(lt d[(first + root)]! d[(first + (((2 * root) + 1) + 1))]!)) = true) : Sort.siftDown lt hi first root d = d := by
  rw [Sort.siftDown, dif_neg (by omega), if_pos (sd_c c), if_pos h2]
theorem sd_ret2 {hi first root : Nat} {d : Array α} (h : ¬ (hi : Int) ≤ (2 * (root : Int)) + 1) (c : ((decide (((2 * (root : Int)) + 1) + 1 < (hi : Int))) && (lt d[(first + ((2 * root) + 1))]! d[((first + ((2 * root) + 1)) + 1)]!)) = false) (h2 : (!(lt d[(first + root)]! d[(first + ((2 * root) + 1))]!)) = true) : Sort.siftDown lt hi first root d = d := by
  rw [Sort.siftDown, dif_neg (by omega), if_neg (by rw [sd_c c]; simp), if_pos h2]
theorem sd_go1 {hi first root : Nat} {d : Array α} (h : ¬ (hi : Int) ≤ (2 * (root : Int)) + 1) (c : ((decide (((2 * (root : Int)) + 1) + 1 < (hi : Int))) && (lt d[(first + ((2 * root) + 1))]! d[((first + ((2 * root) + 1)) + 1)]!)) = true) (h2 : (!(lt d[(first + root)]! d[(first + (((2 * root) + 1) + 1))]!)) = false) :
    Sort.siftDown lt hi first (2 * root + 1 + 1) (Sort.swp d (first + root) (first + (((2 * root) + 1) + 1))) = Sort.siftDown lt hi first root d := by
  have hc := sd_c c
  rw [Bool.and_eq_true, decide_eq_true_eq] at hc
  conv => rhs; rw [Sort.siftDown]
  rw [dif_neg (by omega), if_pos (sd_c c), if_neg (by rw [show (2 * root + 2) = 2 * root + 1 + 1 from rfl, h2]; simp), dif_pos (by omega)]
theorem sd_go2 {hi first root : Nat} {d : Array α} (h : ¬ (hi : Int) ≤ (2 * (root : Int)) + 1) (c : ((decide (((2 * (root : Int)) + 1) + 1 < (hi : Int))) && (lt d[(first + ((2 * root) + 1))]! d[((first + ((2 * root) + 1)) + 1)]!)) = false) (h2 : (!(lt d[(first + root)]! d[(first + ((2 * root) + 1))]!)) = false) :
    Sort.siftDown lt hi first (2 * root + 1) (Sort.swp d (first + root) (first + ((2 * root) + 1))) = Sort.siftDown lt hi first root d := by
  conv => rhs; rw [Sort.siftDown]
  rw [dif_neg (by omega), if_neg (by rw [sd_c c]; simp), if_neg (by rw [h2]; simp)]
end
set_option maxRecDepth 100000 in
set_option maxHeartbeats 2000000 in
theorem siftDown_c {α : Type} [Cel α] [Inhabited α] {w00 : World} {g n : Nat} {ty : TypeId} {tail : List Value} {lt : α → α → Bool} {kf : Nat} {lb : Array Value} {sf : Nat} {sb : Array Value} {H0 : List (Nat × Obj)} (hS : SortOk Try.prog α w00 g n ty tail lt kf lb sf sb H0) (hn : n ≤ 1000) (d : Array α) (lo hi first : Nat) (hd : d.size = n) (hfh : first + hi ≤ n) (hlo : lo ≤ n) (H' : List (Nat × Obj)) (w : World) (hst : St w00 ((g, .cells (rowb d tail) ty (0, 0)) :: (H' ++ H0)) w) : Calls Try.prog 114 #[.agg #[.func (.func kf) #[] lb, .func (.func sf) #[] sb], .int .i64 ((lo : Int)), .int .i64 ((hi : Int)), .int .i64 ((first : Int))] w (fun rr w' => rr = .returned (.tuple #[]) ∧ St w00 ((g, .cells (rowb (Sort.siftDown lt hi first lo d) tail) ty (0, 0)) :: (H' ++ H0)) w') := by
  refine calls_W (n := 55) Try.func114 rfl [(0, .agg #[.func (.func kf) #[] lb, .func (.func sf) #[] sb]), (1, .int .i64 ((lo : Int))), (2, .int .i64 ((hi : Int))), (3, .int .i64 ((first : Int)))] rfl ⟨by kernel_rfl, by kernel_rfl⟩ ?_
  refine W.weak (Ψ := St w00 ((g, .cells (rowb d tail) ty (0, 0)) :: (H' ++ H0))) (fun w' h => by rw [h]; exact hst) ?_
  refine W.seq ?_
  refine W.region [(0, false)] (by kernel_rfl) ?_
  refine T.box 4 119 (.agg #[.func (.func kf) #[] lb, .func (.func sf) #[] sb]) (#[.func (.func kf) #[] lb, .func (.func sf) #[] sb]) (by kernel_rfl) (by kernel_rfl) (by kernel_rfl) (fun _ _ _ => trivial) (fun b1 => ?_)
  refine T.nil ?_
  refine QN.seq ?_
  refine W.seq ?_
  refine W.region [(0, false), (1, false)] (by kernel_rfl) ?_
  refine T.pure 10 (.int .i64 ((lo : Int))) (by kernel_rfl) (fun w => by kernel_rfl) ?_
  refine T.pure 8 (.int .i64 ((lo : Int))) (by kernel_rfl) (fun w => by kernel_rfl) ?_
  refine T.nil ?_
  refine QN.seq ?_
  refine W.block ?_
  refine W.loop (σ := Nat × Array α) (fun gs => gs.1 ≤ n ∧ gs.2.size = n ∧ Sort.siftDown lt hi first gs.1 gs.2 = Sort.siftDown lt hi first lo d) (fun gs => [(2, .int .i64 ((hi : Int))), (3, .int .i64 ((first : Int))), (4, .pointer (some ⟨b1, 0, none⟩)), (8, .int .i64 ((gs.1 : Int)))]) (fun gs => St w00 ((b1, .cells #[.func (.func kf) #[] lb, .func (.func sf) #[] sb] 119 (0, 0)) :: ((g, .cells (rowb gs.2 tail) ty (0, 0)) :: (H' ++ H0)))) (fun gs => hi - gs.1) (lo, d) ?_ (by kernel_rfl) (fun w h => h) ?_
  · show lo ≤ n ∧ d.size = n ∧ Sort.siftDown lt hi first lo d = Sort.siftDown lt hi first lo d
    exact ⟨hlo, hd, rfl⟩
  rintro ⟨root, dd⟩ hI_
  obtain ⟨hroot, hdd, he⟩ : root ≤ n ∧ dd.size = n ∧ Sort.siftDown lt hi first root dd = Sort.siftDown lt hi first lo d := hI_
  show W _ _ [(2, .int .i64 ((hi : Int))), (3, .int .i64 ((first : Int))), (4, .pointer (some ⟨b1, 0, none⟩)), (8, .int .i64 ((root : Int)))] (St w00 ((b1, .cells #[.func (.func kf) #[] lb, .func (.func sf) #[] sb] 119 (0, 0)) :: ((g, .cells (rowb dd tail) ty (0, 0)) :: (H' ++ H0)))) _ _
  refine W.block ?_
  refine W.seq ?_
  refine W.region [(0, false), (1, false), (2, false), (3, false)] (by kernel_rfl) ?_
  refine T.pure 11 (.int .i64 ((root : Int))) (by kernel_rfl) (fun w => by kernel_rfl) ?_
  refine T.pureE 12 (.int .i64 (IntKind.i64.wrap (2 * (root : Int)))) (.int .i64 (2 * (root : Int))) (by kernel_rfl) (fun w => by kernel_rfl) (wrap_int (by omega) (by omega)) ?_
  refine T.pureE 13 (.int .i64 (IntKind.i64.wrap ((2 * (root : Int)) + 1))) (.int .i64 ((2 * (root : Int)) + 1)) (by kernel_rfl) (fun w => by kernel_rfl) (wrap_int (by omega) (by omega)) ?_
  refine T.pure 9 (.int .i64 ((2 * (root : Int)) + 1)) (by kernel_rfl) (fun w => by kernel_rfl) ?_
  refine T.nil ?_
  refine QN.seq ?_
  refine W.seq ?_
  refine W.seq ?_
  refine W.region [(0, false), (1, false), (2, false)] (by kernel_rfl) ?_
  refine T.pure 14 (.int .i64 ((2 * (root : Int)) + 1)) (by kernel_rfl) (fun w => by kernel_rfl) ?_
  refine T.pure 15 (.int .i64 ((hi : Int))) (by kernel_rfl) (fun w => by kernel_rfl) ?_
  refine T.pure 16 (.bool (decide ((hi : Int) ≤ ((2 * (root : Int)) + 1)))) (by kernel_rfl) (fun w => by kernel_rfl) ?_
  refine T.nil ?_
  refine QN.seq ?_
  refine W.cond (decide ((hi : Int) ≤ ((2 * (root : Int)) + 1))) (by kernel_rfl) (fun h2 => ?_) (fun h2 => ?_)
  · skip
    have h2' := of_decide_eq_true h2
    refine W.exit ?_
    refine QN.thenExit ?_
    refine QN.blkMiss (by decide) ?_
    refine QN.thenExit ?_
    refine QN.blkHit ?_
    refine QN.done0 (.inr rfl) rfl (fun w hw => ?_)
    exact ⟨rfl, by rw [show Sort.siftDown lt hi first lo d = dd from by rw [← he, sd_stop h2']]; exact ((hw.perm (((List.Perm.refl _).cons _).trans (List.Perm.swap _ _ _))).part (((List.Sublist.refl _).cons _).cons_cons _))⟩
  · skip
    have h2' := of_decide_eq_false h2
    refine W.skip ?_
    refine QN.seq ?_
    refine W.seq ?_
    refine W.seq ?_
    refine W.region [(0, false), (1, false), (2, false), (3, false), (4, false), (5, false), (6, false), (7, false), (8, false), (9, false), (10, false), (11, false), (12, false), (13, false), (14, false), (15, false)] (by kernel_rfl) ?_
    refine T.pure 17 (.int .i64 ((2 * (root : Int)) + 1)) (by kernel_rfl) (fun w => by kernel_rfl) ?_
    refine T.pureE 18 (.int .i64 (IntKind.i64.wrap (((2 * (root : Int)) + 1) + 1))) (.int .i64 (((2 * (root : Int)) + 1) + 1)) (by kernel_rfl) (fun w => by kernel_rfl) (wrap_int (by omega) (by omega)) ?_
    refine T.pure 19 (.int .i64 ((hi : Int))) (by kernel_rfl) (fun w => by kernel_rfl) ?_
    refine T.pure 20 (.bool (decide ((((2 * (root : Int)) + 1) + 1) < (hi : Int)))) (by kernel_rfl) (fun w => by kernel_rfl) ?_
    refine T.pure 21 (.bool (decide ((((2 * (root : Int)) + 1) + 1) < (hi : Int)))) (by kernel_rfl) (fun w => by kernel_rfl) ?_
    refine T.blk [(5, false), (6, false), (7, false), (8, false), (9, false), (10, false), (11, false), (12, false), (13, false), (14, false)] [(15, false)] 4 true (decide ((((2 * (root : Int)) + 1) + 1) < (hi : Int))) 21 31 (.bool (lt dd[(first + ((2 * root) + 1))]! dd[((first + ((2 * root) + 1)) + 1)]!)) (by kernel_rfl) (by kernel_rfl) (by kernel_rfl) (fun hg3 => ?_) ?_
    · have hg3_ := hg3
      have hg3' := of_decide_eq_true hg3
      refine T.pure 22 (.pointer (some ⟨b1, 0, none⟩)) (by kernel_rfl) (fun w => by kernel_rfl) ?_
      refine T.load false 23 (.func (.func kf) #[] lb) 100 b1 0 (by kernel_rfl) (by kernel_rfl) (by kernel_rfl) (fun w h => St.cellM h (.head _) (by kernel_rfl)) ?_
      refine T.pure 24 (.int .i64 ((first : Int))) (by kernel_rfl) (fun w => by kernel_rfl) ?_
      refine T.pure 25 (.int .i64 ((2 * (root : Int)) + 1)) (by kernel_rfl) (fun w => by kernel_rfl) ?_
      refine T.pureE 26 (.int .i64 (IntKind.i64.wrap ((first : Int) + ((2 * (root : Int)) + 1)))) (.int .i64 ((first : Int) + ((2 * (root : Int)) + 1))) (by kernel_rfl) (fun w => by kernel_rfl) (wrap_int (by omega) (by omega)) ?_
      refine T.pure 27 (.int .i64 ((first : Int))) (by kernel_rfl) (fun w => by kernel_rfl) ?_
      refine T.pure 28 (.int .i64 ((2 * (root : Int)) + 1)) (by kernel_rfl) (fun w => by kernel_rfl) ?_
      refine T.pureE 29 (.int .i64 (IntKind.i64.wrap ((first : Int) + ((2 * (root : Int)) + 1)))) (.int .i64 ((first : Int) + ((2 * (root : Int)) + 1))) (by kernel_rfl) (fun w => by kernel_rfl) (wrap_int (by omega) (by omega)) ?_
      refine T.pureE 30 (.int .i64 (IntKind.i64.wrap (((first : Int) + ((2 * (root : Int)) + 1)) + 1))) (.int .i64 (((first : Int) + ((2 * (root : Int)) + 1)) + 1)) (by kernel_rfl) (fun w => by kernel_rfl) (wrap_int (by omega) (by omega)) ?_
      refine T.callP 31 kf (#[.int .i64 ((first : Int) + ((2 * (root : Int)) + 1)), .int .i64 (((first : Int) + ((2 * (root : Int)) + 1)) + 1)] ++ lb) (.bool (lt dd[(first + ((2 * root) + 1))]! dd[((first + ((2 * root) + 1)) + 1)]!)) (by kernel_rfl) (by kernel_rfl) hS.ent ?_ (fun _ _ => trivial) ?_
      · exact fun w hw => hS.less ((b1, .cells #[.func (.func kf) #[] lb, .func (.func sf) #[] sb] 119 (0, 0)) :: H') dd w ((first : Int) + ((2 * (root : Int)) + 1)) (((first : Int) + ((2 * (root : Int)) + 1)) + 1) (first + ((2 * root) + 1)) ((first + ((2 * root) + 1)) + 1) (by first | assumption | (simp only [Sort.size_swp]; assumption)) (by omega) (by omega) (by omega) (by omega) (show St w00 ((g, .cells (rowb dd tail) ty (0, 0)) :: ((b1, .cells #[.func (.func kf) #[] lb, .func (.func sf) #[] sb] 119 (0, 0)) :: (H' ++ H0))) w from (hw.perm ((((List.Perm.refl _).cons _).trans (List.Perm.swap _ _ _)).trans ((List.Perm.refl _).cons _))))
      exact T.blkEnd (by kernel_rfl) (fun w h => h)
    refine T.and 32 (decide ((((2 * (root : Int)) + 1) + 1) < (hi : Int))) (lt dd[(first + ((2 * root) + 1))]! dd[((first + ((2 * root) + 1)) + 1)]!) (by kernel_rfl) (by kernel_rfl) ?_
    refine T.nil ?_
    refine QN.seq ?_
    refine W.cond ((decide ((((2 * (root : Int)) + 1) + 1) < (hi : Int))) && (lt dd[(first + ((2 * root) + 1))]! dd[((first + ((2 * root) + 1)) + 1)]!)) (by kernel_rfl) (fun h4 => ?_) (fun h4 => ?_)
    · skip
      have h4l := (Bool.and_eq_true_iff.1 h4).1
      have h4r := (Bool.and_eq_true_iff.1 h4).2
      have h4l' := of_decide_eq_true h4l
      refine W.region [(0, false), (1, false), (2, false)] (by kernel_rfl) ?_
      refine T.pure 33 (.int .i64 ((2 * (root : Int)) + 1)) (by kernel_rfl) (fun w => by kernel_rfl) ?_
      refine T.pureE 34 (.int .i64 (IntKind.i64.wrap (((2 * (root : Int)) + 1) + 1))) (.int .i64 (((2 * (root : Int)) + 1) + 1)) (by kernel_rfl) (fun w => by kernel_rfl) (wrap_int (by omega) (by omega)) ?_
      refine T.pure 9 (.int .i64 (((2 * (root : Int)) + 1) + 1)) (by kernel_rfl) (fun w => by kernel_rfl) ?_
      refine T.nil ?_
      refine QN.seq ?_
      refine W.seq ?_
      refine W.seq ?_
      refine W.region [(0, false), (1, false), (2, false), (3, false), (4, false), (5, false), (6, false), (7, false), (8, false), (9, false)] (by kernel_rfl) ?_
      refine T.pure 35 (.pointer (some ⟨b1, 0, none⟩)) (by kernel_rfl) (fun w => by kernel_rfl) ?_
      refine T.load false 36 (.func (.func kf) #[] lb) 100 b1 0 (by kernel_rfl) (by kernel_rfl) (by kernel_rfl) (fun w h => St.cellM h (.head _) (by kernel_rfl)) ?_
      refine T.pure 37 (.int .i64 ((first : Int))) (by kernel_rfl) (fun w => by kernel_rfl) ?_
      refine T.pure 38 (.int .i64 ((root : Int))) (by kernel_rfl) (fun w => by kernel_rfl) ?_
      refine T.pureE 39 (.int .i64 (IntKind.i64.wrap ((first : Int) + (root : Int)))) (.int .i64 ((first : Int) + (root : Int))) (by kernel_rfl) (fun w => by kernel_rfl) (wrap_int (by omega) (by omega)) ?_
      refine T.pure 40 (.int .i64 ((first : Int))) (by kernel_rfl) (fun w => by kernel_rfl) ?_
      refine T.pure 41 (.int .i64 (((2 * (root : Int)) + 1) + 1)) (by kernel_rfl) (fun w => by kernel_rfl) ?_
      refine T.pureE 42 (.int .i64 (IntKind.i64.wrap ((first : Int) + (((2 * (root : Int)) + 1) + 1)))) (.int .i64 ((first : Int) + (((2 * (root : Int)) + 1) + 1))) (by kernel_rfl) (fun w => by kernel_rfl) (wrap_int (by omega) (by omega)) ?_
      refine T.callP 43 kf (#[.int .i64 ((first : Int) + (root : Int)), .int .i64 ((first : Int) + (((2 * (root : Int)) + 1) + 1))] ++ lb) (.bool (lt dd[(first + root)]! dd[(first + (((2 * root) + 1) + 1))]!)) (by kernel_rfl) (by kernel_rfl) hS.ent ?_ (fun _ _ => trivial) ?_
      · exact fun w hw => hS.less ((b1, .cells #[.func (.func kf) #[] lb, .func (.func sf) #[] sb] 119 (0, 0)) :: H') dd w ((first : Int) + (root : Int)) ((first : Int) + (((2 * (root : Int)) + 1) + 1)) (first + root) (first + (((2 * root) + 1) + 1)) (by first | assumption | (simp only [Sort.size_swp]; assumption)) (by omega) (by omega) (by omega) (by omega) (show St w00 ((g, .cells (rowb dd tail) ty (0, 0)) :: ((b1, .cells #[.func (.func kf) #[] lb, .func (.func sf) #[] sb] 119 (0, 0)) :: (H' ++ H0))) w from (hw.perm ((((List.Perm.refl _).cons _).trans (List.Perm.swap _ _ _)).trans ((List.Perm.refl _).cons _))))
      refine T.pure 44 (.bool (!(lt dd[(first + root)]! dd[(first + (((2 * root) + 1) + 1))]!))) (by kernel_rfl) (fun w => by kernel_rfl) ?_
      refine T.nil ?_
      refine QN.seq ?_
      refine W.cond (!(lt dd[(first + root)]! dd[(first + (((2 * root) + 1) + 1))]!)) (by kernel_rfl) (fun h5 => ?_) (fun h5 => ?_)
      · skip
        have h5n := not_eq_true h5
        refine W.ret ?_
        refine QN.thenRet ?_
        refine QN.blkRet ?_
        refine QN.thenRet ?_
        refine QN.blkRet ?_
        refine QN.done0 (.inl rfl) rfl (fun w hw => ?_)
        exact ⟨rfl, by rw [show Sort.siftDown lt hi first lo d = dd from by rw [← he, sd_ret1 h2' h4 h5]]; exact ((hw.perm (((List.Perm.refl _).cons _).trans (List.Perm.swap _ _ _))).part (((List.Sublist.refl _).cons _).cons_cons _))⟩
      · skip
        have h5n := not_eq_false h5
        refine W.skip ?_
        refine QN.seq ?_
        refine W.seq ?_
        refine W.region [(0, false), (1, false), (2, false), (3, false), (4, false), (5, false), (6, false), (7, false), (8, false)] (by kernel_rfl) ?_
        refine T.pure 45 (.pointer (some ⟨b1, 1, none⟩)) (by kernel_rfl) (fun w => by kernel_rfl) ?_
        refine T.load false 46 (.func (.func sf) #[] sb) 114 b1 1 (by kernel_rfl) (by kernel_rfl) (by kernel_rfl) (fun w h => St.cellM h (.head _) (by kernel_rfl)) ?_
        refine T.pure 47 (.int .i64 ((first : Int))) (by kernel_rfl) (fun w => by kernel_rfl) ?_
        refine T.pure 48 (.int .i64 ((root : Int))) (by kernel_rfl) (fun w => by kernel_rfl) ?_
        refine T.pureE 49 (.int .i64 (IntKind.i64.wrap ((first : Int) + (root : Int)))) (.int .i64 ((first : Int) + (root : Int))) (by kernel_rfl) (fun w => by kernel_rfl) (wrap_int (by omega) (by omega)) ?_
        refine T.pure 50 (.int .i64 ((first : Int))) (by kernel_rfl) (fun w => by kernel_rfl) ?_
        refine T.pure 51 (.int .i64 (((2 * (root : Int)) + 1) + 1)) (by kernel_rfl) (fun w => by kernel_rfl) ?_
        refine T.pureE 52 (.int .i64 (IntKind.i64.wrap ((first : Int) + (((2 * (root : Int)) + 1) + 1)))) (.int .i64 ((first : Int) + (((2 * (root : Int)) + 1) + 1))) (by kernel_rfl) (fun w => by kernel_rfl) (wrap_int (by omega) (by omega)) ?_
        refine T.callV 53 sf (#[.int .i64 ((first : Int) + (root : Int)), .int .i64 ((first : Int) + (((2 * (root : Int)) + 1) + 1))] ++ sb) (.tuple #[]) (St w00 ((g, .cells (rowb (Sort.swp dd (first + root) (first + (((2 * root) + 1) + 1))) tail) ty (0, 0)) :: ((b1, .cells #[.func (.func kf) #[] lb, .func (.func sf) #[] sb] 119 (0, 0)) :: (H' ++ H0)))) (by kernel_rfl) (by kernel_rfl) ?_ (fun _ _ => trivial) ?_
        · exact fun w hw => hS.swap ((b1, .cells #[.func (.func kf) #[] lb, .func (.func sf) #[] sb] 119 (0, 0)) :: H') dd w ((first : Int) + (root : Int)) ((first : Int) + (((2 * (root : Int)) + 1) + 1)) (first + root) (first + (((2 * root) + 1) + 1)) (by first | assumption | (simp only [Sort.size_swp]; assumption)) (by omega) (by omega) (by omega) (by omega) (show St w00 ((g, .cells (rowb dd tail) ty (0, 0)) :: ((b1, .cells #[.func (.func kf) #[] lb, .func (.func sf) #[] sb] 119 (0, 0)) :: (H' ++ H0))) w from (hw.perm ((((List.Perm.refl _).cons _).trans (List.Perm.swap _ _ _)).trans ((List.Perm.refl _).cons _))))
        refine T.nil ?_
        refine QN.seq ?_
        refine W.region [(0, false), (1, false)] (by kernel_rfl) ?_
        refine T.pure 54 (.int .i64 (((2 * (root : Int)) + 1) + 1)) (by kernel_rfl) (fun w => by kernel_rfl) ?_
        refine T.pure 8 (.int .i64 (((2 * (root : Int)) + 1) + 1)) (by kernel_rfl) (fun w => by kernel_rfl) ?_
        refine T.nil ?_
        refine QN.blkNormal ?_
        refine QN.back (2 * root + 1 + 1, Sort.swp dd (first + root) (first + (((2 * root) + 1) + 1))) ?_ ?_ (by kernel_rfl) (fun w h => h.perm ((((List.Perm.refl _).cons _).trans (List.Perm.swap _ _ _)).trans ((List.Perm.refl _).cons _)))
        · show (2 * root + 1 + 1) ≤ n ∧ (Sort.swp dd (first + root) (first + (((2 * root) + 1) + 1))).size = n ∧ Sort.siftDown lt hi first (2 * root + 1 + 1) (Sort.swp dd (first + root) (first + (((2 * root) + 1) + 1))) = Sort.siftDown lt hi first lo d
          exact ⟨by omega, by rw [Sort.size_swp]; exact hdd, (sd_go1 h2' h4 h5).trans he⟩
        · show hi - (2 * root + 1 + 1) < hi - root; omega
    · skip
      refine W.skip ?_
      refine QN.seq ?_
      refine W.seq ?_
      refine W.seq ?_
      refine W.region [(0, false), (1, false), (2, false), (3, false), (4, false), (5, false), (6, false), (7, false), (8, false), (9, false)] (by kernel_rfl) ?_
      refine T.pure 35 (.pointer (some ⟨b1, 0, none⟩)) (by kernel_rfl) (fun w => by kernel_rfl) ?_
      refine T.load false 36 (.func (.func kf) #[] lb) 100 b1 0 (by kernel_rfl) (by kernel_rfl) (by kernel_rfl) (fun w h => St.cellM h (.head _) (by kernel_rfl)) ?_
      refine T.pure 37 (.int .i64 ((first : Int))) (by kernel_rfl) (fun w => by kernel_rfl) ?_
      refine T.pure 38 (.int .i64 ((root : Int))) (by kernel_rfl) (fun w => by kernel_rfl) ?_
      refine T.pureE 39 (.int .i64 (IntKind.i64.wrap ((first : Int) + (root : Int)))) (.int .i64 ((first : Int) + (root : Int))) (by kernel_rfl) (fun w => by kernel_rfl) (wrap_int (by omega) (by omega)) ?_
      refine T.pure 40 (.int .i64 ((first : Int))) (by kernel_rfl) (fun w => by kernel_rfl) ?_
      refine T.pure 41 (.int .i64 ((2 * (root : Int)) + 1)) (by kernel_rfl) (fun w => by kernel_rfl) ?_
      refine T.pureE 42 (.int .i64 (IntKind.i64.wrap ((first : Int) + ((2 * (root : Int)) + 1)))) (.int .i64 ((first : Int) + ((2 * (root : Int)) + 1))) (by kernel_rfl) (fun w => by kernel_rfl) (wrap_int (by omega) (by omega)) ?_
      refine T.callP 43 kf (#[.int .i64 ((first : Int) + (root : Int)), .int .i64 ((first : Int) + ((2 * (root : Int)) + 1))] ++ lb) (.bool (lt dd[(first + root)]! dd[(first + ((2 * root) + 1))]!)) (by kernel_rfl) (by kernel_rfl) hS.ent ?_ (fun _ _ => trivial) ?_
      · exact fun w hw => hS.less ((b1, .cells #[.func (.func kf) #[] lb, .func (.func sf) #[] sb] 119 (0, 0)) :: H') dd w ((first : Int) + (root : Int)) ((first : Int) + ((2 * (root : Int)) + 1)) (first + root) (first + ((2 * root) + 1)) (by first | assumption | (simp only [Sort.size_swp]; assumption)) (by omega) (by omega) (by omega) (by omega) (show St w00 ((g, .cells (rowb dd tail) ty (0, 0)) :: ((b1, .cells #[.func (.func kf) #[] lb, .func (.func sf) #[] sb] 119 (0, 0)) :: (H' ++ H0))) w from (hw.perm ((((List.Perm.refl _).cons _).trans (List.Perm.swap _ _ _)).trans ((List.Perm.refl _).cons _))))
      refine T.pure 44 (.bool (!(lt dd[(first + root)]! dd[(first + ((2 * root) + 1))]!))) (by kernel_rfl) (fun w => by kernel_rfl) ?_
      refine T.nil ?_
      refine QN.seq ?_
      refine W.cond (!(lt dd[(first + root)]! dd[(first + ((2 * root) + 1))]!)) (by kernel_rfl) (fun h6 => ?_) (fun h6 => ?_)
      · skip
        have h6n := not_eq_true h6
        refine W.ret ?_
        refine QN.thenRet ?_
        refine QN.blkRet ?_
        refine QN.thenRet ?_
        refine QN.blkRet ?_
        refine QN.done0 (.inl rfl) rfl (fun w hw => ?_)
        exact ⟨rfl, by rw [show Sort.siftDown lt hi first lo d = dd from by rw [← he, sd_ret2 h2' h4 h6]]; exact ((hw.perm (((List.Perm.refl _).cons _).trans (List.Perm.swap _ _ _))).part (((List.Sublist.refl _).cons _).cons_cons _))⟩
      · skip
        have h6n := not_eq_false h6
        refine W.skip ?_
        refine QN.seq ?_
        refine W.seq ?_
        refine W.region [(0, false), (1, false), (2, false), (3, false), (4, false), (5, false), (6, false), (7, false), (8, false)] (by kernel_rfl) ?_
        refine T.pure 45 (.pointer (some ⟨b1, 1, none⟩)) (by kernel_rfl) (fun w => by kernel_rfl) ?_
        refine T.load false 46 (.func (.func sf) #[] sb) 114 b1 1 (by kernel_rfl) (by kernel_rfl) (by kernel_rfl) (fun w h => St.cellM h (.head _) (by kernel_rfl)) ?_
        refine T.pure 47 (.int .i64 ((first : Int))) (by kernel_rfl) (fun w => by kernel_rfl) ?_
        refine T.pure 48 (.int .i64 ((root : Int))) (by kernel_rfl) (fun w => by kernel_rfl) ?_
        refine T.pureE 49 (.int .i64 (IntKind.i64.wrap ((first : Int) + (root : Int)))) (.int .i64 ((first : Int) + (root : Int))) (by kernel_rfl) (fun w => by kernel_rfl) (wrap_int (by omega) (by omega)) ?_
        refine T.pure 50 (.int .i64 ((first : Int))) (by kernel_rfl) (fun w => by kernel_rfl) ?_
        refine T.pure 51 (.int .i64 ((2 * (root : Int)) + 1)) (by kernel_rfl) (fun w => by kernel_rfl) ?_
        refine T.pureE 52 (.int .i64 (IntKind.i64.wrap ((first : Int) + ((2 * (root : Int)) + 1)))) (.int .i64 ((first : Int) + ((2 * (root : Int)) + 1))) (by kernel_rfl) (fun w => by kernel_rfl) (wrap_int (by omega) (by omega)) ?_
        refine T.callV 53 sf (#[.int .i64 ((first : Int) + (root : Int)), .int .i64 ((first : Int) + ((2 * (root : Int)) + 1))] ++ sb) (.tuple #[]) (St w00 ((g, .cells (rowb (Sort.swp dd (first + root) (first + ((2 * root) + 1))) tail) ty (0, 0)) :: ((b1, .cells #[.func (.func kf) #[] lb, .func (.func sf) #[] sb] 119 (0, 0)) :: (H' ++ H0)))) (by kernel_rfl) (by kernel_rfl) ?_ (fun _ _ => trivial) ?_
        · exact fun w hw => hS.swap ((b1, .cells #[.func (.func kf) #[] lb, .func (.func sf) #[] sb] 119 (0, 0)) :: H') dd w ((first : Int) + (root : Int)) ((first : Int) + ((2 * (root : Int)) + 1)) (first + root) (first + ((2 * root) + 1)) (by first | assumption | (simp only [Sort.size_swp]; assumption)) (by omega) (by omega) (by omega) (by omega) (show St w00 ((g, .cells (rowb dd tail) ty (0, 0)) :: ((b1, .cells #[.func (.func kf) #[] lb, .func (.func sf) #[] sb] 119 (0, 0)) :: (H' ++ H0))) w from (hw.perm ((((List.Perm.refl _).cons _).trans (List.Perm.swap _ _ _)).trans ((List.Perm.refl _).cons _))))
        refine T.nil ?_
        refine QN.seq ?_
        refine W.region [(0, false), (1, false)] (by kernel_rfl) ?_
        refine T.pure 54 (.int .i64 ((2 * (root : Int)) + 1)) (by kernel_rfl) (fun w => by kernel_rfl) ?_
        refine T.pure 8 (.int .i64 ((2 * (root : Int)) + 1)) (by kernel_rfl) (fun w => by kernel_rfl) ?_
        refine T.nil ?_
        refine QN.blkNormal ?_
        refine QN.back (2 * root + 1, Sort.swp dd (first + root) (first + ((2 * root) + 1))) ?_ ?_ (by kernel_rfl) (fun w h => h.perm ((((List.Perm.refl _).cons _).trans (List.Perm.swap _ _ _)).trans ((List.Perm.refl _).cons _)))
        · show (2 * root + 1) ≤ n ∧ (Sort.swp dd (first + root) (first + ((2 * root) + 1))).size = n ∧ Sort.siftDown lt hi first (2 * root + 1) (Sort.swp dd (first + root) (first + ((2 * root) + 1))) = Sort.siftDown lt hi first lo d
          exact ⟨by omega, by rw [Sort.size_swp]; exact hdd, (sd_go2 h2' h4 h6).trans he⟩
        · show hi - (2 * root + 1) < hi - root; omega
section
variable {α : Type} [Inhabited α] {lt : α → α → Bool}
theorem size_sift (hi first root : Nat) (d : Array α) : (Sort.siftDown lt hi first root d).size = d.size := by
  fun_induction Sort.siftDown lt hi first root d <;> simp_all [Sort.size_swp]
theorem hb_step {hi first k : Nat} {d : Array α} (h : 0 < k) : Sort.heapBuild lt hi first (k - 1) (Sort.siftDown lt hi first (k - 1) d) = Sort.heapBuild lt hi first k d := by
  obtain ⟨j, rfl⟩ : ∃ j, k = j + 1 := ⟨k - 1, by omega⟩
  rfl
theorem hs_end {a b k k2 : Nat} {d dd d2 : Array α} (e0 : k = 0) (e1 : k2 = 0) (he : Sort.heapBuild lt (b - a) a k dd = Sort.heapBuild lt (b - a) a ((b - a - 1) / 2 + 1) d) (he2 : Sort.heapPop lt a k2 d2 = Sort.heapPop lt a (b - a) dd) : Sort.heapSort lt d a b = d2 := by
  subst e0; subst e1
  rw [Sort.heapSort, ← he, show Sort.heapBuild lt (b - a) a 0 dd = dd from rfl, ← he2]; rfl
theorem hp_step {first k : Nat} {d : Array α} (h : 0 < k) : Sort.heapPop lt first (k - 1) (Sort.siftDown lt (k - 1) first 0 (Sort.swp d first (first + (k - 1)))) = Sort.heapPop lt first k d := by
  obtain ⟨j, rfl⟩ : ∃ j, k = j + 1 := ⟨k - 1, by omega⟩
  rfl
end
set_option maxRecDepth 100000 in
set_option maxHeartbeats 2000000 in
theorem heapSort_c {α : Type} [Cel α] [Inhabited α] {w00 : World} {g n : Nat} {ty : TypeId} {tail : List Value} {lt : α → α → Bool} {kf : Nat} {lb : Array Value} {sf : Nat} {sb : Array Value} {H0 : List (Nat × Obj)} (hS : SortOk Try.prog α w00 g n ty tail lt kf lb sf sb H0) (hn : n ≤ 1000) (d : Array α) (a b : Nat) (hd : d.size = n) (hab : a < b) (hb : b ≤ n) (H' : List (Nat × Obj)) (w : World) (hst : St w00 ((g, .cells (rowb d tail) ty (0, 0)) :: (H' ++ H0)) w) : Calls Try.prog 106 #[.agg #[.func (.func kf) #[] lb, .func (.func sf) #[] sb], .int .i64 ((a : Int)), .int .i64 ((b : Int))] w (fun rr w' => rr = .returned (.tuple #[]) ∧ St w00 ((g, .cells (rowb (Sort.heapSort lt d a b) tail) ty (0, 0)) :: (H' ++ H0)) w') := by
  refine calls_W (n := 45) Try.func106 rfl [(0, .agg #[.func (.func kf) #[] lb, .func (.func sf) #[] sb]), (1, .int .i64 ((a : Int))), (2, .int .i64 ((b : Int)))] rfl ⟨by kernel_rfl, by kernel_rfl⟩ ?_
  refine W.weak (Ψ := St w00 ((g, .cells (rowb d tail) ty (0, 0)) :: (H' ++ H0))) (fun w' h => by rw [h]; exact hst) ?_
  refine W.seq ?_
  refine W.region [(0, false)] (by kernel_rfl) ?_
  refine T.box 3 119 (.agg #[.func (.func kf) #[] lb, .func (.func sf) #[] sb]) (#[.func (.func kf) #[] lb, .func (.func sf) #[] sb]) (by kernel_rfl) (by kernel_rfl) (by kernel_rfl) (fun _ _ _ => trivial) (fun b1 => ?_)
  refine T.nil ?_
  refine QN.seq ?_
  refine W.seq ?_
  refine W.region [(0, false), (1, false)] (by kernel_rfl) ?_
  refine T.pure 11 (.int .i64 ((a : Int))) (by kernel_rfl) (fun w => by kernel_rfl) ?_
  refine T.pure 6 (.int .i64 ((a : Int))) (by kernel_rfl) (fun w => by kernel_rfl) ?_
  refine T.nil ?_
  refine QN.seq ?_
  refine W.seq ?_
  refine W.region [(0, false)] (by kernel_rfl) ?_
  refine T.pure 7 (.int .i64 (0)) (by kernel_rfl) (fun w => by kernel_rfl) ?_
  refine T.nil ?_
  refine QN.seq ?_
  refine W.seq ?_
  refine W.region [(0, false), (1, false), (2, false), (3, false)] (by kernel_rfl) ?_
  refine T.pure 12 (.int .i64 ((b : Int))) (by kernel_rfl) (fun w => by kernel_rfl) ?_
  refine T.pure 13 (.int .i64 ((a : Int))) (by kernel_rfl) (fun w => by kernel_rfl) ?_
  refine T.pureE 14 (.int .i64 (IntKind.i64.wrap ((b : Int) - (a : Int)))) (.int .i64 ((b : Int) - (a : Int))) (by kernel_rfl) (fun w => by kernel_rfl) (wrap_int (by omega) (by omega)) ?_
  refine T.pureE 8 (.int .i64 ((b : Int) - (a : Int))) (.int .i64 (((b - a : Nat) : Int))) (by kernel_rfl) (fun w => by kernel_rfl) (int_eq (by omega)) ?_
  refine T.nil ?_
  refine QN.seq ?_
  refine W.seq ?_
  refine W.seq ?_
  refine W.region [(0, false), (1, false), (2, false), (3, false)] (by kernel_rfl) ?_
  refine T.pure 15 (.int .i64 (((b - a : Nat) : Int))) (by kernel_rfl) (fun w => by kernel_rfl) ?_
  refine T.pureE 16 (.int .i64 (IntKind.i64.wrap (((b - a : Nat) : Int) - 1))) (.int .i64 (((b - a : Nat) : Int) - 1)) (by kernel_rfl) (fun w => by kernel_rfl) (wrap_int (by omega) (by omega)) ?_
  refine T.pureE 17 (.int .i64 (IntKind.i64.wrap ((((b - a : Nat) : Int) - 1).tdiv 2))) (.int .i64 ((((b - a : Nat) : Int) - 1) / 2)) (by kernel_rfl) (fun w => by kernel_rfl) (quo_int (by omega) (by decide) (by omega)) ?_
  refine T.pure 9 (.int .i64 ((((b - a : Nat) : Int) - 1) / 2)) (by kernel_rfl) (fun w => by kernel_rfl) ?_
  refine T.nil ?_
  refine QN.seq ?_
  refine W.block ?_
  refine W.cast 9 (.int .i64 ((((b - a : Nat) : Int) - 1) / 2)) (.int .i64 ((((b - a - 1) / 2 + 1 : Nat) : Int) - 1)) (by kernel_rfl) (int_eq (by omega)) ?_
  refine W.loop (σ := Nat × Array α) (fun gs => gs.1 ≤ (b - a - 1) / 2 + 1 ∧ gs.2.size = n ∧ Sort.heapBuild lt (b - a) a gs.1 gs.2 = Sort.heapBuild lt (b - a) a ((b - a - 1) / 2 + 1) d) (fun gs => [(3, .pointer (some ⟨b1, 0, none⟩)), (6, .int .i64 ((a : Int))), (7, .int .i64 (0)), (8, .int .i64 (((b - a : Nat) : Int))), (9, .int .i64 ((gs.1 : Int) - 1))]) (fun gs => St w00 ((b1, .cells #[.func (.func kf) #[] lb, .func (.func sf) #[] sb] 119 (0, 0)) :: ((g, .cells (rowb gs.2 tail) ty (0, 0)) :: (H' ++ H0)))) (fun gs => gs.1) ((b - a - 1) / 2 + 1, d) ?_ (by kernel_rfl) (fun w h => h) ?_
  · show ((b - a - 1) / 2 + 1) ≤ (b - a - 1) / 2 + 1 ∧ d.size = n ∧ Sort.heapBuild lt (b - a) a ((b - a - 1) / 2 + 1) d = Sort.heapBuild lt (b - a) a ((b - a - 1) / 2 + 1) d
    exact ⟨Nat.le_refl _, hd, rfl⟩
  rintro ⟨k, dd⟩ hI_
  obtain ⟨hk, hdd, he⟩ : k ≤ (b - a - 1) / 2 + 1 ∧ dd.size = n ∧ Sort.heapBuild lt (b - a) a k dd = Sort.heapBuild lt (b - a) a ((b - a - 1) / 2 + 1) d := hI_
  show W _ _ [(3, .pointer (some ⟨b1, 0, none⟩)), (6, .int .i64 ((a : Int))), (7, .int .i64 (0)), (8, .int .i64 (((b - a : Nat) : Int))), (9, .int .i64 ((k : Int) - 1))] (St w00 ((b1, .cells #[.func (.func kf) #[] lb, .func (.func sf) #[] sb] 119 (0, 0)) :: ((g, .cells (rowb dd tail) ty (0, 0)) :: (H' ++ H0)))) _ _
  refine W.seq ?_
  refine W.seq ?_
  refine W.region [(0, false), (1, false)] (by kernel_rfl) ?_
  refine T.pure 18 (.int .i64 ((k : Int) - 1)) (by kernel_rfl) (fun w => by kernel_rfl) ?_
  refine T.pure 19 (.bool (decide (0 ≤ ((k : Int) - 1)))) (by kernel_rfl) (fun w => by kernel_rfl) ?_
  refine T.nil ?_
  refine QN.seq ?_
  refine W.cond (decide (0 ≤ ((k : Int) - 1))) (by kernel_rfl) (fun h2 => ?_) (fun h2 => ?_)
  · skip
    have h2' := of_decide_eq_true h2
    refine W.skip ?_
    refine QN.seq ?_
    refine W.seq ?_
    refine W.block ?_
    refine W.region [(0, false), (1, false), (2, false), (3, false), (4, false)] (by kernel_rfl) ?_
    refine T.loadR false 22 #[.func (.func kf) #[] lb, .func (.func sf) #[] sb] 119 b1 0 (by kernel_rfl) (by kernel_rfl) (by kernel_rfl) (by kernel_rfl) (fun w h => St.rangeM h #[.func (.func kf) #[] lb, .func (.func sf) #[] sb] (.head _) (by kernel_rfl)) ?_
    refine T.pureE 23 (.int .i64 ((k : Int) - 1)) (.int .i64 (((k - 1 : Nat) : Int))) (by kernel_rfl) (fun w => by kernel_rfl) (int_eq (by omega)) ?_
    refine T.pure 24 (.int .i64 (((b - a : Nat) : Int))) (by kernel_rfl) (fun w => by kernel_rfl) ?_
    refine T.pure 25 (.int .i64 ((a : Int))) (by kernel_rfl) (fun w => by kernel_rfl) ?_
    refine T.callW 26 114 #[.agg #[.func (.func kf) #[] lb, .func (.func sf) #[] sb], .int .i64 (((k - 1 : Nat) : Int)), .int .i64 (((b - a : Nat) : Int)), .int .i64 ((a : Int))] (.tuple #[]) (St w00 ((g, .cells (rowb (Sort.siftDown lt (b - a) a (k - 1) dd) tail) ty (0, 0)) :: ((b1, .cells #[.func (.func kf) #[] lb, .func (.func sf) #[] sb] 119 (0, 0)) :: (H' ++ H0)))) (by kernel_rfl) (by kernel_rfl) ent114 ?_ (fun _ _ => trivial) ?_
    · exact fun w hw => siftDown_c hS hn dd (k - 1) (b - a) a (by first | assumption | (simp only [Sort.size_swp]; assumption)) (by omega) (by omega) ((b1, .cells #[.func (.func kf) #[] lb, .func (.func sf) #[] sb] 119 (0, 0)) :: H') w (show St w00 ((g, .cells (rowb dd tail) ty (0, 0)) :: ((b1, .cells #[.func (.func kf) #[] lb, .func (.func sf) #[] sb] 119 (0, 0)) :: (H' ++ H0))) w from (hw.perm ((((List.Perm.refl _).cons _).trans (List.Perm.swap _ _ _)).trans ((List.Perm.refl _).cons _))))
    refine T.nil ?_
    refine QN.blkNormal ?_
    refine QN.seq ?_
    refine W.region [(0, false), (1, false), (2, false)] (by kernel_rfl) ?_
    refine T.pure 20 (.int .i64 ((k : Int) - 1)) (by kernel_rfl) (fun w => by kernel_rfl) ?_
    refine T.pureE 21 (.int .i64 (IntKind.i64.wrap (((k : Int) - 1) - 1))) (.int .i64 (((k : Int) - 1) - 1)) (by kernel_rfl) (fun w => by kernel_rfl) (wrap_int (by omega) (by omega)) ?_
    refine T.pure 9 (.int .i64 (((k : Int) - 1) - 1)) (by kernel_rfl) (fun w => by kernel_rfl) ?_
    refine T.nil ?_
    refine QN.cast 9 (.int .i64 (((k : Int) - 1) - 1)) (.int .i64 (((k - 1 : Nat) : Int) - 1)) (by kernel_rfl) (int_eq (by omega)) ?_
    refine QN.back (k - 1, Sort.siftDown lt (b - a) a (k - 1) dd) ?_ ?_ (by kernel_rfl) (fun w h => h.perm ((((List.Perm.refl _).cons _).trans (List.Perm.swap _ _ _)).trans ((List.Perm.refl _).cons _)))
    · show (k - 1) ≤ (b - a - 1) / 2 + 1 ∧ (Sort.siftDown lt (b - a) a (k - 1) dd).size = n ∧ Sort.heapBuild lt (b - a) a (k - 1) (Sort.siftDown lt (b - a) a (k - 1) dd) = Sort.heapBuild lt (b - a) a ((b - a - 1) / 2 + 1) d
      exact ⟨by omega, by rw [size_sift]; exact hdd, (hb_step (by omega)).trans he⟩
    · show _ < _; omega
  · skip
    have h2' := of_decide_eq_false h2
    refine W.exit ?_
    refine QN.thenExit ?_
    refine QN.thenExit ?_
    refine QN.blkHit ?_
    refine QN.seq ?_
    refine W.seq ?_
    refine W.region [(0, false), (1, false), (2, false)] (by kernel_rfl) ?_
    refine T.pure 27 (.int .i64 (((b - a : Nat) : Int))) (by kernel_rfl) (fun w => by kernel_rfl) ?_
    refine T.pureE 28 (.int .i64 (IntKind.i64.wrap (((b - a : Nat) : Int) - 1))) (.int .i64 (((b - a : Nat) : Int) - 1)) (by kernel_rfl) (fun w => by kernel_rfl) (wrap_int (by omega) (by omega)) ?_
    refine T.pure 10 (.int .i64 (((b - a : Nat) : Int) - 1)) (by kernel_rfl) (fun w => by kernel_rfl) ?_
    refine T.nil ?_
    refine QN.seq ?_
    refine W.block ?_
    refine W.loop (σ := Nat × Array α) (fun gs => gs.1 ≤ b - a ∧ gs.2.size = n ∧ Sort.heapPop lt a gs.1 gs.2 = Sort.heapPop lt a (b - a) dd) (fun gs => [(3, .pointer (some ⟨b1, 0, none⟩)), (6, .int .i64 ((a : Int))), (7, .int .i64 (0)), (10, .int .i64 ((gs.1 : Int) - 1))]) (fun gs => St w00 ((b1, .cells #[.func (.func kf) #[] lb, .func (.func sf) #[] sb] 119 (0, 0)) :: ((g, .cells (rowb gs.2 tail) ty (0, 0)) :: (H' ++ H0)))) (fun gs => gs.1) (b - a, dd) ?_ (by kernel_rfl) (fun w h => h) ?_
    · show (b - a) ≤ b - a ∧ dd.size = n ∧ Sort.heapPop lt a (b - a) dd = Sort.heapPop lt a (b - a) dd
      exact ⟨Nat.le_refl _, hdd, rfl⟩
    rintro ⟨k2, d2⟩ hI_
    obtain ⟨hk2, hd2, he2⟩ : k2 ≤ b - a ∧ d2.size = n ∧ Sort.heapPop lt a k2 d2 = Sort.heapPop lt a (b - a) dd := hI_
    show W _ _ [(3, .pointer (some ⟨b1, 0, none⟩)), (6, .int .i64 ((a : Int))), (7, .int .i64 (0)), (10, .int .i64 ((k2 : Int) - 1))] (St w00 ((b1, .cells #[.func (.func kf) #[] lb, .func (.func sf) #[] sb] 119 (0, 0)) :: ((g, .cells (rowb d2 tail) ty (0, 0)) :: (H' ++ H0)))) _ _
    refine W.seq ?_
    refine W.seq ?_
    refine W.region [(0, false), (1, false)] (by kernel_rfl) ?_
    refine T.pure 29 (.int .i64 ((k2 : Int) - 1)) (by kernel_rfl) (fun w => by kernel_rfl) ?_
    refine T.pure 30 (.bool (decide (0 ≤ ((k2 : Int) - 1)))) (by kernel_rfl) (fun w => by kernel_rfl) ?_
    refine T.nil ?_
    refine QN.seq ?_
    refine W.cond (decide (0 ≤ ((k2 : Int) - 1))) (by kernel_rfl) (fun h3 => ?_) (fun h3 => ?_)
    · skip
      have h3' := of_decide_eq_true h3
      refine W.skip ?_
      refine QN.seq ?_
      refine W.seq ?_
      refine W.block ?_
      refine W.seq ?_
      refine W.region [(0, false), (1, false), (2, false), (3, false), (4, false), (5, false), (6, false)] (by kernel_rfl) ?_
      refine T.pure 33 (.pointer (some ⟨b1, 1, none⟩)) (by kernel_rfl) (fun w => by kernel_rfl) ?_
      refine T.load false 34 (.func (.func sf) #[] sb) 114 b1 1 (by kernel_rfl) (by kernel_rfl) (by kernel_rfl) (fun w h => St.cellM h (.head _) (by kernel_rfl)) ?_
      refine T.pure 35 (.int .i64 ((a : Int))) (by kernel_rfl) (fun w => by kernel_rfl) ?_
      refine T.pure 36 (.int .i64 ((a : Int))) (by kernel_rfl) (fun w => by kernel_rfl) ?_
      refine T.pure 37 (.int .i64 ((k2 : Int) - 1)) (by kernel_rfl) (fun w => by kernel_rfl) ?_
      refine T.pureE 38 (.int .i64 (IntKind.i64.wrap ((a : Int) + ((k2 : Int) - 1)))) (.int .i64 ((a : Int) + ((k2 : Int) - 1))) (by kernel_rfl) (fun w => by kernel_rfl) (wrap_int (by omega) (by omega)) ?_
      refine T.callV 39 sf (#[.int .i64 ((a : Int)), .int .i64 ((a : Int) + ((k2 : Int) - 1))] ++ sb) (.tuple #[]) (St w00 ((g, .cells (rowb (Sort.swp d2 a (a + (k2 - 1))) tail) ty (0, 0)) :: ((b1, .cells #[.func (.func kf) #[] lb, .func (.func sf) #[] sb] 119 (0, 0)) :: (H' ++ H0)))) (by kernel_rfl) (by kernel_rfl) ?_ (fun _ _ => trivial) ?_
      · exact fun w hw => hS.swap ((b1, .cells #[.func (.func kf) #[] lb, .func (.func sf) #[] sb] 119 (0, 0)) :: H') d2 w ((a : Int)) ((a : Int) + ((k2 : Int) - 1)) a (a + (k2 - 1)) (by first | assumption | (simp only [Sort.size_swp]; assumption)) (by omega) (by omega) (by omega) (by omega) (show St w00 ((g, .cells (rowb d2 tail) ty (0, 0)) :: ((b1, .cells #[.func (.func kf) #[] lb, .func (.func sf) #[] sb] 119 (0, 0)) :: (H' ++ H0))) w from (hw.perm ((((List.Perm.refl _).cons _).trans (List.Perm.swap _ _ _)).trans ((List.Perm.refl _).cons _))))
      refine T.nil ?_
      refine QN.seq ?_
      refine W.region [(0, false), (1, false), (2, false), (3, false), (4, false)] (by kernel_rfl) ?_
      refine T.loadR false 40 #[.func (.func kf) #[] lb, .func (.func sf) #[] sb] 119 b1 0 (by kernel_rfl) (by kernel_rfl) (by kernel_rfl) (by kernel_rfl) (fun w h => St.rangeM h #[.func (.func kf) #[] lb, .func (.func sf) #[] sb] (.tail _ (.head _)) (by kernel_rfl)) ?_
      refine T.pure 41 (.int .i64 (0)) (by kernel_rfl) (fun w => by kernel_rfl) ?_
      refine T.pureE 42 (.int .i64 ((k2 : Int) - 1)) (.int .i64 (((k2 - 1 : Nat) : Int))) (by kernel_rfl) (fun w => by kernel_rfl) (int_eq (by omega)) ?_
      refine T.pure 43 (.int .i64 ((a : Int))) (by kernel_rfl) (fun w => by kernel_rfl) ?_
      refine T.callW 44 114 #[.agg #[.func (.func kf) #[] lb, .func (.func sf) #[] sb], .int .i64 (0), .int .i64 (((k2 - 1 : Nat) : Int)), .int .i64 ((a : Int))] (.tuple #[]) (St w00 ((g, .cells (rowb (Sort.siftDown lt (k2 - 1) a 0 (Sort.swp d2 a (a + (k2 - 1)))) tail) ty (0, 0)) :: ((b1, .cells #[.func (.func kf) #[] lb, .func (.func sf) #[] sb] 119 (0, 0)) :: (H' ++ H0)))) (by kernel_rfl) (by kernel_rfl) ent114 ?_ (fun _ _ => trivial) ?_
      · exact fun w hw => siftDown_c hS hn (Sort.swp d2 a (a + (k2 - 1))) 0 (k2 - 1) a (by first | assumption | (simp only [Sort.size_swp]; assumption)) (by omega) (by omega) ((b1, .cells #[.func (.func kf) #[] lb, .func (.func sf) #[] sb] 119 (0, 0)) :: H') w (show St w00 ((g, .cells (rowb (Sort.swp d2 a (a + (k2 - 1))) tail) ty (0, 0)) :: ((b1, .cells #[.func (.func kf) #[] lb, .func (.func sf) #[] sb] 119 (0, 0)) :: (H' ++ H0))) w from (hw))
      refine T.nil ?_
      refine QN.blkNormal ?_
      refine QN.seq ?_
      refine W.region [(0, false), (1, false), (2, false)] (by kernel_rfl) ?_
      refine T.pure 31 (.int .i64 ((k2 : Int) - 1)) (by kernel_rfl) (fun w => by kernel_rfl) ?_
      refine T.pureE 32 (.int .i64 (IntKind.i64.wrap (((k2 : Int) - 1) - 1))) (.int .i64 (((k2 : Int) - 1) - 1)) (by kernel_rfl) (fun w => by kernel_rfl) (wrap_int (by omega) (by omega)) ?_
      refine T.pure 10 (.int .i64 (((k2 : Int) - 1) - 1)) (by kernel_rfl) (fun w => by kernel_rfl) ?_
      refine T.nil ?_
      refine QN.cast 10 (.int .i64 (((k2 : Int) - 1) - 1)) (.int .i64 (((k2 - 1 : Nat) : Int) - 1)) (by kernel_rfl) (int_eq (by omega)) ?_
      refine QN.back (k2 - 1, Sort.siftDown lt (k2 - 1) a 0 (Sort.swp d2 a (a + (k2 - 1)))) ?_ ?_ (by kernel_rfl) (fun w h => h.perm ((((List.Perm.refl _).cons _).trans (List.Perm.swap _ _ _)).trans ((List.Perm.refl _).cons _)))
      · show (k2 - 1) ≤ b - a ∧ (Sort.siftDown lt (k2 - 1) a 0 (Sort.swp d2 a (a + (k2 - 1)))).size = n ∧ Sort.heapPop lt a (k2 - 1) (Sort.siftDown lt (k2 - 1) a 0 (Sort.swp d2 a (a + (k2 - 1)))) = Sort.heapPop lt a (b - a) dd
        exact ⟨by omega, by rw [size_sift, Sort.size_swp]; exact hd2, (hp_step (by omega)).trans he2⟩
      · show _ < _; omega
    · skip
      have h3' := of_decide_eq_false h3
      refine W.exit ?_
      refine QN.thenExit ?_
      refine QN.thenExit ?_
      refine QN.blkHit ?_
      refine QN.done0 (.inr rfl) rfl (fun w hw => ?_)
      exact ⟨rfl, by rw [hs_end (by omega) (by omega) he he2]; exact ((hw.perm (((List.Perm.refl _).cons _).trans (List.Perm.swap _ _ _))).part (((List.Sublist.refl _).cons _).cons_cons _))⟩
section
variable {α : Type} [Inhabited α]
theorem rv_step {i j : Nat} {d : Array α} (h : (i : Int) < (j : Int)) : Sort.reverseLoop (i + 1) (j - 1) (Sort.swp d i j) = Sort.reverseLoop i j d := by
  conv => rhs; rw [Sort.reverseLoop]
  rw [if_pos (by omega)]
theorem rv_stop {i j : Nat} {d : Array α} (h : ¬ (i : Int) < (j : Int)) : Sort.reverseLoop i j d = d := by rw [Sort.reverseLoop, if_neg (by omega)]
end
set_option maxRecDepth 100000 in
set_option maxHeartbeats 2000000 in
theorem reverse_c {α : Type} [Cel α] [Inhabited α] {w00 : World} {g n : Nat} {ty : TypeId} {tail : List Value} {lt : α → α → Bool} {kf : Nat} {lb : Array Value} {sf : Nat} {sb : Array Value} {H0 : List (Nat × Obj)} (hS : SortOk Try.prog α w00 g n ty tail lt kf lb sf sb H0) (hn : n ≤ 1000) (d : Array α) (a b : Nat) (hd : d.size = n) (hab : a < b) (hb : b ≤ n) (H' : List (Nat × Obj)) (w : World) (hst : St w00 ((g, .cells (rowb d tail) ty (0, 0)) :: (H' ++ H0)) w) : Calls Try.prog 109 #[.agg #[.func (.func kf) #[] lb, .func (.func sf) #[] sb], .int .i64 ((a : Int)), .int .i64 ((b : Int))] w (fun rr w' => rr = .returned (.tuple #[]) ∧ St w00 ((g, .cells (rowb (Sort.reverseRange d a b) tail) ty (0, 0)) :: (H' ++ H0)) w') := by
  refine calls_W (n := 23) Try.func109 rfl [(0, .agg #[.func (.func kf) #[] lb, .func (.func sf) #[] sb]), (1, .int .i64 ((a : Int))), (2, .int .i64 ((b : Int)))] rfl ⟨by kernel_rfl, by kernel_rfl⟩ ?_
  refine W.weak (Ψ := St w00 ((g, .cells (rowb d tail) ty (0, 0)) :: (H' ++ H0))) (fun w' h => by rw [h]; exact hst) ?_
  refine W.seq ?_
  refine W.region [(0, false)] (by kernel_rfl) ?_
  refine T.box 3 119 (.agg #[.func (.func kf) #[] lb, .func (.func sf) #[] sb]) (#[.func (.func kf) #[] lb, .func (.func sf) #[] sb]) (by kernel_rfl) (by kernel_rfl) (by kernel_rfl) (fun _ _ _ => trivial) (fun b1 => ?_)
  refine T.nil ?_
  refine QN.seq ?_
  refine W.seq ?_
  refine W.region [(0, false), (1, false)] (by kernel_rfl) ?_
  refine T.pure 8 (.int .i64 ((a : Int))) (by kernel_rfl) (fun w => by kernel_rfl) ?_
  refine T.pure 6 (.int .i64 ((a : Int))) (by kernel_rfl) (fun w => by kernel_rfl) ?_
  refine T.nil ?_
  refine QN.seq ?_
  refine W.seq ?_
  refine W.region [(0, false), (1, false), (2, false)] (by kernel_rfl) ?_
  refine T.pure 9 (.int .i64 ((b : Int))) (by kernel_rfl) (fun w => by kernel_rfl) ?_
  refine T.pureE 10 (.int .i64 (IntKind.i64.wrap ((b : Int) - 1))) (.int .i64 ((b : Int) - 1)) (by kernel_rfl) (fun w => by kernel_rfl) (wrap_int (by omega) (by omega)) ?_
  refine T.pureE 7 (.int .i64 ((b : Int) - 1)) (.int .i64 (((b - 1 : Nat) : Int))) (by kernel_rfl) (fun w => by kernel_rfl) (int_eq (by omega)) ?_
  refine T.nil ?_
  refine QN.seq ?_
  refine W.block ?_
  refine W.loop (σ := Nat × Nat × Array α) (fun gs => gs.1 ≤ gs.2.1 + 1 ∧ gs.2.1 < n ∧ gs.2.2.size = n ∧ Sort.reverseLoop gs.1 gs.2.1 gs.2.2 = Sort.reverseLoop a (b - 1) d) (fun gs => [(3, .pointer (some ⟨b1, 0, none⟩)), (6, .int .i64 ((gs.1 : Int))), (7, .int .i64 ((gs.2.1 : Int)))]) (fun gs => St w00 ((b1, .cells #[.func (.func kf) #[] lb, .func (.func sf) #[] sb] 119 (0, 0)) :: ((g, .cells (rowb gs.2.2 tail) ty (0, 0)) :: (H' ++ H0)))) (fun gs => gs.2.1 - gs.1) (a, b - 1, d) ?_ (by kernel_rfl) (fun w h => h) ?_
  · show a ≤ (b - 1) + 1 ∧ (b - 1) < n ∧ d.size = n ∧ Sort.reverseLoop a (b - 1) d = Sort.reverseLoop a (b - 1) d
    exact ⟨by omega, by omega, hd, rfl⟩
  rintro ⟨i, j, dd⟩ hI_
  obtain ⟨hij, hj, hdd, he⟩ : i ≤ j + 1 ∧ j < n ∧ dd.size = n ∧ Sort.reverseLoop i j dd = Sort.reverseLoop a (b - 1) d := hI_
  show W _ _ [(3, .pointer (some ⟨b1, 0, none⟩)), (6, .int .i64 ((i : Int))), (7, .int .i64 ((j : Int)))] (St w00 ((b1, .cells #[.func (.func kf) #[] lb, .func (.func sf) #[] sb] 119 (0, 0)) :: ((g, .cells (rowb dd tail) ty (0, 0)) :: (H' ++ H0)))) _ _
  refine W.seq ?_
  refine W.seq ?_
  refine W.region [(0, false), (1, false), (2, false)] (by kernel_rfl) ?_
  refine T.pure 11 (.int .i64 ((i : Int))) (by kernel_rfl) (fun w => by kernel_rfl) ?_
  refine T.pure 12 (.int .i64 ((j : Int))) (by kernel_rfl) (fun w => by kernel_rfl) ?_
  refine T.pure 13 (.bool (decide ((i : Int) < (j : Int)))) (by kernel_rfl) (fun w => by kernel_rfl) ?_
  refine T.nil ?_
  refine QN.seq ?_
  refine W.cond (decide ((i : Int) < (j : Int))) (by kernel_rfl) (fun h2 => ?_) (fun h2 => ?_)
  · skip
    have h2' := of_decide_eq_true h2
    refine W.skip ?_
    refine QN.seq ?_
    refine W.block ?_
    refine W.seq ?_
    refine W.region [(0, false), (1, false), (2, false), (3, false), (4, false)] (by kernel_rfl) ?_
    refine T.pure 14 (.pointer (some ⟨b1, 1, none⟩)) (by kernel_rfl) (fun w => by kernel_rfl) ?_
    refine T.load false 15 (.func (.func sf) #[] sb) 114 b1 1 (by kernel_rfl) (by kernel_rfl) (by kernel_rfl) (fun w h => St.cellM h (.head _) (by kernel_rfl)) ?_
    refine T.pure 16 (.int .i64 ((i : Int))) (by kernel_rfl) (fun w => by kernel_rfl) ?_
    refine T.pure 17 (.int .i64 ((j : Int))) (by kernel_rfl) (fun w => by kernel_rfl) ?_
    refine T.callV 18 sf (#[.int .i64 ((i : Int)), .int .i64 ((j : Int))] ++ sb) (.tuple #[]) (St w00 ((g, .cells (rowb (Sort.swp dd i j) tail) ty (0, 0)) :: ((b1, .cells #[.func (.func kf) #[] lb, .func (.func sf) #[] sb] 119 (0, 0)) :: (H' ++ H0)))) (by kernel_rfl) (by kernel_rfl) ?_ (fun _ _ => trivial) ?_
    · exact fun w hw => hS.swap ((b1, .cells #[.func (.func kf) #[] lb, .func (.func sf) #[] sb] 119 (0, 0)) :: H') dd w ((i : Int)) ((j : Int)) i j (by first | assumption | (simp only [Sort.size_swp]; assumption)) (by omega) (by omega) (by omega) (by omega) (show St w00 ((g, .cells (rowb dd tail) ty (0, 0)) :: ((b1, .cells #[.func (.func kf) #[] lb, .func (.func sf) #[] sb] 119 (0, 0)) :: (H' ++ H0))) w from (hw.perm ((((List.Perm.refl _).cons _).trans (List.Perm.swap _ _ _)).trans ((List.Perm.refl _).cons _))))
    refine T.nil ?_
    refine QN.seq ?_
    refine W.seq ?_
    refine W.region [(0, false), (1, false), (2, false)] (by kernel_rfl) ?_
    refine T.pure 19 (.int .i64 ((i : Int))) (by kernel_rfl) (fun w => by kernel_rfl) ?_
    refine T.pureE 20 (.int .i64 (IntKind.i64.wrap ((i : Int) + 1))) (.int .i64 ((i : Int) + 1)) (by kernel_rfl) (fun w => by kernel_rfl) (wrap_int (by omega) (by omega)) ?_
    refine T.pure 6 (.int .i64 ((i : Int) + 1)) (by kernel_rfl) (fun w => by kernel_rfl) ?_
    refine T.nil ?_
    refine QN.seq ?_
    refine W.region [(0, false), (1, false), (2, false)] (by kernel_rfl) ?_
    refine T.pure 21 (.int .i64 ((j : Int))) (by kernel_rfl) (fun w => by kernel_rfl) ?_
    refine T.pureE 22 (.int .i64 (IntKind.i64.wrap ((j : Int) - 1))) (.int .i64 ((j : Int) - 1)) (by kernel_rfl) (fun w => by kernel_rfl) (wrap_int (by omega) (by omega)) ?_
    refine T.pureE 7 (.int .i64 ((j : Int) - 1)) (.int .i64 (((j - 1 : Nat) : Int))) (by kernel_rfl) (fun w => by kernel_rfl) (int_eq (by omega)) ?_
    refine T.nil ?_
    refine QN.blkNormal ?_
    refine QN.back (i + 1, j - 1, Sort.swp dd i j) ?_ ?_ (by kernel_rfl) (fun w h => h.perm ((((List.Perm.refl _).cons _).trans (List.Perm.swap _ _ _)).trans ((List.Perm.refl _).cons _)))
    · show (i + 1) ≤ (j - 1) + 1 ∧ (j - 1) < n ∧ (Sort.swp dd i j).size = n ∧ Sort.reverseLoop (i + 1) (j - 1) (Sort.swp dd i j) = Sort.reverseLoop a (b - 1) d
      exact ⟨by omega, by omega, by rw [Sort.size_swp]; exact hdd, (rv_step h2').trans he⟩
    · show (j - 1) - (i + 1) < j - i; omega
  · skip
    have h2' := of_decide_eq_false h2
    refine W.exit ?_
    refine QN.thenExit ?_
    refine QN.thenExit ?_
    refine QN.blkHit ?_
    refine QN.done0 (.inr rfl) rfl (fun w hw => ?_)
    exact ⟨rfl, by rw [show Sort.reverseRange d a b = dd from by rw [Sort.reverseRange, ← he, rv_stop h2']]; exact ((hw.perm (((List.Perm.refl _).cons _).trans (List.Perm.swap _ _ _))).part (((List.Sublist.refl _).cons _).cons_cons _))⟩
end Go.Proofs.Ythhgdkodhokefaa
