/- Go's sort over a row, part 1. -/
import Derived.Test.YtphnfhonmbbddaaGE
import Derived.Test.YtphnfhonmbbddaaGA
namespace Go.Proofs.Ytphnfhonmbbddaa
open Go Go.RowKit
set_option linter.unusedVariables false

section
variable {α : Type} [Inhabited α] {lt : α → α → Bool}
theorem ins_step {a j : Nat} {d : Array α} (h : ((decide ((a : Int) < (j : Int))) && (lt d[j]! d[j - 1]!)) = true) : Sort.insInner lt a (j - 1) (Sort.swp d j (j - 1)) = Sort.insInner lt a j d := by
  rw [Bool.and_eq_true, decide_eq_true_eq] at h
  obtain ⟨k, rfl⟩ : ∃ k, j = k + 1 := ⟨j - 1, by omega⟩
  have h2 := h.2
  rw [Nat.add_sub_cancel] at h2 ⊢
  rw [Sort.insInner]
  rw [if_pos (by rw [Bool.and_eq_true, decide_eq_true_eq]; exact ⟨by omega, h2⟩)]
theorem ins_stop {a j : Nat} {d : Array α} (h : ((decide ((a : Int) < (j : Int))) && (lt d[j]! d[j - 1]!)) = false) : Sort.insInner lt a j d = d := by
  cases j with
  | zero => rfl
  | succ k =>
    rw [Sort.insInner]
    rw [Nat.add_sub_cancel] at h
    rw [if_neg]
    rw [Bool.and_eq_true, decide_eq_true_eq]
    rintro ⟨h1, h2⟩
    rw [h2, Bool.and_true, decide_eq_false_iff_not] at h
    omega
theorem insO_step {a b i : Nat} {d d' : Array α} (hi : i < b) (h : d' = Sort.insInner lt a i d) : Sort.insOuter lt a b (i + 1) d' = Sort.insOuter lt a b i d := by
  rw [h]; conv => rhs; rw [Sort.insOuter]
  rw [if_pos hi]
theorem insO_stop {a b i : Nat} {d : Array α} (hi : ¬ i < b) : Sort.insOuter lt a b i d = d := by rw [Sort.insOuter, if_neg hi]
end
set_option maxRecDepth 100000 in
set_option maxHeartbeats 2000000 in
theorem insSort_c {α : Type} [Cel α] [Inhabited α] {w00 : World} {g n : Nat} {ty : TypeId} {tail : List Value} {lt : α → α → Bool} {kf : Nat} {lb : Array Value} {sf : Nat} {sb : Array Value} {H0 : List (Nat × Obj)} (hS : SortOk Try.prog α w00 g n ty tail lt kf lb sf sb H0) (hn : n ≤ 1000) (d : Array α) (a b : Nat) (hd : d.size = n) (hab : a ≤ b) (hb : b ≤ n) (H' : List (Nat × Obj)) (w : World) (hst : St w00 ((g, .cells (rowb d tail) ty (0, 0)) :: (H' ++ H0)) w) : Calls Try.prog 102 #[.agg (LS kf lb sf sb), .int .i64 a, .int .i64 b] w (fun rr w' => rr = .returned (.tuple #[]) ∧ St w00 ((g, .cells (rowb (Sort.insertionSort lt d a b) tail) ty (0, 0)) :: (H' ++ H0)) w') := by
 refine calls_W (n := 35) Try.func102 rfl [(0, .agg (LS kf lb sf sb)), (1, .int .i64 a), (2, .int .i64 b)] rfl ⟨by kernel_rfl, by kernel_rfl⟩ (W.weak (Ψ := St w00 ((g, Obj.cells (rowb d tail) ty (0, 0)) :: (H' ++ H0))) (fun w' h => by rw [h]; exact hst) (W.seq (W.rg od1 (T.bx 3 116 (.agg (LS kf lb sf sb)) ((LS kf lb sf sb)) tv3 (fun b1 => T.nil (QN.seq (W.seq (W.rg od3 (T.pi 8 a (T.pw 9 ((a : Int) + 1) (T.pi 6 ((a : Int) + 1) (T.nil (QN.seq (W.block (W.loop (σ := Nat × Array α) (fun gs => a + 1 ≤ gs.1 ∧ gs.1 ≤ b + 1 ∧ gs.2.size = n ∧ Sort.insOuter lt a b gs.1 gs.2 = Sort.insOuter lt a b (a + 1) d) (fun gs => [(1, .int .i64 a), (2, .int .i64 b), (3, .pointer (some ⟨b1, 0, none⟩)), (6, .int .i64 (gs.1 : Int))]) (fun gs => St w00 ((b1, Obj.cells (LS kf lb sf sb) 116 (0, 0)) :: ((g, Obj.cells (rowb gs.2 tail) ty (0, 0)) :: (H' ++ H0)))) (fun gs => b + 1 - gs.1) (a + 1, d) ?_ (by kernel_rfl) (fun w h => h) ?_)))))))))))))))
 ·
  try dsimp only
  exact ⟨Nat.le_refl _, by omega, hd, rfl⟩
 rintro ⟨i, dd⟩ hI_
 obtain ⟨hi1, hi2, hdd, he⟩ : a + 1 ≤ i ∧ i ≤ b + 1 ∧ dd.size = n ∧ Sort.insOuter lt a b i dd = Sort.insOuter lt a b (a + 1) d := hI_
 refine W.seq (W.seq (W.rg od3 (T.pi 10 i (T.pi 11 b (T.pb 12 (decide ((i : Int) < (b : Int))) (T.nil (QN.seq (W.cd (decide ((i : Int) < (b : Int))) (fun h2 => ?_) (fun h2 => ?_)))))))))
 ·
  have h2' := of_decide_eq_true h2
  refine W.skip (QN.seq (W.seq (W.block (W.seq (W.rg od2 (T.pi 15 i (T.pi 7 i (T.nil (QN.seq (W.block (W.loop (σ := Nat × Array α) (fun gs => a ≤ gs.1 ∧ gs.1 ≤ i ∧ gs.2.size = n ∧ Sort.insInner lt a gs.1 gs.2 = Sort.insInner lt a i dd) (fun gs => [(1, .int .i64 a), (2, .int .i64 b), (3, .pointer (some ⟨b1, 0, none⟩)), (6, .int .i64 i), (7, .int .i64 (gs.1 : Int)), (10, .int .i64 i), (11, .int .i64 b), (12, .bool (decide ((i : Int) < (b : Int)))), (15, .int .i64 i)]) (fun gs => St w00 ((b1, Obj.cells (LS kf lb sf sb) 116 (0, 0)) :: ((g, Obj.cells (rowb gs.2 tail) ty (0, 0)) :: (H' ++ H0)))) (fun gs => gs.1) (i, dd) ?_ (by kernel_rfl) (fun w h => h) ?_)))))))))))
  ·
   try dsimp only
   exact ⟨by omega, Nat.le_refl _, hdd, rfl⟩
  rintro ⟨j, d2⟩ hI_
  obtain ⟨hj1, hj2, hd2, he2⟩ : a ≤ j ∧ j ≤ i ∧ d2.size = n ∧ Sort.insInner lt a j d2 = Sort.insInner lt a i dd := hI_
  refine W.seq (W.seq (W.rg od11 (T.pi 16 j (T.pi 17 a (T.pb 18 (decide ((a : Int) < (j : Int))) (T.pb 19 (decide ((a : Int) < (j : Int))) (T.bk [(4, false), (5, false), (6, false), (7, false), (8, false), (9, false)] [(10, false)] 3 true (decide ((a : Int) < (j : Int))) 19 25 (.bool (lt d2[j]! d2[(j - 1)]!)) (fun hg3 => ?_) ?_)))))))
  ·
   have hg3_ := hg3
   have hg3' := of_decide_eq_true hg3
   refine T.pu 20 (.pointer (some ⟨b1, 0, none⟩)) (T.ld false 21 (.func (.func kf) #[] lb) 90 b1 0 (fun w h => St.cellM h mm0 (by kernel_rfl)) (T.pi 22 j (T.pi 23 j (T.pw 24 ((j : Int) - 1) (T.cp 25 kf (#[.int .i64 j, .int .i64 ((j : Int) - 1)] ++ lb) (.bool (lt d2[j]! d2[(j - 1)]!)) hS.ent ?_ tv2 ?_)))))
   · exact fun w hw => hS.less ((b1, Obj.cells (LS kf lb sf sb) 116 (0, 0)) :: H') d2 w (j : Int) ((j : Int) - 1) j (j - 1) (by first | assumption | (simp only [Sort.size_swp]; assumption)) (by omega) (by omega) (by omega) (by omega) (show St w00 ((g, Obj.cells (rowb d2 tail) ty (0, 0)) :: ((b1, Obj.cells (LS kf lb sf sb) 116 (0, 0)) :: (H' ++ H0))) w from (hw.perm (pm1.trans (pm0.cons _))))
   exact T.blkEnd (by kernel_rfl) (fun w h => h)
  refine T.an 26 (decide ((a : Int) < (j : Int))) (lt d2[j]! d2[(j - 1)]!) (T.nil (QN.seq (W.cd ((decide ((a : Int) < (j : Int))) && (lt d2[j]! d2[(j - 1)]!)) (fun h4 => ?_) (fun h4 => ?_))))
  ·
   have h4l := (Bool.and_eq_true_iff.1 h4).1
   have h4r := (Bool.and_eq_true_iff.1 h4).2
   have h4l' := of_decide_eq_true h4l
   refine W.skip (QN.seq (W.seq (W.block (W.rg od6 (T.pu 29 (.pointer (some ⟨b1, 1, none⟩)) (T.ld false 30 (.func (.func sf) #[] sb) 111 b1 1 (fun w h => St.cellM h mm0 (by kernel_rfl)) (T.pi 31 j (T.pi 32 j (T.pw 33 ((j : Int) - 1) (T.callV 34 sf (#[.int .i64 j, .int .i64 ((j : Int) - 1)] ++ sb) (.tuple #[]) (St w00 ((g, Obj.cells (rowb (Sort.swp d2 j (j - 1)) tail) ty (0, 0)) :: ((b1, Obj.cells (LS kf lb sf sb) 116 (0, 0)) :: (H' ++ H0)))) (by kernel_rfl) (by kernel_rfl) ?_ tv2 ?_))))))))))
   · exact fun w hw => hS.swap ((b1, Obj.cells (LS kf lb sf sb) 116 (0, 0)) :: H') d2 w (j : Int) ((j : Int) - 1) j (j - 1) (by first | assumption | (simp only [Sort.size_swp]; assumption)) (by omega) (by omega) (by omega) (by omega) (show St w00 ((g, Obj.cells (rowb d2 tail) ty (0, 0)) :: ((b1, Obj.cells (LS kf lb sf sb) 116 (0, 0)) :: (H' ++ H0))) w from (hw.perm (pm1.trans (pm0.cons _))))
   refine T.nil (QN.blkNormal (QN.seq (W.rg od3 (T.pi 27 j (T.pw 28 ((j : Int) - 1) (T.pi 7 ((j : Int) - 1) (T.nil (QN.cast 7 (.int .i64 ((j : Int) - 1)) (.int .i64 ((j - 1 : Nat) : Int)) (by kernel_rfl) (int_eq (by omega)) (QN.back (j - 1, Sort.swp d2 j (j - 1)) ?_ ?_ (by kernel_rfl) (fun w h => h.perm (pm1.trans (pm0.cons _))))))))))))
   ·
    try dsimp only
    exact ⟨by omega, by omega, by rw [Sort.size_swp]; exact hd2, (ins_step h4).trans he2⟩
   · show _ < _; omega
  ·
   refine W.exit (QN.thenExit (QN.thenExit (QN.blkHit (QN.blkNormal (QN.seq (W.rg od3 (T.pi 13 i (T.pw 14 ((i : Int) + 1) (T.pi 6 ((i : Int) + 1) (T.nil (QN.back (i + 1, d2) ?_ ?_ (by kernel_rfl) (fun w h => h))))))))))))
   ·
    try dsimp only
    exact ⟨by omega, by omega, hd2, (insO_step (by omega) ((ins_stop h4).symm.trans he2)).trans he⟩
   · show b + 1 - (i + 1) < b + 1 - i; omega
 ·
  have h2' := of_decide_eq_false h2
  refine W.exit (QN.thenExit (QN.thenExit (QN.blkHit (QN.done0 (.inr rfl) rfl (fun w hw => ?_)))))
  exact ⟨rfl, by rw [show Sort.insertionSort lt d a b = dd from by rw [Sort.insertionSort, ← he, insO_stop (by omega)]]; exact ((hw.perm pm1).part (((List.Sublist.refl _).cons _).cons_cons _))⟩
section
variable {α : Type} [Inhabited α] {lt : α → α → Bool}
theorem sd_c {hi root : Nat} {z : Bool} {r : Bool} (c : ((decide (((2 * (root : Int)) + 1) + 1 < (hi : Int))) && z) = r) : ((decide (2 * root + 1 + 1 < hi)) && z) = r := by
  rw [← c]; congr 1; exact decide_eq_decide.2 (by omega)
theorem sd_stop {hi first root : Nat} {d : Array α} (h : (hi : Int) ≤ (2 * (root : Int)) + 1) : Sort.siftDown lt hi first root d = d := by rw [Sort.siftDown, dif_pos (by omega)]
theorem sd_ret1 {hi first root : Nat} {d : Array α} (h : ¬ (hi : Int) ≤ (2 * (root : Int)) + 1) (c : ((decide (((2 * (root : Int)) + 1) + 1 < (hi : Int))) && (lt d[(first + ((2 * root) + 1))]! d[((first + ((2 * root) + 1)) + 1)]!)) = true) (h2 : (!(lt d[(first + root)]! d[(first + (((2 * root) + 1) + 1))]!)) = true) : Sort.siftDown lt hi first root d = d := by
  rw [Sort.siftDown, dif_neg (by omega), if_pos (sd_c c), if_pos h2]
theorem sd_ret2 {hi first root : Nat} {d : Array α} (h : ¬ (hi : Int) ≤ (2 * (root : Int)) + 1) (c : ((decide (((2 * (root : Int)) + 1) + 1 < (hi : Int))) && (lt d[(first + ((2 * root) + 1))]! d[((first + ((2 * root) + 1)) + 1)]!)) = false) (h2 : (!(lt d[(first + root)]! d[(first + ((2 * root) + 1))]!)) = true) : Sort.siftDown lt hi first root d = d := by
  rw [Sort.siftDown, dif_neg (by omega), if_neg (by rw [sd_c c]; simp), if_pos h2]
theorem sd_go1 {hi first root : Nat} {d : Array α} (h : ¬ (hi : Int) ≤ (2 * (root : Int)) + 1) (c : ((decide (((2 * (root : Int)) + 1) + 1 < (hi : Int))) && (lt d[(first + ((2 * root) + 1))]! d[((first + ((2 * root) + 1)) + 1)]!)) = true) (h2 : (!(lt d[(first + root)]! d[(first + (((2 * root) + 1) + 1))]!)) = false) :
    Sort.siftDown lt hi first (2 * root + 1 + 1) (Sort.swp d (first + root) (first + (((2 * root) + 1) + 1))) = Sort.siftDown lt hi first root d := by
  have hc := sd_c c
  rw [Bool.and_eq_true, decide_eq_true_eq] at hc
  conv => rhs; rw [Sort.siftDown]
  rw [dif_neg (by omega), if_pos (sd_c c), if_neg (by rw [show (2 * root + 2) = 2 * root + 1 + 1 from rfl, h2]; simp), dif_pos (by omega)]
theorem sd_go2 {hi first root : Nat} {d : Array α} (h : ¬ (hi : Int) ≤ (2 * (root : Int)) + 1) (c : ((decide (((2 * (root : Int)) + 1) + 1 < (hi : Int))) && (lt d[(first + ((2 * root) + 1))]! d[((first + ((2 * root) + 1)) + 1)]!)) = false) (h2 : (!(lt d[(first + root)]! d[(first + ((2 * root) + 1))]!)) = false) :
    Sort.siftDown lt hi first (2 * root + 1) (Sort.swp d (first + root) (first + ((2 * root) + 1))) = Sort.siftDown lt hi first root d := by
  conv => rhs; rw [Sort.siftDown]
  rw [dif_neg (by omega), if_neg (by rw [sd_c c]; simp), if_neg (by rw [h2]; simp)]
end
set_option maxRecDepth 100000 in
set_option maxHeartbeats 2000000 in
theorem siftDown_c {α : Type} [Cel α] [Inhabited α] {w00 : World} {g n : Nat} {ty : TypeId} {tail : List Value} {lt : α → α → Bool} {kf : Nat} {lb : Array Value} {sf : Nat} {sb : Array Value} {H0 : List (Nat × Obj)} (hS : SortOk Try.prog α w00 g n ty tail lt kf lb sf sb H0) (hn : n ≤ 1000) (d : Array α) (lo hi first : Nat) (hd : d.size = n) (hfh : first + hi ≤ n) (hlo : lo ≤ n) (H' : List (Nat × Obj)) (w : World) (hst : St w00 ((g, .cells (rowb d tail) ty (0, 0)) :: (H' ++ H0)) w) : Calls Try.prog 129 #[.agg (LS kf lb sf sb), .int .i64 lo, .int .i64 hi, .int .i64 first] w (fun rr w' => rr = .returned (.tuple #[]) ∧ St w00 ((g, .cells (rowb (Sort.siftDown lt hi first lo d) tail) ty (0, 0)) :: (H' ++ H0)) w') := by
 refine calls_W (n := 55) Try.func129 rfl [(0, .agg (LS kf lb sf sb)), (1, .int .i64 lo), (2, .int .i64 hi), (3, .int .i64 first)] rfl ⟨by kernel_rfl, by kernel_rfl⟩ (W.weak (Ψ := St w00 ((g, Obj.cells (rowb d tail) ty (0, 0)) :: (H' ++ H0))) (fun w' h => by rw [h]; exact hst) (W.seq (W.rg od1 (T.bx 4 116 (.agg (LS kf lb sf sb)) ((LS kf lb sf sb)) tv3 (fun b1 => T.nil (QN.seq (W.seq (W.rg od2 (T.pi 10 lo (T.pi 8 lo (T.nil (QN.seq (W.block (W.loop (σ := Nat × Array α) (fun gs => gs.1 ≤ n ∧ gs.2.size = n ∧ Sort.siftDown lt hi first gs.1 gs.2 = Sort.siftDown lt hi first lo d) (fun gs => [(2, .int .i64 hi), (3, .int .i64 first), (4, .pointer (some ⟨b1, 0, none⟩)), (8, .int .i64 (gs.1 : Int))]) (fun gs => St w00 ((b1, Obj.cells (LS kf lb sf sb) 116 (0, 0)) :: ((g, Obj.cells (rowb gs.2 tail) ty (0, 0)) :: (H' ++ H0)))) (fun gs => hi - gs.1) (lo, d) ?_ (by kernel_rfl) (fun w h => h) ?_))))))))))))))
 ·
  try dsimp only
  exact ⟨hlo, hd, rfl⟩
 rintro ⟨root, dd⟩ hI_
 obtain ⟨hroot, hdd, he⟩ : root ≤ n ∧ dd.size = n ∧ Sort.siftDown lt hi first root dd = Sort.siftDown lt hi first lo d := hI_
 refine W.block (W.seq (W.rg od4 (T.pi 11 root (T.pw 12 (2 * (root : Int)) (T.pw 13 ((2 * (root : Int)) + 1) (T.pi 9 ((2 * (root : Int)) + 1) (T.nil (QN.seq (W.seq (W.seq (W.rg od3 (T.pi 14 ((2 * (root : Int)) + 1) (T.pi 15 hi (T.pb 16 (decide ((hi : Int) ≤ ((2 * (root : Int)) + 1))) (T.nil (QN.seq (W.cd (decide ((hi : Int) ≤ ((2 * (root : Int)) + 1))) (fun h2 => ?_) (fun h2 => ?_))))))))))))))))))
 ·
  have h2' := of_decide_eq_true h2
  refine W.exit (QN.thenExit (QN.blkMiss (by decide) (QN.thenExit (QN.blkHit (QN.done0 (.inr rfl) rfl (fun w hw => ?_))))))
  exact ⟨rfl, by rw [show Sort.siftDown lt hi first lo d = dd from by rw [← he, sd_stop h2']]; exact ((hw.perm pm1).part (((List.Sublist.refl _).cons _).cons_cons _))⟩
 ·
  have h2' := of_decide_eq_false h2
  refine W.skip (QN.seq (W.seq (W.seq (W.rg od16 (T.pi 17 ((2 * (root : Int)) + 1) (T.pw 18 (((2 * (root : Int)) + 1) + 1) (T.pi 19 hi (T.pb 20 (decide ((((2 * (root : Int)) + 1) + 1) < (hi : Int))) (T.pb 21 (decide ((((2 * (root : Int)) + 1) + 1) < (hi : Int))) (T.bk [(5, false), (6, false), (7, false), (8, false), (9, false), (10, false), (11, false), (12, false), (13, false), (14, false)] [(15, false)] 4 true (decide ((((2 * (root : Int)) + 1) + 1) < (hi : Int))) 21 31 (.bool (lt dd[(first + ((2 * root) + 1))]! dd[((first + ((2 * root) + 1)) + 1)]!)) (fun hg3 => ?_) ?_))))))))))
  ·
   have hg3_ := hg3
   have hg3' := of_decide_eq_true hg3
   refine T.pu 22 (.pointer (some ⟨b1, 0, none⟩)) (T.ld false 23 (.func (.func kf) #[] lb) 90 b1 0 (fun w h => St.cellM h mm0 (by kernel_rfl)) (T.pi 24 first (T.pi 25 ((2 * (root : Int)) + 1) (T.pw 26 ((first : Int) + ((2 * (root : Int)) + 1)) (T.pi 27 first (T.pi 28 ((2 * (root : Int)) + 1) (T.pw 29 ((first : Int) + ((2 * (root : Int)) + 1)) (T.pw 30 (((first : Int) + ((2 * (root : Int)) + 1)) + 1) (T.cp 31 kf (#[.int .i64 ((first : Int) + ((2 * (root : Int)) + 1)), .int .i64 (((first : Int) + ((2 * (root : Int)) + 1)) + 1)] ++ lb) (.bool (lt dd[(first + ((2 * root) + 1))]! dd[((first + ((2 * root) + 1)) + 1)]!)) hS.ent ?_ tv2 ?_)))))))))
   · exact fun w hw => hS.less ((b1, Obj.cells (LS kf lb sf sb) 116 (0, 0)) :: H') dd w ((first : Int) + ((2 * (root : Int)) + 1)) (((first : Int) + ((2 * (root : Int)) + 1)) + 1) (first + ((2 * root) + 1)) ((first + ((2 * root) + 1)) + 1) (by first | assumption | (simp only [Sort.size_swp]; assumption)) (by omega) (by omega) (by omega) (by omega) (show St w00 ((g, Obj.cells (rowb dd tail) ty (0, 0)) :: ((b1, Obj.cells (LS kf lb sf sb) 116 (0, 0)) :: (H' ++ H0))) w from (hw.perm (pm1.trans (pm0.cons _))))
   exact T.blkEnd (by kernel_rfl) (fun w h => h)
  refine T.an 32 (decide ((((2 * (root : Int)) + 1) + 1) < (hi : Int))) (lt dd[(first + ((2 * root) + 1))]! dd[((first + ((2 * root) + 1)) + 1)]!) (T.nil (QN.seq (W.cd ((decide ((((2 * (root : Int)) + 1) + 1) < (hi : Int))) && (lt dd[(first + ((2 * root) + 1))]! dd[((first + ((2 * root) + 1)) + 1)]!)) (fun h4 => ?_) (fun h4 => ?_))))
  ·
   have h4l := (Bool.and_eq_true_iff.1 h4).1
   have h4r := (Bool.and_eq_true_iff.1 h4).2
   have h4l' := of_decide_eq_true h4l
   refine W.rg od3 (T.pi 33 ((2 * (root : Int)) + 1) (T.pw 34 (((2 * (root : Int)) + 1) + 1) (T.pi 9 (((2 * (root : Int)) + 1) + 1) (T.nil (QN.seq (W.seq (W.seq (W.rg od10 (T.pu 35 (.pointer (some ⟨b1, 0, none⟩)) (T.ld false 36 (.func (.func kf) #[] lb) 90 b1 0 (fun w h => St.cellM h mm0 (by kernel_rfl)) (T.pi 37 first (T.pi 38 root (T.pw 39 ((first : Int) + (root : Int)) (T.pi 40 first (T.pi 41 (((2 * (root : Int)) + 1) + 1) (T.pw 42 ((first : Int) + (((2 * (root : Int)) + 1) + 1)) (T.cp 43 kf (#[.int .i64 ((first : Int) + (root : Int)), .int .i64 ((first : Int) + (((2 * (root : Int)) + 1) + 1))] ++ lb) (.bool (lt dd[(first + root)]! dd[(first + (((2 * root) + 1) + 1))]!)) hS.ent ?_ tv2 ?_)))))))))))))))))
   · exact fun w hw => hS.less ((b1, Obj.cells (LS kf lb sf sb) 116 (0, 0)) :: H') dd w ((first : Int) + (root : Int)) ((first : Int) + (((2 * (root : Int)) + 1) + 1)) (first + root) (first + (((2 * root) + 1) + 1)) (by first | assumption | (simp only [Sort.size_swp]; assumption)) (by omega) (by omega) (by omega) (by omega) (show St w00 ((g, Obj.cells (rowb dd tail) ty (0, 0)) :: ((b1, Obj.cells (LS kf lb sf sb) 116 (0, 0)) :: (H' ++ H0))) w from (hw.perm (pm1.trans (pm0.cons _))))
   refine T.pb 44 (!(lt dd[(first + root)]! dd[(first + (((2 * root) + 1) + 1))]!)) (T.nil (QN.seq (W.cd (!(lt dd[(first + root)]! dd[(first + (((2 * root) + 1) + 1))]!)) (fun h5 => ?_) (fun h5 => ?_))))
   ·
    have h5n := not_eq_true h5
    refine W.ret (QN.thenRet (QN.blkRet (QN.thenRet (QN.blkRet (QN.done0 (.inl rfl) rfl (fun w hw => ?_))))))
    exact ⟨rfl, by rw [show Sort.siftDown lt hi first lo d = dd from by rw [← he, sd_ret1 h2' h4 h5]]; exact ((hw.perm pm1).part (((List.Sublist.refl _).cons _).cons_cons _))⟩
   ·
    have h5n := not_eq_false h5
    refine W.skip (QN.seq (W.seq (W.rg od9 (T.pu 45 (.pointer (some ⟨b1, 1, none⟩)) (T.ld false 46 (.func (.func sf) #[] sb) 111 b1 1 (fun w h => St.cellM h mm0 (by kernel_rfl)) (T.pi 47 first (T.pi 48 root (T.pw 49 ((first : Int) + (root : Int)) (T.pi 50 first (T.pi 51 (((2 * (root : Int)) + 1) + 1) (T.pw 52 ((first : Int) + (((2 * (root : Int)) + 1) + 1)) (T.callV 53 sf (#[.int .i64 ((first : Int) + (root : Int)), .int .i64 ((first : Int) + (((2 * (root : Int)) + 1) + 1))] ++ sb) (.tuple #[]) (St w00 ((g, Obj.cells (rowb (Sort.swp dd (first + root) (first + (((2 * root) + 1) + 1))) tail) ty (0, 0)) :: ((b1, Obj.cells (LS kf lb sf sb) 116 (0, 0)) :: (H' ++ H0)))) (by kernel_rfl) (by kernel_rfl) ?_ tv2 ?_))))))))))))
    · exact fun w hw => hS.swap ((b1, Obj.cells (LS kf lb sf sb) 116 (0, 0)) :: H') dd w ((first : Int) + (root : Int)) ((first : Int) + (((2 * (root : Int)) + 1) + 1)) (first + root) (first + (((2 * root) + 1) + 1)) (by first | assumption | (simp only [Sort.size_swp]; assumption)) (by omega) (by omega) (by omega) (by omega) (show St w00 ((g, Obj.cells (rowb dd tail) ty (0, 0)) :: ((b1, Obj.cells (LS kf lb sf sb) 116 (0, 0)) :: (H' ++ H0))) w from (hw.perm (pm1.trans (pm0.cons _))))
    refine T.nil (QN.seq (W.rg od2 (T.pi 54 (((2 * (root : Int)) + 1) + 1) (T.pi 8 (((2 * (root : Int)) + 1) + 1) (T.nil (QN.blkNormal (QN.back (2 * root + 1 + 1, Sort.swp dd (first + root) (first + (((2 * root) + 1) + 1))) ?_ ?_ (by kernel_rfl) (fun w h => h.perm (pm1.trans (pm0.cons _))))))))))
    ·
     try dsimp only
     exact ⟨by omega, by rw [Sort.size_swp]; exact hdd, (sd_go1 h2' h4 h5).trans he⟩
    · show hi - (2 * root + 1 + 1) < hi - root; omega
  ·
   refine W.skip (QN.seq (W.seq (W.seq (W.rg od10 (T.pu 35 (.pointer (some ⟨b1, 0, none⟩)) (T.ld false 36 (.func (.func kf) #[] lb) 90 b1 0 (fun w h => St.cellM h mm0 (by kernel_rfl)) (T.pi 37 first (T.pi 38 root (T.pw 39 ((first : Int) + (root : Int)) (T.pi 40 first (T.pi 41 ((2 * (root : Int)) + 1) (T.pw 42 ((first : Int) + ((2 * (root : Int)) + 1)) (T.cp 43 kf (#[.int .i64 ((first : Int) + (root : Int)), .int .i64 ((first : Int) + ((2 * (root : Int)) + 1))] ++ lb) (.bool (lt dd[(first + root)]! dd[(first + ((2 * root) + 1))]!)) hS.ent ?_ tv2 ?_)))))))))))))
   · exact fun w hw => hS.less ((b1, Obj.cells (LS kf lb sf sb) 116 (0, 0)) :: H') dd w ((first : Int) + (root : Int)) ((first : Int) + ((2 * (root : Int)) + 1)) (first + root) (first + ((2 * root) + 1)) (by first | assumption | (simp only [Sort.size_swp]; assumption)) (by omega) (by omega) (by omega) (by omega) (show St w00 ((g, Obj.cells (rowb dd tail) ty (0, 0)) :: ((b1, Obj.cells (LS kf lb sf sb) 116 (0, 0)) :: (H' ++ H0))) w from (hw.perm (pm1.trans (pm0.cons _))))
   refine T.pb 44 (!(lt dd[(first + root)]! dd[(first + ((2 * root) + 1))]!)) (T.nil (QN.seq (W.cd (!(lt dd[(first + root)]! dd[(first + ((2 * root) + 1))]!)) (fun h6 => ?_) (fun h6 => ?_))))
   ·
    have h6n := not_eq_true h6
    refine W.ret (QN.thenRet (QN.blkRet (QN.thenRet (QN.blkRet (QN.done0 (.inl rfl) rfl (fun w hw => ?_))))))
    exact ⟨rfl, by rw [show Sort.siftDown lt hi first lo d = dd from by rw [← he, sd_ret2 h2' h4 h6]]; exact ((hw.perm pm1).part (((List.Sublist.refl _).cons _).cons_cons _))⟩
   ·
    have h6n := not_eq_false h6
    refine W.skip (QN.seq (W.seq (W.rg od9 (T.pu 45 (.pointer (some ⟨b1, 1, none⟩)) (T.ld false 46 (.func (.func sf) #[] sb) 111 b1 1 (fun w h => St.cellM h mm0 (by kernel_rfl)) (T.pi 47 first (T.pi 48 root (T.pw 49 ((first : Int) + (root : Int)) (T.pi 50 first (T.pi 51 ((2 * (root : Int)) + 1) (T.pw 52 ((first : Int) + ((2 * (root : Int)) + 1)) (T.callV 53 sf (#[.int .i64 ((first : Int) + (root : Int)), .int .i64 ((first : Int) + ((2 * (root : Int)) + 1))] ++ sb) (.tuple #[]) (St w00 ((g, Obj.cells (rowb (Sort.swp dd (first + root) (first + ((2 * root) + 1))) tail) ty (0, 0)) :: ((b1, Obj.cells (LS kf lb sf sb) 116 (0, 0)) :: (H' ++ H0)))) (by kernel_rfl) (by kernel_rfl) ?_ tv2 ?_))))))))))))
    · exact fun w hw => hS.swap ((b1, Obj.cells (LS kf lb sf sb) 116 (0, 0)) :: H') dd w ((first : Int) + (root : Int)) ((first : Int) + ((2 * (root : Int)) + 1)) (first + root) (first + ((2 * root) + 1)) (by first | assumption | (simp only [Sort.size_swp]; assumption)) (by omega) (by omega) (by omega) (by omega) (show St w00 ((g, Obj.cells (rowb dd tail) ty (0, 0)) :: ((b1, Obj.cells (LS kf lb sf sb) 116 (0, 0)) :: (H' ++ H0))) w from (hw.perm (pm1.trans (pm0.cons _))))
    refine T.nil (QN.seq (W.rg od2 (T.pi 54 ((2 * (root : Int)) + 1) (T.pi 8 ((2 * (root : Int)) + 1) (T.nil (QN.blkNormal (QN.back (2 * root + 1, Sort.swp dd (first + root) (first + ((2 * root) + 1))) ?_ ?_ (by kernel_rfl) (fun w h => h.perm (pm1.trans (pm0.cons _))))))))))
    ·
     try dsimp only
     exact ⟨by omega, by rw [Sort.size_swp]; exact hdd, (sd_go2 h2' h4 h6).trans he⟩
    · show hi - (2 * root + 1) < hi - root; omega
section
variable {α : Type} [Inhabited α] {lt : α → α → Bool}
theorem size_sift (hi first root : Nat) (d : Array α) : (Sort.siftDown lt hi first root d).size = d.size := by
  fun_induction Sort.siftDown lt hi first root d <;> simp_all [Sort.size_swp]
theorem hb_step {hi first k : Nat} {d : Array α} (h : 0 < k) : Sort.heapBuild lt hi first (k - 1) (Sort.siftDown lt hi first (k - 1) d) = Sort.heapBuild lt hi first k d := by
  obtain ⟨j, rfl⟩ : ∃ j, k = j + 1 := ⟨k - 1, by omega⟩
  rfl
theorem hs_end {a b k k2 : Nat} {d dd d2 : Array α} (e0 : k = 0) (e1 : k2 = 0) (he : Sort.heapBuild lt (b - a) a k dd = Sort.heapBuild lt (b - a) a ((b - a - 1) / 2 + 1) d) (he2 : Sort.heapPop lt a k2 d2 = Sort.heapPop lt a (b - a) dd) : Sort.heapSort lt d a b = d2 := by
  subst e0; subst e1
  rw [Sort.heapSort, ← he, show Sort.heapBuild lt (b - a) a 0 dd = dd from rfl, ← he2]; rfl
theorem hp_step {first k : Nat} {d : Array α} (h : 0 < k) : Sort.heapPop lt first (k - 1) (Sort.siftDown lt (k - 1) first 0 (Sort.swp d first (first + (k - 1)))) = Sort.heapPop lt first k d := by
  obtain ⟨j, rfl⟩ : ∃ j, k = j + 1 := ⟨k - 1, by omega⟩
  rfl
end
set_option maxRecDepth 100000 in
set_option maxHeartbeats 2000000 in
theorem heapSort_c {α : Type} [Cel α] [Inhabited α] {w00 : World} {g n : Nat} {ty : TypeId} {tail : List Value} {lt : α → α → Bool} {kf : Nat} {lb : Array Value} {sf : Nat} {sb : Array Value} {H0 : List (Nat × Obj)} (hS : SortOk Try.prog α w00 g n ty tail lt kf lb sf sb H0) (hn : n ≤ 1000) (d : Array α) (a b : Nat) (hd : d.size = n) (hab : a < b) (hb : b ≤ n) (H' : List (Nat × Obj)) (w : World) (hst : St w00 ((g, .cells (rowb d tail) ty (0, 0)) :: (H' ++ H0)) w) : Calls Try.prog 103 #[.agg (LS kf lb sf sb), .int .i64 a, .int .i64 b] w (fun rr w' => rr = .returned (.tuple #[]) ∧ St w00 ((g, .cells (rowb (Sort.heapSort lt d a b) tail) ty (0, 0)) :: (H' ++ H0)) w') := by
 refine calls_W (n := 45) Try.func103 rfl [(0, .agg (LS kf lb sf sb)), (1, .int .i64 a), (2, .int .i64 b)] rfl ⟨by kernel_rfl, by kernel_rfl⟩ (W.weak (Ψ := St w00 ((g, Obj.cells (rowb d tail) ty (0, 0)) :: (H' ++ H0))) (fun w' h => by rw [h]; exact hst) (W.seq (W.rg od1 (T.bx 3 116 (.agg (LS kf lb sf sb)) ((LS kf lb sf sb)) tv3 (fun b1 => T.nil (QN.seq (W.seq (W.rg od2 (T.pi 11 a (T.pi 6 a (T.nil (QN.seq (W.seq (W.rg od1 (T.pi 7 0 (T.nil (QN.seq (W.seq (W.rg od4 (T.pi 12 b (T.pi 13 a (T.pw 14 ((b : Int) - (a : Int)) (T.pe 8 (.int .i64 ((b : Int) - (a : Int))) (.int .i64 ((b - a : Nat) : Int)) (int_eq (by omega)) (T.nil (QN.seq (W.seq (W.seq (W.rg od4 (T.pi 15 ((b - a : Nat) : Int) (T.pw 16 (((b - a : Nat) : Int) - 1) (T.pe 17 (.int .i64 (IntKind.i64.wrap ((((b - a : Nat) : Int) - 1).tdiv 2))) (.int .i64 ((((b - a : Nat) : Int) - 1) / 2)) (quo_int (by omega) (by decide) (by omega)) (T.pi 9 ((((b - a : Nat) : Int) - 1) / 2) (T.nil (QN.seq (W.block (W.cast 9 (.int .i64 ((((b - a : Nat) : Int) - 1) / 2)) (.int .i64 ((((b - a - 1) / 2 + 1 : Nat) : Int) - 1)) (by kernel_rfl) (int_eq (by omega)) (W.loop (σ := Nat × Array α) (fun gs => gs.1 ≤ (b - a - 1) / 2 + 1 ∧ gs.2.size = n ∧ Sort.heapBuild lt (b - a) a gs.1 gs.2 = Sort.heapBuild lt (b - a) a ((b - a - 1) / 2 + 1) d) (fun gs => [(3, .pointer (some ⟨b1, 0, none⟩)), (6, .int .i64 a), (7, .int .i64 0), (8, .int .i64 ((b - a : Nat) : Int)), (9, .int .i64 ((gs.1 : Int) - 1))]) (fun gs => St w00 ((b1, Obj.cells (LS kf lb sf sb) 116 (0, 0)) :: ((g, Obj.cells (rowb gs.2 tail) ty (0, 0)) :: (H' ++ H0)))) (fun gs => gs.1) ((b - a - 1) / 2 + 1, d) ?_ (by kernel_rfl) (fun w h => h) ?_)))))))))))))))))))))))))))))))))))))
 ·
  try dsimp only
  exact ⟨Nat.le_refl _, hd, rfl⟩
 rintro ⟨k, dd⟩ hI_
 obtain ⟨hk, hdd, he⟩ : k ≤ (b - a - 1) / 2 + 1 ∧ dd.size = n ∧ Sort.heapBuild lt (b - a) a k dd = Sort.heapBuild lt (b - a) a ((b - a - 1) / 2 + 1) d := hI_
 refine W.seq (W.seq (W.rg od2 (T.pi 18 ((k : Int) - 1) (T.pb 19 (decide (0 ≤ ((k : Int) - 1))) (T.nil (QN.seq (W.cd (decide (0 ≤ ((k : Int) - 1))) (fun h2 => ?_) (fun h2 => ?_))))))))
 ·
  have h2' := of_decide_eq_true h2
  refine W.skip (QN.seq (W.seq (W.block (W.rg od5 (T.lr false 22 (LS kf lb sf sb) 116 b1 0 (fun w h => St.rangeM h (LS kf lb sf sb) mm0 (by kernel_rfl)) (T.pe 23 (.int .i64 ((k : Int) - 1)) (.int .i64 ((k - 1 : Nat) : Int)) (int_eq (by omega)) (T.pi 24 ((b - a : Nat) : Int) (T.pi 25 a (T.callW 26 129 #[.agg (LS kf lb sf sb), .int .i64 ((k - 1 : Nat) : Int), .int .i64 ((b - a : Nat) : Int), .int .i64 a] (.tuple #[]) (St w00 ((g, Obj.cells (rowb (Sort.siftDown lt (b - a) a (k - 1) dd) tail) ty (0, 0)) :: ((b1, Obj.cells (LS kf lb sf sb) 116 (0, 0)) :: (H' ++ H0)))) (by kernel_rfl) (by kernel_rfl) ent129 ?_ tv2 ?_)))))))))
  · exact fun w hw => siftDown_c hS hn dd (k - 1) (b - a) a (by first | assumption | (simp only [Sort.size_swp]; assumption)) (by omega) (by omega) ((b1, Obj.cells (LS kf lb sf sb) 116 (0, 0)) :: H') w (show St w00 ((g, Obj.cells (rowb dd tail) ty (0, 0)) :: ((b1, Obj.cells (LS kf lb sf sb) 116 (0, 0)) :: (H' ++ H0))) w from (hw.perm (pm1.trans (pm0.cons _))))
  refine T.nil (QN.blkNormal (QN.seq (W.rg od3 (T.pi 20 ((k : Int) - 1) (T.pw 21 (((k : Int) - 1) - 1) (T.pi 9 (((k : Int) - 1) - 1) (T.nil (QN.cast 9 (.int .i64 (((k : Int) - 1) - 1)) (.int .i64 (((k - 1 : Nat) : Int) - 1)) (by kernel_rfl) (int_eq (by omega)) (QN.back (k - 1, Sort.siftDown lt (b - a) a (k - 1) dd) ?_ ?_ (by kernel_rfl) (fun w h => h.perm (pm1.trans (pm0.cons _))))))))))))
  ·
   try dsimp only
   exact ⟨by omega, by rw [size_sift]; exact hdd, (hb_step (by omega)).trans he⟩
  · show _ < _; omega
 ·
  have h2' := of_decide_eq_false h2
  refine W.exit (QN.thenExit (QN.thenExit (QN.blkHit (QN.seq (W.seq (W.rg od3 (T.pi 27 ((b - a : Nat) : Int) (T.pw 28 (((b - a : Nat) : Int) - 1) (T.pi 10 (((b - a : Nat) : Int) - 1) (T.nil (QN.seq (W.block (W.loop (σ := Nat × Array α) (fun gs => gs.1 ≤ b - a ∧ gs.2.size = n ∧ Sort.heapPop lt a gs.1 gs.2 = Sort.heapPop lt a (b - a) dd) (fun gs => [(3, .pointer (some ⟨b1, 0, none⟩)), (6, .int .i64 a), (7, .int .i64 0), (10, .int .i64 ((gs.1 : Int) - 1))]) (fun gs => St w00 ((b1, Obj.cells (LS kf lb sf sb) 116 (0, 0)) :: ((g, Obj.cells (rowb gs.2 tail) ty (0, 0)) :: (H' ++ H0)))) (fun gs => gs.1) (b - a, dd) ?_ (by kernel_rfl) (fun w h => h) ?_)))))))))))))
  ·
   try dsimp only
   exact ⟨Nat.le_refl _, hdd, rfl⟩
  rintro ⟨k2, d2⟩ hI_
  obtain ⟨hk2, hd2, he2⟩ : k2 ≤ b - a ∧ d2.size = n ∧ Sort.heapPop lt a k2 d2 = Sort.heapPop lt a (b - a) dd := hI_
  refine W.seq (W.seq (W.rg od2 (T.pi 29 ((k2 : Int) - 1) (T.pb 30 (decide (0 ≤ ((k2 : Int) - 1))) (T.nil (QN.seq (W.cd (decide (0 ≤ ((k2 : Int) - 1))) (fun h3 => ?_) (fun h3 => ?_))))))))
  ·
   have h3' := of_decide_eq_true h3
   refine W.skip (QN.seq (W.seq (W.block (W.seq (W.rg od7 (T.pu 33 (.pointer (some ⟨b1, 1, none⟩)) (T.ld false 34 (.func (.func sf) #[] sb) 111 b1 1 (fun w h => St.cellM h mm0 (by kernel_rfl)) (T.pi 35 a (T.pi 36 a (T.pi 37 ((k2 : Int) - 1) (T.pw 38 ((a : Int) + ((k2 : Int) - 1)) (T.callV 39 sf (#[.int .i64 a, .int .i64 ((a : Int) + ((k2 : Int) - 1))] ++ sb) (.tuple #[]) (St w00 ((g, Obj.cells (rowb (Sort.swp d2 a (a + (k2 - 1))) tail) ty (0, 0)) :: ((b1, Obj.cells (LS kf lb sf sb) 116 (0, 0)) :: (H' ++ H0)))) (by kernel_rfl) (by kernel_rfl) ?_ tv2 ?_))))))))))))
   · exact fun w hw => hS.swap ((b1, Obj.cells (LS kf lb sf sb) 116 (0, 0)) :: H') d2 w (a : Int) ((a : Int) + ((k2 : Int) - 1)) a (a + (k2 - 1)) (by first | assumption | (simp only [Sort.size_swp]; assumption)) (by omega) (by omega) (by omega) (by omega) (show St w00 ((g, Obj.cells (rowb d2 tail) ty (0, 0)) :: ((b1, Obj.cells (LS kf lb sf sb) 116 (0, 0)) :: (H' ++ H0))) w from (hw.perm (pm1.trans (pm0.cons _))))
   refine T.nil (QN.seq (W.rg od5 (T.lr false 40 (LS kf lb sf sb) 116 b1 0 (fun w h => St.rangeM h (LS kf lb sf sb) mm1 (by kernel_rfl)) (T.pi 41 0 (T.pe 42 (.int .i64 ((k2 : Int) - 1)) (.int .i64 ((k2 - 1 : Nat) : Int)) (int_eq (by omega)) (T.pi 43 a (T.callW 44 129 #[.agg (LS kf lb sf sb), .int .i64 0, .int .i64 ((k2 - 1 : Nat) : Int), .int .i64 a] (.tuple #[]) (St w00 ((g, Obj.cells (rowb (Sort.siftDown lt (k2 - 1) a 0 (Sort.swp d2 a (a + (k2 - 1)))) tail) ty (0, 0)) :: ((b1, Obj.cells (LS kf lb sf sb) 116 (0, 0)) :: (H' ++ H0)))) (by kernel_rfl) (by kernel_rfl) ent129 ?_ tv2 ?_)))))))
   · exact fun w hw => siftDown_c hS hn (Sort.swp d2 a (a + (k2 - 1))) 0 (k2 - 1) a (by first | assumption | (simp only [Sort.size_swp]; assumption)) (by omega) (by omega) ((b1, Obj.cells (LS kf lb sf sb) 116 (0, 0)) :: H') w (show St w00 ((g, Obj.cells (rowb (Sort.swp d2 a (a + (k2 - 1))) tail) ty (0, 0)) :: ((b1, Obj.cells (LS kf lb sf sb) 116 (0, 0)) :: (H' ++ H0))) w from hw)
   refine T.nil (QN.blkNormal (QN.seq (W.rg od3 (T.pi 31 ((k2 : Int) - 1) (T.pw 32 (((k2 : Int) - 1) - 1) (T.pi 10 (((k2 : Int) - 1) - 1) (T.nil (QN.cast 10 (.int .i64 (((k2 : Int) - 1) - 1)) (.int .i64 (((k2 - 1 : Nat) : Int) - 1)) (by kernel_rfl) (int_eq (by omega)) (QN.back (k2 - 1, Sort.siftDown lt (k2 - 1) a 0 (Sort.swp d2 a (a + (k2 - 1)))) ?_ ?_ (by kernel_rfl) (fun w h => h.perm (pm1.trans (pm0.cons _))))))))))))
   ·
    try dsimp only
    exact ⟨by omega, by rw [size_sift, Sort.size_swp]; exact hd2, (hp_step (by omega)).trans he2⟩
   · show _ < _; omega
  ·
   have h3' := of_decide_eq_false h3
   refine W.exit (QN.thenExit (QN.thenExit (QN.blkHit (QN.done0 (.inr rfl) rfl (fun w hw => ?_)))))
   exact ⟨rfl, by rw [hs_end (by omega) (by omega) he he2]; exact ((hw.perm pm1).part (((List.Sublist.refl _).cons _).cons_cons _))⟩
section
variable {α : Type} [Inhabited α]
theorem rv_step {i j : Nat} {d : Array α} (h : (i : Int) < (j : Int)) : Sort.reverseLoop (i + 1) (j - 1) (Sort.swp d i j) = Sort.reverseLoop i j d := by
  conv => rhs; rw [Sort.reverseLoop]
  rw [if_pos (by omega)]
theorem rv_stop {i j : Nat} {d : Array α} (h : ¬ (i : Int) < (j : Int)) : Sort.reverseLoop i j d = d := by rw [Sort.reverseLoop, if_neg (by omega)]
end
set_option maxRecDepth 100000 in
set_option maxHeartbeats 2000000 in
theorem reverse_c {α : Type} [Cel α] [Inhabited α] {w00 : World} {g n : Nat} {ty : TypeId} {tail : List Value} {lt : α → α → Bool} {kf : Nat} {lb : Array Value} {sf : Nat} {sb : Array Value} {H0 : List (Nat × Obj)} (hS : SortOk Try.prog α w00 g n ty tail lt kf lb sf sb H0) (hn : n ≤ 1000) (d : Array α) (a b : Nat) (hd : d.size = n) (hab : a < b) (hb : b ≤ n) (H' : List (Nat × Obj)) (w : World) (hst : St w00 ((g, .cells (rowb d tail) ty (0, 0)) :: (H' ++ H0)) w) : Calls Try.prog 106 #[.agg (LS kf lb sf sb), .int .i64 a, .int .i64 b] w (fun rr w' => rr = .returned (.tuple #[]) ∧ St w00 ((g, .cells (rowb (Sort.reverseRange d a b) tail) ty (0, 0)) :: (H' ++ H0)) w') := by
 refine calls_W (n := 23) Try.func106 rfl [(0, .agg (LS kf lb sf sb)), (1, .int .i64 a), (2, .int .i64 b)] rfl ⟨by kernel_rfl, by kernel_rfl⟩ (W.weak (Ψ := St w00 ((g, Obj.cells (rowb d tail) ty (0, 0)) :: (H' ++ H0))) (fun w' h => by rw [h]; exact hst) (W.seq (W.rg od1 (T.bx 3 116 (.agg (LS kf lb sf sb)) ((LS kf lb sf sb)) tv3 (fun b1 => T.nil (QN.seq (W.seq (W.rg od2 (T.pi 8 a (T.pi 6 a (T.nil (QN.seq (W.seq (W.rg od3 (T.pi 9 b (T.pw 10 ((b : Int) - 1) (T.pe 7 (.int .i64 ((b : Int) - 1)) (.int .i64 ((b - 1 : Nat) : Int)) (int_eq (by omega)) (T.nil (QN.seq (W.block (W.loop (σ := Nat × Nat × Array α) (fun gs => gs.1 ≤ gs.2.1 + 1 ∧ gs.2.1 < n ∧ gs.2.2.size = n ∧ Sort.reverseLoop gs.1 gs.2.1 gs.2.2 = Sort.reverseLoop a (b - 1) d) (fun gs => [(3, .pointer (some ⟨b1, 0, none⟩)), (6, .int .i64 (gs.1 : Int)), (7, .int .i64 (gs.2.1 : Int))]) (fun gs => St w00 ((b1, Obj.cells (LS kf lb sf sb) 116 (0, 0)) :: ((g, Obj.cells (rowb gs.2.2 tail) ty (0, 0)) :: (H' ++ H0)))) (fun gs => gs.2.1 - gs.1) (a, b - 1, d) ?_ (by kernel_rfl) (fun w h => h) ?_)))))))))))))))))))))
 ·
  try dsimp only
  exact ⟨by omega, by omega, hd, rfl⟩
 rintro ⟨i, j, dd⟩ hI_
 obtain ⟨hij, hj, hdd, he⟩ : i ≤ j + 1 ∧ j < n ∧ dd.size = n ∧ Sort.reverseLoop i j dd = Sort.reverseLoop a (b - 1) d := hI_
 refine W.seq (W.seq (W.rg od3 (T.pi 11 i (T.pi 12 j (T.pb 13 (decide ((i : Int) < (j : Int))) (T.nil (QN.seq (W.cd (decide ((i : Int) < (j : Int))) (fun h2 => ?_) (fun h2 => ?_)))))))))
 ·
  have h2' := of_decide_eq_true h2
  refine W.skip (QN.seq (W.block (W.seq (W.rg od5 (T.pu 14 (.pointer (some ⟨b1, 1, none⟩)) (T.ld false 15 (.func (.func sf) #[] sb) 111 b1 1 (fun w h => St.cellM h mm0 (by kernel_rfl)) (T.pi 16 i (T.pi 17 j (T.callV 18 sf (#[.int .i64 i, .int .i64 j] ++ sb) (.tuple #[]) (St w00 ((g, Obj.cells (rowb (Sort.swp dd i j) tail) ty (0, 0)) :: ((b1, Obj.cells (LS kf lb sf sb) 116 (0, 0)) :: (H' ++ H0)))) (by kernel_rfl) (by kernel_rfl) ?_ tv2 ?_)))))))))
  · exact fun w hw => hS.swap ((b1, Obj.cells (LS kf lb sf sb) 116 (0, 0)) :: H') dd w (i : Int) (j : Int) i j (by first | assumption | (simp only [Sort.size_swp]; assumption)) (by omega) (by omega) (by omega) (by omega) (show St w00 ((g, Obj.cells (rowb dd tail) ty (0, 0)) :: ((b1, Obj.cells (LS kf lb sf sb) 116 (0, 0)) :: (H' ++ H0))) w from (hw.perm (pm1.trans (pm0.cons _))))
  refine T.nil (QN.seq (W.seq (W.rg od3 (T.pi 19 i (T.pw 20 ((i : Int) + 1) (T.pi 6 ((i : Int) + 1) (T.nil (QN.seq (W.rg od3 (T.pi 21 j (T.pw 22 ((j : Int) - 1) (T.pe 7 (.int .i64 ((j : Int) - 1)) (.int .i64 ((j - 1 : Nat) : Int)) (int_eq (by omega)) (T.nil (QN.blkNormal (QN.back (i + 1, j - 1, Sort.swp dd i j) ?_ ?_ (by kernel_rfl) (fun w h => h.perm (pm1.trans (pm0.cons _))))))))))))))))))
  ·
   try dsimp only
   exact ⟨by omega, by omega, by rw [Sort.size_swp]; exact hdd, (rv_step h2').trans he⟩
  · show (j - 1) - (i + 1) < j - i; omega
 ·
  have h2' := of_decide_eq_false h2
  refine W.exit (QN.thenExit (QN.thenExit (QN.blkHit (QN.done0 (.inr rfl) rfl (fun w hw => ?_)))))
  exact ⟨rfl, by rw [show Sort.reverseRange d a b = dd from by rw [Sort.reverseRange, ← he, rv_stop h2']]; exact ((hw.perm pm1).part (((List.Sublist.refl _).cons _).cons_cons _))⟩
end Go.Proofs.Ytphnfhonmbbddaa

/- Go's sort over a row, part 2: the partitions and the insertion sort that gives up. -/
namespace Go.Proofs.Ytphnfhonmbbddaa
open Go Go.RowKit
set_option linter.unusedVariables false

section
variable {α : Type} [Inhabited α] {lt : α → α → Bool} {p : α → Bool}
theorem dand {x y : Nat} {z r : Bool} (c : ((decide ((x : Int) ≤ (y : Int))) && z) = r) : ((decide (x ≤ y)) && z) = r := by rw [← c]; congr 1; exact decide_eq_decide.2 (by omega)
theorem dlt {x y : Nat} {z r : Bool} (c : ((decide ((x : Int) < (y : Int))) && z) = r) : ((decide (x < y)) && z) = r := by rw [← c]; congr 1; exact decide_eq_decide.2 (by omega)
theorem su_step {d : Array α} {j i : Nat} (c : ((decide ((i : Int) ≤ (j : Int))) && (p d[i]!)) = true) : Sort.scanUp p d j (i + 1) = Sort.scanUp p d j i := by
  conv => rhs; rw [Sort.scanUp]
  rw [if_pos (dand c)]
theorem su_stop {d : Array α} {j i : Nat} (c : ((decide ((i : Int) ≤ (j : Int))) && (p d[i]!)) = false) : Sort.scanUp p d j i = i := by
  rw [Sort.scanUp, if_neg (by rw [dand c]; simp)]
theorem sw_step {d : Array α} {j i : Nat} (c : ((decide ((i : Int) ≤ (j : Int))) && (p d[j]!)) = true) (h : 0 < j) : Sort.scanDown p d i (j - 1) = Sort.scanDown p d i j := by
  obtain ⟨k, rfl⟩ : ∃ k, j = k + 1 := ⟨j - 1, by omega⟩
  conv => rhs; rw [Sort.scanDown]
  rw [if_pos (dand c)]; rfl
theorem sw_stop {d : Array α} {j i : Nat} (c : ((decide ((i : Int) ≤ (j : Int))) && (p d[j]!)) = false) : Sort.scanDown p d i j = j := by
  cases j with
  | zero => rfl
  | succ k => rw [Sort.scanDown, if_neg (by rw [dand c]; simp)]
theorem pe_stop {a i j i2 j2 : Nat} {d : Array α} (h1 : i2 = Sort.scanUp (fun x => !lt d[a]! x) d j i) (h2 : j2 = Sort.scanDown (fun x => lt d[a]! x) d i2 j) (h : j2 < i2) : Sort.partEqLoop lt a i j d = (i2, d) := by
  rw [Sort.partEqLoop]
  simp only [← h1, ← h2]
  rw [if_pos h]
theorem pe_step {a i j i2 j2 : Nat} {d : Array α} (h1 : i2 = Sort.scanUp (fun x => !lt d[a]! x) d j i) (h2 : j2 = Sort.scanDown (fun x => lt d[a]! x) d i2 j) (h : ¬ j2 < i2) (hi : i ≤ i2) (hj : j2 ≤ j) : Sort.partEqLoop lt a (i2 + 1) (j2 - 1) (Sort.swp d i2 j2) = Sort.partEqLoop lt a i j d := by
  conv => rhs; rw [Sort.partEqLoop]
  simp only [← h1, ← h2]
  rw [if_neg h, dif_pos (by omega)]
theorem pl_stop {a i j i2 j2 : Nat} {d : Array α} (h1 : i2 = Sort.scanUp (fun x => lt x d[a]!) d j i) (h2 : j2 = Sort.scanDown (fun x => !lt x d[a]!) d i2 j) (h : j2 < i2) : Sort.partLoop lt a i j d = (j2, d) := by
  rw [Sort.partLoop]
  simp only [← h1, ← h2]
  rw [if_pos h]
theorem pl_step {a i j i2 j2 : Nat} {d : Array α} (h1 : i2 = Sort.scanUp (fun x => lt x d[a]!) d j i) (h2 : j2 = Sort.scanDown (fun x => !lt x d[a]!) d i2 j) (h : ¬ j2 < i2) (hi : i ≤ i2) (hj : j2 ≤ j) : Sort.partLoop lt a (i2 + 1) (j2 - 1) (Sort.swp d i2 j2) = Sort.partLoop lt a i j d := by
  conv => rhs; rw [Sort.partLoop]
  simp only [← h1, ← h2]
  rw [if_neg h, dif_pos (by omega)]
end
set_option maxRecDepth 100000 in
set_option maxHeartbeats 2000000 in
theorem partEq_c {α : Type} [Cel α] [Inhabited α] {w00 : World} {g n : Nat} {ty : TypeId} {tail : List Value} {lt : α → α → Bool} {kf : Nat} {lb : Array Value} {sf : Nat} {sb : Array Value} {H0 : List (Nat × Obj)} (hS : SortOk Try.prog α w00 g n ty tail lt kf lb sf sb H0) (hn : n ≤ 1000) (d : Array α) (a b pivot : Nat) (hd : d.size = n) (hap : a ≤ pivot) (hpb : pivot < b) (hb : b ≤ n) (H' : List (Nat × Obj)) (w : World) (hst : St w00 ((g, .cells (rowb d tail) ty (0, 0)) :: (H' ++ H0)) w) : Calls Try.prog 108 #[.agg (LS kf lb sf sb), .int .i64 a, .int .i64 b, .int .i64 pivot] w (fun rr w' => rr = .returned (.int .i64 (((Sort.partitionEqual lt d a b pivot).1 : Nat) : Int)) ∧ St w00 ((g, .cells (rowb ((Sort.partitionEqual lt d a b pivot).2) tail) ty (0, 0)) :: (H' ++ H0)) w') := by
 refine calls_W (n := 58) Try.func108 rfl [(0, .agg (LS kf lb sf sb)), (1, .int .i64 a), (2, .int .i64 b), (3, .int .i64 pivot)] rfl ⟨by kernel_rfl, by kernel_rfl⟩ (W.weak (Ψ := St w00 ((g, Obj.cells (rowb d tail) ty (0, 0)) :: (H' ++ H0))) (fun w' h => by rw [h]; exact hst) (W.seq (W.rg od2 (T.bx 4 116 (.agg (LS kf lb sf sb)) ((LS kf lb sf sb)) tv3 (fun b1 => T.pi 8 0 (T.nil (QN.seq (W.seq (W.rg od5 (T.pu 11 (.pointer (some ⟨b1, 1, none⟩)) (T.ld false 12 (.func (.func sf) #[] sb) 111 b1 1 (fun w h => St.cellM h mm0 (by kernel_rfl)) (T.pi 13 a (T.pi 14 pivot (T.callV 15 sf (#[.int .i64 a, .int .i64 pivot] ++ sb) (.tuple #[]) (St w00 ((g, Obj.cells (rowb (Sort.swp d a pivot) tail) ty (0, 0)) :: ((b1, Obj.cells (LS kf lb sf sb) 116 (0, 0)) :: (H' ++ H0)))) (by kernel_rfl) (by kernel_rfl) ?_ tv2 ?_))))))))))))))
 · exact fun w hw => hS.swap ((b1, Obj.cells (LS kf lb sf sb) 116 (0, 0)) :: H') d w (a : Int) (pivot : Int) a pivot (by first | assumption | (simp only [Sort.size_swp]; assumption)) (by omega) (by omega) (by omega) (by omega) (show St w00 ((g, Obj.cells (rowb d tail) ty (0, 0)) :: ((b1, Obj.cells (LS kf lb sf sb) 116 (0, 0)) :: (H' ++ H0))) w from (hw.perm (pm1.trans (pm0.cons _))))
 refine T.nil (QN.seq (W.seq (W.rg od6 (T.pi 16 a (T.pw 17 ((a : Int) + 1) (T.pi 18 b (T.pw 19 ((b : Int) - 1) (T.pe 9 (.int .i64 ((a : Int) + 1)) (.int .i64 ((a + 1 : Nat) : Int)) (int_eq (by omega)) (T.pe 10 (.int .i64 ((b : Int) - 1)) (.int .i64 ((b - 1 : Nat) : Int)) (int_eq (by omega)) (T.nil (QN.seq (W.seq (W.block (W.loop (σ := Nat × Nat × Array α) (fun gs => a + 1 ≤ gs.1 ∧ gs.1 ≤ gs.2.1 + 2 ∧ gs.2.1 < b ∧ gs.2.2.size = n ∧ Sort.partEqLoop lt a gs.1 gs.2.1 gs.2.2 = Sort.partEqLoop lt a (a + 1) (b - 1) (Sort.swp d a pivot)) (fun gs => [(1, .int .i64 a), (4, .pointer (some ⟨b1, 0, none⟩)), (8, .int .i64 0), (9, .int .i64 (gs.1 : Int)), (10, .int .i64 (gs.2.1 : Int))]) (fun gs => St w00 ((g, Obj.cells (rowb gs.2.2 tail) ty (0, 0)) :: ((b1, Obj.cells (LS kf lb sf sb) 116 (0, 0)) :: (H' ++ H0)))) (fun gs => gs.2.1 + 1 - gs.1) (a + 1, b - 1, Sort.swp d a pivot) ?_ (by kernel_rfl) (fun w h => h) ?_))))))))))))))
 ·
  try dsimp only
  exact ⟨Nat.le_refl _, by omega, by omega, by rw [Sort.size_swp]; exact hd, rfl⟩
 rintro ⟨i, j, dd⟩ hI_
 obtain ⟨hi1, hij, hjb, hdd, he⟩ : a + 1 ≤ i ∧ i ≤ j + 2 ∧ j < b ∧ dd.size = n ∧ Sort.partEqLoop lt a i j dd = Sort.partEqLoop lt a (a + 1) (b - 1) (Sort.swp d a pivot) := hI_
 refine W.block (W.seq (W.block (W.loop (σ := Nat) (fun gs => i ≤ gs ∧ gs ≤ j + 2 ∧ Sort.scanUp (fun x => !lt dd[a]! x) dd j gs = Sort.scanUp (fun x => !lt dd[a]! x) dd j i) (fun gs => [(1, .int .i64 a), (4, .pointer (some ⟨b1, 0, none⟩)), (8, .int .i64 0), (9, .int .i64 gs), (10, .int .i64 j)]) (fun gs => St w00 ((g, Obj.cells (rowb dd tail) ty (0, 0)) :: ((b1, Obj.cells (LS kf lb sf sb) 116 (0, 0)) :: (H' ++ H0)))) (fun gs => j + 1 - gs) i ?_ (by kernel_rfl) (fun w h => h) ?_)))
 ·
  try dsimp only
  exact ⟨Nat.le_refl _, by omega, rfl⟩
 rintro i2 hI_
 obtain ⟨hi2a, hi2b, hsu⟩ : i ≤ i2 ∧ i2 ≤ j + 2 ∧ Sort.scanUp (fun x => !lt dd[a]! x) dd j i2 = Sort.scanUp (fun x => !lt dd[a]! x) dd j i := hI_
 refine W.seq (W.seq (W.rg od11 (T.pi 20 i2 (T.pi 21 j (T.pb 22 (decide ((i2 : Int) ≤ (j : Int))) (T.pb 23 (decide ((i2 : Int) ≤ (j : Int))) (T.bk [(4, false), (5, false), (6, false), (7, false), (8, false), (9, false)] [(10, false)] 3 true (decide ((i2 : Int) ≤ (j : Int))) 23 29 (.bool (!(lt dd[a]! dd[i2]!))) (fun hg2 => ?_) ?_)))))))
 ·
  have hg2_ := hg2
  have hg2' := of_decide_eq_true hg2
  refine T.pu 24 (.pointer (some ⟨b1, 0, none⟩)) (T.ld false 25 (.func (.func kf) #[] lb) 90 b1 0 (fun w h => St.cellM h mm1 (by kernel_rfl)) (T.pi 26 a (T.pi 27 i2 (T.cp 28 kf (#[.int .i64 a, .int .i64 i2] ++ lb) (.bool (lt dd[a]! dd[i2]!)) hS.ent ?_ tv2 ?_))))
  · exact fun w hw => hS.less ((b1, Obj.cells (LS kf lb sf sb) 116 (0, 0)) :: H') dd w (a : Int) (i2 : Int) a i2 (by first | assumption | (simp only [Sort.size_swp]; assumption)) (by omega) (by omega) (by omega) (by omega) (show St w00 ((g, Obj.cells (rowb dd tail) ty (0, 0)) :: ((b1, Obj.cells (LS kf lb sf sb) 116 (0, 0)) :: (H' ++ H0))) w from hw)
  refine T.pb 29 (!(lt dd[a]! dd[i2]!)) ?_
  exact T.blkEnd (by kernel_rfl) (fun w h => h)
 refine T.an 30 (decide ((i2 : Int) ≤ (j : Int))) (!(lt dd[a]! dd[i2]!)) (T.nil (QN.seq (W.cd ((decide ((i2 : Int) ≤ (j : Int))) && (!(lt dd[a]! dd[i2]!))) (fun h3 => ?_) (fun h3 => ?_))))
 ·
  have h3l := (Bool.and_eq_true_iff.1 h3).1
  have h3r := (Bool.and_eq_true_iff.1 h3).2
  have h3l' := of_decide_eq_true h3l
  have h3rn := not_eq_true h3r
  refine W.skip (QN.seq (W.block (W.rg od3 (T.pi 31 i2 (T.pw 32 ((i2 : Int) + 1) (T.pe 9 (.int .i64 ((i2 : Int) + 1)) (.int .i64 ((i2 + 1 : Nat) : Int)) (int_eq (by omega)) (T.nil (QN.blkNormal (QN.back (i2 + 1) ?_ ?_ (by kernel_rfl) (fun w h => h))))))))))
  ·
   try dsimp only
   exact ⟨by omega, by omega, (su_step (p := (fun x => !lt dd[a]! x)) h3).trans hsu⟩
  · show j + 1 - (i2 + 1) < j + 1 - i2; omega
 ·
  refine W.exit (QN.thenExit (QN.thenExit (QN.blkHit (QN.seq (W.seq (W.block (W.loop (σ := Nat) (fun gs => gs ≤ j ∧ i2 ≤ gs + 2 ∧ Sort.scanDown (fun x => lt dd[a]! x) dd i2 gs = Sort.scanDown (fun x => lt dd[a]! x) dd i2 j) (fun gs => [(1, .int .i64 a), (4, .pointer (some ⟨b1, 0, none⟩)), (8, .int .i64 0), (9, .int .i64 i2), (10, .int .i64 gs), (20, .int .i64 i2), (21, .int .i64 j), (22, .bool (decide ((i2 : Int) ≤ (j : Int)))), (23, .bool (decide ((i2 : Int) ≤ (j : Int)))), (29, gv ((decide ((i2 : Int) ≤ (j : Int))) == true) (.bool (!(lt dd[a]! dd[i2]!)))), (30, .bool ((decide ((i2 : Int) ≤ (j : Int))) && (!(lt dd[a]! dd[i2]!))))]) (fun gs => St w00 ((g, Obj.cells (rowb dd tail) ty (0, 0)) :: ((b1, Obj.cells (LS kf lb sf sb) 116 (0, 0)) :: (H' ++ H0)))) (fun gs => gs) j ?_ (by kernel_rfl) (fun w h => h) ?_)))))))
  ·
   try dsimp only
   exact ⟨Nat.le_refl _, by omega, rfl⟩
  rintro j2 hI_
  obtain ⟨hj2a, hj2b, hsd⟩ : j2 ≤ j ∧ i2 ≤ j2 + 2 ∧ Sort.scanDown (fun x => lt dd[a]! x) dd i2 j2 = Sort.scanDown (fun x => lt dd[a]! x) dd i2 j := hI_
  refine W.seq (W.seq (W.rg od10 (T.pi 33 i2 (T.pi 34 j2 (T.pb 35 (decide ((i2 : Int) ≤ (j2 : Int))) (T.pb 36 (decide ((i2 : Int) ≤ (j2 : Int))) (T.bk [(4, false), (5, false), (6, false), (7, false), (8, false)] [(9, false)] 3 true (decide ((i2 : Int) ≤ (j2 : Int))) 36 41 (.bool (lt dd[a]! dd[j2]!)) (fun hg4 => ?_) ?_)))))))
  ·
   have hg4_ := hg4
   have hg4' := of_decide_eq_true hg4
   refine T.pu 37 (.pointer (some ⟨b1, 0, none⟩)) (T.ld false 38 (.func (.func kf) #[] lb) 90 b1 0 (fun w h => St.cellM h mm1 (by kernel_rfl)) (T.pi 39 a (T.pi 40 j2 (T.cp 41 kf (#[.int .i64 a, .int .i64 j2] ++ lb) (.bool (lt dd[a]! dd[j2]!)) hS.ent ?_ tv2 ?_))))
   · exact fun w hw => hS.less ((b1, Obj.cells (LS kf lb sf sb) 116 (0, 0)) :: H') dd w (a : Int) (j2 : Int) a j2 (by first | assumption | (simp only [Sort.size_swp]; assumption)) (by omega) (by omega) (by omega) (by omega) (show St w00 ((g, Obj.cells (rowb dd tail) ty (0, 0)) :: ((b1, Obj.cells (LS kf lb sf sb) 116 (0, 0)) :: (H' ++ H0))) w from hw)
   exact T.blkEnd (by kernel_rfl) (fun w h => h)
  refine T.an 42 (decide ((i2 : Int) ≤ (j2 : Int))) (lt dd[a]! dd[j2]!) (T.nil (QN.seq (W.cd ((decide ((i2 : Int) ≤ (j2 : Int))) && (lt dd[a]! dd[j2]!)) (fun h5 => ?_) (fun h5 => ?_))))
  ·
   have h5l := (Bool.and_eq_true_iff.1 h5).1
   have h5r := (Bool.and_eq_true_iff.1 h5).2
   have h5l' := of_decide_eq_true h5l
   refine W.skip (QN.seq (W.block (W.rg od3 (T.pi 43 j2 (T.pw 44 ((j2 : Int) - 1) (T.pe 10 (.int .i64 ((j2 : Int) - 1)) (.int .i64 ((j2 - 1 : Nat) : Int)) (int_eq (by omega)) (T.nil (QN.blkNormal (QN.cast 10 (.int .i64 ((j2 - 1 : Nat) : Int)) (.int .i64 ((j2 - 1 : Nat) : Int)) (by kernel_rfl) (int_eq (by omega)) (QN.back (j2 - 1) ?_ ?_ (by kernel_rfl) (fun w h => h)))))))))))
   ·
    try dsimp only
    exact ⟨by omega, by omega, (sw_step (p := (fun x => lt dd[a]! x)) h5 (by omega)).trans hsd⟩
   · show _ < _; omega
  ·
   refine W.exit (QN.thenExit (QN.thenExit (QN.blkHit (QN.seq (W.seq (W.seq (W.rg od3 (T.pi 45 i2 (T.pi 46 j2 (T.pb 47 (decide ((j2 : Int) < (i2 : Int))) (T.nil (QN.seq (W.cd (decide ((j2 : Int) < (i2 : Int))) (fun h6 => ?_) (fun h6 => ?_))))))))))))))
   ·
    have h6' := of_decide_eq_true h6
    refine W.exit (QN.thenExit (QN.blkMiss (by decide) (QN.thenExit (QN.blkHit (QN.seq (W.seq (W.rg od2 (T.pi 57 i2 (T.pi 8 i2 (T.nil (QN.seq (W.ret (QN.done (.inl rfl) 8 (.int .i64 i2) rfl (by kernel_rfl) (fun w hw => ?_))))))))))))))
    exact (by rw [show Sort.partitionEqual lt d a b pivot = (i2, dd) from by rw [Sort.partitionEqual, ← he]; exact pe_stop (((su_stop (p := (fun x => !lt dd[a]! x)) h3).symm).trans hsu) (((sw_stop (p := (fun x => lt dd[a]! x)) h5).symm).trans hsd) (by omega)]; exact ⟨rfl, ((hw.perm pm0).part (((List.Sublist.refl _).cons _).cons_cons _))⟩)
   ·
    have h6' := of_decide_eq_false h6
    refine W.skip (QN.seq (W.seq (W.rg od5 (T.pu 48 (.pointer (some ⟨b1, 1, none⟩)) (T.ld false 49 (.func (.func sf) #[] sb) 111 b1 1 (fun w h => St.cellM h mm1 (by kernel_rfl)) (T.pi 50 i2 (T.pi 51 j2 (T.callV 52 sf (#[.int .i64 i2, .int .i64 j2] ++ sb) (.tuple #[]) (St w00 ((g, Obj.cells (rowb (Sort.swp dd i2 j2) tail) ty (0, 0)) :: ((b1, Obj.cells (LS kf lb sf sb) 116 (0, 0)) :: (H' ++ H0)))) (by kernel_rfl) (by kernel_rfl) ?_ tv2 ?_))))))))
    · exact fun w hw => hS.swap ((b1, Obj.cells (LS kf lb sf sb) 116 (0, 0)) :: H') dd w (i2 : Int) (j2 : Int) i2 j2 (by first | assumption | (simp only [Sort.size_swp]; assumption)) (by omega) (by omega) (by omega) (by omega) (show St w00 ((g, Obj.cells (rowb dd tail) ty (0, 0)) :: ((b1, Obj.cells (LS kf lb sf sb) 116 (0, 0)) :: (H' ++ H0))) w from hw)
    refine T.nil (QN.seq (W.seq (W.rg od3 (T.pi 53 i2 (T.pw 54 ((i2 : Int) + 1) (T.pe 9 (.int .i64 ((i2 : Int) + 1)) (.int .i64 ((i2 + 1 : Nat) : Int)) (int_eq (by omega)) (T.nil (QN.seq (W.rg od3 (T.pi 55 j2 (T.pw 56 ((j2 : Int) - 1) (T.pe 10 (.int .i64 ((j2 : Int) - 1)) (.int .i64 ((j2 - 1 : Nat) : Int)) (int_eq (by omega)) (T.nil (QN.blkNormal (QN.back (i2 + 1, j2 - 1, Sort.swp dd i2 j2) ?_ ?_ (by kernel_rfl) (fun w h => h))))))))))))))))
    ·
     try dsimp only
     exact ⟨by omega, by omega, by omega, by rw [Sort.size_swp]; exact hdd, (pe_step (((su_stop (p := (fun x => !lt dd[a]! x)) h3).symm).trans hsu) (((sw_stop (p := (fun x => lt dd[a]! x)) h5).symm).trans hsd) (by omega) (by omega) (by omega)).trans he⟩
    · show (j2 - 1) + 1 - (i2 + 1) < j + 1 - i; omega
section
variable {α : Type} [Inhabited α] {lt : α → α → Bool}
theorem pt_now {d : Array α} {a b pivot i j : Nat} (h1 : i = Sort.scanUp (fun x => lt x (Sort.swp d a pivot)[a]!) (Sort.swp d a pivot) (b - 1) (a + 1)) (h2 : j = Sort.scanDown (fun x => !lt x (Sort.swp d a pivot)[a]!) (Sort.swp d a pivot) i (b - 1)) (h : j < i) :
    Sort.partition lt d a b pivot = (j, true, Sort.swp (Sort.swp d a pivot) j a) := by
  unfold Sort.partition
  simp only [← h1, ← h2]
  rw [if_pos h]
theorem pt_later {d dd : Array α} {a b pivot i j j2 : Nat} (h1 : i = Sort.scanUp (fun x => lt x (Sort.swp d a pivot)[a]!) (Sort.swp d a pivot) (b - 1) (a + 1)) (h2 : j = Sort.scanDown (fun x => !lt x (Sort.swp d a pivot)[a]!) (Sort.swp d a pivot) i (b - 1)) (h : ¬ j < i)
    (he : Sort.partLoop lt a (i + 1) (j - 1) (Sort.swp (Sort.swp d a pivot) i j) = (j2, dd)) : Sort.partition lt d a b pivot = (j2, false, Sort.swp dd j2 a) := by
  unfold Sort.partition
  simp only [← h1, ← h2]
  rw [if_neg h, he]
end
set_option maxRecDepth 100000 in
set_option maxHeartbeats 2000000 in
theorem part_c {α : Type} [Cel α] [Inhabited α] {w00 : World} {g n : Nat} {ty : TypeId} {tail : List Value} {lt : α → α → Bool} {kf : Nat} {lb : Array Value} {sf : Nat} {sb : Array Value} {H0 : List (Nat × Obj)} (hS : SortOk Try.prog α w00 g n ty tail lt kf lb sf sb H0) (hn : n ≤ 1000) (d : Array α) (a b pivot : Nat) (hd : d.size = n) (hap : a ≤ pivot) (hpb : pivot < b) (hb : b ≤ n) (H' : List (Nat × Obj)) (w : World) (hst : St w00 ((g, .cells (rowb d tail) ty (0, 0)) :: (H' ++ H0)) w) : Calls Try.prog 109 #[.agg (LS kf lb sf sb), .int .i64 a, .int .i64 b, .int .i64 pivot] w (fun rr w' => rr = .returned (.tuple #[.int .i64 (((Sort.partition lt d a b pivot).1 : Nat) : Int), .bool (Sort.partition lt d a b pivot).2.1]) ∧ St w00 ((g, .cells (rowb ((Sort.partition lt d a b pivot).2.2) tail) ty (0, 0)) :: (H' ++ H0)) w') := by
 refine calls_W (n := 107) Try.func109 rfl [(0, .agg (LS kf lb sf sb)), (1, .int .i64 a), (2, .int .i64 b), (3, .int .i64 pivot)] rfl ⟨by kernel_rfl, by kernel_rfl⟩ (W.weak (Ψ := St w00 ((g, Obj.cells (rowb d tail) ty (0, 0)) :: (H' ++ H0))) (fun w' h => by rw [h]; exact hst) (W.seq (W.rg od3 (T.bx 4 116 (.agg (LS kf lb sf sb)) ((LS kf lb sf sb)) tv3 (fun b1 => T.pi 8 0 (T.pb 9 false (T.nil (QN.seq (W.seq (W.rg od5 (T.pu 12 (.pointer (some ⟨b1, 1, none⟩)) (T.ld false 13 (.func (.func sf) #[] sb) 111 b1 1 (fun w h => St.cellM h mm0 (by kernel_rfl)) (T.pi 14 a (T.pi 15 pivot (T.callV 16 sf (#[.int .i64 a, .int .i64 pivot] ++ sb) (.tuple #[]) (St w00 ((g, Obj.cells (rowb (Sort.swp d a pivot) tail) ty (0, 0)) :: ((b1, Obj.cells (LS kf lb sf sb) 116 (0, 0)) :: (H' ++ H0)))) (by kernel_rfl) (by kernel_rfl) ?_ tv2 ?_)))))))))))))))
 · exact fun w hw => hS.swap ((b1, Obj.cells (LS kf lb sf sb) 116 (0, 0)) :: H') d w (a : Int) (pivot : Int) a pivot (by first | assumption | (simp only [Sort.size_swp]; assumption)) (by omega) (by omega) (by omega) (by omega) (show St w00 ((g, Obj.cells (rowb d tail) ty (0, 0)) :: ((b1, Obj.cells (LS kf lb sf sb) 116 (0, 0)) :: (H' ++ H0))) w from (hw.perm (pm1.trans (pm0.cons _))))
 refine T.nil (QN.seq (W.seq (W.rg od6 (T.pi 17 a (T.pw 18 ((a : Int) + 1) (T.pi 19 b (T.pw 20 ((b : Int) - 1) (T.pe 10 (.int .i64 ((a : Int) + 1)) (.int .i64 ((a + 1 : Nat) : Int)) (int_eq (by omega)) (T.pe 11 (.int .i64 ((b : Int) - 1)) (.int .i64 ((b - 1 : Nat) : Int)) (int_eq (by omega)) (T.nil (QN.seq (W.seq (W.block (W.loop (σ := Nat) (fun gs => (a + 1) ≤ gs ∧ gs ≤ (b - 1) + 2 ∧ Sort.scanUp (fun x => lt x (Sort.swp d a pivot)[a]!) (Sort.swp d a pivot) (b - 1) gs = Sort.scanUp (fun x => lt x (Sort.swp d a pivot)[a]!) (Sort.swp d a pivot) (b - 1) (a + 1)) (fun gs => [(1, .int .i64 a), (4, .pointer (some ⟨b1, 0, none⟩)), (8, .int .i64 0), (9, .bool false), (10, .int .i64 gs), (11, .int .i64 ((b - 1 : Nat) : Int))]) (fun gs => St w00 ((g, Obj.cells (rowb (Sort.swp d a pivot) tail) ty (0, 0)) :: ((b1, Obj.cells (LS kf lb sf sb) 116 (0, 0)) :: (H' ++ H0)))) (fun gs => b - 1 + 1 - gs) (a + 1) ?_ (by kernel_rfl) (fun w h => h) ?_))))))))))))))
 ·
  try dsimp only
  exact ⟨Nat.le_refl _, by omega, rfl⟩
 rintro i0 hI_
 obtain ⟨hi0a, hi0b, hs0⟩ : (a + 1) ≤ i0 ∧ i0 ≤ (b - 1) + 2 ∧ Sort.scanUp (fun x => lt x (Sort.swp d a pivot)[a]!) (Sort.swp d a pivot) (b - 1) i0 = Sort.scanUp (fun x => lt x (Sort.swp d a pivot)[a]!) (Sort.swp d a pivot) (b - 1) (a + 1) := hI_
 refine W.seq (W.seq (W.rg od10 (T.pi 21 i0 (T.pi 22 ((b - 1 : Nat) : Int) (T.pb 23 (decide ((i0 : Int) ≤ ((b - 1 : Nat) : Int))) (T.pb 24 (decide ((i0 : Int) ≤ ((b - 1 : Nat) : Int))) (T.bk [(4, false), (5, false), (6, false), (7, false), (8, false)] [(9, false)] 3 true (decide ((i0 : Int) ≤ ((b - 1 : Nat) : Int))) 24 29 (.bool (lt (Sort.swp d a pivot)[i0]! (Sort.swp d a pivot)[a]!)) (fun hg2 => ?_) ?_)))))))
 ·
  have hg2_ := hg2
  have hg2' := of_decide_eq_true hg2
  refine T.pu 25 (.pointer (some ⟨b1, 0, none⟩)) (T.ld false 26 (.func (.func kf) #[] lb) 90 b1 0 (fun w h => St.cellM h mm1 (by kernel_rfl)) (T.pi 27 i0 (T.pi 28 a (T.cp 29 kf (#[.int .i64 i0, .int .i64 a] ++ lb) (.bool (lt (Sort.swp d a pivot)[i0]! (Sort.swp d a pivot)[a]!)) hS.ent ?_ tv2 ?_))))
  · exact fun w hw => hS.less ((b1, Obj.cells (LS kf lb sf sb) 116 (0, 0)) :: H') (Sort.swp d a pivot) w (i0 : Int) (a : Int) i0 a (by first | assumption | (simp only [Sort.size_swp]; assumption)) (by omega) (by omega) (by omega) (by omega) (show St w00 ((g, Obj.cells (rowb (Sort.swp d a pivot) tail) ty (0, 0)) :: ((b1, Obj.cells (LS kf lb sf sb) 116 (0, 0)) :: (H' ++ H0))) w from hw)
  exact T.blkEnd (by kernel_rfl) (fun w h => h)
 refine T.an 30 (decide ((i0 : Int) ≤ ((b - 1 : Nat) : Int))) (lt (Sort.swp d a pivot)[i0]! (Sort.swp d a pivot)[a]!) (T.nil (QN.seq (W.cd ((decide ((i0 : Int) ≤ ((b - 1 : Nat) : Int))) && (lt (Sort.swp d a pivot)[i0]! (Sort.swp d a pivot)[a]!)) (fun h3 => ?_) (fun h3 => ?_))))
 ·
  have h3l := (Bool.and_eq_true_iff.1 h3).1
  have h3r := (Bool.and_eq_true_iff.1 h3).2
  have h3l' := of_decide_eq_true h3l
  refine W.skip (QN.seq (W.block (W.rg od3 (T.pi 31 i0 (T.pw 32 ((i0 : Int) + 1) (T.pe 10 (.int .i64 ((i0 : Int) + 1)) (.int .i64 ((i0 + 1 : Nat) : Int)) (int_eq (by omega)) (T.nil (QN.blkNormal (QN.back (i0 + 1) ?_ ?_ (by kernel_rfl) (fun w h => h))))))))))
  ·
   try dsimp only
   exact ⟨by omega, by omega, (su_step (p := (fun x => lt x (Sort.swp d a pivot)[a]!)) h3).trans hs0⟩
  · show b - 1 + 1 - (i0 + 1) < b - 1 + 1 - i0; omega
 ·
  refine W.exit (QN.thenExit (QN.thenExit (QN.blkHit (QN.seq (W.seq (W.block (W.loop (σ := Nat) (fun gs => gs ≤ (b - 1) ∧ i0 ≤ gs + 2 ∧ Sort.scanDown (fun x => !lt x (Sort.swp d a pivot)[a]!) (Sort.swp d a pivot) i0 gs = Sort.scanDown (fun x => !lt x (Sort.swp d a pivot)[a]!) (Sort.swp d a pivot) i0 (b - 1)) (fun gs => [(1, .int .i64 a), (4, .pointer (some ⟨b1, 0, none⟩)), (8, .int .i64 0), (9, .bool false), (10, .int .i64 i0), (11, .int .i64 gs)]) (fun gs => St w00 ((g, Obj.cells (rowb (Sort.swp d a pivot) tail) ty (0, 0)) :: ((b1, Obj.cells (LS kf lb sf sb) 116 (0, 0)) :: (H' ++ H0)))) (fun gs => gs) (b - 1) ?_ (by kernel_rfl) (fun w h => h) ?_)))))))
  ·
   try dsimp only
   exact ⟨Nat.le_refl _, by omega, rfl⟩
  rintro j0 hI_
  obtain ⟨hj0a, hj0b, hs1⟩ : j0 ≤ (b - 1) ∧ i0 ≤ j0 + 2 ∧ Sort.scanDown (fun x => !lt x (Sort.swp d a pivot)[a]!) (Sort.swp d a pivot) i0 j0 = Sort.scanDown (fun x => !lt x (Sort.swp d a pivot)[a]!) (Sort.swp d a pivot) i0 (b - 1) := hI_
  refine W.seq (W.seq (W.rg od11 (T.pi 33 i0 (T.pi 34 j0 (T.pb 35 (decide ((i0 : Int) ≤ (j0 : Int))) (T.pb 36 (decide ((i0 : Int) ≤ (j0 : Int))) (T.bk [(4, false), (5, false), (6, false), (7, false), (8, false), (9, false)] [(10, false)] 3 true (decide ((i0 : Int) ≤ (j0 : Int))) 36 42 (.bool (!(lt (Sort.swp d a pivot)[j0]! (Sort.swp d a pivot)[a]!))) (fun hg4 => ?_) ?_)))))))
  ·
   have hg4_ := hg4
   have hg4' := of_decide_eq_true hg4
   refine T.pu 37 (.pointer (some ⟨b1, 0, none⟩)) (T.ld false 38 (.func (.func kf) #[] lb) 90 b1 0 (fun w h => St.cellM h mm1 (by kernel_rfl)) (T.pi 39 j0 (T.pi 40 a (T.cp 41 kf (#[.int .i64 j0, .int .i64 a] ++ lb) (.bool (lt (Sort.swp d a pivot)[j0]! (Sort.swp d a pivot)[a]!)) hS.ent ?_ tv2 ?_))))
   · exact fun w hw => hS.less ((b1, Obj.cells (LS kf lb sf sb) 116 (0, 0)) :: H') (Sort.swp d a pivot) w (j0 : Int) (a : Int) j0 a (by first | assumption | (simp only [Sort.size_swp]; assumption)) (by omega) (by omega) (by omega) (by omega) (show St w00 ((g, Obj.cells (rowb (Sort.swp d a pivot) tail) ty (0, 0)) :: ((b1, Obj.cells (LS kf lb sf sb) 116 (0, 0)) :: (H' ++ H0))) w from hw)
   refine T.pb 42 (!(lt (Sort.swp d a pivot)[j0]! (Sort.swp d a pivot)[a]!)) ?_
   exact T.blkEnd (by kernel_rfl) (fun w h => h)
  refine T.an 43 (decide ((i0 : Int) ≤ (j0 : Int))) (!(lt (Sort.swp d a pivot)[j0]! (Sort.swp d a pivot)[a]!)) (T.nil (QN.seq (W.cd ((decide ((i0 : Int) ≤ (j0 : Int))) && (!(lt (Sort.swp d a pivot)[j0]! (Sort.swp d a pivot)[a]!))) (fun h5 => ?_) (fun h5 => ?_))))
  ·
   have h5l := (Bool.and_eq_true_iff.1 h5).1
   have h5r := (Bool.and_eq_true_iff.1 h5).2
   have h5l' := of_decide_eq_true h5l
   have h5rn := not_eq_true h5r
   refine W.skip (QN.seq (W.block (W.rg od3 (T.pi 44 j0 (T.pw 45 ((j0 : Int) - 1) (T.pe 11 (.int .i64 ((j0 : Int) - 1)) (.int .i64 ((j0 - 1 : Nat) : Int)) (int_eq (by omega)) (T.nil (QN.blkNormal (QN.cast 11 (.int .i64 ((j0 - 1 : Nat) : Int)) (.int .i64 ((j0 - 1 : Nat) : Int)) (by kernel_rfl) (int_eq (by omega)) (QN.back (j0 - 1) ?_ ?_ (by kernel_rfl) (fun w h => h)))))))))))
   ·
    try dsimp only
    exact ⟨by omega, by omega, (sw_step (p := (fun x => !lt x (Sort.swp d a pivot)[a]!)) h5 (by omega)).trans hs1⟩
   · show _ < _; omega
  ·
   refine W.exit (QN.thenExit (QN.thenExit (QN.blkHit (QN.seq (W.seq (W.seq (W.rg od3 (T.pi 46 i0 (T.pi 47 j0 (T.pb 48 (decide ((j0 : Int) < (i0 : Int))) (T.nil (QN.seq (W.cd (decide ((j0 : Int) < (i0 : Int))) (fun h6 => ?_) (fun h6 => ?_))))))))))))))
   ·
    have h6' := of_decide_eq_true h6
    refine W.seq (W.rg od5 (T.pu 49 (.pointer (some ⟨b1, 1, none⟩)) (T.ld false 50 (.func (.func sf) #[] sb) 111 b1 1 (fun w h => St.cellM h mm1 (by kernel_rfl)) (T.pi 51 j0 (T.pi 52 a (T.callV 53 sf (#[.int .i64 j0, .int .i64 a] ++ sb) (.tuple #[]) (St w00 ((g, Obj.cells (rowb (Sort.swp (Sort.swp d a pivot) j0 a) tail) ty (0, 0)) :: ((b1, Obj.cells (LS kf lb sf sb) 116 (0, 0)) :: (H' ++ H0)))) (by kernel_rfl) (by kernel_rfl) ?_ tv2 ?_))))))
    · exact fun w hw => hS.swap ((b1, Obj.cells (LS kf lb sf sb) 116 (0, 0)) :: H') (Sort.swp d a pivot) w (j0 : Int) (a : Int) j0 a (by first | assumption | (simp only [Sort.size_swp]; assumption)) (by omega) (by omega) (by omega) (by omega) (show St w00 ((g, Obj.cells (rowb (Sort.swp d a pivot) tail) ty (0, 0)) :: ((b1, Obj.cells (LS kf lb sf sb) 116 (0, 0)) :: (H' ++ H0))) w from hw)
    refine T.nil (QN.seq (W.seq (W.rg od3 (T.pi 54 j0 (T.pi 8 j0 (T.pb 9 true (T.nil (QN.seq (W.ret (QN.thenRet (QN.done2 (.inl rfl) 8 9 (.int .i64 j0) (.bool true) rfl (by kernel_rfl) (by kernel_rfl) (fun w hw => ?_))))))))))))
    exact (by rw [pt_now (lt := lt) (((su_stop (p := (fun x => lt x (Sort.swp d a pivot)[a]!)) h3).symm).trans hs0) (((sw_stop (p := (fun x => !lt x (Sort.swp d a pivot)[a]!)) h5).symm).trans hs1) (by omega)]; exact ⟨rfl, ((hw.perm pm0).part (((List.Sublist.refl _).cons _).cons_cons _))⟩)
   ·
    have h6' := of_decide_eq_false h6
    refine W.skip (QN.seq (W.seq (W.rg od5 (T.pu 55 (.pointer (some ⟨b1, 1, none⟩)) (T.ld false 56 (.func (.func sf) #[] sb) 111 b1 1 (fun w h => St.cellM h mm1 (by kernel_rfl)) (T.pi 57 i0 (T.pi 58 j0 (T.callV 59 sf (#[.int .i64 i0, .int .i64 j0] ++ sb) (.tuple #[]) (St w00 ((g, Obj.cells (rowb (Sort.swp (Sort.swp d a pivot) i0 j0) tail) ty (0, 0)) :: ((b1, Obj.cells (LS kf lb sf sb) 116 (0, 0)) :: (H' ++ H0)))) (by kernel_rfl) (by kernel_rfl) ?_ tv2 ?_))))))))
    · exact fun w hw => hS.swap ((b1, Obj.cells (LS kf lb sf sb) 116 (0, 0)) :: H') (Sort.swp d a pivot) w (i0 : Int) (j0 : Int) i0 j0 (by first | assumption | (simp only [Sort.size_swp]; assumption)) (by omega) (by omega) (by omega) (by omega) (show St w00 ((g, Obj.cells (rowb (Sort.swp d a pivot) tail) ty (0, 0)) :: ((b1, Obj.cells (LS kf lb sf sb) 116 (0, 0)) :: (H' ++ H0))) w from hw)
    refine T.nil (QN.seq (W.seq (W.rg od3 (T.pi 60 i0 (T.pw 61 ((i0 : Int) + 1) (T.pe 10 (.int .i64 ((i0 : Int) + 1)) (.int .i64 ((i0 + 1 : Nat) : Int)) (int_eq (by omega)) (T.nil (QN.seq (W.seq (W.rg od3 (T.pi 62 j0 (T.pw 63 ((j0 : Int) - 1) (T.pe 11 (.int .i64 ((j0 : Int) - 1)) (.int .i64 ((j0 - 1 : Nat) : Int)) (int_eq (by omega)) (T.nil (QN.seq (W.seq (W.block (W.loop (σ := Nat × Nat × Array α) (fun gs => a + 1 ≤ gs.1 ∧ gs.1 ≤ gs.2.1 + 2 ∧ gs.2.1 < b ∧ gs.2.2.size = n ∧ Sort.partLoop lt a gs.1 gs.2.1 gs.2.2 = Sort.partLoop lt a (i0 + 1) (j0 - 1) (Sort.swp (Sort.swp d a pivot) i0 j0)) (fun gs => [(1, .int .i64 a), (4, .pointer (some ⟨b1, 0, none⟩)), (8, .int .i64 0), (9, .bool false), (10, .int .i64 (gs.1 : Int)), (11, .int .i64 (gs.2.1 : Int))]) (fun gs => St w00 ((g, Obj.cells (rowb gs.2.2 tail) ty (0, 0)) :: ((b1, Obj.cells (LS kf lb sf sb) 116 (0, 0)) :: (H' ++ H0)))) (fun gs => gs.2.1 + 1 - gs.1) (i0 + 1, j0 - 1, Sort.swp (Sort.swp d a pivot) i0 j0) ?_ (by kernel_rfl) (fun w h => h) ?_))))))))))))))))))
    ·
     try dsimp only
     exact ⟨by omega, by omega, by omega, by simp only [Sort.size_swp]; exact hd, rfl⟩
    rintro ⟨i, j, dd⟩ hI_
    obtain ⟨hi1, hij, hjb, hdd, he⟩ : a + 1 ≤ i ∧ i ≤ j + 2 ∧ j < b ∧ dd.size = n ∧ Sort.partLoop lt a i j dd = Sort.partLoop lt a (i0 + 1) (j0 - 1) (Sort.swp (Sort.swp d a pivot) i0 j0) := hI_
    refine W.block (W.seq (W.block (W.loop (σ := Nat) (fun gs => i ≤ gs ∧ gs ≤ j + 2 ∧ Sort.scanUp (fun x => lt x dd[a]!) dd j gs = Sort.scanUp (fun x => lt x dd[a]!) dd j i) (fun gs => [(1, .int .i64 a), (4, .pointer (some ⟨b1, 0, none⟩)), (8, .int .i64 0), (9, .bool false), (10, .int .i64 gs), (11, .int .i64 j)]) (fun gs => St w00 ((g, Obj.cells (rowb dd tail) ty (0, 0)) :: ((b1, Obj.cells (LS kf lb sf sb) 116 (0, 0)) :: (H' ++ H0)))) (fun gs => j + 1 - gs) i ?_ (by kernel_rfl) (fun w h => h) ?_)))
    ·
     try dsimp only
     exact ⟨Nat.le_refl _, by omega, rfl⟩
    rintro i2 hI_
    obtain ⟨hi2a, hi2b, hsu⟩ : i ≤ i2 ∧ i2 ≤ j + 2 ∧ Sort.scanUp (fun x => lt x dd[a]!) dd j i2 = Sort.scanUp (fun x => lt x dd[a]!) dd j i := hI_
    refine W.seq (W.seq (W.rg od10 (T.pi 64 i2 (T.pi 65 j (T.pb 66 (decide ((i2 : Int) ≤ (j : Int))) (T.pb 67 (decide ((i2 : Int) ≤ (j : Int))) (T.bk [(4, false), (5, false), (6, false), (7, false), (8, false)] [(9, false)] 3 true (decide ((i2 : Int) ≤ (j : Int))) 67 72 (.bool (lt dd[i2]! dd[a]!)) (fun hg7 => ?_) ?_)))))))
    ·
     have hg7_ := hg7
     have hg7' := of_decide_eq_true hg7
     refine T.pu 68 (.pointer (some ⟨b1, 0, none⟩)) (T.ld false 69 (.func (.func kf) #[] lb) 90 b1 0 (fun w h => St.cellM h mm1 (by kernel_rfl)) (T.pi 70 i2 (T.pi 71 a (T.cp 72 kf (#[.int .i64 i2, .int .i64 a] ++ lb) (.bool (lt dd[i2]! dd[a]!)) hS.ent ?_ tv2 ?_))))
     · exact fun w hw => hS.less ((b1, Obj.cells (LS kf lb sf sb) 116 (0, 0)) :: H') dd w (i2 : Int) (a : Int) i2 a (by first | assumption | (simp only [Sort.size_swp]; assumption)) (by omega) (by omega) (by omega) (by omega) (show St w00 ((g, Obj.cells (rowb dd tail) ty (0, 0)) :: ((b1, Obj.cells (LS kf lb sf sb) 116 (0, 0)) :: (H' ++ H0))) w from hw)
     exact T.blkEnd (by kernel_rfl) (fun w h => h)
    refine T.an 73 (decide ((i2 : Int) ≤ (j : Int))) (lt dd[i2]! dd[a]!) (T.nil (QN.seq (W.cd ((decide ((i2 : Int) ≤ (j : Int))) && (lt dd[i2]! dd[a]!)) (fun h8 => ?_) (fun h8 => ?_))))
    ·
     have h8l := (Bool.and_eq_true_iff.1 h8).1
     have h8r := (Bool.and_eq_true_iff.1 h8).2
     have h8l' := of_decide_eq_true h8l
     refine W.skip (QN.seq (W.block (W.rg od3 (T.pi 74 i2 (T.pw 75 ((i2 : Int) + 1) (T.pe 10 (.int .i64 ((i2 : Int) + 1)) (.int .i64 ((i2 + 1 : Nat) : Int)) (int_eq (by omega)) (T.nil (QN.blkNormal (QN.back (i2 + 1) ?_ ?_ (by kernel_rfl) (fun w h => h))))))))))
     ·
      try dsimp only
      exact ⟨by omega, by omega, (su_step (p := (fun x => lt x dd[a]!)) h8).trans hsu⟩
     · show j + 1 - (i2 + 1) < j + 1 - i2; omega
    ·
     refine W.exit (QN.thenExit (QN.thenExit (QN.blkHit (QN.seq (W.seq (W.block (W.loop (σ := Nat) (fun gs => gs ≤ j ∧ i2 ≤ gs + 2 ∧ Sort.scanDown (fun x => !lt x dd[a]!) dd i2 gs = Sort.scanDown (fun x => !lt x dd[a]!) dd i2 j) (fun gs => [(1, .int .i64 a), (4, .pointer (some ⟨b1, 0, none⟩)), (8, .int .i64 0), (9, .bool false), (10, .int .i64 i2), (11, .int .i64 gs), (64, .int .i64 i2), (65, .int .i64 j), (66, .bool (decide ((i2 : Int) ≤ (j : Int)))), (67, .bool (decide ((i2 : Int) ≤ (j : Int)))), (72, gv ((decide ((i2 : Int) ≤ (j : Int))) == true) (.bool (lt dd[i2]! dd[a]!))), (73, .bool ((decide ((i2 : Int) ≤ (j : Int))) && (lt dd[i2]! dd[a]!)))]) (fun gs => St w00 ((g, Obj.cells (rowb dd tail) ty (0, 0)) :: ((b1, Obj.cells (LS kf lb sf sb) 116 (0, 0)) :: (H' ++ H0)))) (fun gs => gs) j ?_ (by kernel_rfl) (fun w h => h) ?_)))))))
     ·
      try dsimp only
      exact ⟨Nat.le_refl _, by omega, rfl⟩
     rintro j2 hI_
     obtain ⟨hj2a, hj2b, hsd⟩ : j2 ≤ j ∧ i2 ≤ j2 + 2 ∧ Sort.scanDown (fun x => !lt x dd[a]!) dd i2 j2 = Sort.scanDown (fun x => !lt x dd[a]!) dd i2 j := hI_
     refine W.seq (W.seq (W.rg od11 (T.pi 76 i2 (T.pi 77 j2 (T.pb 78 (decide ((i2 : Int) ≤ (j2 : Int))) (T.pb 79 (decide ((i2 : Int) ≤ (j2 : Int))) (T.bk [(4, false), (5, false), (6, false), (7, false), (8, false), (9, false)] [(10, false)] 3 true (decide ((i2 : Int) ≤ (j2 : Int))) 79 85 (.bool (!(lt dd[j2]! dd[a]!))) (fun hg9 => ?_) ?_)))))))
     ·
      have hg9_ := hg9
      have hg9' := of_decide_eq_true hg9
      refine T.pu 80 (.pointer (some ⟨b1, 0, none⟩)) (T.ld false 81 (.func (.func kf) #[] lb) 90 b1 0 (fun w h => St.cellM h mm1 (by kernel_rfl)) (T.pi 82 j2 (T.pi 83 a (T.cp 84 kf (#[.int .i64 j2, .int .i64 a] ++ lb) (.bool (lt dd[j2]! dd[a]!)) hS.ent ?_ tv2 ?_))))
      · exact fun w hw => hS.less ((b1, Obj.cells (LS kf lb sf sb) 116 (0, 0)) :: H') dd w (j2 : Int) (a : Int) j2 a (by first | assumption | (simp only [Sort.size_swp]; assumption)) (by omega) (by omega) (by omega) (by omega) (show St w00 ((g, Obj.cells (rowb dd tail) ty (0, 0)) :: ((b1, Obj.cells (LS kf lb sf sb) 116 (0, 0)) :: (H' ++ H0))) w from hw)
      refine T.pb 85 (!(lt dd[j2]! dd[a]!)) ?_
      exact T.blkEnd (by kernel_rfl) (fun w h => h)
     refine T.an 86 (decide ((i2 : Int) ≤ (j2 : Int))) (!(lt dd[j2]! dd[a]!)) (T.nil (QN.seq (W.cd ((decide ((i2 : Int) ≤ (j2 : Int))) && (!(lt dd[j2]! dd[a]!))) (fun h10 => ?_) (fun h10 => ?_))))
     ·
      have h10l := (Bool.and_eq_true_iff.1 h10).1
      have h10r := (Bool.and_eq_true_iff.1 h10).2
      have h10l' := of_decide_eq_true h10l
      have h10rn := not_eq_true h10r
      refine W.skip (QN.seq (W.block (W.rg od3 (T.pi 87 j2 (T.pw 88 ((j2 : Int) - 1) (T.pe 11 (.int .i64 ((j2 : Int) - 1)) (.int .i64 ((j2 - 1 : Nat) : Int)) (int_eq (by omega)) (T.nil (QN.blkNormal (QN.cast 11 (.int .i64 ((j2 - 1 : Nat) : Int)) (.int .i64 ((j2 - 1 : Nat) : Int)) (by kernel_rfl) (int_eq (by omega)) (QN.back (j2 - 1) ?_ ?_ (by kernel_rfl) (fun w h => h)))))))))))
      ·
       try dsimp only
       exact ⟨by omega, by omega, (sw_step (p := (fun x => !lt x dd[a]!)) h10 (by omega)).trans hsd⟩
      · show _ < _; omega
     ·
      refine W.exit (QN.thenExit (QN.thenExit (QN.blkHit (QN.seq (W.seq (W.seq (W.rg od3 (T.pi 89 i2 (T.pi 90 j2 (T.pb 91 (decide ((j2 : Int) < (i2 : Int))) (T.nil (QN.seq (W.cd (decide ((j2 : Int) < (i2 : Int))) (fun h11 => ?_) (fun h11 => ?_))))))))))))))
      ·
       have h11' := of_decide_eq_true h11
       refine W.exit (QN.thenExit (QN.blkMiss (by decide) (QN.thenExit (QN.blkHit (QN.seq (W.seq (W.rg od5 (T.pu 101 (.pointer (some ⟨b1, 1, none⟩)) (T.ld false 102 (.func (.func sf) #[] sb) 111 b1 1 (fun w h => St.cellM h mm1 (by kernel_rfl)) (T.pi 103 j2 (T.pi 104 a (T.callV 105 sf (#[.int .i64 j2, .int .i64 a] ++ sb) (.tuple #[]) (St w00 ((g, Obj.cells (rowb (Sort.swp dd j2 a) tail) ty (0, 0)) :: ((b1, Obj.cells (LS kf lb sf sb) 116 (0, 0)) :: (H' ++ H0)))) (by kernel_rfl) (by kernel_rfl) ?_ tv2 ?_))))))))))))
       · exact fun w hw => hS.swap ((b1, Obj.cells (LS kf lb sf sb) 116 (0, 0)) :: H') dd w (j2 : Int) (a : Int) j2 a (by first | assumption | (simp only [Sort.size_swp]; assumption)) (by omega) (by omega) (by omega) (by omega) (show St w00 ((g, Obj.cells (rowb dd tail) ty (0, 0)) :: ((b1, Obj.cells (LS kf lb sf sb) 116 (0, 0)) :: (H' ++ H0))) w from hw)
       refine T.nil (QN.seq (W.seq (W.rg od3 (T.pi 106 j2 (T.pi 8 j2 (T.pb 9 false (T.nil (QN.seq (W.ret (QN.done2 (.inl rfl) 8 9 (.int .i64 j2) (.bool false) rfl (by kernel_rfl) (by kernel_rfl) (fun w hw => ?_)))))))))))
       exact (by rw [pt_later (lt := lt) (((su_stop (p := (fun x => lt x (Sort.swp d a pivot)[a]!)) h3).symm).trans hs0) (((sw_stop (p := (fun x => !lt x (Sort.swp d a pivot)[a]!)) h5).symm).trans hs1) (by omega) (he.symm.trans (pl_stop (((su_stop (p := (fun x => lt x dd[a]!)) h8).symm).trans hsu) (((sw_stop (p := (fun x => !lt x dd[a]!)) h10).symm).trans hsd) (by omega)))]; exact ⟨rfl, ((hw.perm pm0).part (((List.Sublist.refl _).cons _).cons_cons _))⟩)
      ·
       have h11' := of_decide_eq_false h11
       refine W.skip (QN.seq (W.seq (W.rg od5 (T.pu 92 (.pointer (some ⟨b1, 1, none⟩)) (T.ld false 93 (.func (.func sf) #[] sb) 111 b1 1 (fun w h => St.cellM h mm1 (by kernel_rfl)) (T.pi 94 i2 (T.pi 95 j2 (T.callV 96 sf (#[.int .i64 i2, .int .i64 j2] ++ sb) (.tuple #[]) (St w00 ((g, Obj.cells (rowb (Sort.swp dd i2 j2) tail) ty (0, 0)) :: ((b1, Obj.cells (LS kf lb sf sb) 116 (0, 0)) :: (H' ++ H0)))) (by kernel_rfl) (by kernel_rfl) ?_ tv2 ?_))))))))
       · exact fun w hw => hS.swap ((b1, Obj.cells (LS kf lb sf sb) 116 (0, 0)) :: H') dd w (i2 : Int) (j2 : Int) i2 j2 (by first | assumption | (simp only [Sort.size_swp]; assumption)) (by omega) (by omega) (by omega) (by omega) (show St w00 ((g, Obj.cells (rowb dd tail) ty (0, 0)) :: ((b1, Obj.cells (LS kf lb sf sb) 116 (0, 0)) :: (H' ++ H0))) w from hw)
       refine T.nil (QN.seq (W.seq (W.rg od3 (T.pi 97 i2 (T.pw 98 ((i2 : Int) + 1) (T.pe 10 (.int .i64 ((i2 : Int) + 1)) (.int .i64 ((i2 + 1 : Nat) : Int)) (int_eq (by omega)) (T.nil (QN.seq (W.rg od3 (T.pi 99 j2 (T.pw 100 ((j2 : Int) - 1) (T.pe 11 (.int .i64 ((j2 : Int) - 1)) (.int .i64 ((j2 - 1 : Nat) : Int)) (int_eq (by omega)) (T.nil (QN.blkNormal (QN.back (i2 + 1, j2 - 1, Sort.swp dd i2 j2) ?_ ?_ (by kernel_rfl) (fun w h => h))))))))))))))))
       ·
        try dsimp only
        exact ⟨by omega, by omega, by omega, by rw [Sort.size_swp]; exact hdd, (pl_step (((su_stop (p := (fun x => lt x dd[a]!)) h8).symm).trans hsu) (((sw_stop (p := (fun x => !lt x dd[a]!)) h10).symm).trans hsd) (by omega) (by omega) (by omega)).trans he⟩
       · show (j2 - 1) + 1 - (i2 + 1) < j + 1 - i; omega
section
variable {α : Type} [Inhabited α] {lt : α → α → Bool}
theorem ss_step {d : Array α} {b i : Nat} (c : ((decide ((i : Int) < (b : Int))) && (!(lt d[i]! d[(i - 1)]!))) = true) : Sort.scanSorted lt d b (i + 1) = Sort.scanSorted lt d b i := by
  conv => rhs; rw [Sort.scanSorted]
  rw [if_pos (dlt c)]
theorem ss_stop {d : Array α} {b i : Nat} (c : ((decide ((i : Int) < (b : Int))) && (!(lt d[i]! d[(i - 1)]!))) = false) : Sort.scanSorted lt d b i = i := by
  rw [Sort.scanSorted, if_neg (by rw [dlt c]; simp)]
theorem dn_stop0 {d : Array α} {j : Nat} (h : ¬ (1 : Int) ≤ (j : Int)) : Sort.shiftDown lt j d = d := by
  have : j = 0 := by omega
  subst this; rfl
theorem dn_stop1 {d : Array α} {j : Nat} (h : (1 : Int) ≤ (j : Int)) (c : (!(lt d[j]! d[(j - 1)]!)) = true) : Sort.shiftDown lt j d = d := by
  obtain ⟨k, rfl⟩ : ∃ k, j = k + 1 := ⟨j - 1, by omega⟩
  rw [Sort.shiftDown, if_pos (by simpa using c)]
theorem dn_step {d : Array α} {j : Nat} (h : (1 : Int) ≤ (j : Int)) (c : (!(lt d[j]! d[(j - 1)]!)) = false) : Sort.shiftDown lt (j - 1) (Sort.swp d j (j - 1)) = Sort.shiftDown lt j d := by
  obtain ⟨k, rfl⟩ : ∃ k, j = k + 1 := ⟨j - 1, by omega⟩
  conv => rhs; rw [Sort.shiftDown]
  rw [if_neg (by simpa using c)]; rfl
theorem up_stop0 {d : Array α} {b j : Nat} (h : ¬ (j : Int) < (b : Int)) : Sort.shiftUp lt b j d = d := by rw [Sort.shiftUp, if_neg (by omega)]
theorem up_stop1 {d : Array α} {b j : Nat} (h : (j : Int) < (b : Int)) (c : (!(lt d[j]! d[(j - 1)]!)) = true) : Sort.shiftUp lt b j d = d := by rw [Sort.shiftUp, if_pos (by omega), if_pos c]
theorem up_step {d : Array α} {b j : Nat} (h : (j : Int) < (b : Int)) (c : (!(lt d[j]! d[(j - 1)]!)) = false) : Sort.shiftUp lt b (j + 1) (Sort.swp d j (j - 1)) = Sort.shiftUp lt b j d := by
  conv => rhs; rw [Sort.shiftUp]
  rw [if_pos (by omega), if_neg (by rw [c]; simp)]
theorem pi_true {d : Array α} {a b s i i2 : Nat} (hs : 0 < s) (h : i2 = Sort.scanSorted lt d b i) (hb : i2 = b) : Sort.partialIns lt a b s i d = (d, true) := by
  obtain ⟨k, rfl⟩ : ∃ k, s = k + 1 := ⟨s - 1, by omega⟩
  rw [Sort.partialIns, ← h, if_pos hb]
theorem pi_short {d : Array α} {a b s i i2 : Nat} (hs : 0 < s) (h : i2 = Sort.scanSorted lt d b i) (hb : i2 ≠ b) (h5 : b - a < 50) : Sort.partialIns lt a b s i d = (d, false) := by
  obtain ⟨k, rfl⟩ : ∃ k, s = k + 1 := ⟨s - 1, by omega⟩
  rw [Sort.partialIns, ← h, if_neg hb, if_pos h5]
theorem pi_step {d e1 e2 : Array α} {a b s i i2 : Nat} (hs : 0 < s) (h : i2 = Sort.scanSorted lt d b i) (hb : i2 ≠ b) (h5 : ¬ b - a < 50) (he1 : e1 = if i2 - a ≥ 2 then Sort.shiftDown lt (i2 - 1) (Sort.swp d i2 (i2 - 1)) else Sort.swp d i2 (i2 - 1)) (he2 : e2 = if b - i2 ≥ 2 then Sort.shiftUp lt b (i2 + 1) e1 else e1) :
    Sort.partialIns lt a b (s - 1) i2 e2 = Sort.partialIns lt a b s i d := by
  obtain ⟨k, rfl⟩ : ∃ k, s = k + 1 := ⟨s - 1, by omega⟩
  conv => rhs; rw [Sort.partialIns]
  simp only [← h]
  rw [if_neg hb, if_neg h5, ← he1, ← he2]; rfl
end
set_option maxRecDepth 100000 in
set_option maxHeartbeats 2000000 in
theorem partial_c {α : Type} [Cel α] [Inhabited α] {w00 : World} {g n : Nat} {ty : TypeId} {tail : List Value} {lt : α → α → Bool} {kf : Nat} {lb : Array Value} {sf : Nat} {sb : Array Value} {H0 : List (Nat × Obj)} (hS : SortOk Try.prog α w00 g n ty tail lt kf lb sf sb H0) (hn : n ≤ 1000) (d : Array α) (a b : Nat) (hd : d.size = n) (hab : a < b) (hb : b ≤ n) (H' : List (Nat × Obj)) (w : World) (hst : St w00 ((g, .cells (rowb d tail) ty (0, 0)) :: (H' ++ H0)) w) : Calls Try.prog 107 #[.agg (LS kf lb sf sb), .int .i64 a, .int .i64 b] w (fun rr w' => rr = .returned (.bool (Sort.partialInsertionSort lt d a b).2) ∧ St w00 ((g, .cells (rowb ((Sort.partialInsertionSort lt d a b).1) tail) ty (0, 0)) :: (H' ++ H0)) w') := by
 refine calls_W (n := 91) Try.func107 rfl [(0, .agg (LS kf lb sf sb)), (1, .int .i64 a), (2, .int .i64 b)] rfl ⟨by kernel_rfl, by kernel_rfl⟩ (W.weak (Ψ := St w00 ((g, Obj.cells (rowb d tail) ty (0, 0)) :: (H' ++ H0))) (fun w' h => by rw [h]; exact hst) (W.seq (W.rg od2 (T.bx 3 116 (.agg (LS kf lb sf sb)) ((LS kf lb sf sb)) tv3 (fun b1 => T.pb 6 false (T.nil (QN.seq (W.seq (W.rg od3 (T.pi 11 a (T.pw 12 ((a : Int) + 1) (T.pi 7 ((a : Int) + 1) (T.nil (QN.seq (W.seq (W.seq (W.rg od1 (T.pi 8 0 (T.nil (QN.seq (W.block (W.loop (σ := Nat × Nat × Array α) (fun gs => gs.1 ≤ 5 ∧ a + 1 ≤ gs.2.1 ∧ gs.2.1 ≤ b ∧ gs.2.2.size = n ∧ Sort.partialIns lt a b (5 - gs.1) gs.2.1 gs.2.2 = Sort.partialIns lt a b 5 (a + 1) d) (fun gs => [(1, .int .i64 a), (2, .int .i64 b), (3, .pointer (some ⟨b1, 0, none⟩)), (7, .int .i64 (gs.2.1 : Int)), (8, .int .i64 (gs.1 : Int))]) (fun gs => St w00 ((b1, Obj.cells (LS kf lb sf sb) 116 (0, 0)) :: ((g, Obj.cells (rowb gs.2.2 tail) ty (0, 0)) :: (H' ++ H0)))) (fun gs => 5 - gs.1) (0, a + 1, d) ?_ (by kernel_rfl) (fun w h => h) ?_))))))))))))))))))))))
 ·
  try dsimp only
  exact ⟨by omega, Nat.le_refl _, by omega, hd, rfl⟩
 rintro ⟨k, i, dd⟩ hI_
 obtain ⟨hk, hi1, hib, hdd, he⟩ : k ≤ 5 ∧ a + 1 ≤ i ∧ i ≤ b ∧ dd.size = n ∧ Sort.partialIns lt a b (5 - k) i dd = Sort.partialIns lt a b 5 (a + 1) d := hI_
 refine W.seq (W.seq (W.rg od2 (T.pi 13 k (T.pb 14 (decide ((k : Int) < 5)) (T.nil (QN.seq (W.cd (decide ((k : Int) < 5)) (fun h2 => ?_) (fun h2 => ?_))))))))
 ·
  have h2' := of_decide_eq_true h2
  refine W.skip (QN.seq (W.seq (W.block (W.seq (W.block (W.loop (σ := Nat) (fun gs => i ≤ gs ∧ gs ≤ b ∧ Sort.scanSorted lt dd b gs = Sort.scanSorted lt dd b i) (fun gs => [(1, .int .i64 a), (2, .int .i64 b), (3, .pointer (some ⟨b1, 0, none⟩)), (7, .int .i64 gs), (8, .int .i64 k), (13, .int .i64 k), (14, .bool (decide ((k : Int) < 5)))]) (fun gs => St w00 ((b1, Obj.cells (LS kf lb sf sb) 116 (0, 0)) :: ((g, Obj.cells (rowb dd tail) ty (0, 0)) :: (H' ++ H0)))) (fun gs => b - gs) i ?_ (by kernel_rfl) (fun w h => h) ?_))))))
  ·
   try dsimp only
   exact ⟨Nat.le_refl _, hib, rfl⟩
  rintro i2 hI_
  obtain ⟨hi2a, hi2b, hss⟩ : i ≤ i2 ∧ i2 ≤ b ∧ Sort.scanSorted lt dd b i2 = Sort.scanSorted lt dd b i := hI_
  refine W.seq (W.seq (W.rg od12 (T.pi 17 i2 (T.pi 18 b (T.pb 19 (decide ((i2 : Int) < (b : Int))) (T.pb 20 (decide ((i2 : Int) < (b : Int))) (T.bk [(4, false), (5, false), (6, false), (7, false), (8, false), (9, false), (10, false)] [(11, false)] 3 true (decide ((i2 : Int) < (b : Int))) 20 27 (.bool (!(lt dd[i2]! dd[(i2 - 1)]!))) (fun hg3 => ?_) ?_)))))))
  ·
   have hg3_ := hg3
   have hg3' := of_decide_eq_true hg3
   refine T.pu 21 (.pointer (some ⟨b1, 0, none⟩)) (T.ld false 22 (.func (.func kf) #[] lb) 90 b1 0 (fun w h => St.cellM h mm0 (by kernel_rfl)) (T.pi 23 i2 (T.pi 24 i2 (T.pw 25 ((i2 : Int) - 1) (T.cp 26 kf (#[.int .i64 i2, .int .i64 ((i2 : Int) - 1)] ++ lb) (.bool (lt dd[i2]! dd[(i2 - 1)]!)) hS.ent ?_ tv2 ?_)))))
   · exact fun w hw => hS.less ((b1, Obj.cells (LS kf lb sf sb) 116 (0, 0)) :: H') dd w (i2 : Int) ((i2 : Int) - 1) i2 (i2 - 1) (by first | assumption | (simp only [Sort.size_swp]; assumption)) (by omega) (by omega) (by omega) (by omega) (show St w00 ((g, Obj.cells (rowb dd tail) ty (0, 0)) :: ((b1, Obj.cells (LS kf lb sf sb) 116 (0, 0)) :: (H' ++ H0))) w from (hw.perm (pm1.trans (pm0.cons _))))
   refine T.pb 27 (!(lt dd[i2]! dd[(i2 - 1)]!)) ?_
   exact T.blkEnd (by kernel_rfl) (fun w h => h)
  refine T.an 28 (decide ((i2 : Int) < (b : Int))) (!(lt dd[i2]! dd[(i2 - 1)]!)) (T.nil (QN.seq (W.cd ((decide ((i2 : Int) < (b : Int))) && (!(lt dd[i2]! dd[(i2 - 1)]!))) (fun h4 => ?_) (fun h4 => ?_))))
  ·
   have h4l := (Bool.and_eq_true_iff.1 h4).1
   have h4r := (Bool.and_eq_true_iff.1 h4).2
   have h4l' := of_decide_eq_true h4l
   have h4rn := not_eq_true h4r
   refine W.skip (QN.seq (W.block (W.rg od3 (T.pi 29 i2 (T.pw 30 ((i2 : Int) + 1) (T.pi 7 ((i2 : Int) + 1) (T.nil (QN.blkNormal (QN.back (i2 + 1) ?_ ?_ (by kernel_rfl) (fun w h => h))))))))))
   ·
    try dsimp only
    exact ⟨by omega, by omega, (ss_step h4).trans hss⟩
   · show b - (i2 + 1) < b - i2; omega
  ·
   refine W.exit (QN.thenExit (QN.thenExit (QN.blkHit (QN.seq (W.seq (W.seq (W.rg od3 (T.pi 31 i2 (T.pi 32 b (T.pb 33 ((i2 : Int) == (b : Int)) (T.nil (QN.seq (W.cd ((i2 : Int) == (b : Int)) (fun h5 => ?_) (fun h5 => ?_))))))))))))))
   ·
    have h5' := eq_of_beq h5
    refine W.seq (W.rg od1 (T.pb 6 true (T.nil (QN.seq (W.ret (QN.thenRet (QN.blkRet (QN.thenRet (QN.thenRet (QN.blkRet (QN.thenRet (QN.done (.inl rfl) 6 (.bool true) rfl (by kernel_rfl) (fun w hw => ?_)))))))))))))
    exact (by rw [show Sort.partialInsertionSort lt d a b = (dd, true) from by rw [Sort.partialInsertionSort, ← he]; exact (pi_true (by omega) ((ss_stop h4).symm.trans hss) (by omega))]; exact ⟨rfl, ((hw.perm pm1).part (((List.Sublist.refl _).cons _).cons_cons _))⟩)
   ·
    have h5' := ne_of_beq_false h5
    refine W.skip (QN.seq (W.seq (W.seq (W.rg od4 (T.pi 34 b (T.pi 35 a (T.pw 36 ((b : Int) - (a : Int)) (T.pb 37 (decide (((b : Int) - (a : Int)) < 50)) (T.nil (QN.seq (W.cd (decide (((b : Int) - (a : Int)) < 50)) (fun h6 => ?_) (fun h6 => ?_))))))))))))
    ·
     have h6' := of_decide_eq_true h6
     refine W.seq (W.rg od1 (T.pb 6 false (T.nil (QN.seq (W.ret (QN.thenRet (QN.blkRet (QN.thenRet (QN.thenRet (QN.blkRet (QN.thenRet (QN.done (.inl rfl) 6 (.bool false) rfl (by kernel_rfl) (fun w hw => ?_)))))))))))))
     exact (by rw [show Sort.partialInsertionSort lt d a b = (dd, false) from by rw [Sort.partialInsertionSort, ← he]; exact (pi_short (by omega) ((ss_stop h4).symm.trans hss) (by omega) (by omega))]; exact ⟨rfl, ((hw.perm pm1).part (((List.Sublist.refl _).cons _).cons_cons _))⟩)
    ·
     have h6' := of_decide_eq_false h6
     refine W.skip (QN.seq (W.seq (W.rg od6 (T.pu 38 (.pointer (some ⟨b1, 1, none⟩)) (T.ld false 39 (.func (.func sf) #[] sb) 111 b1 1 (fun w h => St.cellM h mm0 (by kernel_rfl)) (T.pi 40 i2 (T.pi 41 i2 (T.pw 42 ((i2 : Int) - 1) (T.callV 43 sf (#[.int .i64 i2, .int .i64 ((i2 : Int) - 1)] ++ sb) (.tuple #[]) (St w00 ((g, Obj.cells (rowb (Sort.swp dd i2 (i2 - 1)) tail) ty (0, 0)) :: ((b1, Obj.cells (LS kf lb sf sb) 116 (0, 0)) :: (H' ++ H0)))) (by kernel_rfl) (by kernel_rfl) ?_ tv2 ?_)))))))))
     · exact fun w hw => hS.swap ((b1, Obj.cells (LS kf lb sf sb) 116 (0, 0)) :: H') dd w (i2 : Int) ((i2 : Int) - 1) i2 (i2 - 1) (by first | assumption | (simp only [Sort.size_swp]; assumption)) (by omega) (by omega) (by omega) (by omega) (show St w00 ((g, Obj.cells (rowb dd tail) ty (0, 0)) :: ((b1, Obj.cells (LS kf lb sf sb) 116 (0, 0)) :: (H' ++ H0))) w from (hw.perm (pm1.trans (pm0.cons _))))
     refine T.nil (QN.seq (W.seq (W.seq (W.rg od4 (T.pi 44 i2 (T.pi 45 a (T.pw 46 ((i2 : Int) - (a : Int)) (T.pb 47 (decide (2 ≤ ((i2 : Int) - (a : Int)))) (T.nil (QN.seq (W.cd (decide (2 ≤ ((i2 : Int) - (a : Int)))) (fun h7 => ?_) (fun h7 => ?_))))))))))))
     ·
      have h7' := of_decide_eq_true h7
      refine W.seq (W.rg od3 (T.pi 48 i2 (T.pw 49 ((i2 : Int) - 1) (T.pe 9 (.int .i64 ((i2 : Int) - 1)) (.int .i64 ((i2 - 1 : Nat) : Int)) (int_eq (by omega)) (T.nil (QN.seq (W.block (W.loop (σ := Nat × Array α) (fun gs => gs.1 ≤ i2 - 1 ∧ gs.2.size = n ∧ Sort.shiftDown lt gs.1 gs.2 = Sort.shiftDown lt (i2 - 1) (Sort.swp dd i2 (i2 - 1))) (fun gs => [(1, .int .i64 a), (2, .int .i64 b), (3, .pointer (some ⟨b1, 0, none⟩)), (7, .int .i64 i2), (8, .int .i64 k), (9, .int .i64 (gs.1 : Int)), (13, .int .i64 k), (14, .bool (decide ((k : Int) < 5))), (17, .int .i64 i2), (18, .int .i64 b), (19, .bool (decide ((i2 : Int) < (b : Int)))), (20, .bool (decide ((i2 : Int) < (b : Int)))), (27, gv ((decide ((i2 : Int) < (b : Int))) == true) (.bool (!(lt dd[i2]! dd[(i2 - 1)]!)))), (28, .bool ((decide ((i2 : Int) < (b : Int))) && (!(lt dd[i2]! dd[(i2 - 1)]!)))), (31, .int .i64 i2), (32, .int .i64 b), (33, .bool ((i2 : Int) == (b : Int))), (34, .int .i64 b), (35, .int .i64 a), (36, .int .i64 ((b : Int) - (a : Int))), (37, .bool (decide (((b : Int) - (a : Int)) < 50))), (38, .pointer (some ⟨b1, 1, none⟩)), (39, .func (.func sf) #[] sb), (40, .int .i64 i2), (41, .int .i64 i2), (42, .int .i64 ((i2 : Int) - 1)), (44, .int .i64 i2), (45, .int .i64 a), (46, .int .i64 ((i2 : Int) - (a : Int))), (47, .bool (decide (2 ≤ ((i2 : Int) - (a : Int))))), (48, .int .i64 i2), (49, .int .i64 ((i2 : Int) - 1))]) (fun gs => St w00 ((g, Obj.cells (rowb gs.2 tail) ty (0, 0)) :: ((b1, Obj.cells (LS kf lb sf sb) 116 (0, 0)) :: (H' ++ H0)))) (fun gs => gs.1) (i2 - 1, Sort.swp dd i2 (i2 - 1)) ?_ (by kernel_rfl) (fun w h => h) ?_))))))))
      ·
       try dsimp only
       exact ⟨Nat.le_refl _, by rw [Sort.size_swp]; exact hdd, rfl⟩
      rintro ⟨j2, d2⟩ hI_
      obtain ⟨hj2, hd2, hdn⟩ : j2 ≤ i2 - 1 ∧ d2.size = n ∧ Sort.shiftDown lt j2 d2 = Sort.shiftDown lt (i2 - 1) (Sort.swp dd i2 (i2 - 1)) := hI_
      refine W.seq (W.seq (W.rg od2 (T.pi 50 j2 (T.pb 51 (decide (1 ≤ (j2 : Int))) (T.nil (QN.seq (W.cd (decide (1 ≤ (j2 : Int))) (fun h8 => ?_) (fun h8 => ?_))))))))
      ·
       have h8' := of_decide_eq_true h8
       refine W.skip (QN.seq (W.seq (W.block (W.seq (W.seq (W.rg od7 (T.pu 54 (.pointer (some ⟨b1, 0, none⟩)) (T.ld false 55 (.func (.func kf) #[] lb) 90 b1 0 (fun w h => St.cellM h mm1 (by kernel_rfl)) (T.pi 56 j2 (T.pi 57 j2 (T.pw 58 ((j2 : Int) - 1) (T.cp 59 kf (#[.int .i64 j2, .int .i64 ((j2 : Int) - 1)] ++ lb) (.bool (lt d2[j2]! d2[(j2 - 1)]!)) hS.ent ?_ tv2 ?_))))))))))))
       · exact fun w hw => hS.less ((b1, Obj.cells (LS kf lb sf sb) 116 (0, 0)) :: H') d2 w (j2 : Int) ((j2 : Int) - 1) j2 (j2 - 1) (by first | assumption | (simp only [Sort.size_swp]; assumption)) (by omega) (by omega) (by omega) (by omega) (show St w00 ((g, Obj.cells (rowb d2 tail) ty (0, 0)) :: ((b1, Obj.cells (LS kf lb sf sb) 116 (0, 0)) :: (H' ++ H0))) w from hw)
       refine T.pb 60 (!(lt d2[j2]! d2[(j2 - 1)]!)) (T.nil (QN.seq (W.cd (!(lt d2[j2]! d2[(j2 - 1)]!)) (fun h9 => ?_) (fun h9 => ?_))))
       ·
        have h9n := not_eq_true h9
        refine W.exit (QN.thenExit (QN.blkMiss (by decide) (QN.thenExit (QN.thenExit (QN.blkHit (QN.seq (W.seq (W.rg od4 (T.pi 67 b (T.pi 68 i2 (T.pw 69 ((b : Int) - (i2 : Int)) (T.pb 70 (decide (2 ≤ ((b : Int) - (i2 : Int)))) (T.nil (QN.seq (W.cd (decide (2 ≤ ((b : Int) - (i2 : Int)))) (fun h10 => ?_) (fun h10 => ?_))))))))))))))))
        ·
         have h10' := of_decide_eq_true h10
         refine W.seq (W.rg od3 (T.pi 71 i2 (T.pw 72 ((i2 : Int) + 1) (T.pi 10 ((i2 : Int) + 1) (T.nil (QN.seq (W.block (W.loop (σ := Nat × Array α) (fun gs => i2 + 1 ≤ gs.1 ∧ gs.1 ≤ b + 1 ∧ gs.2.size = n ∧ Sort.shiftUp lt b gs.1 gs.2 = Sort.shiftUp lt b (i2 + 1) d2) (fun gs => [(1, .int .i64 a), (2, .int .i64 b), (3, .pointer (some ⟨b1, 0, none⟩)), (7, .int .i64 i2), (8, .int .i64 k), (9, .int .i64 j2), (10, .int .i64 (gs.1 : Int)), (13, .int .i64 k), (14, .bool (decide ((k : Int) < 5))), (17, .int .i64 i2), (18, .int .i64 b), (19, .bool (decide ((i2 : Int) < (b : Int)))), (20, .bool (decide ((i2 : Int) < (b : Int)))), (27, gv ((decide ((i2 : Int) < (b : Int))) == true) (.bool (!(lt dd[i2]! dd[(i2 - 1)]!)))), (28, .bool ((decide ((i2 : Int) < (b : Int))) && (!(lt dd[i2]! dd[(i2 - 1)]!)))), (31, .int .i64 i2), (32, .int .i64 b), (33, .bool ((i2 : Int) == (b : Int))), (34, .int .i64 b), (35, .int .i64 a), (36, .int .i64 ((b : Int) - (a : Int))), (37, .bool (decide (((b : Int) - (a : Int)) < 50))), (38, .pointer (some ⟨b1, 1, none⟩)), (39, .func (.func sf) #[] sb), (40, .int .i64 i2), (41, .int .i64 i2), (42, .int .i64 ((i2 : Int) - 1)), (44, .int .i64 i2), (45, .int .i64 a), (46, .int .i64 ((i2 : Int) - (a : Int))), (47, .bool (decide (2 ≤ ((i2 : Int) - (a : Int))))), (48, .int .i64 i2), (49, .int .i64 ((i2 : Int) - 1)), (50, .int .i64 j2), (51, .bool (decide (1 ≤ (j2 : Int)))), (54, .pointer (some ⟨b1, 0, none⟩)), (55, .func (.func kf) #[] lb), (56, .int .i64 j2), (57, .int .i64 j2), (58, .int .i64 ((j2 : Int) - 1)), (59, .bool (lt d2[j2]! d2[(j2 - 1)]!)), (60, .bool (!(lt d2[j2]! d2[(j2 - 1)]!))), (67, .int .i64 b), (68, .int .i64 i2), (69, .int .i64 ((b : Int) - (i2 : Int))), (70, .bool (decide (2 ≤ ((b : Int) - (i2 : Int))))), (71, .int .i64 i2), (72, .int .i64 ((i2 : Int) + 1))]) (fun gs => St w00 ((g, Obj.cells (rowb gs.2 tail) ty (0, 0)) :: ((b1, Obj.cells (LS kf lb sf sb) 116 (0, 0)) :: (H' ++ H0)))) (fun gs => b - gs.1) (i2 + 1, d2) ?_ (by kernel_rfl) (fun w h => h) ?_))))))))
         ·
          try dsimp only
          exact ⟨Nat.le_refl _, by omega, by first | assumption | (simp only [Sort.size_swp]; assumption), rfl⟩
         rintro ⟨j3, d3⟩ hI_
         obtain ⟨hj3, hj3b, hd3, hup⟩ : i2 + 1 ≤ j3 ∧ j3 ≤ b + 1 ∧ d3.size = n ∧ Sort.shiftUp lt b j3 d3 = Sort.shiftUp lt b (i2 + 1) d2 := hI_
         refine W.seq (W.seq (W.rg od3 (T.pi 73 j3 (T.pi 74 b (T.pb 75 (decide ((j3 : Int) < (b : Int))) (T.nil (QN.seq (W.cd (decide ((j3 : Int) < (b : Int))) (fun h11 => ?_) (fun h11 => ?_)))))))))
         ·
          have h11' := of_decide_eq_true h11
          refine W.skip (QN.seq (W.seq (W.block (W.seq (W.seq (W.rg od7 (T.pu 78 (.pointer (some ⟨b1, 0, none⟩)) (T.ld false 79 (.func (.func kf) #[] lb) 90 b1 0 (fun w h => St.cellM h mm1 (by kernel_rfl)) (T.pi 80 j3 (T.pi 81 j3 (T.pw 82 ((j3 : Int) - 1) (T.cp 83 kf (#[.int .i64 j3, .int .i64 ((j3 : Int) - 1)] ++ lb) (.bool (lt d3[j3]! d3[(j3 - 1)]!)) hS.ent ?_ tv2 ?_))))))))))))
          · exact fun w hw => hS.less ((b1, Obj.cells (LS kf lb sf sb) 116 (0, 0)) :: H') d3 w (j3 : Int) ((j3 : Int) - 1) j3 (j3 - 1) (by first | assumption | (simp only [Sort.size_swp]; assumption)) (by omega) (by omega) (by omega) (by omega) (show St w00 ((g, Obj.cells (rowb d3 tail) ty (0, 0)) :: ((b1, Obj.cells (LS kf lb sf sb) 116 (0, 0)) :: (H' ++ H0))) w from hw)
          refine T.pb 84 (!(lt d3[j3]! d3[(j3 - 1)]!)) (T.nil (QN.seq (W.cd (!(lt d3[j3]! d3[(j3 - 1)]!)) (fun h12 => ?_) (fun h12 => ?_))))
          ·
           have h12n := not_eq_true h12
           refine W.exit (QN.thenExit (QN.blkMiss (by decide) (QN.thenExit (QN.thenExit (QN.blkHit (QN.blkNormal (QN.seq (W.rg od3 (T.pi 15 k (T.pw 16 ((k : Int) + 1) (T.pi 8 ((k : Int) + 1) (T.nil (QN.back (k + 1, i2, d3) ?_ ?_ (by kernel_rfl) (fun w h => h.perm (pm1.trans (pm0.cons _))))))))))))))))
           ·
            try dsimp only
            exact ⟨by omega, by omega, by omega, by first | assumption | (simp only [Sort.size_swp]; assumption), (show Sort.partialIns lt a b (5 - k - 1) i2 _ = _ from pi_step (e1 := d2) (by omega) ((ss_stop h4).symm.trans hss) (by omega) (by omega) (by rw [if_pos (by omega), ← hdn, dn_stop1 h8' h9]) (by rw [if_pos (by omega), ← hup, up_stop1 h11' h12])).trans he⟩
           · show 5 - (k + 1) < 5 - k; omega
          ·
           have h12n := not_eq_false h12
           refine W.skip (QN.seq (W.rg od6 (T.pu 85 (.pointer (some ⟨b1, 1, none⟩)) (T.ld false 86 (.func (.func sf) #[] sb) 111 b1 1 (fun w h => St.cellM h mm1 (by kernel_rfl)) (T.pi 87 j3 (T.pi 88 j3 (T.pw 89 ((j3 : Int) - 1) (T.callV 90 sf (#[.int .i64 j3, .int .i64 ((j3 : Int) - 1)] ++ sb) (.tuple #[]) (St w00 ((g, Obj.cells (rowb (Sort.swp d3 j3 (j3 - 1)) tail) ty (0, 0)) :: ((b1, Obj.cells (LS kf lb sf sb) 116 (0, 0)) :: (H' ++ H0)))) (by kernel_rfl) (by kernel_rfl) ?_ tv2 ?_))))))))
           · exact fun w hw => hS.swap ((b1, Obj.cells (LS kf lb sf sb) 116 (0, 0)) :: H') d3 w (j3 : Int) ((j3 : Int) - 1) j3 (j3 - 1) (by first | assumption | (simp only [Sort.size_swp]; assumption)) (by omega) (by omega) (by omega) (by omega) (show St w00 ((g, Obj.cells (rowb d3 tail) ty (0, 0)) :: ((b1, Obj.cells (LS kf lb sf sb) 116 (0, 0)) :: (H' ++ H0))) w from hw)
           refine T.nil (QN.blkNormal (QN.seq (W.rg od3 (T.pi 76 j3 (T.pw 77 ((j3 : Int) + 1) (T.pi 10 ((j3 : Int) + 1) (T.nil (QN.back (j3 + 1, Sort.swp d3 j3 (j3 - 1)) ?_ ?_ (by kernel_rfl) (fun w h => h)))))))))
           ·
            try dsimp only
            exact ⟨by omega, by omega, by rw [Sort.size_swp]; exact hd3, (up_step h11' h12).trans hup⟩
           · show b - (j3 + 1) < b - j3; omega
         ·
          have h11' := of_decide_eq_false h11
          refine W.exit (QN.thenExit (QN.thenExit (QN.blkHit (QN.blkNormal (QN.seq (W.rg od3 (T.pi 15 k (T.pw 16 ((k : Int) + 1) (T.pi 8 ((k : Int) + 1) (T.nil (QN.back (k + 1, i2, d3) ?_ ?_ (by kernel_rfl) (fun w h => h.perm (pm1.trans (pm0.cons _))))))))))))))
          ·
           try dsimp only
           exact ⟨by omega, by omega, by omega, by first | assumption | (simp only [Sort.size_swp]; assumption), (show Sort.partialIns lt a b (5 - k - 1) i2 _ = _ from pi_step (e1 := d2) (by omega) ((ss_stop h4).symm.trans hss) (by omega) (by omega) (by rw [if_pos (by omega), ← hdn, dn_stop1 h8' h9]) (by rw [if_pos (by omega), ← hup, up_stop0 h11'])).trans he⟩
          · show 5 - (k + 1) < 5 - k; omega
        ·
         have h10' := of_decide_eq_false h10
         refine W.skip (QN.blkNormal (QN.seq (W.rg od3 (T.pi 15 k (T.pw 16 ((k : Int) + 1) (T.pi 8 ((k : Int) + 1) (T.nil (QN.back (k + 1, i2, d2) ?_ ?_ (by kernel_rfl) (fun w h => h.perm (pm1.trans (pm0.cons _)))))))))))
         ·
          try dsimp only
          exact ⟨by omega, by omega, by omega, by first | assumption | (simp only [Sort.size_swp]; assumption), (show Sort.partialIns lt a b (5 - k - 1) i2 _ = _ from pi_step (e1 := d2) (by omega) ((ss_stop h4).symm.trans hss) (by omega) (by omega) (by rw [if_pos (by omega), ← hdn, dn_stop1 h8' h9]) (by rw [if_neg (by omega)])).trans he⟩
         · show 5 - (k + 1) < 5 - k; omega
       ·
        have h9n := not_eq_false h9
        refine W.skip (QN.seq (W.rg od6 (T.pu 61 (.pointer (some ⟨b1, 1, none⟩)) (T.ld false 62 (.func (.func sf) #[] sb) 111 b1 1 (fun w h => St.cellM h mm1 (by kernel_rfl)) (T.pi 63 j2 (T.pi 64 j2 (T.pw 65 ((j2 : Int) - 1) (T.callV 66 sf (#[.int .i64 j2, .int .i64 ((j2 : Int) - 1)] ++ sb) (.tuple #[]) (St w00 ((g, Obj.cells (rowb (Sort.swp d2 j2 (j2 - 1)) tail) ty (0, 0)) :: ((b1, Obj.cells (LS kf lb sf sb) 116 (0, 0)) :: (H' ++ H0)))) (by kernel_rfl) (by kernel_rfl) ?_ tv2 ?_))))))))
        · exact fun w hw => hS.swap ((b1, Obj.cells (LS kf lb sf sb) 116 (0, 0)) :: H') d2 w (j2 : Int) ((j2 : Int) - 1) j2 (j2 - 1) (by first | assumption | (simp only [Sort.size_swp]; assumption)) (by omega) (by omega) (by omega) (by omega) (show St w00 ((g, Obj.cells (rowb d2 tail) ty (0, 0)) :: ((b1, Obj.cells (LS kf lb sf sb) 116 (0, 0)) :: (H' ++ H0))) w from hw)
        refine T.nil (QN.blkNormal (QN.seq (W.rg od3 (T.pi 52 j2 (T.pw 53 ((j2 : Int) - 1) (T.pe 9 (.int .i64 ((j2 : Int) - 1)) (.int .i64 ((j2 - 1 : Nat) : Int)) (int_eq (by omega)) (T.nil (QN.cast 9 (.int .i64 ((j2 - 1 : Nat) : Int)) (.int .i64 ((j2 - 1 : Nat) : Int)) (by kernel_rfl) (int_eq (by omega)) (QN.back (j2 - 1, Sort.swp d2 j2 (j2 - 1)) ?_ ?_ (by kernel_rfl) (fun w h => h))))))))))
        ·
         try dsimp only
         exact ⟨by omega, by rw [Sort.size_swp]; exact hd2, (dn_step h8' h9).trans hdn⟩
        · show _ < _; omega
      ·
       have h8' := of_decide_eq_false h8
       refine W.exit (QN.thenExit (QN.thenExit (QN.blkHit (QN.seq (W.seq (W.rg od4 (T.pi 67 b (T.pi 68 i2 (T.pw 69 ((b : Int) - (i2 : Int)) (T.pb 70 (decide (2 ≤ ((b : Int) - (i2 : Int)))) (T.nil (QN.seq (W.cd (decide (2 ≤ ((b : Int) - (i2 : Int)))) (fun h13 => ?_) (fun h13 => ?_))))))))))))))
       ·
        have h13' := of_decide_eq_true h13
        refine W.seq (W.rg od3 (T.pi 71 i2 (T.pw 72 ((i2 : Int) + 1) (T.pi 10 ((i2 : Int) + 1) (T.nil (QN.seq (W.block (W.loop (σ := Nat × Array α) (fun gs => i2 + 1 ≤ gs.1 ∧ gs.1 ≤ b + 1 ∧ gs.2.size = n ∧ Sort.shiftUp lt b gs.1 gs.2 = Sort.shiftUp lt b (i2 + 1) d2) (fun gs => [(1, .int .i64 a), (2, .int .i64 b), (3, .pointer (some ⟨b1, 0, none⟩)), (7, .int .i64 i2), (8, .int .i64 k), (9, .int .i64 j2), (10, .int .i64 (gs.1 : Int)), (13, .int .i64 k), (14, .bool (decide ((k : Int) < 5))), (17, .int .i64 i2), (18, .int .i64 b), (19, .bool (decide ((i2 : Int) < (b : Int)))), (20, .bool (decide ((i2 : Int) < (b : Int)))), (27, gv ((decide ((i2 : Int) < (b : Int))) == true) (.bool (!(lt dd[i2]! dd[(i2 - 1)]!)))), (28, .bool ((decide ((i2 : Int) < (b : Int))) && (!(lt dd[i2]! dd[(i2 - 1)]!)))), (31, .int .i64 i2), (32, .int .i64 b), (33, .bool ((i2 : Int) == (b : Int))), (34, .int .i64 b), (35, .int .i64 a), (36, .int .i64 ((b : Int) - (a : Int))), (37, .bool (decide (((b : Int) - (a : Int)) < 50))), (38, .pointer (some ⟨b1, 1, none⟩)), (39, .func (.func sf) #[] sb), (40, .int .i64 i2), (41, .int .i64 i2), (42, .int .i64 ((i2 : Int) - 1)), (44, .int .i64 i2), (45, .int .i64 a), (46, .int .i64 ((i2 : Int) - (a : Int))), (47, .bool (decide (2 ≤ ((i2 : Int) - (a : Int))))), (48, .int .i64 i2), (49, .int .i64 ((i2 : Int) - 1)), (50, .int .i64 j2), (51, .bool (decide (1 ≤ (j2 : Int)))), (67, .int .i64 b), (68, .int .i64 i2), (69, .int .i64 ((b : Int) - (i2 : Int))), (70, .bool (decide (2 ≤ ((b : Int) - (i2 : Int))))), (71, .int .i64 i2), (72, .int .i64 ((i2 : Int) + 1))]) (fun gs => St w00 ((g, Obj.cells (rowb gs.2 tail) ty (0, 0)) :: ((b1, Obj.cells (LS kf lb sf sb) 116 (0, 0)) :: (H' ++ H0)))) (fun gs => b - gs.1) (i2 + 1, d2) ?_ (by kernel_rfl) (fun w h => h) ?_))))))))
        ·
         try dsimp only
         exact ⟨Nat.le_refl _, by omega, by first | assumption | (simp only [Sort.size_swp]; assumption), rfl⟩
        rintro ⟨j3, d3⟩ hI_
        obtain ⟨hj3, hj3b, hd3, hup⟩ : i2 + 1 ≤ j3 ∧ j3 ≤ b + 1 ∧ d3.size = n ∧ Sort.shiftUp lt b j3 d3 = Sort.shiftUp lt b (i2 + 1) d2 := hI_
        refine W.seq (W.seq (W.rg od3 (T.pi 73 j3 (T.pi 74 b (T.pb 75 (decide ((j3 : Int) < (b : Int))) (T.nil (QN.seq (W.cd (decide ((j3 : Int) < (b : Int))) (fun h14 => ?_) (fun h14 => ?_)))))))))
        ·
         have h14' := of_decide_eq_true h14
         refine W.skip (QN.seq (W.seq (W.block (W.seq (W.seq (W.rg od7 (T.pu 78 (.pointer (some ⟨b1, 0, none⟩)) (T.ld false 79 (.func (.func kf) #[] lb) 90 b1 0 (fun w h => St.cellM h mm1 (by kernel_rfl)) (T.pi 80 j3 (T.pi 81 j3 (T.pw 82 ((j3 : Int) - 1) (T.cp 83 kf (#[.int .i64 j3, .int .i64 ((j3 : Int) - 1)] ++ lb) (.bool (lt d3[j3]! d3[(j3 - 1)]!)) hS.ent ?_ tv2 ?_))))))))))))
         · exact fun w hw => hS.less ((b1, Obj.cells (LS kf lb sf sb) 116 (0, 0)) :: H') d3 w (j3 : Int) ((j3 : Int) - 1) j3 (j3 - 1) (by first | assumption | (simp only [Sort.size_swp]; assumption)) (by omega) (by omega) (by omega) (by omega) (show St w00 ((g, Obj.cells (rowb d3 tail) ty (0, 0)) :: ((b1, Obj.cells (LS kf lb sf sb) 116 (0, 0)) :: (H' ++ H0))) w from hw)
         refine T.pb 84 (!(lt d3[j3]! d3[(j3 - 1)]!)) (T.nil (QN.seq (W.cd (!(lt d3[j3]! d3[(j3 - 1)]!)) (fun h15 => ?_) (fun h15 => ?_))))
         ·
          have h15n := not_eq_true h15
          refine W.exit (QN.thenExit (QN.blkMiss (by decide) (QN.thenExit (QN.thenExit (QN.blkHit (QN.blkNormal (QN.seq (W.rg od3 (T.pi 15 k (T.pw 16 ((k : Int) + 1) (T.pi 8 ((k : Int) + 1) (T.nil (QN.back (k + 1, i2, d3) ?_ ?_ (by kernel_rfl) (fun w h => h.perm (pm1.trans (pm0.cons _))))))))))))))))
          ·
           try dsimp only
           exact ⟨by omega, by omega, by omega, by first | assumption | (simp only [Sort.size_swp]; assumption), (show Sort.partialIns lt a b (5 - k - 1) i2 _ = _ from pi_step (e1 := d2) (by omega) ((ss_stop h4).symm.trans hss) (by omega) (by omega) (by rw [if_pos (by omega), ← hdn, dn_stop0 h8']) (by rw [if_pos (by omega), ← hup, up_stop1 h14' h15])).trans he⟩
          · show 5 - (k + 1) < 5 - k; omega
         ·
          have h15n := not_eq_false h15
          refine W.skip (QN.seq (W.rg od6 (T.pu 85 (.pointer (some ⟨b1, 1, none⟩)) (T.ld false 86 (.func (.func sf) #[] sb) 111 b1 1 (fun w h => St.cellM h mm1 (by kernel_rfl)) (T.pi 87 j3 (T.pi 88 j3 (T.pw 89 ((j3 : Int) - 1) (T.callV 90 sf (#[.int .i64 j3, .int .i64 ((j3 : Int) - 1)] ++ sb) (.tuple #[]) (St w00 ((g, Obj.cells (rowb (Sort.swp d3 j3 (j3 - 1)) tail) ty (0, 0)) :: ((b1, Obj.cells (LS kf lb sf sb) 116 (0, 0)) :: (H' ++ H0)))) (by kernel_rfl) (by kernel_rfl) ?_ tv2 ?_))))))))
          · exact fun w hw => hS.swap ((b1, Obj.cells (LS kf lb sf sb) 116 (0, 0)) :: H') d3 w (j3 : Int) ((j3 : Int) - 1) j3 (j3 - 1) (by first | assumption | (simp only [Sort.size_swp]; assumption)) (by omega) (by omega) (by omega) (by omega) (show St w00 ((g, Obj.cells (rowb d3 tail) ty (0, 0)) :: ((b1, Obj.cells (LS kf lb sf sb) 116 (0, 0)) :: (H' ++ H0))) w from hw)
          refine T.nil (QN.blkNormal (QN.seq (W.rg od3 (T.pi 76 j3 (T.pw 77 ((j3 : Int) + 1) (T.pi 10 ((j3 : Int) + 1) (T.nil (QN.back (j3 + 1, Sort.swp d3 j3 (j3 - 1)) ?_ ?_ (by kernel_rfl) (fun w h => h)))))))))
          ·
           try dsimp only
           exact ⟨by omega, by omega, by rw [Sort.size_swp]; exact hd3, (up_step h14' h15).trans hup⟩
          · show b - (j3 + 1) < b - j3; omega
        ·
         have h14' := of_decide_eq_false h14
         refine W.exit (QN.thenExit (QN.thenExit (QN.blkHit (QN.blkNormal (QN.seq (W.rg od3 (T.pi 15 k (T.pw 16 ((k : Int) + 1) (T.pi 8 ((k : Int) + 1) (T.nil (QN.back (k + 1, i2, d3) ?_ ?_ (by kernel_rfl) (fun w h => h.perm (pm1.trans (pm0.cons _))))))))))))))
         ·
          try dsimp only
          exact ⟨by omega, by omega, by omega, by first | assumption | (simp only [Sort.size_swp]; assumption), (show Sort.partialIns lt a b (5 - k - 1) i2 _ = _ from pi_step (e1 := d2) (by omega) ((ss_stop h4).symm.trans hss) (by omega) (by omega) (by rw [if_pos (by omega), ← hdn, dn_stop0 h8']) (by rw [if_pos (by omega), ← hup, up_stop0 h14'])).trans he⟩
         · show 5 - (k + 1) < 5 - k; omega
       ·
        have h13' := of_decide_eq_false h13
        refine W.skip (QN.blkNormal (QN.seq (W.rg od3 (T.pi 15 k (T.pw 16 ((k : Int) + 1) (T.pi 8 ((k : Int) + 1) (T.nil (QN.back (k + 1, i2, d2) ?_ ?_ (by kernel_rfl) (fun w h => h.perm (pm1.trans (pm0.cons _)))))))))))
        ·
         try dsimp only
         exact ⟨by omega, by omega, by omega, by first | assumption | (simp only [Sort.size_swp]; assumption), (show Sort.partialIns lt a b (5 - k - 1) i2 _ = _ from pi_step (e1 := d2) (by omega) ((ss_stop h4).symm.trans hss) (by omega) (by omega) (by rw [if_pos (by omega), ← hdn, dn_stop0 h8']) (by rw [if_neg (by omega)])).trans he⟩
        · show 5 - (k + 1) < 5 - k; omega
     ·
      have h7' := of_decide_eq_false h7
      refine W.skip (QN.seq (W.seq (W.rg od4 (T.pi 67 b (T.pi 68 i2 (T.pw 69 ((b : Int) - (i2 : Int)) (T.pb 70 (decide (2 ≤ ((b : Int) - (i2 : Int)))) (T.nil (QN.seq (W.cd (decide (2 ≤ ((b : Int) - (i2 : Int)))) (fun h16 => ?_) (fun h16 => ?_)))))))))))
      ·
       have h16' := of_decide_eq_true h16
       refine W.seq (W.rg od3 (T.pi 71 i2 (T.pw 72 ((i2 : Int) + 1) (T.pi 10 ((i2 : Int) + 1) (T.nil (QN.seq (W.block (W.loop (σ := Nat × Array α) (fun gs => i2 + 1 ≤ gs.1 ∧ gs.1 ≤ b + 1 ∧ gs.2.size = n ∧ Sort.shiftUp lt b gs.1 gs.2 = Sort.shiftUp lt b (i2 + 1) (Sort.swp dd i2 (i2 - 1))) (fun gs => [(1, .int .i64 a), (2, .int .i64 b), (3, .pointer (some ⟨b1, 0, none⟩)), (7, .int .i64 i2), (8, .int .i64 k), (10, .int .i64 (gs.1 : Int)), (13, .int .i64 k), (14, .bool (decide ((k : Int) < 5))), (17, .int .i64 i2), (18, .int .i64 b), (19, .bool (decide ((i2 : Int) < (b : Int)))), (20, .bool (decide ((i2 : Int) < (b : Int)))), (27, gv ((decide ((i2 : Int) < (b : Int))) == true) (.bool (!(lt dd[i2]! dd[(i2 - 1)]!)))), (28, .bool ((decide ((i2 : Int) < (b : Int))) && (!(lt dd[i2]! dd[(i2 - 1)]!)))), (31, .int .i64 i2), (32, .int .i64 b), (33, .bool ((i2 : Int) == (b : Int))), (34, .int .i64 b), (35, .int .i64 a), (36, .int .i64 ((b : Int) - (a : Int))), (37, .bool (decide (((b : Int) - (a : Int)) < 50))), (38, .pointer (some ⟨b1, 1, none⟩)), (39, .func (.func sf) #[] sb), (40, .int .i64 i2), (41, .int .i64 i2), (42, .int .i64 ((i2 : Int) - 1)), (44, .int .i64 i2), (45, .int .i64 a), (46, .int .i64 ((i2 : Int) - (a : Int))), (47, .bool (decide (2 ≤ ((i2 : Int) - (a : Int))))), (67, .int .i64 b), (68, .int .i64 i2), (69, .int .i64 ((b : Int) - (i2 : Int))), (70, .bool (decide (2 ≤ ((b : Int) - (i2 : Int))))), (71, .int .i64 i2), (72, .int .i64 ((i2 : Int) + 1))]) (fun gs => St w00 ((g, Obj.cells (rowb gs.2 tail) ty (0, 0)) :: ((b1, Obj.cells (LS kf lb sf sb) 116 (0, 0)) :: (H' ++ H0)))) (fun gs => b - gs.1) (i2 + 1, Sort.swp dd i2 (i2 - 1)) ?_ (by kernel_rfl) (fun w h => h) ?_))))))))
       ·
        try dsimp only
        exact ⟨Nat.le_refl _, by omega, by first | assumption | (simp only [Sort.size_swp]; assumption), rfl⟩
       rintro ⟨j3, d3⟩ hI_
       obtain ⟨hj3, hj3b, hd3, hup⟩ : i2 + 1 ≤ j3 ∧ j3 ≤ b + 1 ∧ d3.size = n ∧ Sort.shiftUp lt b j3 d3 = Sort.shiftUp lt b (i2 + 1) (Sort.swp dd i2 (i2 - 1)) := hI_
       refine W.seq (W.seq (W.rg od3 (T.pi 73 j3 (T.pi 74 b (T.pb 75 (decide ((j3 : Int) < (b : Int))) (T.nil (QN.seq (W.cd (decide ((j3 : Int) < (b : Int))) (fun h17 => ?_) (fun h17 => ?_)))))))))
       ·
        have h17' := of_decide_eq_true h17
        refine W.skip (QN.seq (W.seq (W.block (W.seq (W.seq (W.rg od7 (T.pu 78 (.pointer (some ⟨b1, 0, none⟩)) (T.ld false 79 (.func (.func kf) #[] lb) 90 b1 0 (fun w h => St.cellM h mm1 (by kernel_rfl)) (T.pi 80 j3 (T.pi 81 j3 (T.pw 82 ((j3 : Int) - 1) (T.cp 83 kf (#[.int .i64 j3, .int .i64 ((j3 : Int) - 1)] ++ lb) (.bool (lt d3[j3]! d3[(j3 - 1)]!)) hS.ent ?_ tv2 ?_))))))))))))
        · exact fun w hw => hS.less ((b1, Obj.cells (LS kf lb sf sb) 116 (0, 0)) :: H') d3 w (j3 : Int) ((j3 : Int) - 1) j3 (j3 - 1) (by first | assumption | (simp only [Sort.size_swp]; assumption)) (by omega) (by omega) (by omega) (by omega) (show St w00 ((g, Obj.cells (rowb d3 tail) ty (0, 0)) :: ((b1, Obj.cells (LS kf lb sf sb) 116 (0, 0)) :: (H' ++ H0))) w from hw)
        refine T.pb 84 (!(lt d3[j3]! d3[(j3 - 1)]!)) (T.nil (QN.seq (W.cd (!(lt d3[j3]! d3[(j3 - 1)]!)) (fun h18 => ?_) (fun h18 => ?_))))
        ·
         have h18n := not_eq_true h18
         refine W.exit (QN.thenExit (QN.blkMiss (by decide) (QN.thenExit (QN.thenExit (QN.blkHit (QN.blkNormal (QN.seq (W.rg od3 (T.pi 15 k (T.pw 16 ((k : Int) + 1) (T.pi 8 ((k : Int) + 1) (T.nil (QN.back (k + 1, i2, d3) ?_ ?_ (by kernel_rfl) (fun w h => h.perm (pm1.trans (pm0.cons _))))))))))))))))
         ·
          try dsimp only
          exact ⟨by omega, by omega, by omega, by first | assumption | (simp only [Sort.size_swp]; assumption), (show Sort.partialIns lt a b (5 - k - 1) i2 _ = _ from pi_step (e1 := Sort.swp dd i2 (i2 - 1)) (by omega) ((ss_stop h4).symm.trans hss) (by omega) (by omega) (by rw [if_neg (by omega)]) (by rw [if_pos (by omega), ← hup, up_stop1 h17' h18])).trans he⟩
         · show 5 - (k + 1) < 5 - k; omega
        ·
         have h18n := not_eq_false h18
         refine W.skip (QN.seq (W.rg od6 (T.pu 85 (.pointer (some ⟨b1, 1, none⟩)) (T.ld false 86 (.func (.func sf) #[] sb) 111 b1 1 (fun w h => St.cellM h mm1 (by kernel_rfl)) (T.pi 87 j3 (T.pi 88 j3 (T.pw 89 ((j3 : Int) - 1) (T.callV 90 sf (#[.int .i64 j3, .int .i64 ((j3 : Int) - 1)] ++ sb) (.tuple #[]) (St w00 ((g, Obj.cells (rowb (Sort.swp d3 j3 (j3 - 1)) tail) ty (0, 0)) :: ((b1, Obj.cells (LS kf lb sf sb) 116 (0, 0)) :: (H' ++ H0)))) (by kernel_rfl) (by kernel_rfl) ?_ tv2 ?_))))))))
         · exact fun w hw => hS.swap ((b1, Obj.cells (LS kf lb sf sb) 116 (0, 0)) :: H') d3 w (j3 : Int) ((j3 : Int) - 1) j3 (j3 - 1) (by first | assumption | (simp only [Sort.size_swp]; assumption)) (by omega) (by omega) (by omega) (by omega) (show St w00 ((g, Obj.cells (rowb d3 tail) ty (0, 0)) :: ((b1, Obj.cells (LS kf lb sf sb) 116 (0, 0)) :: (H' ++ H0))) w from hw)
         refine T.nil (QN.blkNormal (QN.seq (W.rg od3 (T.pi 76 j3 (T.pw 77 ((j3 : Int) + 1) (T.pi 10 ((j3 : Int) + 1) (T.nil (QN.back (j3 + 1, Sort.swp d3 j3 (j3 - 1)) ?_ ?_ (by kernel_rfl) (fun w h => h)))))))))
         ·
          try dsimp only
          exact ⟨by omega, by omega, by rw [Sort.size_swp]; exact hd3, (up_step h17' h18).trans hup⟩
         · show b - (j3 + 1) < b - j3; omega
       ·
        have h17' := of_decide_eq_false h17
        refine W.exit (QN.thenExit (QN.thenExit (QN.blkHit (QN.blkNormal (QN.seq (W.rg od3 (T.pi 15 k (T.pw 16 ((k : Int) + 1) (T.pi 8 ((k : Int) + 1) (T.nil (QN.back (k + 1, i2, d3) ?_ ?_ (by kernel_rfl) (fun w h => h.perm (pm1.trans (pm0.cons _))))))))))))))
        ·
         try dsimp only
         exact ⟨by omega, by omega, by omega, by first | assumption | (simp only [Sort.size_swp]; assumption), (show Sort.partialIns lt a b (5 - k - 1) i2 _ = _ from pi_step (e1 := Sort.swp dd i2 (i2 - 1)) (by omega) ((ss_stop h4).symm.trans hss) (by omega) (by omega) (by rw [if_neg (by omega)]) (by rw [if_pos (by omega), ← hup, up_stop0 h17'])).trans he⟩
        · show 5 - (k + 1) < 5 - k; omega
      ·
       have h16' := of_decide_eq_false h16
       refine W.skip (QN.blkNormal (QN.seq (W.rg od3 (T.pi 15 k (T.pw 16 ((k : Int) + 1) (T.pi 8 ((k : Int) + 1) (T.nil (QN.back (k + 1, i2, Sort.swp dd i2 (i2 - 1)) ?_ ?_ (by kernel_rfl) (fun w h => h.perm (pm1.trans (pm0.cons _)))))))))))
       ·
        try dsimp only
        exact ⟨by omega, by omega, by omega, by first | assumption | (simp only [Sort.size_swp]; assumption), (show Sort.partialIns lt a b (5 - k - 1) i2 _ = _ from pi_step (e1 := Sort.swp dd i2 (i2 - 1)) (by omega) ((ss_stop h4).symm.trans hss) (by omega) (by omega) (by rw [if_neg (by omega)]) (by rw [if_neg (by omega)])).trans he⟩
       · show 5 - (k + 1) < 5 - k; omega
 ·
  have h2' := of_decide_eq_false h2
  refine W.exit (QN.thenExit (QN.thenExit (QN.blkHit (QN.seq (W.seq (W.rg od1 (T.pb 6 false (T.nil (QN.seq (W.ret (QN.done (.inl rfl) 6 (.bool false) rfl (by kernel_rfl) (fun w hw => ?_))))))))))))
  exact (by rw [show Sort.partialInsertionSort lt d a b = (dd, false) from by rw [Sort.partialInsertionSort, ← he]; exact (show Sort.partialIns lt a b (5 - k) i dd = (dd, false) from by rw [show 5 - k = 0 from by omega]; rfl)]; exact ⟨rfl, ((hw.perm pm1).part (((List.Sublist.refl _).cons _).cons_cons _))⟩)
end Go.Proofs.Ytphnfhonmbbddaa
