/- The reference's judge: Valid, Conflicted, Decidable. -/
import Derived.Test.YtphnfhonmbbddaaJfP
namespace Go.Proofs.Ytphnfhonmbbddaa
open Go Go.RowKit
set_option linter.unusedVariables false

theorem any3_count {l : List Int} (h : l.any (fun e => e == 3) = true) : 1 ≤ countV l 3 ∧ 1 ≤ countV l 1 ∧ 1 ≤ countV l 2 := by
  obtain ⟨e, he, h3⟩ := List.any_eq_true.1 h
  have h3 : e = 3 := eq_of_beq h3
  subst h3
  have f : ∀ x : Int, hitB x 3 = true → 1 ≤ countV l x := fun x hx => by
    have := List.length_pos_of_mem (List.mem_filter.2 ⟨he, hx⟩)
    unfold countV; omega
  exact ⟨f 3 (by decide +kernel), f 1 (by decide +kernel), f 2 (by decide +kernel)⟩
theorem count_nn (l : List Int) (x : Int) : 0 ≤ countV l x := by unfold countV; omega
section
variable {l : List Int} {q : Int}
theorem mix_hit (hq : 1 ≤ q) (h : (q == 1) = true) (h3 : l.any (fun e => e == 3) = true) : true = bothV l q := by
  have h : q = 1 := eq_of_beq h
  subst h
  obtain ⟨a, b, c⟩ := any3_count h3
  unfold bothV
  have e : (((decide (countV l 3 < 1)) || (countV l 1 == 0)) || (countV l 2 == 0)) = false := by
    simp only [Bool.or_eq_false_iff, decide_eq_false_iff_not, beq_eq_false_iff_ne]
    omega
  rw [e, cond_false, show decide ((1 : Int) < 1) = false from rfl, cond_false, h3]
theorem mix_end (hq : 1 ≤ q) (h : (q == 1) = true) (h3 : l.any (fun e => e == 3) = false) : false = bothV l q := by
  have h : q = 1 := eq_of_beq h
  subst h
  unfold bothV
  rw [show decide ((1 : Int) < 1) = false from rfl, cond_false, h3]
  cases (((decide (countV l 3 < 1)) || (countV l 1 == 0)) || (countV l 2 == 0)) <;> rfl
theorem mix_many (hq : 1 ≤ q) (h : (q == 1) = false) : (((decide (q ≤ countV l 3)) && (decide (0 < countV l 1))) && (decide (0 < countV l 2))) = bothV l q := by
  have h : q ≠ 1 := ne_of_beq_false h
  have h1 := count_nn l 1
  have h2 := count_nn l 2
  unfold bothV
  rw [decide_eq_true (by omega : 1 < q), cond_true]
  cases hb : (((decide (countV l 3 < q)) || (countV l 1 == 0)) || (countV l 2 == 0)) with
  | true =>
    rw [cond_true]
    simp only [Bool.or_eq_true, decide_eq_true_eq, beq_iff_eq] at hb
    cases hx : (((decide (q ≤ countV l 3)) && (decide (0 < countV l 1))) && (decide (0 < countV l 2))) with
    | false => rfl
    | true =>
      simp only [Bool.and_eq_true, decide_eq_true_eq] at hx
      omega
  | false =>
    rw [cond_false]
    simp only [Bool.or_eq_false_iff, decide_eq_false_iff_not, beq_eq_false_iff_ne] at hb
    simp only [Bool.and_eq_true, decide_eq_true_eq]
    omega
end
section
variable {t : Tb} {r m : Nat}
theorem or3_true {a c : Int} (h : (((a != c) || (decide (a < 1))) || (decide (3 < a))) = true) : (((decide (a < 1)) || (decide (3 < a))) || (c != a)) = true := by
  simp only [Bool.or_eq_true, decide_eq_true_eq, bne_iff_ne] at h ⊢
  omega
theorem or3_false {a c : Int} (h : (((a != c) || (decide (a < 1))) || (decide (3 < a))) = false) : (((decide (a < 1)) || (decide (3 < a))) || (c != a)) = false := by
  simp only [Bool.or_eq_false_iff, decide_eq_false_iff_not, bne_eq_false_iff_eq] at h ⊢
  omega
theorem out_l {a b : Int} (h : ((((decide (a < 0)) || (decide (3 < a))) || (decide (b < 0))) || (decide (7 < b))) = false) : outB 3 a = false := by
  simp only [Bool.or_eq_false_iff] at h
  unfold outB; rw [h.1.1.1, h.1.1.2]; rfl
theorem out_r {a b : Int} (h : ((((decide (a < 0)) || (decide (3 < a))) || (decide (b < 0))) || (decide (7 < b))) = false) : outB 7 b = false := by
  simp only [Bool.or_eq_false_iff] at h
  unfold outB; rw [h.1.2, h.2]; rfl
theorem vf_n {n : Int} {A C : Bool} (h : ((decide (n < 1)) || (decide (7 < n))) = true) : ((((decide (1 ≤ n)) && (decide (n ≤ 7))) && A) && C) = false := by
  have e : ((decide (1 ≤ n)) && (decide (n ≤ 7))) = false := by
    simp only [Bool.or_eq_true, decide_eq_true_eq] at h
    cases hx : ((decide (1 ≤ n)) && (decide (n ≤ 7))) with
    | false => rfl
    | true => simp only [Bool.and_eq_true, decide_eq_true_eq] at hx; omega
  rw [e]; rfl
theorem vf_row {n : Int} {N : Bool} (hrl : r < t.pre.length) (hrc : r < t.com.length) (h : ((((t.pre[r]'hrl).l.length : Int) != n) || (((t.com[r]'hrc).l.length : Int) != n)) = true) : ((N && (fitsV (t.pre.map Hd.l) n 3)) && (fitsV (t.com.map Hd.l) n 7)) = false := by
  rw [Bool.or_eq_true] at h
  rcases h with h | h
  · rw [fits_no hrl (fit_len h), Bool.and_false]; rfl
  · rw [fits_no hrc (fit_len h), Bool.and_false]
theorem vf_ent {n : Int} {N : Bool} (hrl : r < t.pre.length) (hrc : r < t.com.length) (h1 : m < (t.pre[r]'hrl).l.length) (h2 : m < (t.com[r]'hrc).l.length) (h : ((((decide ((t.pre[r]'hrl).l[m]'h1 < 0)) || (decide (3 < (t.pre[r]'hrl).l[m]'h1))) || (decide ((t.com[r]'hrc).l[m]'h2 < 0))) || (decide (7 < (t.com[r]'hrc).l[m]'h2))) = true) : ((N && (fitsV (t.pre.map Hd.l) n 3)) && (fitsV (t.com.map Hd.l) n 7)) = false := by
  rw [Bool.or_eq_true, Bool.or_eq_true] at h
  have hit : ∀ {l : List Int} {hi : Int} (hm : m < l.length), outB hi (l[m]'hm) = true → fitR n hi l = false := fun {l hi} hm hx => fit_out (any_hit (p := outB hi) (j := m) hm hx)
  rcases h with (h | h) | h
  · rw [fits_no hrl (hit h1 (by unfold outB; exact h)), Bool.and_false]; rfl
  · rw [fits_no hrc (hit h2 (by unfold outB; rw [h]; rfl)), Bool.and_false]
  · rw [fits_no hrc (hit h2 (by unfold outB; rw [h, Bool.or_true])), Bool.and_false]
theorem vf_all {n : Int} (h : ((decide (n < 1)) || (decide (7 < n))) = false) (h1 : t.pre.all (fun h => fitR n 3 h.l) = true) (h2 : t.com.all (fun h => fitR n 7 h.l) = true) : ((((decide (1 ≤ n)) && (decide (n ≤ 7))) && (fitsV (t.pre.map Hd.l) n 3)) && (fitsV (t.com.map Hd.l) n 7)) = true := by
  simp only [Bool.or_eq_false_iff, decide_eq_false_iff_not] at h
  rw [fits_all h1, fits_all h2, decide_eq_true (by omega : 1 ≤ n), decide_eq_true (by omega : n ≤ 7)]; rfl
end

set_option maxRecDepth 100000 in
set_option maxHeartbeats 2000000 in
theorem rcount_c (l : List Int) (x : Int) (A : Option Addr) (c : Nat) (w : World) (hl : l.length ≤ maxLen) (hr : Rd w A l) : Calls Try.prog 41 #[.slice A l.length c, .int .i64 x] w (fun rr w' => rr = .returned (.int .i64 (countV l x)) ∧ Below w.heap.size w w') := by
 have hl9 : l.length ≤ 9223372036854775807 := hl
 refine calls_W (n := 23) Try.func41 rfl [(0, .slice A l.length c), (1, .int .i64 x)] rfl ⟨by kernel_rfl, by kernel_rfl⟩ (W.weak (Ψ := St w []) (fun w' h => by rw [h]; exact St.start w) (W.seq (W.rg od1 (T.pi 4 0 (T.nil (QN.seq (W.seq (W.rg od1 (T.pi 5 0 (T.nil (QN.seq (W.seq (W.seq (W.rg od1 (T.pi 6 0 (T.nil (QN.seq (W.block (W.loop (σ := Nat × Int) (fun gs => gs.1 ≤ l.length ∧ gs.2 = countV (l.take gs.1) x) (fun gs => [(0, .slice A l.length c), (1, .int .i64 x), (4, .int .i64 0), (5, .int .i64 gs.2), (6, .int .i64 (gs.1 : Int))]) (fun gs => St w []) (fun gs => l.length - gs.1) (0, 0) ?_ (by kernel_rfl) (fun w h => h) ?_)))))))))))))))))))
 ·
  try dsimp only
  exact ⟨Nat.zero_le _, rfl⟩
 rintro ⟨j, n⟩ hI_
 obtain ⟨hj, hn⟩ : j ≤ l.length ∧ n = countV (l.take j) x := hI_
 have hn0 := cnt_le hn
 refine W.seq (W.seq (W.rg od4 (T.pi 7 j (T.pu 8 (.slice A l.length c) (T.pi 9 ((l.length : Nat) : Int) (T.pb 10 (decide ((j : Int) < ((l.length : Nat) : Int))) (T.nil (QN.seq (W.cd (decide ((j : Int) < ((l.length : Nat) : Int))) (fun h1 => ?_) (fun h1 => ?_))))))))))
 ·
  have h1' := of_decide_eq_true h1
  have hl2 : j < l.length := by omega
  refine W.skip (QN.seq (W.seq (W.block (W.seq (W.rg od7 (T.pu 13 (.slice A l.length c) (T.pi 14 j ?_)))))))
  obtain ⟨b3, o4, hA5, hr6⟩ := (Rd.arr hr _) j hl2
  refine T.ix 15 45 3 1 A l.length c (j : Int) j b3 o4 hA5 rfl (by omega) (T.ld false 16 (.int .i64 (l[j]'hl2)) 3 b3 (o4 + j * 1) (fun w h => cell_of_range (hr6 w h) 0 (by kernel_rfl)) (T.pi 17 x (T.pi 18 (bits .and .i64 (l[j]'hl2) x) (T.pb 19 ((bits .and .i64 (l[j]'hl2) x) != 0) (T.nil (QN.seq (W.cd ((bits .and .i64 (l[j]'hl2) x) != 0) (fun h7 => ?_) (fun h7 => ?_))))))))
  ·
   refine W.rg od3 (T.pi 20 n (T.pw 21 (n + 1) (T.pi 5 (n + 1) (T.nil (QN.blkNormal (QN.seq (W.rg od3 (T.pi 11 j (T.pw 12 ((j : Int) + 1) (T.pi 6 ((j : Int) + 1) (T.nil (QN.back (j + 1, n + 1) ?_ ?_ (by kernel_rfl) (fun w h => h)))))))))))))
   ·
    try dsimp only
    exact ⟨by omega, cnt_yes (by omega) hn h7⟩
   · show l.length - (j + 1) < l.length - j; omega
  ·
   refine W.skip (QN.blkNormal (QN.seq (W.rg od3 (T.pi 11 j (T.pw 12 ((j : Int) + 1) (T.pi 6 ((j : Int) + 1) (T.nil (QN.back (j + 1, n) ?_ ?_ (by kernel_rfl) (fun w h => h)))))))))
   ·
    try dsimp only
    exact ⟨by omega, cnt_no (by omega) hn h7⟩
   · show l.length - (j + 1) < l.length - j; omega
 ·
  have h1' := of_decide_eq_false h1
  refine W.exit (QN.thenExit (QN.thenExit (QN.blkHit (QN.seq (W.seq (W.rg od2 (T.pi 22 n (T.pi 4 n (T.nil (QN.seq (W.ret (QN.done (.inl rfl) 4 (.int .i64 n) rfl (by kernel_rfl) (fun w hw => ⟨?_, hw.below⟩)))))))))))))
  exact ret_int (by rw [hn, take_end (by omega)])
set_option maxRecDepth 100000 in
set_option maxHeartbeats 2000000 in
theorem rmix_c (l : List Int) (q : Int) (A : Option Addr) (c : Nat) (w : World) (hl : l.length ≤ maxLen) (hr : Rd w A l) (hq1 : 1 ≤ q) : Calls Try.prog 42 #[.slice A l.length c, .int .i64 q] w (fun rr w' => rr = .returned (.bool (bothV l q)) ∧ Below w.heap.size w w') := by
 have hl9 : l.length ≤ 9223372036854775807 := hl
 refine calls_W (n := 33) Try.func42 rfl [(0, .slice A l.length c), (1, .int .i64 q)] rfl ⟨by kernel_rfl, by kernel_rfl⟩ (W.weak (Ψ := St w []) (fun w' h => by rw [h]; exact St.start w) (W.seq (W.rg od1 (T.pb 4 false (T.nil (QN.seq (W.seq (W.seq (W.rg od2 (T.pi 6 q (T.pb 7 (q == 1) (T.nil (QN.seq (W.cd (q == 1) (fun h1 => ?_) (fun h1 => ?_)))))))))))))))
 ·
  have h1' := eq_of_beq h1
  refine W.seq (W.seq (W.rg od1 (T.pi 5 0 (T.nil (QN.seq (W.block (W.loop (σ := Nat) (fun gs => gs ≤ l.length ∧ (l.take gs).any (fun e => e == 3) = false) (fun gs => [(0, .slice A l.length c), (1, .int .i64 q), (5, .int .i64 gs)]) (fun gs => St w []) (fun gs => l.length - gs) 0 ?_ (by kernel_rfl) (fun w h => h) ?_)))))))
  ·
   try dsimp only
   exact ⟨Nat.zero_le _, any_zero _ _⟩
  rintro j hI_
  obtain ⟨hj, hany⟩ : j ≤ l.length ∧ (l.take j).any (fun e => e == 3) = false := hI_
  refine W.seq (W.seq (W.rg od4 (T.pi 8 j (T.pu 9 (.slice A l.length c) (T.pi 10 ((l.length : Nat) : Int) (T.pb 11 (decide ((j : Int) < ((l.length : Nat) : Int))) (T.nil (QN.seq (W.cd (decide ((j : Int) < ((l.length : Nat) : Int))) (fun h2 => ?_) (fun h2 => ?_))))))))))
  ·
   have h2' := of_decide_eq_true h2
   have hl3 : j < l.length := by omega
   refine W.skip (QN.seq (W.seq (W.block (W.seq (W.rg od5 (T.pu 14 (.slice A l.length c) (T.pi 15 j ?_)))))))
   obtain ⟨b4, o5, hA6, hr7⟩ := (Rd.arr hr _) j hl3
   refine T.ix 16 45 3 1 A l.length c (j : Int) j b4 o5 hA6 rfl (by omega) (T.ld false 17 (.int .i64 (l[j]'hl3)) 3 b4 (o5 + j * 1) (fun w h => cell_of_range (hr7 w h) 0 (by kernel_rfl)) (T.pb 18 ((l[j]'hl3) == 3) (T.nil (QN.seq (W.cd ((l[j]'hl3) == 3) (fun h8 => ?_) (fun h8 => ?_))))))
   ·
    refine W.seq (W.rg od1 (T.pb 4 true (T.nil (QN.seq (W.ret (QN.blkRet (QN.thenRet (QN.thenRet (QN.blkRet (QN.thenRet (QN.thenRet (QN.done (.inl rfl) 4 (.bool true) rfl (by kernel_rfl) (fun w hw => ⟨?_, hw.below⟩)))))))))))))
    exact ret_bool (mix_hit hq1 h1 (any_hit (p := fun e => e == 3) (j := j) (by omega) h8))
   ·
    refine W.skip (QN.blkNormal (QN.seq (W.rg od3 (T.pi 12 j (T.pw 13 ((j : Int) + 1) (T.pi 5 ((j : Int) + 1) (T.nil (QN.back (j + 1) ?_ ?_ (by kernel_rfl) (fun w h => h)))))))))
    ·
     try dsimp only
     exact ⟨by omega, any_step hany (by omega) h8⟩
    · show l.length - (j + 1) < l.length - j; omega
  ·
   have h2' := of_decide_eq_false h2
   refine W.exit (QN.thenExit (QN.thenExit (QN.blkHit (QN.seq (W.seq (W.rg od1 (T.pb 4 false (T.nil (QN.seq (W.ret (QN.thenRet (QN.done (.inl rfl) 4 (.bool false) rfl (by kernel_rfl) (fun w hw => ⟨?_, hw.below⟩)))))))))))))
   exact ret_bool (mix_end hq1 h1 (any_end hany (by omega)))
 ·
  have h1' := ne_of_beq_false h1
  refine W.skip (QN.seq (W.seq (W.rg od15 (T.pu 19 (.slice A l.length c) (T.cp 20 41 #[.slice A l.length c, .int .i64 3] (.int .i64 (countV l 3)) ent41 (fun w hw => rcount_c l 3 A c w (by first | assumption | omega) (Arr.rd (Rd.arr hr _) hw)) tv2 (T.pi 21 q (T.pb 22 (decide (q ≤ (countV l 3))) (T.pb 23 (decide (q ≤ (countV l 3))) (T.bk [(5, false), (6, false), (7, false)] [(8, false), (9, false), (10, false), (11, false), (12, false), (13, false), (14, false)] 4 true (decide (q ≤ (countV l 3))) 23 26 (.bool (decide (0 < (countV l 1)))) (fun hg9 => ?_) ?_)))))))))
  ·
   have hg9_ := hg9
   have hg9' := of_decide_eq_true hg9
   refine T.pu 24 (.slice A l.length c) (T.cp 25 41 #[.slice A l.length c, .int .i64 1] (.int .i64 (countV l 1)) ent41 (fun w hw => rcount_c l 1 A c w (by first | assumption | omega) (Arr.rd (Rd.arr hr _) hw)) tv2 (T.pb 26 (decide (0 < (countV l 1))) ?_))
   exact T.blkEnd (by kernel_rfl) (fun w h => h)
  refine T.an 27 (decide (q ≤ (countV l 3))) (decide (0 < (countV l 1))) (T.pb 28 ((decide (q ≤ (countV l 3))) && (decide (0 < (countV l 1)))) (T.bk [(10, false), (11, false), (12, false)] [(13, false), (14, false)] 9 true ((decide (q ≤ (countV l 3))) && (decide (0 < (countV l 1)))) 28 31 (.bool (decide (0 < (countV l 2)))) (fun hg10 => ?_) ?_))
  ·
   have hg10_ := hg10
   have hg10l := (Bool.and_eq_true_iff.1 hg10).1
   have hg10r := (Bool.and_eq_true_iff.1 hg10).2
   have hg10l' := of_decide_eq_true hg10l
   have hg10r' := of_decide_eq_true hg10r
   refine T.pu 29 (.slice A l.length c) (T.cp 30 41 #[.slice A l.length c, .int .i64 2] (.int .i64 (countV l 2)) ent41 (fun w hw => rcount_c l 2 A c w (by first | assumption | omega) (Arr.rd (Rd.arr hr _) hw)) tv2 (T.pb 31 (decide (0 < (countV l 2))) ?_))
   exact T.blkEnd (by kernel_rfl) (fun w h => h)
  refine T.an 32 ((decide (q ≤ (countV l 3))) && (decide (0 < (countV l 1)))) (decide (0 < (countV l 2))) (T.pb 4 (((decide (q ≤ (countV l 3))) && (decide (0 < (countV l 1)))) && (decide (0 < (countV l 2)))) (T.nil (QN.seq (W.ret (QN.done (.inl rfl) 4 (.bool (((decide (q ≤ (countV l 3))) && (decide (0 < (countV l 1)))) && (decide (0 < (countV l 2))))) rfl (by kernel_rfl) (fun w hw => ⟨?_, hw.below⟩))))))
  exact ret_bool (mix_many hq1 h1)
def rmanyD (x : Int) : Bool := (bits .and .i64 x (x - 1)) != 0
set_option maxRecDepth 100000 in
set_option maxHeartbeats 2000000 in
theorem rmanyD_c (x : Int) (h0 : 0 ≤ x) (h7 : x ≤ 7) (w : World) : Calls Try.prog 45 #[.int .i64 x] w (fun rr w' => rr = .returned (.bool (rmanyD x)) ∧ Below w.heap.size w w') := by
 refine calls_W (n := 8) Try.func45 rfl [(0, .int .i64 x)] rfl ⟨by kernel_rfl, by kernel_rfl⟩ (W.weak (Ψ := St w []) (fun w' h => by rw [h]; exact St.start w) (W.seq (W.rg od1 (T.pb 2 false (T.nil (QN.seq (W.seq (W.rg od6 (T.pi 3 x (T.pi 4 x (T.pw 5 (x - 1) (T.pi 6 (bits .and .i64 x (x - 1)) (T.pb 7 ((bits .and .i64 x (x - 1)) != 0) (T.pb 2 ((bits .and .i64 x (x - 1)) != 0) (T.nil (QN.seq (W.ret (QN.done (.inl rfl) 2 (.bool ((bits .and .i64 x (x - 1)) != 0)) rfl (by kernel_rfl) (fun w hw => ⟨?_, hw.below⟩)))))))))))))))))))
 exact congrArg (fun b => Ending.returned (.bool b)) (by simp only [rmanyD])
theorem rmany_eq {x : Int} (h0 : 0 ≤ x) (h7 : x ≤ 7) : rmanyD x = decide ((1 : Int) < (size x : Int)) := by
  rcases small8 h0 h7 with rfl | rfl | rfl | rfl | rfl | rfl | rfl | rfl <;> decide +kernel
theorem rmany_c (x : Int) (w : World) (h0 : 0 ≤ x) (h7 : x ≤ 7) : Ret Try.prog 45 #[.int .i64 x] w (.bool (decide ((1 : Int) < (size x : Int)))) := by
  rw [← rmany_eq h0 h7]; exact rmanyD_c x h0 h7 w
set_option maxRecDepth 100000 in
set_option maxHeartbeats 2000000 in
theorem rvalid14_c (t : Tb) (w : World) (ht : TbRd w t) (htl : TbLen t) : Calls Try.prog 17 #[.agg t.cs] w (fun rr w' => rr = .returned (.bool (validV t.P t.C)) ∧ Below w.heap.size w w') := by
 have hl9 : t.pre.length ≤ 9223372036854775807 := htl.n1
 have hl8 : t.com.length ≤ 9223372036854775807 := htl.n2
 refine calls_W (n := 108) Try.func17 rfl [(0, .agg t.cs)] rfl ⟨by kernel_rfl, by kernel_rfl⟩ (W.weak (Ψ := St w []) (fun w' h => by rw [h]; exact St.start w) (W.seq (W.rg od2 (T.bx 1 28 (.agg t.cs) (t.cs) tv3 (fun b1 => T.pb 2 false (T.nil (QN.seq (W.seq (W.seq (W.rg od19 (T.pu 6 (.pointer (some ⟨b1, 0, none⟩)) (T.ld false 7 (.slice t.A1 t.pre.length t.c1) 22 b1 0 (fun w h => St.cellM h mm0 (by kernel_rfl)) (T.pi 8 ((t.pre.length : Nat) : Int) (T.pu 9 (.pointer (some ⟨b1, 1, none⟩)) (T.ld false 10 (.slice t.A2 t.com.length t.c2) 22 b1 1 (fun w h => St.cellM h mm0 (by kernel_rfl)) (T.pi 11 ((t.com.length : Nat) : Int) (T.pb 12 (((t.pre.length : Nat) : Int) != ((t.com.length : Nat) : Int)) (T.pb 13 (((t.pre.length : Nat) : Int) != ((t.com.length : Nat) : Int)) (T.bk [(8, false), (9, false), (10, false), (11, false)] [(12, false), (13, false), (14, false), (15, false), (16, false), (17, false), (18, false)] 7 false (((t.pre.length : Nat) : Int) != ((t.com.length : Nat) : Int)) 13 17 (.bool (decide (((t.pre.length : Nat) : Int) < 1))) (fun hg2 => ?_) ?_)))))))))))))))))))
 ·
  have hg2_ := hg2
  refine T.pu 14 (.pointer (some ⟨b1, 0, none⟩)) (T.ld false 15 (.slice t.A1 t.pre.length t.c1) 22 b1 0 (fun w h => St.cellM h mm0 (by kernel_rfl)) (T.pi 16 ((t.pre.length : Nat) : Int) (T.pb 17 (decide (((t.pre.length : Nat) : Int) < 1)) ?_)))
  exact T.blkEnd (by kernel_rfl) (fun w h => h)
 refine T.oo 18 (((t.pre.length : Nat) : Int) != ((t.com.length : Nat) : Int)) (decide (((t.pre.length : Nat) : Int) < 1)) (T.pb 19 ((((t.pre.length : Nat) : Int) != ((t.com.length : Nat) : Int)) || (decide (((t.pre.length : Nat) : Int) < 1))) (T.bk [(14, false), (15, false), (16, false), (17, false)] [(18, false)] 13 false ((((t.pre.length : Nat) : Int) != ((t.com.length : Nat) : Int)) || (decide (((t.pre.length : Nat) : Int) < 1))) 19 23 (.bool (decide (3 < ((t.pre.length : Nat) : Int)))) (fun hg3 => ?_) ?_))
 ·
  have hg3_ := hg3
  have hg3l := (Bool.or_eq_false_iff.1 hg3).1
  have hg3r := (Bool.or_eq_false_iff.1 hg3).2
  have hg3r' := of_decide_eq_false hg3r
  refine T.pu 20 (.pointer (some ⟨b1, 0, none⟩)) (T.ld false 21 (.slice t.A1 t.pre.length t.c1) 22 b1 0 (fun w h => St.cellM h mm0 (by kernel_rfl)) (T.pi 22 ((t.pre.length : Nat) : Int) (T.pb 23 (decide (3 < ((t.pre.length : Nat) : Int))) ?_)))
  exact T.blkEnd (by kernel_rfl) (fun w h => h)
 refine T.oo 24 ((((t.pre.length : Nat) : Int) != ((t.com.length : Nat) : Int)) || (decide (((t.pre.length : Nat) : Int) < 1))) (decide (3 < ((t.pre.length : Nat) : Int))) (T.nil (QN.seq (W.cd (((((t.pre.length : Nat) : Int) != ((t.com.length : Nat) : Int)) || (decide (((t.pre.length : Nat) : Int) < 1))) || (decide (3 < ((t.pre.length : Nat) : Int)))) (fun h4 => ?_) (fun h4 => ?_))))
 ·
  refine W.seq (W.rg od1 (T.pb 2 false (T.nil (QN.seq (W.ret (QN.thenRet (QN.done (.inl rfl) 2 (.bool false) rfl (by kernel_rfl) (fun w hw => ⟨?_, hw.below⟩))))))))
  exact ret_bool (by rw [valid_no (or3_true h4)])
 ·
  have h4l := (Bool.or_eq_false_iff.1 h4).1
  have h4r := (Bool.or_eq_false_iff.1 h4).2
  have h4ll := (Bool.or_eq_false_iff.1 h4l).1
  have h4lr := (Bool.or_eq_false_iff.1 h4l).2
  have h4lr' := of_decide_eq_false h4lr
  have h4r' := of_decide_eq_false h4r
  refine W.skip (QN.seq (W.seq (W.rg od6 ?_)))
  have hp0 : 0 < t.pre.length := by omega
  have hl0 : (t.pre[0]'hp0).l.length ≤ 9223372036854775807 := htl.l1 _ (List.getElem_mem hp0)
  have h0F := h4
  have hcp : t.com.length = t.pre.length := by have := bne_eq_false_iff_eq.1 (Bool.or_eq_false_iff.1 (or3_false h0F)).2; omega
  refine T.pu 25 (.pointer (some ⟨b1, 0, none⟩)) (T.ld false 26 (.slice t.A1 t.pre.length t.c1) 22 b1 0 (fun w h => St.cellM h mm0 (by kernel_rfl)) ?_)
  obtain ⟨b5, o6, hA7, hr8⟩ := (Rd.arr ht.a1 _) 0 hp0
  refine T.ix 27 22 45 1 t.A1 t.pre.length t.c1 0 0 b5 o6 hA7 (by first | rfl | omega) (by omega) (T.ld false 28 (.slice (((t.pre)[0]'hp0).A) (((t.pre)[0]'hp0).l.length) (((t.pre)[0]'hp0).c)) 45 b5 (o6 + 0 * 1) (fun w h => cell_of_range (hr8 w h) 0 (by kernel_rfl)) (T.pi 29 ((((t.pre)[0]'hp0).l.length : Nat) : Int) (T.pi 3 ((((t.pre)[0]'hp0).l.length : Nat) : Int) (T.nil (QN.seq (W.seq (W.seq (W.rg od6 (T.pi 30 ((((t.pre)[0]'hp0).l.length : Nat) : Int) (T.pb 31 (decide (((((t.pre)[0]'hp0).l.length : Nat) : Int) < 1)) (T.pb 32 (decide (((((t.pre)[0]'hp0).l.length : Nat) : Int) < 1)) (T.bk [(3, false), (4, false)] [(5, false)] 2 false (decide (((((t.pre)[0]'hp0).l.length : Nat) : Int) < 1)) 32 34 (.bool (decide (7 < ((((t.pre)[0]'hp0).l.length : Nat) : Int)))) (fun hg9 => ?_) ?_))))))))))))
  ·
   have hg9_ := hg9
   have hg9' := of_decide_eq_false hg9
   refine T.pi 33 ((((t.pre)[0]'hp0).l.length : Nat) : Int) (T.pb 34 (decide (7 < ((((t.pre)[0]'hp0).l.length : Nat) : Int))) ?_)
   exact T.blkEnd (by kernel_rfl) (fun w h => h)
  refine T.oo 35 (decide (((((t.pre)[0]'hp0).l.length : Nat) : Int) < 1)) (decide (7 < ((((t.pre)[0]'hp0).l.length : Nat) : Int))) (T.nil (QN.seq (W.cd ((decide (((((t.pre)[0]'hp0).l.length : Nat) : Int) < 1)) || (decide (7 < ((((t.pre)[0]'hp0).l.length : Nat) : Int)))) (fun h10 => ?_) (fun h10 => ?_))))
  ·
   refine W.seq (W.rg od1 (T.pb 2 false (T.nil (QN.seq (W.ret (QN.thenRet (QN.done (.inl rfl) 2 (.bool false) rfl (by kernel_rfl) (fun w hw => ⟨?_, hw.below⟩))))))))
   exact ret_bool ((valid_yes hp0 (or3_false h0F)).trans (vf_n h10)).symm
  ·
   have h10l := (Bool.or_eq_false_iff.1 h10).1
   have h10r := (Bool.or_eq_false_iff.1 h10).2
   have h10l' := of_decide_eq_false h10l
   have h10r' := of_decide_eq_false h10r
   refine W.skip (QN.seq (W.seq (W.seq (W.rg od1 (T.pi 4 0 (T.nil (QN.seq (W.block (W.loop (σ := Nat) (fun gs => gs ≤ t.pre.length ∧ (t.pre.take gs).all (fun h => fitR ((t.pre[0]'hp0).l.length : Int) 3 h.l) = true ∧ (t.com.take gs).all (fun h => fitR ((t.pre[0]'hp0).l.length : Int) 7 h.l) = true) (fun gs => [(1, .pointer (some ⟨b1, 0, none⟩)), (3, .int .i64 ((((t.pre)[0]'hp0).l.length : Nat) : Int)), (4, .int .i64 gs)]) (fun gs => St w [(b1, Obj.cells t.cs 28 (0, 0))]) (fun gs => t.pre.length - gs) 0 ?_ (by kernel_rfl) (fun w h => h) ?_)))))))))
   ·
    try dsimp only
    exact ⟨Nat.zero_le _, rfl, rfl⟩
   rintro r hI_
   obtain ⟨hr0, hrP, hrC⟩ : r ≤ t.pre.length ∧ (t.pre.take r).all (fun h => fitR ((t.pre[0]'hp0).l.length : Int) 3 h.l) = true ∧ (t.com.take r).all (fun h => fitR ((t.pre[0]'hp0).l.length : Int) 7 h.l) = true := hI_
   refine W.seq (W.seq (W.rg od5 (T.pi 36 r (T.pu 37 (.pointer (some ⟨b1, 0, none⟩)) (T.ld false 38 (.slice t.A1 t.pre.length t.c1) 22 b1 0 (fun w h => St.cellM h mm0 (by kernel_rfl)) (T.pi 39 ((t.pre.length : Nat) : Int) (T.pb 40 (decide ((r : Int) < ((t.pre.length : Nat) : Int))) (T.nil (QN.seq (W.cd (decide ((r : Int) < ((t.pre.length : Nat) : Int))) (fun h11 => ?_) (fun h11 => ?_)))))))))))
   ·
    have h11' := of_decide_eq_true h11
    have hl12 : r < t.pre.length := by omega
    refine W.skip (QN.seq (W.seq (W.block (W.seq (W.seq (W.rg od18 ?_))))))
    have hrl : r < t.pre.length := by omega
    have hrc : r < t.com.length := by omega
    have hlr : (t.pre[r]'hrl).l.length ≤ 9223372036854775807 := htl.l1 _ (List.getElem_mem hrl)
    have hls : (t.com[r]'hrc).l.length ≤ 9223372036854775807 := htl.l2 _ (List.getElem_mem hrc)
    refine T.pu 43 (.pointer (some ⟨b1, 0, none⟩)) (T.ld false 44 (.slice t.A1 t.pre.length t.c1) 22 b1 0 (fun w h => St.cellM h mm0 (by kernel_rfl)) (T.pi 45 r ?_))
    obtain ⟨b13, o14, hA15, hr16⟩ := (Rd.arr ht.a1 _) r hrl
    refine T.ix 46 22 45 1 t.A1 t.pre.length t.c1 (r : Int) r b13 o14 hA15 rfl (by omega) (T.ld false 47 (.slice (((t.pre)[r]'hrl).A) (((t.pre)[r]'hrl).l.length) (((t.pre)[r]'hrl).c)) 45 b13 (o14 + r * 1) (fun w h => cell_of_range (hr16 w h) 0 (by kernel_rfl)) (T.pi 48 ((((t.pre)[r]'hrl).l.length : Nat) : Int) (T.pi 49 ((((t.pre)[0]'hp0).l.length : Nat) : Int) (T.pb 50 (((((t.pre)[r]'hrl).l.length : Nat) : Int) != ((((t.pre)[0]'hp0).l.length : Nat) : Int)) (T.pb 51 (((((t.pre)[r]'hrl).l.length : Nat) : Int) != ((((t.pre)[0]'hp0).l.length : Nat) : Int)) (T.bk [(9, false), (10, false), (11, false), (12, false), (13, false), (14, false), (15, false), (16, false)] [(17, false)] 8 false (((((t.pre)[r]'hrl).l.length : Nat) : Int) != ((((t.pre)[0]'hp0).l.length : Nat) : Int)) 51 59 (.bool (((((t.com)[r]'hrc).l.length : Nat) : Int) != ((((t.pre)[0]'hp0).l.length : Nat) : Int))) (fun hg17 => ?_) ?_))))))
    ·
     have hg17_ := hg17
     refine T.pu 52 (.pointer (some ⟨b1, 1, none⟩)) (T.ld false 53 (.slice t.A2 t.com.length t.c2) 22 b1 1 (fun w h => St.cellM h mm0 (by kernel_rfl)) (T.pi 54 r ?_))
     obtain ⟨b18, o19, hA20, hr21⟩ := (Rd.arr ht.a2 _) r hrc
     refine T.ix 55 22 45 1 t.A2 t.com.length t.c2 (r : Int) r b18 o19 hA20 rfl (by omega) (T.ld false 56 (.slice (((t.com)[r]'hrc).A) (((t.com)[r]'hrc).l.length) (((t.com)[r]'hrc).c)) 45 b18 (o19 + r * 1) (fun w h => cell_of_range (hr21 w h) 0 (by kernel_rfl)) (T.pi 57 ((((t.com)[r]'hrc).l.length : Nat) : Int) (T.pi 58 ((((t.pre)[0]'hp0).l.length : Nat) : Int) (T.pb 59 (((((t.com)[r]'hrc).l.length : Nat) : Int) != ((((t.pre)[0]'hp0).l.length : Nat) : Int)) ?_))))
     exact T.blkEnd (by kernel_rfl) (fun w h => h)
    refine T.oo 60 (((((t.pre)[r]'hrl).l.length : Nat) : Int) != ((((t.pre)[0]'hp0).l.length : Nat) : Int)) (((((t.com)[r]'hrc).l.length : Nat) : Int) != ((((t.pre)[0]'hp0).l.length : Nat) : Int)) (T.nil (QN.seq (W.cd ((((((t.pre)[r]'hrl).l.length : Nat) : Int) != ((((t.pre)[0]'hp0).l.length : Nat) : Int)) || (((((t.com)[r]'hrc).l.length : Nat) : Int) != ((((t.pre)[0]'hp0).l.length : Nat) : Int))) (fun h22 => ?_) (fun h22 => ?_))))
    ·
     refine W.seq (W.rg od1 (T.pb 2 false (T.nil (QN.seq (W.ret (QN.thenRet (QN.blkRet (QN.thenRet (QN.thenRet (QN.blkRet (QN.thenRet (QN.done (.inl rfl) 2 (.bool false) rfl (by kernel_rfl) (fun w hw => ⟨?_, hw.below⟩)))))))))))))
     exact ret_bool ((valid_yes hp0 (or3_false h0F)).trans (vf_row hrl hrc h22)).symm
    ·
     have h22l := (Bool.or_eq_false_iff.1 h22).1
     have h22r := (Bool.or_eq_false_iff.1 h22).2
     refine W.skip (QN.seq (W.seq (W.rg od1 (T.pi 5 0 (T.nil (QN.seq (W.block ?_)))))))
     have hrow1 : (((t.pre[r]'hrl).l.length : Int) != ((t.pre[0]'hp0).l.length : Int)) = false := (Bool.or_eq_false_iff.1 h22).1
     have hrow2 : (((t.com[r]'hrc).l.length : Int) != ((t.pre[0]'hp0).l.length : Int)) = false := (Bool.or_eq_false_iff.1 h22).2
     have hn1 : (t.pre[r]'hrl).l.length = (t.pre[0]'hp0).l.length := Int.ofNat.inj (bne_eq_false_iff_eq.1 hrow1)
     have hn2 : (t.com[r]'hrc).l.length = (t.pre[0]'hp0).l.length := Int.ofNat.inj (bne_eq_false_iff_eq.1 hrow2)
     refine W.loop (σ := Nat) (fun gs => gs ≤ (t.pre[0]'hp0).l.length ∧ ((t.pre[r]'hrl).l.take gs).any (outB 3) = false ∧ ((t.com[r]'hrc).l.take gs).any (outB 7) = false) (fun gs => [(1, .pointer (some ⟨b1, 0, none⟩)), (3, .int .i64 ((((t.pre)[0]'hp0).l.length : Nat) : Int)), (4, .int .i64 r), (5, .int .i64 gs), (36, .int .i64 r), (37, .pointer (some ⟨b1, 0, none⟩)), (38, .slice t.A1 t.pre.length t.c1), (39, .int .i64 ((t.pre.length : Nat) : Int)), (40, .bool (decide ((r : Int) < ((t.pre.length : Nat) : Int)))), (43, .pointer (some ⟨b1, 0, none⟩)), (44, .slice t.A1 t.pre.length t.c1), (45, .int .i64 r), (46, .pointer (some ⟨b13, o14 + r * 1, none⟩)), (47, .slice (((t.pre)[r]'hrl).A) (((t.pre)[r]'hrl).l.length) (((t.pre)[r]'hrl).c)), (48, .int .i64 ((((t.pre)[r]'hrl).l.length : Nat) : Int)), (49, .int .i64 ((((t.pre)[0]'hp0).l.length : Nat) : Int)), (50, .bool (((((t.pre)[r]'hrl).l.length : Nat) : Int) != ((((t.pre)[0]'hp0).l.length : Nat) : Int))), (51, .bool (((((t.pre)[r]'hrl).l.length : Nat) : Int) != ((((t.pre)[0]'hp0).l.length : Nat) : Int))), (59, gv ((((((t.pre)[r]'hrl).l.length : Nat) : Int) != ((((t.pre)[0]'hp0).l.length : Nat) : Int)) == false) (.bool (((((t.com)[r]'hrc).l.length : Nat) : Int) != ((((t.pre)[0]'hp0).l.length : Nat) : Int)))), (60, .bool ((((((t.pre)[r]'hrl).l.length : Nat) : Int) != ((((t.pre)[0]'hp0).l.length : Nat) : Int)) || (((((t.com)[r]'hrc).l.length : Nat) : Int) != ((((t.pre)[0]'hp0).l.length : Nat) : Int))))]) (fun gs => St w [(b1, Obj.cells t.cs 28 (0, 0))]) (fun gs => (t.pre[0]'hp0).l.length - gs) 0 ?_ (by kernel_rfl) (fun w h => h) ?_
     ·
      try dsimp only
      exact ⟨Nat.zero_le _, any_zero _ _, any_zero _ _⟩
     rintro m hI_
     obtain ⟨hm0, hmP, hmC⟩ : m ≤ (t.pre[0]'hp0).l.length ∧ ((t.pre[r]'hrl).l.take m).any (outB 3) = false ∧ ((t.com[r]'hrc).l.take m).any (outB 7) = false := hI_
     refine W.seq (W.seq (W.rg od3 (T.pi 61 m (T.pi 62 ((((t.pre)[0]'hp0).l.length : Nat) : Int) (T.pb 63 (decide ((m : Int) < ((((t.pre)[0]'hp0).l.length : Nat) : Int))) (T.nil (QN.seq (W.cd (decide ((m : Int) < ((((t.pre)[0]'hp0).l.length : Nat) : Int))) (fun h23 => ?_) (fun h23 => ?_)))))))))
     ·
      have h23' := of_decide_eq_true h23
      refine W.skip (QN.seq (W.seq (W.block (W.seq (W.rg [(0, false), (1, false), (2, false), (3, false), (4, false), (5, false), (6, false), (7, false), (8, false), (9, false), (10, false), (11, false), (12, false), (13, false), (14, false), (15, false), (16, false), (17, false), (18, false), (19, false), (20, false), (21, false), (22, false), (23, false), (24, false), (25, false), (26, false), (27, false), (28, false), (29, false), (30, false), (31, false), (32, false), (33, false), (34, false), (35, false), (36, false), (37, false), (38, false), (39, false), (40, false), (41, false)] ?_)))))
      have hipre : m < (t.pre[r]'hrl).l.length := by omega
      have hicom : m < (t.com[r]'hrc).l.length := by omega
      refine T.pu 66 (.pointer (some ⟨b1, 0, none⟩)) (T.ld false 67 (.slice t.A1 t.pre.length t.c1) 22 b1 0 (fun w h => St.cellM h mm0 (by kernel_rfl)) (T.pi 68 r ?_))
      obtain ⟨b24, o25, hA26, hr27⟩ := (Rd.arr ht.a1 _) r hrl
      refine T.ix 69 22 45 1 t.A1 t.pre.length t.c1 (r : Int) r b24 o25 hA26 rfl (by omega) (T.ld false 70 (.slice (((t.pre)[r]'hrl).A) (((t.pre)[r]'hrl).l.length) (((t.pre)[r]'hrl).c)) 45 b24 (o25 + r * 1) (fun w h => cell_of_range (hr27 w h) 0 (by kernel_rfl)) (T.pi 71 m ?_))
      obtain ⟨b28, o29, hA30, hr31⟩ := (Rd.arr (ht.r1 _ (List.getElem_mem hrl)) _) m hipre
      refine T.ix 72 45 3 1 (((t.pre)[r]'hrl).A) (((t.pre)[r]'hrl).l.length) (((t.pre)[r]'hrl).c) (m : Int) m b28 o29 hA30 rfl (by omega) (T.ld false 73 (.int .i64 ((((t.pre)[r]'hrl).l)[m]'hipre)) 3 b28 (o29 + m * 1) (fun w h => cell_of_range (hr31 w h) 0 (by kernel_rfl)) (T.pb 74 (decide (((((t.pre)[r]'hrl).l)[m]'hipre) < 0)) (T.pb 75 (decide (((((t.pre)[r]'hrl).l)[m]'hipre) < 0)) (T.bk [(10, false), (11, false), (12, false), (13, false), (14, false), (15, false), (16, false), (17, false), (18, false)] [(19, false), (20, false), (21, false), (22, false), (23, false), (24, false), (25, false), (26, false), (27, false), (28, false), (29, false), (30, false), (31, false), (32, false), (33, false), (34, false), (35, false), (36, false), (37, false), (38, false), (39, false), (40, false), (41, false)] 9 false (decide (((((t.pre)[r]'hrl).l)[m]'hipre) < 0)) 75 84 (.bool (decide (3 < ((((t.pre)[r]'hrl).l)[m]'hipre)))) (fun hg32 => ?_) ?_))))
      ·
       have hg32_ := hg32
       have hg32' := of_decide_eq_false hg32
       refine T.pu 76 (.pointer (some ⟨b1, 0, none⟩)) (T.ld false 77 (.slice t.A1 t.pre.length t.c1) 22 b1 0 (fun w h => St.cellM h mm0 (by kernel_rfl)) (T.pi 78 r ?_))
       obtain ⟨b33, o34, hA35, hr36⟩ := (Rd.arr ht.a1 _) r hrl
       refine T.ix 79 22 45 1 t.A1 t.pre.length t.c1 (r : Int) r b33 o34 hA35 rfl (by omega) (T.ld false 80 (.slice (((t.pre)[r]'hrl).A) (((t.pre)[r]'hrl).l.length) (((t.pre)[r]'hrl).c)) 45 b33 (o34 + r * 1) (fun w h => cell_of_range (hr36 w h) 0 (by kernel_rfl)) (T.pi 81 m ?_))
       obtain ⟨b37, o38, hA39, hr40⟩ := (Rd.arr (ht.r1 _ (List.getElem_mem hrl)) _) m hipre
       refine T.ix 82 45 3 1 (((t.pre)[r]'hrl).A) (((t.pre)[r]'hrl).l.length) (((t.pre)[r]'hrl).c) (m : Int) m b37 o38 hA39 rfl (by omega) (T.ld false 83 (.int .i64 ((((t.pre)[r]'hrl).l)[m]'hipre)) 3 b37 (o38 + m * 1) (fun w h => cell_of_range (hr40 w h) 0 (by kernel_rfl)) (T.pb 84 (decide (3 < ((((t.pre)[r]'hrl).l)[m]'hipre))) ?_))
       exact T.blkEnd (by kernel_rfl) (fun w h => h)
      refine T.oo 85 (decide (((((t.pre)[r]'hrl).l)[m]'hipre) < 0)) (decide (3 < ((((t.pre)[r]'hrl).l)[m]'hipre))) (T.pb 86 ((decide (((((t.pre)[r]'hrl).l)[m]'hipre) < 0)) || (decide (3 < ((((t.pre)[r]'hrl).l)[m]'hipre)))) (T.bk [(21, false), (22, false), (23, false), (24, false), (25, false), (26, false), (27, false), (28, false), (29, false)] [(30, false), (31, false), (32, false), (33, false), (34, false), (35, false), (36, false), (37, false), (38, false), (39, false), (40, false), (41, false)] 20 false ((decide (((((t.pre)[r]'hrl).l)[m]'hipre) < 0)) || (decide (3 < ((((t.pre)[r]'hrl).l)[m]'hipre)))) 86 95 (.bool (decide (((((t.com)[r]'hrc).l)[m]'hicom) < 0))) (fun hg41 => ?_) ?_))
      ·
       have hg41_ := hg41
       have hg41l := (Bool.or_eq_false_iff.1 hg41).1
       have hg41r := (Bool.or_eq_false_iff.1 hg41).2
       have hg41l' := of_decide_eq_false hg41l
       have hg41r' := of_decide_eq_false hg41r
       refine T.pu 87 (.pointer (some ⟨b1, 1, none⟩)) (T.ld false 88 (.slice t.A2 t.com.length t.c2) 22 b1 1 (fun w h => St.cellM h mm0 (by kernel_rfl)) (T.pi 89 r ?_))
       obtain ⟨b42, o43, hA44, hr45⟩ := (Rd.arr ht.a2 _) r hrc
       refine T.ix 90 22 45 1 t.A2 t.com.length t.c2 (r : Int) r b42 o43 hA44 rfl (by omega) (T.ld false 91 (.slice (((t.com)[r]'hrc).A) (((t.com)[r]'hrc).l.length) (((t.com)[r]'hrc).c)) 45 b42 (o43 + r * 1) (fun w h => cell_of_range (hr45 w h) 0 (by kernel_rfl)) (T.pi 92 m ?_))
       obtain ⟨b46, o47, hA48, hr49⟩ := (Rd.arr (ht.r2 _ (List.getElem_mem hrc)) _) m hicom
       refine T.ix 93 45 3 1 (((t.com)[r]'hrc).A) (((t.com)[r]'hrc).l.length) (((t.com)[r]'hrc).c) (m : Int) m b46 o47 hA48 rfl (by omega) (T.ld false 94 (.int .i64 ((((t.com)[r]'hrc).l)[m]'hicom)) 3 b46 (o47 + m * 1) (fun w h => cell_of_range (hr49 w h) 0 (by kernel_rfl)) (T.pb 95 (decide (((((t.com)[r]'hrc).l)[m]'hicom) < 0)) ?_))
       exact T.blkEnd (by kernel_rfl) (fun w h => h)
      refine T.oo 96 ((decide (((((t.pre)[r]'hrl).l)[m]'hipre) < 0)) || (decide (3 < ((((t.pre)[r]'hrl).l)[m]'hipre)))) (decide (((((t.com)[r]'hrc).l)[m]'hicom) < 0)) (T.pb 97 (((decide (((((t.pre)[r]'hrl).l)[m]'hipre) < 0)) || (decide (3 < ((((t.pre)[r]'hrl).l)[m]'hipre)))) || (decide (((((t.com)[r]'hrc).l)[m]'hicom) < 0))) (T.bk [(32, false), (33, false), (34, false), (35, false), (36, false), (37, false), (38, false), (39, false), (40, false)] [(41, false)] 31 false (((decide (((((t.pre)[r]'hrl).l)[m]'hipre) < 0)) || (decide (3 < ((((t.pre)[r]'hrl).l)[m]'hipre)))) || (decide (((((t.com)[r]'hrc).l)[m]'hicom) < 0))) 97 106 (.bool (decide (7 < ((((t.com)[r]'hrc).l)[m]'hicom)))) (fun hg50 => ?_) ?_))
      ·
       have hg50_ := hg50
       have hg50l := (Bool.or_eq_false_iff.1 hg50).1
       have hg50r := (Bool.or_eq_false_iff.1 hg50).2
       have hg50ll := (Bool.or_eq_false_iff.1 hg50l).1
       have hg50lr := (Bool.or_eq_false_iff.1 hg50l).2
       have hg50ll' := of_decide_eq_false hg50ll
       have hg50lr' := of_decide_eq_false hg50lr
       have hg50r' := of_decide_eq_false hg50r
       refine T.pu 98 (.pointer (some ⟨b1, 1, none⟩)) (T.ld false 99 (.slice t.A2 t.com.length t.c2) 22 b1 1 (fun w h => St.cellM h mm0 (by kernel_rfl)) (T.pi 100 r ?_))
       obtain ⟨b51, o52, hA53, hr54⟩ := (Rd.arr ht.a2 _) r hrc
       refine T.ix 101 22 45 1 t.A2 t.com.length t.c2 (r : Int) r b51 o52 hA53 rfl (by omega) (T.ld false 102 (.slice (((t.com)[r]'hrc).A) (((t.com)[r]'hrc).l.length) (((t.com)[r]'hrc).c)) 45 b51 (o52 + r * 1) (fun w h => cell_of_range (hr54 w h) 0 (by kernel_rfl)) (T.pi 103 m ?_))
       obtain ⟨b55, o56, hA57, hr58⟩ := (Rd.arr (ht.r2 _ (List.getElem_mem hrc)) _) m hicom
       refine T.ix 104 45 3 1 (((t.com)[r]'hrc).A) (((t.com)[r]'hrc).l.length) (((t.com)[r]'hrc).c) (m : Int) m b55 o56 hA57 rfl (by omega) (T.ld false 105 (.int .i64 ((((t.com)[r]'hrc).l)[m]'hicom)) 3 b55 (o56 + m * 1) (fun w h => cell_of_range (hr58 w h) 0 (by kernel_rfl)) (T.pb 106 (decide (7 < ((((t.com)[r]'hrc).l)[m]'hicom))) ?_))
       exact T.blkEnd (by kernel_rfl) (fun w h => h)
      refine T.oo 107 (((decide (((((t.pre)[r]'hrl).l)[m]'hipre) < 0)) || (decide (3 < ((((t.pre)[r]'hrl).l)[m]'hipre)))) || (decide (((((t.com)[r]'hrc).l)[m]'hicom) < 0))) (decide (7 < ((((t.com)[r]'hrc).l)[m]'hicom))) (T.nil (QN.seq (W.cd ((((decide (((((t.pre)[r]'hrl).l)[m]'hipre) < 0)) || (decide (3 < ((((t.pre)[r]'hrl).l)[m]'hipre)))) || (decide (((((t.com)[r]'hrc).l)[m]'hicom) < 0))) || (decide (7 < ((((t.com)[r]'hrc).l)[m]'hicom)))) (fun h59 => ?_) (fun h59 => ?_))))
      ·
       refine W.seq (W.rg od1 (T.pb 2 false (T.nil (QN.seq (W.ret (QN.blkRet (QN.thenRet (QN.thenRet (QN.blkRet (QN.blkRet (QN.thenRet (QN.thenRet (QN.blkRet (QN.thenRet (QN.done (.inl rfl) 2 (.bool false) rfl (by kernel_rfl) (fun w hw => ⟨?_, hw.below⟩))))))))))))))))
       exact ret_bool ((valid_yes hp0 (or3_false h0F)).trans (vf_ent hrl hrc hipre hicom h59)).symm
      ·
       have h59l := (Bool.or_eq_false_iff.1 h59).1
       have h59r := (Bool.or_eq_false_iff.1 h59).2
       have h59ll := (Bool.or_eq_false_iff.1 h59l).1
       have h59lr := (Bool.or_eq_false_iff.1 h59l).2
       have h59lll := (Bool.or_eq_false_iff.1 h59ll).1
       have h59llr := (Bool.or_eq_false_iff.1 h59ll).2
       have h59lll' := of_decide_eq_false h59lll
       have h59llr' := of_decide_eq_false h59llr
       have h59lr' := of_decide_eq_false h59lr
       have h59r' := of_decide_eq_false h59r
       refine W.skip (QN.blkNormal (QN.seq (W.rg od3 (T.pi 64 m (T.pw 65 ((m : Int) + 1) (T.pi 5 ((m : Int) + 1) (T.nil (QN.back (m + 1) ?_ ?_ (by kernel_rfl) (fun w h => h)))))))))
       ·
        try dsimp only
        exact ⟨by omega, any_step hmP (by omega) (out_l h59), any_step hmC (by omega) (out_r h59)⟩
       · show (t.pre[0]'hp0).l.length - _ < (t.pre[0]'hp0).l.length - _; omega
     ·
      have h23' := of_decide_eq_false h23
      refine W.exit (QN.thenExit (QN.thenExit (QN.blkHit (QN.blkNormal (QN.seq (W.rg od3 (T.pi 41 r (T.pw 42 ((r : Int) + 1) (T.pi 4 ((r : Int) + 1) (T.nil (QN.back (r + 1) ?_ ?_ (by kernel_rfl) (fun w h => h))))))))))))
      ·
       try dsimp only
       exact ⟨by omega, all_step hrP hrl (fit_yes hrow1 (any_end hmP (by omega))), all_step hrC hrc (fit_yes hrow2 (any_end hmC (by omega)))⟩
      · show t.pre.length - _ < t.pre.length - _; omega
   ·
    have h11' := of_decide_eq_false h11
    refine W.exit (QN.thenExit (QN.thenExit (QN.blkHit (QN.seq (W.seq (W.rg od1 (T.pb 2 true (T.nil (QN.seq (W.ret (QN.done (.inl rfl) 2 (.bool true) rfl (by kernel_rfl) (fun w hw => ⟨?_, hw.below⟩))))))))))))
    exact ret_bool ((valid_yes hp0 (or3_false h0F)).trans (vf_all h10 (all_end hrP (by omega)) (all_end hrC (by omega)))).symm
set_option maxRecDepth 100000 in
set_option maxHeartbeats 2000000 in
theorem rconf14_c (t : Tb) (w : World) (ht : TbRd w t) (htl : TbLen t) : Calls Try.prog 19 #[.agg t.cs] w (fun rr w' => rr = .returned (.int .i64 (confV t.P t.C)) ∧ Below w.heap.size w w') := by
 have hl9 : t.pre.length ≤ 9223372036854775807 := htl.n1
 have hl8 : t.com.length ≤ 9223372036854775807 := htl.n2
 refine calls_W (n := 52) Try.func19 rfl [(0, .agg t.cs)] rfl ⟨by kernel_rfl, by kernel_rfl⟩ (W.weak (Ψ := St w []) (fun w' h => by rw [h]; exact St.start w) (W.seq (W.rg od2 (T.bx 1 28 (.agg t.cs) (t.cs) tv3 (fun b1 => T.pi 2 0 (T.nil (QN.seq (W.seq (W.rg od1 (T.pi 3 0 (T.nil (QN.seq (W.seq (W.seq (W.rg od3 (T.lr false 6 t.cs 28 b1 0 (fun w h => St.rangeM h t.cs mm0 (by kernel_rfl)) (T.cp 7 17 #[.agg t.cs] (.bool (validV t.P t.C)) ent17 (fun w hw => rvalid14_c t w (ht.below hw.below) htl) tv2 (T.pb 8 (!(validV t.P t.C)) (T.nil (QN.seq (W.cd (!(validV t.P t.C)) (fun h2 => ?_) (fun h2 => ?_))))))))))))))))))))))
 ·
  have h2n := not_eq_true h2
  refine W.seq (W.rg od2 (T.pi 9 0 (T.pi 2 0 (T.nil (QN.seq (W.ret (QN.thenRet (QN.done (.inl rfl) 2 (.int .i64 0) rfl (by kernel_rfl) (fun w hw => ⟨?_, hw.below⟩)))))))))
  exact ret_int (by rw [conf_not (not_eq_true h2)])
 ·
  have h2n := not_eq_false h2
  refine W.skip (QN.seq (W.seq (W.seq (W.rg od1 (T.pi 4 0 (T.nil (QN.seq (W.block ?_))))))))
  obtain ⟨n, hn1, hn7, hp1, hp3, hpc, hrp, hrc⟩ := valid_facts (not_eq_false h2)
  refine W.loop (σ := Nat × Int) (fun gs => gs.1 ≤ t.pre.length ∧ gs.2 = confT t.P t.C gs.1) (fun gs => [(1, .pointer (some ⟨b1, 0, none⟩)), (2, .int .i64 0), (3, .int .i64 gs.2), (4, .int .i64 (gs.1 : Int))]) (fun gs => St w [(b1, Obj.cells t.cs 28 (0, 0))]) (fun gs => t.pre.length - gs.1) (0, 0) ?_ (by kernel_rfl) (fun w h => h) ?_
  ·
   try dsimp only
   exact ⟨Nat.zero_le _, rfl⟩
  rintro ⟨r, mk⟩ hI_
  obtain ⟨hr, hmk⟩ : r ≤ t.pre.length ∧ mk = confT t.P t.C r := hI_
  refine W.seq (W.seq (W.rg od5 (T.pi 10 r (T.pu 11 (.pointer (some ⟨b1, 0, none⟩)) (T.ld false 12 (.slice t.A1 t.pre.length t.c1) 22 b1 0 (fun w h => St.cellM h mm0 (by kernel_rfl)) (T.pi 13 ((t.pre.length : Nat) : Int) (T.pb 14 (decide ((r : Int) < ((t.pre.length : Nat) : Int))) (T.nil (QN.seq (W.cd (decide ((r : Int) < ((t.pre.length : Nat) : Int))) (fun h3 => ?_) (fun h3 => ?_)))))))))))
  ·
   have h3' := of_decide_eq_true h3
   have hl4 : r < t.pre.length := by omega
   refine W.skip (QN.seq (W.seq (W.block (W.seq (W.rg od1 (T.pi 5 0 (T.nil (QN.seq (W.block ?_)))))))))
   have hrl : r < t.pre.length := by omega
   have hrc2 : r < t.com.length := by omega
   have hln := (hrp _ (List.getElem_mem hrl)).1
   have hlc := (hrc _ (List.getElem_mem hrc2)).1
   refine W.loop (σ := Nat × Int) (fun gs => gs.1 ≤ ((t.pre)[r]'hrl).l.length ∧ gs.2 = confI t.P t.C r gs.1 mk) (fun gs => [(1, .pointer (some ⟨b1, 0, none⟩)), (2, .int .i64 0), (3, .int .i64 gs.2), (4, .int .i64 r), (5, .int .i64 (gs.1 : Int)), (10, .int .i64 r), (11, .pointer (some ⟨b1, 0, none⟩)), (12, .slice t.A1 t.pre.length t.c1), (13, .int .i64 ((t.pre.length : Nat) : Int)), (14, .bool (decide ((r : Int) < ((t.pre.length : Nat) : Int))))]) (fun gs => St w [(b1, Obj.cells t.cs 28 (0, 0))]) (fun gs => ((t.pre)[r]'hrl).l.length - gs.1) (0, mk) ?_ (by kernel_rfl) (fun w h => h) ?_
   ·
    try dsimp only
    exact ⟨Nat.zero_le _, rfl⟩
   rintro ⟨i, mk2⟩ hI_
   obtain ⟨hi, hmk2⟩ : i ≤ ((t.pre)[r]'hrl).l.length ∧ mk2 = confI t.P t.C r i mk := hI_
   refine W.seq (W.seq (W.rg od8 (T.pi 17 i (T.pu 18 (.pointer (some ⟨b1, 0, none⟩)) (T.ld false 19 (.slice t.A1 t.pre.length t.c1) 22 b1 0 (fun w h => St.cellM h mm0 (by kernel_rfl)) (T.pi 20 r ?_))))))
   obtain ⟨b5, o6, hA7, hr8⟩ := (Rd.arr ht.a1 _) r hrl
   refine T.ix 21 22 45 1 t.A1 t.pre.length t.c1 (r : Int) r b5 o6 hA7 rfl (by omega) (T.ld false 22 (.slice (((t.pre)[r]'hrl).A) (((t.pre)[r]'hrl).l.length) (((t.pre)[r]'hrl).c)) 45 b5 (o6 + r * 1) (fun w h => cell_of_range (hr8 w h) 0 (by kernel_rfl)) (T.pi 23 ((((t.pre)[r]'hrl).l.length : Nat) : Int) (T.pb 24 (decide ((i : Int) < ((((t.pre)[r]'hrl).l.length : Nat) : Int))) (T.nil (QN.seq (W.cd (decide ((i : Int) < ((((t.pre)[r]'hrl).l.length : Nat) : Int))) (fun h9 => ?_) (fun h9 => ?_)))))))
   ·
    have h9' := of_decide_eq_true h9
    have hl10 : i < (((t.pre)[r]'hrl).l).length := by omega
    refine W.skip (QN.seq (W.seq (W.block (W.seq (W.rg od20 ?_)))))
    have hi1 : i < ((t.pre)[r]'hrl).l.length := by omega
    have hi2 : i < ((t.com)[r]'hrc2).l.length := by omega
    have he1 := (hrp _ (List.getElem_mem hrl)).2 _ (List.getElem_mem hi1)
    have he2 := (hrc _ (List.getElem_mem hrc2)).2 _ (List.getElem_mem hi2)
    refine T.pu 27 (.pointer (some ⟨b1, 0, none⟩)) (T.ld false 28 (.slice t.A1 t.pre.length t.c1) 22 b1 0 (fun w h => St.cellM h mm0 (by kernel_rfl)) (T.pi 29 r ?_))
    obtain ⟨b11, o12, hA13, hr14⟩ := (Rd.arr ht.a1 _) r hrl
    refine T.ix 30 22 45 1 t.A1 t.pre.length t.c1 (r : Int) r b11 o12 hA13 rfl (by omega) (T.ld false 31 (.slice (((t.pre)[r]'hrl).A) (((t.pre)[r]'hrl).l.length) (((t.pre)[r]'hrl).c)) 45 b11 (o12 + r * 1) (fun w h => cell_of_range (hr14 w h) 0 (by kernel_rfl)) (T.pi 32 i ?_))
    obtain ⟨b15, o16, hA17, hr18⟩ := (Rd.arr (ht.r1 _ (List.getElem_mem hrl)) _) i hi1
    refine T.ix 33 45 3 1 (((t.pre)[r]'hrl).A) (((t.pre)[r]'hrl).l.length) (((t.pre)[r]'hrl).c) (i : Int) i b15 o16 hA17 rfl (by omega) (T.ld false 34 (.int .i64 ((((t.pre)[r]'hrl).l)[i]'hi1)) 3 b15 (o16 + i * 1) (fun w h => cell_of_range (hr18 w h) 0 (by kernel_rfl)) (T.cp 35 45 #[.int .i64 ((((t.pre)[r]'hrl).l)[i]'hi1)] (.bool (decide ((1 : Int) < (size ((((t.pre)[r]'hrl).l)[i]'hi1) : Int)))) ent45 (fun w hw => rmany_c ((((t.pre)[r]'hrl).l)[i]'hi1) w (by omega) (by omega)) tv2 (T.pb 36 (decide ((1 : Int) < (size ((((t.pre)[r]'hrl).l)[i]'hi1) : Int))) (T.bk [(10, false), (11, false), (12, false), (13, false), (14, false), (15, false), (16, false), (17, false), (18, false)] [(19, false)] 9 false (decide ((1 : Int) < (size ((((t.pre)[r]'hrl).l)[i]'hi1) : Int))) 36 45 (.bool (decide ((1 : Int) < (size ((((t.com)[r]'hrc2).l)[i]'hi2) : Int)))) (fun hg19 => ?_) ?_))))
    ·
     have hg19_ := hg19
     have hg19' := of_decide_eq_false hg19
     refine T.pu 37 (.pointer (some ⟨b1, 1, none⟩)) (T.ld false 38 (.slice t.A2 t.com.length t.c2) 22 b1 1 (fun w h => St.cellM h mm0 (by kernel_rfl)) (T.pi 39 r ?_))
     obtain ⟨b20, o21, hA22, hr23⟩ := (Rd.arr ht.a2 _) r hrc2
     refine T.ix 40 22 45 1 t.A2 t.com.length t.c2 (r : Int) r b20 o21 hA22 rfl (by omega) (T.ld false 41 (.slice (((t.com)[r]'hrc2).A) (((t.com)[r]'hrc2).l.length) (((t.com)[r]'hrc2).c)) 45 b20 (o21 + r * 1) (fun w h => cell_of_range (hr23 w h) 0 (by kernel_rfl)) (T.pi 42 i ?_))
     obtain ⟨b24, o25, hA26, hr27⟩ := (Rd.arr (ht.r2 _ (List.getElem_mem hrc2)) _) i hi2
     refine T.ix 43 45 3 1 (((t.com)[r]'hrc2).A) (((t.com)[r]'hrc2).l.length) (((t.com)[r]'hrc2).c) (i : Int) i b24 o25 hA26 rfl (by omega) (T.ld false 44 (.int .i64 ((((t.com)[r]'hrc2).l)[i]'hi2)) 3 b24 (o25 + i * 1) (fun w h => cell_of_range (hr27 w h) 0 (by kernel_rfl)) (T.cp 45 45 #[.int .i64 ((((t.com)[r]'hrc2).l)[i]'hi2)] (.bool (decide ((1 : Int) < (size ((((t.com)[r]'hrc2).l)[i]'hi2) : Int)))) ent45 (fun w hw => rmany_c ((((t.com)[r]'hrc2).l)[i]'hi2) w (by omega) (by omega)) tv2 ?_))
     exact T.blkEnd (by kernel_rfl) (fun w h => h)
    refine T.oo 46 (decide ((1 : Int) < (size ((((t.pre)[r]'hrl).l)[i]'hi1) : Int))) (decide ((1 : Int) < (size ((((t.com)[r]'hrc2).l)[i]'hi2) : Int))) (T.nil (QN.seq (W.cd ((decide ((1 : Int) < (size ((((t.pre)[r]'hrl).l)[i]'hi1) : Int))) || (decide ((1 : Int) < (size ((((t.com)[r]'hrc2).l)[i]'hi2) : Int)))) (fun h28 => ?_) (fun h28 => ?_))))
    ·
     refine W.rg od5 (T.pi 47 mk2 (T.pi 48 i (T.cp 49 46 #[.int .i64 i] (.int .i64 (2 ^ i)) ent46 (fun w hw => Ret.same (rbit_c i (by omega) w)) tv2 (T.pi 50 (bits .or .i64 mk2 (2 ^ i)) (T.pi 3 (bits .or .i64 mk2 (2 ^ i)) (T.nil (QN.blkNormal (QN.seq (W.rg od3 (T.pi 25 i (T.pw 26 ((i : Int) + 1) (T.pi 5 ((i : Int) + 1) (T.nil (QN.back (i + 1, bits .or .i64 mk2 (2 ^ i)) ?_ ?_ (by kernel_rfl) (fun w h => h)))))))))))))))
     ·
      try dsimp only
      exact ⟨by omega, conf_yes (hr := hrl) (hr2 := hrc2) hmk2 (by omega) (by omega) h28⟩
     · show ((t.pre)[r]'hrl).l.length - _ < ((t.pre)[r]'hrl).l.length - _; omega
    ·
     have h28l := (Bool.or_eq_false_iff.1 h28).1
     have h28r := (Bool.or_eq_false_iff.1 h28).2
     have h28l' := of_decide_eq_false h28l
     have h28r' := of_decide_eq_false h28r
     refine W.skip (QN.blkNormal (QN.seq (W.rg od3 (T.pi 25 i (T.pw 26 ((i : Int) + 1) (T.pi 5 ((i : Int) + 1) (T.nil (QN.back (i + 1, mk2) ?_ ?_ (by kernel_rfl) (fun w h => h)))))))))
     ·
      try dsimp only
      exact ⟨by omega, conf_no (hr := hrl) (hr2 := hrc2) hmk2 (by omega) (by omega) h28⟩
     · show ((t.pre)[r]'hrl).l.length - _ < ((t.pre)[r]'hrl).l.length - _; omega
   ·
    have h9' := of_decide_eq_false h9
    refine W.exit (QN.thenExit (QN.thenExit (QN.blkHit (QN.blkNormal (QN.seq (W.rg od3 (T.pi 15 r (T.pw 16 ((r : Int) + 1) (T.pi 4 ((r : Int) + 1) (T.nil (QN.back (r + 1, mk2) ?_ ?_ (by kernel_rfl) (fun w h => h))))))))))))
    ·
     try dsimp only
     exact ⟨by omega, conf_row hmk hrl (by omega) hmk2⟩
    · show t.pre.length - _ < t.pre.length - _; omega
  ·
   have h3' := of_decide_eq_false h3
   refine W.exit (QN.thenExit (QN.thenExit (QN.blkHit (QN.seq (W.seq (W.rg od2 (T.pi 51 mk (T.pi 2 mk (T.nil (QN.seq (W.ret (QN.done (.inl rfl) 2 (.int .i64 mk) rfl (by kernel_rfl) (fun w hw => ⟨?_, hw.below⟩)))))))))))))
   exact ret_int (by rw [hmk, conf_val (not_eq_false h2) (by omega)])
end Go.Proofs.Ytphnfhonmbbddaa
