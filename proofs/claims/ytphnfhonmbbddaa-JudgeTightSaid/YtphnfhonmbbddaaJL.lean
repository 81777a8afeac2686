/- Law 14: JudgeTight, JudgeRounds, walked. -/
import Derived.Test.YtphnfhonmbbddaaJ14
import Derived.Test.YtphnfhonmbbddaaJsT
namespace Go.Proofs.Ytphnfhonmbbddaa
open Go Go.RowKit
set_option linter.unusedVariables false

theorem rounds_bool {s1 s2 : Int × Int × Int × Int} (hs1 : s1 = searchV 1 2 1) (hs2 : s2 = searchV 1 3 1) : ((((((((((s1.2.2.2) == 0) && ((s2.2.2.2) == 0)) && ((s1.1) == 1024)) && (decide (0 < (s1.2.1)))) && ((s1.2.2.1) == 1)) && ((s2.1) == 32768)) && (decide (0 < (s2.2.1)))) && ((s2.2.2.1) == 1)) && true) = true := by
  obtain ⟨f, h1, h2⟩ := rounds2
  obtain ⟨f', h3, h4⟩ := rounds3
  rw [hs1, hs2, h1, h3]
  simp [h2, h4]
theorem tight_bool (n : Nat) (h1 : 1 ≤ n) (h4 : n ≤ 4) {nd : Int} {s1 s2 : Int × Int × Int × Int} (hnd : nd = 2 * quorum (n : Int) - (n : Int)) (hs1 : s1 = searchV (n : Int) 1 nd) (hs2 : s2 = searchV (n : Int) 1 (nd - 1)) : (((((((((s1.2.2.2) == 0) && ((s2.2.2.2) == 0)) && (decide (0 < (s1.2.1)))) && ((s1.2.2.1) == nd)) && ((s2.2.1) == 0)) && ((s2.2.2.1) == (-1))) && (decide (0 < (s2.1)))) && true) = true := by
  have h : n = 1 ∨ n = 2 ∨ n = 3 ∨ n = 4 := by omega
  rcases h with rfl | rfl | rfl | rfl
  · obtain ⟨⟨f, e1, e2⟩, e3⟩ := tight1
    have q : 2 * quorum ((1 : Nat) : Int) - ((1 : Nat) : Int) = 1 := by decide +kernel
    have hn : nd = 1 := hnd.trans q
    have g1 : s1 = searchV 1 1 1 := by rw [hs1, hn]; rfl
    have g2 : s2 = searchV 1 1 0 := by rw [hs2, hn]; rfl
    rw [g1, g2, hn, e1, e3]
    simp [e2]
  · obtain ⟨⟨f, e1, e2⟩, e3⟩ := tight2
    have q : 2 * quorum ((2 : Nat) : Int) - ((2 : Nat) : Int) = 2 := by decide +kernel
    have hn : nd = 2 := hnd.trans q
    have g1 : s1 = searchV 2 1 2 := by rw [hs1, hn]; rfl
    have g2 : s2 = searchV 2 1 1 := by rw [hs2, hn]; rfl
    rw [g1, g2, hn, e1, e3]
    simp [e2]
  · obtain ⟨⟨f, e1, e2⟩, e3⟩ := tight3
    have q : 2 * quorum ((3 : Nat) : Int) - ((3 : Nat) : Int) = 3 := by decide +kernel
    have hn : nd = 3 := hnd.trans q
    have g1 : s1 = searchV 3 1 3 := by rw [hs1, hn]; rfl
    have g2 : s2 = searchV 3 1 2 := by rw [hs2, hn]; rfl
    rw [g1, g2, hn, e1, e3]
    simp [e2]
  · obtain ⟨⟨f, e1, e2⟩, e3⟩ := tight4
    have q : 2 * quorum ((4 : Nat) : Int) - ((4 : Nat) : Int) = 2 := by decide +kernel
    have hn : nd = 2 := hnd.trans q
    have g1 : s1 = searchV 4 1 2 := by rw [hs1, hn]; rfl
    have g2 : s2 = searchV 4 1 1 := by rw [hs2, hn]; rfl
    rw [g1, g2, hn, e1, e3]
    simp [e2]

set_option maxRecDepth 100000 in
set_option maxHeartbeats 2000000 in
theorem JudgeTight_c (a0 : Int) (w : World) : Calls Try.prog 6 #[.int .i64 a0] w (fun rr w' => rr = .returned (.bool true) ∧ Below w.heap.size w w') := by
 refine calls_W (n := 67) Try.func6 rfl [(0, .int .i64 a0)] rfl ⟨by kernel_rfl, by kernel_rfl⟩ (W.weak (Ψ := St w []) (fun w' h => by rw [h]; exact St.start w) (W.seq (W.rg od1 (T.pb 2 false (T.nil (QN.seq (W.seq (W.rg od6 (T.pi 9 a0 (T.pu 10 (.int .u64 (IntKind.u64.wrap a0)) ?_))))))))))
 have hu := u64_rng a0
 have hmo := mod_rng (x := (IntKind.u64.wrap a0)) (m := (4 : Int)) (by decide) (by decide)
 refine T.pe 11 (.int .u64 ((IntKind.u64.wrap a0).tmod 4)) (.int .u64 ((IntKind.u64.wrap a0) % 4)) (rem_intK (by omega)) (T.pw 12 ((IntKind.u64.wrap a0) % 4) ?_)
 obtain ⟨n, hn⟩ : ∃ n : Nat, 1 + ((IntKind.u64.wrap a0) % 4) = (n : Int) := ⟨(1 + ((IntKind.u64.wrap a0) % 4)).toNat, by omega⟩
 refine T.pe 13 (.int .i64 (IntKind.i64.wrap (1 + ((IntKind.u64.wrap a0) % 4)))) (.int .i64 (n : Int)) (by rw [hn]; exact wrap_int (by omega) (by omega)) ?_
 have hqb := quorum_bd n (by omega)
 refine T.pi 3 n (T.nil (QN.seq (W.seq (W.rg od6 (T.pi 14 n (T.cp 15 24 #[.int .i64 n] (.int .i64 (quorum (n : Int))) ent24 (fun w hw => Ret.same (quorum_c _ w (by unfold W64; omega))) tv2 (T.pw 16 (2 * (quorum (n : Int))) (T.pi 17 n ?_))))))))
 obtain ⟨nd, hnd⟩ : ∃ nd : Int, nd = 2 * quorum (n : Int) - (n : Int) := ⟨_, rfl⟩
 refine T.pe 18 (.int .i64 (IntKind.i64.wrap (2 * (quorum (n : Int)) - (n : Int)))) (.int .i64 nd) (by rw [hnd]; exact wrap_int (by omega) (by omega)) ?_
 have hndb : -10 ≤ nd ∧ nd ≤ 20 := by omega
 obtain ⟨s1, hs1⟩ : ∃ z, z = searchV (n : Int) 1 nd := ⟨_, rfl⟩
 obtain ⟨s2, hs2⟩ : ∃ z, z = searchV (n : Int) 1 (nd - 1) := ⟨_, rfl⟩
 refine T.pi 4 nd (T.nil (QN.seq (W.seq (W.rg od9 (T.pi 20 n (T.pi 21 nd (T.cp 22 21 #[.int .i64 n, .int .i64 1, .int .i64 nd] (.tuple #[.agg #[.int .i64 s1.1, .int .i64 s1.2.1, .int .i64 s1.2.2.1], .int .i64 s1.2.2.2]) ent21 (fun w hw => (by rw [hs1]; exact search_c (n : Int) 1 nd w)) tv2 (T.pu 19 (.tuple #[.agg #[.int .i64 s1.1, .int .i64 s1.2.1, .int .i64 s1.2.2.1], .int .i64 s1.2.2.2]) (T.pu 23 (.agg #[.int .i64 s1.1, .int .i64 s1.2.1, .int .i64 s1.2.2.1]) (T.pi 24 s1.2.2.2 (T.al 5 37 #[.int .i64 0, .int .i64 0, .int .i64 0] tv3 (fun b1 => T.sp 37 b1 0 (.agg #[.int .i64 s1.1, .int .i64 s1.2.1, .int .i64 s1.2.2.1]) #[.int .i64 0, .int .i64 0, .int .i64 0] #[.int .i64 s1.1, .int .i64 s1.2.1, .int .i64 s1.2.2.1] 37 pm0 tv2 (T.pi 6 s1.2.2.2 (T.nil (QN.seq (W.seq (W.rg od10 (T.pi 26 n (T.pi 27 nd (T.pw 28 (nd - 1) (T.cp 29 21 #[.int .i64 n, .int .i64 1, .int .i64 (nd - 1)] (.tuple #[.agg #[.int .i64 s2.1, .int .i64 s2.2.1, .int .i64 s2.2.2.1], .int .i64 s2.2.2.2]) ent21 (fun w hw => (by rw [hs2]; exact search_c (n : Int) 1 (nd - 1) w)) tv2 (T.pu 25 (.tuple #[.agg #[.int .i64 s2.1, .int .i64 s2.2.1, .int .i64 s2.2.2.1], .int .i64 s2.2.2.2]) (T.pu 30 (.agg #[.int .i64 s2.1, .int .i64 s2.2.1, .int .i64 s2.2.2.1]) (T.pi 31 s2.2.2.2 (T.al 7 37 #[.int .i64 0, .int .i64 0, .int .i64 0] tv3 (fun b2 => T.sp 37 b2 0 (.agg #[.int .i64 s2.1, .int .i64 s2.2.1, .int .i64 s2.2.2.1]) #[.int .i64 0, .int .i64 0, .int .i64 0] #[.int .i64 s2.1, .int .i64 s2.2.1, .int .i64 s2.2.2.1] 37 pm0 tv2 (T.pi 8 s2.2.2.2 (T.nil (QN.seq (W.seq (W.rg [(0, false), (1, false), (2, false), (3, false), (4, false), (5, false), (6, false), (7, false), (8, false), (9, false), (10, false), (11, false), (12, false), (13, false), (14, false), (15, false), (16, false), (17, false), (18, false), (19, false), (20, false), (21, false), (22, false), (23, false), (24, false), (25, false), (26, false), (27, false), (28, false), (29, false), (30, false), (31, false), (32, false), (33, false), (34, false), (35, false)] (T.pi 32 s1.2.2.2 (T.pb 33 (s1.2.2.2 == 0) (T.pb 34 (s1.2.2.2 == 0) (T.bk [(3, false), (4, false)] [(5, false), (6, false), (7, false), (8, false), (9, false), (10, false), (11, false), (12, false), (13, false), (14, false), (15, false), (16, false), (17, false), (18, false), (19, false), (20, false), (21, false), (22, false), (23, false), (24, false), (25, false), (26, false), (27, false), (28, false), (29, false), (30, false), (31, false), (32, false), (33, false), (34, false), (35, false)] 2 true (s1.2.2.2 == 0) 34 36 (.bool (s2.2.2.2 == 0)) (fun hg3 => ?_) ?_)))))))))))))))))))))))))))))))))))
 ·
  have hg3_ := hg3
  refine T.pi 35 s2.2.2.2 (T.pb 36 (s2.2.2.2 == 0) ?_)
  exact T.blkEnd (by kernel_rfl) (fun w h => h)
 refine T.an 37 (s1.2.2.2 == 0) (s2.2.2.2 == 0) (T.pb 38 ((s1.2.2.2 == 0) && (s2.2.2.2 == 0)) (T.bk [(7, false), (8, false), (9, false)] [(10, false), (11, false), (12, false), (13, false), (14, false), (15, false), (16, false), (17, false), (18, false), (19, false), (20, false), (21, false), (22, false), (23, false), (24, false), (25, false), (26, false), (27, false), (28, false), (29, false), (30, false), (31, false), (32, false), (33, false), (34, false), (35, false)] 6 true ((s1.2.2.2 == 0) && (s2.2.2.2 == 0)) 38 41 (.bool (decide (0 < s1.2.1))) (fun hg4 => ?_) ?_))
 ·
  have hg4_ := hg4
  have hg4l := (Bool.and_eq_true_iff.1 hg4).1
  have hg4r := (Bool.and_eq_true_iff.1 hg4).2
  refine T.pu 39 (.pointer (some ⟨b1, 1, none⟩)) (T.ld false 40 (.int .i64 s1.2.1) 3 b1 1 (fun w h => St.cellM h mm1 (by kernel_rfl)) (T.pb 41 (decide (0 < s1.2.1)) ?_))
  exact T.blkEnd (by kernel_rfl) (fun w h => h)
 refine T.an 42 ((s1.2.2.2 == 0) && (s2.2.2.2 == 0)) (decide (0 < s1.2.1)) (T.pb 43 (((s1.2.2.2 == 0) && (s2.2.2.2 == 0)) && (decide (0 < s1.2.1))) (T.bk [(12, false), (13, false), (14, false), (15, false)] [(16, false), (17, false), (18, false), (19, false), (20, false), (21, false), (22, false), (23, false), (24, false), (25, false), (26, false), (27, false), (28, false), (29, false), (30, false), (31, false), (32, false), (33, false), (34, false), (35, false)] 11 true (((s1.2.2.2 == 0) && (s2.2.2.2 == 0)) && (decide (0 < s1.2.1))) 43 47 (.bool (s1.2.2.1 == nd)) (fun hg5 => ?_) ?_))
 ·
  have hg5_ := hg5
  have hg5l := (Bool.and_eq_true_iff.1 hg5).1
  have hg5r := (Bool.and_eq_true_iff.1 hg5).2
  have hg5ll := (Bool.and_eq_true_iff.1 hg5l).1
  have hg5lr := (Bool.and_eq_true_iff.1 hg5l).2
  have hg5r' := of_decide_eq_true hg5r
  refine T.pu 44 (.pointer (some ⟨b1, 2, none⟩)) (T.ld false 45 (.int .i64 s1.2.2.1) 3 b1 2 (fun w h => St.cellM h mm1 (by kernel_rfl)) (T.pi 46 nd (T.pb 47 (s1.2.2.1 == nd) ?_)))
  exact T.blkEnd (by kernel_rfl) (fun w h => h)
 refine T.an 48 (((s1.2.2.2 == 0) && (s2.2.2.2 == 0)) && (decide (0 < s1.2.1))) (s1.2.2.1 == nd) (T.pb 49 ((((s1.2.2.2 == 0) && (s2.2.2.2 == 0)) && (decide (0 < s1.2.1))) && (s1.2.2.1 == nd)) (T.bk [(18, false), (19, false), (20, false)] [(21, false), (22, false), (23, false), (24, false), (25, false), (26, false), (27, false), (28, false), (29, false), (30, false), (31, false), (32, false), (33, false), (34, false), (35, false)] 17 true ((((s1.2.2.2 == 0) && (s2.2.2.2 == 0)) && (decide (0 < s1.2.1))) && (s1.2.2.1 == nd)) 49 52 (.bool (s2.2.1 == 0)) (fun hg6 => ?_) ?_))
 ·
  have hg6_ := hg6
  have hg6l := (Bool.and_eq_true_iff.1 hg6).1
  have hg6r := (Bool.and_eq_true_iff.1 hg6).2
  have hg6ll := (Bool.and_eq_true_iff.1 hg6l).1
  have hg6lr := (Bool.and_eq_true_iff.1 hg6l).2
  have hg6lll := (Bool.and_eq_true_iff.1 hg6ll).1
  have hg6llr := (Bool.and_eq_true_iff.1 hg6ll).2
  have hg6lr' := of_decide_eq_true hg6lr
  refine T.pu 50 (.pointer (some ⟨b2, 1, none⟩)) (T.ld false 51 (.int .i64 s2.2.1) 3 b2 1 (fun w h => St.cellM h mm0 (by kernel_rfl)) (T.pb 52 (s2.2.1 == 0) ?_))
  exact T.blkEnd (by kernel_rfl) (fun w h => h)
 refine T.an 53 ((((s1.2.2.2 == 0) && (s2.2.2.2 == 0)) && (decide (0 < s1.2.1))) && (s1.2.2.1 == nd)) (s2.2.1 == 0) (T.pb 54 (((((s1.2.2.2 == 0) && (s2.2.2.2 == 0)) && (decide (0 < s1.2.1))) && (s1.2.2.1 == nd)) && (s2.2.1 == 0)) (T.bk [(23, false), (24, false), (25, false)] [(26, false), (27, false), (28, false), (29, false), (30, false), (31, false), (32, false), (33, false), (34, false), (35, false)] 22 true (((((s1.2.2.2 == 0) && (s2.2.2.2 == 0)) && (decide (0 < s1.2.1))) && (s1.2.2.1 == nd)) && (s2.2.1 == 0)) 54 57 (.bool (s2.2.2.1 == (-1))) (fun hg7 => ?_) ?_))
 ·
  have hg7_ := hg7
  have hg7l := (Bool.and_eq_true_iff.1 hg7).1
  have hg7r := (Bool.and_eq_true_iff.1 hg7).2
  have hg7ll := (Bool.and_eq_true_iff.1 hg7l).1
  have hg7lr := (Bool.and_eq_true_iff.1 hg7l).2
  have hg7lll := (Bool.and_eq_true_iff.1 hg7ll).1
  have hg7llr := (Bool.and_eq_true_iff.1 hg7ll).2
  have hg7llll := (Bool.and_eq_true_iff.1 hg7lll).1
  have hg7lllr := (Bool.and_eq_true_iff.1 hg7lll).2
  have hg7llr' := of_decide_eq_true hg7llr
  refine T.pu 55 (.pointer (some ⟨b2, 2, none⟩)) (T.ld false 56 (.int .i64 s2.2.2.1) 3 b2 2 (fun w h => St.cellM h mm0 (by kernel_rfl)) (T.pb 57 (s2.2.2.1 == (-1)) ?_))
  exact T.blkEnd (by kernel_rfl) (fun w h => h)
 refine T.an 58 (((((s1.2.2.2 == 0) && (s2.2.2.2 == 0)) && (decide (0 < s1.2.1))) && (s1.2.2.1 == nd)) && (s2.2.1 == 0)) (s2.2.2.1 == (-1)) (T.pb 59 ((((((s1.2.2.2 == 0) && (s2.2.2.2 == 0)) && (decide (0 < s1.2.1))) && (s1.2.2.1 == nd)) && (s2.2.1 == 0)) && (s2.2.2.1 == (-1))) (T.bk [(28, false), (29, false), (30, false)] [(31, false), (32, false), (33, false), (34, false), (35, false)] 27 true ((((((s1.2.2.2 == 0) && (s2.2.2.2 == 0)) && (decide (0 < s1.2.1))) && (s1.2.2.1 == nd)) && (s2.2.1 == 0)) && (s2.2.2.1 == (-1))) 59 62 (.bool (decide (0 < s2.1))) (fun hg8 => ?_) ?_))
 ·
  have hg8_ := hg8
  have hg8l := (Bool.and_eq_true_iff.1 hg8).1
  have hg8r := (Bool.and_eq_true_iff.1 hg8).2
  have hg8ll := (Bool.and_eq_true_iff.1 hg8l).1
  have hg8lr := (Bool.and_eq_true_iff.1 hg8l).2
  have hg8lll := (Bool.and_eq_true_iff.1 hg8ll).1
  have hg8llr := (Bool.and_eq_true_iff.1 hg8ll).2
  have hg8llll := (Bool.and_eq_true_iff.1 hg8lll).1
  have hg8lllr := (Bool.and_eq_true_iff.1 hg8lll).2
  have hg8lllll := (Bool.and_eq_true_iff.1 hg8llll).1
  have hg8llllr := (Bool.and_eq_true_iff.1 hg8llll).2
  have hg8lllr' := of_decide_eq_true hg8lllr
  refine T.pu 60 (.pointer (some ⟨b2, 0, none⟩)) (T.ld false 61 (.int .i64 s2.1) 3 b2 0 (fun w h => St.cellM h mm0 (by kernel_rfl)) (T.pb 62 (decide (0 < s2.1)) ?_))
  exact T.blkEnd (by kernel_rfl) (fun w h => h)
 refine T.an 63 ((((((s1.2.2.2 == 0) && (s2.2.2.2 == 0)) && (decide (0 < s1.2.1))) && (s1.2.2.1 == nd)) && (s2.2.1 == 0)) && (s2.2.2.1 == (-1))) (decide (0 < s2.1)) (T.pb 64 (((((((s1.2.2.2 == 0) && (s2.2.2.2 == 0)) && (decide (0 < s1.2.1))) && (s1.2.2.1 == nd)) && (s2.2.1 == 0)) && (s2.2.2.1 == (-1))) && (decide (0 < s2.1))) (T.bk [(33, false)] [(34, false), (35, false)] 32 true (((((((s1.2.2.2 == 0) && (s2.2.2.2 == 0)) && (decide (0 < s1.2.1))) && (s1.2.2.1 == nd)) && (s2.2.1 == 0)) && (s2.2.2.1 == (-1))) && (decide (0 < s2.1))) 64 65 (.bool true) (fun hg9 => ?_) ?_))
 ·
  have hg9_ := hg9
  have hg9l := (Bool.and_eq_true_iff.1 hg9).1
  have hg9r := (Bool.and_eq_true_iff.1 hg9).2
  have hg9ll := (Bool.and_eq_true_iff.1 hg9l).1
  have hg9lr := (Bool.and_eq_true_iff.1 hg9l).2
  have hg9lll := (Bool.and_eq_true_iff.1 hg9ll).1
  have hg9llr := (Bool.and_eq_true_iff.1 hg9ll).2
  have hg9llll := (Bool.and_eq_true_iff.1 hg9lll).1
  have hg9lllr := (Bool.and_eq_true_iff.1 hg9lll).2
  have hg9lllll := (Bool.and_eq_true_iff.1 hg9llll).1
  have hg9llllr := (Bool.and_eq_true_iff.1 hg9llll).2
  have hg9llllll := (Bool.and_eq_true_iff.1 hg9lllll).1
  have hg9lllllr := (Bool.and_eq_true_iff.1 hg9lllll).2
  have hg9llllr' := of_decide_eq_true hg9llllr
  have hg9r' := of_decide_eq_true hg9r
  refine T.cp 65 20 #[] (.bool true) ent20 (fun w hw => awake14_c w) tv2 ?_
  exact T.blkEnd (by kernel_rfl) (fun w h => h)
 refine T.an 66 (((((((s1.2.2.2 == 0) && (s2.2.2.2 == 0)) && (decide (0 < s1.2.1))) && (s1.2.2.1 == nd)) && (s2.2.1 == 0)) && (s2.2.2.1 == (-1))) && (decide (0 < s2.1))) true (T.pb 2 ((((((((s1.2.2.2 == 0) && (s2.2.2.2 == 0)) && (decide (0 < s1.2.1))) && (s1.2.2.1 == nd)) && (s2.2.1 == 0)) && (s2.2.2.1 == (-1))) && (decide (0 < s2.1))) && true) (T.nil (QN.seq (W.ret (QN.done (.inl rfl) 2 (.bool ((((((((s1.2.2.2 == 0) && (s2.2.2.2 == 0)) && (decide (0 < s1.2.1))) && (s1.2.2.1 == nd)) && (s2.2.1 == 0)) && (s2.2.2.1 == (-1))) && (decide (0 < s2.1))) && true)) rfl (by kernel_rfl) (fun w hw => ⟨?_, hw.below⟩))))))
 exact ret_bool (tight_bool n (by omega) (by omega) hnd hs1 hs2)
theorem JudgeTight_w (w : World) (a0 : Int) (h0 : W64 a0) : Calls Try.prog 6 #[.int .i64 a0] w fun e w' => e = .returned (.bool true) ∧ Below w.heap.size w w' := by
  exact JudgeTight_c a0 w
set_option maxRecDepth 100000 in
set_option maxHeartbeats 2000000 in
theorem JudgeRounds_c (w : World) : Calls Try.prog 7 #[] w (fun rr w' => rr = .returned (.bool true) ∧ Below w.heap.size w w') := by
 obtain ⟨s1, hs1⟩ : ∃ z, z = searchV 1 2 1 := ⟨_, rfl⟩
 obtain ⟨s2, hs2⟩ : ∃ z, z = searchV 1 3 1 := ⟨_, rfl⟩
 refine calls_W (n := 52) Try.func7 rfl [] rfl ⟨by kernel_rfl, by kernel_rfl⟩ (W.weak (Ψ := St w []) (fun w' h => by rw [h]; exact St.start w) (W.seq (W.rg od1 (T.pb 0 false (T.nil (QN.seq (W.seq (W.rg od7 (T.cp 6 21 #[.int .i64 1, .int .i64 2, .int .i64 1] (.tuple #[.agg #[.int .i64 s1.1, .int .i64 s1.2.1, .int .i64 s1.2.2.1], .int .i64 s1.2.2.2]) ent21 (fun w hw => (by rw [hs1]; exact search_c 1 2 1 w)) tv2 (T.pu 5 (.tuple #[.agg #[.int .i64 s1.1, .int .i64 s1.2.1, .int .i64 s1.2.2.1], .int .i64 s1.2.2.2]) (T.pu 7 (.agg #[.int .i64 s1.1, .int .i64 s1.2.1, .int .i64 s1.2.2.1]) (T.pi 8 s1.2.2.2 (T.al 1 37 #[.int .i64 0, .int .i64 0, .int .i64 0] tv3 (fun b1 => T.sp 37 b1 0 (.agg #[.int .i64 s1.1, .int .i64 s1.2.1, .int .i64 s1.2.2.1]) #[.int .i64 0, .int .i64 0, .int .i64 0] #[.int .i64 s1.1, .int .i64 s1.2.1, .int .i64 s1.2.2.1] 37 pm0 tv2 (T.pi 2 s1.2.2.2 (T.nil (QN.seq (W.seq (W.rg od7 (T.cp 10 21 #[.int .i64 1, .int .i64 3, .int .i64 1] (.tuple #[.agg #[.int .i64 s2.1, .int .i64 s2.2.1, .int .i64 s2.2.2.1], .int .i64 s2.2.2.2]) ent21 (fun w hw => (by rw [hs2]; exact search_c 1 3 1 w)) tv2 (T.pu 9 (.tuple #[.agg #[.int .i64 s2.1, .int .i64 s2.2.1, .int .i64 s2.2.2.1], .int .i64 s2.2.2.2]) (T.pu 11 (.agg #[.int .i64 s2.1, .int .i64 s2.2.1, .int .i64 s2.2.2.1]) (T.pi 12 s2.2.2.2 (T.al 3 37 #[.int .i64 0, .int .i64 0, .int .i64 0] tv3 (fun b2 => T.sp 37 b2 0 (.agg #[.int .i64 s2.1, .int .i64 s2.2.1, .int .i64 s2.2.2.1]) #[.int .i64 0, .int .i64 0, .int .i64 0] #[.int .i64 s2.1, .int .i64 s2.2.1, .int .i64 s2.2.2.1] 37 pm0 tv2 (T.pi 4 s2.2.2.2 (T.nil (QN.seq (W.seq (W.rg [(0, false), (1, false), (2, false), (3, false), (4, false), (5, false), (6, false), (7, false), (8, false), (9, false), (10, false), (11, false), (12, false), (13, false), (14, false), (15, false), (16, false), (17, false), (18, false), (19, false), (20, false), (21, false), (22, false), (23, false), (24, false), (25, false), (26, false), (27, false), (28, false), (29, false), (30, false), (31, false), (32, false), (33, false), (34, false), (35, false), (36, false), (37, false), (38, false), (39, false)] (T.pi 13 s1.2.2.2 (T.pb 14 (s1.2.2.2 == 0) (T.pb 15 (s1.2.2.2 == 0) (T.bk [(3, false), (4, false)] [(5, false), (6, false), (7, false), (8, false), (9, false), (10, false), (11, false), (12, false), (13, false), (14, false), (15, false), (16, false), (17, false), (18, false), (19, false), (20, false), (21, false), (22, false), (23, false), (24, false), (25, false), (26, false), (27, false), (28, false), (29, false), (30, false), (31, false), (32, false), (33, false), (34, false), (35, false), (36, false), (37, false), (38, false), (39, false)] 2 true (s1.2.2.2 == 0) 15 17 (.bool (s2.2.2.2 == 0)) (fun hg3 => ?_) ?_))))))))))))))))))))))))))))))))))
 ·
  have hg3_ := hg3
  refine T.pi 16 s2.2.2.2 (T.pb 17 (s2.2.2.2 == 0) ?_)
  exact T.blkEnd (by kernel_rfl) (fun w h => h)
 refine T.an 18 (s1.2.2.2 == 0) (s2.2.2.2 == 0) (T.pb 19 ((s1.2.2.2 == 0) && (s2.2.2.2 == 0)) (T.bk [(7, false), (8, false), (9, false)] [(10, false), (11, false), (12, false), (13, false), (14, false), (15, false), (16, false), (17, false), (18, false), (19, false), (20, false), (21, false), (22, false), (23, false), (24, false), (25, false), (26, false), (27, false), (28, false), (29, false), (30, false), (31, false), (32, false), (33, false), (34, false), (35, false), (36, false), (37, false), (38, false), (39, false)] 6 true ((s1.2.2.2 == 0) && (s2.2.2.2 == 0)) 19 22 (.bool (s1.1 == 1024)) (fun hg4 => ?_) ?_))
 ·
  have hg4_ := hg4
  have hg4l := (Bool.and_eq_true_iff.1 hg4).1
  have hg4r := (Bool.and_eq_true_iff.1 hg4).2
  refine T.pu 20 (.pointer (some ⟨b1, 0, none⟩)) (T.ld false 21 (.int .i64 s1.1) 3 b1 0 (fun w h => St.cellM h mm1 (by kernel_rfl)) (T.pb 22 (s1.1 == 1024) ?_))
  exact T.blkEnd (by kernel_rfl) (fun w h => h)
 refine T.an 23 ((s1.2.2.2 == 0) && (s2.2.2.2 == 0)) (s1.1 == 1024) (T.pb 24 (((s1.2.2.2 == 0) && (s2.2.2.2 == 0)) && (s1.1 == 1024)) (T.bk [(12, false), (13, false), (14, false)] [(15, false), (16, false), (17, false), (18, false), (19, false), (20, false), (21, false), (22, false), (23, false), (24, false), (25, false), (26, false), (27, false), (28, false), (29, false), (30, false), (31, false), (32, false), (33, false), (34, false), (35, false), (36, false), (37, false), (38, false), (39, false)] 11 true (((s1.2.2.2 == 0) && (s2.2.2.2 == 0)) && (s1.1 == 1024)) 24 27 (.bool (decide (0 < s1.2.1))) (fun hg5 => ?_) ?_))
 ·
  have hg5_ := hg5
  have hg5l := (Bool.and_eq_true_iff.1 hg5).1
  have hg5r := (Bool.and_eq_true_iff.1 hg5).2
  have hg5ll := (Bool.and_eq_true_iff.1 hg5l).1
  have hg5lr := (Bool.and_eq_true_iff.1 hg5l).2
  refine T.pu 25 (.pointer (some ⟨b1, 1, none⟩)) (T.ld false 26 (.int .i64 s1.2.1) 3 b1 1 (fun w h => St.cellM h mm1 (by kernel_rfl)) (T.pb 27 (decide (0 < s1.2.1)) ?_))
  exact T.blkEnd (by kernel_rfl) (fun w h => h)
 refine T.an 28 (((s1.2.2.2 == 0) && (s2.2.2.2 == 0)) && (s1.1 == 1024)) (decide (0 < s1.2.1)) (T.pb 29 ((((s1.2.2.2 == 0) && (s2.2.2.2 == 0)) && (s1.1 == 1024)) && (decide (0 < s1.2.1))) (T.bk [(17, false), (18, false), (19, false)] [(20, false), (21, false), (22, false), (23, false), (24, false), (25, false), (26, false), (27, false), (28, false), (29, false), (30, false), (31, false), (32, false), (33, false), (34, false), (35, false), (36, false), (37, false), (38, false), (39, false)] 16 true ((((s1.2.2.2 == 0) && (s2.2.2.2 == 0)) && (s1.1 == 1024)) && (decide (0 < s1.2.1))) 29 32 (.bool (s1.2.2.1 == 1)) (fun hg6 => ?_) ?_))
 ·
  have hg6_ := hg6
  have hg6l := (Bool.and_eq_true_iff.1 hg6).1
  have hg6r := (Bool.and_eq_true_iff.1 hg6).2
  have hg6ll := (Bool.and_eq_true_iff.1 hg6l).1
  have hg6lr := (Bool.and_eq_true_iff.1 hg6l).2
  have hg6lll := (Bool.and_eq_true_iff.1 hg6ll).1
  have hg6llr := (Bool.and_eq_true_iff.1 hg6ll).2
  have hg6r' := of_decide_eq_true hg6r
  refine T.pu 30 (.pointer (some ⟨b1, 2, none⟩)) (T.ld false 31 (.int .i64 s1.2.2.1) 3 b1 2 (fun w h => St.cellM h mm1 (by kernel_rfl)) (T.pb 32 (s1.2.2.1 == 1) ?_))
  exact T.blkEnd (by kernel_rfl) (fun w h => h)
 refine T.an 33 ((((s1.2.2.2 == 0) && (s2.2.2.2 == 0)) && (s1.1 == 1024)) && (decide (0 < s1.2.1))) (s1.2.2.1 == 1) (T.pb 34 (((((s1.2.2.2 == 0) && (s2.2.2.2 == 0)) && (s1.1 == 1024)) && (decide (0 < s1.2.1))) && (s1.2.2.1 == 1)) (T.bk [(22, false), (23, false), (24, false)] [(25, false), (26, false), (27, false), (28, false), (29, false), (30, false), (31, false), (32, false), (33, false), (34, false), (35, false), (36, false), (37, false), (38, false), (39, false)] 21 true (((((s1.2.2.2 == 0) && (s2.2.2.2 == 0)) && (s1.1 == 1024)) && (decide (0 < s1.2.1))) && (s1.2.2.1 == 1)) 34 37 (.bool (s2.1 == 32768)) (fun hg7 => ?_) ?_))
 ·
  have hg7_ := hg7
  have hg7l := (Bool.and_eq_true_iff.1 hg7).1
  have hg7r := (Bool.and_eq_true_iff.1 hg7).2
  have hg7ll := (Bool.and_eq_true_iff.1 hg7l).1
  have hg7lr := (Bool.and_eq_true_iff.1 hg7l).2
  have hg7lll := (Bool.and_eq_true_iff.1 hg7ll).1
  have hg7llr := (Bool.and_eq_true_iff.1 hg7ll).2
  have hg7llll := (Bool.and_eq_true_iff.1 hg7lll).1
  have hg7lllr := (Bool.and_eq_true_iff.1 hg7lll).2
  have hg7lr' := of_decide_eq_true hg7lr
  refine T.pu 35 (.pointer (some ⟨b2, 0, none⟩)) (T.ld false 36 (.int .i64 s2.1) 3 b2 0 (fun w h => St.cellM h mm0 (by kernel_rfl)) (T.pb 37 (s2.1 == 32768) ?_))
  exact T.blkEnd (by kernel_rfl) (fun w h => h)
 refine T.an 38 (((((s1.2.2.2 == 0) && (s2.2.2.2 == 0)) && (s1.1 == 1024)) && (decide (0 < s1.2.1))) && (s1.2.2.1 == 1)) (s2.1 == 32768) (T.pb 39 ((((((s1.2.2.2 == 0) && (s2.2.2.2 == 0)) && (s1.1 == 1024)) && (decide (0 < s1.2.1))) && (s1.2.2.1 == 1)) && (s2.1 == 32768)) (T.bk [(27, false), (28, false), (29, false)] [(30, false), (31, false), (32, false), (33, false), (34, false), (35, false), (36, false), (37, false), (38, false), (39, false)] 26 true ((((((s1.2.2.2 == 0) && (s2.2.2.2 == 0)) && (s1.1 == 1024)) && (decide (0 < s1.2.1))) && (s1.2.2.1 == 1)) && (s2.1 == 32768)) 39 42 (.bool (decide (0 < s2.2.1))) (fun hg8 => ?_) ?_))
 ·
  have hg8_ := hg8
  have hg8l := (Bool.and_eq_true_iff.1 hg8).1
  have hg8r := (Bool.and_eq_true_iff.1 hg8).2
  have hg8ll := (Bool.and_eq_true_iff.1 hg8l).1
  have hg8lr := (Bool.and_eq_true_iff.1 hg8l).2
  have hg8lll := (Bool.and_eq_true_iff.1 hg8ll).1
  have hg8llr := (Bool.and_eq_true_iff.1 hg8ll).2
  have hg8llll := (Bool.and_eq_true_iff.1 hg8lll).1
  have hg8lllr := (Bool.and_eq_true_iff.1 hg8lll).2
  have hg8lllll := (Bool.and_eq_true_iff.1 hg8llll).1
  have hg8llllr := (Bool.and_eq_true_iff.1 hg8llll).2
  have hg8llr' := of_decide_eq_true hg8llr
  refine T.pu 40 (.pointer (some ⟨b2, 1, none⟩)) (T.ld false 41 (.int .i64 s2.2.1) 3 b2 1 (fun w h => St.cellM h mm0 (by kernel_rfl)) (T.pb 42 (decide (0 < s2.2.1)) ?_))
  exact T.blkEnd (by kernel_rfl) (fun w h => h)
 refine T.an 43 ((((((s1.2.2.2 == 0) && (s2.2.2.2 == 0)) && (s1.1 == 1024)) && (decide (0 < s1.2.1))) && (s1.2.2.1 == 1)) && (s2.1 == 32768)) (decide (0 < s2.2.1)) (T.pb 44 (((((((s1.2.2.2 == 0) && (s2.2.2.2 == 0)) && (s1.1 == 1024)) && (decide (0 < s1.2.1))) && (s1.2.2.1 == 1)) && (s2.1 == 32768)) && (decide (0 < s2.2.1))) (T.bk [(32, false), (33, false), (34, false)] [(35, false), (36, false), (37, false), (38, false), (39, false)] 31 true (((((((s1.2.2.2 == 0) && (s2.2.2.2 == 0)) && (s1.1 == 1024)) && (decide (0 < s1.2.1))) && (s1.2.2.1 == 1)) && (s2.1 == 32768)) && (decide (0 < s2.2.1))) 44 47 (.bool (s2.2.2.1 == 1)) (fun hg9 => ?_) ?_))
 ·
  have hg9_ := hg9
  have hg9l := (Bool.and_eq_true_iff.1 hg9).1
  have hg9r := (Bool.and_eq_true_iff.1 hg9).2
  have hg9ll := (Bool.and_eq_true_iff.1 hg9l).1
  have hg9lr := (Bool.and_eq_true_iff.1 hg9l).2
  have hg9lll := (Bool.and_eq_true_iff.1 hg9ll).1
  have hg9llr := (Bool.and_eq_true_iff.1 hg9ll).2
  have hg9llll := (Bool.and_eq_true_iff.1 hg9lll).1
  have hg9lllr := (Bool.and_eq_true_iff.1 hg9lll).2
  have hg9lllll := (Bool.and_eq_true_iff.1 hg9llll).1
  have hg9llllr := (Bool.and_eq_true_iff.1 hg9llll).2
  have hg9llllll := (Bool.and_eq_true_iff.1 hg9lllll).1
  have hg9lllllr := (Bool.and_eq_true_iff.1 hg9lllll).2
  have hg9lllr' := of_decide_eq_true hg9lllr
  have hg9r' := of_decide_eq_true hg9r
  refine T.pu 45 (.pointer (some ⟨b2, 2, none⟩)) (T.ld false 46 (.int .i64 s2.2.2.1) 3 b2 2 (fun w h => St.cellM h mm0 (by kernel_rfl)) (T.pb 47 (s2.2.2.1 == 1) ?_))
  exact T.blkEnd (by kernel_rfl) (fun w h => h)
 refine T.an 48 (((((((s1.2.2.2 == 0) && (s2.2.2.2 == 0)) && (s1.1 == 1024)) && (decide (0 < s1.2.1))) && (s1.2.2.1 == 1)) && (s2.1 == 32768)) && (decide (0 < s2.2.1))) (s2.2.2.1 == 1) (T.pb 49 ((((((((s1.2.2.2 == 0) && (s2.2.2.2 == 0)) && (s1.1 == 1024)) && (decide (0 < s1.2.1))) && (s1.2.2.1 == 1)) && (s2.1 == 32768)) && (decide (0 < s2.2.1))) && (s2.2.2.1 == 1)) (T.bk [(37, false)] [(38, false), (39, false)] 36 true ((((((((s1.2.2.2 == 0) && (s2.2.2.2 == 0)) && (s1.1 == 1024)) && (decide (0 < s1.2.1))) && (s1.2.2.1 == 1)) && (s2.1 == 32768)) && (decide (0 < s2.2.1))) && (s2.2.2.1 == 1)) 49 50 (.bool true) (fun hg10 => ?_) ?_))
 ·
  have hg10_ := hg10
  have hg10l := (Bool.and_eq_true_iff.1 hg10).1
  have hg10r := (Bool.and_eq_true_iff.1 hg10).2
  have hg10ll := (Bool.and_eq_true_iff.1 hg10l).1
  have hg10lr := (Bool.and_eq_true_iff.1 hg10l).2
  have hg10lll := (Bool.and_eq_true_iff.1 hg10ll).1
  have hg10llr := (Bool.and_eq_true_iff.1 hg10ll).2
  have hg10llll := (Bool.and_eq_true_iff.1 hg10lll).1
  have hg10lllr := (Bool.and_eq_true_iff.1 hg10lll).2
  have hg10lllll := (Bool.and_eq_true_iff.1 hg10llll).1
  have hg10llllr := (Bool.and_eq_true_iff.1 hg10llll).2
  have hg10llllll := (Bool.and_eq_true_iff.1 hg10lllll).1
  have hg10lllllr := (Bool.and_eq_true_iff.1 hg10lllll).2
  have hg10lllllll := (Bool.and_eq_true_iff.1 hg10llllll).1
  have hg10llllllr := (Bool.and_eq_true_iff.1 hg10llllll).2
  have hg10llllr' := of_decide_eq_true hg10llllr
  have hg10lr' := of_decide_eq_true hg10lr
  refine T.cp 50 20 #[] (.bool true) ent20 (fun w hw => awake14_c w) tv2 ?_
  exact T.blkEnd (by kernel_rfl) (fun w h => h)
 refine T.an 51 ((((((((s1.2.2.2 == 0) && (s2.2.2.2 == 0)) && (s1.1 == 1024)) && (decide (0 < s1.2.1))) && (s1.2.2.1 == 1)) && (s2.1 == 32768)) && (decide (0 < s2.2.1))) && (s2.2.2.1 == 1)) true (T.pb 0 (((((((((s1.2.2.2 == 0) && (s2.2.2.2 == 0)) && (s1.1 == 1024)) && (decide (0 < s1.2.1))) && (s1.2.2.1 == 1)) && (s2.1 == 32768)) && (decide (0 < s2.2.1))) && (s2.2.2.1 == 1)) && true) (T.nil (QN.seq (W.ret (QN.done (.inl rfl) 0 (.bool (((((((((s1.2.2.2 == 0) && (s2.2.2.2 == 0)) && (s1.1 == 1024)) && (decide (0 < s1.2.1))) && (s1.2.2.1 == 1)) && (s2.1 == 32768)) && (decide (0 < s2.2.1))) && (s2.2.2.1 == 1)) && true)) rfl (by kernel_rfl) (fun w hw => ⟨?_, hw.below⟩))))))
 exact ret_bool (rounds_bool hs1 hs2)
theorem JudgeRounds_w (w : World)   : Calls Try.prog 7 #[] w fun e w' => e = .returned (.bool true) ∧ Below w.heap.size w w' := by
  exact JudgeRounds_c w
end Go.Proofs.Ytphnfhonmbbddaa
