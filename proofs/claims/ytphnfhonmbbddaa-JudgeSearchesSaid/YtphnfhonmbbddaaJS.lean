/- Law 14: JudgeSearches, walked. -/
import Derived.Test.YtphnfhonmbbddaaJ14
import Derived.Test.YtphnfhonmbbddaaR14s
namespace Go.Proofs.Ytphnfhonmbbddaa
open Go Go.RowKit
set_option linter.unusedVariables false

set_option maxRecDepth 100000 in
set_option maxHeartbeats 2000000 in
theorem JudgeSearches_c (a0 a1 a2 : Int) (w : World) : Calls Try.prog 4 #[.int .i64 a0, .int .i64 a1, .int .i64 a2] w (fun rr w' => rr = .returned (.bool true) ∧ Below w.heap.size w w') := by
 obtain ⟨s, hs⟩ : ∃ z, z = searchV a0 a1 a2 := ⟨_, rfl⟩
 refine calls_W (n := 52) Try.func4 rfl [(0, .int .i64 a0), (1, .int .i64 a1), (2, .int .i64 a2)] rfl ⟨by kernel_rfl, by kernel_rfl⟩ (W.weak (Ψ := St w []) (fun w' h => by rw [h]; exact St.start w) (W.seq (W.rg od1 (T.pb 6 false (T.nil (QN.seq (W.seq (W.rg od10 (T.pi 12 a0 (T.pi 13 a1 (T.pi 14 a2 (T.cp 15 21 #[.int .i64 a0, .int .i64 a1, .int .i64 a2] (.tuple #[.agg #[.int .i64 s.1, .int .i64 s.2.1, .int .i64 s.2.2.1], .int .i64 s.2.2.2]) ent21 (fun w hw => (by rw [hs]; exact search_c a0 a1 a2 w)) tv2 (T.pu 11 (.tuple #[.agg #[.int .i64 s.1, .int .i64 s.2.1, .int .i64 s.2.2.1], .int .i64 s.2.2.2]) (T.pu 16 (.agg #[.int .i64 s.1, .int .i64 s.2.1, .int .i64 s.2.2.1]) (T.pi 17 s.2.2.2 (T.al 7 37 #[.int .i64 0, .int .i64 0, .int .i64 0] tv3 (fun b1 => T.sp 37 b1 0 (.agg #[.int .i64 s.1, .int .i64 s.2.1, .int .i64 s.2.2.1]) #[.int .i64 0, .int .i64 0, .int .i64 0] #[.int .i64 s.1, .int .i64 s.2.1, .int .i64 s.2.2.1] 37 pm0 tv2 (T.pi 8 s.2.2.2 (T.nil (QN.seq (W.seq (W.rg od10 (T.pi 19 a0 (T.pi 20 a1 (T.pi 21 a2 (T.cp 22 22 #[.int .i64 a0, .int .i64 a1, .int .i64 a2] (.tuple #[.agg #[.int .i64 s.1, .int .i64 s.2.1, .int .i64 s.2.2.1], .int .i64 s.2.2.2]) ent22 (fun w hw => (by rw [hs]; exact rsearch_c a0 a1 a2 w)) tv2 (T.pu 18 (.tuple #[.agg #[.int .i64 s.1, .int .i64 s.2.1, .int .i64 s.2.2.1], .int .i64 s.2.2.2]) (T.pu 23 (.agg #[.int .i64 s.1, .int .i64 s.2.1, .int .i64 s.2.2.1]) (T.pi 24 s.2.2.2 (T.al 9 41 #[.int .i64 0, .int .i64 0, .int .i64 0] tv3 (fun b2 => T.sp 41 b2 0 (.agg #[.int .i64 s.1, .int .i64 s.2.1, .int .i64 s.2.2.1]) #[.int .i64 0, .int .i64 0, .int .i64 0] #[.int .i64 s.1, .int .i64 s.2.1, .int .i64 s.2.2.1] 41 pm0 tv2 (T.pi 10 s.2.2.2 (T.nil (QN.seq (W.seq (W.rg od28 (T.pu 25 (.pointer (some ⟨b1, 0, none⟩)) (T.ld false 26 (.int .i64 s.1) 3 b1 0 (fun w h => St.cellM h mm1 (by kernel_rfl)) (T.pu 27 (.pointer (some ⟨b2, 0, none⟩)) (T.ld false 28 (.int .i64 s.1) 3 b2 0 (fun w h => St.cellM h mm0 (by kernel_rfl)) (T.pb 29 (s.1 == s.1) (T.pb 30 (s.1 == s.1) (T.bk [(6, false), (7, false), (8, false), (9, false), (10, false)] [(11, false), (12, false), (13, false), (14, false), (15, false), (16, false), (17, false), (18, false), (19, false), (20, false), (21, false), (22, false), (23, false), (24, false), (25, false), (26, false), (27, false)] 5 true (s.1 == s.1) 30 35 (.bool (s.2.1 == s.2.1)) (fun hg3 => ?_) ?_)))))))))))))))))))))))))))))))))))))))))))
 ·
  have hg3_ := hg3
  refine T.pu 31 (.pointer (some ⟨b1, 1, none⟩)) (T.ld false 32 (.int .i64 s.2.1) 3 b1 1 (fun w h => St.cellM h mm1 (by kernel_rfl)) (T.pu 33 (.pointer (some ⟨b2, 1, none⟩)) (T.ld false 34 (.int .i64 s.2.1) 3 b2 1 (fun w h => St.cellM h mm0 (by kernel_rfl)) (T.pb 35 (s.2.1 == s.2.1) ?_))))
  exact T.blkEnd (by kernel_rfl) (fun w h => h)
 refine T.an 36 (s.1 == s.1) (s.2.1 == s.2.1) (T.pb 37 ((s.1 == s.1) && (s.2.1 == s.2.1)) (T.bk [(13, false), (14, false), (15, false), (16, false), (17, false)] [(18, false), (19, false), (20, false), (21, false), (22, false), (23, false), (24, false), (25, false), (26, false), (27, false)] 12 true ((s.1 == s.1) && (s.2.1 == s.2.1)) 37 42 (.bool (s.2.2.1 == s.2.2.1)) (fun hg4 => ?_) ?_))
 ·
  have hg4_ := hg4
  have hg4l := (Bool.and_eq_true_iff.1 hg4).1
  have hg4r := (Bool.and_eq_true_iff.1 hg4).2
  refine T.pu 38 (.pointer (some ⟨b1, 2, none⟩)) (T.ld false 39 (.int .i64 s.2.2.1) 3 b1 2 (fun w h => St.cellM h mm1 (by kernel_rfl)) (T.pu 40 (.pointer (some ⟨b2, 2, none⟩)) (T.ld false 41 (.int .i64 s.2.2.1) 3 b2 2 (fun w h => St.cellM h mm0 (by kernel_rfl)) (T.pb 42 (s.2.2.1 == s.2.2.1) ?_))))
  exact T.blkEnd (by kernel_rfl) (fun w h => h)
 refine T.an 43 ((s.1 == s.1) && (s.2.1 == s.2.1)) (s.2.2.1 == s.2.2.1) (T.pb 44 (((s.1 == s.1) && (s.2.1 == s.2.1)) && (s.2.2.1 == s.2.2.1)) (T.bk [(20, false), (21, false), (22, false)] [(23, false), (24, false), (25, false), (26, false), (27, false)] 19 true (((s.1 == s.1) && (s.2.1 == s.2.1)) && (s.2.2.1 == s.2.2.1)) 44 47 (.bool (s.2.2.2 == s.2.2.2)) (fun hg5 => ?_) ?_))
 ·
  have hg5_ := hg5
  have hg5l := (Bool.and_eq_true_iff.1 hg5).1
  have hg5r := (Bool.and_eq_true_iff.1 hg5).2
  have hg5ll := (Bool.and_eq_true_iff.1 hg5l).1
  have hg5lr := (Bool.and_eq_true_iff.1 hg5l).2
  refine T.pi 45 s.2.2.2 (T.pi 46 s.2.2.2 (T.pb 47 (s.2.2.2 == s.2.2.2) ?_))
  exact T.blkEnd (by kernel_rfl) (fun w h => h)
 refine T.an 48 (((s.1 == s.1) && (s.2.1 == s.2.1)) && (s.2.2.1 == s.2.2.1)) (s.2.2.2 == s.2.2.2) (T.pb 49 ((((s.1 == s.1) && (s.2.1 == s.2.1)) && (s.2.2.1 == s.2.2.1)) && (s.2.2.2 == s.2.2.2)) (T.bk [(25, false)] [(26, false), (27, false)] 24 true ((((s.1 == s.1) && (s.2.1 == s.2.1)) && (s.2.2.1 == s.2.2.1)) && (s.2.2.2 == s.2.2.2)) 49 50 (.bool true) (fun hg6 => ?_) ?_))
 ·
  have hg6_ := hg6
  have hg6l := (Bool.and_eq_true_iff.1 hg6).1
  have hg6r := (Bool.and_eq_true_iff.1 hg6).2
  have hg6ll := (Bool.and_eq_true_iff.1 hg6l).1
  have hg6lr := (Bool.and_eq_true_iff.1 hg6l).2
  have hg6lll := (Bool.and_eq_true_iff.1 hg6ll).1
  have hg6llr := (Bool.and_eq_true_iff.1 hg6ll).2
  refine T.cp 50 20 #[] (.bool true) ent20 (fun w hw => awake14_c w) tv2 ?_
  exact T.blkEnd (by kernel_rfl) (fun w h => h)
 refine T.an 51 ((((s.1 == s.1) && (s.2.1 == s.2.1)) && (s.2.2.1 == s.2.2.1)) && (s.2.2.2 == s.2.2.2)) true (T.pb 6 (((((s.1 == s.1) && (s.2.1 == s.2.1)) && (s.2.2.1 == s.2.2.1)) && (s.2.2.2 == s.2.2.2)) && true) (T.nil (QN.seq (W.ret (QN.done (.inl rfl) 6 (.bool (((((s.1 == s.1) && (s.2.1 == s.2.1)) && (s.2.2.1 == s.2.2.1)) && (s.2.2.2 == s.2.2.2)) && true)) rfl (by kernel_rfl) (fun w hw => ⟨?_, hw.below⟩))))))
 exact ret_bool (by simp)
theorem JudgeSearches_w (w : World) (a0 : Int) (a1 : Int) (a2 : Int) (h0 : W64 a0) (h1 : W64 a1) (h2 : W64 a2) : Calls Try.prog 4 #[.int .i64 a0, .int .i64 a1, .int .i64 a2] w fun e w' => e = .returned (.bool true) ∧ Below w.heap.size w w' := by
  exact JudgeSearches_c a0 a1 a2 w
end Go.Proofs.Ytphnfhonmbbddaa
