/- The walks of CommitteeMeets, CommitteeLowest and CommitteeStays. -/
import Derived.Test.YteejjjlheacamaaLaw6d
import Derived.Test.YteejjjlheacamaaLaw6p
namespace Go.Proofs.Yteejjjlheacamaa
open Go Go.RowKit
set_option linter.unusedVariables false

theorem meets_nums (n : Nat) (h : n ≤ 10) : ∃ q t : Nat, quorum n = q ∧ third n = t ∧ ((n = 0 ∧ q = 0 ∧ t = 0) ∨ (n = 1 ∧ q = 1 ∧ t = 1) ∨ (n = 2 ∧ q = 2 ∧ t = 1) ∨ (n = 3 ∧ q = 3 ∧ t = 1) ∨ (n = 4 ∧ q = 3 ∧ t = 2) ∨ (n = 5 ∧ q = 4 ∧ t = 2) ∨ (n = 6 ∧ q = 5 ∧ t = 2) ∨ (n = 7 ∧ q = 5 ∧ t = 3) ∨ (n = 8 ∧ q = 6 ∧ t = 3) ∨ (n = 9 ∧ q = 7 ∧ t = 3) ∨ (n = 10 ∧ q = 7 ∧ t = 4)) := by
  have hc : n = 0 ∨ n = 1 ∨ n = 2 ∨ n = 3 ∨ n = 4 ∨ n = 5 ∨ n = 6 ∨ n = 7 ∨ n = 8 ∨ n = 9 ∨ n = 10 := by omega
  rcases hc with rfl | rfl | rfl | rfl | rfl | rfl | rfl | rfl | rfl | rfl | rfl
  · exact ⟨0, 0, by decide, by decide, by decide⟩
  · exact ⟨1, 1, by decide, by decide, by decide⟩
  · exact ⟨2, 1, by decide, by decide, by decide⟩
  · exact ⟨3, 1, by decide, by decide, by decide⟩
  · exact ⟨3, 2, by decide, by decide, by decide⟩
  · exact ⟨4, 2, by decide, by decide, by decide⟩
  · exact ⟨5, 2, by decide, by decide, by decide⟩
  · exact ⟨5, 3, by decide, by decide, by decide⟩
  · exact ⟨6, 3, by decide, by decide, by decide⟩
  · exact ⟨7, 3, by decide, by decide, by decide⟩
  · exact ⟨7, 4, by decide, by decide, by decide⟩
set_option maxRecDepth 100000 in
set_option maxHeartbeats 4000000 in
theorem CommitteeMeets_w (c a b : Int) (hc : W64 c) (ha : W64 a) (hb : W64 b) (w : World) :
    Calls Try.prog 6 #[.int .i64 c, .int .i64 a, .int .i64 b] w fun e w' => e = .returned (.bool true) ∧ Below w.heap.size w w' := by
  have hmeet := size_meet c a b
  have hn := size_le c
  have C := Lib.hid (fun w => size_c c w)
  have SA := Lib.hid (fun w => size_c (bits .and .i64 a c) w)
  have SB := Lib.hid (fun w => size_c (bits .and .i64 b c) w)
  have SM := Lib.hid (fun w => size_c (bits .and .i64 (bits .and .i64 a c) (bits .and .i64 b c)) w)
  have Q := Lib.hid (fun w => quorum_c (size c) w (by unfold W64; omega))
  have T := Lib.hid (fun w => third_c (size c) w (by unfold W64; omega))
  clear ha hb hc
  obtain ⟨q, t, eq, et, hcase⟩ := meets_nums (size c) hn
  rw [eq] at Q
  rw [et] at T
  clear eq et
  generalize size (bits .and .i64 (bits .and .i64 a c) (bits .and .i64 b c)) = sm at *
  generalize size (bits .and .i64 a c) = sa at *
  generalize size (bits .and .i64 b c) = sb at *
  generalize size c = n at *
  by_cases h0 : n = 0
  · obtain ⟨rfl, rfl⟩ : q = 0 ∧ t = 0 := by omega
    subst h0
    go_enter Try.func6, Try.ntmps6
    go_wp2_with fail
    refine (C.out _).mono ?_
    rintro e w1 ⟨rfl, rfl⟩
    go_wp2_with fail
    refine (Q.out _).mono ?_
    rintro e w1 ⟨rfl, rfl⟩
    go_wp2_with fail
    refine (T.out _).mono ?_
    rintro e w1 ⟨rfl, rfl⟩
    go_wp2_with fail
    refine (awake6_c _).mono ?_
    rintro e w3 ⟨rfl, hb3⟩
    go_wp2
    go_ret
    exact ⟨rfl, hb3⟩
  · by_cases hA : sa < q
    · rcases hcase with ⟨rfl, rfl, rfl⟩ | ⟨rfl, rfl, rfl⟩ | ⟨rfl, rfl, rfl⟩ | ⟨rfl, rfl, rfl⟩ | ⟨rfl, rfl, rfl⟩ | ⟨rfl, rfl, rfl⟩ | ⟨rfl, rfl, rfl⟩ | ⟨rfl, rfl, rfl⟩ | ⟨rfl, rfl, rfl⟩ | ⟨rfl, rfl, rfl⟩ | ⟨rfl, rfl, rfl⟩
      · exact absurd rfl h0
      all_goals
        go_enter Try.func6, Try.ntmps6
        go_wp2_with fail
        refine (C.out _).mono ?_
        rintro e w1 ⟨rfl, rfl⟩
        go_wp2_with fail
        refine (Q.out _).mono ?_
        rintro e w1 ⟨rfl, rfl⟩
        go_wp2_with fail
        refine (T.out _).mono ?_
        rintro e w1 ⟨rfl, rfl⟩
        go_wp2_with fail
        refine (SA.out _).mono ?_
        rintro e w1 ⟨rfl, rfl⟩
        go_wp2_with fail
        refine (awake6_c _).mono ?_
        rintro e w3 ⟨rfl, hb3⟩
        go_wp2
        go_ret
        exact ⟨rfl, hb3⟩
    · by_cases hB : sb < q
      · rcases hcase with ⟨rfl, rfl, rfl⟩ | ⟨rfl, rfl, rfl⟩ | ⟨rfl, rfl, rfl⟩ | ⟨rfl, rfl, rfl⟩ | ⟨rfl, rfl, rfl⟩ | ⟨rfl, rfl, rfl⟩ | ⟨rfl, rfl, rfl⟩ | ⟨rfl, rfl, rfl⟩ | ⟨rfl, rfl, rfl⟩ | ⟨rfl, rfl, rfl⟩ | ⟨rfl, rfl, rfl⟩
        · exact absurd rfl h0
        all_goals
          go_enter Try.func6, Try.ntmps6
          go_wp2_with fail
          refine (C.out _).mono ?_
          rintro e w1 ⟨rfl, rfl⟩
          go_wp2_with fail
          refine (Q.out _).mono ?_
          rintro e w1 ⟨rfl, rfl⟩
          go_wp2_with fail
          refine (T.out _).mono ?_
          rintro e w1 ⟨rfl, rfl⟩
          go_wp2_with fail
          refine (SA.out _).mono ?_
          rintro e w1 ⟨rfl, rfl⟩
          go_wp2_with fail
          refine (SB.out _).mono ?_
          rintro e w1 ⟨rfl, rfl⟩
          go_wp2_with fail
          refine (awake6_c _).mono ?_
          rintro e w3 ⟨rfl, hb3⟩
          go_wp2
          go_ret
          exact ⟨rfl, hb3⟩
      · rcases hcase with ⟨rfl, rfl, rfl⟩ | ⟨rfl, rfl, rfl⟩ | ⟨rfl, rfl, rfl⟩ | ⟨rfl, rfl, rfl⟩ | ⟨rfl, rfl, rfl⟩ | ⟨rfl, rfl, rfl⟩ | ⟨rfl, rfl, rfl⟩ | ⟨rfl, rfl, rfl⟩ | ⟨rfl, rfl, rfl⟩ | ⟨rfl, rfl, rfl⟩ | ⟨rfl, rfl, rfl⟩
        · exact absurd rfl h0
        all_goals
          go_enter Try.func6, Try.ntmps6
          go_wp2_with fail
          refine (C.out _).mono ?_
          rintro e w1 ⟨rfl, rfl⟩
          go_wp2_with fail
          refine (Q.out _).mono ?_
          rintro e w1 ⟨rfl, rfl⟩
          go_wp2_with fail
          refine (T.out _).mono ?_
          rintro e w1 ⟨rfl, rfl⟩
          go_wp2_with fail
          refine (SA.out _).mono ?_
          rintro e w1 ⟨rfl, rfl⟩
          go_wp2_with fail
          refine (SB.out _).mono ?_
          rintro e w1 ⟨rfl, rfl⟩
          go_wp2_with fail
          refine (SM.out _).mono ?_
          rintro e w1 ⟨rfl, rfl⟩
          go_wp2_with fail
          refine (awake6_c _).mono ?_
          rintro e w3 ⟨rfl, hb3⟩
          go_wp2
          go_ret
          exact ⟨rfl, hb3⟩
end Go.Proofs.Yteejjjlheacamaa
