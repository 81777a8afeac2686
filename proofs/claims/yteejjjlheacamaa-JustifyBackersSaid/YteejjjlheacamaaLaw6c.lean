/- The walks of CommitteeSelects, CommitteeQuorums, CommitteeSets. -/
import Derived.IntWalk
import Derived.Test.YteejjjlheacamaaLaw6b
namespace Go.Proofs.Yteejjjlheacamaa
open Go Go.RowKit
set_option linter.unusedVariables false

set_option maxHeartbeats 1000000 in
theorem CommitteeSelects_w (v s g : Int) (hv : W64 v) (hs : W64 s) (hg : W64 g) (w : World) :
    Calls Try.prog 4 #[.int .i64 v, .int .i64 s, .int .i64 g] w fun e w' => e = .returned (.bool true) ∧ Below w.heap.size w w' := by
  have Q := Lib.hid (fun w => select_c v s g hs w)
  have R := Lib.hid (fun w => rselect_c v s g hg w)
  clear hv hs hg
  generalize select v s g = q at *
  have hq : (q == q) = true := by simp
  go_enter Try.func4, Try.ntmps4
  go_wp2_with fail
  refine (Q.out _).mono ?_
  rintro e w1 ⟨rfl, hb1⟩
  go_wp2_with fail
  refine (R.out _).mono ?_
  rintro e w2 ⟨rfl, hb2⟩
  go_wp2_with fail
  refine (awake6_c _).mono ?_
  rintro e w3 ⟨rfl, hb3⟩
  go_wp2
  go_ret
  exact ⟨rfl, (hb1.trans (hb2.mono hb1.size)).trans (hb3.mono (Nat.le_trans hb1.size hb2.size))⟩
theorem quorums_law (n l : Int) (h1 : 1 ≤ n) (h0 : 0 ≤ l) (h : 3 * l < n) : quorum n ≤ n - l ∧ (n - l) / 2 < quorum n - l ∧ l < third n ∧ 0 ≤ quorum n ∧ quorum n ≤ n := by
  unfold quorum third
  rw [if_neg (by omega), if_neg (by omega)]
  omega
set_option maxHeartbeats 1000000 in
theorem CommitteeQuorums_w (n l : Int) (hn : W64 n) (hl : W64 l) (w : World) :
    Calls Try.prog 5 #[.int .i64 n, .int .i64 l] w fun e w' => e = .returned (.bool true) ∧ Below w.heap.size w w' := by
  obtain ⟨U, e1⟩ : ∃ U, IntKind.u64.wrap n = U := ⟨_, rfl⟩
  have hU : 0 ≤ U := by rw [← e1, IntKind.wrap_u64]; omega
  obtain ⟨R, e2⟩ : ∃ R, U.tmod 1000000 = R := ⟨_, rfl⟩
  have hR : 0 ≤ R ∧ R < 1000000 := by
    rw [← e2, Int.tmod_eq_emod_of_nonneg hU]; omega
  obtain ⟨V, e4⟩ : ∃ V, IntKind.u64.wrap l = V := ⟨_, rfl⟩
  have hV : 0 ≤ V := by rw [← e4, IntKind.wrap_u64]; omega
  obtain ⟨L, e5⟩ : ∃ L, V.tmod (1 + R) = L := ⟨_, rfl⟩
  have hL : 0 ≤ L ∧ L < 1 + R := by
    rw [← e5, Int.tmod_eq_emod_of_nonneg hV]
    exact ⟨Int.emod_nonneg _ (by omega), Int.emod_lt_of_pos _ (by omega)⟩
  have e3 : IntKind.u64.wrap (1 + R) = 1 + R := by rw [IntKind.wrap_u64]; omega
  obtain ⟨hR0, hR1⟩ := hR
  obtain ⟨hL0, hL1⟩ := hL
  have hne : ((1 + R == 0) = false) := by simp; omega
  clear hU hV hn hl
  by_cases h : 3 * L < 1 + R
  · obtain ⟨q1, q2, q3, q4, q5⟩ := quorums_law (1 + R) L (by omega) hL0 h
    have Q := Lib.hid (quorum_c (1 + R) w (by unfold W64; omega))
    have T := Lib.hid (third_c (1 + R) w (by unfold W64; omega))
    generalize quorum (1 + R) = q at *
    generalize third (1 + R) = t at *
    have d1 : decide (q ≤ 1 + R - L) = true := by simpa using q1
    have d2 : decide ((1 + R - L) / 2 < q - L) = true := by simpa using q2
    have d3 : decide (L < t) = true := by simpa using q3
    go_enter Try.func5, Try.ntmps5
    go_wp2_with fail
    refine Q.out.mono ?_
    rintro e w1 ⟨rfl, rfl⟩
    go_wp2_with fail
    refine T.out.mono ?_
    rintro e w1 ⟨rfl, rfl⟩
    go_wp2_with fail
    refine (awake6_c _).mono ?_
    rintro e w3 ⟨rfl, hb3⟩
    go_wp2
    go_ret
    exact ⟨rfl, hb3⟩
  · go_enter Try.func5, Try.ntmps5
    go_wp2_with fail
    refine (awake6_c _).mono ?_
    rintro e w3 ⟨rfl, hb3⟩
    go_wp2
    go_ret
    exact ⟨rfl, hb3⟩
end Go.Proofs.Yteejjjlheacamaa
