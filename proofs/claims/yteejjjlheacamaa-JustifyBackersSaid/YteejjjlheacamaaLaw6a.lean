/- The sanity check of the statements of layer 6. -/
import GoSem.Claim
import Derived.Test.YteejjjlheacamaaComD
namespace Go.Proofs.Yteejjjlheacamaa
open Go Go.RowKit
set_option linter.unusedVariables false

theorem w64_of {m : Int} (h : (Lit.int .i64 m).wf = true) : W64 m := by
  simp [Lit.wf, IntKind.min, IntKind.max, IntKind.signed, IntKind.bits] at h
  unfold W64
  omega
theorem w64_small (n : Int) (h : -1000000 ≤ n) (h' : n ≤ 1000000) : W64 n := by unfold W64; omega
theorem select_531 : select 5 3 1 = 14 := by decide +kernel
set_option maxHeartbeats 1000000 in
theorem awake6_c (w : World) :
    Calls Try.prog 19 #[] w fun e w' => e = .returned (.bool true) ∧ Below w.heap.size w w' := by
  have q4 := quorum_c 4 w (w64_small _ (by omega) (by omega))
  have q7 := quorum_c 7 w (w64_small _ (by omega) (by omega))
  have t4 := third_c 4 w (w64_small _ (by omega) (by omega))
  have t3 := third_c 3 w (w64_small _ (by omega) (by omega))
  have s5 := select_c 5 3 1 (w64_small _ (by omega) (by omega)) w
  rw [show quorum 4 = 3 from by decide] at q4
  rw [show quorum 7 = 5 from by decide] at q7
  rw [show third 4 = 2 from by decide] at t4
  rw [show third 3 = 1 from by decide] at t3
  rw [select_531] at s5
  have Q4 := Lib.hid q4
  have Q7 := Lib.hid q7
  have T4 := Lib.hid t4
  have T3 := Lib.hid t3
  have S5 := Lib.hid s5
  clear q4 q7 t4 t3 s5
  go_enter Try.func19, Try.ntmps19
  go_wp2_with fail
  refine Q4.out.mono ?_
  rintro e w' ⟨rfl, rfl⟩
  go_wp2_with fail
  refine Q7.out.mono ?_
  rintro e w' ⟨rfl, rfl⟩
  go_wp2_with fail
  refine T4.out.mono ?_
  rintro e w' ⟨rfl, rfl⟩
  go_wp2_with fail
  refine T3.out.mono ?_
  rintro e w' ⟨rfl, rfl⟩
  go_wp2_with fail
  refine S5.out.mono ?_
  rintro e w' ⟨rfl, hb⟩
  go_wp2
  go_ret
  exact ⟨rfl, hb⟩
set_option maxHeartbeats 1000000 in
theorem CommitteeNumbers_w (n : Int) (hn : W64 n) (w : World) :
    Calls Try.prog 3 #[.int .i64 n] w fun e w' => e = .returned (.bool true) ∧ Below w.heap.size w w' := by
  have Q := Lib.hid (quorum_c n w hn)
  have R := Lib.hid (rquorum_c n w hn)
  have T := Lib.hid (third_c n w hn)
  have U := Lib.hid (rthird_c n w hn)
  have A := Lib.hid (awake6_c w)
  clear hn
  generalize quorum n = q at *
  generalize third n = t at *
  have hq : (q == q) = true := by simp
  have ht : (t == t) = true := by simp
  go_enter Try.func3, Try.ntmps3
  go_wp2_with fail
  refine Q.out.mono ?_
  rintro e w' ⟨rfl, rfl⟩
  go_wp2_with fail
  refine R.out.mono ?_
  rintro e w' ⟨rfl, rfl⟩
  go_wp2_with fail
  refine T.out.mono ?_
  rintro e w' ⟨rfl, rfl⟩
  go_wp2_with fail
  refine U.out.mono ?_
  rintro e w' ⟨rfl, rfl⟩
  go_wp2_with fail
  refine A.out.mono ?_
  rintro e w' ⟨rfl, hb⟩
  go_wp2
  go_ret
  exact ⟨rfl, hb⟩
end Go.Proofs.Yteejjjlheacamaa
