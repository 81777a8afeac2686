/- The walk of CommitteeStays. -/
import Derived.Test.YteejjjlheacamaaLaw6d
import Derived.Test.YteejjjlheacamaaLaw6p
namespace Go.Proofs.Yteejjjlheacamaa
open Go Go.RowKit
set_option linter.unusedVariables false

theorem w64_lowest (m k : Int) : W64 (lowest m k) := w64_ofIds _
set_option maxRecDepth 100000 in
set_option maxHeartbeats 2000000 in
theorem CommitteeStays_w (v0 s0 g m : Int) (hv : W64 v0) (hs : W64 s0) (hg : W64 g) (hm : W64 m) (w : World) :
    Calls Try.prog 8 #[.int .i64 v0, .int .i64 s0, .int .i64 g, .int .i64 m] w fun e w' => e = .returned (.bool true) ∧ Below w.heap.size w w' := by
  obtain ⟨U, e1⟩ : ∃ U, IntKind.u64.wrap v0 = U := ⟨_, rfl⟩
  have hU : 0 ≤ U := by rw [← e1, IntKind.wrap_u64]; omega
  obtain ⟨V, hV, e2⟩ : ∃ V : Nat, V ≤ 10 ∧ U.tmod 11 = (V : Int) := ⟨(U.tmod 11).toNat, by rw [Int.tmod_eq_emod_of_nonneg hU]; omega, by rw [Int.tmod_eq_emod_of_nonneg hU]; omega⟩
  obtain ⟨U2, e3⟩ : ∃ U, IntKind.u64.wrap s0 = U := ⟨_, rfl⟩
  have hU2 : 0 ≤ U2 := by rw [← e3, IntKind.wrap_u64]; omega
  obtain ⟨S, hS, e4⟩ : ∃ S : Nat, S ≤ 7 ∧ U2.tmod 8 = (S : Int) := ⟨(U2.tmod 8).toNat, by rw [Int.tmod_eq_emod_of_nonneg hU2]; omega, by rw [Int.tmod_eq_emod_of_nonneg hU2]; omega⟩
  clear hU hU2 hv hs
  have f1 := stays1 V S g (by omega)
  have f2 := stays2 V S (bits .or .i64 g m)
  have f3 := stays3 V S g m
  have F4 := Lib.hid (stays4 V S (bits .or .i64 g m) (by omega) (by omega))
  have C1 := Lib.hid (fun w => select_c V S g (by unfold W64; omega) w)
  have C2 := Lib.hid (fun w => select_c V S (bits .or .i64 g m) (by unfold W64; omega) w)
  have Z1 := Lib.hid (fun w => size_c (select V S g) w)
  have H1 := Lib.hid (fun (i : Int) w => has_c (select V S (bits .or .i64 g m)) i w (w64_lowest _ _))
  have H2 := Lib.hid (fun (i : Int) w => has_c (bits .or .i64 g m) i w (w64_or _ _))
  have I1 := Lib.hid (fun w => ids_c (select V S (bits .or .i64 g m)) (w64_lowest _ _) w)
  generalize select V S (bits .or .i64 g m) = now at *
  generalize select V S g = old at *
  have hlen : (ids now).length ≤ 10 := size_le now
  generalize size old = so at *
  have d1 : decide ((S : Int) < (so : Int)) = false := by simp; omega
  have d1' : decide (S < so) = false := by simp; omega
  have d0 : ((0 : Int) != 0) = false := by simp
  clear f1 hg hm
  generalize hgm : bits .or .i64 g m = gm at *
  go_enter Try.func8, Try.ntmps8
  go_wp2_with fail
  refine (C1.out _).mono ?_
  rintro e w1 ⟨rfl, hb1⟩
  go_wp2_with fail
  refine (C2.out _).mono ?_
  rintro e w2 ⟨rfl, hb2⟩
  go_wp2_with fail
  refine (Z1.out _).mono ?_
  rintro e w3 ⟨rfl, rfl⟩
  have hB2 : Below w.heap.size w w2 := hb1.trans (hb2.mono hb1.size)
  clear hb1 hb2
  go_wp2
  go_loopw [11] (fun i wr => ∃ j : Nat, j ≤ V ∧ i = .int .i64 j ∧ Below w.heap.size w wr) (fun i _ => V - (intOf i).toNat)
  case atStart => exact ⟨0, Nat.zero_le _, rfl, hB2⟩
  case round =>
    obtain ⟨j, hj, rfl, hB⟩ := hrel
    by_cases hlt : j < V
    · have HN := Lib.hid (H1.out (j : Int))
      have HG := Lib.hid (H2.out (j : Int))
      have F4j := Lib.hid (F4.out j (by omega))
      cases hnow : hasB now (j : Int) with
      | true =>
        rw [hnow] at HN
        clear hnow F4j
        go_wp2_with (go_at_call 23; refine (HN.out _).mono ?_; rintro e w' ⟨rfl, rfl⟩)
        go_roundw
        case rel => exact ⟨j + 1, by omega, by go_num, hB⟩
        case measure => simp [intOf]; omega
      | false =>
        rw [hnow] at HN
        cases hgg : hasB gm (j : Int) with
        | true =>
          rw [hgg] at HG
          clear hnow hgg F4j
          go_wp2_with fail
          refine (HN.out _).mono ?_
          rintro e w' ⟨rfl, rfl⟩
          go_wp2_with fail
          refine (HG.out _).mono ?_
          rintro e w' ⟨rfl, rfl⟩
          go_wp2
          go_roundw
          case rel => exact ⟨j + 1, by omega, by go_num, hB⟩
          case measure => simp [intOf]; omega
        | false =>
          rw [hgg] at HG
          obtain ⟨q1, q2⟩ := F4j.out hnow hgg
          have hlS : (ids now).length = S := by omega
          have IJ := Lib.hid (I1.out wr)
          have Q2 := Lib.hid q2
          clear hnow hgg F4j q1 q2
          go_wp2_with fail
          refine (HN.out _).mono ?_
          rintro e w' ⟨rfl, rfl⟩
          go_wp2_with fail
          refine (HG.out _).mono ?_
          rintro e w' ⟨rfl, rfl⟩
          go_wp2_with fail
          refine IJ.out.mono ?_
          rintro e w5 ⟨v, rfl, hown, hb5⟩
          obtain ⟨A, c, hv⟩ := own_form hown
          subst hv
          have hrd := RdN.of_own hown
          have hB5 : Below w.heap.size w w5 := hB.trans (hb5.mono hB.size)
          clear hown hb5
          rw [hlS]
          have hne : ((S : Int) != (S : Int)) = false := by simp
          by_cases hS0 : 0 < S
          · obtain ⟨b, off, rfl, _, hc⟩ := hrd (S - 1) (by omega)
            have hx := Q2.out (by omega) (by omega)
            simp only [Int.toNat_natCast] at hx
            generalize (ids now)[S - 1] = x at *
            have e9 : ((S : Int) - 1).toNat = S - 1 := by omega
            have d5 : decide ((j : Int) < (x : Int)) = false := by simp; omega
            have d5' : decide (j < x) = false := by simp; omega
            clear hrd hlS Q2
            go_wp2
            go_roundw
            case rel => exact ⟨j + 1, by omega, by go_num, hB5⟩
            case measure => simp [intOf]; omega
          · have dS : decide ((0 : Int) < (S : Int)) = false := by simp; omega
            have dS' : decide (0 < S) = false := by simp; omega
            clear hrd hlS Q2
            go_wp2
            go_roundw
            case rel => exact ⟨j + 1, by omega, by go_num, hB5⟩
            case measure => simp [intOf]; omega
    · go_wp2_with fail
      refine (awake6_c _).mono ?_
      rintro e w3 ⟨rfl, hb3⟩
      go_wp2
      go_ret
      exact ⟨rfl, hB.trans (hb3.mono hB.size)⟩
end Go.Proofs.Yteejjjlheacamaa
