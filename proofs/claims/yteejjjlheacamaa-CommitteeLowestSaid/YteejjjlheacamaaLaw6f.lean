/- The walks of CommitteeLowest and CommitteeStays. -/
import Derived.Test.YteejjjlheacamaaLaw6d
import Derived.Test.YteejjjlheacamaaLaw6p
namespace Go.Proofs.Yteejjjlheacamaa
open Go Go.RowKit
set_option linter.unusedVariables false

theorem quiet_left {P : Program} {f : FuncId} {args : Array Value} {w : World} {n : Nat} {v : Value}
    (h : Calls P f args (w.drewN n) fun e w' => e = .returned v ∧ w.drewN n = w') : Calls P f args (w.drewN n) fun e w'' => e = .returned v ∧ ∃ m, w'' = w.drewN m :=
  h.mono fun _ _ ⟨he, hm⟩ => ⟨he, n, hm.symm⟩
set_option maxRecDepth 100000 in
set_option maxHeartbeats 2000000 in
theorem CommitteeLowest_w (m k : Int) (hm : W64 m) (hk : W64 k) (w : World) :
    Calls Try.prog 9 #[.int .i64 m, .int .i64 k] w fun e w' => e = .returned (.bool true) ∧ Below w.heap.size w w' := by
  have L1 := Lib.hid (fun w => lowest_c m k hm hk w)
  have I1 := Lib.hid (fun w => ids_c m hm w)
  have SL := Lib.hid (fun w => size_c (lowest m k) w)
  have SM := Lib.hid (fun w => size_c m w)
  have hsub := low_sub m k
  have hsz := size_low m k
  have hlen : (ids m).length ≤ 10 := size_le m
  have HH := Lib.hid (fun (j : Nat) (h : j < (ids m).length) (w : World) => has_low m k j h ▸ has_c (lowest m k) ((ids m)[j] : Int) w (w64_ofIds _))
  have HO := Lib.hid (ids_lt m)
  clear hm hk
  have hn0 : ((0 : Int) != 0) = false := by simp
  generalize lowest m k = lo at *
  generalize size lo = sl at *
  generalize size m = sm at *
  by_cases hk1 : (sm : Int) < k
  · by_cases h2 : 0 < sm
    · obtain rfl : sl = sm := by omega
      have hq : ((sl : Int) != (sl : Int)) = false := by simp
      clear hsz
      go_enter Try.func9, Try.ntmps9
      go_wp2_with fail
      refine (L1.out _).mono ?_
      rintro e w1 ⟨rfl, hb1⟩
      go_wp2_with fail
      refine (SL.out _).mono ?_
      rintro e w' ⟨rfl, rfl⟩
      go_wp2_with fail
      refine (SM.out _).mono ?_
      rintro e w' ⟨rfl, rfl⟩
      go_wp2_with fail
      clear L1 SL SM
      refine (I1.out _).mono ?_
      rintro e w2 ⟨v, rfl, hown, hb2⟩
      obtain ⟨A, c, hv⟩ := own_form hown
      subst hv
      have HRD := Lib.hid (RdN.of_own hown)
      have hB2 : Below w.heap.size w w2 := hb1.trans (hb2.mono hb1.size)
      clear hown hb1 hb2
      go_wp2
      go_loopw [7] (fun i wr => ∃ j : Nat, j ≤ (ids m).length ∧ i = .int .i64 j ∧ RdN wr A (ids m) ∧ Below w.heap.size w wr) (fun i _ => (ids m).length - (intOf i).toNat)
      case atStart => exact ⟨0, Nat.zero_le _, rfl, HRD.out, hB2⟩
      case round =>
        obtain ⟨j, hj, rfl, hrd, hB⟩ := hrel
        have HRD2 := Lib.hid hrd
        clear hrd
        by_cases hlt : j < (ids m).length
        · obtain ⟨b, off, rfl, _, hc⟩ := HRD2.out j hlt
          have hjl : (j : Int) < ((ids m).length : Int) := by omega
          have HHj := Lib.hid (HH.out j hlt)
          by_cases h0 : j = 0
          · have hj0 : decide (0 < j) = false := by simp; omega
            have hj0' : decide ((0 : Int) < (j : Int)) = false := by simp; omega
            have hjle : j ≤ 0 := by omega
            clear h0
            generalize (ids m)[j] = x at *
            by_cases hjk : (j : Int) < k
            · have hd : decide ((j : Int) < k) = true := by simpa using hjk
              rw [hd] at HHj
              go_wp2
              go_quiet ((go_at_call 23; exact quiet_left (HHj.out _)))
              go_wp2
              go_roundw
              case rel => exact ⟨j + 1, by omega, by go_num, HRD2.out, below_drewN hB _⟩
              case measure => simp [intOf]; omega
            · have hd : decide ((j : Int) < k) = false := by simpa using hjk
              rw [hd] at HHj
              go_wp2
              go_quiet ((go_at_call 23; exact quiet_left (HHj.out _)))
              go_wp2
              go_roundw
              case rel => exact ⟨j + 1, by omega, by go_num, HRD2.out, below_drewN hB _⟩
              case measure => simp [intOf]; omega
          · obtain ⟨p, rfl⟩ : ∃ p, j = p + 1 := ⟨j - 1, by omega⟩
            obtain ⟨b', off', he, _, hc'⟩ := HRD2.out p (by omega)
            simp only [Option.some.injEq, Addr.mk.injEq] at he
            obtain ⟨rfl, rfl, _⟩ := he
            have hxy := HO.out p (p + 1) (by omega) hlt
            generalize (ids m)[p + 1] = x at *
            generalize (ids m)[p] = y at *
            have hle : decide ((x : Int) ≤ (y : Int)) = false := by simp; omega
            by_cases hjk : ((p + 1 : Nat) : Int) < k
            · have hd : decide (((p + 1 : Nat) : Int) < k) = true := by simpa using hjk
              rw [hd] at HHj
              clear hd
              have hd : decide ((p : Int) + 1 < k) = true := by simpa using hjk
              go_wp2
              go_quiet ((go_at_call 23; exact quiet_left (HHj.out _)))
              go_wp2
              go_roundw
              case rel => exact ⟨p + 1 + 1, by omega, by go_num, HRD2.out, below_drewN hB _⟩
              case measure => simp [intOf]; omega
            · have hd : decide (((p + 1 : Nat) : Int) < k) = false := by simpa using hjk
              rw [hd] at HHj
              clear hd
              have hd : decide ((p : Int) + 1 < k) = false := by simpa using hjk
              go_wp2
              go_quiet ((go_at_call 23; exact quiet_left (HHj.out _)))
              go_wp2
              go_roundw
              case rel => exact ⟨p + 1 + 1, by omega, by go_num, HRD2.out, below_drewN hB _⟩
              case measure => simp [intOf]; omega
        · go_wp2_with fail
          refine (awake6_c _).mono ?_
          rintro e w3 ⟨rfl, hb3⟩
          go_wp2
          go_ret
          exact ⟨rfl, hB.trans (hb3.mono hB.size)⟩
    · obtain ⟨rfl, rfl⟩ : sl = 0 ∧ sm = 0 := by omega
      clear hsz
      go_enter Try.func9, Try.ntmps9
      go_wp2_with fail
      refine (L1.out _).mono ?_
      rintro e w1 ⟨rfl, hb1⟩
      go_wp2_with fail
      refine (SL.out _).mono ?_
      rintro e w' ⟨rfl, rfl⟩
      go_wp2_with fail
      refine (SM.out _).mono ?_
      rintro e w' ⟨rfl, rfl⟩
      go_wp2_with fail
      clear L1 SL SM
      refine (I1.out _).mono ?_
      rintro e w2 ⟨v, rfl, hown, hb2⟩
      obtain ⟨A, c, hv⟩ := own_form hown
      subst hv
      have HRD := Lib.hid (RdN.of_own hown)
      have hB2 : Below w.heap.size w w2 := hb1.trans (hb2.mono hb1.size)
      clear hown hb1 hb2
      go_wp2
      go_loopw [7] (fun i wr => ∃ j : Nat, j ≤ (ids m).length ∧ i = .int .i64 j ∧ RdN wr A (ids m) ∧ Below w.heap.size w wr) (fun i _ => (ids m).length - (intOf i).toNat)
      case atStart => exact ⟨0, Nat.zero_le _, rfl, HRD.out, hB2⟩
      case round =>
        obtain ⟨j, hj, rfl, hrd, hB⟩ := hrel
        have HRD2 := Lib.hid hrd
        clear hrd
        by_cases hlt : j < (ids m).length
        · obtain ⟨b, off, rfl, _, hc⟩ := HRD2.out j hlt
          have hjl : (j : Int) < ((ids m).length : Int) := by omega
          have HHj := Lib.hid (HH.out j hlt)
          by_cases h0 : j = 0
          · have hj0 : decide (0 < j) = false := by simp; omega
            have hj0' : decide ((0 : Int) < (j : Int)) = false := by simp; omega
            have hjle : j ≤ 0 := by omega
            clear h0
            generalize (ids m)[j] = x at *
            by_cases hjk : (j : Int) < k
            · have hd : decide ((j : Int) < k) = true := by simpa using hjk
              rw [hd] at HHj
              go_wp2
              go_quiet ((go_at_call 23; exact quiet_left (HHj.out _)))
              go_wp2
              go_roundw
              case rel => exact ⟨j + 1, by omega, by go_num, HRD2.out, below_drewN hB _⟩
              case measure => simp [intOf]; omega
            · have hd : decide ((j : Int) < k) = false := by simpa using hjk
              rw [hd] at HHj
              go_wp2
              go_quiet ((go_at_call 23; exact quiet_left (HHj.out _)))
              go_wp2
              go_roundw
              case rel => exact ⟨j + 1, by omega, by go_num, HRD2.out, below_drewN hB _⟩
              case measure => simp [intOf]; omega
          · obtain ⟨p, rfl⟩ : ∃ p, j = p + 1 := ⟨j - 1, by omega⟩
            obtain ⟨b', off', he, _, hc'⟩ := HRD2.out p (by omega)
            simp only [Option.some.injEq, Addr.mk.injEq] at he
            obtain ⟨rfl, rfl, _⟩ := he
            have hxy := HO.out p (p + 1) (by omega) hlt
            generalize (ids m)[p + 1] = x at *
            generalize (ids m)[p] = y at *
            have hle : decide ((x : Int) ≤ (y : Int)) = false := by simp; omega
            by_cases hjk : ((p + 1 : Nat) : Int) < k
            · have hd : decide (((p + 1 : Nat) : Int) < k) = true := by simpa using hjk
              rw [hd] at HHj
              clear hd
              have hd : decide ((p : Int) + 1 < k) = true := by simpa using hjk
              go_wp2
              go_quiet ((go_at_call 23; exact quiet_left (HHj.out _)))
              go_wp2
              go_roundw
              case rel => exact ⟨p + 1 + 1, by omega, by go_num, HRD2.out, below_drewN hB _⟩
              case measure => simp [intOf]; omega
            · have hd : decide (((p + 1 : Nat) : Int) < k) = false := by simpa using hjk
              rw [hd] at HHj
              clear hd
              have hd : decide ((p : Int) + 1 < k) = false := by simpa using hjk
              go_wp2
              go_quiet ((go_at_call 23; exact quiet_left (HHj.out _)))
              go_wp2
              go_roundw
              case rel => exact ⟨p + 1 + 1, by omega, by go_num, HRD2.out, below_drewN hB _⟩
              case measure => simp [intOf]; omega
        · go_wp2_with fail
          refine (awake6_c _).mono ?_
          rintro e w3 ⟨rfl, hb3⟩
          go_wp2
          go_ret
          exact ⟨rfl, hB.trans (hb3.mono hB.size)⟩
  · by_cases h2 : 0 < k
    · have hq : ((sl : Int) != k) = false := by simp; omega
      clear hsz
      go_enter Try.func9, Try.ntmps9
      go_wp2_with fail
      refine (L1.out _).mono ?_
      rintro e w1 ⟨rfl, hb1⟩
      go_wp2_with fail
      refine (SL.out _).mono ?_
      rintro e w' ⟨rfl, rfl⟩
      go_wp2_with fail
      refine (SM.out _).mono ?_
      rintro e w' ⟨rfl, rfl⟩
      go_wp2_with fail
      clear L1 SL SM
      refine (I1.out _).mono ?_
      rintro e w2 ⟨v, rfl, hown, hb2⟩
      obtain ⟨A, c, hv⟩ := own_form hown
      subst hv
      have HRD := Lib.hid (RdN.of_own hown)
      have hB2 : Below w.heap.size w w2 := hb1.trans (hb2.mono hb1.size)
      clear hown hb1 hb2
      go_wp2
      go_loopw [7] (fun i wr => ∃ j : Nat, j ≤ (ids m).length ∧ i = .int .i64 j ∧ RdN wr A (ids m) ∧ Below w.heap.size w wr) (fun i _ => (ids m).length - (intOf i).toNat)
      case atStart => exact ⟨0, Nat.zero_le _, rfl, HRD.out, hB2⟩
      case round =>
        obtain ⟨j, hj, rfl, hrd, hB⟩ := hrel
        have HRD2 := Lib.hid hrd
        clear hrd
        by_cases hlt : j < (ids m).length
        · obtain ⟨b, off, rfl, _, hc⟩ := HRD2.out j hlt
          have hjl : (j : Int) < ((ids m).length : Int) := by omega
          have HHj := Lib.hid (HH.out j hlt)
          by_cases h0 : j = 0
          · have hj0 : decide (0 < j) = false := by simp; omega
            have hj0' : decide ((0 : Int) < (j : Int)) = false := by simp; omega
            have hjle : j ≤ 0 := by omega
            clear h0
            generalize (ids m)[j] = x at *
            by_cases hjk : (j : Int) < k
            · have hd : decide ((j : Int) < k) = true := by simpa using hjk
              rw [hd] at HHj
              go_wp2
              go_quiet ((go_at_call 23; exact quiet_left (HHj.out _)))
              go_wp2
              go_roundw
              case rel => exact ⟨j + 1, by omega, by go_num, HRD2.out, below_drewN hB _⟩
              case measure => simp [intOf]; omega
            · have hd : decide ((j : Int) < k) = false := by simpa using hjk
              rw [hd] at HHj
              go_wp2
              go_quiet ((go_at_call 23; exact quiet_left (HHj.out _)))
              go_wp2
              go_roundw
              case rel => exact ⟨j + 1, by omega, by go_num, HRD2.out, below_drewN hB _⟩
              case measure => simp [intOf]; omega
          · obtain ⟨p, rfl⟩ : ∃ p, j = p + 1 := ⟨j - 1, by omega⟩
            obtain ⟨b', off', he, _, hc'⟩ := HRD2.out p (by omega)
            simp only [Option.some.injEq, Addr.mk.injEq] at he
            obtain ⟨rfl, rfl, _⟩ := he
            have hxy := HO.out p (p + 1) (by omega) hlt
            generalize (ids m)[p + 1] = x at *
            generalize (ids m)[p] = y at *
            have hle : decide ((x : Int) ≤ (y : Int)) = false := by simp; omega
            by_cases hjk : ((p + 1 : Nat) : Int) < k
            · have hd : decide (((p + 1 : Nat) : Int) < k) = true := by simpa using hjk
              rw [hd] at HHj
              clear hd
              have hd : decide ((p : Int) + 1 < k) = true := by simpa using hjk
              go_wp2
              go_quiet ((go_at_call 23; exact quiet_left (HHj.out _)))
              go_wp2
              go_roundw
              case rel => exact ⟨p + 1 + 1, by omega, by go_num, HRD2.out, below_drewN hB _⟩
              case measure => simp [intOf]; omega
            · have hd : decide (((p + 1 : Nat) : Int) < k) = false := by simpa using hjk
              rw [hd] at HHj
              clear hd
              have hd : decide ((p : Int) + 1 < k) = false := by simpa using hjk
              go_wp2
              go_quiet ((go_at_call 23; exact quiet_left (HHj.out _)))
              go_wp2
              go_roundw
              case rel => exact ⟨p + 1 + 1, by omega, by go_num, HRD2.out, below_drewN hB _⟩
              case measure => simp [intOf]; omega
        · go_wp2_with fail
          refine (awake6_c _).mono ?_
          rintro e w3 ⟨rfl, hb3⟩
          go_wp2
          go_ret
          exact ⟨rfl, hB.trans (hb3.mono hB.size)⟩
    · obtain rfl : sl = 0 := by omega
      clear hsz
      go_enter Try.func9, Try.ntmps9
      go_wp2_with fail
      refine (L1.out _).mono ?_
      rintro e w1 ⟨rfl, hb1⟩
      go_wp2_with fail
      refine (SL.out _).mono ?_
      rintro e w' ⟨rfl, rfl⟩
      go_wp2_with fail
      refine (SM.out _).mono ?_
      rintro e w' ⟨rfl, rfl⟩
      go_wp2_with fail
      clear L1 SL SM
      refine (I1.out _).mono ?_
      rintro e w2 ⟨v, rfl, hown, hb2⟩
      obtain ⟨A, c, hv⟩ := own_form hown
      subst hv
      have HRD := Lib.hid (RdN.of_own hown)
      have hB2 : Below w.heap.size w w2 := hb1.trans (hb2.mono hb1.size)
      clear hown hb1 hb2
      go_wp2
      go_loopw [7] (fun i wr => ∃ j : Nat, j ≤ (ids m).length ∧ i = .int .i64 j ∧ RdN wr A (ids m) ∧ Below w.heap.size w wr) (fun i _ => (ids m).length - (intOf i).toNat)
      case atStart => exact ⟨0, Nat.zero_le _, rfl, HRD.out, hB2⟩
      case round =>
        obtain ⟨j, hj, rfl, hrd, hB⟩ := hrel
        have HRD2 := Lib.hid hrd
        clear hrd
        by_cases hlt : j < (ids m).length
        · obtain ⟨b, off, rfl, _, hc⟩ := HRD2.out j hlt
          have hjl : (j : Int) < ((ids m).length : Int) := by omega
          have HHj := Lib.hid (HH.out j hlt)
          by_cases h0 : j = 0
          · have hj0 : decide (0 < j) = false := by simp; omega
            have hj0' : decide ((0 : Int) < (j : Int)) = false := by simp; omega
            have hjle : j ≤ 0 := by omega
            clear h0
            generalize (ids m)[j] = x at *
            by_cases hjk : (j : Int) < k
            · exact absurd hjk (by omega)
            · have hd : decide ((j : Int) < k) = false := by simpa using hjk
              rw [hd] at HHj
              go_wp2
              go_quiet ((go_at_call 23; exact quiet_left (HHj.out _)))
              go_wp2
              go_roundw
              case rel => exact ⟨j + 1, by omega, by go_num, HRD2.out, below_drewN hB _⟩
              case measure => simp [intOf]; omega
          · obtain ⟨p, rfl⟩ : ∃ p, j = p + 1 := ⟨j - 1, by omega⟩
            obtain ⟨b', off', he, _, hc'⟩ := HRD2.out p (by omega)
            simp only [Option.some.injEq, Addr.mk.injEq] at he
            obtain ⟨rfl, rfl, _⟩ := he
            have hxy := HO.out p (p + 1) (by omega) hlt
            generalize (ids m)[p + 1] = x at *
            generalize (ids m)[p] = y at *
            have hle : decide ((x : Int) ≤ (y : Int)) = false := by simp; omega
            by_cases hjk : ((p + 1 : Nat) : Int) < k
            · exact absurd hjk (by omega)
            · have hd : decide (((p + 1 : Nat) : Int) < k) = false := by simpa using hjk
              rw [hd] at HHj
              clear hd
              have hd : decide ((p : Int) + 1 < k) = false := by simpa using hjk
              go_wp2
              go_quiet ((go_at_call 23; exact quiet_left (HHj.out _)))
              go_wp2
              go_roundw
              case rel => exact ⟨p + 1 + 1, by omega, by go_num, HRD2.out, below_drewN hB _⟩
              case measure => simp [intOf]; omega
        · go_wp2_with fail
          refine (awake6_c _).mono ?_
          rintro e w3 ⟨rfl, hb3⟩
          go_wp2
          go_ret
          exact ⟨rfl, hB.trans (hb3.mono hB.size)⟩
end Go.Proofs.Yteejjjlheacamaa
