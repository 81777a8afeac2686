/- ints; the walk of CommitteeSets. -/
import Derived.Deep.QuietTactic
import Derived.BigQuiet
import Derived.Deep.Draws
import Derived.Test.YteejjjlheacamaaLaw6c
namespace Go.Proofs.Yteejjjlheacamaa
open Go Go.RowKit
set_option linter.unusedVariables false

/-- A slice of ints that reads as a list of naturals. -/
def RdN (w : World) (A : Option Addr) (l : List Nat) : Prop :=
  ∀ j (h : j < l.length), ∃ b off, A = some ⟨b, off, none⟩ ∧ b < w.heap.size ∧ w.cell? ⟨b, off + j, none⟩ = some (.int .i64 (l[j] : Int))
theorem RdN.of_own {w : World} {base : Nat} {e : TypeId} {A : Option Addr} {c : Nat} {l : List Nat} (h : w.ownsRow base e 1 (.slice A l.length c) l.length (l.map fun i : Nat => Value.int .i64 (i : Int))) : RdN w A l := by
  intro j hj
  obtain ⟨g, hA, hc⟩ := own_cell h j hj
  refine ⟨g, 0, hA, ?_, by simpa using hc⟩
  by_cases hg : g < w.heap.size
  · exact hg
  · simp [World.cell?, Array.getElem?_eq_none (Nat.le_of_not_lt hg)] at hc
theorem RdN.below {w w' : World} {A : Option Addr} {l : List Nat} (h : RdN w A l) (hb : Below w.heap.size w w') : RdN w' A l := by
  intro j hj
  obtain ⟨b, off, hA, hlt, hc⟩ := h j hj
  exact ⟨b, off, hA, Nat.lt_of_lt_of_le hlt hb.size, (hb.cell (p := ⟨b, off + j, none⟩) hlt).trans hc⟩
theorem below_drewN {B : Nat} {a w : World} (h : Below B a w) (n : Nat) : Below B a (w.drewN n) := ⟨h.os, h.tape, h.output, h.size, h.block⟩
set_option maxRecDepth 100000 in
set_option maxHeartbeats 1000000 in
theorem ints_true (l : List Nat) (A B : Option Addr) (c d : Nat) (w : World) (hl : l.length ≤ 10) (ha : RdN w A l) (hb : RdN w B l) :
    Calls Try.prog 26 #[.slice A l.length c, .slice B l.length d] w fun e w' => e = .returned (.bool true) ∧ ∃ n, w' = w.drewN n := by
  have HA := Lib.hid ha
  have HB := Lib.hid hb
  clear ha hb
  have hlen : ((l.length : Int) != (l.length : Int)) = false := by simp
  go_enter Try.func26, Try.ntmps26
  go_wp2
  go_loopw [5] (fun i wr => ∃ k : Nat, k ≤ l.length ∧ i = .int .i64 k ∧ ∃ n, wr = w.drewN n) (fun i _ => l.length - (intOf i).toNat)
  case atStart => exact ⟨0, Nat.zero_le _, rfl, 0, rfl⟩
  case round =>
    obtain ⟨k, hk, rfl, n, rfl⟩ := hrel
    by_cases hlt : k < l.length
    · obtain ⟨b1, o1, rfl, _, hc1⟩ := HA.out k hlt
      obtain ⟨b2, o2, rfl, _, hc2⟩ := HB.out k hlt
      have hne : ((l[k] : Int) != (l[k] : Int)) = false := by simp
      generalize l[k] = x at *
      have hi : (k : Int) < (l.length : Int) := by omega
      go_wp2
      go_quiet (fail)
      go_wp2
      go_roundw
      case rel => exact ⟨k + 1, by omega, by go_num, _, rfl⟩
      case measure => simp [intOf]; omega
    · go_wp2
      go_ret
      exact ⟨rfl, n, rfl⟩
set_option maxHeartbeats 2000000 in
theorem CommitteeSets_w (m i k : Int) (hm : W64 m) (hi : W64 i) (hk : W64 k) (w : World) :
    Calls Try.prog 7 #[.int .i64 m, .int .i64 i, .int .i64 k] w fun e w' => e = .returned (.bool true) ∧ Below w.heap.size w w' := by
  have H1 := Lib.hid (fun w => has_c m i w hm)
  have H2 := Lib.hid (fun w => rhas_c m i w hm)
  have S1 := Lib.hid (fun w => size_c m w)
  have S2 := Lib.hid (fun w => rsize_c m hm w)
  have I1 := Lib.hid (fun w => ids_c m hm w)
  have I2 := Lib.hid (fun w => rids_c m hm w)
  have L1 := Lib.hid (fun w => lowest_c m k hm hk w)
  have L2 := Lib.hid (fun w => rlowest_c m k hm w)
  have hsz : (ids m).length ≤ 10 := size_le m
  clear hm hi hk
  generalize hasB m i = h at *
  generalize size m = s at *
  generalize ids m = l at *
  generalize lowest m k = lo at *
  have hh : (h == h) = true := by simp
  have hs : ((s : Int) == (s : Int)) = true := by simp
  have hlo : (lo == lo) = true := by simp
  go_enter Try.func7, Try.ntmps7
  go_wp2_with fail
  refine (H1.out _).mono ?_
  rintro e w1 ⟨rfl, rfl⟩
  go_wp2_with fail
  refine (H2.out _).mono ?_
  rintro e w1 ⟨rfl, rfl⟩
  go_wp2_with fail
  refine (S1.out _).mono ?_
  rintro e w1 ⟨rfl, rfl⟩
  go_wp2_with fail
  refine (S2.out _).mono ?_
  rintro e w1 ⟨rfl, hb1⟩
  go_wp2_with fail
  refine (I1.out _).mono ?_
  rintro e w2 ⟨v2, rfl, ho2, hb2⟩
  obtain ⟨A2, c2, hv2⟩ := own_form ho2
  subst hv2
  go_wp2_with fail
  refine (I2.out _).mono ?_
  rintro e w3 ⟨v3, rfl, ho3, hb3⟩
  obtain ⟨A3, c3, hv3⟩ := own_form ho3
  subst hv3
  go_wp2_with fail
  refine (ints_true l A2 A3 c2 c3 _ hsz ((RdN.of_own ho2).below hb3) (RdN.of_own ho3)).mono ?_
  rintro e w4 ⟨rfl, n4, rfl⟩
  have hb4 : Below w.heap.size w (w3.drewN n4) := below_drewN ((hb1.trans (hb2.mono hb1.size)).trans (hb3.mono (Nat.le_trans hb1.size hb2.size))) _
  clear hb1 hb2 hb3 ho2 ho3
  generalize w3.drewN n4 = w4 at *
  go_wp2_with fail
  refine (L1.out _).mono ?_
  rintro e w5 ⟨rfl, hb5⟩
  go_wp2_with fail
  refine (L2.out _).mono ?_
  rintro e w6 ⟨rfl, hb6⟩
  go_wp2_with fail
  refine (awake6_c _).mono ?_
  rintro e w7 ⟨rfl, hb7⟩
  go_wp2
  go_ret
  exact ⟨rfl, ((hb4.trans (hb5.mono hb4.size)).trans (hb6.mono (Nat.le_trans hb4.size hb5.size))).trans (hb7.mono (Nat.le_trans (Nat.le_trans hb4.size hb5.size) hb6.size))⟩
end Go.Proofs.Yteejjjlheacamaa
