/- Lowest and Select of the reference. -/
import Derived.Deep.QuietTactic
import Derived.BigQuiet
import Derived.Test.YteejjjlheacamaaLaw6a
namespace Go.Proofs.Yteejjjlheacamaa
open Go Go.RowKit
set_option linter.unusedVariables false

theorem own_cell {w : World} {base : Nat} {e : TypeId} {A : Option Addr} {c : Nat} {l : List Nat} (h : w.ownsRow base e 1 (.slice A l.length c) l.length (l.map fun i : Nat => Value.int .i64 (i : Int))) (j : Nat) (hj : j < l.length) :
    ∃ g, A = some ⟨g, 0, none⟩ ∧ w.cell? ⟨g, j, none⟩ = some (.int .i64 (l[j] : Int)) := by
  rcases h.2 with ⟨h1, h2⟩ | ⟨g, cap, cur, hv, hb, hg, hnc, hm, hs, ht⟩
  · omega
  · injection hv with hA hn hc
    refine ⟨g, hA, ?_⟩
    have hcur : cur.toList[j]? = some (.int .i64 (l[j] : Int)) := by
      have : (cur.toList.take (l.length * 1))[j]? = some (.int .i64 (l[j] : Int)) := by rw [ht]; simp [hj]
      rw [List.getElem?_take] at this
      split at this
      · exact this
      · cases this
    simp [World.cell?, hg]
    simpa using hcur
theorem take_next (l : List Nat) (j : Nat) (h : j < l.length) : ofIds (l.take (j + 1)) = bits .or .i64 (ofIds (l.take j)) (2 ^ l[j]) := by
  rw [List.take_succ_eq_append_getElem h, ofIds_snoc]
set_option maxRecDepth 100000 in
set_option maxHeartbeats 1000000 in
theorem rlowest_c (m k : Int) (hm : W64 m) (w : World) :
    Calls Try.prog 30 #[.int .i64 m, .int .i64 k] w fun e w' => e = .returned (.int .i64 (lowest m k)) ∧ Below w.heap.size w w' := by
  have HM := Lib.hid hm
  clear hm
  have hlen := size_le m
  unfold size at hlen
  have hids : ∀ i ∈ ids m, i < 10 := fun i hi => ((mem_ids m i).1 hi).1
  have HI := Lib.hid hids
  clear hids
  obtain ⟨l, hl⟩ : ∃ l, ids m = l := ⟨_, rfl⟩
  have HR := Lib.hid (rids_c m HM.out w)
  have HL : Hid (lowest m k = ofIds (l.take k.toNat)) := by rw [← hl]; exact rfl
  rw [HL.out]
  rw [hl] at HR HI hlen
  clear hl HL HM
  go_enter Try.func30, Try.ntmps30
  go_wp2_with fail
  refine HR.out.mono ?_
  rintro e w1 ⟨v, rfl, hown, hB⟩
  obtain ⟨A, c, hv⟩ := own_form hown
  subst hv
  go_wp2
  go_loop [5, 7] (fun o i => ∃ j : Nat, j ≤ l.length ∧ j ≤ k.toNat ∧ i = .int .i64 j ∧ o = .int .i64 (ofIds (l.take j))) (fun _ i => l.length - (intOf i).toNat)
  case atStart => exact ⟨0, Nat.zero_le _, Nat.zero_le _, rfl, rfl⟩
  case round =>
    obtain ⟨j, hj1, hj2, rfl, rfl⟩ := hrel
    by_cases h1 : j < l.length
    · by_cases h2 : (j : Int) < k
      · obtain ⟨g, rfl, hc⟩ := own_cell hown j h1
        have HE := Lib.hid (take_next l j h1)
        have hb : l[j] < 10 := HI.out _ (List.getElem_mem h1)
        generalize l[j] = x at *
        go_wp2_with (go_at_call 37; refine (rbit_c x hb _).mono ?_; rintro e w' ⟨rfl, rfl⟩)
        go_round
        case rel => exact ⟨j + 1, by omega, by omega, by go_num, by rw [HE.out]⟩
        case measure => simp [intOf]; omega
      · have h2' : decide ((j : Int) < k) = false := by simpa using h2
        go_wp2
        go_ret
        have e : j = k.toNat := by omega
        exact ⟨ret_int (by rw [e]), hB⟩
    · go_wp2
      go_ret
      have e : l.take j = l.take k.toNat := by rw [List.take_of_length_le (by omega), List.take_of_length_le (by omega)]
      exact ⟨ret_int (by rw [e]), hB⟩
theorem mb_sel (v g : Int) (i : Nat) (hi : i < 64) : mb (selMask v g) i = (decide (i < (min (max v 0) 10).toNat) && !mb g i) := by
  unfold selMask; rw [mb_andNot, mb_pow_sub _ i hi]
theorem ids_sel (v g : Int) (n : Nat) (hn : (min (max v 0) 10).toNat = n) : ids (selMask v g) = idsN (selMask v g) n := by
  have h10 : n ≤ 10 := by omega
  unfold ids idsN
  have e : List.range 10 = List.range n ++ (List.range (10 - n)).map (n + ·) := by
    rw [← List.range_add]; congr 1; omega
  rw [e, List.filter_append]
  have h0 : ((List.range (10 - n)).map (n + ·)).filter (mb (selMask v g)) = [] := by
    rw [List.filter_eq_nil_iff]
    intro a ha
    simp at ha
    obtain ⟨b, hb, rfl⟩ := ha
    rw [mb_sel v g _ (by omega)]
    simp; omega
  rw [h0]; simp
theorem size_ofIds_take (M : Int) (j : Nat) (hj : j ≤ 10) (k : Nat) : size (ofIds ((idsN M j).take k)) = min k (idsN M j).length := by
  have hsub : ((idsN M j).take k).Sublist (ids M) := by
    refine (List.take_sublist k _).trans ?_
    unfold idsN ids
    exact (List.range_sublist.2 hj).filter _
  unfold size
  rw [ids_ofIds_sub hsub, List.length_take]
/-- One step of the reference's Select. -/
theorem sel_skip (M : Int) (j : Nat) (hb : mb M j = false) (k : Nat) : ofIds ((idsN M (j + 1)).take k) = ofIds ((idsN M j).take k) := by
  unfold idsN; rw [idsN_miss M j hb]
theorem sel_full (M : Int) (j : Nat) (hb : mb M j = true) (k : Nat) (hk : k ≤ (idsN M j).length) : ofIds ((idsN M (j + 1)).take k) = ofIds ((idsN M j).take k) := by
  have e : idsN M (j + 1) = idsN M j ++ [j] := idsN_hit M j hb
  rw [e, List.take_append_of_le_length hk]
theorem sel_more (M : Int) (j : Nat) (hb : mb M j = true) (k : Nat) (hk : (idsN M j).length < k) : ofIds ((idsN M (j + 1)).take k) = bits .or .i64 (ofIds ((idsN M j).take k)) (2 ^ j) := by
  have e : idsN M (j + 1) = idsN M j ++ [j] := idsN_hit M j hb
  rw [e, List.take_of_length_le (by simp; omega), List.take_of_length_le (l := idsN M j) (by omega), ofIds_snoc]
set_option maxRecDepth 100000 in
set_option maxHeartbeats 2000000 in
theorem rselect_c (v s g : Int) (hg : W64 g) (w : World) :
    Calls Try.prog 21 #[.int .i64 v, .int .i64 s, .int .i64 g] w fun e w' => e = .returned (.int .i64 (select v s g)) ∧ Below w.heap.size w w' := by
  obtain ⟨n, hn⟩ : ∃ n, (min (max v 0) 10).toNat = n := ⟨_, rfl⟩
  have hn10 : n ≤ 10 := by omega
  have hnv : (n : Int) = min (max v 0) 10 := by omega
  have HS : Hid (select v s g = ofIds ((idsN (selMask v g) n).take s.toNat)) := by
    show select v s g = _
    unfold select lowest; rw [ids_sel v g n hn]
  have HB : Hid (∀ i, i < 64 → mb (selMask v g) i = (decide (i < n) && !mb g i)) := by
    show ∀ i, i < 64 → mb (selMask v g) i = (decide (i < n) && !mb g i)
    intro i hi; rw [mb_sel v g i hi, hn]
  rw [HS.out]
  clear HS hn
  have HG := Lib.hid hg
  clear hg
  have HV := Lib.hid hnv
  have hnv1 : (n : Int) ≤ 10 := by omega
  have hv1 : ∀ j : Nat, j < n → (j : Int) < v := by intro j hj; omega
  have hv2 : ∀ j : Nat, n ≤ j → j < 10 → ¬ (j : Int) < v := by intro j hj; omega
  have HV1 := Lib.hid hv1
  have HV2 := Lib.hid hv2
  clear hnv hv1 hv2
  generalize selMask v g = M at *
  go_enter Try.func21, Try.ntmps21
  go_wp2
  go_loopw [7, 8] (fun o i wr => ∃ j : Nat, j ≤ n ∧ i = .int .i64 j ∧ o = .int .i64 (ofIds ((idsN M j).take s.toNat)) ∧ Below w.heap.size w wr) (fun _ i _ => n - (intOf i).toNat)
  case atStart => exact ⟨0, Nat.zero_le _, rfl, by simp [idsN, ofIds], Below.refl _ _⟩
  case round =>
    obtain ⟨j, hj, rfl, rfl, hB⟩ := hrel
    by_cases h1 : j < n
    · have hjv : (j : Int) < v := HV1.out j h1
      have hj10 : (j : Int) < 10 := by omega
      have hmb := HB.out j (by omega)
      by_cases h2 : mb g j = true
      · have hH := rhas_c g (j : Int) wr HG.out
        rw [hasB_nat g j (by omega), h2] at hH
        have HH := Lib.hid hH
        have HE := Lib.hid (sel_skip M j (by rw [hmb, h2]; simp) s.toNat)
        clear hH hmb h2
        go_wp2_with (go_at_call 24; refine HH.out.mono ?_; rintro e w' ⟨rfl, rfl⟩)
        go_roundw
        case rel => exact ⟨j + 1, by omega, by go_num, by rw [HE.out], hB⟩
        case measure => simp [intOf]; omega
      · have h2' : mb g j = false := by simpa using h2
        have hH := rhas_c g (j : Int) wr HG.out
        rw [hasB_nat g j (by omega), h2'] at hH
        have HH := Lib.hid hH
        have hM : mb M j = true := by rw [hmb, h2']; simp [h1]
        have hZ := rsize_c (ofIds ((idsN M j).take s.toNat)) (w64_ofIds _) wr
        rw [size_ofIds_take M j (by omega)] at hZ
        by_cases h3 : (idsN M j).length < s.toNat
        · have hz : min s.toNat (idsN M j).length = (idsN M j).length := by omega
          rw [hz] at hZ
          have HZ := Lib.hid hZ
          have HE := Lib.hid (sel_more M j hM s.toNat h3)
          have h3' : (((idsN M j).length : Nat) : Int) < s := by omega
          clear hZ hH hmb h2 h2' hM hz h3
          generalize ofIds ((idsN M j).take s.toNat) = o at *
          generalize (idsN M j).length = L at *
          go_wp2_with (first
            | (go_at_call 24; refine HH.out.mono ?_; rintro e w' ⟨rfl, rfl⟩)
            | (go_at_call 25; refine HZ.out.mono ?_; rintro e w1 ⟨rfl, hb1⟩)
            | (go_at_call 37; refine (rbit_c j (by omega) _).mono ?_; rintro e w' ⟨rfl, rfl⟩))
          go_roundw
          case rel => exact ⟨j + 1, by omega, by go_num, by rw [HE.out], hB.trans (hb1.mono hB.size)⟩
          case measure => simp [intOf]; omega
        · have hz : min s.toNat (idsN M j).length = s.toNat := by omega
          rw [hz] at hZ
          have HZ := Lib.hid hZ
          have HE := Lib.hid (sel_full M j hM s.toNat (by omega))
          have h3' : decide ((((s.toNat : Nat) : Int)) < s) = false := by simp; omega
          clear hZ hH hmb h2 h2' hM hz h3
          generalize ofIds ((idsN M j).take s.toNat) = o at *
          go_wp2_with (first
            | (go_at_call 24; refine HH.out.mono ?_; rintro e w' ⟨rfl, rfl⟩)
            | (go_at_call 25; refine HZ.out.mono ?_; rintro e w1 ⟨rfl, hb1⟩))
          go_roundw
          case rel => exact ⟨j + 1, by omega, by go_num, by rw [HE.out], hB.trans (hb1.mono hB.size)⟩
          case measure => simp [intOf]; omega
    · obtain rfl : j = n := by omega
      by_cases h9 : j < 10
      · have hjv : decide ((j : Int) < v) = false := by simpa using HV2.out j (Nat.le_refl _) h9
        go_wp2
        go_ret
        exact ⟨rfl, hB⟩
      · have hj10 : decide ((j : Int) < 10) = false := by simp; omega
        go_wp2
        all_goals
          go_ret
          exact ⟨rfl, hB⟩
end Go.Proofs.Yteejjjlheacamaa
