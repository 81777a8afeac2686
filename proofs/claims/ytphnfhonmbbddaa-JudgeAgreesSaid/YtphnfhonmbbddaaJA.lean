/- Law 14: JudgeAgrees, walked. -/
import Derived.Test.YtphnfhonmbbddaaJF
import Derived.Test.YtphnfhonmbbddaaVo
import Derived.Test.YtphnfhonmbbddaaOut
namespace Go.Proofs.Ytphnfhonmbbddaa
open Go Go.RowKit
set_option linter.unusedVariables false

theorem nS_le4 {x : Int} (h0 : 0 ≤ x) (h4 : x < 4) : 1 ≤ nS x ∧ nS x ≤ 4 := by
  have e : IntKind.u64.wrap x = x % 18446744073709551616 := by kernel_rfl
  unfold nS
  rw [e]
  omega
theorem kS_le2 {x : Int} (h0 : 0 ≤ x) (h4 : x < 2) : 1 ≤ kS x ∧ kS x ≤ 2 := by
  have e : IntKind.u64.wrap x = x % 18446744073709551616 := by kernel_rfl
  unfold kS
  rw [e]
  omega
theorem all_eq {n N2 : Nat} (h : N2 = 2 ^ n) : (N2 : Int) - 1 = allM n := by
  unfold allM
  rw [h, Int.natCast_pow]; rfl
theorem vot_sup {P C : List (List Int)} {n k : Nat} (h7 : n ≤ 7) : ∀ u ∈ votV P C n k, W64 u.support := fun u hu => by
  have small : ∀ s : Nat, s < 2 ^ n → W64 (s : Int) := fun s hs => by
    have : 2 ^ n ≤ 2 ^ 7 := Nat.pow_le_pow_right (by decide) h7
    unfold W64
    omega
  have z : W64 0 := ⟨by decide, by decide⟩
  rcases mem_vot.1 hu with rfl | ⟨m, _, rfl⟩ | ⟨r, m, c, s, _, _, _, hs, _, h⟩
  · exact z
  · exact z
  · rcases h with ⟨_, _, rfl⟩ | ⟨_, rfl⟩
    · show W64 (spV r c s)
      unfold spV
      cases ((r == 0) && (c == 0)) with
      | true => exact z
      | false => exact small s hs
    · exact small s hs
theorem vot_len {P C : List (List Int)} {n k : Nat} (h4 : n ≤ 4) (h2 : k ≤ 2) : (votV P C n k).length ≤ 1000 := by
  have h1 := flat_len (l := List.range k) (f := vtR P C n (quorum (n : Int))) (m := 384) fun r _ => by
    have := vtR_len (P := P) (C := C) (n := n) (quorum (n : Int)) r
    have h : n = 0 ∨ n = 1 ∨ n = 2 ∨ n = 3 ∨ n = 4 := by omega
    rcases h with rfl | rfl | rfl | rfl | rfl <;> omega
  rw [List.length_range] at h1
  unfold votV votL
  simp only [List.length_append, List.length_map, List.length_range, List.length_singleton]
  omega
theorem no_third {c : Int} (h : c = 0 ∨ c = 1) : ((decide (c < 0)) || (decide (1 < c))) = false := by
  rcases h with rfl | rfl <;> decide
theorem got_bk {l : List Oc} {j jc d : Nat} {g : Bool} (hj : j < l.length) (hc : l[j].choice = (jc : Int)) (hg : g = (l.take j).any (fun o => o.choice == (d : Int))) : ((jc == d) || g) = (l.take (j + 1)).any (fun o => o.choice == (d : Int)) := by
  rw [List.take_succ_eq_append_getElem hj, List.any_append, ← hg]
  have e : ([l[j]].any fun o => o.choice == (d : Int)) = (jc == d) := by
    rw [List.any_cons, List.any_nil, Bool.or_false, hc, Bool.eq_iff_iff, beq_iff_eq, beq_iff_eq]; omega
  rw [e, Bool.or_comm]
theorem got_end {l : List Oc} {j : Nat} {g0 g1 d1 d2 : Bool} (h1 : l.any (fun o => o.choice == 0) = d1) (h2 : l.any (fun o => o.choice == 1) = d2) (hg0 : g0 = (l.take j).any (fun o => o.choice == ((0 : Nat) : Int))) (hg1 : g1 = (l.take j).any (fun o => o.choice == ((1 : Nat) : Int))) (hj : l.length ≤ j) : (((d1 == g0) && (d2 == g1)) && true) = true := by
  rw [List.take_of_length_le hj] at hg0 hg1
  have e0 : g0 = d1 := hg0.trans h1
  have e1 : g1 = d2 := hg1.trans h2
  rw [e0, e1]; simp

set_option maxRecDepth 100000 in
set_option maxHeartbeats 2000000 in
theorem JudgeAgrees_c (a0 a1 : Int) (tape : List Int) (At : Option Addr) (ct : Nat) (w : World) (hr : Rd w At tape) (hl : tape.length ≤ maxLen) : Calls Try.prog 12 #[.int .i64 a0, .int .i64 a1, .slice At tape.length ct] w (fun rr w' => rr = .returned (.bool true) ∧ Below w.heap.size w w') := by
 refine calls_W (n := 81) Try.func12 rfl [(0, .int .i64 a0), (1, .int .i64 a1), (2, .slice At tape.length ct)] rfl ⟨by kernel_rfl, by kernel_rfl⟩ (W.weak (Ψ := St w []) (fun w' h => by rw [h]; exact St.start w) (W.seq (W.rg od1 (T.pb 6 false (T.nil (QN.seq (W.seq (W.rg od12 (T.pi 14 a0 (T.pu 15 (.int .u64 (IntKind.u64.wrap a0)) ?_))))))))))
 have hu0 := u64_rng a0
 obtain ⟨x4, hx4⟩ : ∃ z : Int, z = (IntKind.u64.wrap a0) % 4 := ⟨_, rfl⟩
 have hx4b : 0 ≤ x4 ∧ x4 < 4 := by rw [hx4]; exact mod_rng (by decide) (by decide)
 refine T.pe 16 (.int .u64 ((IntKind.u64.wrap a0).tmod 4)) (.int .u64 x4) (by rw [hx4]; exact rem_intK (by omega)) (T.pw 17 x4 (T.pi 18 a1 (T.pu 19 (.int .u64 (IntKind.u64.wrap a1)) ?_)))
 have hu1 := u64_rng a1
 obtain ⟨x2, hx2⟩ : ∃ z : Int, z = (IntKind.u64.wrap a1) % 2 := ⟨_, rfl⟩
 have hx2b : 0 ≤ x2 ∧ x2 < 2 := by rw [hx2]; exact mod_rng (by decide) (by decide)
 refine T.pe 20 (.int .u64 ((IntKind.u64.wrap a1).tmod 2)) (.int .u64 x2) (by rw [hx2]; exact rem_intK (by omega)) (T.pw 21 x2 (T.pu 22 (.slice At tape.length ct) (T.callG (β := Tb × List (Nat × Obj)) 23 23 #[.int .i64 x4, .int .i64 x2, .slice At tape.length ct] (fun gs => .agg gs.1.cs) (fun gs => St w (gs.2 ++ [])) (fun gs => gs.1.P = shP tape (nS x4) (kS x2) ∧ gs.1.C = shC tape (nS x4) (kS x2) ∧ TbLen gs.1 ∧ TbOwn gs.1 gs.2) (by kernel_rfl) (by kernel_rfl) ent23 ?_ tv3 ?_)))
 · exact fun w hw => (shape_t x4 x2 tape At ct w (Arr.rd (Rd.arr hr _) hw) hl).mono fun r w' ⟨tb, Ht, h1, h2, h3, h4, h5, h6⟩ => ⟨(tb, Ht), ⟨h2, h3, h4, h5⟩, h1, hw.join h6⟩
 rintro ⟨tb1, Ht2⟩ hp_
 have hp3 : tb1.P = shP tape (nS x4) (kS x2) ∧ tb1.C = shC tape (nS x4) (kS x2) ∧ TbLen tb1 ∧ TbOwn tb1 Ht2 := hp_
 refine T.al 7 24 Tb.zero.cs tv3 (fun b4 => T.sp 24 b4 0 (.agg tb1.cs) Tb.zero.cs tb1.cs 24 pm0 tv2 (T.nil (QN.seq (W.seq (W.rg od6 ?_)))))
 obtain ⟨n, hn⟩ : ∃ n : Nat, n = nS x4 := ⟨_, rfl⟩
 obtain ⟨k, hk⟩ : ∃ k : Nat, k = kS x2 := ⟨_, rfl⟩
 have hn4 : 1 ≤ n ∧ n ≤ 4 := by rw [hn]; exact nS_le4 hx4b.1 hx4b.2
 have hk2 : 1 ≤ k ∧ k ≤ 2 := by rw [hk]; exact kS_le2 hx2b.1 hx2b.2
 have hPs : tb1.P = shP tape n k := by rw [hn, hk]; exact hp3.1
 have hCs : tb1.C = shC tape n k := by rw [hn, hk]; exact hp3.2.1
 have hp0 : 0 < tb1.pre.length := sh_pos hPs hk2.1
 have hln := sh_n hPs hk2.1 hp0
 have hvf : VF tb1.P tb1.C n k := by have := VF.of (valid_sh hPs hCs hn4.1 (by omega) hk2.1 (by omega)); rw [hPs, sh_len0 hk2.1, show (shP tape n k).length = k by simp [shP]] at this; rw [hPs]; exact this
 obtain ⟨N2, hN2⟩ : ∃ x : Nat, x = 2 ^ n := ⟨_, rfl⟩
 have hN16 : N2 ≤ 16 := by rw [hN2]; exact Nat.pow_le_pow_right (by decide) hn4.2
 have hN1 : 1 ≤ N2 := by rw [hN2]; exact Nat.one_le_two_pow
 refine T.pu 24 (.pointer (some ⟨b4, 0, none⟩)) (T.ld false 25 (.slice tb1.A1 tb1.pre.length tb1.c1) 22 b4 0 (fun w h => St.cellM h mm0 (by kernel_rfl)) ?_)
 obtain ⟨b5, o6, hA7, hr8⟩ := (show Arr (St w ((b4, Obj.cells tb1.cs 24 (0, 0)) :: (Ht2 ++ []))) tb1.A1 tb1.pre from (hp3.2.2.2 w []).1.weak (fun w h => (h.perm ((pm0.cons _).trans List.perm_middle.symm)).part (List.Sublist.append (List.Sublist.refl _) (List.nil_sublist _)))) 0 hp0
 refine T.ix 26 22 45 1 tb1.A1 tb1.pre.length tb1.c1 0 0 b5 o6 hA7 (by first | rfl | omega) (by omega) (T.ld false 27 (.slice (((tb1.pre)[0]'hp0).A) (((tb1.pre)[0]'hp0).l.length) (((tb1.pre)[0]'hp0).c)) 45 b5 (o6 + 0 * 1) (fun w h => cell_of_range (hr8 w h) 0 (by kernel_rfl)) (T.pe 28 (.int .i64 ((((tb1.pre)[0]'hp0).l.length : Nat) : Int)) (.int .i64 n) (by rw [hln]) (T.pi 8 n (T.nil (QN.seq (W.seq (W.rg od9 (T.pi 29 n (T.pe 30 (.int .u64 (IntKind.u64.wrap (n : Int))) (.int .u64 (n : Int)) (wrapu_int (by omega) (by omega)) (T.shl 31 .i64 .u64 1 (n : Int) (.int .i64 N2) (by kernel_rfl) (by kernel_rfl) (by omega) ((shl_one (by omega) (by omega)).trans (two_nat hN2)) (T.pe 32 (.int .i64 (IntKind.i64.wrap ((N2 : Int) - 1))) (.int .i64 (allM n)) ((wrap_int (by omega) (by omega)).trans (int_eq (all_eq hN2))) ?_)))))))))))
 have hMw : W64 (allM n) := by rw [← all_eq hN2]; unfold W64; omega
 refine T.pu 33 (.agg Nm.zero.cs) (T.lr false 34 tb1.cs 24 b4 0 (fun w h => St.rangeM h tb1.cs mm0 (by kernel_rfl)) (T.callR 35 36 #[.agg tb1.cs] 68 22 (votV tb1.P tb1.C n k).length (cells (votV tb1.P tb1.C n k)) (by kernel_rfl) (by kernel_rfl) ent36 (fun w hw => votes_c tb1 n k w (TbOwn.rd hp3.2.2.2 ((hw.perm ((pm0.cons _).trans List.perm_middle.symm)).part (List.Sublist.append (List.Sublist.refl _) (List.nil_sublist _)))) hvf (by omega) (by omega)) tv3 (fun A9 c10 Hr11 hrow12 => ?_)))
 have hvl : (votV tb1.P tb1.C n k).length ≤ 1000 := vot_len hn4.2 hk2.2
 refine T.callR 36 28 #[.int .i64 (allM n), .agg Nm.zero.cs, .slice A9 ((votV tb1.P tb1.C n k).length) c10, .int .i64 0] 63 11 (outV (allM n) Nm.zero (votV tb1.P tb1.C n k) 0).length (cells (outV (allM n) Nm.zero (votV tb1.P tb1.C n k) 0)) (by kernel_rfl) (by kernel_rfl) ent28 (fun w hw => outcomes_c (allM n) Nm.zero (votV tb1.P tb1.C n k) 0 A9 c10 w (by first | assumption | exact w64_and _ _ | exact w64_or _ _ | exact w64_andNot _ _ | (unfold W64; omega)) (vot_sup hvf.n7) (by first | omega | (simp; done) | (simp; omega)) (Arr.rd (Arr.row hrow12 rfl rfl _) hw)) tv3 (fun A13 c14 Hr15 hrow16 => T.pu 9 (.slice A13 ((outV (allM n) Nm.zero (votV tb1.P tb1.C n k) 0).length) c14) (T.nil (QN.seq (W.seq (W.rg od1 (T.al 10 74 #[.bool false, .bool false] tv3 (fun b17 => T.nil (QN.seq (W.seq (W.seq (W.rg od1 (T.pi 11 0 (T.nil (QN.seq (W.block ?_)))))))))))))))
 obtain ⟨ou, hou⟩ : ∃ o : List Oc, o = outV (allM n) Nm.zero (votV tb1.P tb1.C n k) 0 := ⟨_, rfl⟩
 have hlaw := agrees_law hvf
 rw [← hou] at hlaw hrow16
 have hol : ou.length ≤ 1000 := by rw [hou]; exact Nat.le_trans (outV_len _ _ _ _) hvl
 rw [← hou]
 refine W.loop (σ := Nat × Bool × Bool) (fun gs => gs.1 ≤ ou.length ∧ gs.2.1 = (ou.take gs.1).any (fun o => o.choice == ((0 : Nat) : Int)) ∧ gs.2.2 = (ou.take gs.1).any (fun o => o.choice == ((1 : Nat) : Int))) (fun gs => [(7, .pointer (some ⟨b4, 0, none⟩)), (9, .slice A13 (ou.length) c14), (10, .pointer (some ⟨b17, 0, none⟩)), (11, .int .i64 (gs.1 : Int))]) (fun gs => St w ((b17, Obj.cells #[.bool gs.2.1, .bool gs.2.2] 74 (0, 0)) :: (Hr15 ++ (Hr11 ++ ((b4, Obj.cells tb1.cs 24 (0, 0)) :: (Ht2 ++ [])))))) (fun gs => ou.length - gs.1) (0, false, false) ?_ (by kernel_rfl) (fun w h => h) ?_
 ·
  try dsimp only
  exact ⟨Nat.zero_le _, rfl, rfl⟩
 rintro ⟨j, g0, g1⟩ hI_
 obtain ⟨hj, hg0, hg1⟩ : j ≤ ou.length ∧ g0 = (ou.take j).any (fun o => o.choice == ((0 : Nat) : Int)) ∧ g1 = (ou.take j).any (fun o => o.choice == ((1 : Nat) : Int)) := hI_
 refine W.seq (W.seq (W.rg od4 (T.pi 37 j (T.pu 38 (.slice A13 (ou.length) c14) (T.pi 39 ((ou.length : Nat) : Int) (T.pb 40 (decide ((j : Int) < ((ou.length : Nat) : Int))) (T.nil (QN.seq (W.cd (decide ((j : Int) < ((ou.length : Nat) : Int))) (fun h18 => ?_) (fun h18 => ?_))))))))))
 ·
  have h18' := of_decide_eq_true h18
  have hl19 : j < ou.length := by omega
  refine W.skip (QN.seq (W.seq (W.block (W.seq (W.seq (W.rg od14 ?_))))))
  have hjl : j < ou.length := by omega
  have hch := hlaw.1 _ (List.getElem_mem hjl)
  refine T.pu 43 (.slice A13 (ou.length) c14) (T.pi 44 j ?_)
  obtain ⟨b20, o21, hA22, hr23⟩ := (show Arr (St _ ((b17, Obj.cells #[.bool g0, .bool g1] 74 (0, 0)) :: (Hr15 ++ (Hr11 ++ ((b4, Obj.cells tb1.cs 24 (0, 0)) :: (Ht2 ++ [])))))) A13 ou from (Arr.row hrow16 rfl rfl ((b17, Obj.cells #[.bool g0, .bool g1] 74 (0, 0)) :: (Hr11 ++ ((b4, Obj.cells tb1.cs 24 (0, 0)) :: (Ht2 ++ []))))).weak (fun w h => h.perm ((pm0.cons _).trans List.perm_middle.symm))) j hjl
  refine T.ix 45 57 63 11 A13 (ou.length) c14 (j : Int) j b20 o21 hA22 rfl (by omega) (T.pu 46 (.pointer (some ⟨b20, o21 + j * 11 + 2, none⟩)) (T.ld false 47 (.int .i64 ((ou[j]'hjl).choice)) 3 b20 (o21 + j * 11 + 2) (fun w h => cell_of_range (hr23 w h) 2 (by kernel_rfl)) (T.pb 48 (decide (((ou[j]'hjl).choice) < 0)) (T.pb 49 (decide (((ou[j]'hjl).choice) < 0)) (T.bk [(7, false), (8, false), (9, false), (10, false), (11, false), (12, false)] [(13, false)] 6 false (decide (((ou[j]'hjl).choice) < 0)) 49 55 (.bool (decide (1 < ((ou[j]'hjl).choice)))) (fun hg24 => ?_) ?_)))))
  ·
   have hg24_ := hg24
   have hg24' := of_decide_eq_false hg24
   refine T.pu 50 (.slice A13 (ou.length) c14) (T.pi 51 j ?_)
   obtain ⟨b25, o26, hA27, hr28⟩ := (show Arr (St _ ((b17, Obj.cells #[.bool g0, .bool g1] 74 (0, 0)) :: (Hr15 ++ (Hr11 ++ ((b4, Obj.cells tb1.cs 24 (0, 0)) :: (Ht2 ++ [])))))) A13 ou from (Arr.row hrow16 rfl rfl ((b17, Obj.cells #[.bool g0, .bool g1] 74 (0, 0)) :: (Hr11 ++ ((b4, Obj.cells tb1.cs 24 (0, 0)) :: (Ht2 ++ []))))).weak (fun w h => h.perm ((pm0.cons _).trans List.perm_middle.symm))) j hjl
   refine T.ix 52 57 63 11 A13 (ou.length) c14 (j : Int) j b25 o26 hA27 rfl (by omega) (T.pu 53 (.pointer (some ⟨b25, o26 + j * 11 + 2, none⟩)) (T.ld false 54 (.int .i64 ((ou[j]'hjl).choice)) 3 b25 (o26 + j * 11 + 2) (fun w h => cell_of_range (hr28 w h) 2 (by kernel_rfl)) (T.pb 55 (decide (1 < ((ou[j]'hjl).choice))) ?_)))
   exact T.blkEnd (by kernel_rfl) (fun w h => h)
  refine T.oo 56 (decide (((ou[j]'hjl).choice) < 0)) (decide (1 < ((ou[j]'hjl).choice))) (T.nil (QN.seq (W.cd ((decide (((ou[j]'hjl).choice) < 0)) || (decide (1 < ((ou[j]'hjl).choice)))) (fun h29 => ?_) (fun h29 => ?_))))
  ·
   refine W.seq (W.rg od1 (T.pb 6 false (T.nil (QN.seq (W.ret (QN.thenRet (QN.blkRet (QN.thenRet (QN.thenRet (QN.blkRet (QN.thenRet (QN.done (.inl rfl) 6 (.bool false) rfl (by kernel_rfl) (fun w hw => ⟨?_, hw.below⟩)))))))))))))
   exact absurd h29 (by rw [no_third hch]; decide)
  ·
   have h29l := (Bool.or_eq_false_iff.1 h29).1
   have h29r := (Bool.or_eq_false_iff.1 h29).2
   have h29l' := of_decide_eq_false h29l
   have h29r' := of_decide_eq_false h29r
   refine W.skip (QN.seq (W.rg od7 (T.pu 57 (.slice A13 (ou.length) c14) (T.pi 58 j ?_))))
   obtain ⟨b30, o31, hA32, hr33⟩ := (show Arr (St _ ((b17, Obj.cells #[.bool g0, .bool g1] 74 (0, 0)) :: (Hr15 ++ (Hr11 ++ ((b4, Obj.cells tb1.cs 24 (0, 0)) :: (Ht2 ++ [])))))) A13 ou from (Arr.row hrow16 rfl rfl ((b17, Obj.cells #[.bool g0, .bool g1] 74 (0, 0)) :: (Hr11 ++ ((b4, Obj.cells tb1.cs 24 (0, 0)) :: (Ht2 ++ []))))).weak (fun w h => h.perm ((pm0.cons _).trans List.perm_middle.symm))) j hjl
   refine T.ix 59 57 63 11 A13 (ou.length) c14 (j : Int) j b30 o31 hA32 rfl (by omega) (T.pu 60 (.pointer (some ⟨b30, o31 + j * 11 + 2, none⟩)) (T.ld false 61 (.int .i64 ((ou[j]'hjl).choice)) 3 b30 (o31 + j * 11 + 2) (fun w h => cell_of_range (hr33 w h) 2 (by kernel_rfl)) ?_))
   obtain ⟨jc, hjc⟩ : ∃ jc : Nat, (ou[j]'hjl).choice = (jc : Int) := ⟨((ou[j]'hjl).choice).toNat, by omega⟩
   have hjcb : jc = 0 ∨ jc = 1 := by omega
   rw [hjc]
   refine T.pure 62 (.pointer (some ⟨b17, jc, none⟩)) (by kernel_rfl) (fun w => by rcases hjcb with h | h <;> (subst h; kernel_rfl)) (T.storeP 4 b17 jc (.bool true) #[.bool g0, .bool g1] #[.bool ((jc == 0) || g0), .bool ((jc == 1) || g1)] 74 (by kernel_rfl) (by kernel_rfl) (by kernel_rfl) (by kernel_rfl) (by rcases hjcb with h | h <;> (subst h; kernel_rfl)) (by rcases hjcb with h | h <;> (subst h; kernel_rfl)) pm0 tv2 (T.nil (QN.blkNormal (QN.seq (W.rg od3 (T.pi 41 j (T.pw 42 ((j : Int) + 1) (T.pi 11 ((j : Int) + 1) (T.nil (QN.back (j + 1, (jc == 0) || g0, (jc == 1) || g1) ?_ ?_ (by kernel_rfl) (fun w h => h)))))))))))
   ·
    try dsimp only
    exact ⟨by omega, got_bk (d := 0) hjl hjc hg0, got_bk (d := 1) hjl hjc hg1⟩
   · show ou.length - _ < ou.length - _; omega
 ·
  have h18' := of_decide_eq_false h18
  refine W.exit (QN.thenExit (QN.thenExit (QN.blkHit (QN.seq (W.seq (W.rg od7 (T.lr false 64 tb1.cs 24 b4 0 (fun w h => St.rangeM h tb1.cs (.tail _ (List.mem_append_right _ (List.mem_append_right _ mm0))) (by kernel_rfl)) (T.cp 65 13 #[.agg tb1.cs] (.tuple #[.bool ((decV tb1.P tb1.C).1), .bool ((decV tb1.P tb1.C).2)]) ent13 (fun w hw => jdec_c tb1 w (TbOwn.rd hp3.2.2.2 ((hw.perm ((((((((pm0.cons _).trans List.perm_middle.symm).append_left Hr11).trans (List.perm_append_comm_assoc _ _ _)).append_left Hr15).trans (List.perm_append_comm_assoc _ _ _)).cons _).trans List.perm_middle.symm)).part (List.Sublist.append (List.Sublist.refl _) (List.nil_sublist _)))) hp3.2.2.1) tv2 (T.pu 63 (.tuple #[.bool ((decV tb1.P tb1.C).1), .bool ((decV tb1.P tb1.C).2)]) (T.pb 66 ((decV tb1.P tb1.C).1) (T.pb 67 ((decV tb1.P tb1.C).2) (T.pb 12 ((decV tb1.P tb1.C).1) (T.pb 13 ((decV tb1.P tb1.C).2) (T.nil (QN.seq (W.seq (W.rg od14 (T.pb 68 ((decV tb1.P tb1.C).1) (T.pu 69 (.pointer (some ⟨b17, 0, none⟩)) (T.ld false 70 (.bool g0) 4 b17 0 (fun w h => St.cellM h mm0 (by kernel_rfl)) (T.pb 71 (((decV tb1.P tb1.C).1) == g0) (T.pb 72 (((decV tb1.P tb1.C).1) == g0) (T.bk [(5, false), (6, false), (7, false), (8, false)] [(9, false), (10, false), (11, false), (12, false), (13, false)] 4 true (((decV tb1.P tb1.C).1) == g0) 72 76 (.bool (((decV tb1.P tb1.C).2) == g1)) (fun hg34 => ?_) ?_)))))))))))))))))))))))
  ·
   have hg34_ := hg34
   refine T.pb 73 ((decV tb1.P tb1.C).2) (T.pu 74 (.pointer (some ⟨b17, 1, none⟩)) (T.ld false 75 (.bool g1) 4 b17 1 (fun w h => St.cellM h mm0 (by kernel_rfl)) (T.pb 76 (((decV tb1.P tb1.C).2) == g1) ?_)))
   exact T.blkEnd (by kernel_rfl) (fun w h => h)
  refine T.an 77 (((decV tb1.P tb1.C).1) == g0) (((decV tb1.P tb1.C).2) == g1) (T.pb 78 ((((decV tb1.P tb1.C).1) == g0) && (((decV tb1.P tb1.C).2) == g1)) (T.bk [(11, false)] [(12, false), (13, false)] 10 true ((((decV tb1.P tb1.C).1) == g0) && (((decV tb1.P tb1.C).2) == g1)) 78 79 (.bool true) (fun hg35 => ?_) ?_))
  ·
   have hg35_ := hg35
   have hg35l := (Bool.and_eq_true_iff.1 hg35).1
   have hg35r := (Bool.and_eq_true_iff.1 hg35).2
   refine T.cp 79 20 #[] (.bool true) ent20 (fun w hw => awake14_c w) tv2 ?_
   exact T.blkEnd (by kernel_rfl) (fun w h => h)
  refine T.an 80 ((((decV tb1.P tb1.C).1) == g0) && (((decV tb1.P tb1.C).2) == g1)) true (T.pb 6 (((((decV tb1.P tb1.C).1) == g0) && (((decV tb1.P tb1.C).2) == g1)) && true) (T.nil (QN.seq (W.ret (QN.done (.inl rfl) 6 (.bool (((((decV tb1.P tb1.C).1) == g0) && (((decV tb1.P tb1.C).2) == g1)) && true)) rfl (by kernel_rfl) (fun w hw => ⟨?_, hw.below⟩))))))
  exact ret_bool (got_end hlaw.2.1 hlaw.2.2 hg0 hg1 (by omega))
theorem JudgeAgrees_w (w : World) (a0 : Int) (a1 : Int) (v2 : Value) (x2 : List Int) (h0 : W64 a0) (h1 : W64 a1) (h2 : GS W64 w v2 x2) : Calls Try.prog 12 #[.int .i64 a0, .int .i64 a1, v2] w fun e w' => e = .returned (.bool true) ∧ Below w.heap.size w w' := by
  obtain ⟨A2, c2, rfl, l2, m2, r2, k2⟩ := h2
  exact JudgeAgrees_c a0 a1 x2 A2 c2 w r2 (Nat.le_trans l2 m2)
end Go.Proofs.Ytphnfhonmbbddaa
