/- Law 14: votes, walked. -/
import Derived.Test.YtphnfhonmbbddaaJaQ
namespace Go.Proofs.Ytphnfhonmbbddaa
open Go Go.RowKit
set_option linter.unusedVariables false

theorem shr_i {x y : Int} (h0 : 0 ≤ y) (h1 : y < 64) : Value.int .i64 (x.fdiv (2 ^ min y.toNat 64)) = .int .i64 (x / 2 ^ y.toNat) := by
  have hm : min y.toNat 64 = y.toNat := by omega
  rw [hm, Int.fdiv_eq_ediv_of_nonneg _ (Int.le_of_lt (Int.pow_pos (by decide)))]
def vcV (r m c : Nat) : Vt := ⟨0, 0, ((r + 1 : Nat) : Int), (c : Int), (m : Int), 0, Nm.zero, Nm.zero⟩
def vbV (r m c : Nat) (kd su : Int) : Vt := ⟨kd, 0, ((r + 1 : Nat) : Int), (c : Int), (m : Int), su, Nm.zero, valC c⟩
section
variable {P C : List (List Int)} {n k r m c s : Nat} {q : Int} {l l2 : List Vt} {x y : Vt} {t : Tb}
theorem ech_bk (h : l = [proV] ++ (List.range m).map echV) : l ++ [echV m] = [proV] ++ (List.range (m + 1)).map echV := by
  rw [h, List.range_succ, List.map_append, List.append_assoc]; rfl
theorem vt_bk {f : Nat → List Vt} {l0 : List Vt} (h : l = l0 ++ (List.range r).flatMap f) (h2 : l2 = l ++ f r) : l2 = l0 ++ (List.range (r + 1)).flatMap f := by
  rw [h2, h, List.range_succ, List.flatMap_append, List.append_assoc]; simp
theorem va_yes (h : ((c : Int) == 1) = true) : ({ vcV r m c with val := oneN } : Vt) = vbV r m c 0 0 := by
  have : (c : Int) = 1 := eq_of_beq h
  obtain rfl : c = 1 := by omega
  rfl
theorem va_no (h : ((c : Int) == 1) = false) : (vcV r m c : Vt) = vbV r m c 0 0 := by
  have : (c : Int) ≠ 1 := ne_of_beq_false h
  have e : valC c = Nm.zero := if_neg (by omega)
  unfold vcV vbV
  rw [e]
theorem two_nat {N2 : Nat} (h : N2 = 2 ^ n) : Value.int .i64 (2 ^ ((n : Int)).toNat) = .int .i64 (N2 : Int) := by
  rw [h, Int.toNat_natCast, Int.natCast_pow]; rfl
theorem bit_at {x E : Int} (hx : x = E) (h0 : 0 ≤ x) (h7 : x ≤ 7) (hc : c < 64) : Value.bool (bits .and .i64 (x / 2 ^ ((c : Int)).toNat) 1 == 1) = .bool (mb E c) := by
  subst hx
  rw [Int.toNat_natCast, shr_one_eq ⟨by omega, by omega⟩ c hc]
theorem ent_P9 (h : r < t.pre.length) (h2 : m < (t.pre[r]'h).l.length) : (t.pre[r]'h).l[m]'h2 = ent t.P r m := by
  unfold ent
  rw [P_at h, List.getD_eq_getElem?_getD, List.getElem?_eq_getElem h2]; rfl
theorem ent_C9 (h : r < t.com.length) (h2 : m < (t.com[r]'h).l.length) : (t.com[r]'h).l[m]'h2 = ent t.C r m := by
  unfold ent
  rw [C_at h, List.getD_eq_getElem?_getD, List.getElem?_eq_getElem h2]; rfl
theorem vk_none {f : Nat → List Vt} {l0 : List Vt} (e : f s = []) (h : l = l0 ++ (List.range s).flatMap f) : l = l0 ++ (List.range (s + 1)).flatMap f := vt_bk h (by rw [e, List.append_nil])
theorem vk_one {f : Nat → List Vt} {l0 : List Vt} (e : f s = [x]) (h : l = l0 ++ (List.range s).flatMap f) : l ++ [x] = l0 ++ (List.range (s + 1)).flatMap f := vt_bk h (by rw [e])
theorem vk_two {f : Nat → List Vt} {l0 : List Vt} (e : f s = [x, y]) (h : l = l0 ++ (List.range s).flatMap f) : (l ++ [x]) ++ [y] = l0 ++ (List.range (s + 1)).flatMap f := vt_bk h (by rw [e, List.append_assoc]; rfl)
theorem vk_q (h : ((size (s : Int) : Int) != q) = true) : vtK P C q r m c s = [] := by unfold vtK; rw [h]; rfl
theorem cne (c : Nat) : ((c : Int) != 2) = (c != 2) := by
  rw [Bool.eq_iff_iff, bne_iff_ne, bne_iff_ne]; omega
theorem sp_yes (h : (((r : Int) == 0) && ((c : Int) == 0)) = true) : spV r c s = 0 := by
  rw [Bool.and_eq_true, beq_iff_eq, beq_iff_eq] at h
  obtain rfl : r = 0 := by omega
  obtain rfl : c = 0 := by omega
  rfl
theorem sp_no (h : (((r : Int) == 0) && ((c : Int) == 0)) = false) : spV r c s = (s : Int) := by
  unfold spV
  have e : ((r == 0) && (c == 0)) = false := by
    rw [← h, Bool.eq_iff_iff, Bool.and_eq_true, Bool.and_eq_true, beq_iff_eq, beq_iff_eq, beq_iff_eq, beq_iff_eq]; omega
  rw [e]; rfl
theorem vk_yy {z : Int} (h : ((size (s : Int) : Int) != q) = false) (h1 : ((mb (ent P r m) c) && ((c : Int) != 2)) = true) (h2 : (mb (ent C r m) c) = true) (hz : spV r c s = z) : vtK P C q r m c s = [pvV r m c z, vbV r m c 4 (s : Int)] := by
  rw [cne] at h1
  unfold vtK; rw [h, h1, h2, hz]; rfl
theorem vk_yn {z : Int} (h : ((size (s : Int) : Int) != q) = false) (h1 : ((mb (ent P r m) c) && ((c : Int) != 2)) = true) (h2 : (mb (ent C r m) c) = false) (hz : spV r c s = z) : vtK P C q r m c s = [pvV r m c z] := by
  rw [cne] at h1
  unfold vtK; rw [h, h1, h2, hz]; rfl
theorem vk_ny (h : ((size (s : Int) : Int) != q) = false) (h1 : ((mb (ent P r m) c) && ((c : Int) != 2)) = false) (h2 : (mb (ent C r m) c) = true) : vtK P C q r m c s = [vbV r m c 4 (s : Int)] := by
  rw [cne] at h1
  unfold vtK; rw [h, h1, h2]; rfl
theorem vk_nn (h : ((size (s : Int) : Int) != q) = false) (h1 : ((mb (ent P r m) c) && ((c : Int) != 2)) = false) (h2 : (mb (ent C r m) c) = false) : vtK P C q r m c s = [] := by
  rw [cne] at h1
  unfold vtK; rw [h, h1, h2]; rfl
end

set_option maxRecDepth 100000 in
set_option maxHeartbeats 2000000 in
theorem votes_c (t : Tb) (n k : Nat) (w : World) (ht : TbRd w t) (hv : VF t.P t.C n k) (h4 : n ≤ 4) (hk2 : k ≤ 2) : Calls Try.prog 36 #[.agg t.cs] w (fun rr w' => ∃ A c Hr, rr = .returned (.slice A (votV t.P t.C n k).length c) ∧ RowIs 68 22 A (votV t.P t.C n k).length c (cells (votV t.P t.C n k)) Hr ∧ St w Hr w') := by
 have h1 := hv.n1
 have hk1 := hv.k1
 have hpl : t.pre.length = k := by rw [← P_len]; exact hv.pl
 have hcl : t.com.length = k := by rw [← C_len]; exact hv.cl
 have hp0 : 0 < t.pre.length := by omega
 have hn0 : (t.pre[0]'hp0).l.length = n := by rw [← P_at hp0]; exact (hv.pr 0 hk1).1
 obtain ⟨N2, hN2⟩ : ∃ x : Nat, x = 2 ^ n := ⟨_, rfl⟩
 have hN16 : N2 ≤ 16 := by rw [hN2]; exact Nat.pow_le_pow_right (by decide) h4
 refine calls_W (n := 123) Try.func36 rfl [(0, .agg t.cs)] rfl ⟨by kernel_rfl, by kernel_rfl⟩ (W.weak (Ψ := St w []) (fun w' h => by rw [h]; exact St.start w) (W.seq (W.rg od2 (T.bx 1 24 (.agg t.cs) (t.cs) tv3 (fun b1 => T.pu 2 (.slice none 0 0) (T.nil (QN.seq (W.seq (W.rg od6 (T.pu 14 (.pointer (some ⟨b1, 0, none⟩)) (T.ld false 15 (.slice t.A1 t.pre.length t.c1) 22 b1 0 (fun w h => St.cellM h mm0 (by kernel_rfl)) ?_)))))))))))
 obtain ⟨b2, o3, hA4, hr5⟩ := (Rd.arr ht.a1 _) 0 hp0
 refine T.ix 16 22 45 1 t.A1 t.pre.length t.c1 0 0 b2 o3 hA4 (by first | rfl | omega) (by omega) (T.ld false 17 (.slice (((t.pre)[0]'hp0).A) (((t.pre)[0]'hp0).l.length) (((t.pre)[0]'hp0).c)) 45 b2 (o3 + 0 * 1) (fun w h => cell_of_range (hr5 w h) 0 (by kernel_rfl)) (T.pe 18 (.int .i64 ((((t.pre)[0]'hp0).l.length : Nat) : Int)) (.int .i64 (n : Int)) (by rw [hn0]) (T.pi 3 n (T.nil (QN.seq (W.seq (W.rg od3 (T.pi 19 n (T.cp 20 24 #[.int .i64 n] (.int .i64 (quorum (n : Int))) ent24 (fun w hw => Ret.same (quorum_c _ w (by unfold W64; omega))) tv2 (T.pi 4 (quorum (n : Int)) (T.nil (QN.seq (W.seq (W.rg od3 (T.pu 21 (.agg oneN.cs) (T.al 5 54 Nm.zero.cs tv3 (fun b6 => T.sp 54 b6 0 (.agg oneN.cs) Nm.zero.cs oneN.cs 54 pm0 tv2 (T.nil (QN.seq (W.seq (W.rg od4 (T.lr false 22 oneN.cs 54 b6 0 (fun w h => St.rangeM h oneN.cs mm0 (by kernel_rfl)) (T.pu 23 (.agg proV.cs) (T.lit 24 55 68 1 #[(0, .agg proV.cs)] (cells ([proV] : List Vt)).toArray (by kernel_rfl) (by kernel_rfl) (by kernel_rfl) (by kernel_rfl) tv3 (fun b7 => T.pu 6 (.slice (some ⟨b7, 0, none⟩) 1 1) (T.nil (QN.seq (W.seq (W.seq (W.rg od1 (T.pi 7 0 (T.nil (QN.seq (W.block (W.loop (σ := Nat × List Vt × Option Addr × Nat × List (Nat × Obj)) (fun gs => gs.1 ≤ n ∧ gs.2.1 = [proV] ++ (List.range gs.1).map echV ∧ RowIs 68 22 gs.2.2.1 gs.2.1.length gs.2.2.2.1 (cells gs.2.1) gs.2.2.2.2) (fun gs => [(1, .pointer (some ⟨b1, 0, none⟩)), (2, .slice none 0 0), (3, .int .i64 n), (4, .int .i64 (quorum (n : Int))), (5, .pointer (some ⟨b6, 0, none⟩)), (6, .slice gs.2.2.1 gs.2.1.length gs.2.2.2.1), (7, .int .i64 (gs.1 : Int))]) (fun gs => St w (gs.2.2.2.2 ++ [(b6, Obj.cells oneN.cs 54 (0, 0)), (b1, Obj.cells t.cs 24 (0, 0))])) (fun gs => n - gs.1) (0, [proV], some ⟨b7, 0, none⟩, 1, [(b7, lstB 68 ([proV] : List Vt))]) ?_ (by kernel_rfl) (fun u h => (show St w ([(b7, lstB 68 ([proV] : List Vt))] ++ [(b6, Obj.cells oneN.cs 54 (0, 0)), (b1, Obj.cells t.cs 24 (0, 0))]) u from h)) ?_)))))))))))))))))))))))))))))))))))
 ·
  try dsimp only
  exact ⟨Nat.zero_le _, rfl, RowIs.ofL _ rfl (by unfold maxLen; decide)⟩
 rintro ⟨m, vs0, Ax, cx, Hx⟩ hI_
 obtain ⟨hm, hvs0, hrowx⟩ : m ≤ n ∧ vs0 = [proV] ++ (List.range m).map echV ∧ RowIs 68 22 Ax vs0.length cx (cells vs0) Hx := hI_
 have hl0 : vs0.length = m + 1 := by rw [hvs0]; simp
 refine W.seq (W.seq (W.rg od3 (T.pi 25 m (T.pi 26 n (T.pb 27 (decide ((m : Int) < (n : Int))) (T.nil (QN.seq (W.cd (decide ((m : Int) < (n : Int))) (fun h8 => ?_) (fun h8 => ?_)))))))))
 ·
  have h8' := of_decide_eq_true h8
  refine W.skip (QN.seq (W.seq (W.block (W.rg od7 (T.pu 30 (.slice Ax vs0.length cx) (T.lr false 31 oneN.cs 54 b6 0 (fun w h => St.rangeM h oneN.cs (List.mem_append_right _ mm0) (by kernel_rfl)) (T.pi 32 m (T.pu 33 (.agg (echV m).cs) (T.lit 34 55 68 1 #[(0, .agg (echV m).cs)] (cells ([echV m] : List Vt)).toArray (by kernel_rfl) (by kernel_rfl) (by kernel_rfl) (by kernel_rfl) tv3 (fun b9 => T.appC 35 55 68 64 Ax cx (vs0 : List Vt) Hx b9 0 1 ([echV m] : List Vt) ((pm0.cons _).trans List.perm_middle.symm) (by kernel_rfl) (by kernel_rfl) (by kernel_rfl) (by kernel_rfl) hrowx (fun w h => St.rangeM h (cells ([echV m] : List Vt)).toArray (List.mem_append_right _ mm0) (by kernel_rfl)) (by unfold maxLen; first | omega | (simp; omega)) (by first | omega | (simp; omega)) tv3 (fun A10 c11 Hr12 hrow13 => T.pu 6 (.slice A10 ((vs0 ++ ([echV m])).length) c11) (T.nil (QN.blkNormal (QN.seq (W.rg od3 (T.pi 28 m (T.pw 29 ((m : Int) + 1) (T.pi 7 ((m : Int) + 1) (T.nil (QN.back (m + 1, vs0 ++ ([echV m]), A10, c11, Hr12) ?_ ?_ (by kernel_rfl) (fun w h => (h.perm (pm0.trans ((pm1.trans (pm1.cons _)).append_left Hr12))).part (List.Sublist.append (List.Sublist.refl _) ns2))))))))))))))))))))))
  ·
   try dsimp only
   exact ⟨by omega, ech_bk hvs0, hrow13⟩
  · show n - _ < n - _; omega
 ·
  have h8' := of_decide_eq_false h8
  refine W.exit (QN.thenExit (QN.thenExit (QN.blkHit (QN.seq (W.seq (W.seq (W.rg od1 (T.pi 8 0 (T.nil (QN.seq (W.block ?_)))))))))))
  have hmn : m = n := by omega
  refine W.loop (σ := Nat × List Vt × Option Addr × Nat × List (Nat × Obj)) (fun gs => gs.1 ≤ k ∧ gs.2.1 = votL n ++ (List.range gs.1).flatMap (vtR t.P t.C n (quorum (n : Int))) ∧ gs.2.1.length ≤ 5 + 384 * gs.1 ∧ RowIs 68 22 gs.2.2.1 gs.2.1.length gs.2.2.2.1 (cells gs.2.1) gs.2.2.2.2) (fun gs => [(1, .pointer (some ⟨b1, 0, none⟩)), (2, .slice none 0 0), (3, .int .i64 n), (4, .int .i64 (quorum (n : Int))), (5, .pointer (some ⟨b6, 0, none⟩)), (6, .slice gs.2.2.1 gs.2.1.length gs.2.2.2.1), (8, .int .i64 (gs.1 : Int))]) (fun gs => St w (gs.2.2.2.2 ++ [(b6, Obj.cells oneN.cs 54 (0, 0)), (b1, Obj.cells t.cs 24 (0, 0))])) (fun gs => k - gs.1) (0, vs0, Ax, cx, Hx) ?_ (by kernel_rfl) (fun w h => h) ?_
  ·
   try dsimp only
   exact ⟨Nat.zero_le _, by rw [hvs0, hmn]; simp [votL], by omega, hrowx⟩
  rintro ⟨r, vs1, Ay, cy, Hy⟩ hI_
  obtain ⟨hr0, hvs1, hl1, hrowy⟩ : r ≤ k ∧ vs1 = votL n ++ (List.range r).flatMap (vtR t.P t.C n (quorum (n : Int))) ∧ vs1.length ≤ 5 + 384 * r ∧ RowIs 68 22 Ay vs1.length cy (cells vs1) Hy := hI_
  refine W.seq (W.seq (W.rg od5 (T.pi 36 r (T.pu 37 (.pointer (some ⟨b1, 0, none⟩)) (T.ld false 38 (.slice t.A1 t.pre.length t.c1) 22 b1 0 (fun w h => St.cellM h (List.mem_append_right _ mm1) (by kernel_rfl)) (T.pi 39 ((t.pre.length : Nat) : Int) (T.pb 40 (decide ((r : Int) < ((t.pre.length : Nat) : Int))) (T.nil (QN.seq (W.cd (decide ((r : Int) < ((t.pre.length : Nat) : Int))) (fun h14 => ?_) (fun h14 => ?_)))))))))))
  ·
   have h14' := of_decide_eq_true h14
   have hl15 : r < t.pre.length := by omega
   refine W.skip (QN.seq (W.seq (W.block (W.seq (W.rg od1 (T.pi 9 0 (T.nil (QN.seq (W.block ?_)))))))))
   have hrk : r < k := by omega
   have hrl : r < t.pre.length := by omega
   have hrc : r < t.com.length := by omega
   have hln : (t.pre[r]'hrl).l.length = n := by rw [← P_at hrl]; exact (hv.pr r hrk).1
   have hlc : (t.com[r]'hrc).l.length = n := by rw [← C_at hrc]; exact (hv.cr r hrk).1
   refine W.loop (σ := Nat × List Vt × Option Addr × Nat × List (Nat × Obj)) (fun gs => gs.1 ≤ n ∧ gs.2.1 = vs1 ++ (List.range gs.1).flatMap (vtM t.P t.C n (quorum (n : Int)) r) ∧ gs.2.1.length ≤ 5 + 384 * r + 96 * gs.1 ∧ RowIs 68 22 gs.2.2.1 gs.2.1.length gs.2.2.2.1 (cells gs.2.1) gs.2.2.2.2) (fun gs => [(1, .pointer (some ⟨b1, 0, none⟩)), (2, .slice none 0 0), (3, .int .i64 n), (4, .int .i64 (quorum (n : Int))), (5, .pointer (some ⟨b6, 0, none⟩)), (6, .slice gs.2.2.1 gs.2.1.length gs.2.2.2.1), (8, .int .i64 r), (9, .int .i64 (gs.1 : Int)), (36, .int .i64 r), (37, .pointer (some ⟨b1, 0, none⟩)), (38, .slice t.A1 t.pre.length t.c1), (39, .int .i64 ((t.pre.length : Nat) : Int)), (40, .bool (decide ((r : Int) < ((t.pre.length : Nat) : Int))))]) (fun gs => St w (gs.2.2.2.2 ++ [(b6, Obj.cells oneN.cs 54 (0, 0)), (b1, Obj.cells t.cs 24 (0, 0))])) (fun gs => n - gs.1) (0, vs1, Ay, cy, Hy) ?_ (by kernel_rfl) (fun w h => h) ?_
   ·
    try dsimp only
    exact ⟨Nat.zero_le _, by simp, by omega, hrowy⟩
   rintro ⟨m2, vs2, Az, cz, Hz⟩ hI_
   obtain ⟨hm2, hvs2, hl2, hrowz⟩ : m2 ≤ n ∧ vs2 = vs1 ++ (List.range m2).flatMap (vtM t.P t.C n (quorum (n : Int)) r) ∧ vs2.length ≤ 5 + 384 * r + 96 * m2 ∧ RowIs 68 22 Az vs2.length cz (cells vs2) Hz := hI_
   refine W.seq (W.seq (W.rg od3 (T.pi 43 m2 (T.pi 44 n (T.pb 45 (decide ((m2 : Int) < (n : Int))) (T.nil (QN.seq (W.cd (decide ((m2 : Int) < (n : Int))) (fun h16 => ?_) (fun h16 => ?_)))))))))
   ·
    have h16' := of_decide_eq_true h16
    refine W.skip (QN.seq (W.seq (W.block (W.seq (W.rg od1 (T.pi 10 0 (T.nil (QN.seq (W.block ?_)))))))))
    have hm2n : m2 < n := by omega
    have hmP : m2 < (t.pre[r]'hrl).l.length := by omega
    have hmC : m2 < (t.com[r]'hrc).l.length := by omega
    have heP : 0 ≤ (t.pre[r]'hrl).l[m2]'hmP ∧ (t.pre[r]'hrl).l[m2]'hmP ≤ 3 := (hv.pr r hrk).2 _ (by rw [P_at hrl]; exact List.getElem_mem hmP)
    have heC : 0 ≤ (t.com[r]'hrc).l[m2]'hmC ∧ (t.com[r]'hrc).l[m2]'hmC ≤ 7 := (hv.cr r hrk).2 _ (by rw [C_at hrc]; exact List.getElem_mem hmC)
    refine W.loop (σ := Nat × List Vt × Option Addr × Nat × List (Nat × Obj)) (fun gs => gs.1 ≤ 3 ∧ gs.2.1 = vs2 ++ (List.range gs.1).flatMap (vtC t.P t.C n (quorum (n : Int)) r m2) ∧ gs.2.1.length ≤ 5 + 384 * r + 96 * m2 + 32 * gs.1 ∧ RowIs 68 22 gs.2.2.1 gs.2.1.length gs.2.2.2.1 (cells gs.2.1) gs.2.2.2.2) (fun gs => [(1, .pointer (some ⟨b1, 0, none⟩)), (2, .slice none 0 0), (3, .int .i64 n), (4, .int .i64 (quorum (n : Int))), (5, .pointer (some ⟨b6, 0, none⟩)), (6, .slice gs.2.2.1 gs.2.1.length gs.2.2.2.1), (8, .int .i64 r), (9, .int .i64 m2), (10, .int .i64 (gs.1 : Int)), (36, .int .i64 r), (37, .pointer (some ⟨b1, 0, none⟩)), (38, .slice t.A1 t.pre.length t.c1), (39, .int .i64 ((t.pre.length : Nat) : Int)), (40, .bool (decide ((r : Int) < ((t.pre.length : Nat) : Int)))), (43, .int .i64 m2), (44, .int .i64 n), (45, .bool (decide ((m2 : Int) < (n : Int))))]) (fun gs => St w (gs.2.2.2.2 ++ [(b6, Obj.cells oneN.cs 54 (0, 0)), (b1, Obj.cells t.cs 24 (0, 0))])) (fun gs => 3 - gs.1) (0, vs2, Az, cz, Hz) ?_ (by kernel_rfl) (fun w h => h) ?_
    ·
     try dsimp only
     exact ⟨Nat.zero_le _, by simp, by omega, hrowz⟩
    rintro ⟨c, vs3, Au, cu, Hu⟩ hI_
    obtain ⟨hc, hvs3, hl3, hrowu⟩ : c ≤ 3 ∧ vs3 = vs2 ++ (List.range c).flatMap (vtC t.P t.C n (quorum (n : Int)) r m2) ∧ vs3.length ≤ 5 + 384 * r + 96 * m2 + 32 * c ∧ RowIs 68 22 Au vs3.length cu (cells vs3) Hu := hI_
    refine W.seq (W.seq (W.rg od2 (T.pi 48 c (T.pb 49 (decide ((c : Int) ≤ 2)) (T.nil (QN.seq (W.cd (decide ((c : Int) ≤ 2)) (fun h17 => ?_) (fun h17 => ?_))))))))
    ·
     have h17' := of_decide_eq_true h17
     refine W.skip (QN.seq (W.seq (W.block (W.seq (W.rg od7 (T.pi 52 r (T.pw 53 ((r : Int) + 1) (T.pi 54 c (T.pi 55 m2 (T.pu 56 (.agg (vcV r m2 c).cs) (T.al 11 68 Vt.zero.cs tv3 (fun b18 => T.sp 68 b18 0 (.agg (vcV r m2 c).cs) Vt.zero.cs (vcV r m2 c).cs 68 pm0 tv2 (T.nil (QN.seq (W.seq (W.seq (W.rg od2 (T.pi 57 c (T.pb 58 ((c : Int) == 1) (T.nil (QN.seq (W.meet (β := Unit) (fun gs => [(1, .pointer (some ⟨b1, 0, none⟩)), (2, .slice none 0 0), (3, .int .i64 n), (4, .int .i64 (quorum (n : Int))), (5, .pointer (some ⟨b6, 0, none⟩)), (6, .slice Au vs3.length cu), (8, .int .i64 r), (9, .int .i64 m2), (10, .int .i64 c), (11, .pointer (some ⟨b18, 0, none⟩)), (36, .int .i64 r), (37, .pointer (some ⟨b1, 0, none⟩)), (38, .slice t.A1 t.pre.length t.c1), (39, .int .i64 ((t.pre.length : Nat) : Int)), (40, .bool (decide ((r : Int) < ((t.pre.length : Nat) : Int)))), (43, .int .i64 m2), (44, .int .i64 n), (45, .bool (decide ((m2 : Int) < (n : Int)))), (48, .int .i64 c), (49, .bool (decide ((c : Int) ≤ 2))), (52, .int .i64 r), (53, .int .i64 ((r : Int) + 1)), (54, .int .i64 c), (55, .int .i64 m2), (56, .agg (vcV r m2 c).cs), (57, .int .i64 c), (58, .bool ((c : Int) == 1))]) (fun gs => St w ((b18, Obj.cells (vbV r m2 c 0 0).cs 68 (0, 0)) :: (Hu ++ [(b6, Obj.cells oneN.cs 54 (0, 0)), (b1, Obj.cells t.cs 24 (0, 0))]))) ?_ ?_))))))))))))))))))))))
     ·
      refine W.cd ((c : Int) == 1) (fun h19 => ?_) (fun h19 => ?_)
      ·
       have h19' := eq_of_beq h19
       refine W.rg od3 (T.lr false 59 oneN.cs 54 b6 0 (fun w h => St.rangeM h oneN.cs (.tail _ (List.mem_append_right _ mm0)) (by kernel_rfl)) (T.pu 60 (.pointer (some ⟨b18, 14, none⟩)) (T.sp 54 b18 14 (.agg oneN.cs) (vcV r m2 c).cs ({ vcV r m2 c with val := oneN }).cs 68 pm0 tv2 (T.nil ?_))))
       have e20 : ({ vcV r m2 c with val := oneN } : Vt) = vbV r m2 c 0 0 := va_yes h19
       refine QN.weak (Ψ := St w ((b18, Obj.cells (vbV r m2 c 0 0).cs 68 (0, 0)) :: (Hu ++ [(b6, Obj.cells oneN.cs 54 (0, 0)), (b1, Obj.cells t.cs 24 (0, 0))]))) (fun w h => by rw [← e20]; exact h) ?_
       exact QN.meet () (by kernel_rfl) (fun w h => h)
      ·
       have h19' := ne_of_beq_false h19
       refine W.skip ?_
       have e21 : (vcV r m2 c : Vt) = vbV r m2 c 0 0 := va_no h19
       refine QN.weak (Ψ := St w ((b18, Obj.cells (vbV r m2 c 0 0).cs 68 (0, 0)) :: (Hu ++ [(b6, Obj.cells oneN.cs 54 (0, 0)), (b1, Obj.cells t.cs 24 (0, 0))]))) (fun w h => by rw [← e21]; exact h) ?_
       exact QN.meet () (by kernel_rfl) (fun w h => h)
     intro u9
     show QN _ [(1, .pointer (some ⟨b1, 0, none⟩)), (2, .slice none 0 0), (3, .int .i64 n), (4, .int .i64 (quorum (n : Int))), (5, .pointer (some ⟨b6, 0, none⟩)), (6, .slice Au vs3.length cu), (8, .int .i64 r), (9, .int .i64 m2), (10, .int .i64 c), (11, .pointer (some ⟨b18, 0, none⟩)), (36, .int .i64 r), (37, .pointer (some ⟨b1, 0, none⟩)), (38, .slice t.A1 t.pre.length t.c1), (39, .int .i64 ((t.pre.length : Nat) : Int)), (40, .bool (decide ((r : Int) < ((t.pre.length : Nat) : Int)))), (43, .int .i64 m2), (44, .int .i64 n), (45, .bool (decide ((m2 : Int) < (n : Int)))), (48, .int .i64 c), (49, .bool (decide ((c : Int) ≤ 2))), (52, .int .i64 r), (53, .int .i64 ((r : Int) + 1)), (54, .int .i64 c), (55, .int .i64 m2), (56, .agg (vcV r m2 c).cs), (57, .int .i64 c), (58, .bool ((c : Int) == 1))] (St w ((b18, Obj.cells (vbV r m2 c 0 0).cs 68 (0, 0)) :: (Hu ++ [(b6, Obj.cells oneN.cs 54 (0, 0)), (b1, Obj.cells t.cs 24 (0, 0))]))) _ _
     refine QN.seq (W.seq (W.rg od1 (T.pi 12 0 (T.nil (QN.seq (W.block (W.loop (σ := Nat × List Vt × Int × Int × Option Addr × Nat × List (Nat × Obj)) (fun gs => gs.1 ≤ N2 ∧ gs.2.1 = vs3 ++ (List.range gs.1).flatMap (vtK t.P t.C (quorum (n : Int)) r m2 c) ∧ gs.2.1.length ≤ 5 + 384 * r + 96 * m2 + 32 * c + 2 * gs.1 ∧ RowIs 68 22 gs.2.2.2.2.1 gs.2.1.length gs.2.2.2.2.2.1 (cells gs.2.1) gs.2.2.2.2.2.2) (fun gs => [(1, .pointer (some ⟨b1, 0, none⟩)), (2, .slice none 0 0), (3, .int .i64 n), (4, .int .i64 (quorum (n : Int))), (5, .pointer (some ⟨b6, 0, none⟩)), (6, .slice gs.2.2.2.2.1 gs.2.1.length gs.2.2.2.2.2.1), (8, .int .i64 r), (9, .int .i64 m2), (10, .int .i64 c), (11, .pointer (some ⟨b18, 0, none⟩)), (12, .int .i64 (gs.1 : Int)), (36, .int .i64 r), (37, .pointer (some ⟨b1, 0, none⟩)), (38, .slice t.A1 t.pre.length t.c1), (39, .int .i64 ((t.pre.length : Nat) : Int)), (40, .bool (decide ((r : Int) < ((t.pre.length : Nat) : Int)))), (43, .int .i64 m2), (44, .int .i64 n), (45, .bool (decide ((m2 : Int) < (n : Int)))), (48, .int .i64 c), (49, .bool (decide ((c : Int) ≤ 2))), (52, .int .i64 r), (53, .int .i64 ((r : Int) + 1)), (54, .int .i64 c), (55, .int .i64 m2), (56, .agg (vcV r m2 c).cs), (57, .int .i64 c), (58, .bool ((c : Int) == 1))]) (fun gs => St w ((b18, Obj.cells (vbV r m2 c gs.2.2.1 gs.2.2.2.1).cs 68 (0, 0)) :: (gs.2.2.2.2.2.2 ++ [(b6, Obj.cells oneN.cs 54 (0, 0)), (b1, Obj.cells t.cs 24 (0, 0))]))) (fun gs => N2 - gs.1) (0, vs3, 0, 0, Au, cu, Hu) ?_ (by kernel_rfl) (fun w h => h) ?_)))))))
     ·
      try dsimp only
      exact ⟨Nat.zero_le _, by simp, by omega, hrowu⟩
     rintro ⟨s, vs4, kd, su, Av, cv, Hv⟩ hI_
     obtain ⟨hs, hvs4, hl4, hrowv⟩ : s ≤ N2 ∧ vs4 = vs3 ++ (List.range s).flatMap (vtK t.P t.C (quorum (n : Int)) r m2 c) ∧ vs4.length ≤ 5 + 384 * r + 96 * m2 + 32 * c + 2 * s ∧ RowIs 68 22 Av vs4.length cv (cells vs4) Hv := hI_
     have hc3 : c < 3 := by omega
     refine W.seq (W.seq (W.rg od5 (T.pi 61 s (T.pi 62 n (T.pe 63 (.int .u64 (IntKind.u64.wrap (n : Int))) (.int .u64 (n : Int)) (wrapu_int (by omega) (by omega)) (T.shl 64 .i64 .u64 1 (n : Int) (.int .i64 N2) (by kernel_rfl) (by kernel_rfl) (by omega) ((shl_one (by omega) (by omega)).trans (two_nat hN2)) (T.pb 65 (decide ((s : Int) < (N2 : Int))) (T.nil (QN.seq (W.cd (decide ((s : Int) < (N2 : Int))) (fun h22 => ?_) (fun h22 => ?_)))))))))))
     ·
      have h22' := of_decide_eq_true h22
      refine W.skip (QN.seq (W.seq (W.block (W.seq (W.seq (W.rg od4 (T.pi 68 s (T.cp 69 25 #[.int .i64 s] (.int .i64 (size (s : Int) : Int)) ent25 (fun w hw => Ret.same (size_c _ w)) tv2 (T.pi 70 (quorum (n : Int)) (T.pb 71 ((size (s : Int) : Int) != (quorum (n : Int))) (T.nil (QN.seq (W.cd ((size (s : Int) : Int) != (quorum (n : Int))) (fun h23 => ?_) (fun h23 => ?_))))))))))))))
      ·
       refine W.exit (QN.thenExit (QN.blkHit (QN.seq (W.rg od3 (T.pi 66 s (T.pw 67 ((s : Int) + 1) (T.pi 12 ((s : Int) + 1) (T.nil (QN.back (s + 1, vs4, kd, su, Av, cv, Hv) ?_ ?_ (by kernel_rfl) (fun w h => h))))))))))
       ·
        try dsimp only
        exact ⟨by omega, vk_none (vk_q h23) hvs4, by omega, hrowv⟩
       · show N2 - _ < N2 - _; omega
      ·
       refine W.skip (QN.seq (W.seq (W.rg od3 (T.pi 72 s (T.pu 73 (.pointer (some ⟨b18, 5, none⟩)) (T.sp 32 b18 5 (.int .i64 s) (vbV r m2 c kd su).cs ({ vbV r m2 c kd su with support := (s : Int) }).cs 68 pm0 tv2 (T.nil (QN.weak (Ψ := St w ((b18, Obj.cells (vbV r m2 c kd (s : Int)).cs 68 (0, 0)) :: (Hv ++ [(b6, Obj.cells oneN.cs 54 (0, 0)), (b1, Obj.cells t.cs 24 (0, 0))]))) (fun w h => h) (QN.seq (W.seq (W.seq (W.rg od17 (T.pu 74 (.pointer (some ⟨b1, 0, none⟩)) (T.ld false 75 (.slice t.A1 t.pre.length t.c1) 22 b1 0 (fun w h => St.cellM h (.tail _ (List.mem_append_right _ mm1)) (by kernel_rfl)) (T.pi 76 r ?_)))))))))))))))
       obtain ⟨b24, o25, hA26, hr27⟩ := (Rd.arr ht.a1 _) r hrl
       refine T.ix 77 22 45 1 t.A1 t.pre.length t.c1 (r : Int) r b24 o25 hA26 rfl (by omega) (T.ld false 78 (.slice (((t.pre)[r]'hrl).A) (((t.pre)[r]'hrl).l.length) (((t.pre)[r]'hrl).c)) 45 b24 (o25 + r * 1) (fun w h => cell_of_range (hr27 w h) 0 (by kernel_rfl)) (T.pi 79 m2 ?_))
       obtain ⟨b28, o29, hA30, hr31⟩ := (Rd.arr (ht.r1 _ (List.getElem_mem hrl)) _) m2 hmP
       refine T.ix 80 45 3 1 (((t.pre)[r]'hrl).A) (((t.pre)[r]'hrl).l.length) (((t.pre)[r]'hrl).c) (m2 : Int) m2 b28 o29 hA30 rfl (by omega) (T.ld false 81 (.int .i64 ((((t.pre)[r]'hrl).l)[m2]'hmP)) 3 b28 (o29 + m2 * 1) (fun w h => cell_of_range (hr31 w h) 0 (by kernel_rfl)) (T.pi 82 c (T.pe 83 (.int .u64 (IntKind.u64.wrap (c : Int))) (.int .u64 (c : Int)) (wrapu_int (by omega) (by omega)) (T.shr 84 .i64 .u64 ((((t.pre)[r]'hrl).l)[m2]'hmP) (c : Int) (.int .i64 (((((t.pre)[r]'hrl).l)[m2]'hmP) / 2 ^ (c : Int).toNat)) (by kernel_rfl) (by kernel_rfl) (by omega) (shr_i (by omega) (by omega)) (T.pi 85 (bits .and .i64 (((((t.pre)[r]'hrl).l)[m2]'hmP) / 2 ^ (c : Int).toNat) 1) (T.pe 86 (.bool ((bits .and .i64 (((((t.pre)[r]'hrl).l)[m2]'hmP) / 2 ^ (c : Int).toNat) 1) == 1)) (.bool (mb (ent t.P r m2) c)) (bit_at (ent_P9 hrl hmP) (by omega) (by omega) (by omega)) (T.pb 87 (mb (ent t.P r m2) c) (T.bk [(14, false), (15, false)] [(16, false)] 13 true (mb (ent t.P r m2) c) 87 89 (.bool ((c : Int) != 2)) (fun hg32 => ?_) ?_))))))))
       ·
        have hg32_ := hg32
        refine T.pi 88 c (T.pb 89 ((c : Int) != 2) ?_)
        exact T.blkEnd (by kernel_rfl) (fun w h => h)
       refine T.an 90 (mb (ent t.P r m2) c) ((c : Int) != 2) (T.nil (QN.seq (W.cd ((mb (ent t.P r m2) c) && ((c : Int) != 2)) (fun h33 => ?_) (fun h33 => ?_))))
       ·
        have h33l := (Bool.and_eq_true_iff.1 h33).1
        have h33r := (Bool.and_eq_true_iff.1 h33).2
        refine W.seq (W.rg od2 (T.pu 91 (.pointer (some ⟨b18, 0, none⟩)) (T.sp 3 b18 0 (.int .i64 3) (vbV r m2 c kd (s : Int)).cs ({ vbV r m2 c kd (s : Int) with kind := 3 }).cs 68 pm0 tv2 (T.nil (QN.weak (Ψ := St w ((b18, Obj.cells (vbV r m2 c 3 (s : Int)).cs 68 (0, 0)) :: (Hv ++ [(b6, Obj.cells oneN.cs 54 (0, 0)), (b1, Obj.cells t.cs 24 (0, 0))]))) (fun w h => h) (QN.seq (W.seq (W.rg od3 (T.lr false 92 (vbV r m2 c 3 (s : Int)).cs 68 b18 0 (fun w h => St.rangeM h (vbV r m2 c 3 (s : Int)).cs mm0 (by kernel_rfl)) (T.al 13 68 Vt.zero.cs tv3 (fun b34 => T.sp 68 b34 0 (.agg (vbV r m2 c 3 (s : Int)).cs) Vt.zero.cs (vbV r m2 c 3 (s : Int)).cs 68 pm0 tv2 (T.nil (QN.weak (Ψ := St w ((b34, Obj.cells (pvV r m2 c (s : Int)).cs 68 (0, 0)) :: ((b18, Obj.cells (vbV r m2 c 3 (s : Int)).cs 68 (0, 0)) :: (Hv ++ [(b6, Obj.cells oneN.cs 54 (0, 0)), (b1, Obj.cells t.cs 24 (0, 0))])))) (fun w h => h) (QN.seq (W.seq (W.seq (W.rg od6 (T.pi 93 r (T.pb 94 ((r : Int) == 0) (T.pb 95 ((r : Int) == 0) (T.bk [(3, false), (4, false)] [(5, false)] 2 true ((r : Int) == 0) 95 97 (.bool ((c : Int) == 0)) (fun hg35 => ?_) ?_)))))))))))))))))))))
        ·
         have hg35_ := hg35
         have hg35' := eq_of_beq hg35
         refine T.pi 96 c (T.pb 97 ((c : Int) == 0) ?_)
         exact T.blkEnd (by kernel_rfl) (fun w h => h)
        refine T.an 98 ((r : Int) == 0) ((c : Int) == 0) (T.nil (QN.seq (W.cd (((r : Int) == 0) && ((c : Int) == 0)) (fun h36 => ?_) (fun h36 => ?_))))
        ·
         have h36l := (Bool.and_eq_true_iff.1 h36).1
         have h36r := (Bool.and_eq_true_iff.1 h36).2
         have h36l' := eq_of_beq h36l
         have h36r' := eq_of_beq h36r
         refine W.rg od2 (T.pu 99 (.pointer (some ⟨b34, 5, none⟩)) (T.sp 32 b34 5 (.int .i64 0) (pvV r m2 c (s : Int)).cs ({ pvV r m2 c (s : Int) with support := 0 }).cs 68 pm0 tv2 (T.nil (QN.weak (Ψ := St w ((b34, Obj.cells (pvV r m2 c 0).cs 68 (0, 0)) :: ((b18, Obj.cells (vbV r m2 c 3 (s : Int)).cs 68 (0, 0)) :: (Hv ++ [(b6, Obj.cells oneN.cs 54 (0, 0)), (b1, Obj.cells t.cs 24 (0, 0))])))) (fun w h => h) (QN.seq (W.rg od5 (T.pu 100 (.slice Av vs4.length cv) (T.lr false 101 (pvV r m2 c 0).cs 68 b34 0 (fun w h => St.rangeM h (pvV r m2 c 0).cs mm0 (by kernel_rfl)) (T.lit 102 55 68 1 #[(0, .agg (pvV r m2 c 0).cs)] (cells ([pvV r m2 c 0] : List Vt)).toArray (by kernel_rfl) (by kernel_rfl) (by kernel_rfl) (by kernel_rfl) tv3 (fun b37 => T.appC 103 55 68 64 Av cv (vs4 : List Vt) Hv b37 0 1 ([pvV r m2 c 0] : List Vt) ((((((pm0.cons _).trans List.perm_middle.symm).cons _).trans List.perm_middle.symm).cons _).trans List.perm_middle.symm) (by kernel_rfl) (by kernel_rfl) (by kernel_rfl) (by kernel_rfl) hrowv (fun w h => St.rangeM h (cells ([pvV r m2 c 0] : List Vt)).toArray (List.mem_append_right _ mm0) (by kernel_rfl)) (by unfold maxLen; first | omega | (simp; omega)) (by first | omega | (simp; omega)) tv3 (fun A38 c39 Hr40 hrow41 => T.pu 6 (.slice A38 ((vs4 ++ ([pvV r m2 c 0])).length) c39) (T.nil (QN.seq (W.seq (W.rg od13 (T.pu 104 (.pointer (some ⟨b1, 1, none⟩)) (T.ld false 105 (.slice t.A2 t.com.length t.c2) 22 b1 1 (fun w h => St.cellM h (List.mem_append_right _ mm4) (by kernel_rfl)) (T.pi 106 r ?_))))))))))))))))))
         obtain ⟨b42, o43, hA44, hr45⟩ := (Rd.arr ht.a2 _) r hrc
         refine T.ix 107 22 45 1 t.A2 t.com.length t.c2 (r : Int) r b42 o43 hA44 rfl (by omega) (T.ld false 108 (.slice (((t.com)[r]'hrc).A) (((t.com)[r]'hrc).l.length) (((t.com)[r]'hrc).c)) 45 b42 (o43 + r * 1) (fun w h => cell_of_range (hr45 w h) 0 (by kernel_rfl)) (T.pi 109 m2 ?_))
         obtain ⟨b46, o47, hA48, hr49⟩ := (Rd.arr (ht.r2 _ (List.getElem_mem hrc)) _) m2 hmC
         refine T.ix 110 45 3 1 (((t.com)[r]'hrc).A) (((t.com)[r]'hrc).l.length) (((t.com)[r]'hrc).c) (m2 : Int) m2 b46 o47 hA48 rfl (by omega) (T.ld false 111 (.int .i64 ((((t.com)[r]'hrc).l)[m2]'hmC)) 3 b46 (o47 + m2 * 1) (fun w h => cell_of_range (hr49 w h) 0 (by kernel_rfl)) (T.pi 112 c (T.pe 113 (.int .u64 (IntKind.u64.wrap (c : Int))) (.int .u64 (c : Int)) (wrapu_int (by omega) (by omega)) (T.shr 114 .i64 .u64 ((((t.com)[r]'hrc).l)[m2]'hmC) (c : Int) (.int .i64 (((((t.com)[r]'hrc).l)[m2]'hmC) / 2 ^ (c : Int).toNat)) (by kernel_rfl) (by kernel_rfl) (by omega) (shr_i (by omega) (by omega)) (T.pi 115 (bits .and .i64 (((((t.com)[r]'hrc).l)[m2]'hmC) / 2 ^ (c : Int).toNat) 1) (T.pe 116 (.bool ((bits .and .i64 (((((t.com)[r]'hrc).l)[m2]'hmC) / 2 ^ (c : Int).toNat) 1) == 1)) (.bool (mb (ent t.C r m2) c)) (bit_at (ent_C9 hrc hmC) (by omega) (by omega) (by omega)) (T.nil (QN.seq (W.cd (mb (ent t.C r m2) c) (fun h50 => ?_) (fun h50 => ?_))))))))))
         ·
          refine W.seq (W.rg od2 (T.pu 117 (.pointer (some ⟨b18, 0, none⟩)) (T.sp 3 b18 0 (.int .i64 4) (vbV r m2 c 3 (s : Int)).cs ({ vbV r m2 c 3 (s : Int) with kind := 4 }).cs 68 ((pm2.append_left Hr40).trans List.perm_middle) tv2 (T.nil (QN.weak (Ψ := St w ((b18, Obj.cells (vbV r m2 c 4 (s : Int)).cs 68 (0, 0)) :: (Hr40 ++ [(b37, Obj.cells (cells ([pvV r m2 c 0] : List Vt)).toArray 68 (0, 0)), (b34, Obj.cells (pvV r m2 c 0).cs 68 (0, 0)), (b6, Obj.cells oneN.cs 54 (0, 0)), (b1, Obj.cells t.cs 24 (0, 0))]))) (fun w h => h) (QN.seq (W.rg od5 (T.pu 118 (.slice A38 ((vs4 ++ ([pvV r m2 c 0])).length) c39) (T.lr false 119 (vbV r m2 c 4 (s : Int)).cs 68 b18 0 (fun w h => St.rangeM h (vbV r m2 c 4 (s : Int)).cs mm0 (by kernel_rfl)) (T.lit 120 55 68 1 #[(0, .agg (vbV r m2 c 4 (s : Int)).cs)] (cells ([vbV r m2 c 4 (s : Int)] : List Vt)).toArray (by kernel_rfl) (by kernel_rfl) (by kernel_rfl) (by kernel_rfl) tv3 (fun b51 => T.appC 121 55 68 64 A38 c39 (vs4 ++ ([pvV r m2 c 0]) : List Vt) Hr40 b51 0 1 ([vbV r m2 c 4 (s : Int)] : List Vt) ((((pm0.cons _).trans List.perm_middle.symm).cons _).trans List.perm_middle.symm) (by kernel_rfl) (by kernel_rfl) (by kernel_rfl) (by kernel_rfl) hrow41 (fun w h => St.rangeM h (cells ([vbV r m2 c 4 (s : Int)] : List Vt)).toArray (List.mem_append_right _ mm0) (by kernel_rfl)) (by unfold maxLen; first | omega | (simp; omega)) (by first | omega | (simp; omega)) tv3 (fun A52 c53 Hr54 hrow55 => T.pu 6 (.slice A52 (((vs4 ++ ([pvV r m2 c 0])) ++ ([vbV r m2 c 4 (s : Int)])).length) c53) (T.nil (QN.blkNormal (QN.seq (W.rg od3 (T.pi 66 s (T.pw 67 ((s : Int) + 1) (T.pi 12 ((s : Int) + 1) (T.nil (QN.back (s + 1, (vs4 ++ ([pvV r m2 c 0])) ++ ([vbV r m2 c 4 (s : Int)]), 4, (s : Int), A52, c53, Hr54) ?_ ?_ (by kernel_rfl) (fun w h => (h.perm (((pm1.append_left Hr54).trans List.perm_middle).trans ((pm0.trans ((pm3.trans (pm3.cons _)).append_left Hr54)).cons _))).part ((List.Sublist.append (List.Sublist.refl _) ns2).cons_cons _)))))))))))))))))))))))
          ·
           try dsimp only
           exact ⟨by omega, vk_two (vk_yy h23 h33 h50 (sp_yes h36)) hvs4, by simp only [List.length_append, List.length_singleton]; omega, hrow55⟩
          · show N2 - _ < N2 - _; omega
         ·
          refine W.skip (QN.blkNormal (QN.seq (W.rg od3 (T.pi 66 s (T.pw 67 ((s : Int) + 1) (T.pi 12 ((s : Int) + 1) (T.nil (QN.back (s + 1, vs4 ++ ([pvV r m2 c 0]), 3, (s : Int), A38, c39, Hr40) ?_ ?_ (by kernel_rfl) (fun w h => (h.perm (((pm2.append_left Hr40).trans List.perm_middle).trans ((pm0.trans ((pm2.trans (pm2.cons _)).append_left Hr40)).cons _))).part ((List.Sublist.append (List.Sublist.refl _) ns2).cons_cons _))))))))))
          ·
           try dsimp only
           exact ⟨by omega, vk_one (vk_yn h23 h33 h50 (sp_yes h36)) hvs4, by simp only [List.length_append, List.length_singleton]; omega, hrow41⟩
          · show N2 - _ < N2 - _; omega
        ·
         refine W.skip (QN.seq (W.rg od5 (T.pu 100 (.slice Av vs4.length cv) (T.lr false 101 (pvV r m2 c (s : Int)).cs 68 b34 0 (fun w h => St.rangeM h (pvV r m2 c (s : Int)).cs mm0 (by kernel_rfl)) (T.lit 102 55 68 1 #[(0, .agg (pvV r m2 c (s : Int)).cs)] (cells ([pvV r m2 c (s : Int)] : List Vt)).toArray (by kernel_rfl) (by kernel_rfl) (by kernel_rfl) (by kernel_rfl) tv3 (fun b56 => T.appC 103 55 68 64 Av cv (vs4 : List Vt) Hv b56 0 1 ([pvV r m2 c (s : Int)] : List Vt) ((((((pm0.cons _).trans List.perm_middle.symm).cons _).trans List.perm_middle.symm).cons _).trans List.perm_middle.symm) (by kernel_rfl) (by kernel_rfl) (by kernel_rfl) (by kernel_rfl) hrowv (fun w h => St.rangeM h (cells ([pvV r m2 c (s : Int)] : List Vt)).toArray (List.mem_append_right _ mm0) (by kernel_rfl)) (by unfold maxLen; first | omega | (simp; omega)) (by first | omega | (simp; omega)) tv3 (fun A57 c58 Hr59 hrow60 => T.pu 6 (.slice A57 ((vs4 ++ ([pvV r m2 c (s : Int)])).length) c58) (T.nil (QN.seq (W.seq (W.rg od13 (T.pu 104 (.pointer (some ⟨b1, 1, none⟩)) (T.ld false 105 (.slice t.A2 t.com.length t.c2) 22 b1 1 (fun w h => St.cellM h (List.mem_append_right _ mm4) (by kernel_rfl)) (T.pi 106 r ?_))))))))))))))
         obtain ⟨b61, o62, hA63, hr64⟩ := (Rd.arr ht.a2 _) r hrc
         refine T.ix 107 22 45 1 t.A2 t.com.length t.c2 (r : Int) r b61 o62 hA63 rfl (by omega) (T.ld false 108 (.slice (((t.com)[r]'hrc).A) (((t.com)[r]'hrc).l.length) (((t.com)[r]'hrc).c)) 45 b61 (o62 + r * 1) (fun w h => cell_of_range (hr64 w h) 0 (by kernel_rfl)) (T.pi 109 m2 ?_))
         obtain ⟨b65, o66, hA67, hr68⟩ := (Rd.arr (ht.r2 _ (List.getElem_mem hrc)) _) m2 hmC
         refine T.ix 110 45 3 1 (((t.com)[r]'hrc).A) (((t.com)[r]'hrc).l.length) (((t.com)[r]'hrc).c) (m2 : Int) m2 b65 o66 hA67 rfl (by omega) (T.ld false 111 (.int .i64 ((((t.com)[r]'hrc).l)[m2]'hmC)) 3 b65 (o66 + m2 * 1) (fun w h => cell_of_range (hr68 w h) 0 (by kernel_rfl)) (T.pi 112 c (T.pe 113 (.int .u64 (IntKind.u64.wrap (c : Int))) (.int .u64 (c : Int)) (wrapu_int (by omega) (by omega)) (T.shr 114 .i64 .u64 ((((t.com)[r]'hrc).l)[m2]'hmC) (c : Int) (.int .i64 (((((t.com)[r]'hrc).l)[m2]'hmC) / 2 ^ (c : Int).toNat)) (by kernel_rfl) (by kernel_rfl) (by omega) (shr_i (by omega) (by omega)) (T.pi 115 (bits .and .i64 (((((t.com)[r]'hrc).l)[m2]'hmC) / 2 ^ (c : Int).toNat) 1) (T.pe 116 (.bool ((bits .and .i64 (((((t.com)[r]'hrc).l)[m2]'hmC) / 2 ^ (c : Int).toNat) 1) == 1)) (.bool (mb (ent t.C r m2) c)) (bit_at (ent_C9 hrc hmC) (by omega) (by omega) (by omega)) (T.nil (QN.seq (W.cd (mb (ent t.C r m2) c) (fun h69 => ?_) (fun h69 => ?_))))))))))
         ·
          refine W.seq (W.rg od2 (T.pu 117 (.pointer (some ⟨b18, 0, none⟩)) (T.sp 3 b18 0 (.int .i64 4) (vbV r m2 c 3 (s : Int)).cs ({ vbV r m2 c 3 (s : Int) with kind := 4 }).cs 68 ((pm2.append_left Hr59).trans List.perm_middle) tv2 (T.nil (QN.weak (Ψ := St w ((b18, Obj.cells (vbV r m2 c 4 (s : Int)).cs 68 (0, 0)) :: (Hr59 ++ [(b56, Obj.cells (cells ([pvV r m2 c (s : Int)] : List Vt)).toArray 68 (0, 0)), (b34, Obj.cells (pvV r m2 c (s : Int)).cs 68 (0, 0)), (b6, Obj.cells oneN.cs 54 (0, 0)), (b1, Obj.cells t.cs 24 (0, 0))]))) (fun w h => h) (QN.seq (W.rg od5 (T.pu 118 (.slice A57 ((vs4 ++ ([pvV r m2 c (s : Int)])).length) c58) (T.lr false 119 (vbV r m2 c 4 (s : Int)).cs 68 b18 0 (fun w h => St.rangeM h (vbV r m2 c 4 (s : Int)).cs mm0 (by kernel_rfl)) (T.lit 120 55 68 1 #[(0, .agg (vbV r m2 c 4 (s : Int)).cs)] (cells ([vbV r m2 c 4 (s : Int)] : List Vt)).toArray (by kernel_rfl) (by kernel_rfl) (by kernel_rfl) (by kernel_rfl) tv3 (fun b70 => T.appC 121 55 68 64 A57 c58 (vs4 ++ ([pvV r m2 c (s : Int)]) : List Vt) Hr59 b70 0 1 ([vbV r m2 c 4 (s : Int)] : List Vt) ((((pm0.cons _).trans List.perm_middle.symm).cons _).trans List.perm_middle.symm) (by kernel_rfl) (by kernel_rfl) (by kernel_rfl) (by kernel_rfl) hrow60 (fun w h => St.rangeM h (cells ([vbV r m2 c 4 (s : Int)] : List Vt)).toArray (List.mem_append_right _ mm0) (by kernel_rfl)) (by unfold maxLen; first | omega | (simp; omega)) (by first | omega | (simp; omega)) tv3 (fun A71 c72 Hr73 hrow74 => T.pu 6 (.slice A71 (((vs4 ++ ([pvV r m2 c (s : Int)])) ++ ([vbV r m2 c 4 (s : Int)])).length) c72) (T.nil (QN.blkNormal (QN.seq (W.rg od3 (T.pi 66 s (T.pw 67 ((s : Int) + 1) (T.pi 12 ((s : Int) + 1) (T.nil (QN.back (s + 1, (vs4 ++ ([pvV r m2 c (s : Int)])) ++ ([vbV r m2 c 4 (s : Int)]), 4, (s : Int), A71, c72, Hr73) ?_ ?_ (by kernel_rfl) (fun w h => (h.perm (((pm1.append_left Hr73).trans List.perm_middle).trans ((pm0.trans ((pm3.trans (pm3.cons _)).append_left Hr73)).cons _))).part ((List.Sublist.append (List.Sublist.refl _) ns2).cons_cons _)))))))))))))))))))))))
          ·
           try dsimp only
           exact ⟨by omega, vk_two (vk_yy h23 h33 h69 (sp_no h36)) hvs4, by simp only [List.length_append, List.length_singleton]; omega, hrow74⟩
          · show N2 - _ < N2 - _; omega
         ·
          refine W.skip (QN.blkNormal (QN.seq (W.rg od3 (T.pi 66 s (T.pw 67 ((s : Int) + 1) (T.pi 12 ((s : Int) + 1) (T.nil (QN.back (s + 1, vs4 ++ ([pvV r m2 c (s : Int)]), 3, (s : Int), A57, c58, Hr59) ?_ ?_ (by kernel_rfl) (fun w h => (h.perm (((pm2.append_left Hr59).trans List.perm_middle).trans ((pm0.trans ((pm2.trans (pm2.cons _)).append_left Hr59)).cons _))).part ((List.Sublist.append (List.Sublist.refl _) ns2).cons_cons _))))))))))
          ·
           try dsimp only
           exact ⟨by omega, vk_one (vk_yn h23 h33 h69 (sp_no h36)) hvs4, by simp only [List.length_append, List.length_singleton]; omega, hrow60⟩
          · show N2 - _ < N2 - _; omega
       ·
        refine W.skip (QN.seq (W.seq (W.rg od13 (T.pu 104 (.pointer (some ⟨b1, 1, none⟩)) (T.ld false 105 (.slice t.A2 t.com.length t.c2) 22 b1 1 (fun w h => St.cellM h (.tail _ (List.mem_append_right _ mm1)) (by kernel_rfl)) (T.pi 106 r ?_))))))
        obtain ⟨b75, o76, hA77, hr78⟩ := (Rd.arr ht.a2 _) r hrc
        refine T.ix 107 22 45 1 t.A2 t.com.length t.c2 (r : Int) r b75 o76 hA77 rfl (by omega) (T.ld false 108 (.slice (((t.com)[r]'hrc).A) (((t.com)[r]'hrc).l.length) (((t.com)[r]'hrc).c)) 45 b75 (o76 + r * 1) (fun w h => cell_of_range (hr78 w h) 0 (by kernel_rfl)) (T.pi 109 m2 ?_))
        obtain ⟨b79, o80, hA81, hr82⟩ := (Rd.arr (ht.r2 _ (List.getElem_mem hrc)) _) m2 hmC
        refine T.ix 110 45 3 1 (((t.com)[r]'hrc).A) (((t.com)[r]'hrc).l.length) (((t.com)[r]'hrc).c) (m2 : Int) m2 b79 o80 hA81 rfl (by omega) (T.ld false 111 (.int .i64 ((((t.com)[r]'hrc).l)[m2]'hmC)) 3 b79 (o80 + m2 * 1) (fun w h => cell_of_range (hr82 w h) 0 (by kernel_rfl)) (T.pi 112 c (T.pe 113 (.int .u64 (IntKind.u64.wrap (c : Int))) (.int .u64 (c : Int)) (wrapu_int (by omega) (by omega)) (T.shr 114 .i64 .u64 ((((t.com)[r]'hrc).l)[m2]'hmC) (c : Int) (.int .i64 (((((t.com)[r]'hrc).l)[m2]'hmC) / 2 ^ (c : Int).toNat)) (by kernel_rfl) (by kernel_rfl) (by omega) (shr_i (by omega) (by omega)) (T.pi 115 (bits .and .i64 (((((t.com)[r]'hrc).l)[m2]'hmC) / 2 ^ (c : Int).toNat) 1) (T.pe 116 (.bool ((bits .and .i64 (((((t.com)[r]'hrc).l)[m2]'hmC) / 2 ^ (c : Int).toNat) 1) == 1)) (.bool (mb (ent t.C r m2) c)) (bit_at (ent_C9 hrc hmC) (by omega) (by omega) (by omega)) (T.nil (QN.seq (W.cd (mb (ent t.C r m2) c) (fun h83 => ?_) (fun h83 => ?_))))))))))
        ·
         refine W.seq (W.rg od2 (T.pu 117 (.pointer (some ⟨b18, 0, none⟩)) (T.sp 3 b18 0 (.int .i64 4) (vbV r m2 c kd (s : Int)).cs ({ vbV r m2 c kd (s : Int) with kind := 4 }).cs 68 pm0 tv2 (T.nil (QN.weak (Ψ := St w ((b18, Obj.cells (vbV r m2 c 4 (s : Int)).cs 68 (0, 0)) :: (Hv ++ [(b6, Obj.cells oneN.cs 54 (0, 0)), (b1, Obj.cells t.cs 24 (0, 0))]))) (fun w h => h) (QN.seq (W.rg od5 (T.pu 118 (.slice Av vs4.length cv) (T.lr false 119 (vbV r m2 c 4 (s : Int)).cs 68 b18 0 (fun w h => St.rangeM h (vbV r m2 c 4 (s : Int)).cs mm0 (by kernel_rfl)) (T.lit 120 55 68 1 #[(0, .agg (vbV r m2 c 4 (s : Int)).cs)] (cells ([vbV r m2 c 4 (s : Int)] : List Vt)).toArray (by kernel_rfl) (by kernel_rfl) (by kernel_rfl) (by kernel_rfl) tv3 (fun b84 => T.appC 121 55 68 64 Av cv (vs4 : List Vt) Hv b84 0 1 ([vbV r m2 c 4 (s : Int)] : List Vt) ((((pm0.cons _).trans List.perm_middle.symm).cons _).trans List.perm_middle.symm) (by kernel_rfl) (by kernel_rfl) (by kernel_rfl) (by kernel_rfl) hrowv (fun w h => St.rangeM h (cells ([vbV r m2 c 4 (s : Int)] : List Vt)).toArray (List.mem_append_right _ mm0) (by kernel_rfl)) (by unfold maxLen; first | omega | (simp; omega)) (by first | omega | (simp; omega)) tv3 (fun A85 c86 Hr87 hrow88 => T.pu 6 (.slice A85 ((vs4 ++ ([vbV r m2 c 4 (s : Int)])).length) c86) (T.nil (QN.blkNormal (QN.seq (W.rg od3 (T.pi 66 s (T.pw 67 ((s : Int) + 1) (T.pi 12 ((s : Int) + 1) (T.nil (QN.back (s + 1, vs4 ++ ([vbV r m2 c 4 (s : Int)]), 4, (s : Int), A85, c86, Hr87) ?_ ?_ (by kernel_rfl) (fun w h => (h.perm (((pm1.append_left Hr87).trans List.perm_middle).trans ((pm0.trans ((pm1.trans (pm1.cons _)).append_left Hr87)).cons _))).part ((List.Sublist.append (List.Sublist.refl _) ns2).cons_cons _)))))))))))))))))))))))
         ·
          try dsimp only
          exact ⟨by omega, vk_one (vk_ny h23 h33 h83) hvs4, by simp only [List.length_append, List.length_singleton]; omega, hrow88⟩
         · show N2 - _ < N2 - _; omega
        ·
         refine W.skip (QN.blkNormal (QN.seq (W.rg od3 (T.pi 66 s (T.pw 67 ((s : Int) + 1) (T.pi 12 ((s : Int) + 1) (T.nil (QN.back (s + 1, vs4, kd, (s : Int), Av, cv, Hv) ?_ ?_ (by kernel_rfl) (fun w h => h)))))))))
         ·
          try dsimp only
          exact ⟨by omega, vk_none (vk_nn h23 h33 h83) hvs4, by omega, hrowv⟩
         · show N2 - _ < N2 - _; omega
     ·
      have h22' := of_decide_eq_false h22
      refine W.exit (QN.thenExit (QN.thenExit (QN.blkHit (QN.blkNormal (QN.seq (W.rg od3 (T.pi 50 c (T.pw 51 ((c : Int) + 1) (T.pi 10 ((c : Int) + 1) (T.nil (QN.back (c + 1, vs4, Av, cv, Hv) ?_ ?_ (by kernel_rfl) (fun w h => (h.perm (((pm0.cons _).trans List.perm_middle.symm).trans ((pm1.trans (pm1.cons _)).append_left Hv))).part (List.Sublist.append (List.Sublist.refl _) ns2)))))))))))))
      ·
       try dsimp only
       exact ⟨by omega, vt_bk hvs3 (by rw [hvs4, show s = 2 ^ n by omega]; rfl), by omega, hrowv⟩
      · show 3 - _ < 3 - _; omega
    ·
     have h17' := of_decide_eq_false h17
     refine W.exit (QN.thenExit (QN.thenExit (QN.blkHit (QN.blkNormal (QN.seq (W.rg od3 (T.pi 46 m2 (T.pw 47 ((m2 : Int) + 1) (T.pi 9 ((m2 : Int) + 1) (T.nil (QN.back (m2 + 1, vs3, Au, cu, Hu) ?_ ?_ (by kernel_rfl) (fun w h => h))))))))))))
     ·
      try dsimp only
      exact ⟨by omega, vt_bk hvs2 (by rw [hvs3, show c = 3 by omega]; rfl), by omega, hrowu⟩
     · show n - _ < n - _; omega
   ·
    have h16' := of_decide_eq_false h16
    refine W.exit (QN.thenExit (QN.thenExit (QN.blkHit (QN.blkNormal (QN.seq (W.rg od3 (T.pi 41 r (T.pw 42 ((r : Int) + 1) (T.pi 8 ((r : Int) + 1) (T.nil (QN.back (r + 1, vs2, Az, cz, Hz) ?_ ?_ (by kernel_rfl) (fun w h => h))))))))))))
    ·
     try dsimp only
     exact ⟨by omega, vt_bk hvs1 (by rw [hvs2, show m2 = n by omega]; rfl), by omega, hrowz⟩
    · show k - _ < k - _; omega
  ·
   have h14' := of_decide_eq_false h14
   refine W.exit (QN.thenExit (QN.thenExit (QN.blkHit (QN.seq (W.seq (W.rg od2 (T.pu 122 (.slice Ay vs1.length cy) (T.pu 2 (.slice Ay vs1.length cy) (T.nil (QN.seq (W.ret (QN.done (.inl rfl) 2 (.slice Ay vs1.length cy) rfl (by kernel_rfl) (fun w hw => ?_)))))))))))))
   exact (by have e1 : vs1 = votV t.P t.C n k := (by rw [hvs1, show r = k by omega]; rfl); rw [← e1]; exact ⟨Ay, cy, Hy, rfl, hrowy, hw.part (List.sublist_append_left _ _)⟩)
end Go.Proofs.Ytphnfhonmbbddaa
