/- The reference: said, exact, all, two, adopts, carries, Allowed. -/
import Derived.Test.YtphnfhonmbbddaaGreatR11a
namespace Go.Proofs.YtphnfhonmbbddaaGreat
open Go Go.RowKit
set_option linter.unusedVariables false

def saidP (m : Int) (v : Vt) (s k r : Int) (mx : Bool) (u : Vt) : Bool := ((((u.signer == s) && (u.kind == k)) && (u.round == r)) && ((mx && (u.choice == 2)) || ((!mx) && sameB v u))) && rcntD m v u
def saidB (m : Int) (v : Vt) (a : List Vt) (s k r : Int) (mx : Bool) : Bool := a.any (saidP m v s k r mx)
set_option maxRecDepth 100000 in
set_option maxHeartbeats 2000000 in
theorem said_c (m : Int) (v : Vt) (a : List Vt) (s k r : Int) (mx : Bool) (A : Option Addr) (c : Nat) (hm : W64 m) (ha : a.length ≤ 1000) (w : World) (hr : Rd w A a) : Calls Tryz.prog 100 #[.int .i64 m, .agg v.cs, .slice A a.length c, .int .i64 s, .int .i64 k, .int .i64 r, .bool mx] w (fun rr w' => rr = .returned (.bool (saidB m v a s k r mx)) ∧ Below w.heap.size w w') := by
 refine calls_W (n := 66) Tryz.func100 rfl [(0, .int .i64 m), (1, .agg v.cs), (2, .slice A a.length c), (3, .int .i64 s), (4, .int .i64 k), (5, .int .i64 r), (6, .bool mx)] rfl ⟨by kernel_rfl, by kernel_rfl⟩ (W.weak (Ψ := St w []) (fun w' h => by rw [h]; exact St.start w) (W.seq (W.rg od2 (T.bx 8 43 (.agg v.cs) (v.cs) tv3 (fun b1 => T.pb 14 false (T.nil (QN.seq (W.seq (W.seq (W.rg od1 (T.pi 15 0 (T.nil (QN.seq (W.block (W.loop (σ := Nat) (fun gs => gs ≤ a.length ∧ (a.take gs).any (saidP m v s k r mx) = false) (fun gs => [(0, .int .i64 m), (2, .slice A a.length c), (3, .int .i64 s), (4, .int .i64 k), (5, .int .i64 r), (6, .bool mx), (8, .pointer (some ⟨b1, 0, none⟩)), (15, .int .i64 gs)]) (fun gs => St w [(b1, Obj.cells v.cs 43 (0, 0))]) (fun gs => a.length - gs) 0 ?_ (by kernel_rfl) (fun w h => h) ?_)))))))))))))))
 ·
  try dsimp only
  exact ⟨Nat.zero_le _, any_zero _ _⟩
 rintro j hI_
 obtain ⟨hj, hany⟩ : j ≤ a.length ∧ (a.take j).any (saidP m v s k r mx) = false := hI_
 refine W.seq (W.seq (W.rg od4 (T.pi 17 j (T.pu 18 (.slice A a.length c) (T.pi 19 ((a.length : Nat) : Int) (T.pb 20 (decide ((j : Int) < ((a.length : Nat) : Int))) (T.nil (QN.seq (W.cd (decide ((j : Int) < ((a.length : Nat) : Int))) (fun h2 => ?_) (fun h2 => ?_))))))))))
 ·
  have h2' := of_decide_eq_true h2
  have hl3 : j < a.length := by omega
  refine W.skip (QN.seq (W.seq (W.block (W.seq (W.rg od6 (T.pu 23 (.slice A a.length c) (T.pi 24 j ?_)))))))
  obtain ⟨b4, o5, hA6, hr7⟩ := (Rd.arr hr _) j hl3
  refine T.ix 25 25 43 22 A a.length c (j : Int) j b4 o5 hA6 rfl (by omega) (T.lr false 26 (a[j]'hl3).cs 43 b4 (o5 + j * 22) hr7 (T.al 16 43 Vt.zero.cs tv3 (fun b8 => T.sp 43 b8 0 (.agg (a[j]'hl3).cs) Vt.zero.cs (a[j]'hl3).cs 43 pm0 tv2 (T.nil (QN.seq (W.seq (W.rg [(0, false), (1, false), (2, false), (3, false), (4, false), (5, false), (6, false), (7, false), (8, false), (9, false), (10, false), (11, false), (12, false), (13, false), (14, false), (15, false), (16, false), (17, false), (18, false), (19, false), (20, false), (21, false), (22, false), (23, false), (24, false), (25, false), (26, false), (27, false), (28, false), (29, false), (30, false), (31, false), (32, false), (33, false), (34, false), (35, false), (36, false), (37, false), (38, false)] (T.pu 27 (.pointer (some ⟨b8, 4, none⟩)) (T.ld false 28 (.int .i64 ((a[j]'hl3).signer)) 3 b8 4 (fun w h => St.cellM h mm0 (by kernel_rfl)) (T.pi 29 s (T.pb 30 (((a[j]'hl3).signer) == s) (T.pb 31 (((a[j]'hl3).signer) == s) (T.bk [(5, false), (6, false), (7, false), (8, false)] [(9, false), (10, false), (11, false), (12, false), (13, false), (14, false), (15, false), (16, false), (17, false), (18, false), (19, false), (20, false), (21, false), (22, false), (23, false), (24, false), (25, false), (26, false), (27, false), (28, false), (29, false), (30, false), (31, false), (32, false), (33, false), (34, false), (35, false), (36, false), (37, false), (38, false)] 4 true (((a[j]'hl3).signer) == s) 31 35 (.bool (((a[j]'hl3).kind) == k)) (fun hg9 => ?_) ?_)))))))))))))
  ·
   have hg9_ := hg9
   refine T.pu 32 (.pointer (some ⟨b8, 0, none⟩)) (T.ld false 33 (.int .i64 ((a[j]'hl3).kind)) 3 b8 0 (fun w h => St.cellM h mm0 (by kernel_rfl)) (T.pi 34 k (T.pb 35 (((a[j]'hl3).kind) == k) ?_)))
   exact T.blkEnd (by kernel_rfl) (fun w h => h)
  refine T.an 36 (((a[j]'hl3).signer) == s) (((a[j]'hl3).kind) == k) (T.pb 37 ((((a[j]'hl3).signer) == s) && (((a[j]'hl3).kind) == k)) (T.bk [(11, false), (12, false), (13, false), (14, false)] [(15, false), (16, false), (17, false), (18, false), (19, false), (20, false), (21, false), (22, false), (23, false), (24, false), (25, false), (26, false), (27, false), (28, false), (29, false), (30, false), (31, false), (32, false), (33, false), (34, false), (35, false), (36, false), (37, false), (38, false)] 10 true ((((a[j]'hl3).signer) == s) && (((a[j]'hl3).kind) == k)) 37 41 (.bool (((a[j]'hl3).round) == r)) (fun hg10 => ?_) ?_))
  ·
   have hg10_ := hg10
   have hg10l := (Bool.and_eq_true_iff.1 hg10).1
   have hg10r := (Bool.and_eq_true_iff.1 hg10).2
   refine T.pu 38 (.pointer (some ⟨b8, 2, none⟩)) (T.ld false 39 (.int .i64 ((a[j]'hl3).round)) 3 b8 2 (fun w h => St.cellM h mm0 (by kernel_rfl)) (T.pi 40 r (T.pb 41 (((a[j]'hl3).round) == r) ?_)))
   exact T.blkEnd (by kernel_rfl) (fun w h => h)
  refine T.an 42 ((((a[j]'hl3).signer) == s) && (((a[j]'hl3).kind) == k)) (((a[j]'hl3).round) == r) (T.pb 43 (((((a[j]'hl3).signer) == s) && (((a[j]'hl3).kind) == k)) && (((a[j]'hl3).round) == r)) (T.bk [(17, false), (18, false), (19, false), (20, false), (21, false), (22, false), (23, false), (24, false), (25, false), (26, false), (27, false), (28, false), (29, false), (30, false), (31, false)] [(32, false), (33, false), (34, false), (35, false), (36, false), (37, false), (38, false)] 16 true (((((a[j]'hl3).signer) == s) && (((a[j]'hl3).kind) == k)) && (((a[j]'hl3).round) == r)) 43 58 (.bool ((mx && (((a[j]'hl3).choice) == 2)) || ((!mx) && (sameB v (a[j]'hl3))))) (fun hg11 => ?_) ?_))
  ·
   have hg11_ := hg11
   have hg11l := (Bool.and_eq_true_iff.1 hg11).1
   have hg11r := (Bool.and_eq_true_iff.1 hg11).2
   have hg11ll := (Bool.and_eq_true_iff.1 hg11l).1
   have hg11lr := (Bool.and_eq_true_iff.1 hg11l).2
   refine T.pb 44 mx (T.pb 45 mx (T.bk [(19, false), (20, false), (21, false)] [(22, false), (23, false), (24, false), (25, false), (26, false), (27, false), (28, false), (29, false), (30, false), (31, false)] 18 true mx 45 48 (.bool (((a[j]'hl3).choice) == 2)) (fun hg12 => ?_) ?_))
   ·
    have hg12_ := hg12
    refine T.pu 46 (.pointer (some ⟨b8, 3, none⟩)) (T.ld false 47 (.int .i64 ((a[j]'hl3).choice)) 3 b8 3 (fun w h => St.cellM h mm0 (by kernel_rfl)) (T.pb 48 (((a[j]'hl3).choice) == 2) ?_))
    exact T.blkEnd (by kernel_rfl) (fun w h => h)
   refine T.an 49 mx (((a[j]'hl3).choice) == 2) (T.pb 50 (mx && (((a[j]'hl3).choice) == 2)) (T.bk [(24, false), (25, false), (26, false), (27, false), (28, false), (29, false), (30, false)] [(31, false)] 23 false (mx && (((a[j]'hl3).choice) == 2)) 50 57 (.bool ((!mx) && (sameB v (a[j]'hl3)))) (fun hg13 => ?_) ?_))
   ·
    have hg13_ := hg13
    refine T.pb 51 mx (T.pb 52 (!mx) (T.pb 53 (!mx) (T.bk [(27, false), (28, false), (29, false)] [(30, false)] 26 true (!mx) 53 56 (.bool (sameB v (a[j]'hl3))) (fun hg14 => ?_) ?_)))
    ·
     have hg14_ := hg14
     have hg14n := not_eq_true hg14
     refine T.lr false 54 v.cs 43 b1 0 (fun w h => St.rangeM h v.cs mm1 (by kernel_rfl)) (T.lr false 55 (a[j]'hl3).cs 43 b8 0 (fun w h => St.rangeM h (a[j]'hl3).cs mm0 (by kernel_rfl)) (T.cp 56 104 #[.agg v.cs, .agg (a[j]'hl3).cs] (.bool (sameB v (a[j]'hl3))) ent104 (fun w hw => rlike_c _ _ w) tv2 ?_))
     exact T.blkEnd (by kernel_rfl) (fun w h => h)
    refine T.an 57 (!mx) (sameB v (a[j]'hl3)) ?_
    exact T.blkEnd (by kernel_rfl) (fun w h => h)
   refine T.oo 58 (mx && (((a[j]'hl3).choice) == 2)) ((!mx) && (sameB v (a[j]'hl3))) ?_
   exact T.blkEnd (by kernel_rfl) (fun w h => h)
  refine T.an 59 (((((a[j]'hl3).signer) == s) && (((a[j]'hl3).kind) == k)) && (((a[j]'hl3).round) == r)) ((mx && (((a[j]'hl3).choice) == 2)) || ((!mx) && (sameB v (a[j]'hl3)))) (T.pb 60 ((((((a[j]'hl3).signer) == s) && (((a[j]'hl3).kind) == k)) && (((a[j]'hl3).round) == r)) && ((mx && (((a[j]'hl3).choice) == 2)) || ((!mx) && (sameB v (a[j]'hl3))))) (T.bk [(34, false), (35, false), (36, false), (37, false)] [(38, false)] 33 true ((((((a[j]'hl3).signer) == s) && (((a[j]'hl3).kind) == k)) && (((a[j]'hl3).round) == r)) && ((mx && (((a[j]'hl3).choice) == 2)) || ((!mx) && (sameB v (a[j]'hl3))))) 60 64 (.bool (rcntD m v (a[j]'hl3))) (fun hg15 => ?_) ?_))
  ·
   have hg15_ := hg15
   have hg15l := (Bool.and_eq_true_iff.1 hg15).1
   have hg15r := (Bool.and_eq_true_iff.1 hg15).2
   have hg15ll := (Bool.and_eq_true_iff.1 hg15l).1
   have hg15lr := (Bool.and_eq_true_iff.1 hg15l).2
   have hg15lll := (Bool.and_eq_true_iff.1 hg15ll).1
   have hg15llr := (Bool.and_eq_true_iff.1 hg15ll).2
   refine T.pi 61 m (T.lr false 62 v.cs 43 b1 0 (fun w h => St.rangeM h v.cs mm1 (by kernel_rfl)) (T.lr false 63 (a[j]'hl3).cs 43 b8 0 (fun w h => St.rangeM h (a[j]'hl3).cs mm0 (by kernel_rfl)) (T.cp 64 125 #[.int .i64 m, .agg v.cs, .agg (a[j]'hl3).cs] (.bool (rcntD m v (a[j]'hl3))) ent125 (fun w hw => rcnt_c _ _ _ (by assumption) w) tv2 ?_)))
   exact T.blkEnd (by kernel_rfl) (fun w h => h)
  refine T.an 65 ((((((a[j]'hl3).signer) == s) && (((a[j]'hl3).kind) == k)) && (((a[j]'hl3).round) == r)) && ((mx && (((a[j]'hl3).choice) == 2)) || ((!mx) && (sameB v (a[j]'hl3))))) (rcntD m v (a[j]'hl3)) (T.nil (QN.seq (W.cd (((((((a[j]'hl3).signer) == s) && (((a[j]'hl3).kind) == k)) && (((a[j]'hl3).round) == r)) && ((mx && (((a[j]'hl3).choice) == 2)) || ((!mx) && (sameB v (a[j]'hl3))))) && (rcntD m v (a[j]'hl3))) (fun h16 => ?_) (fun h16 => ?_))))
  ·
   have h16l := (Bool.and_eq_true_iff.1 h16).1
   have h16r := (Bool.and_eq_true_iff.1 h16).2
   have h16ll := (Bool.and_eq_true_iff.1 h16l).1
   have h16lr := (Bool.and_eq_true_iff.1 h16l).2
   have h16lll := (Bool.and_eq_true_iff.1 h16ll).1
   have h16llr := (Bool.and_eq_true_iff.1 h16ll).2
   have h16llll := (Bool.and_eq_true_iff.1 h16lll).1
   have h16lllr := (Bool.and_eq_true_iff.1 h16lll).2
   refine W.seq (W.rg od1 (T.pb 14 true (T.nil (QN.seq (W.ret (QN.blkRet (QN.thenRet (QN.thenRet (QN.blkRet (QN.thenRet (QN.done (.inl rfl) 14 (.bool true) rfl (by kernel_rfl) (fun w hw => ⟨?_, hw.below⟩))))))))))))
   exact ret_bool (any_hit (by omega) h16).symm
  ·
   refine W.skip (QN.blkNormal (QN.seq (W.rg od3 (T.pi 21 j (T.pw 22 ((j : Int) + 1) (T.pi 15 ((j : Int) + 1) (T.nil (QN.back (j + 1) ?_ ?_ (by kernel_rfl) (fun w h => (h.perm pm1).part ns1)))))))))
   ·
    try dsimp only
    exact ⟨by omega, any_step hany (by omega) h16⟩
   · show a.length - (j + 1) < a.length - j; omega
 ·
  have h2' := of_decide_eq_false h2
  refine W.exit (QN.thenExit (QN.thenExit (QN.blkHit (QN.seq (W.seq (W.rg od1 (T.pb 14 false (T.nil (QN.seq (W.ret (QN.done (.inl rfl) 14 (.bool false) rfl (by kernel_rfl) (fun w hw => ⟨?_, hw.below⟩))))))))))))
  exact ret_bool (any_end hany (by omega)).symm
def exactB (m s : Int) : Bool := (idsI s).all (fun i => hasB m i) && ((((idsI s).length : Nat) : Int) == quorum (size m))
set_option maxRecDepth 100000 in
set_option maxHeartbeats 2000000 in
theorem exact_c (m s : Int) (hm : W64 m) (hs : W64 s) (w : World) : Calls Tryz.prog 105 #[.int .i64 m, .int .i64 s] w (fun rr w' => rr = .returned (.bool (exactB m s)) ∧ Below w.heap.size w w') := by
 have hl := idsI_len s
 have hz := size_le m
 refine calls_W (n := 28) Tryz.func105 rfl [(0, .int .i64 m), (1, .int .i64 s)] rfl ⟨by kernel_rfl, by kernel_rfl⟩ (W.weak (Ψ := St w []) (fun w' h => by rw [h]; exact St.start w) (W.seq (W.rg od1 (T.pb 4 false (T.nil (QN.seq (W.seq (W.rg od3 (T.pi 7 s (T.callR 8 26 #[.int .i64 s] 3 1 (idsI s).length (cells (idsI s)) (by kernel_rfl) (by kernel_rfl) ent26 (fun w hw => rids_r _ (by assumption) w) tv3 (fun A1 c2 Hr3 hrow4 => T.pu 5 (.slice A1 ((idsI s).length) c2) (T.nil (QN.seq (W.seq (W.seq (W.rg od1 (T.pi 6 0 (T.nil (QN.seq (W.block (W.loop (σ := Nat) (fun gs => gs ≤ (idsI s).length ∧ ((idsI s).take gs).all (fun i => hasB m i) = true) (fun gs => [(0, .int .i64 m), (5, .slice A1 ((idsI s).length) c2), (6, .int .i64 gs)]) (fun gs => St w (Hr3 ++ [])) (fun gs => (idsI s).length - gs) 0 ?_ (by kernel_rfl) (fun w h => h) ?_)))))))))))))))))))))
 ·
  try dsimp only
  exact ⟨Nat.zero_le _, all_zero _ _⟩
 rintro j hI_
 obtain ⟨hj, hall⟩ : j ≤ (idsI s).length ∧ ((idsI s).take j).all (fun i => hasB m i) = true := hI_
 refine W.seq (W.seq (W.rg od4 (T.pi 9 j (T.pu 10 (.slice A1 ((idsI s).length) c2) (T.pi 11 (((idsI s).length : Nat) : Int) (T.pb 12 (decide ((j : Int) < (((idsI s).length : Nat) : Int))) (T.nil (QN.seq (W.cd (decide ((j : Int) < (((idsI s).length : Nat) : Int))) (fun h5 => ?_) (fun h5 => ?_))))))))))
 ·
  have h5' := of_decide_eq_true h5
  have hl6 : j < (idsI s).length := by omega
  refine W.skip (QN.seq (W.seq (W.block (W.seq (W.rg od7 (T.pi 15 m (T.pu 16 (.slice A1 ((idsI s).length) c2) (T.pi 17 j ?_))))))))
  obtain ⟨b7, o8, hA9, hr10⟩ := (Arr.row hrow4 rfl rfl _) j hl6
  refine T.ix 18 44 3 1 A1 ((idsI s).length) c2 (j : Int) j b7 o8 hA9 rfl (by omega) (T.ld false 19 (.int .i64 ((idsI s)[j]'hl6)) 3 b7 (o8 + j * 1) (fun w h => cell_of_range (hr10 w h) 0 (by kernel_rfl)) (T.cp 20 53 #[.int .i64 m, .int .i64 ((idsI s)[j]'hl6)] (.bool (hasB m ((idsI s)[j]'hl6))) ent53 (fun w hw => Ret.same (rhas_c _ _ w (by assumption))) tv2 (T.pb 21 (!(hasB m ((idsI s)[j]'hl6))) (T.nil (QN.seq (W.cd (!(hasB m ((idsI s)[j]'hl6))) (fun h11 => ?_) (fun h11 => ?_)))))))
  ·
   have h11n := not_eq_true h11
   refine W.seq (W.rg od1 (T.pb 4 false (T.nil (QN.seq (W.ret (QN.blkRet (QN.thenRet (QN.thenRet (QN.blkRet (QN.thenRet (QN.done (.inl rfl) 4 (.bool false) rfl (by kernel_rfl) (fun w hw => ⟨?_, hw.below⟩))))))))))))
   exact ret_bool (by unfold exactB; rw [all_miss (p := fun i => hasB m i) (j := j) (by omega) (not_eq_true h11)]; rfl)
  ·
   have h11n := not_eq_false h11
   have h11nb := hasB_lt h11n
   refine W.skip (QN.blkNormal (QN.seq (W.rg od3 (T.pi 13 j (T.pw 14 ((j : Int) + 1) (T.pi 6 ((j : Int) + 1) (T.nil (QN.back (j + 1) ?_ ?_ (by kernel_rfl) (fun w h => h)))))))))
   ·
    try dsimp only
    exact ⟨by omega, all_step hall (by omega) (not_eq_false h11)⟩
   · show (idsI s).length - (j + 1) < (idsI s).length - j; omega
 ·
  have h5' := of_decide_eq_false h5
  refine W.exit (QN.thenExit (QN.thenExit (QN.blkHit (QN.seq (W.seq (W.rg od7 (T.pu 22 (.slice A1 ((idsI s).length) c2) (T.pi 23 (((idsI s).length : Nat) : Int) (T.pi 24 m (T.cp 25 30 #[.int .i64 m] (.int .i64 (size m : Int)) ent30 (fun w hw => rsize_c _ (by assumption) w) tv2 (T.cp 26 29 #[.int .i64 (size m : Int)] (.int .i64 (quorum (size m : Int))) ent29 (fun w hw => Ret.same (rquorum_c _ w (by unfold W64; omega))) tv2 (T.pb 27 ((((idsI s).length : Nat) : Int) == (quorum (size m : Int))) (T.pb 4 ((((idsI s).length : Nat) : Int) == (quorum (size m : Int))) (T.nil (QN.seq (W.ret (QN.done (.inl rfl) 4 (.bool ((((idsI s).length : Nat) : Int) == (quorum (size m : Int)))) rfl (by kernel_rfl) (fun w hw => ⟨?_, hw.below⟩))))))))))))))))))
  exact ret_bool (by unfold exactB; rw [all_end hall (by omega)]; rfl)
def allR (m : Int) (v : Vt) (a : List Vt) (k r : Int) : Bool := (idsI v.support).all (fun i => saidB m v a i k r false) && exactB m v.support
set_option maxRecDepth 100000 in
set_option maxHeartbeats 2000000 in
theorem all_c (m : Int) (v : Vt) (a : List Vt) (k r : Int) (A : Option Addr) (c : Nat) (hm : W64 m) (hv : W64 v.support) (ha : a.length ≤ 1000) (w : World) (hr : Rd w A a) : Calls Tryz.prog 101 #[.int .i64 m, .agg v.cs, .slice A a.length c, .int .i64 k, .int .i64 r] w (fun rr w' => rr = .returned (.bool (allR m v a k r)) ∧ Below w.heap.size w w') := by
 have hl := idsI_len v.support
 refine calls_W (n := 37) Tryz.func101 rfl [(0, .int .i64 m), (1, .agg v.cs), (2, .slice A a.length c), (3, .int .i64 k), (4, .int .i64 r)] rfl ⟨by kernel_rfl, by kernel_rfl⟩ (W.weak (Ψ := St w []) (fun w' h => by rw [h]; exact St.start w) (W.seq (W.rg od2 (T.bx 6 43 (.agg v.cs) (v.cs) tv3 (fun b1 => T.pb 10 false (T.nil (QN.seq (W.seq (W.rg od4 (T.pu 13 (.pointer (some ⟨b1, 5, none⟩)) (T.ld false 14 (.int .i64 v.support) 22 b1 5 (fun w h => St.cellM h mm0 (by kernel_rfl)) (T.callR 15 26 #[.int .i64 v.support] 3 1 (idsI v.support).length (cells (idsI v.support)) (by kernel_rfl) (by kernel_rfl) ent26 (fun w hw => rids_r _ hv w) tv3 (fun A2 c3 Hr4 hrow5 => T.pu 11 (.slice A2 ((idsI v.support).length) c3) (T.nil (QN.seq (W.seq (W.seq (W.rg od1 (T.pi 12 0 (T.nil (QN.seq (W.block (W.loop (σ := Nat) (fun gs => gs ≤ (idsI v.support).length ∧ ((idsI v.support).take gs).all (fun i => saidB m v a i k r false) = true) (fun gs => [(0, .int .i64 m), (2, .slice A a.length c), (3, .int .i64 k), (4, .int .i64 r), (6, .pointer (some ⟨b1, 0, none⟩)), (11, .slice A2 ((idsI v.support).length) c3), (12, .int .i64 gs)]) (fun gs => St w (Hr4 ++ [(b1, Obj.cells v.cs 43 (0, 0))])) (fun gs => (idsI v.support).length - gs) 0 ?_ (by kernel_rfl) (fun w h => h) ?_)))))))))))))))))))))))
 ·
  try dsimp only
  exact ⟨Nat.zero_le _, all_zero _ _⟩
 rintro j hI_
 obtain ⟨hj, hall⟩ : j ≤ (idsI v.support).length ∧ ((idsI v.support).take j).all (fun i => saidB m v a i k r false) = true := hI_
 refine W.seq (W.seq (W.rg od4 (T.pi 16 j (T.pu 17 (.slice A2 ((idsI v.support).length) c3) (T.pi 18 (((idsI v.support).length : Nat) : Int) (T.pb 19 (decide ((j : Int) < (((idsI v.support).length : Nat) : Int))) (T.nil (QN.seq (W.cd (decide ((j : Int) < (((idsI v.support).length : Nat) : Int))) (fun h6 => ?_) (fun h6 => ?_))))))))))
 ·
  have h6' := of_decide_eq_true h6
  have hl7 : j < (idsI v.support).length := by omega
  refine W.skip (QN.seq (W.seq (W.block (W.seq (W.drawn (Ψ := St w (Hr4 ++ [(b1, Obj.cells v.cs 43 (0, 0))])) (St w (Hr4 ++ [(b1, Obj.cells v.cs 43 (0, 0))])) [(0, true), (1, true), (2, true), (3, true), (4, true), (5, true), (6, true), (7, true), (8, true), (9, false), (10, true)] hmx (by kernel_rfl) (NoPanic.then (NoPanic.inBlock (NoPanic.then (NoPanic.then (NoPanic.inBlock (NoPanic.then NoPanic.body)))))) (fun w h => h.drew) (fun w h => h) (T.pi 22 m (T.lr true 23 v.cs 43 b1 0 (fun w h => St.rangeM h v.cs (List.mem_append_right _ mm0) (by kernel_rfl)) (T.pu 24 (.slice A a.length c) (T.pu 25 (.slice A2 ((idsI v.support).length) c3) (T.pi 26 j ?_))))))))))
  obtain ⟨b8, o9, hA10, hr11⟩ := (Arr.row hrow5 rfl rfl _) j hl7
  refine T.ix 27 44 3 1 A2 ((idsI v.support).length) c3 (j : Int) j b8 o9 hA10 rfl (by omega) (T.ld true 28 (.int .i64 ((idsI v.support)[j]'hl7)) 3 b8 (o9 + j * 1) (fun w h => cell_of_range (hr11 w h) 0 (by kernel_rfl)) (T.pi 29 k (T.pi 30 r (T.cp 31 100 #[.int .i64 m, .agg v.cs, .slice A a.length c, .int .i64 ((idsI v.support)[j]'hl7), .int .i64 k, .int .i64 r, .bool false] (.bool (saidB m v a ((idsI v.support)[j]'hl7) k r false)) ent100 (fun w hw => said_c _ _ _ _ _ _ _ _ _ (by assumption) (by first | omega | (simp; done) | (simp; omega)) w (Arr.rd (Rd.arr hr _) hw)) (fun w h => h) (T.pb 32 (!(saidB m v a ((idsI v.support)[j]'hl7) k r false)) (T.nil (QN.seq (W.cd (!(saidB m v a ((idsI v.support)[j]'hl7) k r false)) (fun h12 => ?_) (fun h12 => ?_)))))))))
  ·
   have h12n := not_eq_true h12
   refine W.seq (W.rg od1 (T.pb 10 false (T.nil (QN.seq (W.ret (QN.blkRet (QN.thenRet (QN.thenRet (QN.blkRet (QN.thenRet (QN.done (.inl rfl) 10 (.bool false) rfl (by kernel_rfl) (fun w hw => ⟨?_, hw.below⟩))))))))))))
   exact ret_bool (by unfold allR; rw [all_miss (p := fun i => saidB m v a i k r false) (j := j) (by omega) (not_eq_true h12)]; rfl)
  ·
   have h12n := not_eq_false h12
   refine W.skip (QN.blkNormal (QN.seq (W.rg od3 (T.pi 20 j (T.pw 21 ((j : Int) + 1) (T.pi 12 ((j : Int) + 1) (T.nil (QN.back (j + 1) ?_ ?_ (by kernel_rfl) (fun w h => h)))))))))
   ·
    try dsimp only
    exact ⟨by omega, all_step hall (by omega) (not_eq_false h12)⟩
   · show (idsI v.support).length - (j + 1) < (idsI v.support).length - j; omega
 ·
  have h6' := of_decide_eq_false h6
  refine W.exit (QN.thenExit (QN.thenExit (QN.blkHit (QN.seq (W.seq (W.rg od5 (T.pi 33 m (T.pu 34 (.pointer (some ⟨b1, 5, none⟩)) (T.ld false 35 (.int .i64 v.support) 22 b1 5 (fun w h => St.cellM h (List.mem_append_right _ mm0) (by kernel_rfl)) (T.cp 36 105 #[.int .i64 m, .int .i64 v.support] (.bool (exactB m v.support)) ent105 (fun w hw => exact_c _ _ (by assumption) hv w) tv2 (T.pb 10 (exactB m v.support) (T.nil (QN.seq (W.ret (QN.done (.inl rfl) 10 (.bool (exactB m v.support)) rfl (by kernel_rfl) (fun w hw => ⟨?_, hw.below⟩))))))))))))))))
  exact ret_bool (by unfold allR; rw [all_end hall (by omega)]; rfl)
def twoSkip (m : Int) (v u : Vt) : Bool := (((u.kind != 3) || (u.round != v.round)) || (!(hasB v.support u.signer))) || (!(rcntD m v u))
def twoStep (m : Int) (v : Vt) (s : Int × Vt × Bool × Bool) (u : Vt) : Int × Vt × Bool × Bool :=
  bif twoSkip m v u then s else (bits .or .i64 s.1 (bitD u.signer), (bif s.2.2.1 then s.2.1 else u), true, (s.2.2.2 || (s.2.2.1 && !(sameB s.2.1 u))))
def twoS (m : Int) (v : Vt) (l : List Vt) : Int × Vt × Bool × Bool := l.foldl (twoStep m v) (0, Vt.zero, false, false)
def twoR (m : Int) (v : Vt) (a : List Vt) : Bool := ((twoS m v a).2.2.2 && ((size (twoS m v a).1 : Int) == (size v.support : Int))) && exactB m v.support
theorem twoS_step {m : Int} {v : Vt} {a : List Vt} {j : Nat} {s : Int × Vt × Bool × Bool} (h : twoS m v (a.take j) = s) (hj : j < a.length) : twoS m v (a.take (j + 1)) = twoStep m v s a[j] := by
  unfold twoS at *; rw [foldl_step _ _ hj, h]
theorem sg64 {u : Vt} {s : Int} (h : hasB s u.signer = true) : W64 u.signer := by have := hasB_lt h; unfold W64; omega
set_option maxRecDepth 100000 in
set_option maxHeartbeats 2000000 in
theorem two_c (m : Int) (v : Vt) (a : List Vt) (A : Option Addr) (c : Nat) (hm : W64 m) (hv : W64 v.support) (ha : a.length ≤ 1000) (w : World) (hr : Rd w A a) : Calls Tryz.prog 103 #[.int .i64 m, .agg v.cs, .slice A a.length c] w (fun rr w' => rr = .returned (.bool (twoR m v a)) ∧ Below w.heap.size w w') := by
 have hz := size_le v.support
 refine calls_W (n := 78) Tryz.func103 rfl [(0, .int .i64 m), (1, .agg v.cs), (2, .slice A a.length c)] rfl ⟨by kernel_rfl, by kernel_rfl⟩ (W.weak (Ψ := St w []) (fun w' h => by rw [h]; exact St.start w) (W.seq (W.rg od2 (T.bx 4 43 (.agg v.cs) (v.cs) tv3 (fun b1 => T.pb 6 false (T.nil (QN.seq (W.seq (W.rg od1 (T.pi 7 0 (T.nil (QN.seq (W.seq (W.rg od1 (T.al 8 43 Vt.zero.cs tv3 (fun b2 => T.nil (QN.seq (W.seq (W.rg od2 (T.pb 9 false (T.pb 10 false (T.nil (QN.seq (W.seq (W.seq (W.rg od1 (T.pi 11 0 (T.nil (QN.seq (W.block (W.loop (σ := Nat × Int × Vt × Bool × Bool) (fun gs => gs.1 ≤ a.length ∧ twoS m v (a.take gs.1) = (gs.2.1, gs.2.2.1, gs.2.2.2.1, gs.2.2.2.2) ∧ W64 gs.2.1) (fun gs => [(0, .int .i64 m), (2, .slice A a.length c), (4, .pointer (some ⟨b1, 0, none⟩)), (6, .bool false), (7, .int .i64 gs.2.1), (8, .pointer (some ⟨b2, 0, none⟩)), (9, .bool gs.2.2.2.1), (10, .bool gs.2.2.2.2), (11, .int .i64 (gs.1 : Int))]) (fun gs => St w [(b2, Obj.cells gs.2.2.1.cs 43 (0, 0)), (b1, Obj.cells v.cs 43 (0, 0))]) (fun gs => a.length - gs.1) (0, 0, Vt.zero, false, false) ?_ (by kernel_rfl) (fun w h => h) ?_)))))))))))))))))))))))))))))))
 ·
  try dsimp only
  exact ⟨Nat.zero_le _, rfl, by unfold W64; omega⟩
 rintro ⟨j, hv7, f, fo, un⟩ hI_
 obtain ⟨hj, htwo, h64⟩ : j ≤ a.length ∧ twoS m v (a.take j) = (hv7, f, fo, un) ∧ W64 hv7 := hI_
 refine W.seq (W.seq (W.rg od4 (T.pi 13 j (T.pu 14 (.slice A a.length c) (T.pi 15 ((a.length : Nat) : Int) (T.pb 16 (decide ((j : Int) < ((a.length : Nat) : Int))) (T.nil (QN.seq (W.cd (decide ((j : Int) < ((a.length : Nat) : Int))) (fun h3 => ?_) (fun h3 => ?_))))))))))
 ·
  have h3' := of_decide_eq_true h3
  have hl4 : j < a.length := by omega
  refine W.skip (QN.seq (W.seq (W.block (W.seq (W.rg od6 (T.pu 19 (.slice A a.length c) (T.pi 20 j ?_)))))))
  obtain ⟨b5, o6, hA7, hr8⟩ := (Rd.arr hr _) j hl4
  refine T.ix 21 25 43 22 A a.length c (j : Int) j b5 o6 hA7 rfl (by omega) (T.lr false 22 (a[j]'hl4).cs 43 b5 (o6 + j * 22) hr8 (T.al 12 43 Vt.zero.cs tv3 (fun b9 => T.sp 43 b9 0 (.agg (a[j]'hl4).cs) Vt.zero.cs (a[j]'hl4).cs 43 pm0 tv2 (T.nil (QN.seq (W.seq (W.seq (W.rg od25 (T.pu 23 (.pointer (some ⟨b9, 0, none⟩)) (T.ld false 24 (.int .i64 ((a[j]'hl4).kind)) 3 b9 0 (fun w h => St.cellM h mm0 (by kernel_rfl)) (T.pb 25 (((a[j]'hl4).kind) != 3) (T.pb 26 (((a[j]'hl4).kind) != 3) (T.bk [(4, false), (5, false), (6, false), (7, false), (8, false)] [(9, false), (10, false), (11, false), (12, false), (13, false), (14, false), (15, false), (16, false), (17, false), (18, false), (19, false), (20, false), (21, false), (22, false), (23, false), (24, false)] 3 false (((a[j]'hl4).kind) != 3) 26 31 (.bool (((a[j]'hl4).round) != v.round)) (fun hg10 => ?_) ?_)))))))))))))
  ·
   have hg10_ := hg10
   refine T.pu 27 (.pointer (some ⟨b9, 2, none⟩)) (T.ld false 28 (.int .i64 ((a[j]'hl4).round)) 3 b9 2 (fun w h => St.cellM h mm0 (by kernel_rfl)) (T.pu 29 (.pointer (some ⟨b1, 2, none⟩)) (T.ld false 30 (.int .i64 v.round) 3 b1 2 (fun w h => St.cellM h mm2 (by kernel_rfl)) (T.pb 31 (((a[j]'hl4).round) != v.round) ?_))))
   exact T.blkEnd (by kernel_rfl) (fun w h => h)
  refine T.oo 32 (((a[j]'hl4).kind) != 3) (((a[j]'hl4).round) != v.round) (T.pb 33 ((((a[j]'hl4).kind) != 3) || (((a[j]'hl4).round) != v.round)) (T.bk [(11, false), (12, false), (13, false), (14, false), (15, false), (16, false)] [(17, false), (18, false), (19, false), (20, false), (21, false), (22, false), (23, false), (24, false)] 10 false ((((a[j]'hl4).kind) != 3) || (((a[j]'hl4).round) != v.round)) 33 39 (.bool (!(hasB v.support ((a[j]'hl4).signer)))) (fun hg11 => ?_) ?_))
  ·
   have hg11_ := hg11
   have hg11l := (Bool.or_eq_false_iff.1 hg11).1
   have hg11r := (Bool.or_eq_false_iff.1 hg11).2
   refine T.pu 34 (.pointer (some ⟨b1, 5, none⟩)) (T.ld false 35 (.int .i64 v.support) 22 b1 5 (fun w h => St.cellM h mm2 (by kernel_rfl)) (T.pu 36 (.pointer (some ⟨b9, 4, none⟩)) (T.ld false 37 (.int .i64 ((a[j]'hl4).signer)) 3 b9 4 (fun w h => St.cellM h mm0 (by kernel_rfl)) (T.cp 38 53 #[.int .i64 v.support, .int .i64 ((a[j]'hl4).signer)] (.bool (hasB v.support ((a[j]'hl4).signer))) ent53 (fun w hw => Ret.same (rhas_c _ _ w hv)) tv2 (T.pb 39 (!(hasB v.support ((a[j]'hl4).signer))) ?_)))))
   exact T.blkEnd (by kernel_rfl) (fun w h => h)
  refine T.oo 40 ((((a[j]'hl4).kind) != 3) || (((a[j]'hl4).round) != v.round)) (!(hasB v.support ((a[j]'hl4).signer))) (T.pb 41 (((((a[j]'hl4).kind) != 3) || (((a[j]'hl4).round) != v.round)) || (!(hasB v.support ((a[j]'hl4).signer)))) (T.bk [(19, false), (20, false), (21, false), (22, false), (23, false)] [(24, false)] 18 false (((((a[j]'hl4).kind) != 3) || (((a[j]'hl4).round) != v.round)) || (!(hasB v.support ((a[j]'hl4).signer)))) 41 46 (.bool (!(rcntD m v (a[j]'hl4)))) (fun hg12 => ?_) ?_))
  ·
   have hg12_ := hg12
   have hg12l := (Bool.or_eq_false_iff.1 hg12).1
   have hg12r := (Bool.or_eq_false_iff.1 hg12).2
   have hg12ll := (Bool.or_eq_false_iff.1 hg12l).1
   have hg12lr := (Bool.or_eq_false_iff.1 hg12l).2
   have hg12rn := not_eq_false hg12r
   have hg12rnb := hasB_lt hg12rn
   refine T.pi 42 m (T.lr false 43 v.cs 43 b1 0 (fun w h => St.rangeM h v.cs mm2 (by kernel_rfl)) (T.lr false 44 (a[j]'hl4).cs 43 b9 0 (fun w h => St.rangeM h (a[j]'hl4).cs mm0 (by kernel_rfl)) (T.cp 45 125 #[.int .i64 m, .agg v.cs, .agg (a[j]'hl4).cs] (.bool (rcntD m v (a[j]'hl4))) ent125 (fun w hw => rcnt_c _ _ _ (by assumption) w) tv2 (T.pb 46 (!(rcntD m v (a[j]'hl4))) ?_))))
   exact T.blkEnd (by kernel_rfl) (fun w h => h)
  refine T.oo 47 (((((a[j]'hl4).kind) != 3) || (((a[j]'hl4).round) != v.round)) || (!(hasB v.support ((a[j]'hl4).signer)))) (!(rcntD m v (a[j]'hl4))) (T.nil (QN.seq (W.cd ((((((a[j]'hl4).kind) != 3) || (((a[j]'hl4).round) != v.round)) || (!(hasB v.support ((a[j]'hl4).signer)))) || (!(rcntD m v (a[j]'hl4)))) (fun h13 => ?_) (fun h13 => ?_))))
  ·
   refine W.exit (QN.thenExit (QN.blkHit (QN.seq (W.rg od3 (T.pi 17 j (T.pw 18 ((j : Int) + 1) (T.pi 11 ((j : Int) + 1) (T.nil (QN.back (j + 1, hv7, f, fo, un) ?_ ?_ (by kernel_rfl) (fun w h => (h.perm (pm1.trans (pm1.cons _))).part ns2))))))))))
   ·
    show (j + 1) ≤ a.length ∧ twoS m v (a.take (j + 1)) = (hv7, f, fo, un) ∧ W64 hv7
    refine ⟨by omega, (twoS_step htwo (by omega)).trans ?_, h64⟩; have hsk : twoSkip m v _ = _ := h13; unfold twoStep; rw [hsk]; rfl
   · show a.length - (j + 1) < a.length - j; omega
  ·
   have h13l := (Bool.or_eq_false_iff.1 h13).1
   have h13r := (Bool.or_eq_false_iff.1 h13).2
   have h13ll := (Bool.or_eq_false_iff.1 h13l).1
   have h13lr := (Bool.or_eq_false_iff.1 h13l).2
   have h13lll := (Bool.or_eq_false_iff.1 h13ll).1
   have h13llr := (Bool.or_eq_false_iff.1 h13ll).2
   have h13lrn := not_eq_false h13lr
   have h13lrnb := hasB_lt h13lrn
   have h13rn := not_eq_false h13r
   refine W.skip (QN.seq (W.seq (W.rg od6 (T.pi 48 hv7 (T.pu 49 (.pointer (some ⟨b9, 4, none⟩)) (T.ld false 50 (.int .i64 ((a[j]'hl4).signer)) 3 b9 4 (fun w h => St.cellM h mm0 (by kernel_rfl)) (T.cp 51 54 #[.int .i64 ((a[j]'hl4).signer)] (.int .i64 (bitD ((a[j]'hl4).signer))) ent54 (fun w hw => rbit_cD _ (sg64 (by assumption)) w) tv2 (T.pi 52 (bits .or .i64 hv7 (bitD ((a[j]'hl4).signer))) (T.pi 7 (bits .or .i64 hv7 (bitD ((a[j]'hl4).signer))) (T.nil (QN.seq (W.seq (W.seq (W.rg od7 (T.pb 53 fo (T.pb 54 fo (T.bk [(2, false), (3, false), (4, false), (5, false)] [(6, false)] 1 true fo 54 58 (.bool (!(sameB f (a[j]'hl4)))) (fun hg14 => ?_) ?_)))))))))))))))))
   ·
    have hg14_ := hg14
    refine T.lr false 55 f.cs 43 b2 0 (fun w h => St.rangeM h f.cs mm1 (by kernel_rfl)) (T.lr false 56 (a[j]'hl4).cs 43 b9 0 (fun w h => St.rangeM h (a[j]'hl4).cs mm0 (by kernel_rfl)) (T.cp 57 104 #[.agg f.cs, .agg (a[j]'hl4).cs] (.bool (sameB f (a[j]'hl4))) ent104 (fun w hw => rlike_c _ _ w) tv2 (T.pb 58 (!(sameB f (a[j]'hl4))) ?_)))
    exact T.blkEnd (by kernel_rfl) (fun w h => h)
   refine T.an 59 fo (!(sameB f (a[j]'hl4))) (T.nil (QN.seq (W.cd (fo && (!(sameB f (a[j]'hl4)))) (fun h15 => ?_) (fun h15 => ?_))))
   ·
    have h15l := (Bool.and_eq_true_iff.1 h15).1
    have h15r := (Bool.and_eq_true_iff.1 h15).2
    have h15rn := not_eq_true h15r
    refine W.rg od1 (T.pb 10 true (T.nil (QN.seq (W.seq (W.rg od2 (T.pb 60 fo (T.pb 61 (!fo) (T.nil (QN.seq (W.cd (!fo) (fun h16 => ?_) (fun h16 => ?_)))))))))))
    ·
     have h16n := not_eq_true h16
     refine W.rg od3 (T.lr false 62 (a[j]'hl4).cs 43 b9 0 (fun w h => St.rangeM h (a[j]'hl4).cs mm0 (by kernel_rfl)) (T.sp 43 b2 0 (.agg (a[j]'hl4).cs) f.cs (a[j]'hl4).cs 43 pm1 tv2 (T.pb 9 true (T.nil (QN.blkNormal (QN.seq (W.rg od3 (T.pi 17 j (T.pw 18 ((j : Int) + 1) (T.pi 11 ((j : Int) + 1) (T.nil (QN.back (j + 1, bits .or .i64 hv7 (bitD ((a[j]'hl4).signer)), (a[j]'hl4), true, true) ?_ ?_ (by kernel_rfl) (fun w h => (h.perm (pm0.trans (pm1.cons _))).part ns2)))))))))))))
     ·
      show (j + 1) ≤ a.length ∧ twoS m v (a.take (j + 1)) = ((bits .or .i64 hv7 (bitD ((a[j]'hl4).signer))), (a[j]'hl4), true, true) ∧ W64 (bits .or .i64 hv7 (bitD ((a[j]'hl4).signer)))
      refine ⟨by omega, (twoS_step htwo (by omega)).trans ?_, w64_or _ _⟩; have hsk : twoSkip m v _ = _ := h13; unfold twoStep; rw [hsk]; cases fo <;> cases un <;> simp_all
     · show a.length - (j + 1) < a.length - j; omega
    ·
     have h16n := not_eq_false h16
     refine W.skip (QN.blkNormal (QN.seq (W.rg od3 (T.pi 17 j (T.pw 18 ((j : Int) + 1) (T.pi 11 ((j : Int) + 1) (T.nil (QN.back (j + 1, bits .or .i64 hv7 (bitD ((a[j]'hl4).signer)), f, fo, true) ?_ ?_ (by kernel_rfl) (fun w h => (h.perm (pm1.trans (pm1.cons _))).part ns2)))))))))
     ·
      show (j + 1) ≤ a.length ∧ twoS m v (a.take (j + 1)) = ((bits .or .i64 hv7 (bitD ((a[j]'hl4).signer))), f, fo, true) ∧ W64 (bits .or .i64 hv7 (bitD ((a[j]'hl4).signer)))
      refine ⟨by omega, (twoS_step htwo (by omega)).trans ?_, w64_or _ _⟩; have hsk : twoSkip m v _ = _ := h13; unfold twoStep; rw [hsk]; cases fo <;> cases un <;> simp_all
     · show a.length - (j + 1) < a.length - j; omega
   ·
    refine W.skip (QN.seq (W.seq (W.rg od2 (T.pb 60 fo (T.pb 61 (!fo) (T.nil (QN.seq (W.cd (!fo) (fun h17 => ?_) (fun h17 => ?_)))))))))
    ·
     have h17n := not_eq_true h17
     refine W.rg od3 (T.lr false 62 (a[j]'hl4).cs 43 b9 0 (fun w h => St.rangeM h (a[j]'hl4).cs mm0 (by kernel_rfl)) (T.sp 43 b2 0 (.agg (a[j]'hl4).cs) f.cs (a[j]'hl4).cs 43 pm1 tv2 (T.pb 9 true (T.nil (QN.blkNormal (QN.seq (W.rg od3 (T.pi 17 j (T.pw 18 ((j : Int) + 1) (T.pi 11 ((j : Int) + 1) (T.nil (QN.back (j + 1, bits .or .i64 hv7 (bitD ((a[j]'hl4).signer)), (a[j]'hl4), true, un) ?_ ?_ (by kernel_rfl) (fun w h => (h.perm (pm0.trans (pm1.cons _))).part ns2)))))))))))))
     ·
      show (j + 1) ≤ a.length ∧ twoS m v (a.take (j + 1)) = ((bits .or .i64 hv7 (bitD ((a[j]'hl4).signer))), (a[j]'hl4), true, un) ∧ W64 (bits .or .i64 hv7 (bitD ((a[j]'hl4).signer)))
      refine ⟨by omega, (twoS_step htwo (by omega)).trans ?_, w64_or _ _⟩; have hsk : twoSkip m v _ = _ := h13; unfold twoStep; rw [hsk]; cases fo <;> cases un <;> simp_all
     · show a.length - (j + 1) < a.length - j; omega
    ·
     have h17n := not_eq_false h17
     refine W.skip (QN.blkNormal (QN.seq (W.rg od3 (T.pi 17 j (T.pw 18 ((j : Int) + 1) (T.pi 11 ((j : Int) + 1) (T.nil (QN.back (j + 1, bits .or .i64 hv7 (bitD ((a[j]'hl4).signer)), f, fo, un) ?_ ?_ (by kernel_rfl) (fun w h => (h.perm (pm1.trans (pm1.cons _))).part ns2)))))))))
     ·
      show (j + 1) ≤ a.length ∧ twoS m v (a.take (j + 1)) = ((bits .or .i64 hv7 (bitD ((a[j]'hl4).signer))), f, fo, un) ∧ W64 (bits .or .i64 hv7 (bitD ((a[j]'hl4).signer)))
      refine ⟨by omega, (twoS_step htwo (by omega)).trans ?_, w64_or _ _⟩; have hsk : twoSkip m v _ = _ := h13; unfold twoStep; rw [hsk]; cases fo <;> cases un <;> simp_all
     · show a.length - (j + 1) < a.length - j; omega
 ·
  have h3' := of_decide_eq_false h3
  refine W.exit (QN.thenExit (QN.thenExit (QN.blkHit (QN.seq (W.seq (W.drawn (Ψ := St w [(b2, Obj.cells f.cs 43 (0, 0)), (b1, Obj.cells v.cs 43 (0, 0))]) (St w [(b2, Obj.cells f.cs 43 (0, 0)), (b1, Obj.cells v.cs 43 (0, 0))]) [(0, true), (1, true), (2, true), (4, true), (5, true), (3, false), (6, false), (7, true), (8, true), (9, true), (10, true), (11, true), (12, true), (13, false), (14, true), (15, false)] hmx (by kernel_rfl) (NoPanic.then NoPanic.body) (fun w h => h.drew) (fun w h => h) (T.pb 63 un (T.pb 64 un (T.bk [(2, true), (4, true), (5, true), (3, false), (6, false), (7, true)] [(8, true), (9, true), (10, true), (11, true), (12, true), (13, false), (14, true), (15, false)] 1 true un 64 70 (.bool ((size hv7 : Int) == (size v.support : Int))) (fun hg18 => ?_) ?_)))))))))
  ·
   have hg18_ := hg18
   refine T.pi 65 hv7 (T.pu 67 (.pointer (some ⟨b1, 5, none⟩)) (T.ld true 68 (.int .i64 v.support) 22 b1 5 (fun w h => St.cellM h mm1 (by kernel_rfl)) (T.cp 66 30 #[.int .i64 hv7] (.int .i64 (size hv7 : Int)) ent30 (fun w hw => rsize_c _ (by assumption) w) (fun w h => h) (T.cp 69 30 #[.int .i64 v.support] (.int .i64 (size v.support : Int)) ent30 (fun w hw => rsize_c _ hv w) (fun w h => h) (T.pb 70 ((size hv7 : Int) == (size v.support : Int)) ?_)))))
   exact T.blkEnd (by kernel_rfl) (fun w h => h)
  refine T.an 71 un ((size hv7 : Int) == (size v.support : Int)) (T.pb 72 (un && ((size hv7 : Int) == (size v.support : Int))) (T.bk [(10, true), (11, true), (12, true), (13, false)] [(14, true), (15, false)] 9 true (un && ((size hv7 : Int) == (size v.support : Int))) 72 76 (.bool (exactB m v.support)) (fun hg19 => ?_) ?_))
  ·
   have hg19_ := hg19
   have hg19l := (Bool.and_eq_true_iff.1 hg19).1
   have hg19r := (Bool.and_eq_true_iff.1 hg19).2
   have hg19r' := eq_of_beq hg19r
   refine T.pi 73 m (T.pu 74 (.pointer (some ⟨b1, 5, none⟩)) (T.ld true 75 (.int .i64 v.support) 22 b1 5 (fun w h => St.cellM h mm1 (by kernel_rfl)) (T.cp 76 105 #[.int .i64 m, .int .i64 v.support] (.bool (exactB m v.support)) ent105 (fun w hw => exact_c _ _ (by assumption) hv w) (fun w h => h) ?_)))
   exact T.blkEnd (by kernel_rfl) (fun w h => h)
  refine T.an 77 (un && ((size hv7 : Int) == (size v.support : Int))) (exactB m v.support) (T.pb 6 ((un && ((size hv7 : Int) == (size v.support : Int))) && (exactB m v.support)) (T.nil (QN.seq (W.ret (QN.done (.inl rfl) 6 (.bool ((un && ((size hv7 : Int) == (size v.support : Int))) && (exactB m v.support))) rfl (by kernel_rfl) (fun w hw => ⟨?_, hw.below⟩))))))
  exact ret_bool (by unfold twoR; rw [show twoS m v a = (hv7, f, fo, un) from by rw [← htwo, take_end (by omega)]])
def adE (m : Int) (v : Vt) (a : List Vt) (i : Int) : Bool := saidB m v a i 4 (v.round - 1) false || saidB m v a i 4 (v.round - 1) true
def adO (m : Int) (v : Vt) (a : List Vt) (i : Int) : Bool := saidB m v a i 4 (v.round - 1) false
def adoptR (m : Int) (v : Vt) (a : List Vt) : Bool := (idsI v.support).all (adE m v a) && ((idsI v.support).any (adO m v a) && exactB m v.support)
theorem any_or {l : List Int} {p : Int → Bool} {j : Nat} {o : Bool} (h : o = (l.take j).any p) (hj : j < l.length) : (o || p l[j]) = (l.take (j + 1)).any p := by
  rw [List.take_succ_eq_append_getElem hj, List.any_append, h]; simp
def carP (m : Int) (v : Vt) (a : List Vt) (i : Int) : Bool := saidB m v a i 4 (v.round - 1) true
def carQ (m : Int) (v : Vt) (a : List Vt) (i : Int) : Bool := saidB m v a i 3 (v.round - 1) false
def carryR (m : Int) (v : Vt) (a : List Vt) : Bool := (idsI v.support).all (carP m v a) && (exactB m v.support && upto10.any (carQ m v a))
set_option maxRecDepth 100000 in
set_option maxHeartbeats 2000000 in
theorem adopts_c (m : Int) (v : Vt) (a : List Vt) (A : Option Addr) (c : Nat) (hm : W64 m) (hv : W64 v.support) (ha : a.length ≤ 1000) (w : World) (hr : Rd w A a) (hr1 : 1 ≤ v.round) (hr2 : v.round ≤ 12) : Calls Tryz.prog 56 #[.int .i64 m, .agg v.cs, .slice A a.length c] w (fun rr w' => rr = .returned (.bool (adoptR m v a)) ∧ Below w.heap.size w w') := by
 have hl := idsI_len v.support
 refine calls_W (n := 58) Tryz.func56 rfl [(0, .int .i64 m), (1, .agg v.cs), (2, .slice A a.length c)] rfl ⟨by kernel_rfl, by kernel_rfl⟩ (W.weak (Ψ := St w []) (fun w' h => by rw [h]; exact St.start w) (W.seq (W.rg od2 (T.bx 4 43 (.agg v.cs) (v.cs) tv3 (fun b1 => T.pb 6 false (T.nil (QN.seq (W.seq (W.rg od4 (T.pu 11 (.pointer (some ⟨b1, 5, none⟩)) (T.ld false 12 (.int .i64 v.support) 22 b1 5 (fun w h => St.cellM h mm0 (by kernel_rfl)) (T.callR 13 26 #[.int .i64 v.support] 3 1 (idsI v.support).length (cells (idsI v.support)) (by kernel_rfl) (by kernel_rfl) ent26 (fun w hw => rids_r _ hv w) tv3 (fun A2 c3 Hr4 hrow5 => T.pu 7 (.slice A2 ((idsI v.support).length) c3) (T.nil (QN.seq (W.seq (W.rg od1 (T.pb 8 false (T.nil (QN.seq (W.seq (W.seq (W.rg od1 (T.pi 9 0 (T.nil (QN.seq (W.block (W.loop (σ := Nat × Bool) (fun gs => gs.1 ≤ (idsI v.support).length ∧ gs.2 = ((idsI v.support).take gs.1).any (adO m v a) ∧ ((idsI v.support).take gs.1).all (adE m v a) = true) (fun gs => [(0, .int .i64 m), (2, .slice A a.length c), (4, .pointer (some ⟨b1, 0, none⟩)), (7, .slice A2 ((idsI v.support).length) c3), (8, .bool gs.2), (9, .int .i64 (gs.1 : Int))]) (fun gs => St w (Hr4 ++ [(b1, Obj.cells v.cs 43 (0, 0))])) (fun gs => (idsI v.support).length - gs.1) (0, false) ?_ (by kernel_rfl) (fun w h => h) ?_))))))))))))))))))))))))))))
 ·
  try dsimp only
  exact ⟨Nat.zero_le _, rfl, rfl⟩
 rintro ⟨j, o⟩ hI_
 obtain ⟨hj, ho, hall⟩ : j ≤ (idsI v.support).length ∧ o = ((idsI v.support).take j).any (adO m v a) ∧ ((idsI v.support).take j).all (adE m v a) = true := hI_
 refine W.seq (W.seq (W.rg od4 (T.pi 14 j (T.pu 15 (.slice A2 ((idsI v.support).length) c3) (T.pi 16 (((idsI v.support).length : Nat) : Int) (T.pb 17 (decide ((j : Int) < (((idsI v.support).length : Nat) : Int))) (T.nil (QN.seq (W.cd (decide ((j : Int) < (((idsI v.support).length : Nat) : Int))) (fun h6 => ?_) (fun h6 => ?_))))))))))
 ·
  have h6' := of_decide_eq_true h6
  have hl7 : j < (idsI v.support).length := by omega
  refine W.skip (QN.seq (W.seq (W.block (W.seq (W.drawn (Ψ := St w (Hr4 ++ [(b1, Obj.cells v.cs 43 (0, 0))])) (St w (Hr4 ++ [(b1, Obj.cells v.cs 43 (0, 0))])) [(0, true), (1, true), (2, true), (3, true), (4, true), (5, true), (6, true), (7, true), (8, true), (9, true), (10, false), (11, false)] hmx (by kernel_rfl) (NoPanic.then (NoPanic.inBlock (NoPanic.then (NoPanic.then (NoPanic.inBlock (NoPanic.then NoPanic.body)))))) (fun w h => h.drew) (fun w h => h) (T.pi 20 m (T.lr true 21 v.cs 43 b1 0 (fun w h => St.rangeM h v.cs (List.mem_append_right _ mm0) (by kernel_rfl)) (T.pu 22 (.slice A a.length c) (T.pu 23 (.slice A2 ((idsI v.support).length) c3) (T.pi 24 j ?_))))))))))
  obtain ⟨b8, o9, hA10, hr11⟩ := (Arr.row hrow5 rfl rfl _) j hl7
  refine T.ix 25 44 3 1 A2 ((idsI v.support).length) c3 (j : Int) j b8 o9 hA10 rfl (by omega) (T.ld true 26 (.int .i64 ((idsI v.support)[j]'hl7)) 3 b8 (o9 + j * 1) (fun w h => cell_of_range (hr11 w h) 0 (by kernel_rfl)) (T.pu 27 (.pointer (some ⟨b1, 2, none⟩)) (T.ld true 28 (.int .i64 v.round) 3 b1 2 (fun w h => St.cellM h (List.mem_append_right _ mm0) (by kernel_rfl)) (T.pw 29 (v.round - 1) (T.cp 30 100 #[.int .i64 m, .agg v.cs, .slice A a.length c, .int .i64 ((idsI v.support)[j]'hl7), .int .i64 4, .int .i64 (v.round - 1), .bool false] (.bool (saidB m v a ((idsI v.support)[j]'hl7) 4 (v.round - 1) false)) ent100 (fun w hw => said_c _ _ _ _ _ _ _ _ _ (by assumption) (by first | omega | (simp; done) | (simp; omega)) w (Arr.rd (Rd.arr hr _) hw)) (fun w h => h) (T.pb 10 (saidB m v a ((idsI v.support)[j]'hl7) 4 (v.round - 1) false) (T.nil (QN.seq (W.seq (W.rg od5 (T.pb 31 o (T.pb 32 o (T.bk [(2, false)] [(3, false), (4, false)] 1 false o 32 33 (.bool (saidB m v a ((idsI v.support)[j]'hl7) 4 (v.round - 1) false)) (fun hg12 => ?_) ?_)))))))))))))
  ·
   have hg12_ := hg12
   refine T.pb 33 (saidB m v a ((idsI v.support)[j]'hl7) 4 (v.round - 1) false) ?_
   exact T.blkEnd (by kernel_rfl) (fun w h => h)
  refine T.oo 34 o (saidB m v a ((idsI v.support)[j]'hl7) 4 (v.round - 1) false) (T.pb 8 (o || (saidB m v a ((idsI v.support)[j]'hl7) 4 (v.round - 1) false)) (T.nil (QN.seq (W.seq (W.drawn (Ψ := St w (Hr4 ++ [(b1, Obj.cells v.cs 43 (0, 0))])) (St w (Hr4 ++ [(b1, Obj.cells v.cs 43 (0, 0))])) [(0, true), (1, true), (2, true), (3, true), (4, true), (5, true), (6, true), (7, true), (8, true), (9, true), (10, true), (11, true), (12, true), (13, false), (14, true), (15, true)] hmx (by kernel_rfl) (NoPanic.then (NoPanic.inBlock (NoPanic.then (NoPanic.then (NoPanic.inBlock (NoPanic.then NoPanic.body)))))) (fun w h => h.drew) (fun w h => h) (T.pb 35 (saidB m v a ((idsI v.support)[j]'hl7) 4 (v.round - 1) false) (T.pb 36 (!(saidB m v a ((idsI v.support)[j]'hl7) 4 (v.round - 1) false)) (T.pb 37 (!(saidB m v a ((idsI v.support)[j]'hl7) 4 (v.round - 1) false)) (T.bk [(3, true), (4, true), (5, true), (6, true), (7, true), (8, true), (9, true), (10, true), (11, true), (12, true), (13, false), (14, true)] [(15, true)] 2 true (!(saidB m v a ((idsI v.support)[j]'hl7) 4 (v.round - 1) false)) 37 49 (.bool (!(saidB m v a ((idsI v.support)[j]'hl7) 4 (v.round - 1) true))) (fun hg13 => ?_) ?_)))))))))
  ·
   have hg13_ := hg13
   have hg13n := not_eq_true hg13
   refine T.pi 38 m (T.lr true 39 v.cs 43 b1 0 (fun w h => St.rangeM h v.cs (List.mem_append_right _ mm0) (by kernel_rfl)) (T.pu 40 (.slice A a.length c) (T.pu 41 (.slice A2 ((idsI v.support).length) c3) (T.pi 42 j ?_))))
   obtain ⟨b14, o15, hA16, hr17⟩ := (Arr.row hrow5 rfl rfl _) j hl7
   refine T.ix 43 44 3 1 A2 ((idsI v.support).length) c3 (j : Int) j b14 o15 hA16 rfl (by omega) (T.ld true 44 (.int .i64 ((idsI v.support)[j]'hl7)) 3 b14 (o15 + j * 1) (fun w h => cell_of_range (hr17 w h) 0 (by kernel_rfl)) (T.pu 45 (.pointer (some ⟨b1, 2, none⟩)) (T.ld true 46 (.int .i64 v.round) 3 b1 2 (fun w h => St.cellM h (List.mem_append_right _ mm0) (by kernel_rfl)) (T.pw 47 (v.round - 1) (T.cp 48 100 #[.int .i64 m, .agg v.cs, .slice A a.length c, .int .i64 ((idsI v.support)[j]'hl7), .int .i64 4, .int .i64 (v.round - 1), .bool true] (.bool (saidB m v a ((idsI v.support)[j]'hl7) 4 (v.round - 1) true)) ent100 (fun w hw => said_c _ _ _ _ _ _ _ _ _ (by assumption) (by first | omega | (simp; done) | (simp; omega)) w (Arr.rd (Rd.arr hr _) hw)) (fun w h => h) (T.pb 49 (!(saidB m v a ((idsI v.support)[j]'hl7) 4 (v.round - 1) true)) ?_))))))
   exact T.blkEnd (by kernel_rfl) (fun w h => h)
  refine T.an 50 (!(saidB m v a ((idsI v.support)[j]'hl7) 4 (v.round - 1) false)) (!(saidB m v a ((idsI v.support)[j]'hl7) 4 (v.round - 1) true)) (T.nil (QN.seq (W.cd ((!(saidB m v a ((idsI v.support)[j]'hl7) 4 (v.round - 1) false)) && (!(saidB m v a ((idsI v.support)[j]'hl7) 4 (v.round - 1) true))) (fun h18 => ?_) (fun h18 => ?_))))
  ·
   have h18l := (Bool.and_eq_true_iff.1 h18).1
   have h18r := (Bool.and_eq_true_iff.1 h18).2
   have h18ln := not_eq_true h18l
   have h18rn := not_eq_true h18r
   refine W.seq (W.rg od1 (T.pb 6 false (T.nil (QN.seq (W.ret (QN.blkRet (QN.thenRet (QN.thenRet (QN.blkRet (QN.thenRet (QN.done (.inl rfl) 6 (.bool false) rfl (by kernel_rfl) (fun w hw => ⟨?_, hw.below⟩))))))))))))
   exact ret_bool (by unfold adoptR; rw [all_miss (p := adE m v a) (j := j) (by omega) (nn_true h18)]; rfl)
  ·
   refine W.skip (QN.blkNormal (QN.seq (W.rg od3 (T.pi 18 j (T.pw 19 ((j : Int) + 1) (T.pi 9 ((j : Int) + 1) (T.nil (QN.back (j + 1, o || (saidB m v a ((idsI v.support)[j]'hl7) 4 (v.round - 1) false)) ?_ ?_ (by kernel_rfl) (fun w h => h)))))))))
   ·
    try dsimp only
    exact ⟨by omega, any_or ho (by omega), all_step hall (by omega) (nn_false h18)⟩
   · show (idsI v.support).length - (j + 1) < (idsI v.support).length - j; omega
 ·
  have h6' := of_decide_eq_false h6
  refine W.exit (QN.thenExit (QN.thenExit (QN.blkHit (QN.seq (W.seq (W.rg od8 (T.pb 51 o (T.pb 52 o (T.bk [(2, false), (3, false), (4, false), (5, false)] [(6, false), (7, false)] 1 true o 52 56 (.bool (exactB m v.support)) (fun hg19 => ?_) ?_)))))))))
  ·
   have hg19_ := hg19
   refine T.pi 53 m (T.pu 54 (.pointer (some ⟨b1, 5, none⟩)) (T.ld false 55 (.int .i64 v.support) 22 b1 5 (fun w h => St.cellM h (List.mem_append_right _ mm0) (by kernel_rfl)) (T.cp 56 105 #[.int .i64 m, .int .i64 v.support] (.bool (exactB m v.support)) ent105 (fun w hw => exact_c _ _ (by assumption) hv w) tv2 ?_)))
   exact T.blkEnd (by kernel_rfl) (fun w h => h)
  refine T.an 57 o (exactB m v.support) (T.pb 6 (o && (exactB m v.support)) (T.nil (QN.seq (W.ret (QN.done (.inl rfl) 6 (.bool (o && (exactB m v.support))) rfl (by kernel_rfl) (fun w hw => ⟨?_, hw.below⟩))))))
  exact ret_bool (by unfold adoptR; rw [all_end hall (by omega), ho, take_end (by omega)]; rfl)
set_option maxRecDepth 100000 in
set_option maxHeartbeats 2000000 in
theorem carries_c (m : Int) (v : Vt) (a : List Vt) (A : Option Addr) (c : Nat) (hm : W64 m) (hv : W64 v.support) (ha : a.length ≤ 1000) (w : World) (hr : Rd w A a) (hr1 : 1 ≤ v.round) (hr2 : v.round ≤ 12) : Calls Tryz.prog 102 #[.int .i64 m, .agg v.cs, .slice A a.length c] w (fun rr w' => rr = .returned (.bool (carryR m v a)) ∧ Below w.heap.size w w') := by
 have hl := idsI_len v.support
 refine calls_W (n := 48) Tryz.func102 rfl [(0, .int .i64 m), (1, .agg v.cs), (2, .slice A a.length c)] rfl ⟨by kernel_rfl, by kernel_rfl⟩ (W.weak (Ψ := St w []) (fun w' h => by rw [h]; exact St.start w) (W.seq (W.rg od2 (T.bx 4 43 (.agg v.cs) (v.cs) tv3 (fun b1 => T.pb 6 false (T.nil (QN.seq (W.seq (W.rg od4 (T.pu 10 (.pointer (some ⟨b1, 5, none⟩)) (T.ld false 11 (.int .i64 v.support) 22 b1 5 (fun w h => St.cellM h mm0 (by kernel_rfl)) (T.callR 12 26 #[.int .i64 v.support] 3 1 (idsI v.support).length (cells (idsI v.support)) (by kernel_rfl) (by kernel_rfl) ent26 (fun w hw => rids_r _ hv w) tv3 (fun A2 c3 Hr4 hrow5 => T.pu 7 (.slice A2 ((idsI v.support).length) c3) (T.nil (QN.seq (W.seq (W.seq (W.rg od1 (T.pi 8 0 (T.nil (QN.seq (W.block (W.loop (σ := Nat) (fun gs => gs ≤ (idsI v.support).length ∧ ((idsI v.support).take gs).all (carP m v a) = true) (fun gs => [(0, .int .i64 m), (2, .slice A a.length c), (4, .pointer (some ⟨b1, 0, none⟩)), (7, .slice A2 ((idsI v.support).length) c3), (8, .int .i64 gs)]) (fun gs => St w (Hr4 ++ [(b1, Obj.cells v.cs 43 (0, 0))])) (fun gs => (idsI v.support).length - gs) 0 ?_ (by kernel_rfl) (fun w h => h) ?_)))))))))))))))))))))))
 ·
  try dsimp only
  exact ⟨Nat.zero_le _, all_zero _ _⟩
 rintro j hI_
 obtain ⟨hj, hall⟩ : j ≤ (idsI v.support).length ∧ ((idsI v.support).take j).all (carP m v a) = true := hI_
 refine W.seq (W.seq (W.rg od4 (T.pi 13 j (T.pu 14 (.slice A2 ((idsI v.support).length) c3) (T.pi 15 (((idsI v.support).length : Nat) : Int) (T.pb 16 (decide ((j : Int) < (((idsI v.support).length : Nat) : Int))) (T.nil (QN.seq (W.cd (decide ((j : Int) < (((idsI v.support).length : Nat) : Int))) (fun h6 => ?_) (fun h6 => ?_))))))))))
 ·
  have h6' := of_decide_eq_true h6
  have hl7 : j < (idsI v.support).length := by omega
  refine W.skip (QN.seq (W.seq (W.block (W.seq (W.drawn (Ψ := St w (Hr4 ++ [(b1, Obj.cells v.cs 43 (0, 0))])) (St w (Hr4 ++ [(b1, Obj.cells v.cs 43 (0, 0))])) [(0, true), (1, true), (2, true), (3, true), (4, true), (5, true), (6, true), (7, true), (8, true), (9, true), (10, false), (11, true)] hmx (by kernel_rfl) (NoPanic.then (NoPanic.inBlock (NoPanic.then (NoPanic.then (NoPanic.inBlock (NoPanic.then NoPanic.body)))))) (fun w h => h.drew) (fun w h => h) (T.pi 19 m (T.lr true 20 v.cs 43 b1 0 (fun w h => St.rangeM h v.cs (List.mem_append_right _ mm0) (by kernel_rfl)) (T.pu 21 (.slice A a.length c) (T.pu 22 (.slice A2 ((idsI v.support).length) c3) (T.pi 23 j ?_))))))))))
  obtain ⟨b8, o9, hA10, hr11⟩ := (Arr.row hrow5 rfl rfl _) j hl7
  refine T.ix 24 44 3 1 A2 ((idsI v.support).length) c3 (j : Int) j b8 o9 hA10 rfl (by omega) (T.ld true 25 (.int .i64 ((idsI v.support)[j]'hl7)) 3 b8 (o9 + j * 1) (fun w h => cell_of_range (hr11 w h) 0 (by kernel_rfl)) (T.pu 26 (.pointer (some ⟨b1, 2, none⟩)) (T.ld true 27 (.int .i64 v.round) 3 b1 2 (fun w h => St.cellM h (List.mem_append_right _ mm0) (by kernel_rfl)) (T.pw 28 (v.round - 1) (T.cp 29 100 #[.int .i64 m, .agg v.cs, .slice A a.length c, .int .i64 ((idsI v.support)[j]'hl7), .int .i64 4, .int .i64 (v.round - 1), .bool true] (.bool (saidB m v a ((idsI v.support)[j]'hl7) 4 (v.round - 1) true)) ent100 (fun w hw => said_c _ _ _ _ _ _ _ _ _ (by assumption) (by first | omega | (simp; done) | (simp; omega)) w (Arr.rd (Rd.arr hr _) hw)) (fun w h => h) (T.pb 30 (!(saidB m v a ((idsI v.support)[j]'hl7) 4 (v.round - 1) true)) (T.nil (QN.seq (W.cd (!(saidB m v a ((idsI v.support)[j]'hl7) 4 (v.round - 1) true)) (fun h12 => ?_) (fun h12 => ?_))))))))))
  ·
   have h12n := not_eq_true h12
   refine W.seq (W.rg od1 (T.pb 6 false (T.nil (QN.seq (W.ret (QN.blkRet (QN.thenRet (QN.thenRet (QN.blkRet (QN.thenRet (QN.done (.inl rfl) 6 (.bool false) rfl (by kernel_rfl) (fun w hw => ⟨?_, hw.below⟩))))))))))))
   exact ret_bool (by unfold carryR; rw [all_miss (p := carP m v a) (j := j) (by omega) (not_eq_true h12)]; rfl)
  ·
   have h12n := not_eq_false h12
   refine W.skip (QN.blkNormal (QN.seq (W.rg od3 (T.pi 17 j (T.pw 18 ((j : Int) + 1) (T.pi 8 ((j : Int) + 1) (T.nil (QN.back (j + 1) ?_ ?_ (by kernel_rfl) (fun w h => h)))))))))
   ·
    try dsimp only
    exact ⟨by omega, all_step hall (by omega) (not_eq_false h12)⟩
   · show (idsI v.support).length - (j + 1) < (idsI v.support).length - j; omega
 ·
  have h6' := of_decide_eq_false h6
  refine W.exit (QN.thenExit (QN.thenExit (QN.blkHit (QN.seq (W.seq (W.seq (W.rg od5 (T.pi 31 m (T.pu 32 (.pointer (some ⟨b1, 5, none⟩)) (T.ld false 33 (.int .i64 v.support) 22 b1 5 (fun w h => St.cellM h (List.mem_append_right _ mm0) (by kernel_rfl)) (T.cp 34 105 #[.int .i64 m, .int .i64 v.support] (.bool (exactB m v.support)) ent105 (fun w hw => exact_c _ _ (by assumption) hv w) tv2 (T.pb 35 (!(exactB m v.support)) (T.nil (QN.seq (W.cd (!(exactB m v.support)) (fun h13 => ?_) (fun h13 => ?_))))))))))))))))
  ·
   have h13n := not_eq_true h13
   refine W.seq (W.rg od1 (T.pb 6 false (T.nil (QN.seq (W.ret (QN.thenRet (QN.done (.inl rfl) 6 (.bool false) rfl (by kernel_rfl) (fun w hw => ⟨?_, hw.below⟩))))))))
   exact ret_bool (by unfold carryR; rw [all_end hall (by omega), not_eq_true h13]; rfl)
  ·
   have h13n := not_eq_false h13
   refine W.skip (QN.seq (W.seq (W.seq (W.rg od1 (T.pi 9 0 (T.nil (QN.seq (W.block (W.loop (σ := Nat) (fun gs => gs ≤ upto10.length ∧ (upto10.take gs).any (carQ m v a) = false) (fun gs => [(0, .int .i64 m), (2, .slice A a.length c), (4, .pointer (some ⟨b1, 0, none⟩)), (9, .int .i64 gs)]) (fun gs => St w (Hr4 ++ [(b1, Obj.cells v.cs 43 (0, 0))])) (fun gs => 10 - gs) 0 ?_ (by kernel_rfl) (fun w h => h) ?_)))))))))
   ·
    try dsimp only
    exact ⟨Nat.zero_le _, any_zero _ _⟩
   rintro k hI_
   obtain ⟨hk, hany⟩ : k ≤ upto10.length ∧ (upto10.take k).any (carQ m v a) = false := hI_
   have h10 := up10_len
   refine W.seq (W.seq (W.rg od2 (T.pi 36 k (T.pb 37 (decide ((k : Int) < 10)) (T.nil (QN.seq (W.cd (decide ((k : Int) < 10)) (fun h14 => ?_) (fun h14 => ?_))))))))
   ·
    have h14' := of_decide_eq_true h14
    refine W.skip (QN.seq (W.seq (W.block (W.seq (W.rg od8 (T.pi 40 m (T.lr false 41 v.cs 43 b1 0 (fun w h => St.rangeM h v.cs (List.mem_append_right _ mm0) (by kernel_rfl)) (T.pu 42 (.slice A a.length c) (T.pi 43 k (T.pu 44 (.pointer (some ⟨b1, 2, none⟩)) (T.ld false 45 (.int .i64 v.round) 3 b1 2 (fun w h => St.cellM h (List.mem_append_right _ mm0) (by kernel_rfl)) (T.pw 46 (v.round - 1) (T.cp 47 100 #[.int .i64 m, .agg v.cs, .slice A a.length c, .int .i64 k, .int .i64 3, .int .i64 (v.round - 1), .bool false] (.bool (saidB m v a (k : Int) 3 (v.round - 1) false)) ent100 (fun w hw => said_c _ _ _ _ _ _ _ _ _ (by assumption) (by first | omega | (simp; done) | (simp; omega)) w (Arr.rd (Rd.arr hr _) hw)) tv2 (T.nil (QN.seq (W.cd (saidB m v a (k : Int) 3 (v.round - 1) false) (fun h15 => ?_) (fun h15 => ?_)))))))))))))))))
    ·
     refine W.seq (W.rg od1 (T.pb 6 true (T.nil (QN.seq (W.ret (QN.blkRet (QN.thenRet (QN.thenRet (QN.blkRet (QN.thenRet (QN.done (.inl rfl) 6 (.bool true) rfl (by kernel_rfl) (fun w hw => ⟨?_, hw.below⟩))))))))))))
     exact ret_bool (by unfold carryR; rw [all_end hall (by omega), not_eq_false h13, any_hit (p := carQ m v a) (j := k) (by omega) (by rw [up10_get (by omega)]; exact h15)]; rfl)
    ·
     refine W.skip (QN.blkNormal (QN.seq (W.rg od3 (T.pi 38 k (T.pw 39 ((k : Int) + 1) (T.pi 9 ((k : Int) + 1) (T.nil (QN.back (k + 1) ?_ ?_ (by kernel_rfl) (fun w h => h)))))))))
     ·
      try dsimp only
      exact ⟨by omega, any_step hany (by omega) (by rw [up10_get (by omega)]; exact h15)⟩
     · show 10 - _ < 10 - _; omega
   ·
    have h14' := of_decide_eq_false h14
    refine W.exit (QN.thenExit (QN.thenExit (QN.blkHit (QN.seq (W.seq (W.rg od1 (T.pb 6 false (T.nil (QN.seq (W.ret (QN.done (.inl rfl) 6 (.bool false) rfl (by kernel_rfl) (fun w hw => ⟨?_, hw.below⟩))))))))))))
    exact ret_bool (by unfold carryR; rw [all_end hall (by omega), not_eq_false h13, any_end hany (by omega)]; rfl)
def notokB (m : Int) (v : Vt) : Bool := (((!(validB v)) || (decide (4 < v.kind))) || (!(hasB m v.signer))) || (!(hasB m v.slot))
def echoQ (m : Int) (v : Vt) (a : List Vt) (i : Int) : Bool := saidB m v a i 1 0 false
def rallowB (m : Int) (v : Vt) (a : List Vt) : Bool :=
  bif notokB m v then false else bif v.kind == 1 then v.signer == v.slot else bif v.kind == 2 then upto10.any (echoQ m v a) else bif (v.kind == 3) && (v.round == 1) then (v.choice == 0) || allR m v a 2 0
  else bif v.kind == 3 then adoptR m v a || carryR m v a else bif v.choice == 2 then twoR m v a else allR m v a 3 v.round
set_option maxRecDepth 100000 in
set_option maxHeartbeats 2000000 in
theorem rallowed_c (m : Int) (v : Vt) (a : List Vt) (A : Option Addr) (c : Nat) (hm : W64 m) (hv : W64 v.support) (ha : a.length ≤ 1000) (w : World) (hr : Rd w A a) : Calls Tryz.prog 52 #[.int .i64 m, .agg v.cs, .slice A a.length c] w (fun rr w' => rr = .returned (.bool (rallowB m v a)) ∧ Below w.heap.size w w') := by
 refine calls_W (n := 98) Tryz.func52 rfl [(0, .int .i64 m), (1, .agg v.cs), (2, .slice A a.length c)] rfl ⟨by kernel_rfl, by kernel_rfl⟩ (W.weak (Ψ := St w []) (fun w' h => by rw [h]; exact St.start w) (W.seq (W.rg od2 (T.bx 4 43 (.agg v.cs) (v.cs) tv3 (fun b1 => T.pb 6 false (T.nil (QN.seq (W.seq (W.seq (W.rg od22 (T.lr false 8 v.cs 43 b1 0 (fun w h => St.rangeM h v.cs mm0 (by kernel_rfl)) (T.cp 9 99 #[.agg v.cs] (.bool (validB v)) ent99 (fun w hw => rvalid_c _ w) tv2 (T.pb 10 (!(validB v)) (T.pb 11 (!(validB v)) (T.bk [(4, false), (5, false), (6, false)] [(7, false), (8, false), (9, false), (10, false), (11, false), (12, false), (13, false), (14, false), (15, false), (16, false), (17, false), (18, false), (19, false), (20, false), (21, false)] 3 false (!(validB v)) 11 14 (.bool (decide (4 < v.kind))) (fun hg2 => ?_) ?_)))))))))))))))
 ·
  have hg2_ := hg2
  have hg2n := not_eq_false hg2
  refine T.pu 12 (.pointer (some ⟨b1, 0, none⟩)) (T.ld false 13 (.int .i64 v.kind) 3 b1 0 (fun w h => St.cellM h mm0 (by kernel_rfl)) (T.pb 14 (decide (4 < v.kind)) ?_))
  exact T.blkEnd (by kernel_rfl) (fun w h => h)
 refine T.oo 15 (!(validB v)) (decide (4 < v.kind)) (T.pb 16 ((!(validB v)) || (decide (4 < v.kind))) (T.bk [(9, false), (10, false), (11, false), (12, false), (13, false)] [(14, false), (15, false), (16, false), (17, false), (18, false), (19, false), (20, false), (21, false)] 8 false ((!(validB v)) || (decide (4 < v.kind))) 16 21 (.bool (!(hasB m v.signer))) (fun hg3 => ?_) ?_))
 ·
  have hg3_ := hg3
  have hg3l := (Bool.or_eq_false_iff.1 hg3).1
  have hg3r := (Bool.or_eq_false_iff.1 hg3).2
  have hg3ln := not_eq_false hg3l
  have hg3r' := of_decide_eq_false hg3r
  refine T.pi 17 m (T.pu 18 (.pointer (some ⟨b1, 4, none⟩)) (T.ld false 19 (.int .i64 v.signer) 3 b1 4 (fun w h => St.cellM h mm0 (by kernel_rfl)) (T.cp 20 53 #[.int .i64 m, .int .i64 v.signer] (.bool (hasB m v.signer)) ent53 (fun w hw => Ret.same (rhas_c _ _ w (by assumption))) tv2 (T.pb 21 (!(hasB m v.signer)) ?_))))
  exact T.blkEnd (by kernel_rfl) (fun w h => h)
 refine T.oo 22 ((!(validB v)) || (decide (4 < v.kind))) (!(hasB m v.signer)) (T.pb 23 (((!(validB v)) || (decide (4 < v.kind))) || (!(hasB m v.signer))) (T.bk [(16, false), (17, false), (18, false), (19, false), (20, false)] [(21, false)] 15 false (((!(validB v)) || (decide (4 < v.kind))) || (!(hasB m v.signer))) 23 28 (.bool (!(hasB m v.slot))) (fun hg4 => ?_) ?_))
 ·
  have hg4_ := hg4
  have hg4l := (Bool.or_eq_false_iff.1 hg4).1
  have hg4r := (Bool.or_eq_false_iff.1 hg4).2
  have hg4ll := (Bool.or_eq_false_iff.1 hg4l).1
  have hg4lr := (Bool.or_eq_false_iff.1 hg4l).2
  have hg4lln := not_eq_false hg4ll
  have hg4lr' := of_decide_eq_false hg4lr
  have hg4rn := not_eq_false hg4r
  have hg4rnb := hasB_lt hg4rn
  refine T.pi 24 m (T.pu 25 (.pointer (some ⟨b1, 1, none⟩)) (T.ld false 26 (.int .i64 v.slot) 3 b1 1 (fun w h => St.cellM h mm0 (by kernel_rfl)) (T.cp 27 53 #[.int .i64 m, .int .i64 v.slot] (.bool (hasB m v.slot)) ent53 (fun w hw => Ret.same (rhas_c _ _ w (by assumption))) tv2 (T.pb 28 (!(hasB m v.slot)) ?_))))
  exact T.blkEnd (by kernel_rfl) (fun w h => h)
 refine T.oo 29 (((!(validB v)) || (decide (4 < v.kind))) || (!(hasB m v.signer))) (!(hasB m v.slot)) (T.nil (QN.seq (W.cd ((((!(validB v)) || (decide (4 < v.kind))) || (!(hasB m v.signer))) || (!(hasB m v.slot))) (fun h5 => ?_) (fun h5 => ?_))))
 ·
  refine W.seq (W.rg od1 (T.pb 6 false (T.nil (QN.seq (W.ret (QN.thenRet (QN.done (.inl rfl) 6 (.bool false) rfl (by kernel_rfl) (fun w hw => ⟨?_, hw.below⟩))))))))
  exact ret_bool (by have hnk : notokB m v = _ := h5; unfold rallowB; rw [hnk]; all_goals rfl)
 ·
  have h5l := (Bool.or_eq_false_iff.1 h5).1
  have h5r := (Bool.or_eq_false_iff.1 h5).2
  have h5ll := (Bool.or_eq_false_iff.1 h5l).1
  have h5lr := (Bool.or_eq_false_iff.1 h5l).2
  have h5lll := (Bool.or_eq_false_iff.1 h5ll).1
  have h5llr := (Bool.or_eq_false_iff.1 h5ll).2
  have h5llln := not_eq_false h5lll
  have h5llr' := of_decide_eq_false h5llr
  have h5lrn := not_eq_false h5lr
  have h5lrnb := hasB_lt h5lrn
  have h5rn := not_eq_false h5r
  have h5rnb := hasB_lt h5rn
  refine W.skip (QN.seq (W.seq (W.block (W.seq (W.rg od4 (T.pu 31 (.pointer (some ⟨b1, 0, none⟩)) (T.ld false 32 (.int .i64 v.kind) 3 b1 0 (fun w h => St.cellM h mm0 (by kernel_rfl)) (T.pb 33 (v.kind == 1) (T.pb 30 (v.kind == 1) (T.nil (QN.seq (W.cd (v.kind == 1) (fun h6 => ?_) (fun h6 => ?_)))))))))))))
  ·
   refine W.seq (W.rg od6 (T.pu 34 (.pointer (some ⟨b1, 4, none⟩)) (T.ld false 35 (.int .i64 v.signer) 3 b1 4 (fun w h => St.cellM h mm0 (by kernel_rfl)) (T.pu 36 (.pointer (some ⟨b1, 1, none⟩)) (T.ld false 37 (.int .i64 v.slot) 3 b1 1 (fun w h => St.cellM h mm0 (by kernel_rfl)) (T.pb 38 (v.signer == v.slot) (T.pb 6 (v.signer == v.slot) (T.nil (QN.seq (W.ret (QN.blkRet (QN.thenRet (QN.done (.inl rfl) 6 (.bool (v.signer == v.slot)) rfl (by kernel_rfl) (fun w hw => ⟨?_, hw.below⟩))))))))))))))
   exact ret_bool (by have hnk : notokB m v = _ := h5; unfold rallowB; rw [hnk, h6]; all_goals rfl)
  ·
   refine W.seq (W.rg od4 (T.pu 40 (.pointer (some ⟨b1, 0, none⟩)) (T.ld false 41 (.int .i64 v.kind) 3 b1 0 (fun w h => St.cellM h mm0 (by kernel_rfl)) (T.pb 42 (v.kind == 2) (T.pb 39 (v.kind == 2) (T.nil (QN.seq (W.cd (v.kind == 2) (fun h7 => ?_) (fun h7 => ?_)))))))))
   ·
    refine W.seq (W.seq (W.rg od1 (T.pi 7 0 (T.nil (QN.seq (W.block (W.loop (σ := Nat) (fun gs => gs ≤ upto10.length ∧ (upto10.take gs).any (echoQ m v a) = false) (fun gs => [(0, .int .i64 m), (2, .slice A a.length c), (4, .pointer (some ⟨b1, 0, none⟩)), (7, .int .i64 gs)]) (fun gs => St w [(b1, Obj.cells v.cs 43 (0, 0))]) (fun gs => 10 - gs) 0 ?_ (by kernel_rfl) (fun w h => h) ?_)))))))
    ·
     try dsimp only
     exact ⟨Nat.zero_le _, any_zero _ _⟩
    rintro j hI_
    obtain ⟨hj, hany⟩ : j ≤ upto10.length ∧ (upto10.take j).any (echoQ m v a) = false := hI_
    have h10 := up10_len
    refine W.seq (W.seq (W.rg od2 (T.pi 43 j (T.pb 44 (decide ((j : Int) < 10)) (T.nil (QN.seq (W.cd (decide ((j : Int) < 10)) (fun h8 => ?_) (fun h8 => ?_))))))))
    ·
     have h8' := of_decide_eq_true h8
     refine W.skip (QN.seq (W.seq (W.block (W.seq (W.rg od5 (T.pi 47 m (T.lr false 48 v.cs 43 b1 0 (fun w h => St.rangeM h v.cs mm0 (by kernel_rfl)) (T.pu 49 (.slice A a.length c) (T.pi 50 j (T.cp 51 100 #[.int .i64 m, .agg v.cs, .slice A a.length c, .int .i64 j, .int .i64 1, .int .i64 0, .bool false] (.bool (saidB m v a (j : Int) 1 0 false)) ent100 (fun w hw => said_c _ _ _ _ _ _ _ _ _ (by assumption) (by first | omega | (simp; done) | (simp; omega)) w (Arr.rd (Rd.arr hr _) hw)) tv2 (T.nil (QN.seq (W.cd (saidB m v a (j : Int) 1 0 false) (fun h9 => ?_) (fun h9 => ?_))))))))))))))
     ·
      refine W.seq (W.rg od1 (T.pb 6 true (T.nil (QN.seq (W.ret (QN.blkRet (QN.thenRet (QN.thenRet (QN.blkRet (QN.thenRet (QN.blkRet (QN.thenRet (QN.done (.inl rfl) 6 (.bool true) rfl (by kernel_rfl) (fun w hw => ⟨?_, hw.below⟩))))))))))))))
      exact ret_bool (by have hnk : notokB m v = _ := h5; unfold rallowB; rw [hnk, h6, h7]; exact (any_hit (p := echoQ m v a) (j := j) (by omega) (by rw [up10_get (by omega)]; exact h9)).symm)
     ·
      refine W.skip (QN.blkNormal (QN.seq (W.rg od3 (T.pi 45 j (T.pw 46 ((j : Int) + 1) (T.pi 7 ((j : Int) + 1) (T.nil (QN.back (j + 1) ?_ ?_ (by kernel_rfl) (fun w h => h)))))))))
      ·
       try dsimp only
       exact ⟨by omega, any_step hany (by omega) (by rw [up10_get (by omega)]; exact h9)⟩
      · show 10 - _ < 10 - _; omega
    ·
     have h8' := of_decide_eq_false h8
     refine W.exit (QN.thenExit (QN.thenExit (QN.blkHit (QN.seq (W.seq (W.rg od1 (T.pb 6 false (T.nil (QN.seq (W.ret (QN.blkRet (QN.thenRet (QN.done (.inl rfl) 6 (.bool false) rfl (by kernel_rfl) (fun w hw => ⟨?_, hw.below⟩))))))))))))))
     exact ret_bool (by have hnk : notokB m v = _ := h5; unfold rallowB; rw [hnk, h6, h7]; exact (any_end hany (by omega)).symm)
   ·
    refine W.seq (W.rg od9 (T.pu 53 (.pointer (some ⟨b1, 0, none⟩)) (T.ld false 54 (.int .i64 v.kind) 3 b1 0 (fun w h => St.cellM h mm0 (by kernel_rfl)) (T.pb 55 (v.kind == 3) (T.pb 56 (v.kind == 3) (T.bk [(4, false), (5, false), (6, false)] [(7, false), (8, false)] 3 true (v.kind == 3) 56 59 (.bool (v.round == 1)) (fun hg10 => ?_) ?_))))))
    ·
     have hg10_ := hg10
     refine T.pu 57 (.pointer (some ⟨b1, 2, none⟩)) (T.ld false 58 (.int .i64 v.round) 3 b1 2 (fun w h => St.cellM h mm0 (by kernel_rfl)) (T.pb 59 (v.round == 1) ?_))
     exact T.blkEnd (by kernel_rfl) (fun w h => h)
    refine T.an 60 (v.kind == 3) (v.round == 1) (T.pb 52 ((v.kind == 3) && (v.round == 1)) (T.nil (QN.seq (W.cd ((v.kind == 3) && (v.round == 1)) (fun h11 => ?_) (fun h11 => ?_)))))
    ·
     have h11l := (Bool.and_eq_true_iff.1 h11).1
     have h11r := (Bool.and_eq_true_iff.1 h11).2
     refine W.seq (W.rg od10 (T.pu 61 (.pointer (some ⟨b1, 3, none⟩)) (T.ld false 62 (.int .i64 v.choice) 3 b1 3 (fun w h => St.cellM h mm0 (by kernel_rfl)) (T.pb 63 (v.choice == 0) (T.pb 64 (v.choice == 0) (T.bk [(4, false), (5, false), (6, false), (7, false)] [(8, false), (9, false)] 3 false (v.choice == 0) 64 68 (.bool (allR m v a 2 0)) (fun hg12 => ?_) ?_))))))
     ·
      have hg12_ := hg12
      refine T.pi 65 m (T.lr false 66 v.cs 43 b1 0 (fun w h => St.rangeM h v.cs mm0 (by kernel_rfl)) (T.pu 67 (.slice A a.length c) (T.cp 68 101 #[.int .i64 m, .agg v.cs, .slice A a.length c, .int .i64 2, .int .i64 0] (.bool (allR m v a 2 0)) ent101 (fun w hw => all_c _ _ _ _ _ _ _ (by assumption) (by first | assumption | exact Vt.Ok.support (by assumption)) (by first | omega | (simp; done) | (simp; omega)) w (Arr.rd (Rd.arr hr _) hw)) tv2 ?_)))
      exact T.blkEnd (by kernel_rfl) (fun w h => h)
     refine T.oo 69 (v.choice == 0) (allR m v a 2 0) (T.pb 6 ((v.choice == 0) || (allR m v a 2 0)) (T.nil (QN.seq (W.ret (QN.blkRet (QN.thenRet (QN.done (.inl rfl) 6 (.bool ((v.choice == 0) || (allR m v a 2 0))) rfl (by kernel_rfl) (fun w hw => ⟨?_, hw.below⟩))))))))
     exact ret_bool (by have hnk : notokB m v = _ := h5; unfold rallowB; rw [hnk, h6, h7, h11]; all_goals rfl)
    ·
     refine W.seq (W.rg od4 (T.pu 71 (.pointer (some ⟨b1, 0, none⟩)) (T.ld false 72 (.int .i64 v.kind) 3 b1 0 (fun w h => St.cellM h mm0 (by kernel_rfl)) (T.pb 73 (v.kind == 3) (T.pb 70 (v.kind == 3) (T.nil (QN.seq (W.cd (v.kind == 3) (fun h13 => ?_) (fun h13 => ?_)))))))))
     ·
      refine W.seq (W.rg od11 (T.pi 74 m (T.lr false 75 v.cs 43 b1 0 (fun w h => St.rangeM h v.cs mm0 (by kernel_rfl)) (T.pu 76 (.slice A a.length c) ?_))))
      have hrr := prev_round (v := v) (by assumption) (by assumption)
      have hr1 := hrr.1
      have hr2 := hrr.2
      refine T.cp 77 56 #[.int .i64 m, .agg v.cs, .slice A a.length c] (.bool (adoptR m v a)) ent56 (fun w hw => adopts_c _ _ _ _ _ (by assumption) (by first | assumption | exact Vt.Ok.support (by assumption)) (by first | omega | (simp; done) | (simp; omega)) w (Arr.rd (Rd.arr hr _) hw) hr1 hr2) tv2 (T.pb 78 (adoptR m v a) (T.bk [(5, false), (6, false), (7, false), (8, false)] [(9, false), (10, false)] 4 false (adoptR m v a) 78 82 (.bool (carryR m v a)) (fun hg14 => ?_) ?_))
      ·
       have hg14_ := hg14
       refine T.pi 79 m (T.lr false 80 v.cs 43 b1 0 (fun w h => St.rangeM h v.cs mm0 (by kernel_rfl)) (T.pu 81 (.slice A a.length c) ?_))
       have hrr := prev_round (v := v) (by assumption) (by assumption)
       have hr1 := hrr.1
       have hr2 := hrr.2
       refine T.cp 82 102 #[.int .i64 m, .agg v.cs, .slice A a.length c] (.bool (carryR m v a)) ent102 (fun w hw => carries_c _ _ _ _ _ (by assumption) (by first | assumption | exact Vt.Ok.support (by assumption)) (by first | omega | (simp; done) | (simp; omega)) w (Arr.rd (Rd.arr hr _) hw) hr1 hr2) tv2 ?_
       exact T.blkEnd (by kernel_rfl) (fun w h => h)
      refine T.oo 83 (adoptR m v a) (carryR m v a) (T.pb 6 ((adoptR m v a) || (carryR m v a)) (T.nil (QN.seq (W.ret (QN.blkRet (QN.thenRet (QN.done (.inl rfl) 6 (.bool ((adoptR m v a) || (carryR m v a))) rfl (by kernel_rfl) (fun w hw => ⟨?_, hw.below⟩))))))))
      exact ret_bool (by have hnk : notokB m v = _ := h5; unfold rallowB; rw [hnk, h6, h7, h11, h13]; all_goals rfl)
     ·
      refine W.seq (W.rg od4 (T.pu 85 (.pointer (some ⟨b1, 3, none⟩)) (T.ld false 86 (.int .i64 v.choice) 3 b1 3 (fun w h => St.cellM h mm0 (by kernel_rfl)) (T.pb 87 (v.choice == 2) (T.pb 84 (v.choice == 2) (T.nil (QN.seq (W.cd (v.choice == 2) (fun h15 => ?_) (fun h15 => ?_)))))))))
      ·
       refine W.seq (W.rg od5 (T.pi 88 m (T.lr false 89 v.cs 43 b1 0 (fun w h => St.rangeM h v.cs mm0 (by kernel_rfl)) (T.pu 90 (.slice A a.length c) (T.cp 91 103 #[.int .i64 m, .agg v.cs, .slice A a.length c] (.bool (twoR m v a)) ent103 (fun w hw => two_c _ _ _ _ _ (by assumption) (by first | assumption | exact Vt.Ok.support (by assumption)) (by first | omega | (simp; done) | (simp; omega)) w (Arr.rd (Rd.arr hr _) hw)) tv2 (T.pb 6 (twoR m v a) (T.nil (QN.seq (W.ret (QN.blkRet (QN.thenRet (QN.done (.inl rfl) 6 (.bool (twoR m v a)) rfl (by kernel_rfl) (fun w hw => ⟨?_, hw.below⟩)))))))))))))
       exact ret_bool (by have hnk : notokB m v = _ := h5; unfold rallowB; rw [hnk, h6, h7, h11, h13, h15]; all_goals rfl)
      ·
       refine W.skip (QN.blkNormal (QN.seq (W.seq (W.rg od7 (T.pi 92 m (T.lr false 93 v.cs 43 b1 0 (fun w h => St.rangeM h v.cs mm0 (by kernel_rfl)) (T.pu 94 (.slice A a.length c) (T.pu 95 (.pointer (some ⟨b1, 2, none⟩)) (T.ld false 96 (.int .i64 v.round) 3 b1 2 (fun w h => St.cellM h mm0 (by kernel_rfl)) (T.cp 97 101 #[.int .i64 m, .agg v.cs, .slice A a.length c, .int .i64 3, .int .i64 v.round] (.bool (allR m v a 3 v.round)) ent101 (fun w hw => all_c _ _ _ _ _ _ _ (by assumption) (by first | assumption | exact Vt.Ok.support (by assumption)) (by first | omega | (simp; done) | (simp; omega)) w (Arr.rd (Rd.arr hr _) hw)) tv2 (T.pb 6 (allR m v a 3 v.round) (T.nil (QN.seq (W.ret (QN.done (.inl rfl) 6 (.bool (allR m v a 3 v.round)) rfl (by kernel_rfl) (fun w hw => ⟨?_, hw.below⟩))))))))))))))))
       exact ret_bool (by have hnk : notokB m v = _ := h5; unfold rallowB; rw [hnk, h6, h7, h11, h13, h15]; all_goals rfl)
end Go.Proofs.YtphnfhonmbbddaaGreat
