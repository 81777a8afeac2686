/- The reference: what is due next. -/
import Derived.Test.YtnjkbgcfpbbglaaGreatRnP
namespace Go.Proofs.YtnjkbgcfpbbglaaGreat
open Go Go.RowKit
set_option linter.unusedVariables false

set_option maxRecDepth 100000 in
set_option maxHeartbeats 2000000 in
theorem rown_c (l : List Vt) (p : Nm) (s z k r : Int) (A : Option Addr) (c : Nat) (w : World) (hl : l.length ≤ 1000) (hr : Rd w A l) : Calls Tryz.prog 181 #[.slice A l.length c, .agg p.cs, .int .i64 s, .int .i64 z, .int .i64 k, .int .i64 r] w (fun rr w' => rr = .returned (.bool (owB l p s z k r)) ∧ Below w.heap.size w w') := by
 refine calls_W (n := 57) Tryz.func181 rfl [(0, .slice A l.length c), (1, .agg p.cs), (2, .int .i64 s), (3, .int .i64 z), (4, .int .i64 k), (5, .int .i64 r)] rfl ⟨by kernel_rfl, by kernel_rfl⟩ (W.weak (Ψ := St w []) (fun w' h => by rw [h]; exact St.start w) (W.seq (W.rg od2 (T.bx 7 24 (.agg p.cs) (p.cs) tv3 (fun b1 => T.pb 12 false (T.nil (QN.seq (W.seq (W.seq (W.rg od1 (T.pi 13 0 (T.nil (QN.seq (W.block (W.loop (σ := Nat) (fun gs => gs ≤ l.length ∧ (l.take gs).any (fun (u : Vt) => (((((u.signer == z) && (u.par == p)) && (u.slot == s)) && (u.kind == k)) && (u.round == r)) && (validB u)) = false) (fun gs => [(0, .slice A l.length c), (2, .int .i64 s), (3, .int .i64 z), (4, .int .i64 k), (5, .int .i64 r), (7, .pointer (some ⟨b1, 0, none⟩)), (13, .int .i64 gs)]) (fun gs => St w [(b1, Obj.cells p.cs 24 (0, 0))]) (fun gs => l.length - gs) 0 ?_ (by kernel_rfl) (fun w h => h) ?_)))))))))))))))
 ·
  try dsimp only
  exact ⟨Nat.zero_le _, any_zero _ _⟩
 rintro j hI_
 obtain ⟨hj, hany⟩ : j ≤ l.length ∧ (l.take j).any (fun (u : Vt) => (((((u.signer == z) && (u.par == p)) && (u.slot == s)) && (u.kind == k)) && (u.round == r)) && (validB u)) = false := hI_
 refine W.seq (W.seq (W.rg od4 (T.pi 15 j (T.pu 16 (.slice A l.length c) (T.pi 17 ((l.length : Nat) : Int) (T.pb 18 (decide ((j : Int) < ((l.length : Nat) : Int))) (T.nil (QN.seq (W.cd (decide ((j : Int) < ((l.length : Nat) : Int))) (fun h2 => ?_) (fun h2 => ?_))))))))))
 ·
  have h2' := of_decide_eq_true h2
  have hl3 : j < l.length := by omega
  refine W.skip (QN.seq (W.seq (W.block (W.seq (W.rg od6 (T.pu 21 (.slice A l.length c) (T.pi 22 j ?_)))))))
  obtain ⟨b4, o5, hA6, hr7⟩ := (Rd.arr hr _) j hl3
  refine T.ix 23 25 47 22 A l.length c (j : Int) j b4 o5 hA6 rfl (by omega) (T.lr false 24 (l[j]'hl3).cs 47 b4 (o5 + j * 22) hr7 (T.al 14 47 Vt.zero.cs tv3 (fun b8 => T.sp 47 b8 0 (.agg (l[j]'hl3).cs) Vt.zero.cs (l[j]'hl3).cs 47 pm0 tv2 (T.nil (QN.seq (W.seq (W.rg [(0, false), (1, false), (2, false), (3, false), (4, false), (5, false), (6, false), (7, false), (8, false), (9, false), (10, false), (11, false), (12, false), (13, false), (14, false), (15, false), (16, false), (17, false), (18, false), (19, false), (20, false), (21, false), (22, false), (23, false), (24, false), (25, false), (26, false), (27, false), (28, false), (29, false), (30, false), (31, false)] (T.pu 25 (.pointer (some ⟨b8, 4, none⟩)) (T.ld false 26 (.int .i64 ((l[j]'hl3).signer)) 3 b8 4 (fun w h => St.cellM h mm0 (by kernel_rfl)) (T.pi 27 z (T.pb 28 (((l[j]'hl3).signer) == z) (T.pb 29 (((l[j]'hl3).signer) == z) (T.bk [(5, false), (6, false), (7, false), (8, false)] [(9, false), (10, false), (11, false), (12, false), (13, false), (14, false), (15, false), (16, false), (17, false), (18, false), (19, false), (20, false), (21, false), (22, false), (23, false), (24, false), (25, false), (26, false), (27, false), (28, false), (29, false), (30, false), (31, false)] 4 true (((l[j]'hl3).signer) == z) 29 33 (.bool (((l[j]'hl3).par) == p)) (fun hg9 => ?_) ?_)))))))))))))
  ·
   have hg9_ := hg9
   refine T.pu 30 (.pointer (some ⟨b8, 6, none⟩)) (T.lr false 31 ((l[j]'hl3).par).cs 24 b8 6 (fun w h => St.rangeM h ((l[j]'hl3).par).cs mm0 (by kernel_rfl)) (T.lr false 32 p.cs 24 b1 0 (fun w h => St.rangeM h p.cs mm1 (by kernel_rfl)) (T.eqq 33 (((l[j]'hl3).par) == p) (((l[j]'hl3).par) == p) false 24 ((l[j]'hl3).par).cs p.cs (by kernel_rfl) (by kernel_rfl) (by kernel_rfl) (by kernel_rfl) (fun w => eq_nm w ((l[j]'hl3).par) p) ?_)))
   exact T.blkEnd (by kernel_rfl) (fun w h => h)
  refine T.an 34 (((l[j]'hl3).signer) == z) (((l[j]'hl3).par) == p) (T.pb 35 ((((l[j]'hl3).signer) == z) && (((l[j]'hl3).par) == p)) (T.bk [(11, false), (12, false), (13, false), (14, false)] [(15, false), (16, false), (17, false), (18, false), (19, false), (20, false), (21, false), (22, false), (23, false), (24, false), (25, false), (26, false), (27, false), (28, false), (29, false), (30, false), (31, false)] 10 true ((((l[j]'hl3).signer) == z) && (((l[j]'hl3).par) == p)) 35 39 (.bool (((l[j]'hl3).slot) == s)) (fun hg10 => ?_) ?_))
  ·
   have hg10_ := hg10
   have hg10l := (Bool.and_eq_true_iff.1 hg10).1
   have hg10r := (Bool.and_eq_true_iff.1 hg10).2
   refine T.pu 36 (.pointer (some ⟨b8, 1, none⟩)) (T.ld false 37 (.int .i64 ((l[j]'hl3).slot)) 3 b8 1 (fun w h => St.cellM h mm0 (by kernel_rfl)) (T.pi 38 s (T.pb 39 (((l[j]'hl3).slot) == s) ?_)))
   exact T.blkEnd (by kernel_rfl) (fun w h => h)
  refine T.an 40 ((((l[j]'hl3).signer) == z) && (((l[j]'hl3).par) == p)) (((l[j]'hl3).slot) == s) (T.pb 41 (((((l[j]'hl3).signer) == z) && (((l[j]'hl3).par) == p)) && (((l[j]'hl3).slot) == s)) (T.bk [(17, false), (18, false), (19, false), (20, false)] [(21, false), (22, false), (23, false), (24, false), (25, false), (26, false), (27, false), (28, false), (29, false), (30, false), (31, false)] 16 true (((((l[j]'hl3).signer) == z) && (((l[j]'hl3).par) == p)) && (((l[j]'hl3).slot) == s)) 41 45 (.bool (((l[j]'hl3).kind) == k)) (fun hg11 => ?_) ?_))
  ·
   have hg11_ := hg11
   have hg11l := (Bool.and_eq_true_iff.1 hg11).1
   have hg11r := (Bool.and_eq_true_iff.1 hg11).2
   have hg11ll := (Bool.and_eq_true_iff.1 hg11l).1
   have hg11lr := (Bool.and_eq_true_iff.1 hg11l).2
   refine T.pu 42 (.pointer (some ⟨b8, 0, none⟩)) (T.ld false 43 (.int .i64 ((l[j]'hl3).kind)) 3 b8 0 (fun w h => St.cellM h mm0 (by kernel_rfl)) (T.pi 44 k (T.pb 45 (((l[j]'hl3).kind) == k) ?_)))
   exact T.blkEnd (by kernel_rfl) (fun w h => h)
  refine T.an 46 (((((l[j]'hl3).signer) == z) && (((l[j]'hl3).par) == p)) && (((l[j]'hl3).slot) == s)) (((l[j]'hl3).kind) == k) (T.pb 47 ((((((l[j]'hl3).signer) == z) && (((l[j]'hl3).par) == p)) && (((l[j]'hl3).slot) == s)) && (((l[j]'hl3).kind) == k)) (T.bk [(23, false), (24, false), (25, false), (26, false)] [(27, false), (28, false), (29, false), (30, false), (31, false)] 22 true ((((((l[j]'hl3).signer) == z) && (((l[j]'hl3).par) == p)) && (((l[j]'hl3).slot) == s)) && (((l[j]'hl3).kind) == k)) 47 51 (.bool (((l[j]'hl3).round) == r)) (fun hg12 => ?_) ?_))
  ·
   have hg12_ := hg12
   have hg12l := (Bool.and_eq_true_iff.1 hg12).1
   have hg12r := (Bool.and_eq_true_iff.1 hg12).2
   have hg12ll := (Bool.and_eq_true_iff.1 hg12l).1
   have hg12lr := (Bool.and_eq_true_iff.1 hg12l).2
   have hg12lll := (Bool.and_eq_true_iff.1 hg12ll).1
   have hg12llr := (Bool.and_eq_true_iff.1 hg12ll).2
   refine T.pu 48 (.pointer (some ⟨b8, 2, none⟩)) (T.ld false 49 (.int .i64 ((l[j]'hl3).round)) 3 b8 2 (fun w h => St.cellM h mm0 (by kernel_rfl)) (T.pi 50 r (T.pb 51 (((l[j]'hl3).round) == r) ?_)))
   exact T.blkEnd (by kernel_rfl) (fun w h => h)
  refine T.an 52 ((((((l[j]'hl3).signer) == z) && (((l[j]'hl3).par) == p)) && (((l[j]'hl3).slot) == s)) && (((l[j]'hl3).kind) == k)) (((l[j]'hl3).round) == r) (T.pb 53 (((((((l[j]'hl3).signer) == z) && (((l[j]'hl3).par) == p)) && (((l[j]'hl3).slot) == s)) && (((l[j]'hl3).kind) == k)) && (((l[j]'hl3).round) == r)) (T.bk [(29, false), (30, false)] [(31, false)] 28 true (((((((l[j]'hl3).signer) == z) && (((l[j]'hl3).par) == p)) && (((l[j]'hl3).slot) == s)) && (((l[j]'hl3).kind) == k)) && (((l[j]'hl3).round) == r)) 53 55 (.bool (validB (l[j]'hl3))) (fun hg13 => ?_) ?_))
  ·
   have hg13_ := hg13
   have hg13l := (Bool.and_eq_true_iff.1 hg13).1
   have hg13r := (Bool.and_eq_true_iff.1 hg13).2
   have hg13ll := (Bool.and_eq_true_iff.1 hg13l).1
   have hg13lr := (Bool.and_eq_true_iff.1 hg13l).2
   have hg13lll := (Bool.and_eq_true_iff.1 hg13ll).1
   have hg13llr := (Bool.and_eq_true_iff.1 hg13ll).2
   have hg13llll := (Bool.and_eq_true_iff.1 hg13lll).1
   have hg13lllr := (Bool.and_eq_true_iff.1 hg13lll).2
   refine T.lr false 54 (l[j]'hl3).cs 47 b8 0 (fun w h => St.rangeM h (l[j]'hl3).cs mm0 (by kernel_rfl)) (T.cp 55 100 #[.agg (l[j]'hl3).cs] (.bool (validB (l[j]'hl3))) ent100 (fun w hw => rvalid_c _ w) tv2 ?_)
   exact T.blkEnd (by kernel_rfl) (fun w h => h)
  refine T.an 56 (((((((l[j]'hl3).signer) == z) && (((l[j]'hl3).par) == p)) && (((l[j]'hl3).slot) == s)) && (((l[j]'hl3).kind) == k)) && (((l[j]'hl3).round) == r)) (validB (l[j]'hl3)) (T.nil (QN.seq (W.cd ((((((((l[j]'hl3).signer) == z) && (((l[j]'hl3).par) == p)) && (((l[j]'hl3).slot) == s)) && (((l[j]'hl3).kind) == k)) && (((l[j]'hl3).round) == r)) && (validB (l[j]'hl3))) (fun h14 => ?_) (fun h14 => ?_))))
  ·
   have h14l := (Bool.and_eq_true_iff.1 h14).1
   have h14r := (Bool.and_eq_true_iff.1 h14).2
   have h14ll := (Bool.and_eq_true_iff.1 h14l).1
   have h14lr := (Bool.and_eq_true_iff.1 h14l).2
   have h14lll := (Bool.and_eq_true_iff.1 h14ll).1
   have h14llr := (Bool.and_eq_true_iff.1 h14ll).2
   have h14llll := (Bool.and_eq_true_iff.1 h14lll).1
   have h14lllr := (Bool.and_eq_true_iff.1 h14lll).2
   have h14lllll := (Bool.and_eq_true_iff.1 h14llll).1
   have h14llllr := (Bool.and_eq_true_iff.1 h14llll).2
   refine W.seq (W.rg od1 (T.pb 12 true (T.nil (QN.seq (W.ret (QN.blkRet (QN.thenRet (QN.thenRet (QN.blkRet (QN.thenRet (QN.done (.inl rfl) 12 (.bool true) rfl (by kernel_rfl) (fun w hw => ⟨?_, hw.below⟩))))))))))))
   exact ret_bool (any_hit (p := (fun (u : Vt) => (((((u.signer == z) && (u.par == p)) && (u.slot == s)) && (u.kind == k)) && (u.round == r)) && (validB u))) (by omega) h14).symm
  ·
   refine W.skip (QN.blkNormal (QN.seq (W.rg od3 (T.pi 19 j (T.pw 20 ((j : Int) + 1) (T.pi 13 ((j : Int) + 1) (T.nil (QN.back (j + 1) ?_ ?_ (by kernel_rfl) (fun w h => (h.perm pm1).part ns1)))))))))
   ·
    try dsimp only
    exact ⟨by omega, any_step hany (by omega) h14⟩
   · show l.length - (j + 1) < l.length - j; omega
 ·
  have h2' := of_decide_eq_false h2
  refine W.exit (QN.thenExit (QN.thenExit (QN.blkHit (QN.seq (W.seq (W.rg od1 (T.pb 12 false (T.nil (QN.seq (W.ret (QN.done (.inl rfl) 12 (.bool false) rfl (by kernel_rfl) (fun w hw => ⟨?_, hw.below⟩))))))))))))
  exact ret_bool (any_end hany (by omega)).symm
set_option maxRecDepth 100000 in
set_option maxHeartbeats 2000000 in
theorem rranked_c (a : List Vt) (k r : Int) (A : Option Addr) (c : Nat) (w : World) (ha : a.length ≤ 1000) (hr : Rd w A a) : Calls Tryz.prog 191 #[.slice A a.length c, .int .i64 k, .int .i64 r] w (fun rr w' => ∃ A c Hr, rr = .returned (.slice A (rkL a k r).length c) ∧ RowIs 47 22 A (rkL a k r).length c (cells (rkL a k r)) Hr ∧ St w Hr w') := by
 refine calls_W (n := 36) Tryz.func191 rfl [(0, .slice A a.length c), (1, .int .i64 k), (2, .int .i64 r)] rfl ⟨by kernel_rfl, by kernel_rfl⟩ (W.weak (Ψ := St w []) (fun w' h => by rw [h]; exact St.start w) (W.seq (W.rg od1 (T.pu 6 (.slice none 0 0) (T.nil (QN.seq (W.seq (W.rg od1 (T.pu 7 (.slice none 0 0) (T.nil (QN.seq (W.seq (W.seq (W.rg od1 (T.pi 8 0 (T.nil (QN.seq (W.block (W.loop (σ := Nat × List Vt × Option Addr × Nat × List (Nat × Obj)) (fun gs => gs.1 ≤ 2 ∧ gs.2.1 = rkC a k r gs.1 ∧ gs.2.1.length ≤ 1000 * gs.1 ∧ RowIs 47 22 gs.2.2.1 gs.2.1.length gs.2.2.2.1 (cells gs.2.1) gs.2.2.2.2) (fun gs => [(0, .slice A a.length c), (1, .int .i64 k), (2, .int .i64 r), (6, .slice none 0 0), (7, .slice gs.2.2.1 gs.2.1.length gs.2.2.2.1), (8, .int .i64 (gs.1 : Int))]) (fun gs => St w (gs.2.2.2.2 ++ [])) (fun gs => 2 - gs.1) (0, [], none, 0, []) ?_ (by kernel_rfl) (fun w h => h) ?_)))))))))))))))))))
 ·
  try dsimp only
  exact ⟨by omega, rfl, by simp, RowIs.nil⟩
 rintro ⟨cc, out, A7, c7, Hr7⟩ hI_
 obtain ⟨hc2, hout, hol, hrow7⟩ : cc ≤ 2 ∧ out = rkC a k r cc ∧ out.length ≤ 1000 * cc ∧ RowIs 47 22 A7 out.length c7 (cells out) Hr7 := hI_
 refine W.seq (W.seq (W.rg od2 (T.pi 11 cc (T.pb 12 (decide ((cc : Int) ≤ 1)) (T.nil (QN.seq (W.cd (decide ((cc : Int) ≤ 1)) (fun h1 => ?_) (fun h1 => ?_))))))))
 ·
  have h1' := of_decide_eq_true h1
  refine W.skip (QN.seq (W.seq (W.block (W.seq (W.rg od6 (T.pu 15 (.slice A a.length c) (T.pi 16 k (T.pi 17 r (T.pi 18 cc (T.callR 19 53 #[.slice A a.length c, .int .i64 k, .int .i64 r, .int .i64 cc] 24 8 (nvL a k r (cc : Int)).length (cells (nvL a k r (cc : Int))) (by kernel_rfl) (by kernel_rfl) ent53 (fun w hw => rvalues_c a k r (cc : Int) A c w (by first | omega | (simp; done) | (simp; omega)) (Arr.rd (Rd.arr hr _) hw)) tv3 (fun A2 c3 Hr4 hrow5 => T.pu 9 (.slice A2 ((nvL a k r (cc : Int)).length) c3) (T.nil (QN.seq (W.seq (W.rg od1 (T.pi 10 0 (T.nil (QN.seq (W.block ?_)))))))))))))))))))
  have hvl := nvL_len a k r (cc : Int)
  refine W.loop (σ := Nat × List Vt × Option Addr × Nat × List (Nat × Obj)) (fun gs => gs.1 ≤ (nvL a k r (cc : Int)).length ∧ gs.2.1 = rkC a k r cc ++ rkI (cc : Int) ((nvL a k r (cc : Int)).take gs.1) ∧ gs.2.1.length ≤ 1000 * cc + gs.1 ∧ RowIs 47 22 gs.2.2.1 gs.2.1.length gs.2.2.2.1 (cells gs.2.1) gs.2.2.2.2) (fun gs => [(0, .slice A a.length c), (1, .int .i64 k), (2, .int .i64 r), (6, .slice none 0 0), (7, .slice gs.2.2.1 gs.2.1.length gs.2.2.2.1), (8, .int .i64 cc), (9, .slice A2 ((nvL a k r (cc : Int)).length) c3), (10, .int .i64 (gs.1 : Int)), (11, .int .i64 cc), (12, .bool (decide ((cc : Int) ≤ 1))), (15, .slice A a.length c), (16, .int .i64 k), (17, .int .i64 r), (18, .int .i64 cc), (19, .slice A2 ((nvL a k r (cc : Int)).length) c3)]) (fun gs => St w (Hr4 ++ (gs.2.2.2.2 ++ []))) (fun gs => (nvL a k r (cc : Int)).length - gs.1) (0, out, A7, c7, Hr7) ?_ (by kernel_rfl) (fun w h => h) ?_
  ·
   try dsimp only
   exact ⟨Nat.zero_le _, by rw [hout]; exact (List.append_nil _).symm, by omega, hrow7⟩
  rintro ⟨i, out, A7, c7, Hr7⟩ hI_
  obtain ⟨hi, hout, hol, hrow7⟩ : i ≤ (nvL a k r (cc : Int)).length ∧ out = rkC a k r cc ++ rkI (cc : Int) ((nvL a k r (cc : Int)).take i) ∧ out.length ≤ 1000 * cc + i ∧ RowIs 47 22 A7 out.length c7 (cells out) Hr7 := hI_
  refine W.seq (W.seq (W.rg od4 (T.pi 20 i (T.pu 21 (.slice A2 ((nvL a k r (cc : Int)).length) c3) (T.pi 22 (((nvL a k r (cc : Int)).length : Nat) : Int) (T.pb 23 (decide ((i : Int) < (((nvL a k r (cc : Int)).length : Nat) : Int))) (T.nil (QN.seq (W.cd (decide ((i : Int) < (((nvL a k r (cc : Int)).length : Nat) : Int))) (fun h6 => ?_) (fun h6 => ?_))))))))))
  ·
   have h6' := of_decide_eq_true h6
   have hl7 : i < (nvL a k r (cc : Int)).length := by omega
   refine W.skip (QN.seq (W.seq (W.block (W.rg od10 (T.pu 26 (.slice A7 out.length c7) (T.pi 27 cc (T.pu 28 (.slice A2 ((nvL a k r (cc : Int)).length) c3) (T.pi 29 i ?_))))))))
   obtain ⟨b8, o9, hA10, hr11⟩ := (Arr.row hrow5 rfl rfl _) i hl7
   refine T.ix 30 28 24 8 A2 ((nvL a k r (cc : Int)).length) c3 (i : Int) i b8 o9 hA10 rfl (by omega) (T.lr false 31 ((nvL a k r (cc : Int))[i]'hl7).cs 24 b8 (o9 + i * 8) hr11 (T.pu 32 (.agg (⟨0, 0, 0, (cc : Int), 0, 0, Nm.zero, ((nvL a k r (cc : Int))[i]'hl7)⟩ : Vt).cs) (T.lit 33 25 47 1 #[(0, .agg (⟨0, 0, 0, (cc : Int), 0, 0, Nm.zero, ((nvL a k r (cc : Int))[i]'hl7)⟩ : Vt).cs)] (cells ([(⟨0, 0, 0, (cc : Int), 0, 0, Nm.zero, ((nvL a k r (cc : Int))[i]'hl7)⟩ : Vt)] : List Vt)).toArray (by kernel_rfl) (by kernel_rfl) (by kernel_rfl) (by kernel_rfl) tv3 (fun b12 => T.appC 34 25 47 64 A7 c7 (out : List Vt) Hr7 b12 0 1 ([(⟨0, 0, 0, (cc : Int), 0, 0, Nm.zero, ((nvL a k r (cc : Int))[i]'hl7)⟩ : Vt)] : List Vt) ((((pm0.append_left Hr4).trans (List.perm_append_comm_assoc _ _ _)).cons _).trans List.perm_middle.symm) (by kernel_rfl) (by kernel_rfl) (by kernel_rfl) (by kernel_rfl) hrow7 (fun w h => St.rangeM h (cells ([(⟨0, 0, 0, (cc : Int), 0, 0, Nm.zero, ((nvL a k r (cc : Int))[i]'hl7)⟩ : Vt)] : List Vt)).toArray (List.mem_append_right _ mm0) (by kernel_rfl)) (by unfold maxLen; first | omega | (simp; omega)) (by first | omega | (simp; omega)) tv3 (fun A13 c14 Hr15 hrow16 => T.pu 7 (.slice A13 ((out ++ ([(⟨0, 0, 0, (cc : Int), 0, 0, Nm.zero, ((nvL a k r (cc : Int))[i]'hl7)⟩ : Vt)])).length) c14) (T.nil (QN.blkNormal (QN.seq (W.rg od3 (T.pi 24 i (T.pw 25 ((i : Int) + 1) (T.pi 10 ((i : Int) + 1) (T.nil (QN.back (i + 1, out ++ ([(⟨0, 0, 0, (cc : Int), 0, 0, Nm.zero, ((nvL a k r (cc : Int))[i]'hl7)⟩ : Vt)]), A13, c14, Hr15) ?_ ?_ (by kernel_rfl) (fun w h => (h.perm (((((pm0.cons _).trans List.perm_middle.symm).append_left Hr15).trans (List.perm_append_comm_assoc _ _ _)).trans (pm0.append_left Hr4))).part (List.Sublist.append (List.Sublist.refl _) (List.Sublist.append (List.Sublist.refl _) (List.nil_sublist _))))))))))))))))))
   ·
    try dsimp only
    exact ⟨by omega, rkI_step (by omega) hout, by rw [List.length_append, List.length_singleton]; omega, hrow16⟩
   · show (nvL a k r (cc : Int)).length - _ < (nvL a k r (cc : Int)).length - _; omega
  ·
   have h6' := of_decide_eq_false h6
   refine W.exit (QN.thenExit (QN.thenExit (QN.blkHit (QN.blkNormal (QN.seq (W.rg od3 (T.pi 13 cc (T.pw 14 ((cc : Int) + 1) (T.pi 8 ((cc : Int) + 1) (T.nil (QN.back (cc + 1, out, A7, c7, Hr7) ?_ ?_ (by kernel_rfl) (fun w h => (h.perm ((pm0.append_left Hr4).trans (List.perm_append_comm_assoc _ _ _))).part (List.Sublist.append (List.Sublist.refl _) (List.nil_sublist _))))))))))))))
   ·
    try dsimp only
    exact ⟨by omega, by rw [hout]; exact rkC_step (by omega), by omega, hrow7⟩
   · show 2 - _ < 2 - _; omega
 ·
  have h1' := of_decide_eq_false h1
  refine W.exit (QN.thenExit (QN.thenExit (QN.blkHit (QN.seq (W.seq (W.rg od2 (T.pu 35 (.slice A7 out.length c7) (T.pu 6 (.slice A7 out.length c7) (T.nil (QN.seq (W.ret (QN.done (.inl rfl) 6 (.slice A7 out.length c7) rfl (by kernel_rfl) (fun w hw => ?_)))))))))))))
  exact (have e1 : out = rkL a k r := (by rw [hout, show cc = 2 by omega]; rfl); by rw [← e1]; exact ⟨A7, c7, Hr7, rfl, hrow7, hw.part (List.sublist_append_left _ _)⟩)
theorem rvo_yes {a : List Vt} {k r : Int} {j : Nat} {mk : Int} (hs : ∀ u ∈ a, 0 ≤ u.signer ∧ u.signer < 10) (hj : j < a.length) (h : mk = whoM (a.take j) k r anyV) (hc : ((a[j].kind == k) && (a[j].round == r)) = true) : bits .or .i64 mk (bitD a[j].signer) = whoM (a.take (j + 1)) k r anyV := by
  rw [List.take_succ_eq_append_getElem hj, whoM_snoc, ← h]
  have hb := hs _ (List.getElem_mem hj)
  have : whoP k r anyV a[j] = true := by unfold whoP anyV; rw [hc]; rfl
  rw [this, cond_true, bit_pow hb.1 hb.2]
theorem rvo_no {a : List Vt} {k r : Int} {j : Nat} {mk : Int} (hj : j < a.length) (h : mk = whoM (a.take j) k r anyV) (hc : ((a[j].kind == k) && (a[j].round == r)) = false) : mk = whoM (a.take (j + 1)) k r anyV := by
  rw [List.take_succ_eq_append_getElem hj, whoM_snoc, ← h]
  have : whoP k r anyV a[j] = false := by unfold whoP; rw [hc]; rfl
  rw [this]; rfl
set_option maxRecDepth 100000 in
set_option maxHeartbeats 2000000 in
theorem rvoters_c (a : List Vt) (k r : Int) (A : Option Addr) (c : Nat) (w : World) (hsg : ∀ u ∈ a, 0 ≤ u.signer ∧ u.signer < 10) (ha : a.length ≤ 1000) (hr : Rd w A a) : Calls Tryz.prog 192 #[.slice A a.length c, .int .i64 k, .int .i64 r] w (fun rr w' => rr = .returned (.int .i64 (whoM a k r anyV)) ∧ Below w.heap.size w w') := by
 refine calls_W (n := 40) Tryz.func192 rfl [(0, .slice A a.length c), (1, .int .i64 k), (2, .int .i64 r)] rfl ⟨by kernel_rfl, by kernel_rfl⟩ (W.weak (Ψ := St w []) (fun w' h => by rw [h]; exact St.start w) (W.seq (W.rg od1 (T.pi 6 0 (T.nil (QN.seq (W.seq (W.rg od1 (T.pi 7 0 (T.nil (QN.seq (W.seq (W.seq (W.rg od1 (T.pi 8 0 (T.nil (QN.seq (W.block (W.loop (σ := Nat × Int) (fun gs => gs.1 ≤ a.length ∧ gs.2 = whoM (a.take gs.1) k r anyV) (fun gs => [(0, .slice A a.length c), (1, .int .i64 k), (2, .int .i64 r), (6, .int .i64 0), (7, .int .i64 gs.2), (8, .int .i64 (gs.1 : Int))]) (fun gs => St w []) (fun gs => a.length - gs.1) (0, 0) ?_ (by kernel_rfl) (fun w h => h) ?_)))))))))))))))))))
 ·
  try dsimp only
  exact ⟨Nat.zero_le _, rfl⟩
 rintro ⟨j, mk⟩ hI_
 obtain ⟨hj, hmk⟩ : j ≤ a.length ∧ mk = whoM (a.take j) k r anyV := hI_
 refine W.seq (W.seq (W.rg od4 (T.pi 9 j (T.pu 10 (.slice A a.length c) (T.pi 11 ((a.length : Nat) : Int) (T.pb 12 (decide ((j : Int) < ((a.length : Nat) : Int))) (T.nil (QN.seq (W.cd (decide ((j : Int) < ((a.length : Nat) : Int))) (fun h1 => ?_) (fun h1 => ?_))))))))))
 ·
  have h1' := of_decide_eq_true h1
  have hl2 : j < a.length := by omega
  refine W.skip (QN.seq (W.seq (W.block (W.seq (W.rg od16 (T.pu 15 (.slice A a.length c) (T.pi 16 j ?_)))))))
  obtain ⟨b3, o4, hA5, hr6⟩ := (Rd.arr hr _) j hl2
  refine T.ix 17 25 47 22 A a.length c (j : Int) j b3 o4 hA5 rfl (by omega) (T.pu 18 (.pointer (some ⟨b3, o4 + j * 22, none⟩)) (T.ld false 19 (.int .i64 ((a[j]'hl2).kind)) 3 b3 (o4 + j * 22) (fun w h => cell_of_range (hr6 w h) 0 (by kernel_rfl)) (T.pi 20 k (T.pb 21 (((a[j]'hl2).kind) == k) (T.pb 22 (((a[j]'hl2).kind) == k) (T.bk [(8, false), (9, false), (10, false), (11, false), (12, false), (13, false), (14, false)] [(15, false)] 7 true (((a[j]'hl2).kind) == k) 22 29 (.bool (((a[j]'hl2).round) == r)) (fun hg7 => ?_) ?_))))))
  ·
   have hg7_ := hg7
   refine T.pu 23 (.slice A a.length c) (T.pi 24 j ?_)
   obtain ⟨b8, o9, hA10, hr11⟩ := (Rd.arr hr _) j hl2
   refine T.ix 25 25 47 22 A a.length c (j : Int) j b8 o9 hA10 rfl (by omega) (T.pu 26 (.pointer (some ⟨b8, o9 + j * 22 + 2, none⟩)) (T.ld false 27 (.int .i64 ((a[j]'hl2).round)) 3 b8 (o9 + j * 22 + 2) (fun w h => cell_of_range (hr11 w h) 2 (by kernel_rfl)) (T.pi 28 r (T.pb 29 (((a[j]'hl2).round) == r) ?_))))
   exact T.blkEnd (by kernel_rfl) (fun w h => h)
  refine T.an 30 (((a[j]'hl2).kind) == k) (((a[j]'hl2).round) == r) (T.nil (QN.seq (W.cd ((((a[j]'hl2).kind) == k) && (((a[j]'hl2).round) == r)) (fun h12 => ?_) (fun h12 => ?_))))
  ·
   have h12l := (Bool.and_eq_true_iff.1 h12).1
   have h12r := (Bool.and_eq_true_iff.1 h12).2
   refine W.rg od9 (T.pi 31 mk (T.pu 32 (.slice A a.length c) (T.pi 33 j ?_)))
   obtain ⟨b13, o14, hA15, hr16⟩ := (Rd.arr hr _) j hl2
   refine T.ix 34 25 47 22 A a.length c (j : Int) j b13 o14 hA15 rfl (by omega) (T.pu 35 (.pointer (some ⟨b13, o14 + j * 22 + 4, none⟩)) (T.ld false 36 (.int .i64 ((a[j]'hl2).signer)) 3 b13 (o14 + j * 22 + 4) (fun w h => cell_of_range (hr16 w h) 4 (by kernel_rfl)) (T.cp 37 97 #[.int .i64 ((a[j]'hl2).signer)] (.int .i64 (bitD ((a[j]'hl2).signer))) ent97 (fun w hw => rbit_cD _ (by have := hsg _ (List.getElem_mem (show j < a.length by omega)); unfold W64; omega) w) tv2 (T.pi 38 (bits .or .i64 mk (bitD ((a[j]'hl2).signer))) (T.pi 7 (bits .or .i64 mk (bitD ((a[j]'hl2).signer))) (T.nil (QN.blkNormal (QN.seq (W.rg od3 (T.pi 13 j (T.pw 14 ((j : Int) + 1) (T.pi 8 ((j : Int) + 1) (T.nil (QN.back (j + 1, bits .or .i64 mk (bitD ((a[j]'hl2).signer))) ?_ ?_ (by kernel_rfl) (fun w h => h)))))))))))))))
   ·
    try dsimp only
    exact ⟨by omega, rvo_yes hsg (by omega) hmk h12⟩
   · show a.length - (j + 1) < a.length - j; omega
  ·
   refine W.skip (QN.blkNormal (QN.seq (W.rg od3 (T.pi 13 j (T.pw 14 ((j : Int) + 1) (T.pi 8 ((j : Int) + 1) (T.nil (QN.back (j + 1, mk) ?_ ?_ (by kernel_rfl) (fun w h => h)))))))))
   ·
    try dsimp only
    exact ⟨by omega, rvo_no (by omega) hmk h12⟩
   · show a.length - (j + 1) < a.length - j; omega
 ·
  have h1' := of_decide_eq_false h1
  refine W.exit (QN.thenExit (QN.thenExit (QN.blkHit (QN.seq (W.seq (W.rg od2 (T.pi 39 mk (T.pi 6 mk (T.nil (QN.seq (W.ret (QN.done (.inl rfl) 6 (.int .i64 mk) rfl (by kernel_rfl) (fun w hw => ⟨?_, hw.below⟩)))))))))))))
  exact ret_int (by rw [hmk, take_end (by omega)])
theorem w64_rw1 (a : List Vt) (k r : Int) (v : Vt) : W64 (rw1 a k r v) := w64_rwho _ _ _ _
theorem w64_mxM (a : List Vt) (r : Int) : W64 (mxM a r) := w64_rwho _ _ _ _
set_option maxRecDepth 100000 in
set_option maxHeartbeats 2000000 in
theorem rprec_c (a : List Vt) (q r : Int) (A : Option Addr) (c : Nat) (w : World) (hsg : ∀ u ∈ a, 0 ≤ u.signer ∧ u.signer < 10) (ha : a.length ≤ 1000) (hq0 : 0 ≤ q) (hq1 : q ≤ 10) (r1 : 1 ≤ r) (r2 : r ≤ 12) (hr : Rd w A a) : Calls Tryz.prog 182 #[.slice A a.length c, .int .i64 q, .int .i64 r] w (fun rr w' => rr = .returned (.tuple #[.agg ((precR a q r).getD Vt.zero).cs, .bool (precR a q r).isSome]) ∧ Below w.heap.size w w') := by
 have hk3 := rk_len (a := a) (k := 3) (r := r)
 have hk4 := rk_len (a := a) (k := 4) (r := r)
 refine calls_W (n := 66) Tryz.func182 rfl [(0, .slice A a.length c), (1, .int .i64 q), (2, .int .i64 r)] rfl ⟨by kernel_rfl, by kernel_rfl⟩ (W.weak (Ψ := St w []) (fun w' h => by rw [h]; exact St.start w) (W.seq (W.rg od2 (T.al 6 47 Vt.zero.cs tv3 (fun b1 => T.pb 7 false (T.nil (QN.seq (W.seq (W.rg od4 (T.pu 12 (.slice A a.length c) (T.pi 13 r (T.callR 14 191 #[.slice A a.length c, .int .i64 3, .int .i64 r] 47 22 (rkL a 3 r).length (cells (rkL a 3 r)) (by kernel_rfl) (by kernel_rfl) ent191 (fun w hw => rranked_c a 3 r A c w (by first | omega | (simp; done) | (simp; omega)) (Arr.rd (Rd.arr hr _) hw)) tv3 (fun A2 c3 Hr4 hrow5 => T.pu 8 (.slice A2 ((rkL a 3 r).length) c3) (T.nil (QN.seq (W.seq (W.seq (W.rg od1 (T.pi 9 0 (T.nil (QN.seq (W.block (W.loop (σ := Nat) (fun gs => gs ≤ (rkL a 3 r).length ∧ ((rkL a 3 r).take gs).any (fun v => decide (q ≤ (size (rw1 a 3 r v) : Int))) = false) (fun gs => [(0, .slice A a.length c), (1, .int .i64 q), (2, .int .i64 r), (6, .pointer (some ⟨b1, 0, none⟩)), (8, .slice A2 ((rkL a 3 r).length) c3), (9, .int .i64 gs)]) (fun gs => St w (Hr4 ++ [(b1, Obj.cells Vt.zero.cs 47 (0, 0))])) (fun gs => (rkL a 3 r).length - gs) 0 ?_ (by kernel_rfl) (fun w h => h) ?_)))))))))))))))))))))))
 ·
  try dsimp only
  exact ⟨Nat.zero_le _, any_zero _ _⟩
 rintro j hI_
 obtain ⟨hj, hany⟩ : j ≤ (rkL a 3 r).length ∧ ((rkL a 3 r).take j).any (fun v => decide (q ≤ (size (rw1 a 3 r v) : Int))) = false := hI_
 refine W.seq (W.seq (W.rg od4 (T.pi 15 j (T.pu 16 (.slice A2 ((rkL a 3 r).length) c3) (T.pi 17 (((rkL a 3 r).length : Nat) : Int) (T.pb 18 (decide ((j : Int) < (((rkL a 3 r).length : Nat) : Int))) (T.nil (QN.seq (W.cd (decide ((j : Int) < (((rkL a 3 r).length : Nat) : Int))) (fun h6 => ?_) (fun h6 => ?_))))))))))
 ·
  have h6' := of_decide_eq_true h6
  have hl7 : j < (rkL a 3 r).length := by omega
  refine W.skip (QN.seq (W.seq (W.block (W.seq (W.drawn (Ψ := St w (Hr4 ++ [(b1, Obj.cells Vt.zero.cs 47 (0, 0))])) (St w (Hr4 ++ [(b1, Obj.cells Vt.zero.cs 47 (0, 0))])) [(0, true), (1, true), (2, true), (3, true), (4, true), (5, true), (6, true), (7, true), (8, true), (9, true), (10, true), (11, true), (12, false), (13, false)] hmx (by kernel_rfl) (NoPanic.then (NoPanic.inBlock (NoPanic.then (NoPanic.then (NoPanic.inBlock (NoPanic.then NoPanic.body)))))) (fun w h => h.drew) (fun w h => h) (T.pu 21 (.slice A a.length c) (T.pi 22 r (T.pu 23 (.slice A2 ((rkL a 3 r).length) c3) (T.pi 24 j ?_)))))))))
  obtain ⟨b8, o9, hA10, hr11⟩ := (Arr.row hrow5 rfl rfl _) j hl7
  refine T.ix 25 25 47 22 A2 ((rkL a 3 r).length) c3 (j : Int) j b8 o9 hA10 rfl (by omega) (T.pu 26 (.pointer (some ⟨b8, o9 + j * 22 + 3, none⟩)) (T.ld true 27 (.int .i64 (((rkL a 3 r)[j]'hl7).choice)) 3 b8 (o9 + j * 22 + 3) (fun w h => cell_of_range (hr11 w h) 3 (by kernel_rfl)) (T.pu 28 (.slice A2 ((rkL a 3 r).length) c3) (T.pi 29 j ?_))))
  obtain ⟨b12, o13, hA14, hr15⟩ := (Arr.row hrow5 rfl rfl _) j hl7
  refine T.ix 30 25 47 22 A2 ((rkL a 3 r).length) c3 (j : Int) j b12 o13 hA14 rfl (by omega) (T.pu 31 (.pointer (some ⟨b12, o13 + j * 22 + 14, none⟩)) (T.lr true 32 (((rkL a 3 r)[j]'hl7).val).cs 24 b12 (o13 + j * 22 + 14) (fun w h => range_of_range (hr15 w h) 14 (((rkL a 3 r)[j]'hl7).val).cs (by kernel_rfl)) (T.cp 33 58 #[.slice A a.length c, .int .i64 3, .int .i64 r, .int .i64 (((rkL a 3 r)[j]'hl7).choice), .agg (((rkL a 3 r)[j]'hl7).val).cs] (.int .i64 (rw1 a 3 r ((rkL a 3 r)[j]'hl7))) ent58 (fun w hw => rwho_c a 3 r (((rkL a 3 r)[j]'hl7).choice) (((rkL a 3 r)[j]'hl7).val) A c w hsg (by first | omega | (simp; done) | (simp; omega)) (Arr.rd (Rd.arr hr _) hw)) (fun w h => h) (T.pi 10 (rw1 a 3 r ((rkL a 3 r)[j]'hl7)) (T.nil (QN.seq (W.seq (W.rg od4 (T.pi 34 (rw1 a 3 r ((rkL a 3 r)[j]'hl7)) (T.cp 35 74 #[.int .i64 (rw1 a 3 r ((rkL a 3 r)[j]'hl7))] (.int .i64 (size (rw1 a 3 r ((rkL a 3 r)[j]'hl7)) : Int)) ent74 (fun w hw => rsize_c _ (by first | assumption | exact w64_and _ _ | exact w64_or _ _ | exact w64_andNot _ _ | exact w64_rw1 _ _ _ _ | exact w64_mxM _ _ | exact w64_rwho _ _ _ _ | (unfold W64; omega)) w) tv2 (T.pi 36 q (T.pb 37 (decide (q ≤ (size (rw1 a 3 r ((rkL a 3 r)[j]'hl7)) : Int))) (T.nil (QN.seq (W.cd (decide (q ≤ (size (rw1 a 3 r ((rkL a 3 r)[j]'hl7)) : Int))) (fun h16 => ?_) (fun h16 => ?_))))))))))))))))
  ·
   have h16' := of_decide_eq_true h16
   refine W.seq (W.drawn (Ψ := St w (Hr4 ++ [(b1, Obj.cells Vt.zero.cs 47 (0, 0))])) (St w (Hr4 ++ [])) [(0, true), (1, true), (2, true), (3, true), (4, true), (5, true), (6, true), (7, true), (8, true), (9, true), (10, true), (11, true), (12, true), (13, false), (14, true), (15, false), (16, false)] hmx (by kernel_rfl) (NoPanic.then (NoPanic.inBlock (NoPanic.then (NoPanic.then (NoPanic.inBlock (NoPanic.then NoPanic.body)))))) (fun w h => h.drew) (fun w h => (h.perm pm0).part (List.Sublist.append (List.Sublist.refl _) (List.nil_sublist _))) (T.pi 38 r (T.pu 39 (.slice A2 ((rkL a 3 r).length) c3) (T.pi 40 j ?_))))
   obtain ⟨b17, o18, hA19, hr20⟩ := (Arr.row hrow5 rfl rfl _) j hl7
   refine T.ix 41 25 47 22 A2 ((rkL a 3 r).length) c3 (j : Int) j b17 o18 hA19 rfl (by omega) (T.pu 42 (.pointer (some ⟨b17, o18 + j * 22 + 3, none⟩)) (T.ld true 43 (.int .i64 (((rkL a 3 r)[j]'hl7).choice)) 3 b17 (o18 + j * 22 + 3) (fun w h => cell_of_range (hr20 w h) 3 (by kernel_rfl)) (T.pu 44 (.slice A2 ((rkL a 3 r).length) c3) (T.pi 45 j ?_))))
   obtain ⟨b21, o22, hA23, hr24⟩ := (Arr.row hrow5 rfl rfl _) j hl7
   refine T.ix 46 25 47 22 A2 ((rkL a 3 r).length) c3 (j : Int) j b21 o22 hA23 rfl (by omega) (T.pu 47 (.pointer (some ⟨b21, o22 + j * 22 + 14, none⟩)) (T.lr true 48 (((rkL a 3 r)[j]'hl7).val).cs 24 b21 (o22 + j * 22 + 14) (fun w h => range_of_range (hr24 w h) 14 (((rkL a 3 r)[j]'hl7).val).cs (by kernel_rfl)) (T.pi 49 (rw1 a 3 r ((rkL a 3 r)[j]'hl7)) (T.pi 50 q (T.cp 51 72 #[.int .i64 (rw1 a 3 r ((rkL a 3 r)[j]'hl7)), .int .i64 q] (.int .i64 (lowest (rw1 a 3 r ((rkL a 3 r)[j]'hl7)) q)) ent72 (fun w hw => rlowest_c _ _ (by first | assumption | exact w64_and _ _ | exact w64_or _ _ | exact w64_andNot _ _ | exact w64_rw1 _ _ _ _ | exact w64_mxM _ _ | exact w64_rwho _ _ _ _ | (unfold W64; omega)) w) (fun w h => (h.perm pm0).part (List.Sublist.append (List.Sublist.refl _) (List.nil_sublist _))) (T.pu 52 (.agg (⟨4, 0, r, ((rkL a 3 r)[j]'hl7).choice, 0, lowest (rw1 a 3 r ((rkL a 3 r)[j]'hl7)) q, Nm.zero, ((rkL a 3 r)[j]'hl7).val⟩ : Vt).cs) (T.sp 47 b1 0 (.agg (⟨4, 0, r, ((rkL a 3 r)[j]'hl7).choice, 0, lowest (rw1 a 3 r ((rkL a 3 r)[j]'hl7)) q, Nm.zero, ((rkL a 3 r)[j]'hl7).val⟩ : Vt).cs) Vt.zero.cs (⟨4, 0, r, ((rkL a 3 r)[j]'hl7).choice, 0, lowest (rw1 a 3 r ((rkL a 3 r)[j]'hl7)) q, Nm.zero, ((rkL a 3 r)[j]'hl7).val⟩ : Vt).cs 47 ((pm0.append_left Hr4).trans List.perm_middle) (fun w h => (h.perm ((pm0.cons _).trans List.perm_middle.symm)).part (List.Sublist.append (List.Sublist.refl _) (List.nil_sublist _))) (T.pb 7 true (T.nil (QN.seq (W.ret (QN.blkRet (QN.thenRet (QN.thenRet (QN.blkRet (QN.thenRet (QN.doneC2 (.inl rfl) 6 7 47 b1 (⟨4, 0, r, ((rkL a 3 r)[j]'hl7).choice, 0, lowest (rw1 a 3 r ((rkL a 3 r)[j]'hl7)) q, Nm.zero, ((rkL a 3 r)[j]'hl7).val⟩ : Vt).cs (.bool true) _ rfl (by kernel_rfl) (by kernel_rfl) Tryz.underlying47 (by kernel_rfl) (by kernel_rfl) (fun w hw => St.rangeM hw (⟨4, 0, r, ((rkL a 3 r)[j]'hl7).choice, 0, lowest (rw1 a 3 r ((rkL a 3 r)[j]'hl7)) q, Nm.zero, ((rkL a 3 r)[j]'hl7).val⟩ : Vt).cs mm0 (by kernel_rfl)) (fun w hw => ⟨?_, hw.below⟩))))))))))))))))))
   exact (by rw [rprec_hit hany (by omega) h16]; rfl)
  ·
   have h16' := of_decide_eq_false h16
   refine W.skip (QN.blkNormal (QN.seq (W.rg od3 (T.pi 19 j (T.pw 20 ((j : Int) + 1) (T.pi 9 ((j : Int) + 1) (T.nil (QN.back (j + 1) ?_ ?_ (by kernel_rfl) (fun w h => h)))))))))
   ·
    try dsimp only
    exact ⟨by omega, any_step hany (by omega) h16⟩
   · show (rkL a 3 r).length - (j + 1) < (rkL a 3 r).length - j; omega
 ·
  have h6' := of_decide_eq_false h6
  refine W.exit (QN.thenExit (QN.thenExit (QN.blkHit (QN.seq (W.seq (W.rg od4 (T.pu 53 (.slice A a.length c) (T.pi 54 r (T.cp 55 192 #[.slice A a.length c, .int .i64 3, .int .i64 r] (.int .i64 (whoM a 3 r anyV)) ent192 (fun w hw => rvoters_c a 3 r A c w hsg (by first | omega | (simp; done) | (simp; omega)) (Arr.rd (Rd.arr hr _) hw)) tv2 (T.pi 11 (whoM a 3 r anyV) (T.nil (QN.seq (W.seq (W.seq (W.rg od4 (T.pi 56 (whoM a 3 r anyV) (T.cp 57 74 #[.int .i64 (whoM a 3 r anyV)] (.int .i64 (size (whoM a 3 r anyV) : Int)) ent74 (fun w hw => rsize_c _ (w64_rwho _ _ _ _) w) tv2 (T.pi 58 q (T.pb 59 (decide (q ≤ (size (whoM a 3 r anyV) : Int))) (T.nil (QN.seq (W.cd (decide (q ≤ (size (whoM a 3 r anyV) : Int))) (fun h25 => ?_) (fun h25 => ?_)))))))))))))))))))))))
  ·
   have h25' := of_decide_eq_true h25
   refine W.seq (W.rg od7 (T.pi 60 r (T.pi 61 (whoM a 3 r anyV) (T.pi 62 q (T.cp 63 72 #[.int .i64 (whoM a 3 r anyV), .int .i64 q] (.int .i64 (lowest (whoM a 3 r anyV) q)) ent72 (fun w hw => rlowest_c _ _ (w64_rwho _ _ _ _) w) tv2 (T.pu 64 (.agg (⟨4, 0, r, 2, 0, lowest (whoM a 3 r anyV) q, Nm.zero, Nm.zero⟩ : Vt).cs) (T.sp 47 b1 0 (.agg (⟨4, 0, r, 2, 0, lowest (whoM a 3 r anyV) q, Nm.zero, Nm.zero⟩ : Vt).cs) Vt.zero.cs (⟨4, 0, r, 2, 0, lowest (whoM a 3 r anyV) q, Nm.zero, Nm.zero⟩ : Vt).cs 47 ((pm0.append_left Hr4).trans List.perm_middle) tv2 (T.pb 7 true (T.nil (QN.seq (W.ret (QN.thenRet (QN.doneC2 (.inl rfl) 6 7 47 b1 (⟨4, 0, r, 2, 0, lowest (whoM a 3 r anyV) q, Nm.zero, Nm.zero⟩ : Vt).cs (.bool true) _ rfl (by kernel_rfl) (by kernel_rfl) Tryz.underlying47 (by kernel_rfl) (by kernel_rfl) (fun w hw => St.rangeM hw (⟨4, 0, r, 2, 0, lowest (whoM a 3 r anyV) q, Nm.zero, Nm.zero⟩ : Vt).cs mm0 (by kernel_rfl)) (fun w hw => ⟨?_, hw.below⟩))))))))))))))
   exact (by rw [rprec_mix (any_end hany (by omega)) h25]; rfl)
  ·
   have h25' := of_decide_eq_false h25
   refine W.skip (QN.seq (W.seq (W.rg od3 (T.pu 65 (.agg (⟨0, 0, 0, 0, 0, 0, Nm.zero, Nm.zero⟩ : Vt).cs) (T.sp 47 b1 0 (.agg (⟨0, 0, 0, 0, 0, 0, Nm.zero, Nm.zero⟩ : Vt).cs) Vt.zero.cs (⟨0, 0, 0, 0, 0, 0, Nm.zero, Nm.zero⟩ : Vt).cs 47 ((pm0.append_left Hr4).trans List.perm_middle) tv2 (T.pb 7 false (T.nil (QN.seq (W.ret (QN.doneC2 (.inl rfl) 6 7 47 b1 (⟨0, 0, 0, 0, 0, 0, Nm.zero, Nm.zero⟩ : Vt).cs (.bool false) _ rfl (by kernel_rfl) (by kernel_rfl) Tryz.underlying47 (by kernel_rfl) (by kernel_rfl) (fun w hw => St.rangeM hw (⟨0, 0, 0, 0, 0, 0, Nm.zero, Nm.zero⟩ : Vt).cs mm0 (by kernel_rfl)) (fun w hw => ⟨?_, hw.below⟩)))))))))))
   exact (by rw [rprec_none (any_end hany (by omega)) h25]; rfl)
set_option maxRecDepth 100000 in
set_option maxHeartbeats 2000000 in
theorem rprev_c (a : List Vt) (q r : Int) (A : Option Addr) (c : Nat) (w : World) (hsg : ∀ u ∈ a, 0 ≤ u.signer ∧ u.signer < 10) (ha : a.length ≤ 1000) (hq0 : 0 ≤ q) (hq1 : q ≤ 10) (r1 : 1 ≤ r) (r2 : r ≤ 12) (hr : Rd w A a) : Calls Tryz.prog 183 #[.slice A a.length c, .int .i64 q, .int .i64 r] w (fun rr w' => rr = .returned (.tuple #[.agg ((prevR a q r).getD Vt.zero).cs, .bool (prevR a q r).isSome]) ∧ Below w.heap.size w w') := by
 have hk3 := rk_len (a := a) (k := 3) (r := r)
 have hk4 := rk_len (a := a) (k := 4) (r := r)
 refine calls_W (n := 114) Tryz.func183 rfl [(0, .slice A a.length c), (1, .int .i64 q), (2, .int .i64 r)] rfl ⟨by kernel_rfl, by kernel_rfl⟩ (W.weak (Ψ := St w []) (fun w' h => by rw [h]; exact St.start w) (W.seq (W.rg od2 (T.al 6 47 Vt.zero.cs tv3 (fun b1 => T.pb 7 false (T.nil (QN.seq (W.seq (W.rg od5 (T.pu 15 (.slice A a.length c) (T.pi 16 r (T.pu 17 (.agg Nm.zero.cs) (T.cp 18 58 #[.slice A a.length c, .int .i64 4, .int .i64 r, .int .i64 2, .agg Nm.zero.cs] (.int .i64 (mxM a r)) ent58 (fun w hw => rwho_c a 4 r 2 Nm.zero A c w hsg (by first | omega | (simp; done) | (simp; omega)) (Arr.rd (Rd.arr hr _) hw)) tv2 (T.pi 8 (mxM a r) (T.nil (QN.seq (W.seq (W.rg od4 (T.pu 19 (.slice A a.length c) (T.pi 20 r (T.callR 21 191 #[.slice A a.length c, .int .i64 4, .int .i64 r] 47 22 (rkL a 4 r).length (cells (rkL a 4 r)) (by kernel_rfl) (by kernel_rfl) ent191 (fun w hw => rranked_c a 4 r A c w (by first | omega | (simp; done) | (simp; omega)) (Arr.rd (Rd.arr hr _) hw)) tv3 (fun A2 c3 Hr4 hrow5 => T.pu 9 (.slice A2 ((rkL a 4 r).length) c3) (T.nil (QN.seq (W.seq (W.seq (W.rg od1 (T.pi 10 0 (T.nil (QN.seq (W.block (W.loop (σ := Nat) (fun gs => gs ≤ (rkL a 4 r).length ∧ ((rkL a 4 r).take gs).any (fun v => decide (q ≤ (size (bits .or .i64 (rw1 a 4 r v) (mxM a r)) : Int))) = false) (fun gs => [(0, .slice A a.length c), (1, .int .i64 q), (2, .int .i64 r), (6, .pointer (some ⟨b1, 0, none⟩)), (8, .int .i64 (mxM a r)), (9, .slice A2 ((rkL a 4 r).length) c3), (10, .int .i64 gs)]) (fun gs => St w (Hr4 ++ [(b1, Obj.cells Vt.zero.cs 47 (0, 0))])) (fun gs => (rkL a 4 r).length - gs) 0 ?_ (by kernel_rfl) (fun w h => h) ?_))))))))))))))))))))))))))))))))
 ·
  try dsimp only
  exact ⟨Nat.zero_le _, any_zero _ _⟩
 rintro j hI_
 obtain ⟨hj, hany⟩ : j ≤ (rkL a 4 r).length ∧ ((rkL a 4 r).take j).any (fun v => decide (q ≤ (size (bits .or .i64 (rw1 a 4 r v) (mxM a r)) : Int))) = false := hI_
 refine W.seq (W.seq (W.rg od4 (T.pi 22 j (T.pu 23 (.slice A2 ((rkL a 4 r).length) c3) (T.pi 24 (((rkL a 4 r).length : Nat) : Int) (T.pb 25 (decide ((j : Int) < (((rkL a 4 r).length : Nat) : Int))) (T.nil (QN.seq (W.cd (decide ((j : Int) < (((rkL a 4 r).length : Nat) : Int))) (fun h6 => ?_) (fun h6 => ?_))))))))))
 ·
  have h6' := of_decide_eq_true h6
  have hl7 : j < (rkL a 4 r).length := by omega
  refine W.skip (QN.seq (W.seq (W.block (W.seq (W.drawn (Ψ := St w (Hr4 ++ [(b1, Obj.cells Vt.zero.cs 47 (0, 0))])) (St w (Hr4 ++ [(b1, Obj.cells Vt.zero.cs 47 (0, 0))])) [(0, true), (1, true), (2, true), (3, true), (4, true), (5, true), (6, true), (7, true), (8, true), (9, true), (10, true), (11, true), (12, false), (13, false)] hmx (by kernel_rfl) (NoPanic.then (NoPanic.inBlock (NoPanic.then (NoPanic.then (NoPanic.inBlock (NoPanic.then NoPanic.body)))))) (fun w h => h.drew) (fun w h => h) (T.pu 28 (.slice A a.length c) (T.pi 29 r (T.pu 30 (.slice A2 ((rkL a 4 r).length) c3) (T.pi 31 j ?_)))))))))
  obtain ⟨b8, o9, hA10, hr11⟩ := (Arr.row hrow5 rfl rfl _) j hl7
  refine T.ix 32 25 47 22 A2 ((rkL a 4 r).length) c3 (j : Int) j b8 o9 hA10 rfl (by omega) (T.pu 33 (.pointer (some ⟨b8, o9 + j * 22 + 3, none⟩)) (T.ld true 34 (.int .i64 (((rkL a 4 r)[j]'hl7).choice)) 3 b8 (o9 + j * 22 + 3) (fun w h => cell_of_range (hr11 w h) 3 (by kernel_rfl)) (T.pu 35 (.slice A2 ((rkL a 4 r).length) c3) (T.pi 36 j ?_))))
  obtain ⟨b12, o13, hA14, hr15⟩ := (Arr.row hrow5 rfl rfl _) j hl7
  refine T.ix 37 25 47 22 A2 ((rkL a 4 r).length) c3 (j : Int) j b12 o13 hA14 rfl (by omega) (T.pu 38 (.pointer (some ⟨b12, o13 + j * 22 + 14, none⟩)) (T.lr true 39 (((rkL a 4 r)[j]'hl7).val).cs 24 b12 (o13 + j * 22 + 14) (fun w h => range_of_range (hr15 w h) 14 (((rkL a 4 r)[j]'hl7).val).cs (by kernel_rfl)) (T.cp 40 58 #[.slice A a.length c, .int .i64 4, .int .i64 r, .int .i64 (((rkL a 4 r)[j]'hl7).choice), .agg (((rkL a 4 r)[j]'hl7).val).cs] (.int .i64 (rw1 a 4 r ((rkL a 4 r)[j]'hl7))) ent58 (fun w hw => rwho_c a 4 r (((rkL a 4 r)[j]'hl7).choice) (((rkL a 4 r)[j]'hl7).val) A c w hsg (by first | omega | (simp; done) | (simp; omega)) (Arr.rd (Rd.arr hr _) hw)) (fun w h => h) (T.pi 11 (rw1 a 4 r ((rkL a 4 r)[j]'hl7)) (T.nil (QN.seq (W.seq (W.rg od6 (T.pi 41 (rw1 a 4 r ((rkL a 4 r)[j]'hl7)) (T.pi 42 (mxM a r) (T.pi 43 (bits .or .i64 (rw1 a 4 r ((rkL a 4 r)[j]'hl7)) (mxM a r)) (T.cp 44 74 #[.int .i64 (bits .or .i64 (rw1 a 4 r ((rkL a 4 r)[j]'hl7)) (mxM a r))] (.int .i64 (size (bits .or .i64 (rw1 a 4 r ((rkL a 4 r)[j]'hl7)) (mxM a r)) : Int)) ent74 (fun w hw => rsize_c _ (w64_or _ _) w) tv2 (T.pi 45 q (T.pb 46 (decide (q ≤ (size (bits .or .i64 (rw1 a 4 r ((rkL a 4 r)[j]'hl7)) (mxM a r)) : Int))) (T.nil (QN.seq (W.cd (decide (q ≤ (size (bits .or .i64 (rw1 a 4 r ((rkL a 4 r)[j]'hl7)) (mxM a r)) : Int))) (fun h16 => ?_) (fun h16 => ?_))))))))))))))))))
  ·
   have h16' := of_decide_eq_true h16
   refine W.seq (W.rg od3 (T.pi 47 (rw1 a 4 r ((rkL a 4 r)[j]'hl7)) (T.cp 48 72 #[.int .i64 (rw1 a 4 r ((rkL a 4 r)[j]'hl7)), .int .i64 1] (.int .i64 (lowest (rw1 a 4 r ((rkL a 4 r)[j]'hl7)) 1)) ent72 (fun w hw => rlowest_c _ _ (by first | assumption | exact w64_and _ _ | exact w64_or _ _ | exact w64_andNot _ _ | exact w64_rw1 _ _ _ _ | exact w64_mxM _ _ | exact w64_rwho _ _ _ _ | (unfold W64; omega)) w) tv2 (T.pi 12 (lowest (rw1 a 4 r ((rkL a 4 r)[j]'hl7)) 1) (T.nil (QN.seq (W.seq (W.drawn (Ψ := St w (Hr4 ++ [(b1, Obj.cells Vt.zero.cs 47 (0, 0))])) (St w (Hr4 ++ [])) [(0, true), (1, true), (2, true), (3, true), (4, true), (5, true), (6, true), (7, true), (8, true), (9, true), (10, true), (11, true), (12, true), (13, true), (14, true), (15, true), (16, true), (17, true), (18, true), (19, true), (20, false), (21, true), (22, true), (23, false), (24, false)] hmx (by kernel_rfl) (NoPanic.then (NoPanic.inBlock (NoPanic.then (NoPanic.then (NoPanic.inBlock (NoPanic.then NoPanic.body)))))) (fun w h => h.drew) (fun w h => (h.perm pm0).part (List.Sublist.append (List.Sublist.refl _) (List.nil_sublist _))) (T.pi 49 r (T.pw 50 (r + 1) (T.pu 51 (.slice A2 ((rkL a 4 r).length) c3) (T.pi 52 j ?_))))))))))))
   obtain ⟨b17, o18, hA19, hr20⟩ := (Arr.row hrow5 rfl rfl _) j hl7
   refine T.ix 53 25 47 22 A2 ((rkL a 4 r).length) c3 (j : Int) j b17 o18 hA19 rfl (by omega) (T.pu 54 (.pointer (some ⟨b17, o18 + j * 22 + 3, none⟩)) (T.ld true 55 (.int .i64 (((rkL a 4 r)[j]'hl7).choice)) 3 b17 (o18 + j * 22 + 3) (fun w h => cell_of_range (hr20 w h) 3 (by kernel_rfl)) (T.pu 56 (.slice A2 ((rkL a 4 r).length) c3) (T.pi 57 j ?_))))
   obtain ⟨b21, o22, hA23, hr24⟩ := (Arr.row hrow5 rfl rfl _) j hl7
   refine T.ix 58 25 47 22 A2 ((rkL a 4 r).length) c3 (j : Int) j b21 o22 hA23 rfl (by omega) (T.pu 59 (.pointer (some ⟨b21, o22 + j * 22 + 14, none⟩)) (T.lr true 60 (((rkL a 4 r)[j]'hl7).val).cs 24 b21 (o22 + j * 22 + 14) (fun w h => range_of_range (hr24 w h) 14 (((rkL a 4 r)[j]'hl7).val).cs (by kernel_rfl)) (T.pi 61 (lowest (rw1 a 4 r ((rkL a 4 r)[j]'hl7)) 1) (T.pi 62 (rw1 a 4 r ((rkL a 4 r)[j]'hl7)) (T.pi 63 (mxM a r) (T.pi 64 (bits .or .i64 (rw1 a 4 r ((rkL a 4 r)[j]'hl7)) (mxM a r)) (T.pi 65 (lowest (rw1 a 4 r ((rkL a 4 r)[j]'hl7)) 1) (T.pi 66 (bits .andNot .i64 (bits .or .i64 (rw1 a 4 r ((rkL a 4 r)[j]'hl7)) (mxM a r)) (lowest (rw1 a 4 r ((rkL a 4 r)[j]'hl7)) 1)) (T.pi 67 q (T.pw 68 (q - 1) (T.cp 69 72 #[.int .i64 (bits .andNot .i64 (bits .or .i64 (rw1 a 4 r ((rkL a 4 r)[j]'hl7)) (mxM a r)) (lowest (rw1 a 4 r ((rkL a 4 r)[j]'hl7)) 1)), .int .i64 (q - 1)] (.int .i64 (lowest (bits .andNot .i64 (bits .or .i64 (rw1 a 4 r ((rkL a 4 r)[j]'hl7)) (mxM a r)) (lowest (rw1 a 4 r ((rkL a 4 r)[j]'hl7)) 1)) (q - 1))) ent72 (fun w hw => rlowest_c _ _ (w64_andNot _ _) w) (fun w h => (h.perm pm0).part (List.Sublist.append (List.Sublist.refl _) (List.nil_sublist _))) (T.pi 70 (bits .or .i64 (lowest (rw1 a 4 r ((rkL a 4 r)[j]'hl7)) 1) (lowest (bits .andNot .i64 (bits .or .i64 (rw1 a 4 r ((rkL a 4 r)[j]'hl7)) (mxM a r)) (lowest (rw1 a 4 r ((rkL a 4 r)[j]'hl7)) 1)) (q - 1))) (T.pu 71 (.agg (⟨3, 0, r + 1, ((rkL a 4 r)[j]'hl7).choice, 0, bits .or .i64 (lowest (rw1 a 4 r ((rkL a 4 r)[j]'hl7)) 1) (lowest (bits .andNot .i64 (bits .or .i64 (rw1 a 4 r ((rkL a 4 r)[j]'hl7)) (mxM a r)) (lowest (rw1 a 4 r ((rkL a 4 r)[j]'hl7)) 1)) (q - 1)), Nm.zero, ((rkL a 4 r)[j]'hl7).val⟩ : Vt).cs) (T.sp 47 b1 0 (.agg (⟨3, 0, r + 1, ((rkL a 4 r)[j]'hl7).choice, 0, bits .or .i64 (lowest (rw1 a 4 r ((rkL a 4 r)[j]'hl7)) 1) (lowest (bits .andNot .i64 (bits .or .i64 (rw1 a 4 r ((rkL a 4 r)[j]'hl7)) (mxM a r)) (lowest (rw1 a 4 r ((rkL a 4 r)[j]'hl7)) 1)) (q - 1)), Nm.zero, ((rkL a 4 r)[j]'hl7).val⟩ : Vt).cs) Vt.zero.cs (⟨3, 0, r + 1, ((rkL a 4 r)[j]'hl7).choice, 0, bits .or .i64 (lowest (rw1 a 4 r ((rkL a 4 r)[j]'hl7)) 1) (lowest (bits .andNot .i64 (bits .or .i64 (rw1 a 4 r ((rkL a 4 r)[j]'hl7)) (mxM a r)) (lowest (rw1 a 4 r ((rkL a 4 r)[j]'hl7)) 1)) (q - 1)), Nm.zero, ((rkL a 4 r)[j]'hl7).val⟩ : Vt).cs 47 ((pm0.append_left Hr4).trans List.perm_middle) (fun w h => (h.perm ((pm0.cons _).trans List.perm_middle.symm)).part (List.Sublist.append (List.Sublist.refl _) (List.nil_sublist _))) (T.pb 7 true (T.nil (QN.seq (W.ret (QN.blkRet (QN.thenRet (QN.thenRet (QN.blkRet (QN.thenRet (QN.doneC2 (.inl rfl) 6 7 47 b1 (⟨3, 0, r + 1, ((rkL a 4 r)[j]'hl7).choice, 0, bits .or .i64 (lowest (rw1 a 4 r ((rkL a 4 r)[j]'hl7)) 1) (lowest (bits .andNot .i64 (bits .or .i64 (rw1 a 4 r ((rkL a 4 r)[j]'hl7)) (mxM a r)) (lowest (rw1 a 4 r ((rkL a 4 r)[j]'hl7)) 1)) (q - 1)), Nm.zero, ((rkL a 4 r)[j]'hl7).val⟩ : Vt).cs (.bool true) _ rfl (by kernel_rfl) (by kernel_rfl) Tryz.underlying47 (by kernel_rfl) (by kernel_rfl) (fun w hw => St.rangeM hw (⟨3, 0, r + 1, ((rkL a 4 r)[j]'hl7).choice, 0, bits .or .i64 (lowest (rw1 a 4 r ((rkL a 4 r)[j]'hl7)) 1) (lowest (bits .andNot .i64 (bits .or .i64 (rw1 a 4 r ((rkL a 4 r)[j]'hl7)) (mxM a r)) (lowest (rw1 a 4 r ((rkL a 4 r)[j]'hl7)) 1)) (q - 1)), Nm.zero, ((rkL a 4 r)[j]'hl7).val⟩ : Vt).cs mm0 (by kernel_rfl)) (fun w hw => ⟨?_, hw.below⟩)))))))))))))))))))))))))
   exact (by rw [rprev_hit hany (by omega) h16]; rfl)
  ·
   have h16' := of_decide_eq_false h16
   refine W.skip (QN.blkNormal (QN.seq (W.rg od3 (T.pi 26 j (T.pw 27 ((j : Int) + 1) (T.pi 10 ((j : Int) + 1) (T.nil (QN.back (j + 1) ?_ ?_ (by kernel_rfl) (fun w h => h)))))))))
   ·
    try dsimp only
    exact ⟨by omega, any_step hany (by omega) h16⟩
   · show (rkL a 4 r).length - (j + 1) < (rkL a 4 r).length - j; omega
 ·
  have h6' := of_decide_eq_false h6
  refine W.exit (QN.thenExit (QN.thenExit (QN.blkHit (QN.seq (W.seq (W.seq (W.rg od4 (T.pi 72 (mxM a r) (T.cp 73 74 #[.int .i64 (mxM a r)] (.int .i64 (size (mxM a r) : Int)) ent74 (fun w hw => rsize_c _ (by first | assumption | exact w64_and _ _ | exact w64_or _ _ | exact w64_andNot _ _ | exact w64_rw1 _ _ _ _ | exact w64_mxM _ _ | exact w64_rwho _ _ _ _ | (unfold W64; omega)) w) tv2 (T.pi 74 q (T.pb 75 (decide ((size (mxM a r) : Int) < q)) (T.nil (QN.seq (W.cd (decide ((size (mxM a r) : Int) < q)) (fun h25 => ?_) (fun h25 => ?_)))))))))))))))
  ·
   have h25' := of_decide_eq_true h25
   refine W.seq (W.rg od3 (T.pu 76 (.agg (⟨0, 0, 0, 0, 0, 0, Nm.zero, Nm.zero⟩ : Vt).cs) (T.sp 47 b1 0 (.agg (⟨0, 0, 0, 0, 0, 0, Nm.zero, Nm.zero⟩ : Vt).cs) Vt.zero.cs (⟨0, 0, 0, 0, 0, 0, Nm.zero, Nm.zero⟩ : Vt).cs 47 ((pm0.append_left Hr4).trans List.perm_middle) tv2 (T.pb 7 false (T.nil (QN.seq (W.ret (QN.thenRet (QN.doneC2 (.inl rfl) 6 7 47 b1 (⟨0, 0, 0, 0, 0, 0, Nm.zero, Nm.zero⟩ : Vt).cs (.bool false) _ rfl (by kernel_rfl) (by kernel_rfl) Tryz.underlying47 (by kernel_rfl) (by kernel_rfl) (fun w hw => St.rangeM hw (⟨0, 0, 0, 0, 0, 0, Nm.zero, Nm.zero⟩ : Vt).cs mm0 (by kernel_rfl)) (fun w hw => ⟨?_, hw.below⟩))))))))))
   exact (by rw [rprev_few (any_end hany (by omega)) h25]; rfl)
  ·
   have h25' := of_decide_eq_false h25
   refine W.skip (QN.seq (W.seq (W.rg od4 (T.pu 77 (.slice A a.length c) (T.pi 78 r (T.callR 79 191 #[.slice A a.length c, .int .i64 3, .int .i64 r] 47 22 (rkL a 3 r).length (cells (rkL a 3 r)) (by kernel_rfl) (by kernel_rfl) ent191 (fun w hw => rranked_c a 3 r A c w (by first | omega | (simp; done) | (simp; omega)) (Arr.rd (Rd.arr hr _) hw)) tv3 (fun A26 c27 Hr28 hrow29 => T.pu 13 (.slice A26 ((rkL a 3 r).length) c27) (T.nil (QN.seq (W.seq (W.seq (W.rg od3 (T.pu 80 (.slice A26 ((rkL a 3 r).length) c27) (T.pi 81 (((rkL a 3 r).length : Nat) : Int) (T.pb 82 ((((rkL a 3 r).length : Nat) : Int) == 0) (T.nil (QN.seq (W.cd ((((rkL a 3 r).length : Nat) : Int) == 0) (fun h30 => ?_) (fun h30 => ?_)))))))))))))))))))
   ·
    have h30' := eq_of_beq h30
    refine W.seq (W.rg od3 (T.pu 83 (.agg (⟨0, 0, 0, 0, 0, 0, Nm.zero, Nm.zero⟩ : Vt).cs) (T.sp 47 b1 0 (.agg (⟨0, 0, 0, 0, 0, 0, Nm.zero, Nm.zero⟩ : Vt).cs) Vt.zero.cs (⟨0, 0, 0, 0, 0, 0, Nm.zero, Nm.zero⟩ : Vt).cs 47 ((((pm0.append_left Hr4).trans List.perm_middle).append_left Hr28).trans List.perm_middle) tv2 (T.pb 7 false (T.nil (QN.seq (W.ret (QN.thenRet (QN.doneC2 (.inl rfl) 6 7 47 b1 (⟨0, 0, 0, 0, 0, 0, Nm.zero, Nm.zero⟩ : Vt).cs (.bool false) _ rfl (by kernel_rfl) (by kernel_rfl) Tryz.underlying47 (by kernel_rfl) (by kernel_rfl) (fun w hw => St.rangeM hw (⟨0, 0, 0, 0, 0, 0, Nm.zero, Nm.zero⟩ : Vt).cs mm0 (by kernel_rfl)) (fun w hw => ⟨?_, hw.below⟩))))))))))
    exact (by rw [rprev_nc (any_end hany (by omega)) h25 h30]; rfl)
   ·
    have h30' := ne_of_beq_false h30
    refine W.skip (QN.seq (W.seq (W.rg od5 (T.pu 84 (.slice A26 ((rkL a 3 r).length) c27) ?_))))
    have hl0 : 0 < (rkL a 3 r).length := by omega
    obtain ⟨b31, o32, hA33, hr34⟩ := (Arr.row hrow29 rfl rfl _) 0 hl0
    refine T.ix 85 25 47 22 A26 ((rkL a 3 r).length) c27 0 0 b31 o32 hA33 (by omega) (by omega) (T.lr false 86 ((rkL a 3 r)[0]'hl0).cs 47 b31 (o32 + 0 * 22) hr34 (T.al 14 47 Vt.zero.cs tv3 (fun b35 => T.sp 47 b35 0 (.agg ((rkL a 3 r)[0]'hl0).cs) Vt.zero.cs ((rkL a 3 r)[0]'hl0).cs 47 pm0 tv2 (T.nil (QN.seq (W.seq (W.seq (W.rg od14 (T.pi 87 r (T.pw 88 (r + 1) (T.pe 89 (.int .i64 ((r + 1).tmod 2)) (.int .i64 ((r + 1) % 2)) (rem_int (by omega)) (T.pb 90 (((r + 1) % 2) == 1) (T.pb 91 (((r + 1) % 2) == 1) (T.bk [(5, false), (6, false), (7, false)] [(8, false), (9, false), (10, false), (11, false), (12, false), (13, false)] 4 true (((r + 1) % 2) == 1) 91 94 (.bool ((((rkL a 3 r)[0]'hl0).choice) == 0)) (fun hg36 => ?_) ?_))))))))))))))
    ·
     have hg36_ := hg36
     refine T.pu 92 (.pointer (some ⟨b35, 3, none⟩)) (T.ld false 93 (.int .i64 (((rkL a 3 r)[0]'hl0).choice)) 3 b35 3 (fun w h => St.cellM h mm0 (by kernel_rfl)) (T.pb 94 ((((rkL a 3 r)[0]'hl0).choice) == 0) ?_))
     exact T.blkEnd (by kernel_rfl) (fun w h => h)
    refine T.an 95 (((r + 1) % 2) == 1) ((((rkL a 3 r)[0]'hl0).choice) == 0) (T.pb 96 ((((r + 1) % 2) == 1) && ((((rkL a 3 r)[0]'hl0).choice) == 0)) (T.bk [(10, false), (11, false), (12, false)] [(13, false)] 9 true ((((r + 1) % 2) == 1) && ((((rkL a 3 r)[0]'hl0).choice) == 0)) 96 99 (.bool (decide (1 < (((rkL a 3 r).length : Nat) : Int)))) (fun hg37 => ?_) ?_))
    ·
     have hg37_ := hg37
     have hg37l := (Bool.and_eq_true_iff.1 hg37).1
     have hg37r := (Bool.and_eq_true_iff.1 hg37).2
     refine T.pu 97 (.slice A26 ((rkL a 3 r).length) c27) (T.pi 98 (((rkL a 3 r).length : Nat) : Int) (T.pb 99 (decide (1 < (((rkL a 3 r).length : Nat) : Int))) ?_))
     exact T.blkEnd (by kernel_rfl) (fun w h => h)
    refine T.an 100 ((((r + 1) % 2) == 1) && ((((rkL a 3 r)[0]'hl0).choice) == 0)) (decide (1 < (((rkL a 3 r).length : Nat) : Int))) (T.nil (QN.seq (W.cd (((((r + 1) % 2) == 1) && ((((rkL a 3 r)[0]'hl0).choice) == 0)) && (decide (1 < (((rkL a 3 r).length : Nat) : Int)))) (fun h38 => ?_) (fun h38 => ?_))))
    ·
     have h38l := (Bool.and_eq_true_iff.1 h38).1
     have h38r := (Bool.and_eq_true_iff.1 h38).2
     have h38ll := (Bool.and_eq_true_iff.1 h38l).1
     have h38lr := (Bool.and_eq_true_iff.1 h38l).2
     have h38r' := of_decide_eq_true h38r
     refine W.rg od4 (T.pu 101 (.slice A26 ((rkL a 3 r).length) c27) ?_)
     have hl43 : 1 < (rkL a 3 r).length := by omega
     obtain ⟨b39, o40, hA41, hr42⟩ := (show Arr (St _ ((b35, Obj.cells ((rkL a 3 r)[0]'hl0).cs 47 (0, 0)) :: (Hr28 ++ (Hr4 ++ [(b1, Obj.cells Vt.zero.cs 47 (0, 0))])))) A26 (rkL a 3 r) from (Arr.row hrow29 rfl rfl ((b35, Obj.cells ((rkL a 3 r)[0]'hl0).cs 47 (0, 0)) :: (Hr4 ++ [(b1, Obj.cells Vt.zero.cs 47 (0, 0))]))).weak (fun w h => h.perm ((pm0.cons _).trans List.perm_middle.symm))) 1 hl43
     refine T.ix 102 25 47 22 A26 ((rkL a 3 r).length) c27 1 1 b39 o40 hA41 (by omega) (by omega) (T.lr false 103 ((rkL a 3 r)[1]'hl43).cs 47 b39 (o40 + 1 * 22) hr42 (T.sp 47 b35 0 (.agg ((rkL a 3 r)[1]'hl43).cs) ((rkL a 3 r)[0]'hl0).cs ((rkL a 3 r)[1]'hl43).cs 47 pm0 tv2 (T.nil (QN.seq (W.seq (W.drawn (Ψ := St w ((b35, Obj.cells ((rkL a 3 r)[1]'hl43).cs 47 (0, 0)) :: (Hr28 ++ (Hr4 ++ [(b1, Obj.cells Vt.zero.cs 47 (0, 0))])))) (St w ((b35, Obj.cells ((rkL a 3 r)[1]'hl43).cs 47 (0, 0)) :: (Hr28 ++ (Hr4 ++ [])))) [(0, true), (1, true), (2, true), (3, true), (4, true), (5, true), (6, true), (7, true), (8, false), (9, true), (10, false), (11, false)] hmx (by kernel_rfl) (NoPanic.then NoPanic.body) (fun w h => h.drew) (fun w h => (h.perm (pm0.trans ((pm0.trans (pm0.append_left Hr28)).cons _))).part ((List.Sublist.append (List.Sublist.refl _) (List.Sublist.append (List.Sublist.refl _) (List.nil_sublist _))).cons_cons _)) (T.pi 104 r (T.pw 105 (r + 1) (T.pu 106 (.pointer (some ⟨b35, 3, none⟩)) (T.ld true 107 (.int .i64 (((rkL a 3 r)[1]'hl43).choice)) 3 b35 3 (fun w h => St.cellM h mm0 (by kernel_rfl)) (T.pu 108 (.pointer (some ⟨b35, 14, none⟩)) (T.lr true 109 (((rkL a 3 r)[1]'hl43).val).cs 24 b35 14 (fun w h => St.rangeM h (((rkL a 3 r)[1]'hl43).val).cs mm0 (by kernel_rfl)) (T.pi 110 (mxM a r) (T.pi 111 q (T.cp 112 72 #[.int .i64 (mxM a r), .int .i64 q] (.int .i64 (lowest (mxM a r) q)) ent72 (fun w hw => rlowest_c _ _ (by first | assumption | exact w64_and _ _ | exact w64_or _ _ | exact w64_andNot _ _ | exact w64_rw1 _ _ _ _ | exact w64_mxM _ _ | exact w64_rwho _ _ _ _ | (unfold W64; omega)) w) (fun w h => (h.perm (pm0.trans ((pm0.trans (pm0.append_left Hr28)).cons _))).part ((List.Sublist.append (List.Sublist.refl _) (List.Sublist.append (List.Sublist.refl _) (List.nil_sublist _))).cons_cons _)) (T.pu 113 (.agg (⟨3, 0, r + 1, ((rkL a 3 r)[1]'hl43).choice, 0, lowest (mxM a r) q, Nm.zero, ((rkL a 3 r)[1]'hl43).val⟩ : Vt).cs) (T.sp 47 b1 0 (.agg (⟨3, 0, r + 1, ((rkL a 3 r)[1]'hl43).choice, 0, lowest (mxM a r) q, Nm.zero, ((rkL a 3 r)[1]'hl43).val⟩ : Vt).cs) Vt.zero.cs (⟨3, 0, r + 1, ((rkL a 3 r)[1]'hl43).choice, 0, lowest (mxM a r) q, Nm.zero, ((rkL a 3 r)[1]'hl43).val⟩ : Vt).cs 47 ((((((pm0.append_left Hr4).trans List.perm_middle).append_left Hr28).trans List.perm_middle).cons _).trans (List.Perm.swap _ _ _)) (fun w h => (h.perm (pm1.trans ((((pm0.cons _).trans List.perm_middle.symm).trans (((pm0.cons _).trans List.perm_middle.symm).append_left Hr28)).cons _))).part ((List.Sublist.append (List.Sublist.refl _) (List.Sublist.append (List.Sublist.refl _) (List.nil_sublist _))).cons_cons _)) (T.pb 7 true (T.nil (QN.seq (W.ret (QN.doneC2 (.inl rfl) 6 7 47 b1 (⟨3, 0, r + 1, ((rkL a 3 r)[1]'hl43).choice, 0, lowest (mxM a r) q, Nm.zero, ((rkL a 3 r)[1]'hl43).val⟩ : Vt).cs (.bool true) _ rfl (by kernel_rfl) (by kernel_rfl) Tryz.underlying47 (by kernel_rfl) (by kernel_rfl) (fun w hw => St.rangeM hw (⟨3, 0, r + 1, ((rkL a 3 r)[1]'hl43).choice, 0, lowest (mxM a r) q, Nm.zero, ((rkL a 3 r)[1]'hl43).val⟩ : Vt).cs mm0 (by kernel_rfl)) (fun w hw => ⟨?_, hw.below⟩)))))))))))))))))))))))
     exact (by rw [rprev_car (h0 := hl0) (any_end hany (by omega)) h25 (rcar_two h38)]; rfl)
    ·
     refine W.skip (QN.seq (W.seq (W.drawn (Ψ := St w ((b35, Obj.cells ((rkL a 3 r)[0]'hl0).cs 47 (0, 0)) :: (Hr28 ++ (Hr4 ++ [(b1, Obj.cells Vt.zero.cs 47 (0, 0))])))) (St w ((b35, Obj.cells ((rkL a 3 r)[0]'hl0).cs 47 (0, 0)) :: (Hr28 ++ (Hr4 ++ [])))) [(0, true), (1, true), (2, true), (3, true), (4, true), (5, true), (6, true), (7, true), (8, false), (9, true), (10, false), (11, false)] hmx (by kernel_rfl) (NoPanic.then NoPanic.body) (fun w h => h.drew) (fun w h => (h.perm (pm0.trans ((pm0.trans (pm0.append_left Hr28)).cons _))).part ((List.Sublist.append (List.Sublist.refl _) (List.Sublist.append (List.Sublist.refl _) (List.nil_sublist _))).cons_cons _)) (T.pi 104 r (T.pw 105 (r + 1) (T.pu 106 (.pointer (some ⟨b35, 3, none⟩)) (T.ld true 107 (.int .i64 (((rkL a 3 r)[0]'hl0).choice)) 3 b35 3 (fun w h => St.cellM h mm0 (by kernel_rfl)) (T.pu 108 (.pointer (some ⟨b35, 14, none⟩)) (T.lr true 109 (((rkL a 3 r)[0]'hl0).val).cs 24 b35 14 (fun w h => St.rangeM h (((rkL a 3 r)[0]'hl0).val).cs mm0 (by kernel_rfl)) (T.pi 110 (mxM a r) (T.pi 111 q (T.cp 112 72 #[.int .i64 (mxM a r), .int .i64 q] (.int .i64 (lowest (mxM a r) q)) ent72 (fun w hw => rlowest_c _ _ (by first | assumption | exact w64_and _ _ | exact w64_or _ _ | exact w64_andNot _ _ | exact w64_rw1 _ _ _ _ | exact w64_mxM _ _ | exact w64_rwho _ _ _ _ | (unfold W64; omega)) w) (fun w h => (h.perm (pm0.trans ((pm0.trans (pm0.append_left Hr28)).cons _))).part ((List.Sublist.append (List.Sublist.refl _) (List.Sublist.append (List.Sublist.refl _) (List.nil_sublist _))).cons_cons _)) (T.pu 113 (.agg (⟨3, 0, r + 1, ((rkL a 3 r)[0]'hl0).choice, 0, lowest (mxM a r) q, Nm.zero, ((rkL a 3 r)[0]'hl0).val⟩ : Vt).cs) (T.sp 47 b1 0 (.agg (⟨3, 0, r + 1, ((rkL a 3 r)[0]'hl0).choice, 0, lowest (mxM a r) q, Nm.zero, ((rkL a 3 r)[0]'hl0).val⟩ : Vt).cs) Vt.zero.cs (⟨3, 0, r + 1, ((rkL a 3 r)[0]'hl0).choice, 0, lowest (mxM a r) q, Nm.zero, ((rkL a 3 r)[0]'hl0).val⟩ : Vt).cs 47 ((((((pm0.append_left Hr4).trans List.perm_middle).append_left Hr28).trans List.perm_middle).cons _).trans (List.Perm.swap _ _ _)) (fun w h => (h.perm (pm1.trans ((((pm0.cons _).trans List.perm_middle.symm).trans (((pm0.cons _).trans List.perm_middle.symm).append_left Hr28)).cons _))).part ((List.Sublist.append (List.Sublist.refl _) (List.Sublist.append (List.Sublist.refl _) (List.nil_sublist _))).cons_cons _)) (T.pb 7 true (T.nil (QN.seq (W.ret (QN.doneC2 (.inl rfl) 6 7 47 b1 (⟨3, 0, r + 1, ((rkL a 3 r)[0]'hl0).choice, 0, lowest (mxM a r) q, Nm.zero, ((rkL a 3 r)[0]'hl0).val⟩ : Vt).cs (.bool true) _ rfl (by kernel_rfl) (by kernel_rfl) Tryz.underlying47 (by kernel_rfl) (by kernel_rfl) (fun w hw => St.rangeM hw (⟨3, 0, r + 1, ((rkL a 3 r)[0]'hl0).choice, 0, lowest (mxM a r) q, Nm.zero, ((rkL a 3 r)[0]'hl0).val⟩ : Vt).cs mm0 (by kernel_rfl)) (fun w hw => ⟨?_, hw.below⟩))))))))))))))))))))
     exact (by rw [rprev_car (h0 := hl0) (any_end hany (by omega)) h25 (rcar_one (h0 := hl0) h38)]; rfl)
set_option maxRecDepth 100000 in
set_option maxHeartbeats 2000000 in
theorem rnext_c (m : Int) (p : Nm) (l a : List Vt) (s z : Int) (held : List Nm) (wt : Bool) (A : Option Addr) (c : Nat) (Aa : Option Addr) (ca : Nat) (Ah : Option Addr) (ch : Nat) (w : World) (hm : W64 m) (hsg : ∀ u ∈ a, 0 ≤ u.signer ∧ u.signer < 10) (hl : l.length ≤ 1000) (hr : Rd w A l) (ha : a.length ≤ 1000) (hra : Rd w Aa a) (hlh : held.length ≤ 1000) (hrh : Rd w Ah held) : Calls Tryz.prog 131 #[.int .i64 m, .agg p.cs, .slice A l.length c, .slice Aa a.length ca, .int .i64 s, .int .i64 z, .slice Ah held.length ch, .bool wt] w (fun rr w' => rr = .returned (.tuple #[.agg ((nextR (owB l p s z) m a held wt).getD Vt.zero).cs, .bool (nextR (owB l p s z) m a held wt).isSome]) ∧ Below w.heap.size w w') := by
 have hz := size_le m
 have hqb := quorum_bd _ hz
 have hnl := nvL_len a 1 0 1
 have hcl : (ceL m a).length ≤ a.length := Nat.le_trans (List.length_filter_le _ _) (nvL_len a 2 0 1)
 refine calls_W (n := 148) Tryz.func131 rfl [(0, .int .i64 m), (1, .agg p.cs), (2, .slice A l.length c), (3, .slice Aa a.length ca), (4, .int .i64 s), (5, .int .i64 z), (6, .slice Ah held.length ch), (7, .bool wt)] rfl ⟨by kernel_rfl, by kernel_rfl⟩ (W.weak (Ψ := St w []) (fun w' h => by rw [h]; exact St.start w) (W.seq (W.rg od3 (T.bx 9 24 (.agg p.cs) (p.cs) tv3 (fun b1 => T.al 16 47 Vt.zero.cs tv3 (fun b2 => T.pb 17 false (T.nil (QN.seq (W.seq (W.rg od4 (T.pi 28 m (T.cp 29 74 #[.int .i64 m] (.int .i64 (size m : Int)) ent74 (fun w hw => rsize_c _ (by assumption) w) tv2 (T.cp 30 73 #[.int .i64 (size m : Int)] (.int .i64 (quorum (size m : Int))) ent73 (fun w hw => Ret.same (rquorum_c _ w (by unfold W64; omega))) tv2 (T.pi 18 (quorum (size m : Int)) (T.nil (QN.seq (W.seq (W.seq (W.rg od6 (T.pu 31 (.slice A l.length c) (T.lr false 32 p.cs 24 b1 0 (fun w h => St.rangeM h p.cs mm1 (by kernel_rfl)) (T.pi 33 s (T.pi 34 z (T.cp 35 181 #[.slice A l.length c, .agg p.cs, .int .i64 s, .int .i64 z, .int .i64 2, .int .i64 0] (.bool (owB l p s z 2 0)) ent181 (fun w hw => rown_c l p s z 2 0 A c w (by first | omega | (simp; done) | (simp; omega)) (Arr.rd (Rd.arr hr _) hw)) tv2 (T.pb 36 (!(owB l p s z 2 0)) (T.nil (QN.seq (W.meet (β := PLift (rEcho (owB l p s z) a held = none)) (fun gs => [(0, .int .i64 m), (2, .slice A l.length c), (3, .slice Aa a.length ca), (4, .int .i64 s), (5, .int .i64 z), (7, .bool wt), (9, .pointer (some ⟨b1, 0, none⟩)), (16, .pointer (some ⟨b2, 0, none⟩)), (18, .int .i64 (quorum (size m : Int)))]) (fun gs => St w [(b2, Obj.cells Vt.zero.cs 47 (0, 0)), (b1, Obj.cells p.cs 24 (0, 0))]) ?_ ?_))))))))))))))))))))))))))))
 ·
  refine W.cd (!(owB l p s z 2 0)) (fun h3 => ?_) (fun h3 => ?_)
  ·
   have h3n := not_eq_true h3
   refine W.seq (W.rg od3 (T.pu 37 (.slice Aa a.length ca) (T.callR 38 53 #[.slice Aa a.length ca, .int .i64 1, .int .i64 0, .int .i64 1] 24 8 (nvL a 1 0 1).length (cells (nvL a 1 0 1)) (by kernel_rfl) (by kernel_rfl) ent53 (fun w hw => rvalues_c a 1 0 1 Aa ca w (by first | omega | (simp; done) | (simp; omega)) (Arr.rd (Rd.arr hra _) hw)) tv3 (fun A4 c5 Hr6 hrow7 => T.pu 19 (.slice A4 ((nvL a 1 0 1).length) c5) (T.nil (QN.seq (W.seq (W.rg od1 (T.pi 20 0 (T.nil (QN.seq (W.block (W.loop (σ := Nat) (fun gs => gs ≤ (nvL a 1 0 1).length ∧ ((nvL a 1 0 1).take gs).any (fun n => held.any (fun h => h == n)) = false) (fun gs => [(0, .int .i64 m), (2, .slice A l.length c), (3, .slice Aa a.length ca), (4, .int .i64 s), (5, .int .i64 z), (6, .slice Ah held.length ch), (7, .bool wt), (9, .pointer (some ⟨b1, 0, none⟩)), (16, .pointer (some ⟨b2, 0, none⟩)), (18, .int .i64 (quorum (size m : Int))), (19, .slice A4 ((nvL a 1 0 1).length) c5), (20, .int .i64 gs)]) (fun gs => St w (Hr6 ++ [(b2, Obj.cells Vt.zero.cs 47 (0, 0)), (b1, Obj.cells p.cs 24 (0, 0))])) (fun gs => (nvL a 1 0 1).length - gs) 0 ?_ (by kernel_rfl) (fun w h => h) ?_)))))))))))))
   ·
    try dsimp only
    exact ⟨Nat.zero_le _, any_zero _ _⟩
   rintro j hI_
   obtain ⟨hj, hany⟩ : j ≤ (nvL a 1 0 1).length ∧ ((nvL a 1 0 1).take j).any (fun n => held.any (fun h => h == n)) = false := hI_
   refine W.seq (W.seq (W.rg od4 (T.pi 39 j (T.pu 40 (.slice A4 ((nvL a 1 0 1).length) c5) (T.pi 41 (((nvL a 1 0 1).length : Nat) : Int) (T.pb 42 (decide ((j : Int) < (((nvL a 1 0 1).length : Nat) : Int))) (T.nil (QN.seq (W.cd (decide ((j : Int) < (((nvL a 1 0 1).length : Nat) : Int))) (fun h8 => ?_) (fun h8 => ?_))))))))))
   ·
    have h8' := of_decide_eq_true h8
    have hl9 : j < (nvL a 1 0 1).length := by omega
    refine W.skip (QN.seq (W.seq (W.block (W.seq (W.rg od1 (T.pi 21 0 (T.nil (QN.seq (W.block (W.loop (σ := Nat) (fun gs => gs ≤ held.length ∧ (held.take gs).any (fun h => h == ((nvL a 1 0 1)[j]'hl9)) = false) (fun gs => [(0, .int .i64 m), (2, .slice A l.length c), (3, .slice Aa a.length ca), (4, .int .i64 s), (5, .int .i64 z), (6, .slice Ah held.length ch), (7, .bool wt), (9, .pointer (some ⟨b1, 0, none⟩)), (16, .pointer (some ⟨b2, 0, none⟩)), (18, .int .i64 (quorum (size m : Int))), (19, .slice A4 ((nvL a 1 0 1).length) c5), (20, .int .i64 j), (21, .int .i64 gs), (39, .int .i64 j), (40, .slice A4 ((nvL a 1 0 1).length) c5), (41, .int .i64 (((nvL a 1 0 1).length : Nat) : Int)), (42, .bool (decide ((j : Int) < (((nvL a 1 0 1).length : Nat) : Int))))]) (fun gs => St w (Hr6 ++ [(b2, Obj.cells Vt.zero.cs 47 (0, 0)), (b1, Obj.cells p.cs 24 (0, 0))])) (fun gs => held.length - gs) 0 ?_ (by kernel_rfl) (fun w h => h) ?_))))))))))
    ·
     try dsimp only
     exact ⟨Nat.zero_le _, any_zero _ _⟩
    rintro k hI_
    obtain ⟨hk, hin⟩ : k ≤ held.length ∧ (held.take k).any (fun h => h == ((nvL a 1 0 1)[j]'hl9)) = false := hI_
    refine W.seq (W.seq (W.rg od4 (T.pi 45 k (T.pu 46 (.slice Ah held.length ch) (T.pi 47 ((held.length : Nat) : Int) (T.pb 48 (decide ((k : Int) < ((held.length : Nat) : Int))) (T.nil (QN.seq (W.cd (decide ((k : Int) < ((held.length : Nat) : Int))) (fun h10 => ?_) (fun h10 => ?_))))))))))
    ·
     have h10' := of_decide_eq_true h10
     have hl11 : k < held.length := by omega
     refine W.skip (QN.seq (W.seq (W.block (W.seq (W.drawn (Ψ := St w (Hr6 ++ [(b2, Obj.cells Vt.zero.cs 47 (0, 0)), (b1, Obj.cells p.cs 24 (0, 0))])) (St w (Hr6 ++ [(b2, Obj.cells Vt.zero.cs 47 (0, 0)), (b1, Obj.cells p.cs 24 (0, 0))])) [(0, true), (1, true), (2, true), (3, true), (4, true), (5, true), (6, true), (7, true), (8, true)] hmx (by kernel_rfl) (NoPanic.then (NoPanic.inBlock (NoPanic.then (NoPanic.then (NoPanic.inBlock (NoPanic.inBlock (NoPanic.then (NoPanic.then (NoPanic.inBlock (NoPanic.then (NoPanic.then NoPanic.body))))))))))) (fun w h => h.drew) (fun w h => h) (T.pu 51 (.slice Ah held.length ch) (T.pi 52 k ?_)))))))
     obtain ⟨b12, o13, hA14, hr15⟩ := (Rd.arr hrh _) k hl11
     refine T.ix 53 28 24 8 Ah held.length ch (k : Int) k b12 o13 hA14 rfl (by omega) (T.lr true 54 (held[k]'hl11).cs 24 b12 (o13 + k * 8) hr15 (T.pu 55 (.slice A4 ((nvL a 1 0 1).length) c5) (T.pi 56 j ?_)))
     obtain ⟨b16, o17, hA18, hr19⟩ := (Arr.row hrow7 rfl rfl _) j hl9
     refine T.ix 57 28 24 8 A4 ((nvL a 1 0 1).length) c5 (j : Int) j b16 o17 hA18 rfl (by omega) (T.lr true 58 ((nvL a 1 0 1)[j]'hl9).cs 24 b16 (o17 + j * 8) hr19 (T.eqq 59 ((held[k]'hl11) == ((nvL a 1 0 1)[j]'hl9)) ((held[k]'hl11) == ((nvL a 1 0 1)[j]'hl9)) false 24 (held[k]'hl11).cs ((nvL a 1 0 1)[j]'hl9).cs (by kernel_rfl) (by kernel_rfl) (by kernel_rfl) (by kernel_rfl) (fun w => eq_nm w (held[k]'hl11) ((nvL a 1 0 1)[j]'hl9)) (T.nil (QN.seq (W.cd ((held[k]'hl11) == ((nvL a 1 0 1)[j]'hl9)) (fun h20 => ?_) (fun h20 => ?_))))))
     ·
      refine W.seq (W.rg od7 (T.pu 60 (.slice A4 ((nvL a 1 0 1).length) c5) (T.pi 61 j ?_)))
      obtain ⟨b21, o22, hA23, hr24⟩ := (Arr.row hrow7 rfl rfl _) j hl9
      refine T.ix 62 28 24 8 A4 ((nvL a 1 0 1).length) c5 (j : Int) j b21 o22 hA23 rfl (by omega) (T.lr false 63 ((nvL a 1 0 1)[j]'hl9).cs 24 b21 (o22 + j * 8) hr24 (T.pu 64 (.agg (⟨2, 0, 0, 1, 0, 0, Nm.zero, ((nvL a 1 0 1)[j]'hl9)⟩ : Vt).cs) (T.sp 47 b2 0 (.agg (⟨2, 0, 0, 1, 0, 0, Nm.zero, ((nvL a 1 0 1)[j]'hl9)⟩ : Vt).cs) Vt.zero.cs (⟨2, 0, 0, 1, 0, 0, Nm.zero, ((nvL a 1 0 1)[j]'hl9)⟩ : Vt).cs 47 ((pm0.append_left Hr6).trans List.perm_middle) tv2 (T.pb 17 true (T.nil (QN.seq (W.ret (QN.blkRet (QN.thenRet (QN.thenRet (QN.blkRet (QN.blkRet (QN.thenRet (QN.thenRet (QN.blkRet (QN.thenRet (QN.thenRet (QN.doneC2 (.inl rfl) 16 17 47 b2 (⟨2, 0, 0, 1, 0, 0, Nm.zero, ((nvL a 1 0 1)[j]'hl9)⟩ : Vt).cs (.bool true) _ rfl (by kernel_rfl) (by kernel_rfl) Tryz.underlying47 (by kernel_rfl) (by kernel_rfl) (fun w hw => St.rangeM hw (⟨2, 0, 0, 1, 0, 0, Nm.zero, ((nvL a 1 0 1)[j]'hl9)⟩ : Vt).cs mm0 (by kernel_rfl)) (fun w hw => ⟨?_, hw.below⟩)))))))))))))))))))
      exact (by rw [nx_echo (recho_hit h3 hany (by omega) (any_hit (p := fun h => h == _) (by omega) h20))]; rfl)
     ·
      refine W.skip (QN.blkNormal (QN.seq (W.rg od3 (T.pi 49 k (T.pw 50 ((k : Int) + 1) (T.pi 21 ((k : Int) + 1) (T.nil (QN.back (k + 1) ?_ ?_ (by kernel_rfl) (fun w h => h)))))))))
      ·
       try dsimp only
       exact ⟨by omega, any_step hin (by omega) h20⟩
      · show held.length - (k + 1) < held.length - k; omega
    ·
     have h10' := of_decide_eq_false h10
     refine W.exit (QN.thenExit (QN.thenExit (QN.blkHit (QN.blkNormal (QN.seq (W.rg od3 (T.pi 43 j (T.pw 44 ((j : Int) + 1) (T.pi 20 ((j : Int) + 1) (T.nil (QN.back (j + 1) ?_ ?_ (by kernel_rfl) (fun w h => h))))))))))))
     ·
      try dsimp only
      exact ⟨by omega, any_step hany (by omega) (any_end hin (by omega))⟩
     · show (nvL a 1 0 1).length - (j + 1) < (nvL a 1 0 1).length - j; omega
   ·
    have h8' := of_decide_eq_false h8
    refine W.exit (QN.thenExit (QN.thenExit (QN.blkHit ?_)))
    exact QN.meet (⟨recho_none h3 (any_end hany (by omega))⟩) (by kernel_rfl) (fun w h => (h.perm (((pm0.append_left Hr6).trans List.perm_middle).trans (((pm0.append_left Hr6).trans List.perm_middle).cons _))).part ns2)
  ·
   have h3n := not_eq_false h3
   refine W.skip ?_
   exact QN.meet (⟨recho_no h3⟩) (by kernel_rfl) (fun w h => h)
 intro g1
 show QN _ [(0, .int .i64 m), (2, .slice A l.length c), (3, .slice Aa a.length ca), (4, .int .i64 s), (5, .int .i64 z), (7, .bool wt), (9, .pointer (some ⟨b1, 0, none⟩)), (16, .pointer (some ⟨b2, 0, none⟩)), (18, .int .i64 (quorum (size m : Int)))] (St w [(b2, Obj.cells Vt.zero.cs 47 (0, 0)), (b1, Obj.cells p.cs 24 (0, 0))]) _ _
 refine QN.seq (W.seq (W.seq (W.rg od6 (T.pu 65 (.slice A l.length c) (T.lr false 66 p.cs 24 b1 0 (fun w h => St.rangeM h p.cs mm1 (by kernel_rfl)) (T.pi 67 s (T.pi 68 z (T.cp 69 181 #[.slice A l.length c, .agg p.cs, .int .i64 s, .int .i64 z, .int .i64 3, .int .i64 1] (.bool (owB l p s z 3 1)) ent181 (fun w hw => rown_c l p s z 3 1 A c w (by first | omega | (simp; done) | (simp; omega)) (Arr.rd (Rd.arr hr _) hw)) tv2 (T.pb 70 (!(owB l p s z 3 1)) (T.nil (QN.seq (W.meet (β := PLift (rFirst (owB l p s z) m a wt = none)) (fun gs => [(2, .slice A l.length c), (3, .slice Aa a.length ca), (4, .int .i64 s), (5, .int .i64 z), (9, .pointer (some ⟨b1, 0, none⟩)), (16, .pointer (some ⟨b2, 0, none⟩)), (18, .int .i64 (quorum (size m : Int)))]) (fun gs => St w [(b2, Obj.cells Vt.zero.cs 47 (0, 0)), (b1, Obj.cells p.cs 24 (0, 0))]) ?_ ?_))))))))))))
 ·
  refine W.cd (!(owB l p s z 3 1)) (fun h25 => ?_) (fun h25 => ?_)
  ·
   have h25n := not_eq_true h25
   refine W.seq (W.rg od4 (T.pi 71 m (T.pu 72 (.slice Aa a.length ca) (T.callR 73 57 #[.int .i64 m, .slice Aa a.length ca] 24 8 (ceL m a).length (cells (ceL m a)) (by kernel_rfl) (by kernel_rfl) ent57 (fun w hw => rcert_c m a Aa ca w (by assumption) hsg (by first | omega | (simp; done) | (simp; omega)) (Arr.rd (Rd.arr hra _) hw)) tv3 (fun A26 c27 Hr28 hrow29 => T.pu 22 (.slice A26 ((ceL m a).length) c27) (T.nil (QN.seq (W.seq (W.seq (W.rg od3 (T.pu 74 (.slice A26 ((ceL m a).length) c27) (T.pi 75 (((ceL m a).length : Nat) : Int) (T.pb 76 (decide (0 < (((ceL m a).length : Nat) : Int))) (T.nil (QN.seq (W.cd (decide (0 < (((ceL m a).length : Nat) : Int))) (fun h30 => ?_) (fun h30 => ?_)))))))))))))))))
   ·
    have h30' := of_decide_eq_true h30
    refine W.seq (W.drawn (Ψ := St w (Hr28 ++ [(b2, Obj.cells Vt.zero.cs 47 (0, 0)), (b1, Obj.cells p.cs 24 (0, 0))])) (St w (Hr28 ++ [(b1, Obj.cells p.cs 24 (0, 0))])) [(0, true), (1, true), (2, true), (3, true), (4, true), (5, true), (6, true), (8, true), (7, false), (9, false), (10, true), (11, false), (12, false)] hmx (by kernel_rfl) (NoPanic.then (NoPanic.then (NoPanic.then (NoPanic.then NoPanic.body)))) (fun w h => h.drew) (fun w h => (h.perm (pm0.trans (pm1.append_left Hr28))).part (List.Sublist.append (List.Sublist.refl _) ns1)) (T.pu 77 (.slice A26 ((ceL m a).length) c27) ?_))
    have hl35 : 0 < (ceL m a).length := by omega
    obtain ⟨b31, o32, hA33, hr34⟩ := (Arr.row hrow29 rfl rfl _) 0 hl35
    refine T.ix 78 28 24 8 A26 ((ceL m a).length) c27 0 0 b31 o32 hA33 (by omega) (by omega) (T.lr true 79 ((ceL m a)[0]'hl35).cs 24 b31 (o32 + 0 * 8) hr34 (T.pu 80 (.slice Aa a.length ca) (T.pu 81 (.slice A26 ((ceL m a).length) c27) ?_)))
    obtain ⟨b36, o37, hA38, hr39⟩ := (Arr.row hrow29 rfl rfl _) 0 hl35
    refine T.ix 82 28 24 8 A26 ((ceL m a).length) c27 0 0 b36 o37 hA38 (by omega) (by omega) (T.lr true 83 ((ceL m a)[0]'hl35).cs 24 b36 (o37 + 0 * 8) hr39 (T.pi 85 (quorum (size m : Int)) (T.cp 84 58 #[.slice Aa a.length ca, .int .i64 2, .int .i64 0, .int .i64 1, .agg ((ceL m a)[0]'hl35).cs] (.int .i64 (whoM a 2 0 (isV ⟨1, ((ceL m a)[0]'hl35)⟩))) ent58 (fun w hw => rwho_c a 2 0 1 ((ceL m a)[0]'hl35) Aa ca w hsg (by first | omega | (simp; done) | (simp; omega)) (Arr.rd (Rd.arr hra _) hw)) (fun w h => (h.perm (pm0.trans (pm1.append_left Hr28))).part (List.Sublist.append (List.Sublist.refl _) ns1)) (T.cp 86 72 #[.int .i64 (whoM a 2 0 (isV ⟨1, ((ceL m a)[0]'hl35)⟩)), .int .i64 (quorum (size m : Int))] (.int .i64 (lowest (whoM a 2 0 (isV ⟨1, ((ceL m a)[0]'hl35)⟩)) (quorum (size m : Int)))) ent72 (fun w hw => rlowest_c _ _ (w64_rwho _ _ _ _) w) (fun w h => (h.perm (pm0.trans (pm1.append_left Hr28))).part (List.Sublist.append (List.Sublist.refl _) ns1)) (T.pu 87 (.agg (⟨3, 0, 1, 1, 0, lowest (whoM a 2 0 (isV ⟨1, ((ceL m a)[0]'hl35)⟩)) (quorum (size m : Int)), Nm.zero, ((ceL m a)[0]'hl35)⟩ : Vt).cs) (T.sp 47 b2 0 (.agg (⟨3, 0, 1, 1, 0, lowest (whoM a 2 0 (isV ⟨1, ((ceL m a)[0]'hl35)⟩)) (quorum (size m : Int)), Nm.zero, ((ceL m a)[0]'hl35)⟩ : Vt).cs) Vt.zero.cs (⟨3, 0, 1, 1, 0, lowest (whoM a 2 0 (isV ⟨1, ((ceL m a)[0]'hl35)⟩)) (quorum (size m : Int)), Nm.zero, ((ceL m a)[0]'hl35)⟩ : Vt).cs 47 ((pm0.append_left Hr28).trans List.perm_middle) (fun w h => (h.perm (((pm0.cons _).trans List.perm_middle.symm).trans (pm1.append_left Hr28))).part (List.Sublist.append (List.Sublist.refl _) ns1)) (T.pb 17 true (T.nil (QN.seq (W.ret (QN.thenRet (QN.thenRet (QN.thenRet (QN.doneC2 (.inl rfl) 16 17 47 b2 (⟨3, 0, 1, 1, 0, lowest (whoM a 2 0 (isV ⟨1, ((ceL m a)[0]'hl35)⟩)) (quorum (size m : Int)), Nm.zero, ((ceL m a)[0]'hl35)⟩ : Vt).cs (.bool true) _ rfl (by kernel_rfl) (by kernel_rfl) Tryz.underlying47 (by kernel_rfl) (by kernel_rfl) (fun w hw => St.rangeM hw (⟨3, 0, 1, 1, 0, lowest (whoM a 2 0 (isV ⟨1, ((ceL m a)[0]'hl35)⟩)) (quorum (size m : Int)), Nm.zero, ((ceL m a)[0]'hl35)⟩ : Vt).cs mm0 (by kernel_rfl)) (fun w hw => ⟨?_, hw.below⟩)))))))))))))))
    exact (by rw [nx_first g1.down (rfirst_yes h25 (by omega))]; rfl)
   ·
    have h30' := of_decide_eq_false h30
    refine W.skip (QN.seq (W.seq (W.rg od1 (T.pb 88 wt (T.nil (QN.seq (W.cd wt (fun h40 => ?_) (fun h40 => ?_))))))))
    ·
     refine W.seq (W.rg od3 (T.pu 89 (.agg (⟨3, 0, 1, 0, 0, 0, Nm.zero, Nm.zero⟩ : Vt).cs) (T.sp 47 b2 0 (.agg (⟨3, 0, 1, 0, 0, 0, Nm.zero, Nm.zero⟩ : Vt).cs) Vt.zero.cs (⟨3, 0, 1, 0, 0, 0, Nm.zero, Nm.zero⟩ : Vt).cs 47 ((pm0.append_left Hr28).trans List.perm_middle) tv2 (T.pb 17 true (T.nil (QN.seq (W.ret (QN.thenRet (QN.thenRet (QN.doneC2 (.inl rfl) 16 17 47 b2 (⟨3, 0, 1, 0, 0, 0, Nm.zero, Nm.zero⟩ : Vt).cs (.bool true) _ rfl (by kernel_rfl) (by kernel_rfl) Tryz.underlying47 (by kernel_rfl) (by kernel_rfl) (fun w hw => St.rangeM hw (⟨3, 0, 1, 0, 0, 0, Nm.zero, Nm.zero⟩ : Vt).cs mm0 (by kernel_rfl)) (fun w hw => ⟨?_, hw.below⟩)))))))))))
     exact (by rw [nx_first g1.down (rfirst_ex h25 h30 h40)]; rfl)
    ·
     refine W.skip ?_
     exact QN.meet (⟨rfirst_wait h25 h30 h40⟩) (by kernel_rfl) (fun w h => (h.perm (((pm0.append_left Hr28).trans List.perm_middle).trans (((pm0.append_left Hr28).trans List.perm_middle).cons _))).part ns2)
  ·
   have h25n := not_eq_false h25
   refine W.skip ?_
   exact QN.meet (⟨rfirst_no h25⟩) (by kernel_rfl) (fun w h => h)
 intro g2
 show QN _ [(2, .slice A l.length c), (3, .slice Aa a.length ca), (4, .int .i64 s), (5, .int .i64 z), (9, .pointer (some ⟨b1, 0, none⟩)), (16, .pointer (some ⟨b2, 0, none⟩)), (18, .int .i64 (quorum (size m : Int)))] (St w [(b2, Obj.cells Vt.zero.cs 47 (0, 0)), (b1, Obj.cells p.cs 24 (0, 0))]) _ _
 refine QN.seq (W.seq (W.seq (W.rg od1 (T.pi 23 1 (T.nil (QN.seq (W.block (W.loop (σ := Nat) (fun gs => 1 ≤ gs ∧ gs ≤ 13 ∧ ∀ j : Nat, 1 ≤ j → j < gs → rRound (owB l p s z) a (quorum (size m : Int)) (j : Int) = none) (fun gs => [(2, .slice A l.length c), (3, .slice Aa a.length ca), (4, .int .i64 s), (5, .int .i64 z), (9, .pointer (some ⟨b1, 0, none⟩)), (16, .pointer (some ⟨b2, 0, none⟩)), (18, .int .i64 (quorum (size m : Int))), (23, .int .i64 gs)]) (fun gs => St w [(b2, Obj.cells Vt.zero.cs 47 (0, 0)), (b1, Obj.cells p.cs 24 (0, 0))]) (fun gs => 13 - gs) 1 ?_ (by kernel_rfl) (fun w h => h) ?_))))))))
 ·
  try dsimp only
  exact ⟨by omega, by omega, fun j h1 h2 => by omega⟩
 rintro i hI_
 obtain ⟨hi1, hi2, hrn⟩ : 1 ≤ i ∧ i ≤ 13 ∧ ∀ j : Nat, 1 ≤ j → j < i → rRound (owB l p s z) a (quorum (size m : Int)) (j : Int) = none := hI_
 refine W.seq (W.seq (W.rg od2 (T.pi 90 i (T.pb 91 (decide ((i : Int) ≤ 12)) (T.nil (QN.seq (W.cd (decide ((i : Int) ≤ 12)) (fun h41 => ?_) (fun h41 => ?_))))))))
 ·
  have h41' := of_decide_eq_true h41
  refine W.skip (QN.seq (W.seq (W.block (W.seq (W.seq (W.rg od15 (T.pu 94 (.slice A l.length c) (T.lr false 95 p.cs 24 b1 0 (fun w h => St.rangeM h p.cs mm1 (by kernel_rfl)) (T.pi 96 s (T.pi 97 z (T.pi 98 i (T.cp 99 181 #[.slice A l.length c, .agg p.cs, .int .i64 s, .int .i64 z, .int .i64 3, .int .i64 i] (.bool (owB l p s z 3 (i : Int))) ent181 (fun w hw => rown_c l p s z 3 (i : Int) A c w (by first | omega | (simp; done) | (simp; omega)) (Arr.rd (Rd.arr hr _) hw)) tv2 (T.pb 100 (owB l p s z 3 (i : Int)) (T.bk [(7, false), (8, false), (9, false), (10, false), (11, false), (12, false), (13, false)] [(14, false)] 6 true (owB l p s z 3 (i : Int)) 100 107 (.bool (!(owB l p s z 4 (i : Int)))) (fun hg42 => ?_) ?_))))))))))))))
  ·
   have hg42_ := hg42
   refine T.pu 101 (.slice A l.length c) (T.lr false 102 p.cs 24 b1 0 (fun w h => St.rangeM h p.cs mm1 (by kernel_rfl)) (T.pi 103 s (T.pi 104 z (T.pi 105 i (T.cp 106 181 #[.slice A l.length c, .agg p.cs, .int .i64 s, .int .i64 z, .int .i64 4, .int .i64 i] (.bool (owB l p s z 4 (i : Int))) ent181 (fun w hw => rown_c l p s z 4 (i : Int) A c w (by first | omega | (simp; done) | (simp; omega)) (Arr.rd (Rd.arr hr _) hw)) tv2 (T.pb 107 (!(owB l p s z 4 (i : Int))) ?_))))))
   exact T.blkEnd (by kernel_rfl) (fun w h => h)
  refine T.an 108 (owB l p s z 3 (i : Int)) (!(owB l p s z 4 (i : Int))) (T.nil (QN.seq (W.meet (β := PLift (rPc (owB l p s z) a (quorum (size m : Int)) (i : Int) = none)) (fun gs => [(2, .slice A l.length c), (3, .slice Aa a.length ca), (4, .int .i64 s), (5, .int .i64 z), (9, .pointer (some ⟨b1, 0, none⟩)), (16, .pointer (some ⟨b2, 0, none⟩)), (18, .int .i64 (quorum (size m : Int))), (23, .int .i64 i), (90, .int .i64 i), (91, .bool (decide ((i : Int) ≤ 12))), (94, .slice A l.length c), (95, .agg p.cs), (96, .int .i64 s), (97, .int .i64 z), (98, .int .i64 i), (99, .bool (owB l p s z 3 (i : Int))), (100, .bool (owB l p s z 3 (i : Int))), (107, gv ((owB l p s z 3 (i : Int)) == true) (.bool (!(owB l p s z 4 (i : Int))))), (108, .bool ((owB l p s z 3 (i : Int)) && (!(owB l p s z 4 (i : Int)))))]) (fun gs => St w [(b2, Obj.cells Vt.zero.cs 47 (0, 0)), (b1, Obj.cells p.cs 24 (0, 0))]) ?_ ?_)))
  ·
   refine W.cd ((owB l p s z 3 (i : Int)) && (!(owB l p s z 4 (i : Int)))) (fun h43 => ?_) (fun h43 => ?_)
   ·
    have h43l := (Bool.and_eq_true_iff.1 h43).1
    have h43r := (Bool.and_eq_true_iff.1 h43).2
    have h43rn := not_eq_true h43r
    refine W.seq (W.rg od10 (T.pu 110 (.slice Aa a.length ca) (T.pi 111 (quorum (size m : Int)) (T.pi 112 i (T.cp 113 182 #[.slice Aa a.length ca, .int .i64 (quorum (size m : Int)), .int .i64 i] (.tuple #[.agg ((precR a (quorum (size m : Int)) (i : Int)).getD Vt.zero).cs, .bool ((precR a (quorum (size m : Int)) (i : Int)).isSome)]) ent182 (fun w hw => rprec_c a (quorum (size m : Int)) (i : Int) Aa ca w hsg (by first | omega | (simp; done) | (simp; omega)) (by omega) (by omega) (by omega) (by omega) (Arr.rd (Rd.arr hra _) hw)) tv2 (T.pu 109 (.tuple #[.agg ((precR a (quorum (size m : Int)) (i : Int)).getD Vt.zero).cs, .bool ((precR a (quorum (size m : Int)) (i : Int)).isSome)]) (T.pu 114 (.agg ((precR a (quorum (size m : Int)) (i : Int)).getD Vt.zero).cs) (T.pb 115 ((precR a (quorum (size m : Int)) (i : Int)).isSome) (T.al 24 47 Vt.zero.cs tv3 (fun b44 => T.sp 47 b44 0 (.agg ((precR a (quorum (size m : Int)) (i : Int)).getD Vt.zero).cs) Vt.zero.cs ((precR a (quorum (size m : Int)) (i : Int)).getD Vt.zero).cs 47 pm0 tv2 (T.pb 25 ((precR a (quorum (size m : Int)) (i : Int)).isSome) (T.nil (QN.seq (W.seq (W.rg od1 (T.pb 116 ((precR a (quorum (size m : Int)) (i : Int)).isSome) (T.nil (QN.seq (W.cd ((precR a (quorum (size m : Int)) (i : Int)).isSome) (fun h45 => ?_) (fun h45 => ?_))))))))))))))))))))
    ·
     refine W.seq (W.rg od3 (T.lr false 117 ((precR a (quorum (size m : Int)) (i : Int)).getD Vt.zero).cs 47 b44 0 (fun w h => St.rangeM h ((precR a (quorum (size m : Int)) (i : Int)).getD Vt.zero).cs mm0 (by kernel_rfl)) (T.sp 47 b2 0 (.agg ((precR a (quorum (size m : Int)) (i : Int)).getD Vt.zero).cs) Vt.zero.cs ((precR a (quorum (size m : Int)) (i : Int)).getD Vt.zero).cs 47 pm1 tv2 (T.pb 17 true (T.nil (QN.seq (W.ret (QN.thenRet (QN.thenRet (QN.blkRet (QN.thenRet (QN.thenRet (QN.blkRet (QN.thenRet (QN.doneC2 (.inl rfl) 16 17 47 b2 ((precR a (quorum (size m : Int)) (i : Int)).getD Vt.zero).cs (.bool true) _ rfl (by kernel_rfl) (by kernel_rfl) Tryz.underlying47 (by kernel_rfl) (by kernel_rfl) (fun w hw => St.rangeM hw ((precR a (quorum (size m : Int)) (i : Int)).getD Vt.zero).cs mm0 (by kernel_rfl)) (fun w hw => ⟨?_, hw.below⟩))))))))))))))))
     exact (by obtain ⟨v, hv⟩ := Option.isSome_iff_exists.1 h45; rw [nx_rounds g1.down g2.down (rrounds_hit hrn hi1 (by omega) (rnd_pc ((rpc_is h43).trans hv))), hv]; rfl)
    ·
     refine W.skip ?_
     exact QN.meet (⟨(rpc_is h43).trans (none_of h45)⟩) (by kernel_rfl) (fun w h => (h.perm (pm1.trans (pm1.cons _))).part ns2)
   ·
    refine W.skip ?_
    exact QN.meet (⟨rpc_no h43⟩) (by kernel_rfl) (fun w h => h)
  intro g3
  show QN _ [(2, .slice A l.length c), (3, .slice Aa a.length ca), (4, .int .i64 s), (5, .int .i64 z), (9, .pointer (some ⟨b1, 0, none⟩)), (16, .pointer (some ⟨b2, 0, none⟩)), (18, .int .i64 (quorum (size m : Int))), (23, .int .i64 i), (90, .int .i64 i), (91, .bool (decide ((i : Int) ≤ 12))), (94, .slice A l.length c), (95, .agg p.cs), (96, .int .i64 s), (97, .int .i64 z), (98, .int .i64 i), (99, .bool (owB l p s z 3 (i : Int))), (100, .bool (owB l p s z 3 (i : Int))), (107, gv ((owB l p s z 3 (i : Int)) == true) (.bool (!(owB l p s z 4 (i : Int))))), (108, .bool ((owB l p s z 3 (i : Int)) && (!(owB l p s z 4 (i : Int)))))] (St w [(b2, Obj.cells Vt.zero.cs 47 (0, 0)), (b1, Obj.cells p.cs 24 (0, 0))]) _ _
  refine QN.seq (W.seq (W.rg od20 (T.pi 118 i (T.pb 119 (decide ((i : Int) < 12)) (T.pb 120 (decide ((i : Int) < 12)) (T.bk [(3, false), (4, false), (5, false), (6, false), (7, false), (8, false)] [(9, false), (10, false), (11, false), (12, false), (13, false), (14, false), (15, false), (16, false), (17, false), (18, false), (19, false)] 2 true (decide ((i : Int) < 12)) 120 126 (.bool (owB l p s z 4 (i : Int))) (fun hg46 => ?_) ?_))))))
  ·
   have hg46_ := hg46
   have hg46' := of_decide_eq_true hg46
   refine T.pu 121 (.slice A l.length c) (T.lr false 122 p.cs 24 b1 0 (fun w h => St.rangeM h p.cs mm1 (by kernel_rfl)) (T.pi 123 s (T.pi 124 z (T.pi 125 i (T.cp 126 181 #[.slice A l.length c, .agg p.cs, .int .i64 s, .int .i64 z, .int .i64 4, .int .i64 i] (.bool (owB l p s z 4 (i : Int))) ent181 (fun w hw => rown_c l p s z 4 (i : Int) A c w (by first | omega | (simp; done) | (simp; omega)) (Arr.rd (Rd.arr hr _) hw)) tv2 ?_)))))
   exact T.blkEnd (by kernel_rfl) (fun w h => h)
  refine T.an 127 (decide ((i : Int) < 12)) (owB l p s z 4 (i : Int)) (T.pb 128 ((decide ((i : Int) < 12)) && (owB l p s z 4 (i : Int))) (T.bk [(11, false), (12, false), (13, false), (14, false), (15, false), (16, false), (17, false), (18, false)] [(19, false)] 10 true ((decide ((i : Int) < 12)) && (owB l p s z 4 (i : Int))) 128 136 (.bool (!(owB l p s z 3 ((i : Int) + 1)))) (fun hg47 => ?_) ?_))
  ·
   have hg47_ := hg47
   have hg47l := (Bool.and_eq_true_iff.1 hg47).1
   have hg47r := (Bool.and_eq_true_iff.1 hg47).2
   have hg47l' := of_decide_eq_true hg47l
   refine T.pu 129 (.slice A l.length c) (T.lr false 130 p.cs 24 b1 0 (fun w h => St.rangeM h p.cs mm1 (by kernel_rfl)) (T.pi 131 s (T.pi 132 z (T.pi 133 i (T.pw 134 ((i : Int) + 1) (T.cp 135 181 #[.slice A l.length c, .agg p.cs, .int .i64 s, .int .i64 z, .int .i64 3, .int .i64 ((i : Int) + 1)] (.bool (owB l p s z 3 ((i : Int) + 1))) ent181 (fun w hw => rown_c l p s z 3 ((i : Int) + 1) A c w (by first | omega | (simp; done) | (simp; omega)) (Arr.rd (Rd.arr hr _) hw)) tv2 (T.pb 136 (!(owB l p s z 3 ((i : Int) + 1))) ?_)))))))
   exact T.blkEnd (by kernel_rfl) (fun w h => h)
  refine T.an 137 ((decide ((i : Int) < 12)) && (owB l p s z 4 (i : Int))) (!(owB l p s z 3 ((i : Int) + 1))) (T.nil (QN.seq (W.cd (((decide ((i : Int) < 12)) && (owB l p s z 4 (i : Int))) && (!(owB l p s z 3 ((i : Int) + 1)))) (fun h48 => ?_) (fun h48 => ?_))))
  ·
   have h48l := (Bool.and_eq_true_iff.1 h48).1
   have h48r := (Bool.and_eq_true_iff.1 h48).2
   have h48ll := (Bool.and_eq_true_iff.1 h48l).1
   have h48lr := (Bool.and_eq_true_iff.1 h48l).2
   have h48ll' := of_decide_eq_true h48ll
   have h48rn := not_eq_true h48r
   refine W.seq (W.rg od10 (T.pu 139 (.slice Aa a.length ca) (T.pi 140 (quorum (size m : Int)) (T.pi 141 i (T.cp 142 183 #[.slice Aa a.length ca, .int .i64 (quorum (size m : Int)), .int .i64 i] (.tuple #[.agg ((prevR a (quorum (size m : Int)) (i : Int)).getD Vt.zero).cs, .bool ((prevR a (quorum (size m : Int)) (i : Int)).isSome)]) ent183 (fun w hw => rprev_c a (quorum (size m : Int)) (i : Int) Aa ca w hsg (by first | omega | (simp; done) | (simp; omega)) (by omega) (by omega) (by omega) (by omega) (Arr.rd (Rd.arr hra _) hw)) tv2 (T.pu 138 (.tuple #[.agg ((prevR a (quorum (size m : Int)) (i : Int)).getD Vt.zero).cs, .bool ((prevR a (quorum (size m : Int)) (i : Int)).isSome)]) (T.pu 143 (.agg ((prevR a (quorum (size m : Int)) (i : Int)).getD Vt.zero).cs) (T.pb 144 ((prevR a (quorum (size m : Int)) (i : Int)).isSome) (T.al 26 47 Vt.zero.cs tv3 (fun b49 => T.sp 47 b49 0 (.agg ((prevR a (quorum (size m : Int)) (i : Int)).getD Vt.zero).cs) Vt.zero.cs ((prevR a (quorum (size m : Int)) (i : Int)).getD Vt.zero).cs 47 pm0 tv2 (T.pb 27 ((prevR a (quorum (size m : Int)) (i : Int)).isSome) (T.nil (QN.seq (W.seq (W.rg od1 (T.pb 145 ((prevR a (quorum (size m : Int)) (i : Int)).isSome) (T.nil (QN.seq (W.cd ((prevR a (quorum (size m : Int)) (i : Int)).isSome) (fun h50 => ?_) (fun h50 => ?_))))))))))))))))))))
   ·
    refine W.seq (W.rg od3 (T.lr false 146 ((prevR a (quorum (size m : Int)) (i : Int)).getD Vt.zero).cs 47 b49 0 (fun w h => St.rangeM h ((prevR a (quorum (size m : Int)) (i : Int)).getD Vt.zero).cs mm0 (by kernel_rfl)) (T.sp 47 b2 0 (.agg ((prevR a (quorum (size m : Int)) (i : Int)).getD Vt.zero).cs) Vt.zero.cs ((prevR a (quorum (size m : Int)) (i : Int)).getD Vt.zero).cs 47 pm1 tv2 (T.pb 17 true (T.nil (QN.seq (W.ret (QN.blkRet (QN.thenRet (QN.thenRet (QN.blkRet (QN.thenRet (QN.doneC2 (.inl rfl) 16 17 47 b2 ((prevR a (quorum (size m : Int)) (i : Int)).getD Vt.zero).cs (.bool true) _ rfl (by kernel_rfl) (by kernel_rfl) Tryz.underlying47 (by kernel_rfl) (by kernel_rfl) (fun w hw => St.rangeM hw ((prevR a (quorum (size m : Int)) (i : Int)).getD Vt.zero).cs mm0 (by kernel_rfl)) (fun w hw => ⟨?_, hw.below⟩))))))))))))))
    exact (by obtain ⟨v, hv⟩ := Option.isSome_iff_exists.1 h50; rw [nx_rounds g1.down g2.down (rrounds_hit hrn hi1 (by omega) (rnd_pv g3.down ((rpv_is h48).trans hv))), hv]; rfl)
   ·
    refine W.skip (QN.blkNormal (QN.seq (W.rg od3 (T.pi 92 i (T.pw 93 ((i : Int) + 1) (T.pi 23 ((i : Int) + 1) (T.nil (QN.back (i + 1) ?_ ?_ (by kernel_rfl) (fun w h => (h.perm (pm1.trans (pm1.cons _))).part ns2)))))))))
    ·
     try dsimp only
     exact ⟨by omega, by omega, rround_none hrn g3.down ((rpv_is h48).trans (none_of h50))⟩
    · show 13 - _ < 13 - _; omega
  ·
   refine W.skip (QN.blkNormal (QN.seq (W.rg od3 (T.pi 92 i (T.pw 93 ((i : Int) + 1) (T.pi 23 ((i : Int) + 1) (T.nil (QN.back (i + 1) ?_ ?_ (by kernel_rfl) (fun w h => h)))))))))
   ·
    try dsimp only
    exact ⟨by omega, by omega, rround_none hrn g3.down (rpv_no h48)⟩
   · show 13 - _ < 13 - _; omega
 ·
  have h41' := of_decide_eq_false h41
  refine W.exit (QN.thenExit (QN.thenExit (QN.blkHit (QN.seq (W.seq (W.rg od3 (T.pu 147 (.agg (⟨0, 0, 0, 0, 0, 0, Nm.zero, Nm.zero⟩ : Vt).cs) (T.sp 47 b2 0 (.agg (⟨0, 0, 0, 0, 0, 0, Nm.zero, Nm.zero⟩ : Vt).cs) Vt.zero.cs (⟨0, 0, 0, 0, 0, 0, Nm.zero, Nm.zero⟩ : Vt).cs 47 pm0 tv2 (T.pb 17 false (T.nil (QN.seq (W.ret (QN.doneC2 (.inl rfl) 16 17 47 b2 (⟨0, 0, 0, 0, 0, 0, Nm.zero, Nm.zero⟩ : Vt).cs (.bool false) _ rfl (by kernel_rfl) (by kernel_rfl) Tryz.underlying47 (by kernel_rfl) (by kernel_rfl) (fun w hw => St.rangeM hw (⟨0, 0, 0, 0, 0, 0, Nm.zero, Nm.zero⟩ : Vt).cs mm0 (by kernel_rfl)) (fun w hw => ⟨?_, hw.below⟩))))))))))))))
  exact (by rw [nx_rounds g1.down g2.down (rrounds_end hrn (by omega))]; rfl)
def setPa (v : Vt) (p : Nm) : Vt := { v with par := p }
def setSl (v : Vt) (s : Int) : Vt := { v with slot := s }
def setSn (v : Vt) (z : Int) : Vt := { v with signer := z }
section
variable {m : Int} {p : Nm} {l : List Vt} {s z : Int} {held : List Nm} {wt : Bool}
theorem nof_no (h : (((!(hasB m z)) || (!(hasB m s))) || (decide (0 < ((((ocL m ((accV m p l).filter (slP s)) s).length : Nat)) : Int)))) = true) : nextN m p l s z held wt = none := by rw [next_rel, h]; rfl
theorem nof_is (h : (((!(hasB m z)) || (!(hasB m s))) || (decide (0 < ((((ocL m ((accV m p l).filter (slP s)) s).length : Nat)) : Int)))) = false) : nextN m p l s z held wt = (nextR (owB l p s z) m ((accV m p l).filter (slP s)) held wt).map (setV p s z) := by rw [next_rel, h]; rfl
theorem nof_none {o : Option Vt} {o2 : Option Vt} (h : o2 = o.map (setV p s z)) (hn : (!o.isSome) = true) : o2 = none := by
  cases o with
  | none => exact h
  | some v => cases hn
theorem nof_some {o : Option Vt} {o2 : Option Vt} (h : o2 = o.map (setV p s z)) (hn : (!o.isSome) = false) : o2 = some (setSn (setSl (setPa (o.getD Vt.zero) p) s) z) := by
  cases o with
  | none => cases hn
  | some v => rw [h]; rfl
end
set_option maxRecDepth 100000 in
set_option maxHeartbeats 2000000 in
theorem rnextof_c (m : Int) (p : Nm) (l : List Vt) (s z : Int) (held : List Nm) (wt : Bool) (Aa : Option Addr) (ca : Nat) (A : Option Addr) (c : Nat) (Ah : Option Addr) (ch : Nat) (w : World) (hm : W64 m) (hok : ∀ u ∈ l, W64 u.support) (hl : l.length ≤ 1000) (hr : Rd w A l) (hlh : held.length ≤ 1000) (hrh : Rd w Ah held) (hra : Rd w Aa (accV m p l)) : Calls Tryz.prog 82 #[.int .i64 m, .agg p.cs, .slice A l.length c, .slice Aa ((accV m p l).length) ca, .int .i64 s, .int .i64 z, .slice Ah held.length ch, .bool wt] w (fun rr w' => rr = .returned (.tuple #[.agg ((nextN m p l s z held wt).getD Vt.zero).cs, .bool (nextN m p l s z held wt).isSome]) ∧ Below w.heap.size w w') := by
 have hz := size_le m
 have hal := accV_len m p l
 have hsl := slV_len m p l s
 unfold slV at hsl
 refine calls_W (n := 65) Tryz.func82 rfl [(0, .int .i64 m), (1, .agg p.cs), (2, .slice A l.length c), (3, .slice Aa ((accV m p l).length) ca), (4, .int .i64 s), (5, .int .i64 z), (6, .slice Ah held.length ch), (7, .bool wt)] rfl ⟨by kernel_rfl, by kernel_rfl⟩ (W.weak (Ψ := St w []) (fun w' h => by rw [h]; exact St.start w) (W.seq (W.rg od3 (T.bx 9 24 (.agg p.cs) (p.cs) tv3 (fun b1 => T.al 16 47 Vt.zero.cs tv3 (fun b2 => T.pb 17 false (T.nil (QN.seq (W.seq (W.rg od4 (T.pu 21 (.slice Aa ((accV m p l).length) ca) (T.pi 22 s (T.callR 23 54 #[.slice Aa ((accV m p l).length) ca, .int .i64 s] 47 22 ((accV m p l).filter (slP s)).length (cells ((accV m p l).filter (slP s))) (by kernel_rfl) (by kernel_rfl) ent54 (fun w hw => rslot_c (accV m p l) s Aa ca w (by first | omega | (simp; done) | (simp; omega)) (Arr.rd (Rd.arr hra _) hw)) tv3 (fun A3 c4 Hr5 hrow6 => T.pu 18 (.slice A3 (((accV m p l).filter (slP s)).length) c4) (T.nil (QN.seq (W.seq (W.seq (W.rg od18 (T.pi 24 m (T.pi 25 z (T.cp 26 101 #[.int .i64 m, .int .i64 z] (.bool (hasB m z)) ent101 (fun w hw => Ret.same (rhas_c _ _ w (by assumption))) tv2 (T.pb 27 (!(hasB m z)) (T.pb 28 (!(hasB m z)) (T.bk [(5, false), (6, false), (7, false), (8, false)] [(9, false), (10, false), (11, false), (12, false), (13, false), (14, false), (15, false), (16, false), (17, false)] 4 false (!(hasB m z)) 28 32 (.bool (!(hasB m s))) (fun hg7 => ?_) ?_)))))))))))))))))))))))))
 ·
  have hg7_ := hg7
  have hg7n := not_eq_false hg7
  have hg7nb := hasB_lt hg7n
  refine T.pi 29 m (T.pi 30 s (T.cp 31 101 #[.int .i64 m, .int .i64 s] (.bool (hasB m s)) ent101 (fun w hw => Ret.same (rhas_c _ _ w (by assumption))) tv2 (T.pb 32 (!(hasB m s)) ?_)))
  exact T.blkEnd (by kernel_rfl) (fun w h => h)
 refine T.oo 33 (!(hasB m z)) (!(hasB m s)) (T.pb 34 ((!(hasB m z)) || (!(hasB m s))) (T.bk [(11, false), (12, false), (13, false), (14, false), (15, false), (16, false)] [(17, false)] 10 false ((!(hasB m z)) || (!(hasB m s))) 34 40 (.bool (decide (0 < (((ocL m ((accV m p l).filter (slP s)) s).length : Nat) : Int)))) (fun hg8 => ?_) ?_))
 ·
  have hg8_ := hg8
  have hg8l := (Bool.or_eq_false_iff.1 hg8).1
  have hg8r := (Bool.or_eq_false_iff.1 hg8).2
  have hg8ln := not_eq_false hg8l
  have hg8lnb := hasB_lt hg8ln
  have hg8rn := not_eq_false hg8r
  have hg8rnb := hasB_lt hg8rn
  refine T.pi 35 m (T.pu 36 (.slice A3 (((accV m p l).filter (slP s)).length) c4) (T.pi 37 s (T.callR 38 65 #[.int .i64 m, .slice A3 (((accV m p l).filter (slP s)).length) c4, .int .i64 s] 34 11 (ocL m ((accV m p l).filter (slP s)) s).length (cells (ocL m ((accV m p l).filter (slP s)) s)) (by kernel_rfl) (by kernel_rfl) ent65 (fun w hw => routof_c m ((accV m p l).filter (slP s)) s A3 c4 w (by assumption) slV_sg (by first | omega | (simp; done) | (simp; omega)) (Arr.rd (Arr.row hrow6 rfl rfl _) hw)) tv3 (fun A9 c10 Hr11 hrow12 => T.pi 39 (((ocL m ((accV m p l).filter (slP s)) s).length : Nat) : Int) (T.pb 40 (decide (0 < (((ocL m ((accV m p l).filter (slP s)) s).length : Nat) : Int))) ?_)))))
  exact T.blkEnd (by kernel_rfl) (fun w h => (h.perm (((pm0.append_left Hr11).trans (List.perm_append_comm_assoc _ _ _)).trans ((((pm0.append_left Hr11).trans List.perm_middle).trans (((pm0.append_left Hr11).trans List.perm_middle).cons _)).append_left Hr5))).part (List.Sublist.append (List.Sublist.refl _) ns2))
 refine T.oo 41 ((!(hasB m z)) || (!(hasB m s))) (decide (0 < (((ocL m ((accV m p l).filter (slP s)) s).length : Nat) : Int))) (T.nil (QN.seq (W.cd (((!(hasB m z)) || (!(hasB m s))) || (decide (0 < (((ocL m ((accV m p l).filter (slP s)) s).length : Nat) : Int)))) (fun h13 => ?_) (fun h13 => ?_))))
 ·
  refine W.seq (W.rg od3 (T.pu 42 (.agg (⟨0, 0, 0, 0, 0, 0, Nm.zero, Nm.zero⟩ : Vt).cs) (T.sp 47 b2 0 (.agg (⟨0, 0, 0, 0, 0, 0, Nm.zero, Nm.zero⟩ : Vt).cs) Vt.zero.cs (⟨0, 0, 0, 0, 0, 0, Nm.zero, Nm.zero⟩ : Vt).cs 47 ((pm0.append_left Hr5).trans List.perm_middle) tv2 (T.pb 17 false (T.nil (QN.seq (W.ret (QN.thenRet (QN.doneC2 (.inl rfl) 16 17 47 b2 (⟨0, 0, 0, 0, 0, 0, Nm.zero, Nm.zero⟩ : Vt).cs (.bool false) _ rfl (by kernel_rfl) (by kernel_rfl) Tryz.underlying47 (by kernel_rfl) (by kernel_rfl) (fun w hw => St.rangeM hw (⟨0, 0, 0, 0, 0, 0, Nm.zero, Nm.zero⟩ : Vt).cs mm0 (by kernel_rfl)) (fun w hw => ⟨?_, hw.below⟩))))))))))
  exact (by rw [nof_no h13]; rfl)
 ·
  have h13l := (Bool.or_eq_false_iff.1 h13).1
  have h13r := (Bool.or_eq_false_iff.1 h13).2
  have h13ll := (Bool.or_eq_false_iff.1 h13l).1
  have h13lr := (Bool.or_eq_false_iff.1 h13l).2
  have h13lln := not_eq_false h13ll
  have h13llnb := hasB_lt h13lln
  have h13lrn := not_eq_false h13lr
  have h13lrnb := hasB_lt h13lrn
  have h13r' := of_decide_eq_false h13r
  refine W.skip (QN.seq (W.seq (W.rg od15 (T.pi 44 m (T.lr false 45 p.cs 24 b1 0 (fun w h => St.rangeM h p.cs (List.mem_append_right _ mm1) (by kernel_rfl)) (T.pu 46 (.slice A l.length c) (T.pu 47 (.slice A3 (((accV m p l).filter (slP s)).length) c4) (T.pi 48 s (T.pi 49 z (T.pu 50 (.slice Ah held.length ch) (T.pb 51 wt (T.cp 52 131 #[.int .i64 m, .agg p.cs, .slice A l.length c, .slice A3 (((accV m p l).filter (slP s)).length) c4, .int .i64 s, .int .i64 z, .slice Ah held.length ch, .bool wt] (.tuple #[.agg ((nextR (owB l p s z) m ((accV m p l).filter (slP s)) held wt).getD Vt.zero).cs, .bool ((nextR (owB l p s z) m ((accV m p l).filter (slP s)) held wt).isSome)]) ent131 (fun w hw => rnext_c m p l ((accV m p l).filter (slP s)) s z held wt A c A3 c4 Ah ch w (by assumption) slV_sg (by first | omega | (simp; done) | (simp; omega)) (Arr.rd (Rd.arr hr _) hw) (by first | omega | (simp; done) | (simp; omega)) (Arr.rd (Arr.row hrow6 rfl rfl _) hw) (by first | omega | (simp; done) | (simp; omega)) (Arr.rd (Rd.arr hrh _) hw)) tv2 (T.pu 43 (.tuple #[.agg ((nextR (owB l p s z) m ((accV m p l).filter (slP s)) held wt).getD Vt.zero).cs, .bool ((nextR (owB l p s z) m ((accV m p l).filter (slP s)) held wt).isSome)]) (T.pu 53 (.agg ((nextR (owB l p s z) m ((accV m p l).filter (slP s)) held wt).getD Vt.zero).cs) (T.pb 54 ((nextR (owB l p s z) m ((accV m p l).filter (slP s)) held wt).isSome) (T.al 19 47 Vt.zero.cs tv3 (fun b14 => T.sp 47 b14 0 (.agg ((nextR (owB l p s z) m ((accV m p l).filter (slP s)) held wt).getD Vt.zero).cs) Vt.zero.cs ((nextR (owB l p s z) m ((accV m p l).filter (slP s)) held wt).getD Vt.zero).cs 47 pm0 tv2 (T.pb 20 ((nextR (owB l p s z) m ((accV m p l).filter (slP s)) held wt).isSome) (T.nil (QN.seq (W.seq (W.seq (W.rg od2 (T.pb 55 ((nextR (owB l p s z) m ((accV m p l).filter (slP s)) held wt).isSome) (T.pb 56 (!((nextR (owB l p s z) m ((accV m p l).filter (slP s)) held wt).isSome)) (T.nil (QN.seq (W.cd (!((nextR (owB l p s z) m ((accV m p l).filter (slP s)) held wt).isSome)) (fun h15 => ?_) (fun h15 => ?_)))))))))))))))))))))))))))))
  ·
   have h15n := not_eq_true h15
   refine W.seq (W.rg od3 (T.pu 57 (.agg (⟨0, 0, 0, 0, 0, 0, Nm.zero, Nm.zero⟩ : Vt).cs) (T.sp 47 b2 0 (.agg (⟨0, 0, 0, 0, 0, 0, Nm.zero, Nm.zero⟩ : Vt).cs) Vt.zero.cs (⟨0, 0, 0, 0, 0, 0, Nm.zero, Nm.zero⟩ : Vt).cs 47 ((((pm0.append_left Hr5).trans List.perm_middle).cons _).trans (List.Perm.swap _ _ _)) tv2 (T.pb 17 false (T.nil (QN.seq (W.ret (QN.thenRet (QN.doneC2 (.inl rfl) 16 17 47 b2 (⟨0, 0, 0, 0, 0, 0, Nm.zero, Nm.zero⟩ : Vt).cs (.bool false) _ rfl (by kernel_rfl) (by kernel_rfl) Tryz.underlying47 (by kernel_rfl) (by kernel_rfl) (fun w hw => St.rangeM hw (⟨0, 0, 0, 0, 0, 0, Nm.zero, Nm.zero⟩ : Vt).cs mm0 (by kernel_rfl)) (fun w hw => ⟨?_, hw.below⟩))))))))))
   exact (by rw [nof_none (nof_is h13) h15]; rfl)
  ·
   have h15n := not_eq_false h15
   refine W.skip (QN.seq (W.seq (W.rg od9 (T.lr false 58 p.cs 24 b1 0 (fun w h => St.rangeM h p.cs (.tail _ (List.mem_append_right _ mm1)) (by kernel_rfl)) (T.pi 59 s (T.pi 60 z (T.pu 61 (.pointer (some ⟨b14, 6, none⟩)) (T.sp 24 b14 6 (.agg p.cs) ((nextR (owB l p s z) m ((accV m p l).filter (slP s)) held wt).getD Vt.zero).cs (setPa ((nextR (owB l p s z) m ((accV m p l).filter (slP s)) held wt).getD Vt.zero) p).cs 47 pm0 tv2 (T.pu 62 (.pointer (some ⟨b14, 1, none⟩)) (T.sp 3 b14 1 (.int .i64 s) (setPa ((nextR (owB l p s z) m ((accV m p l).filter (slP s)) held wt).getD Vt.zero) p).cs (setSl (setPa ((nextR (owB l p s z) m ((accV m p l).filter (slP s)) held wt).getD Vt.zero) p) s).cs 47 pm0 tv2 (T.pu 63 (.pointer (some ⟨b14, 4, none⟩)) (T.sp 3 b14 4 (.int .i64 z) (setSl (setPa ((nextR (owB l p s z) m ((accV m p l).filter (slP s)) held wt).getD Vt.zero) p) s).cs (setSn (setSl (setPa ((nextR (owB l p s z) m ((accV m p l).filter (slP s)) held wt).getD Vt.zero) p) s) z).cs 47 pm0 tv2 (T.nil (QN.seq (W.seq (W.rg od3 (T.lr false 64 (setSn (setSl (setPa ((nextR (owB l p s z) m ((accV m p l).filter (slP s)) held wt).getD Vt.zero) p) s) z).cs 47 b14 0 (fun w h => St.rangeM h (setSn (setSl (setPa ((nextR (owB l p s z) m ((accV m p l).filter (slP s)) held wt).getD Vt.zero) p) s) z).cs mm0 (by kernel_rfl)) (T.sp 47 b2 0 (.agg (setSn (setSl (setPa ((nextR (owB l p s z) m ((accV m p l).filter (slP s)) held wt).getD Vt.zero) p) s) z).cs) Vt.zero.cs (setSn (setSl (setPa ((nextR (owB l p s z) m ((accV m p l).filter (slP s)) held wt).getD Vt.zero) p) s) z).cs 47 ((((pm0.append_left Hr5).trans List.perm_middle).cons _).trans (List.Perm.swap _ _ _)) tv2 (T.pb 17 true (T.nil (QN.seq (W.ret (QN.doneC2 (.inl rfl) 16 17 47 b2 (setSn (setSl (setPa ((nextR (owB l p s z) m ((accV m p l).filter (slP s)) held wt).getD Vt.zero) p) s) z).cs (.bool true) _ rfl (by kernel_rfl) (by kernel_rfl) Tryz.underlying47 (by kernel_rfl) (by kernel_rfl) (fun w hw => St.rangeM hw (setSn (setSl (setPa ((nextR (owB l p s z) m ((accV m p l).filter (slP s)) held wt).getD Vt.zero) p) s) z).cs mm0 (by kernel_rfl)) (fun w hw => ⟨?_, hw.below⟩))))))))))))))))))))))))
   exact (by rw [nof_some (nof_is h13) h15]; rfl)
set_option maxRecDepth 100000 in
set_option maxHeartbeats 2000000 in
theorem rnextall_c (m : Int) (p : Nm) (l : List Vt) (s z : Int) (held : List Nm) (wt : Bool) (A : Option Addr) (c : Nat) (Ah : Option Addr) (ch : Nat) (w : World) (hm : W64 m) (hok : ∀ u ∈ l, W64 u.support) (hl : l.length ≤ 1000) (hr : Rd w A l) (hlh : held.length ≤ 1000) (hrh : Rd w Ah held) : Calls Tryz.prog 42 #[.int .i64 m, .agg p.cs, .slice A l.length c, .int .i64 s, .int .i64 z, .slice Ah held.length ch, .bool wt] w (fun rr w' => rr = .returned (.tuple #[.agg ((nextN m p l s z held wt).getD Vt.zero).cs, .bool (nextN m p l s z held wt).isSome]) ∧ Below w.heap.size w w') := by
 have hz := size_le m
 have hal := accV_len m p l
 have hsl := slV_len m p l s
 unfold slV at hsl
 refine calls_W (n := 30) Tryz.func42 rfl [(0, .int .i64 m), (1, .agg p.cs), (2, .slice A l.length c), (3, .int .i64 s), (4, .int .i64 z), (5, .slice Ah held.length ch), (6, .bool wt)] rfl ⟨by kernel_rfl, by kernel_rfl⟩ (W.weak (Ψ := St w []) (fun w' h => by rw [h]; exact St.start w) (W.seq (W.rg od3 (T.bx 8 24 (.agg p.cs) (p.cs) tv3 (fun b1 => T.al 14 47 Vt.zero.cs tv3 (fun b2 => T.pb 15 false (T.nil (QN.seq (W.seq (W.drawn (Ψ := St w [(b2, Obj.cells Vt.zero.cs 47 (0, 0)), (b1, Obj.cells p.cs 24 (0, 0))]) (St w [(b1, Obj.cells p.cs 24 (0, 0))]) [(0, true), (1, true), (2, true), (3, true), (4, true), (5, true), (7, true), (8, true), (9, true), (10, true), (6, false), (11, false), (12, true), (13, true), (14, false), (15, false)] hmx (by kernel_rfl) (NoPanic.then NoPanic.body) (fun w h => h.drew) (fun w h => (h.perm pm1).part ns1) (T.pi 16 m (T.lr true 17 p.cs 24 b1 0 (fun w h => St.rangeM h p.cs mm0 (by kernel_rfl)) (T.pu 18 (.slice A l.length c) (T.pi 19 m (T.lr true 20 p.cs 24 b1 0 (fun w h => St.rangeM h p.cs mm0 (by kernel_rfl)) (T.pu 21 (.slice A l.length c) (T.pi 23 s (T.pi 24 z (T.pu 25 (.slice Ah held.length ch) (T.pb 26 wt (T.callR 22 26 #[.int .i64 m, .agg p.cs, .slice A l.length c] 47 22 (accV m p l).length (cells (accV m p l)) (by kernel_rfl) (by kernel_rfl) ent26 (fun w hw => raccepted_c m p l A c w (by assumption) hok (by first | omega | (simp; done) | (simp; omega)) (Arr.rd (Rd.arr hr _) hw)) (fun Hr5 => (fun w h => (h.perm ((pm1.append_left Hr5).trans List.perm_middle)).part ns1)) (fun A3 c4 Hr5 hrow6 => T.cp 27 82 #[.int .i64 m, .agg p.cs, .slice A l.length c, .slice A3 ((accV m p l).length) c4, .int .i64 s, .int .i64 z, .slice Ah held.length ch, .bool wt] (.tuple #[.agg ((nextN m p l s z held wt).getD Vt.zero).cs, .bool ((nextN m p l s z held wt).isSome)]) ent82 (fun w hw => rnextof_c m p l s z held wt A3 c4 A c Ah ch w hm hok (by first | omega | (simp; done) | (simp; omega)) (Arr.rd (Rd.arr hr _) hw) (by first | omega | (simp; done) | (simp; omega)) (Arr.rd (Rd.arr hrh _) hw) (Arr.rd (Arr.row hrow6 rfl rfl _) hw)) (fun w h => (h.perm ((pm1.append_left Hr5).trans List.perm_middle)).part ns1) (T.pu 28 (.agg ((nextN m p l s z held wt).getD Vt.zero).cs) (T.pb 29 ((nextN m p l s z held wt).isSome) (T.sp 47 b2 0 (.agg ((nextN m p l s z held wt).getD Vt.zero).cs) Vt.zero.cs ((nextN m p l s z held wt).getD Vt.zero).cs 47 ((pm0.append_left Hr5).trans List.perm_middle) (fun w h => (h.perm ((((pm0.append_left Hr5).trans List.perm_middle).cons _).trans (List.Perm.swap _ _ _))).part ns1) (T.pb 15 ((nextN m p l s z held wt).isSome) (T.nil (QN.seq (W.ret (QN.doneC2 (.inl rfl) 14 15 47 b2 ((nextN m p l s z held wt).getD Vt.zero).cs (.bool ((nextN m p l s z held wt).isSome)) _ rfl (by kernel_rfl) (by kernel_rfl) Tryz.underlying47 (by kernel_rfl) (by kernel_rfl) (fun w hw => St.rangeM hw ((nextN m p l s z held wt).getD Vt.zero).cs mm0 (by kernel_rfl)) (fun w hw => ⟨?_, hw.below⟩)))))))))))))))))))))))))))))))
 exact rfl
end Go.Proofs.YtnjkbgcfpbbglaaGreat
