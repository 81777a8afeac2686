/- The walks of the laws of the agreement. -/
import Derived.Test.YtnjkbgcfpbbglaaGreatL16p
import Derived.Test.YtnjkbgcfpbbglaaGreatOpenG
namespace Go.Proofs.YtnjkbgcfpbbglaaGreat
open Go Go.RowKit
set_option linter.unusedVariables false

theorem take_allcut16_c {α : Type} {l : List α} (h : ¬ (250 : Int) < (l.length : Int)) : (l.take 250).length = l.length := by simp; omega
set_option maxRecDepth 100000 in
set_option maxHeartbeats 2000000 in
theorem cut16_c (l : List Vt) (A : Option Addr) (c : Nat) (w : World) (h1 : l.length ≤ c) (h2 : c ≤ maxLen) (hr : Rd w A l) : Calls Tryz.prog 39 #[.slice A (l.length) c] w (fun rr w' => rr = .returned (.slice A ((l.take 250).length) c) ∧ Below w.heap.size w w') := by
 refine calls_W (n := 9) Tryz.func39 rfl [(0, .slice A (l.length) c)] rfl ⟨by kernel_rfl, by kernel_rfl⟩ (W.weak (Ψ := St w []) (fun w' h => by rw [h]; exact St.start w) (W.seq (W.rg od1 (T.pu 2 (.slice none (0) 0) (T.nil (QN.seq (W.seq (W.seq (W.rg od3 (T.pu 3 (.slice A (l.length) c) (T.pi 4 ((l.length : Nat) : Int) (T.pb 5 (decide (250 < ((l.length : Nat) : Int))) (T.nil (QN.seq (W.cd (decide (250 < ((l.length : Nat) : Int))) (fun h1 => ?_) (fun h1 => ?_))))))))))))))))
 ·
  have h1' := of_decide_eq_true h1
  refine W.seq (W.rg od3 (T.pu 6 (.slice A (l.length) c) ?_))
  have hsl2 : (l.take 250).length = 250 := by first | (simp; done) | (simp; omega)
  refine T.sliceTo 7 25 47 A (l.length) c (250) ((l.take 250).length) (by kernel_rfl) (by kernel_rfl) (by kernel_rfl) (by kernel_rfl) (by omega) (by omega) (T.pu 2 (.slice A ((l.take 250).length) c) (T.nil (QN.seq (W.ret (QN.thenRet (QN.done (.inl rfl) 2 (.slice A ((l.take 250).length) c) rfl (by kernel_rfl) (fun w hw => ⟨?_, hw.below⟩)))))))
  exact rfl
 ·
  have h1' := of_decide_eq_false h1
  refine W.skip (QN.seq (W.seq (W.rg od2 (T.pu 8 (.slice A (l.length) c) (T.pu 2 (.slice A (l.length) c) (T.nil (QN.seq (W.ret (QN.done (.inl rfl) 2 (.slice A (l.length) c) rfl (by kernel_rfl) (fun w hw => ⟨?_, hw.below⟩))))))))))
  exact congrArg (fun n => Ending.returned (.slice A n c)) (take_allcut16_c (by omega)).symm
theorem take_allfew16_c {α : Type} {l : List α} (h : ¬ (40 : Int) < (l.length : Int)) : (l.take 40).length = l.length := by simp; omega
set_option maxRecDepth 100000 in
set_option maxHeartbeats 2000000 in
theorem few16_c (l : List Nm) (A : Option Addr) (c : Nat) (w : World) (h1 : l.length ≤ c) (h2 : c ≤ maxLen) (hr : Rd w A l) : Calls Tryz.prog 40 #[.slice A (l.length) c] w (fun rr w' => rr = .returned (.slice A ((l.take 40).length) c) ∧ Below w.heap.size w w') := by
 refine calls_W (n := 9) Tryz.func40 rfl [(0, .slice A (l.length) c)] rfl ⟨by kernel_rfl, by kernel_rfl⟩ (W.weak (Ψ := St w []) (fun w' h => by rw [h]; exact St.start w) (W.seq (W.rg od1 (T.pu 2 (.slice none (0) 0) (T.nil (QN.seq (W.seq (W.seq (W.rg od3 (T.pu 3 (.slice A (l.length) c) (T.pi 4 ((l.length : Nat) : Int) (T.pb 5 (decide (40 < ((l.length : Nat) : Int))) (T.nil (QN.seq (W.cd (decide (40 < ((l.length : Nat) : Int))) (fun h1 => ?_) (fun h1 => ?_))))))))))))))))
 ·
  have h1' := of_decide_eq_true h1
  refine W.seq (W.rg od3 (T.pu 6 (.slice A (l.length) c) ?_))
  have hsl2 : (l.take 40).length = 40 := by first | (simp; done) | (simp; omega)
  refine T.sliceTo 7 28 24 A (l.length) c (40) ((l.take 40).length) (by kernel_rfl) (by kernel_rfl) (by kernel_rfl) (by kernel_rfl) (by omega) (by omega) (T.pu 2 (.slice A ((l.take 40).length) c) (T.nil (QN.seq (W.ret (QN.thenRet (QN.done (.inl rfl) 2 (.slice A ((l.take 40).length) c) rfl (by kernel_rfl) (fun w hw => ⟨?_, hw.below⟩)))))))
  exact rfl
 ·
  have h1' := of_decide_eq_false h1
  refine W.skip (QN.seq (W.seq (W.rg od2 (T.pu 8 (.slice A (l.length) c) (T.pu 2 (.slice A (l.length) c) (T.nil (QN.seq (W.ret (QN.done (.inl rfl) 2 (.slice A (l.length) c) rfl (by kernel_rfl) (fun w hw => ⟨?_, hw.below⟩))))))))))
  exact congrArg (fun n => Ending.returned (.slice A n c)) (take_allfew16_c (by omega)).symm
set_option maxRecDepth 100000 in
set_option maxHeartbeats 2000000 in
theorem awake16_c (w : World) : Calls Tryz.prog 43 #[] w (fun rr w' => rr = .returned (.bool (true)) ∧ Below w.heap.size w w') := by
 refine calls_W (n := 25) Tryz.func43 rfl [] rfl ⟨by kernel_rfl, by kernel_rfl⟩ (W.weak (Ψ := St w []) (fun w' h => by rw [h]; exact St.start w) (W.seq (W.rg od1 (T.pb 0 false (T.nil (QN.seq (W.seq (W.rg od8 (T.pu 6 (.agg (Nm.zero).cs) (T.cp 7 41 #[.int .i64 15, .agg (Nm.zero).cs, .slice none (0) 0, .int .i64 0, .int .i64 1, .slice none (0) 0, .bool (true)] (.tuple #[.agg ((nextN 15 Nm.zero ([]) 0 1 ([]) true).getD Vt.zero).cs, .bool ((nextN 15 Nm.zero ([]) 0 1 ([]) true).isSome)]) ent41 (fun w hw => agnext_c 15 Nm.zero ([]) 0 1 ([]) true none 0 none 0 w (by first | assumption | exact w64_and _ _ | exact w64_or _ _ | exact w64_andNot _ _ | (unfold W64; omega)) (fun u hu => by cases hu) (by first | omega | (simp; done) | (simp; omega)) (Arr.rd (Arr.nil _) hw) (by first | omega | (simp; done) | (simp; omega)) (Arr.rd (Arr.nil _) hw)) (fun _ _ => trivial) (T.pu 5 (.tuple #[.agg ((nextN 15 Nm.zero ([]) 0 1 ([]) true).getD Vt.zero).cs, .bool ((nextN 15 Nm.zero ([]) 0 1 ([]) true).isSome)]) (T.pu 8 (.agg ((nextN 15 Nm.zero ([]) 0 1 ([]) true).getD Vt.zero).cs) (T.pb 9 ((nextN 15 Nm.zero ([]) 0 1 ([]) true).isSome) (T.al 1 47 (Vt.zero).cs (fun _ _ _ => trivial) (fun b1 => T.sp 47 b1 0 (.agg ((nextN 15 Nm.zero ([]) 0 1 ([]) true).getD Vt.zero).cs) (Vt.zero).cs ((nextN 15 Nm.zero ([]) 0 1 ([]) true).getD Vt.zero).cs 47 pm0 (fun _ _ => trivial) (T.pb 2 ((nextN 15 Nm.zero ([]) 0 1 ([]) true).isSome) (T.nil (QN.seq (W.seq (W.rg od8 (T.pu 11 (.agg (Nm.zero).cs) (T.cp 12 41 #[.int .i64 15, .agg (Nm.zero).cs, .slice none (0) 0, .int .i64 0, .int .i64 1, .slice none (0) 0, .bool (false)] (.tuple #[.agg ((nextN 15 Nm.zero ([]) 0 1 ([]) false).getD Vt.zero).cs, .bool ((nextN 15 Nm.zero ([]) 0 1 ([]) false).isSome)]) ent41 (fun w hw => agnext_c 15 Nm.zero ([]) 0 1 ([]) false none 0 none 0 w (by first | assumption | exact w64_and _ _ | exact w64_or _ _ | exact w64_andNot _ _ | (unfold W64; omega)) (fun u hu => by cases hu) (by first | omega | (simp; done) | (simp; omega)) (Arr.rd (Arr.nil _) hw) (by first | omega | (simp; done) | (simp; omega)) (Arr.rd (Arr.nil _) hw)) (fun _ _ => trivial) (T.pu 10 (.tuple #[.agg ((nextN 15 Nm.zero ([]) 0 1 ([]) false).getD Vt.zero).cs, .bool ((nextN 15 Nm.zero ([]) 0 1 ([]) false).isSome)]) (T.pu 13 (.agg ((nextN 15 Nm.zero ([]) 0 1 ([]) false).getD Vt.zero).cs) (T.pb 14 ((nextN 15 Nm.zero ([]) 0 1 ([]) false).isSome) (T.al 3 47 (Vt.zero).cs (fun _ _ _ => trivial) (fun b2 => T.sp 47 b2 0 (.agg ((nextN 15 Nm.zero ([]) 0 1 ([]) false).getD Vt.zero).cs) (Vt.zero).cs ((nextN 15 Nm.zero ([]) 0 1 ([]) false).getD Vt.zero).cs 47 pm0 (fun _ _ => trivial) (T.pb 4 ((nextN 15 Nm.zero ([]) 0 1 ([]) false).isSome) (T.nil (QN.seq (W.seq (W.rg od11 (T.pb 15 ((nextN 15 Nm.zero ([]) 0 1 ([]) true).isSome) (T.pb 16 ((nextN 15 Nm.zero ([]) 0 1 ([]) true).isSome) (T.blk [(2, false), (3, false)] [(4, false), (5, false), (6, false), (7, false), (8, false), (9, false), (10, false)] 1 true ((nextN 15 Nm.zero ([]) 0 1 ([]) true).isSome) 16 18 (.bool (!((nextN 15 Nm.zero ([]) 0 1 ([]) false).isSome))) (by kernel_rfl) (by kernel_rfl) (by kernel_rfl) (fun hg3 => ?_) ?_)))))))))))))))))))))))))))))))))))
 ·
  have hg3_ := hg3
  refine T.pb 17 ((nextN 15 Nm.zero ([]) 0 1 ([]) false).isSome) (T.pb 18 (!((nextN 15 Nm.zero ([]) 0 1 ([]) false).isSome)) ?_)
  exact T.blkEnd (by kernel_rfl) (fun w h => h)
 refine T.an 19 ((nextN 15 Nm.zero ([]) 0 1 ([]) true).isSome) (!((nextN 15 Nm.zero ([]) 0 1 ([]) false).isSome)) (T.pb 20 (((nextN 15 Nm.zero ([]) 0 1 ([]) true).isSome) && (!((nextN 15 Nm.zero ([]) 0 1 ([]) false).isSome))) (T.blk [(6, false), (7, false), (8, false)] [(9, false), (10, false)] 5 true (((nextN 15 Nm.zero ([]) 0 1 ([]) true).isSome) && (!((nextN 15 Nm.zero ([]) 0 1 ([]) false).isSome))) 20 23 (.bool (((nextN 15 Nm.zero ([]) 0 1 ([]) true).getD Vt.zero) == (⟨3, 0, 1, 0, 1, 0, Nm.zero, Nm.zero⟩ : Vt))) (by kernel_rfl) (by kernel_rfl) (by kernel_rfl) (fun hg4 => ?_) ?_))
 ·
  have hg4_ := hg4
  have hg4l := (Bool.and_eq_true_iff.1 hg4).1
  have hg4r := (Bool.and_eq_true_iff.1 hg4).2
  have hg4rn := not_eq_true hg4r
  refine T.lr false 21 ((nextN 15 Nm.zero ([]) 0 1 ([]) true).getD Vt.zero).cs 47 b1 0 (fun w h => St.rangeM h ((nextN 15 Nm.zero ([]) 0 1 ([]) true).getD Vt.zero).cs (.tail _ (.head _)) (by kernel_rfl)) (T.pu 22 (.agg ((⟨3, 0, 1, 0, 1, 0, Nm.zero, Nm.zero⟩ : Vt)).cs) (T.eqq 23 (((nextN 15 Nm.zero ([]) 0 1 ([]) true).getD Vt.zero) == (⟨3, 0, 1, 0, 1, 0, Nm.zero, Nm.zero⟩ : Vt)) (((nextN 15 Nm.zero ([]) 0 1 ([]) true).getD Vt.zero) == (⟨3, 0, 1, 0, 1, 0, Nm.zero, Nm.zero⟩ : Vt)) false 47 ((nextN 15 Nm.zero ([]) 0 1 ([]) true).getD Vt.zero).cs ((⟨3, 0, 1, 0, 1, 0, Nm.zero, Nm.zero⟩ : Vt)).cs (by kernel_rfl) (by kernel_rfl) (by kernel_rfl) (by kernel_rfl) (fun w => eq_vt w ((nextN 15 Nm.zero ([]) 0 1 ([]) true).getD Vt.zero) (⟨3, 0, 1, 0, 1, 0, Nm.zero, Nm.zero⟩ : Vt)) ?_))
  exact T.blkEnd (by kernel_rfl) (fun w h => h)
 refine T.an 24 (((nextN 15 Nm.zero ([]) 0 1 ([]) true).isSome) && (!((nextN 15 Nm.zero ([]) 0 1 ([]) false).isSome))) (((nextN 15 Nm.zero ([]) 0 1 ([]) true).getD Vt.zero) == (⟨3, 0, 1, 0, 1, 0, Nm.zero, Nm.zero⟩ : Vt)) (T.pb 0 ((((nextN 15 Nm.zero ([]) 0 1 ([]) true).isSome) && (!((nextN 15 Nm.zero ([]) 0 1 ([]) false).isSome))) && (((nextN 15 Nm.zero ([]) 0 1 ([]) true).getD Vt.zero) == (⟨3, 0, 1, 0, 1, 0, Nm.zero, Nm.zero⟩ : Vt))) (T.nil (QN.seq (W.ret (QN.done (.inl rfl) 0 (.bool ((((nextN 15 Nm.zero ([]) 0 1 ([]) true).isSome) && (!((nextN 15 Nm.zero ([]) 0 1 ([]) false).isSome))) && (((nextN 15 Nm.zero ([]) 0 1 ([]) true).getD Vt.zero) == (⟨3, 0, 1, 0, 1, 0, Nm.zero, Nm.zero⟩ : Vt)))) rfl (by kernel_rfl) (fun w hw => ⟨?_, hw.below⟩))))))
 exact ret_bool (by decide +kernel)
set_option maxRecDepth 100000 in
set_option maxHeartbeats 2000000 in
theorem AgreementDone_c (m : Int) (p : Nm) (a : List Vt) (s z : Int) (hd : List Nm) (A : Option Addr) (c : Nat) (Ah : Option Addr) (ch : Nat) (w : World) (hm : W64 m) (hok : ∀ u ∈ a, u.Ok) (h1 : a.length ≤ c) (h2 : c ≤ maxLen) (hr : Rd w A a) (h3 : hd.length ≤ ch) (h4 : ch ≤ maxLen) (hrh : Rd w Ah hd) : Calls Tryz.prog 9 #[.int .i64 m, .agg (p).cs, .slice A (a.length) c, .int .i64 s, .int .i64 z, .slice Ah (hd.length) ch] w (fun rr w' => rr = .returned (.bool (true)) ∧ Below w.heap.size w w') := by
 have ht : (a.take 250).length ≤ 250 := List.length_take_le _ _
 have hth : (hd.take 40).length ≤ 40 := List.length_take_le _ _
 have hz := size_le m
 have hoV := outV_len m p (a.take 250) s
 refine calls_W (n := 78) Tryz.func9 rfl [(0, .int .i64 m), (1, .agg (p).cs), (2, .slice A (a.length) c), (3, .int .i64 s), (4, .int .i64 z), (5, .slice Ah (hd.length) ch)] rfl ⟨by kernel_rfl, by kernel_rfl⟩ (W.weak (Ψ := St w []) (fun w' h => by rw [h]; exact St.start w) (W.seq (W.rg od2 (T.bx 7 24 (.agg (p).cs) ((p).cs) (fun _ _ _ => trivial) (fun b1 => T.pb 12 false (T.nil (QN.seq (W.seq (W.rg od6 (T.pu 16 (.slice A (a.length) c) (T.cp 17 39 #[.slice A (a.length) c] (.slice A ((a.take 250).length) c) ent39 (fun w hw => cut16_c a A c w h1 h2 (Arr.rd (Rd.arr hr _) hw)) (fun _ _ => trivial) (T.pu 18 (.slice Ah (hd.length) ch) (T.cp 19 40 #[.slice Ah (hd.length) ch] (.slice Ah ((hd.take 40).length) ch) ent40 (fun w hw => few16_c hd Ah ch w h3 h4 (Arr.rd (Rd.arr hrh _) hw)) (fun _ _ => trivial) (T.pu 2 (.slice A ((a.take 250).length) c) (T.pu 5 (.slice Ah ((hd.take 40).length) ch) (T.nil (QN.seq (W.seq (W.rg od13 (T.pi 21 m (T.lr false 22 (p).cs 24 b1 0 (fun w h => St.rangeM h (p).cs (.head _) (by kernel_rfl)) (T.pu 23 (.slice A ((a.take 250).length) c) (T.pi 24 s (T.pi 25 z (T.pu 26 (.slice Ah ((hd.take 40).length) ch) (T.cp 27 41 #[.int .i64 m, .agg (p).cs, .slice A ((a.take 250).length) c, .int .i64 s, .int .i64 z, .slice Ah ((hd.take 40).length) ch, .bool (true)] (.tuple #[.agg ((nextN m p (a.take 250) s z (hd.take 40) true).getD Vt.zero).cs, .bool ((nextN m p (a.take 250) s z (hd.take 40) true).isSome)]) ent41 (fun w hw => agnext_c m p (a.take 250) s z (hd.take 40) true A c Ah ch w (by first | assumption | exact w64_and _ _ | exact w64_or _ _ | exact w64_andNot _ _ | (unfold W64; omega)) (fun u hu => (hok u (List.mem_of_mem_take hu)).support) (by first | omega | (simp; done) | (simp; omega)) (Arr.rd ((Rd.arr hr _).take _) hw) (by first | omega | (simp; done) | (simp; omega)) (Arr.rd ((Rd.arr hrh _).take _) hw)) (fun _ _ => trivial) (T.pu 20 (.tuple #[.agg ((nextN m p (a.take 250) s z (hd.take 40) true).getD Vt.zero).cs, .bool ((nextN m p (a.take 250) s z (hd.take 40) true).isSome)]) (T.pu 28 (.agg ((nextN m p (a.take 250) s z (hd.take 40) true).getD Vt.zero).cs) (T.pb 29 ((nextN m p (a.take 250) s z (hd.take 40) true).isSome) (T.al 13 47 (Vt.zero).cs (fun _ _ _ => trivial) (fun b2 => T.sp 47 b2 0 (.agg ((nextN m p (a.take 250) s z (hd.take 40) true).getD Vt.zero).cs) (Vt.zero).cs ((nextN m p (a.take 250) s z (hd.take 40) true).getD Vt.zero).cs 47 pm0 (fun _ _ => trivial) (T.pb 14 ((nextN m p (a.take 250) s z (hd.take 40) true).isSome) (T.nil (QN.seq (W.seq (W.rg [(0, false), (1, false), (2, false), (3, false), (4, false), (5, false), (6, false), (7, false), (8, false), (9, false), (10, false), (11, false), (12, false), (13, false), (14, false), (15, false), (16, false), (17, false), (18, false), (19, false), (20, false), (21, false), (22, false), (23, false), (24, false), (25, false), (26, false), (27, false), (28, false), (29, false), (30, false), (31, false), (32, false)] (T.pi 30 z (T.pb 31 (decide (z < 0)) (T.pb 32 (decide (z < 0)) (T.blk [(3, false), (4, false)] [(5, false), (6, false), (7, false), (8, false), (9, false), (10, false), (11, false), (12, false), (13, false), (14, false), (15, false), (16, false), (17, false), (18, false), (19, false), (20, false), (21, false), (22, false), (23, false), (24, false), (25, false), (26, false), (27, false), (28, false), (29, false), (30, false), (31, false), (32, false)] 2 false (decide (z < 0)) 32 34 (.bool (decide (10 ≤ z))) (by kernel_rfl) (by kernel_rfl) (by kernel_rfl) (fun hg3 => ?_) ?_))))))))))))))))))))))))))))))))))))))))
 ·
  have hg3_ := hg3
  have hg3' := of_decide_eq_false hg3
  refine T.pi 33 z (T.pb 34 (decide (10 ≤ z)) ?_)
  exact T.blkEnd (by kernel_rfl) (fun w h => h)
 refine T.oo 35 (decide (z < 0)) (decide (10 ≤ z)) (T.pb 36 ((decide (z < 0)) || (decide (10 ≤ z))) (T.blk [(7, false), (8, false), (9, false), (10, false), (11, false), (12, false), (13, false)] [(14, false), (15, false), (16, false), (17, false), (18, false), (19, false), (20, false), (21, false), (22, false), (23, false), (24, false), (25, false), (26, false), (27, false), (28, false), (29, false), (30, false), (31, false), (32, false)] 6 false ((decide (z < 0)) || (decide (10 ≤ z))) 36 43 (.bool (!(hasB m z))) (by kernel_rfl) (by kernel_rfl) (by kernel_rfl) (fun hg4 => ?_) ?_))
 ·
  have hg4_ := hg4
  have hg4l := (Bool.or_eq_false_iff.1 hg4).1
  have hg4r := (Bool.or_eq_false_iff.1 hg4).2
  have hg4l' := of_decide_eq_false hg4l
  have hg4r' := of_decide_eq_false hg4r
  refine T.pi 37 m (T.pi 38 z (T.pe 39 (.int .i64 (bits .and .i64 z 15)) (.int .i64 z) (int_eq (and15 (by omega) (by omega))) (T.pe 40 (.int .u64 (IntKind.u64.wrap z)) (.int .u64 (z)) (wrapu_int (by omega) (by omega)) (T.shr 41 .i64 .u64 (m) (z) (.int .i64 (m / 2 ^ z.toNat)) (by kernel_rfl) (by kernel_rfl) (by omega) (shr_i (by omega) (by omega)) (T.pi 42 (bits .and .i64 (m / 2 ^ z.toNat) 1) (T.pe 43 (.bool ((bits .and .i64 (m / 2 ^ z.toNat) 1) == 0)) (.bool (!(hasB m z))) (shr_no hm (by omega) (by omega)) ?_))))))
  exact T.blkEnd (by kernel_rfl) (fun w h => h)
 refine T.oo 44 ((decide (z < 0)) || (decide (10 ≤ z))) (!(hasB m z)) (T.pb 45 (((decide (z < 0)) || (decide (10 ≤ z))) || (!(hasB m z))) (T.blk [(16, false), (17, false)] [(18, false), (19, false), (20, false), (21, false), (22, false), (23, false), (24, false), (25, false), (26, false), (27, false), (28, false), (29, false), (30, false), (31, false), (32, false)] 15 false (((decide (z < 0)) || (decide (10 ≤ z))) || (!(hasB m z))) 45 47 (.bool (decide (s < 0))) (by kernel_rfl) (by kernel_rfl) (by kernel_rfl) (fun hg5 => ?_) ?_))
 ·
  have hg5_ := hg5
  have hg5l := (Bool.or_eq_false_iff.1 hg5).1
  have hg5r := (Bool.or_eq_false_iff.1 hg5).2
  have hg5ll := (Bool.or_eq_false_iff.1 hg5l).1
  have hg5lr := (Bool.or_eq_false_iff.1 hg5l).2
  have hg5ll' := of_decide_eq_false hg5ll
  have hg5lr' := of_decide_eq_false hg5lr
  have hg5rn := not_eq_false hg5r
  have hg5rnb := hasB_lt hg5rn
  refine T.pi 46 s (T.pb 47 (decide (s < 0)) ?_)
  exact T.blkEnd (by kernel_rfl) (fun w h => h)
 refine T.oo 48 (((decide (z < 0)) || (decide (10 ≤ z))) || (!(hasB m z))) (decide (s < 0)) (T.pb 49 ((((decide (z < 0)) || (decide (10 ≤ z))) || (!(hasB m z))) || (decide (s < 0))) (T.blk [(20, false), (21, false)] [(22, false), (23, false), (24, false), (25, false), (26, false), (27, false), (28, false), (29, false), (30, false), (31, false), (32, false)] 19 false ((((decide (z < 0)) || (decide (10 ≤ z))) || (!(hasB m z))) || (decide (s < 0))) 49 51 (.bool (decide (10 ≤ s))) (by kernel_rfl) (by kernel_rfl) (by kernel_rfl) (fun hg6 => ?_) ?_))
 ·
  have hg6_ := hg6
  have hg6l := (Bool.or_eq_false_iff.1 hg6).1
  have hg6r := (Bool.or_eq_false_iff.1 hg6).2
  have hg6ll := (Bool.or_eq_false_iff.1 hg6l).1
  have hg6lr := (Bool.or_eq_false_iff.1 hg6l).2
  have hg6lll := (Bool.or_eq_false_iff.1 hg6ll).1
  have hg6llr := (Bool.or_eq_false_iff.1 hg6ll).2
  have hg6lll' := of_decide_eq_false hg6lll
  have hg6llr' := of_decide_eq_false hg6llr
  have hg6lrn := not_eq_false hg6lr
  have hg6lrnb := hasB_lt hg6lrn
  have hg6r' := of_decide_eq_false hg6r
  refine T.pi 50 s (T.pb 51 (decide (10 ≤ s)) ?_)
  exact T.blkEnd (by kernel_rfl) (fun w h => h)
 refine T.oo 52 ((((decide (z < 0)) || (decide (10 ≤ z))) || (!(hasB m z))) || (decide (s < 0))) (decide (10 ≤ s)) (T.pb 53 (((((decide (z < 0)) || (decide (10 ≤ z))) || (!(hasB m z))) || (decide (s < 0))) || (decide (10 ≤ s))) (T.blk [(24, false), (25, false), (26, false), (27, false), (28, false), (29, false), (30, false)] [(31, false), (32, false)] 23 false (((((decide (z < 0)) || (decide (10 ≤ z))) || (!(hasB m z))) || (decide (s < 0))) || (decide (10 ≤ s))) 53 60 (.bool (!(hasB m s))) (by kernel_rfl) (by kernel_rfl) (by kernel_rfl) (fun hg7 => ?_) ?_))
 ·
  have hg7_ := hg7
  have hg7l := (Bool.or_eq_false_iff.1 hg7).1
  have hg7r := (Bool.or_eq_false_iff.1 hg7).2
  have hg7ll := (Bool.or_eq_false_iff.1 hg7l).1
  have hg7lr := (Bool.or_eq_false_iff.1 hg7l).2
  have hg7lll := (Bool.or_eq_false_iff.1 hg7ll).1
  have hg7llr := (Bool.or_eq_false_iff.1 hg7ll).2
  have hg7llll := (Bool.or_eq_false_iff.1 hg7lll).1
  have hg7lllr := (Bool.or_eq_false_iff.1 hg7lll).2
  have hg7llll' := of_decide_eq_false hg7llll
  have hg7lllr' := of_decide_eq_false hg7lllr
  have hg7llrn := not_eq_false hg7llr
  have hg7llrnb := hasB_lt hg7llrn
  have hg7lr' := of_decide_eq_false hg7lr
  have hg7r' := of_decide_eq_false hg7r
  refine T.pi 54 m (T.pi 55 s (T.pe 56 (.int .i64 (bits .and .i64 s 15)) (.int .i64 s) (int_eq (and15 (by omega) (by omega))) (T.pe 57 (.int .u64 (IntKind.u64.wrap s)) (.int .u64 (s)) (wrapu_int (by omega) (by omega)) (T.shr 58 .i64 .u64 (m) (s) (.int .i64 (m / 2 ^ s.toNat)) (by kernel_rfl) (by kernel_rfl) (by omega) (shr_i (by omega) (by omega)) (T.pi 59 (bits .and .i64 (m / 2 ^ s.toNat) 1) (T.pe 60 (.bool ((bits .and .i64 (m / 2 ^ s.toNat) 1) == 0)) (.bool (!(hasB m s))) (shr_no hm (by omega) (by omega)) ?_))))))
  exact T.blkEnd (by kernel_rfl) (fun w h => h)
 refine T.oo 61 (((((decide (z < 0)) || (decide (10 ≤ z))) || (!(hasB m z))) || (decide (s < 0))) || (decide (10 ≤ s))) (!(hasB m s)) (T.pb 15 ((((((decide (z < 0)) || (decide (10 ≤ z))) || (!(hasB m z))) || (decide (s < 0))) || (decide (10 ≤ s))) || (!(hasB m s))) (T.nil (QN.seq (W.seq (W.seq (W.rg od10 (T.pb 62 ((((((decide (z < 0)) || (decide (10 ≤ z))) || (!(hasB m z))) || (decide (s < 0))) || (decide (10 ≤ s))) || (!(hasB m s))) (T.pb 63 ((((((decide (z < 0)) || (decide (10 ≤ z))) || (!(hasB m z))) || (decide (s < 0))) || (decide (10 ≤ s))) || (!(hasB m s))) (T.blk [(2, false), (3, false), (4, false), (5, false), (6, false), (7, false), (8, false)] [(9, false)] 1 false ((((((decide (z < 0)) || (decide (10 ≤ z))) || (!(hasB m z))) || (decide (s < 0))) || (decide (10 ≤ s))) || (!(hasB m s))) 63 70 (.bool (decide (0 < (((outV m p (a.take 250) s).length : Nat) : Int)))) (by kernel_rfl) (by kernel_rfl) (by kernel_rfl) (fun hg8 => ?_) ?_)))))))))
 ·
  have hg8_ := hg8
  have hg8l := (Bool.or_eq_false_iff.1 hg8).1
  have hg8r := (Bool.or_eq_false_iff.1 hg8).2
  have hg8ll := (Bool.or_eq_false_iff.1 hg8l).1
  have hg8lr := (Bool.or_eq_false_iff.1 hg8l).2
  have hg8lll := (Bool.or_eq_false_iff.1 hg8ll).1
  have hg8llr := (Bool.or_eq_false_iff.1 hg8ll).2
  have hg8llll := (Bool.or_eq_false_iff.1 hg8lll).1
  have hg8lllr := (Bool.or_eq_false_iff.1 hg8lll).2
  have hg8lllll := (Bool.or_eq_false_iff.1 hg8llll).1
  have hg8llllr := (Bool.or_eq_false_iff.1 hg8llll).2
  have hg8lllll' := of_decide_eq_false hg8lllll
  have hg8llllr' := of_decide_eq_false hg8llllr
  have hg8lllrn := not_eq_false hg8lllr
  have hg8lllrnb := hasB_lt hg8lllrn
  have hg8llr' := of_decide_eq_false hg8llr
  have hg8lr' := of_decide_eq_false hg8lr
  have hg8rn := not_eq_false hg8r
  have hg8rnb := hasB_lt hg8rn
  refine T.pi 64 m (T.lr false 65 (p).cs 24 b1 0 (fun w h => St.rangeM h (p).cs (.tail _ (.head _)) (by kernel_rfl)) (T.pu 66 (.slice A ((a.take 250).length) c) (T.pi 67 s (T.callR 68 28 #[.int .i64 m, .agg (p).cs, .slice A ((a.take 250).length) c, .int .i64 s] 34 11 (outV m p (a.take 250) s).length (cells (outV m p (a.take 250) s)) (by kernel_rfl) (by kernel_rfl) ent28 (fun w hw => outcomes_c m p (a.take 250) s A c w (by first | assumption | exact w64_and _ _ | exact w64_or _ _ | exact w64_andNot _ _ | (unfold W64; omega)) (fun u hu => (hok u (List.mem_of_mem_take hu)).support) (by first | omega | (simp; done) | (simp; omega)) (Arr.rd ((Rd.arr hr _).take _) hw)) (fun _ _ _ => trivial) (fun A9 c10 Hr11 hrow12 => T.pi 69 (((outV m p (a.take 250) s).length : Nat) : Int) (T.pb 70 (decide (0 < (((outV m p (a.take 250) s).length : Nat) : Int))) ?_))))))
  exact T.blkEnd (by kernel_rfl) (fun w h => (h.perm (((pm0.append_left Hr11).trans List.perm_middle).trans (((pm0.append_left Hr11).trans List.perm_middle).cons _))).part (((List.nil_sublist _).cons_cons _).cons_cons _))
 refine T.oo 71 ((((((decide (z < 0)) || (decide (10 ≤ z))) || (!(hasB m z))) || (decide (s < 0))) || (decide (10 ≤ s))) || (!(hasB m s))) (decide (0 < (((outV m p (a.take 250) s).length : Nat) : Int))) (T.nil (QN.seq (W.cd (((((((decide (z < 0)) || (decide (10 ≤ z))) || (!(hasB m z))) || (decide (s < 0))) || (decide (10 ≤ s))) || (!(hasB m s))) || (decide (0 < (((outV m p (a.take 250) s).length : Nat) : Int)))) (fun h13 => ?_) (fun h13 => ?_))))
 ·
  refine W.seq (W.rg od6 (T.pb 72 ((nextN m p (a.take 250) s z (hd.take 40) true).isSome) (T.pb 73 (!((nextN m p (a.take 250) s z (hd.take 40) true).isSome)) (T.pb 74 (!((nextN m p (a.take 250) s z (hd.take 40) true).isSome)) (T.blk [(3, false)] [(4, false), (5, false)] 2 true (!((nextN m p (a.take 250) s z (hd.take 40) true).isSome)) 74 75 (.bool (true)) (by kernel_rfl) (by kernel_rfl) (by kernel_rfl) (fun hg14 => ?_) ?_)))))
  ·
   have hg14_ := hg14
   have hg14n := not_eq_true hg14
   refine T.cp 75 43 #[] (.bool (true)) ent43 (fun w hw => awake16_c w) (fun _ _ => trivial) ?_
   exact T.blkEnd (by kernel_rfl) (fun w h => h)
  refine T.an 76 (!((nextN m p (a.take 250) s z (hd.take 40) true).isSome)) (true) (T.pb 12 ((!((nextN m p (a.take 250) s z (hd.take 40) true).isSome)) && true) (T.nil (QN.seq (W.ret (QN.thenRet (QN.done (.inl rfl) 12 (.bool ((!((nextN m p (a.take 250) s z (hd.take 40) true).isSome)) && true)) rfl (by kernel_rfl) (fun w hw => ⟨?_, hw.below⟩)))))))
  exact ret_bool (by rw [done_no h13]; rfl)
 ·
  have h13l := (Bool.or_eq_false_iff.1 h13).1
  have h13r := (Bool.or_eq_false_iff.1 h13).2
  have h13ll := (Bool.or_eq_false_iff.1 h13l).1
  have h13lr := (Bool.or_eq_false_iff.1 h13l).2
  have h13lll := (Bool.or_eq_false_iff.1 h13ll).1
  have h13llr := (Bool.or_eq_false_iff.1 h13ll).2
  have h13llll := (Bool.or_eq_false_iff.1 h13lll).1
  have h13lllr := (Bool.or_eq_false_iff.1 h13lll).2
  have h13lllll := (Bool.or_eq_false_iff.1 h13llll).1
  have h13llllr := (Bool.or_eq_false_iff.1 h13llll).2
  have h13llllll := (Bool.or_eq_false_iff.1 h13lllll).1
  have h13lllllr := (Bool.or_eq_false_iff.1 h13lllll).2
  have h13llllll' := of_decide_eq_false h13llllll
  have h13lllllr' := of_decide_eq_false h13lllllr
  have h13llllrn := not_eq_false h13llllr
  have h13llllrnb := hasB_lt h13llllrn
  have h13lllr' := of_decide_eq_false h13lllr
  have h13llr' := of_decide_eq_false h13llr
  have h13lrn := not_eq_false h13lr
  have h13lrnb := hasB_lt h13lrn
  have h13r' := of_decide_eq_false h13r
  refine W.skip (QN.seq (W.seq (W.rg od2 (T.cp 77 43 #[] (.bool (true)) ent43 (fun w hw => awake16_c w) (fun _ _ => trivial) (T.pb 12 true (T.nil (QN.seq (W.ret (QN.done (.inl rfl) 12 (.bool (true)) rfl (by kernel_rfl) (fun w hw => ⟨?_, hw.below⟩))))))))))
  exact rfl
theorem AgreementDone_w (w : World) (a0 : Int) (v1 : Value) (x1 : Nm) (v2 : Value) (x2 : List Vt) (a3 : Int) (a4 : Int) (v5 : Value) (x5 : List Nm) (h0 : W64 a0) (h1 : v1 = .agg x1.cs) (h2 : VS w v2 x2) (h3 : W64 a3) (h4 : W64 a4) (h5 : GS (fun _ => True) w v5 x5) : Calls Tryz.prog 9 #[.int .i64 a0, v1, v2, .int .i64 a3, .int .i64 a4, v5] w fun e w' => e = .returned (.bool true) ∧ Below w.heap.size w w' := by
  obtain rfl := h1
  obtain ⟨A2, c2, rfl, l2, m2, r2, k2⟩ := h2
  obtain ⟨A5, c5, rfl, l5, m5, r5, k5⟩ := h5
  exact AgreementDone_c _ _ _ _ _ _ _ _ _ _ w h0 k2 l2 m2 r2.rd l5 m5 r5
set_option maxRecDepth 100000 in
set_option maxHeartbeats 2000000 in
theorem AgreementAlike_c (m : Int) (p : Nm) (a : List Vt) (s x y : Int) (hd : List Nm) (wt : Bool) (A : Option Addr) (c : Nat) (Ah : Option Addr) (ch : Nat) (w : World) (hm : W64 m) (hok : ∀ u ∈ a, u.Ok) (h1 : a.length ≤ c) (h2 : c ≤ maxLen) (hr : Rd w A a) (h3 : hd.length ≤ ch) (h4 : ch ≤ maxLen) (hrh : Rd w Ah hd) : Calls Tryz.prog 10 #[.int .i64 m, .agg (p).cs, .slice A (a.length) c, .int .i64 s, .int .i64 x, .int .i64 y, .slice Ah (hd.length) ch, .bool (wt)] w (fun rr w' => rr = .returned (.bool (true)) ∧ Below w.heap.size w w') := by
 have ht : (a.take 250).length ≤ 250 := List.length_take_le _ _
 have hth : (hd.take 40).length ≤ 40 := List.length_take_le _ _
 have hz := size_le m
 have hbx := alk_bd x
 have hby := alk_bd y
 obtain ⟨ox, hox⟩ : ∃ o, o = nextN m p (a.take 250) s (alk x) (hd.take 40) wt := ⟨_, rfl⟩
 obtain ⟨oy, hoy⟩ : ∃ o, o = nextN m p (a.take 250) s (alk y) (hd.take 40) wt := ⟨_, rfl⟩
 refine calls_W (n := 108) Tryz.func10 rfl [(0, .int .i64 m), (1, .agg (p).cs), (2, .slice A (a.length) c), (3, .int .i64 s), (4, .int .i64 x), (5, .int .i64 y), (6, .slice Ah (hd.length) ch), (7, .bool (wt))] rfl ⟨by kernel_rfl, by kernel_rfl⟩ (W.weak (Ψ := St w []) (fun w' h => by rw [h]; exact St.start w) (W.seq (W.rg od2 (T.bx 9 24 (.agg (p).cs) ((p).cs) (fun _ _ _ => trivial) (fun b1 => T.pb 16 false (T.nil (QN.seq (W.seq (W.rg od6 (T.pu 22 (.slice A (a.length) c) (T.cp 23 39 #[.slice A (a.length) c] (.slice A ((a.take 250).length) c) ent39 (fun w hw => cut16_c a A c w h1 h2 (Arr.rd (Rd.arr hr _) hw)) (fun _ _ => trivial) (T.pu 24 (.slice Ah (hd.length) ch) (T.cp 25 40 #[.slice Ah (hd.length) ch] (.slice Ah ((hd.take 40).length) ch) ent40 (fun w hw => few16_c hd Ah ch w h3 h4 (Arr.rd (Rd.arr hrh _) hw)) (fun _ _ => trivial) (T.pu 2 (.slice A ((a.take 250).length) c) (T.pu 6 (.slice Ah ((hd.take 40).length) ch) (T.nil (QN.seq (W.seq (W.rg od10 (T.pi 26 x (T.pe 27 (.int .u64 (IntKind.u64.wrap x)) (.int .u64 (x % 18446744073709551616)) u64w (T.pe 28 (.int .u64 ((x % 18446744073709551616).tmod 10)) (.int .u64 ((x % 18446744073709551616) % 10)) (rem_intK (by omega)) (T.pe 29 (.int .i64 (IntKind.i64.wrap ((x % 18446744073709551616) % 10))) (.int .i64 (alk x)) (wrap_int (by omega) (by omega)) (T.pi 30 y (T.pe 31 (.int .u64 (IntKind.u64.wrap y)) (.int .u64 (y % 18446744073709551616)) u64w (T.pe 32 (.int .u64 ((y % 18446744073709551616).tmod 10)) (.int .u64 ((y % 18446744073709551616) % 10)) (rem_intK (by omega)) (T.pe 33 (.int .i64 (IntKind.i64.wrap ((y % 18446744073709551616) % 10))) (.int .i64 (alk y)) (wrap_int (by omega) (by omega)) (T.pi 4 (alk x) (T.pi 5 (alk y) (T.nil (QN.seq (W.seq (W.seq (W.rg od1 (T.pi 17 0 (T.nil (QN.seq (W.block (W.loop (σ := Nat) (fun gs => gs ≤ (a.take 250).length ∧ ((a.take 250).take gs).any (fun u => (u.signer == alk x) || (u.signer == alk y)) = false) (fun gs => [(0, .int .i64 m), (2, .slice A ((a.take 250).length) c), (3, .int .i64 s), (4, .int .i64 (alk x)), (5, .int .i64 (alk y)), (6, .slice Ah ((hd.take 40).length) ch), (7, .bool (wt)), (9, .pointer (some ⟨b1, 0, none⟩)), (17, .int .i64 gs)]) (fun gs => St w [(b1, Obj.cells (p).cs 24 (0, 0))]) (fun gs => (a.take 250).length - gs) (0) ?_ (by kernel_rfl) (fun w h => h) ?_)))))))))))))))))))))))))))))))))))))))
 ·
  show 0 ≤ (a.take 250).length ∧ ((a.take 250).take 0).any (fun u => (u.signer == alk x) || (u.signer == alk y)) = false
  exact ⟨Nat.zero_le _, any_zero _ _⟩
 rintro j hI_
 obtain ⟨hj, hany⟩ : j ≤ (a.take 250).length ∧ ((a.take 250).take j).any (fun u => (u.signer == alk x) || (u.signer == alk y)) = false := hI_
 show W _ _ [(0, .int .i64 m), (2, .slice A ((a.take 250).length) c), (3, .int .i64 s), (4, .int .i64 (alk x)), (5, .int .i64 (alk y)), (6, .slice Ah ((hd.take 40).length) ch), (7, .bool (wt)), (9, .pointer (some ⟨b1, 0, none⟩)), (17, .int .i64 j)] (St w [(b1, Obj.cells (p).cs 24 (0, 0))]) _ _
 refine W.seq (W.seq (W.rg od4 (T.pi 34 j (T.pu 35 (.slice A ((a.take 250).length) c) (T.pi 36 (((a.take 250).length : Nat) : Int) (T.pb 37 (decide ((j : Int) < (((a.take 250).length : Nat) : Int))) (T.nil (QN.seq (W.cd (decide ((j : Int) < (((a.take 250).length : Nat) : Int))) (fun h2 => ?_) (fun h2 => ?_))))))))))
 ·
  have h2' := of_decide_eq_true h2
  have hl3 : j < (a.take 250).length := by omega
  refine W.skip (QN.seq (W.seq (W.block (W.seq (W.rg od16 (T.pu 40 (.slice A ((a.take 250).length) c) (T.pi 41 j ?_)))))))
  obtain ⟨b4, o5, hA6, hr7⟩ := ((Rd.arr hr _).take _) j hl3
  refine T.ix 42 25 47 22 A ((a.take 250).length) c ((j : Int)) (j) b4 o5 hA6 (rfl) (by omega) (T.pu 43 (.pointer (some ⟨b4, o5 + j * 22 + 4, none⟩)) (T.ld false 44 (.int .i64 ((((a.take 250)[j]'hl3)).signer)) 3 b4 (o5 + j * 22 + 4) (fun w h => cell_of_range (hr7 w h) 4 (by kernel_rfl)) (T.pi 45 (alk x) (T.pb 46 (((((a.take 250)[j]'hl3)).signer) == (alk x)) (T.pb 47 (((((a.take 250)[j]'hl3)).signer) == (alk x)) (T.blk [(8, false), (9, false), (10, false), (11, false), (12, false), (13, false), (14, false)] [(15, false)] 7 false (((((a.take 250)[j]'hl3)).signer) == (alk x)) 47 54 (.bool (((((a.take 250)[j]'hl3)).signer) == (alk y))) (by kernel_rfl) (by kernel_rfl) (by kernel_rfl) (fun hg8 => ?_) ?_))))))
  ·
   have hg8_ := hg8
   refine T.pu 48 (.slice A ((a.take 250).length) c) (T.pi 49 j ?_)
   obtain ⟨b9, o10, hA11, hr12⟩ := ((Rd.arr hr _).take _) j hl3
   refine T.ix 50 25 47 22 A ((a.take 250).length) c ((j : Int)) (j) b9 o10 hA11 (rfl) (by omega) (T.pu 51 (.pointer (some ⟨b9, o10 + j * 22 + 4, none⟩)) (T.ld false 52 (.int .i64 ((((a.take 250)[j]'hl3)).signer)) 3 b9 (o10 + j * 22 + 4) (fun w h => cell_of_range (hr12 w h) 4 (by kernel_rfl)) (T.pi 53 (alk y) (T.pb 54 (((((a.take 250)[j]'hl3)).signer) == (alk y)) ?_))))
   exact T.blkEnd (by kernel_rfl) (fun w h => h)
  refine T.oo 55 (((((a.take 250)[j]'hl3)).signer) == (alk x)) (((((a.take 250)[j]'hl3)).signer) == (alk y)) (T.nil (QN.seq (W.cd ((((((a.take 250)[j]'hl3)).signer) == (alk x)) || (((((a.take 250)[j]'hl3)).signer) == (alk y))) (fun h13 => ?_) (fun h13 => ?_))))
  ·
   refine W.seq (W.rg od2 (T.cp 56 43 #[] (.bool (true)) ent43 (fun w hw => awake16_c w) (fun _ _ => trivial) (T.pb 16 true (T.nil (QN.seq (W.ret (QN.blkRet (QN.thenRet (QN.thenRet (QN.blkRet (QN.thenRet (QN.done (.inl rfl) 16 (.bool (true)) rfl (by kernel_rfl) (fun w hw => ⟨?_, hw.below⟩)))))))))))))
   exact rfl
  ·
   have h13l := (Bool.or_eq_false_iff.1 h13).1
   have h13r := (Bool.or_eq_false_iff.1 h13).2
   refine W.skip (QN.blkNormal (QN.seq (W.rg od3 (T.pi 38 j (T.pe 39 (.int .i64 (IntKind.i64.wrap ((j : Int) + 1))) (.int .i64 ((j : Int) + 1)) (wrap_int (by omega) (by omega)) (T.pi 17 ((j : Int) + 1) (T.nil (QN.back (j + 1) ?_ ?_ (by kernel_rfl) (fun w h => h)))))))))
   ·
    show (j + 1) ≤ (a.take 250).length ∧ ((a.take 250).take (j + 1)).any (fun u => (u.signer == alk x) || (u.signer == alk y)) = false
    exact ⟨by omega, any_step hany (by omega) h13⟩
   · show (a.take 250).length - (j + 1) < (a.take 250).length - j; omega
 ·
  have h2' := of_decide_eq_false h2
  refine W.exit (QN.thenExit (QN.thenExit (QN.blkHit (QN.seq (W.seq (W.seq (W.rg od14 (T.pi 57 m (T.pi 58 (alk x) (T.pe 59 (.int .u64 (IntKind.u64.wrap (alk x))) (.int .u64 (alk x)) (wrapu_int (by omega) (by omega)) (T.shr 60 .i64 .u64 (m) (alk x) (.int .i64 (m / 2 ^ (alk x).toNat)) (by kernel_rfl) (by kernel_rfl) (by omega) (shr_i (by omega) (by omega)) (T.pi 61 (bits .and .i64 (m / 2 ^ (alk x).toNat) 1) (T.pe 62 (.bool ((bits .and .i64 (m / 2 ^ (alk x).toNat) 1) == 0)) (.bool (!(hasB m (alk x)))) (shr_no hm (by omega) (by omega)) (T.pb 63 (!(hasB m (alk x))) (T.blk [(7, false), (8, false), (9, false), (10, false), (11, false), (12, false)] [(13, false)] 6 false (!(hasB m (alk x))) 63 69 (.bool (!(hasB m (alk y)))) (by kernel_rfl) (by kernel_rfl) (by kernel_rfl) (fun hg14 => ?_) ?_)))))))))))))))
  ·
   have hg14_ := hg14
   have hg14n := not_eq_false hg14
   have hg14nb := hasB_lt hg14n
   refine T.pi 64 m (T.pi 65 (alk y) (T.pe 66 (.int .u64 (IntKind.u64.wrap (alk y))) (.int .u64 (alk y)) (wrapu_int (by omega) (by omega)) (T.shr 67 .i64 .u64 (m) (alk y) (.int .i64 (m / 2 ^ (alk y).toNat)) (by kernel_rfl) (by kernel_rfl) (by omega) (shr_i (by omega) (by omega)) (T.pi 68 (bits .and .i64 (m / 2 ^ (alk y).toNat) 1) (T.pe 69 (.bool ((bits .and .i64 (m / 2 ^ (alk y).toNat) 1) == 0)) (.bool (!(hasB m (alk y)))) (shr_no hm (by omega) (by omega)) ?_)))))
   exact T.blkEnd (by kernel_rfl) (fun w h => h)
  refine T.oo 70 (!(hasB m (alk x))) (!(hasB m (alk y))) (T.nil (QN.seq (W.cd ((!(hasB m (alk x))) || (!(hasB m (alk y)))) (fun h15 => ?_) (fun h15 => ?_))))
  ·
   refine W.seq (W.rg od2 (T.cp 71 43 #[] (.bool (true)) ent43 (fun w hw => awake16_c w) (fun _ _ => trivial) (T.pb 16 true (T.nil (QN.seq (W.ret (QN.thenRet (QN.done (.inl rfl) 16 (.bool (true)) rfl (by kernel_rfl) (fun w hw => ⟨?_, hw.below⟩)))))))))
   exact rfl
  ·
   have h15l := (Bool.or_eq_false_iff.1 h15).1
   have h15r := (Bool.or_eq_false_iff.1 h15).2
   have h15ln := not_eq_false h15l
   have h15lnb := hasB_lt h15ln
   have h15rn := not_eq_false h15r
   have h15rnb := hasB_lt h15rn
   refine W.skip (QN.seq (W.seq (W.rg od14 (T.pi 73 m (T.lr false 74 (p).cs 24 b1 0 (fun w h => St.rangeM h (p).cs (.head _) (by kernel_rfl)) (T.pu 75 (.slice A ((a.take 250).length) c) (T.pi 76 s (T.pi 77 (alk x) (T.pu 78 (.slice Ah ((hd.take 40).length) ch) (T.pb 79 wt (T.cp 80 41 #[.int .i64 m, .agg (p).cs, .slice A ((a.take 250).length) c, .int .i64 s, .int .i64 (alk x), .slice Ah ((hd.take 40).length) ch, .bool (wt)] (.tuple #[.agg (ox.getD Vt.zero).cs, .bool (ox.isSome)]) ent41 (fun w hw => by rw [hox]; exact agnext_c m p (a.take 250) s (alk x) (hd.take 40) wt A c Ah ch w (by first | assumption | exact w64_and _ _ | exact w64_or _ _ | exact w64_andNot _ _ | (unfold W64; omega)) (fun u hu => (hok u (List.mem_of_mem_take hu)).support) (by first | omega | (simp; done) | (simp; omega)) (Arr.rd ((Rd.arr hr _).take _) hw) (by first | omega | (simp; done) | (simp; omega)) (Arr.rd ((Rd.arr hrh _).take _) hw)) (fun _ _ => trivial) (T.pu 72 (.tuple #[.agg (ox.getD Vt.zero).cs, .bool (ox.isSome)]) (T.pu 81 (.agg (ox.getD Vt.zero).cs) (T.pb 82 ox.isSome (T.al 18 47 (Vt.zero).cs (fun _ _ _ => trivial) (fun b16 => T.sp 47 b16 0 (.agg (ox.getD Vt.zero).cs) (Vt.zero).cs (ox.getD Vt.zero).cs 47 pm0 (fun _ _ => trivial) (T.pb 19 ox.isSome (T.nil (QN.seq (W.seq (W.rg od14 (T.pi 84 m (T.lr false 85 (p).cs 24 b1 0 (fun w h => St.rangeM h (p).cs (.tail _ (.head _)) (by kernel_rfl)) (T.pu 86 (.slice A ((a.take 250).length) c) (T.pi 87 s (T.pi 88 (alk y) (T.pu 89 (.slice Ah ((hd.take 40).length) ch) (T.pb 90 wt (T.cp 91 41 #[.int .i64 m, .agg (p).cs, .slice A ((a.take 250).length) c, .int .i64 s, .int .i64 (alk y), .slice Ah ((hd.take 40).length) ch, .bool (wt)] (.tuple #[.agg (oy.getD Vt.zero).cs, .bool (oy.isSome)]) ent41 (fun w hw => by rw [hoy]; exact agnext_c m p (a.take 250) s (alk y) (hd.take 40) wt A c Ah ch w (by first | assumption | exact w64_and _ _ | exact w64_or _ _ | exact w64_andNot _ _ | (unfold W64; omega)) (fun u hu => (hok u (List.mem_of_mem_take hu)).support) (by first | omega | (simp; done) | (simp; omega)) (Arr.rd ((Rd.arr hr _).take _) hw) (by first | omega | (simp; done) | (simp; omega)) (Arr.rd ((Rd.arr hrh _).take _) hw)) (fun _ _ => trivial) (T.pu 83 (.tuple #[.agg (oy.getD Vt.zero).cs, .bool (oy.isSome)]) (T.pu 92 (.agg (oy.getD Vt.zero).cs) (T.pb 93 oy.isSome (T.al 20 47 (Vt.zero).cs (fun _ _ _ => trivial) (fun b17 => T.sp 47 b17 0 (.agg (oy.getD Vt.zero).cs) (Vt.zero).cs (oy.getD Vt.zero).cs 47 pm0 (fun _ _ => trivial) (T.pb 21 oy.isSome (T.nil (QN.seq (W.seq (W.seq (W.rg od1 (T.pb 94 ox.isSome (T.nil (QN.seq (W.cd (ox.isSome) (fun h18 => ?_) (fun h18 => ?_)))))))))))))))))))))))))))))))))))))))))))))
   ·
    refine W.rg od3 (T.pi 95 (alk y) (T.pu 96 (.pointer (some ⟨b16, 4, none⟩)) (T.sp 3 b16 4 (.int .i64 (alk y)) (ox.getD Vt.zero).cs (setSg (ox.getD Vt.zero) (alk y)).cs 47 pm1 (fun _ _ => trivial) (T.nil (QN.seq (W.seq (W.rg od12 (T.pb 97 ox.isSome (T.pb 98 oy.isSome (T.pb 99 (ox.isSome == oy.isSome) (T.pb 100 (ox.isSome == oy.isSome) (T.blk [(4, false), (5, false), (6, false)] [(7, false), (8, false), (9, false), (10, false), (11, false)] 3 true (ox.isSome == oy.isSome) 100 103 (.bool ((setSg (ox.getD Vt.zero) (alk y)) == (oy.getD Vt.zero))) (by kernel_rfl) (by kernel_rfl) (by kernel_rfl) (fun hg19 => ?_) ?_))))))))))))
    ·
     have hg19_ := hg19
     refine T.lr false 101 (setSg (ox.getD Vt.zero) (alk y)).cs 47 b16 0 (fun w h => St.rangeM h (setSg (ox.getD Vt.zero) (alk y)).cs (.head _) (by kernel_rfl)) (T.lr false 102 (oy.getD Vt.zero).cs 47 b17 0 (fun w h => St.rangeM h (oy.getD Vt.zero).cs (.tail _ (.head _)) (by kernel_rfl)) (T.eqq 103 ((setSg (ox.getD Vt.zero) (alk y)) == (oy.getD Vt.zero)) ((setSg (ox.getD Vt.zero) (alk y)) == (oy.getD Vt.zero)) false 47 (setSg (ox.getD Vt.zero) (alk y)).cs (oy.getD Vt.zero).cs (by kernel_rfl) (by kernel_rfl) (by kernel_rfl) (by kernel_rfl) (fun w => eq_vt w (setSg (ox.getD Vt.zero) (alk y)) (oy.getD Vt.zero)) ?_))
     exact T.blkEnd (by kernel_rfl) (fun w h => h)
    refine T.an 104 (ox.isSome == oy.isSome) ((setSg (ox.getD Vt.zero) (alk y)) == (oy.getD Vt.zero)) (T.pb 105 ((ox.isSome == oy.isSome) && ((setSg (ox.getD Vt.zero) (alk y)) == (oy.getD Vt.zero))) (T.blk [(9, false)] [(10, false), (11, false)] 8 true ((ox.isSome == oy.isSome) && ((setSg (ox.getD Vt.zero) (alk y)) == (oy.getD Vt.zero))) 105 106 (.bool (true)) (by kernel_rfl) (by kernel_rfl) (by kernel_rfl) (fun hg20 => ?_) ?_))
    ·
     have hg20_ := hg20
     have hg20l := (Bool.and_eq_true_iff.1 hg20).1
     have hg20r := (Bool.and_eq_true_iff.1 hg20).2
     refine T.cp 106 43 #[] (.bool (true)) ent43 (fun w hw => awake16_c w) (fun _ _ => trivial) ?_
     exact T.blkEnd (by kernel_rfl) (fun w h => h)
    refine T.an 107 ((ox.isSome == oy.isSome) && ((setSg (ox.getD Vt.zero) (alk y)) == (oy.getD Vt.zero))) (true) (T.pb 16 (((ox.isSome == oy.isSome) && ((setSg (ox.getD Vt.zero) (alk y)) == (oy.getD Vt.zero))) && true) (T.nil (QN.seq (W.ret (QN.done (.inl rfl) 16 (.bool (((ox.isSome == oy.isSome) && ((setSg (ox.getD Vt.zero) (alk y)) == (oy.getD Vt.zero))) && true)) rfl (by kernel_rfl) (fun w hw => ⟨?_, hw.below⟩))))))
    exact ret_bool (alike_t hox hoy (any_end hany (by omega)) h15 h18)
   ·
    refine W.skip (QN.seq (W.seq (W.rg od12 (T.pb 97 ox.isSome (T.pb 98 oy.isSome (T.pb 99 (ox.isSome == oy.isSome) (T.pb 100 (ox.isSome == oy.isSome) (T.blk [(4, false), (5, false), (6, false)] [(7, false), (8, false), (9, false), (10, false), (11, false)] 3 true (ox.isSome == oy.isSome) 100 103 (.bool ((ox.getD Vt.zero) == (oy.getD Vt.zero))) (by kernel_rfl) (by kernel_rfl) (by kernel_rfl) (fun hg21 => ?_) ?_))))))))
    ·
     have hg21_ := hg21
     refine T.lr false 101 (ox.getD Vt.zero).cs 47 b16 0 (fun w h => St.rangeM h (ox.getD Vt.zero).cs (.tail _ (.head _)) (by kernel_rfl)) (T.lr false 102 (oy.getD Vt.zero).cs 47 b17 0 (fun w h => St.rangeM h (oy.getD Vt.zero).cs (.head _) (by kernel_rfl)) (T.eqq 103 ((ox.getD Vt.zero) == (oy.getD Vt.zero)) ((ox.getD Vt.zero) == (oy.getD Vt.zero)) false 47 (ox.getD Vt.zero).cs (oy.getD Vt.zero).cs (by kernel_rfl) (by kernel_rfl) (by kernel_rfl) (by kernel_rfl) (fun w => eq_vt w (ox.getD Vt.zero) (oy.getD Vt.zero)) ?_))
     exact T.blkEnd (by kernel_rfl) (fun w h => h)
    refine T.an 104 (ox.isSome == oy.isSome) ((ox.getD Vt.zero) == (oy.getD Vt.zero)) (T.pb 105 ((ox.isSome == oy.isSome) && ((ox.getD Vt.zero) == (oy.getD Vt.zero))) (T.blk [(9, false)] [(10, false), (11, false)] 8 true ((ox.isSome == oy.isSome) && ((ox.getD Vt.zero) == (oy.getD Vt.zero))) 105 106 (.bool (true)) (by kernel_rfl) (by kernel_rfl) (by kernel_rfl) (fun hg22 => ?_) ?_))
    ·
     have hg22_ := hg22
     have hg22l := (Bool.and_eq_true_iff.1 hg22).1
     have hg22r := (Bool.and_eq_true_iff.1 hg22).2
     refine T.cp 106 43 #[] (.bool (true)) ent43 (fun w hw => awake16_c w) (fun _ _ => trivial) ?_
     exact T.blkEnd (by kernel_rfl) (fun w h => h)
    refine T.an 107 ((ox.isSome == oy.isSome) && ((ox.getD Vt.zero) == (oy.getD Vt.zero))) (true) (T.pb 16 (((ox.isSome == oy.isSome) && ((ox.getD Vt.zero) == (oy.getD Vt.zero))) && true) (T.nil (QN.seq (W.ret (QN.done (.inl rfl) 16 (.bool (((ox.isSome == oy.isSome) && ((ox.getD Vt.zero) == (oy.getD Vt.zero))) && true)) rfl (by kernel_rfl) (fun w hw => ⟨?_, hw.below⟩))))))
    exact ret_bool (alike_f hox hoy (any_end hany (by omega)) h15 h18)
theorem AgreementAlike_w (w : World) (a0 : Int) (v1 : Value) (x1 : Nm) (v2 : Value) (x2 : List Vt) (a3 : Int) (a4 : Int) (a5 : Int) (v6 : Value) (x6 : List Nm) (a7 : Bool) (h0 : W64 a0) (h1 : v1 = .agg x1.cs) (h2 : VS w v2 x2) (h3 : W64 a3) (h4 : W64 a4) (h5 : W64 a5) (h6 : GS (fun _ => True) w v6 x6) : Calls Tryz.prog 10 #[.int .i64 a0, v1, v2, .int .i64 a3, .int .i64 a4, .int .i64 a5, v6, .bool a7] w fun e w' => e = .returned (.bool true) ∧ Below w.heap.size w w' := by
  obtain rfl := h1
  obtain ⟨A2, c2, rfl, l2, m2, r2, k2⟩ := h2
  obtain ⟨A6, c6, rfl, l6, m6, r6, k6⟩ := h6
  exact AgreementAlike_c _ _ _ _ _ _ _ _ _ _ _ _ w h0 k2 l2 m2 r2.rd l6 m6 r6
end Go.Proofs.YtnjkbgcfpbbglaaGreat
