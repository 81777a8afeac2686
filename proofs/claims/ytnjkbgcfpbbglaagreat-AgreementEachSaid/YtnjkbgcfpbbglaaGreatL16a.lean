/- The helpers of the laws of the agreement. -/
import Derived.Test.YtnjkbgcfpbbglaaGreatL16p
namespace Go.Proofs.YtnjkbgcfpbbglaaGreat
open Go Go.RowKit
set_option linter.unusedVariables false

theorem take_allcut16_c {α : Type} {l : List α} (h : ¬ (250 : Int) < (l.length : Int)) : (l.take 250).length = l.length := by simp; omega
set_option maxRecDepth 100000 in
set_option maxHeartbeats 2000000 in
theorem cut16_c (l : List Vt) (A : Option Addr) (c : Nat) (w : World) (h1 : l.length ≤ c) (h2 : c ≤ maxLen) (hr : Rd w A l) : Calls Tryz.prog 39 #[.slice A l.length c] w (fun rr w' => rr = .returned (.slice A ((l.take 250).length) c) ∧ Below w.heap.size w w') := by
 refine calls_W (n := 9) Tryz.func39 rfl [(0, .slice A l.length c)] rfl ⟨by kernel_rfl, by kernel_rfl⟩ (W.weak (Ψ := St w []) (fun w' h => by rw [h]; exact St.start w) (W.seq (W.rg od1 (T.pu 2 (.slice none 0 0) (T.nil (QN.seq (W.seq (W.seq (W.rg od3 (T.pu 3 (.slice A l.length c) (T.pi 4 ((l.length : Nat) : Int) (T.pb 5 (decide (250 < ((l.length : Nat) : Int))) (T.nil (QN.seq (W.cd (decide (250 < ((l.length : Nat) : Int))) (fun h1 => ?_) (fun h1 => ?_))))))))))))))))
 ·
  have h1' := of_decide_eq_true h1
  refine W.seq (W.rg od3 (T.pu 6 (.slice A l.length c) ?_))
  have hsl2 : (l.take 250).length = 250 := by first | (simp; done) | (simp; omega)
  refine T.sliceTo 7 25 47 A l.length c 250 ((l.take 250).length) (by kernel_rfl) (by kernel_rfl) (by kernel_rfl) (by kernel_rfl) (by omega) (by omega) (T.pu 2 (.slice A ((l.take 250).length) c) (T.nil (QN.seq (W.ret (QN.thenRet (QN.done (.inl rfl) 2 (.slice A ((l.take 250).length) c) rfl (by kernel_rfl) (fun w hw => ⟨?_, hw.below⟩)))))))
  exact rfl
 ·
  have h1' := of_decide_eq_false h1
  refine W.skip (QN.seq (W.seq (W.rg od2 (T.pu 8 (.slice A l.length c) (T.pu 2 (.slice A l.length c) (T.nil (QN.seq (W.ret (QN.done (.inl rfl) 2 (.slice A l.length c) rfl (by kernel_rfl) (fun w hw => ⟨?_, hw.below⟩))))))))))
  exact congrArg (fun n => Ending.returned (.slice A n c)) (take_allcut16_c (by omega)).symm
theorem take_allfew16_c {α : Type} {l : List α} (h : ¬ (40 : Int) < (l.length : Int)) : (l.take 40).length = l.length := by simp; omega
set_option maxRecDepth 100000 in
set_option maxHeartbeats 2000000 in
theorem few16_c (l : List Nm) (A : Option Addr) (c : Nat) (w : World) (h1 : l.length ≤ c) (h2 : c ≤ maxLen) (hr : Rd w A l) : Calls Tryz.prog 40 #[.slice A l.length c] w (fun rr w' => rr = .returned (.slice A ((l.take 40).length) c) ∧ Below w.heap.size w w') := by
 refine calls_W (n := 9) Tryz.func40 rfl [(0, .slice A l.length c)] rfl ⟨by kernel_rfl, by kernel_rfl⟩ (W.weak (Ψ := St w []) (fun w' h => by rw [h]; exact St.start w) (W.seq (W.rg od1 (T.pu 2 (.slice none 0 0) (T.nil (QN.seq (W.seq (W.seq (W.rg od3 (T.pu 3 (.slice A l.length c) (T.pi 4 ((l.length : Nat) : Int) (T.pb 5 (decide (40 < ((l.length : Nat) : Int))) (T.nil (QN.seq (W.cd (decide (40 < ((l.length : Nat) : Int))) (fun h1 => ?_) (fun h1 => ?_))))))))))))))))
 ·
  have h1' := of_decide_eq_true h1
  refine W.seq (W.rg od3 (T.pu 6 (.slice A l.length c) ?_))
  have hsl2 : (l.take 40).length = 40 := by first | (simp; done) | (simp; omega)
  refine T.sliceTo 7 28 24 A l.length c 40 ((l.take 40).length) (by kernel_rfl) (by kernel_rfl) (by kernel_rfl) (by kernel_rfl) (by omega) (by omega) (T.pu 2 (.slice A ((l.take 40).length) c) (T.nil (QN.seq (W.ret (QN.thenRet (QN.done (.inl rfl) 2 (.slice A ((l.take 40).length) c) rfl (by kernel_rfl) (fun w hw => ⟨?_, hw.below⟩)))))))
  exact rfl
 ·
  have h1' := of_decide_eq_false h1
  refine W.skip (QN.seq (W.seq (W.rg od2 (T.pu 8 (.slice A l.length c) (T.pu 2 (.slice A l.length c) (T.nil (QN.seq (W.ret (QN.done (.inl rfl) 2 (.slice A l.length c) rfl (by kernel_rfl) (fun w hw => ⟨?_, hw.below⟩))))))))))
  exact congrArg (fun n => Ending.returned (.slice A n c)) (take_allfew16_c (by omega)).symm
set_option maxRecDepth 100000 in
set_option maxHeartbeats 2000000 in
theorem awake16_c (w : World) : Calls Tryz.prog 43 #[] w (fun rr w' => rr = .returned (.bool true) ∧ Below w.heap.size w w') := by
 refine calls_W (n := 25) Tryz.func43 rfl [] rfl ⟨by kernel_rfl, by kernel_rfl⟩ (W.weak (Ψ := St w []) (fun w' h => by rw [h]; exact St.start w) (W.seq (W.rg od1 (T.pb 0 false (T.nil (QN.seq (W.seq (W.rg od8 (T.pu 6 (.agg Nm.zero.cs) (T.cp 7 41 #[.int .i64 15, .agg Nm.zero.cs, .slice none 0 0, .int .i64 0, .int .i64 1, .slice none 0 0, .bool true] (.tuple #[.agg ((nextN 15 Nm.zero ([]) 0 1 ([]) true).getD Vt.zero).cs, .bool ((nextN 15 Nm.zero ([]) 0 1 ([]) true).isSome)]) ent41 (fun w hw => agnext_c 15 Nm.zero ([]) 0 1 ([]) true none 0 none 0 w (by first | assumption | exact w64_and _ _ | exact w64_or _ _ | exact w64_andNot _ _ | (unfold W64; omega)) (fun u hu => by cases hu) (by first | omega | (simp; done) | (simp; omega)) (Arr.rd (Arr.nil _) hw) (by first | omega | (simp; done) | (simp; omega)) (Arr.rd (Arr.nil _) hw)) tv2 (T.pu 5 (.tuple #[.agg ((nextN 15 Nm.zero ([]) 0 1 ([]) true).getD Vt.zero).cs, .bool ((nextN 15 Nm.zero ([]) 0 1 ([]) true).isSome)]) (T.pu 8 (.agg ((nextN 15 Nm.zero ([]) 0 1 ([]) true).getD Vt.zero).cs) (T.pb 9 ((nextN 15 Nm.zero ([]) 0 1 ([]) true).isSome) (T.al 1 47 Vt.zero.cs tv3 (fun b1 => T.sp 47 b1 0 (.agg ((nextN 15 Nm.zero ([]) 0 1 ([]) true).getD Vt.zero).cs) Vt.zero.cs ((nextN 15 Nm.zero ([]) 0 1 ([]) true).getD Vt.zero).cs 47 pm0 tv2 (T.pb 2 ((nextN 15 Nm.zero ([]) 0 1 ([]) true).isSome) (T.nil (QN.seq (W.seq (W.rg od8 (T.pu 11 (.agg Nm.zero.cs) (T.cp 12 41 #[.int .i64 15, .agg Nm.zero.cs, .slice none 0 0, .int .i64 0, .int .i64 1, .slice none 0 0, .bool false] (.tuple #[.agg ((nextN 15 Nm.zero ([]) 0 1 ([]) false).getD Vt.zero).cs, .bool ((nextN 15 Nm.zero ([]) 0 1 ([]) false).isSome)]) ent41 (fun w hw => agnext_c 15 Nm.zero ([]) 0 1 ([]) false none 0 none 0 w (by first | assumption | exact w64_and _ _ | exact w64_or _ _ | exact w64_andNot _ _ | (unfold W64; omega)) (fun u hu => by cases hu) (by first | omega | (simp; done) | (simp; omega)) (Arr.rd (Arr.nil _) hw) (by first | omega | (simp; done) | (simp; omega)) (Arr.rd (Arr.nil _) hw)) tv2 (T.pu 10 (.tuple #[.agg ((nextN 15 Nm.zero ([]) 0 1 ([]) false).getD Vt.zero).cs, .bool ((nextN 15 Nm.zero ([]) 0 1 ([]) false).isSome)]) (T.pu 13 (.agg ((nextN 15 Nm.zero ([]) 0 1 ([]) false).getD Vt.zero).cs) (T.pb 14 ((nextN 15 Nm.zero ([]) 0 1 ([]) false).isSome) (T.al 3 47 Vt.zero.cs tv3 (fun b2 => T.sp 47 b2 0 (.agg ((nextN 15 Nm.zero ([]) 0 1 ([]) false).getD Vt.zero).cs) Vt.zero.cs ((nextN 15 Nm.zero ([]) 0 1 ([]) false).getD Vt.zero).cs 47 pm0 tv2 (T.pb 4 ((nextN 15 Nm.zero ([]) 0 1 ([]) false).isSome) (T.nil (QN.seq (W.seq (W.rg od11 (T.pb 15 ((nextN 15 Nm.zero ([]) 0 1 ([]) true).isSome) (T.pb 16 ((nextN 15 Nm.zero ([]) 0 1 ([]) true).isSome) (T.bk [(2, false), (3, false)] [(4, false), (5, false), (6, false), (7, false), (8, false), (9, false), (10, false)] 1 true ((nextN 15 Nm.zero ([]) 0 1 ([]) true).isSome) 16 18 (.bool (!((nextN 15 Nm.zero ([]) 0 1 ([]) false).isSome))) (fun hg3 => ?_) ?_)))))))))))))))))))))))))))))))))))
 ·
  have hg3_ := hg3
  refine T.pb 17 ((nextN 15 Nm.zero ([]) 0 1 ([]) false).isSome) (T.pb 18 (!((nextN 15 Nm.zero ([]) 0 1 ([]) false).isSome)) ?_)
  exact T.blkEnd (by kernel_rfl) (fun w h => h)
 refine T.an 19 ((nextN 15 Nm.zero ([]) 0 1 ([]) true).isSome) (!((nextN 15 Nm.zero ([]) 0 1 ([]) false).isSome)) (T.pb 20 (((nextN 15 Nm.zero ([]) 0 1 ([]) true).isSome) && (!((nextN 15 Nm.zero ([]) 0 1 ([]) false).isSome))) (T.bk [(6, false), (7, false), (8, false)] [(9, false), (10, false)] 5 true (((nextN 15 Nm.zero ([]) 0 1 ([]) true).isSome) && (!((nextN 15 Nm.zero ([]) 0 1 ([]) false).isSome))) 20 23 (.bool (((nextN 15 Nm.zero ([]) 0 1 ([]) true).getD Vt.zero) == (⟨3, 0, 1, 0, 1, 0, Nm.zero, Nm.zero⟩ : Vt))) (fun hg4 => ?_) ?_))
 ·
  have hg4_ := hg4
  have hg4l := (Bool.and_eq_true_iff.1 hg4).1
  have hg4r := (Bool.and_eq_true_iff.1 hg4).2
  have hg4rn := not_eq_true hg4r
  refine T.lr false 21 ((nextN 15 Nm.zero ([]) 0 1 ([]) true).getD Vt.zero).cs 47 b1 0 (fun w h => St.rangeM h ((nextN 15 Nm.zero ([]) 0 1 ([]) true).getD Vt.zero).cs mm1 (by kernel_rfl)) (T.pu 22 (.agg (⟨3, 0, 1, 0, 1, 0, Nm.zero, Nm.zero⟩ : Vt).cs) (T.eqq 23 (((nextN 15 Nm.zero ([]) 0 1 ([]) true).getD Vt.zero) == (⟨3, 0, 1, 0, 1, 0, Nm.zero, Nm.zero⟩ : Vt)) (((nextN 15 Nm.zero ([]) 0 1 ([]) true).getD Vt.zero) == (⟨3, 0, 1, 0, 1, 0, Nm.zero, Nm.zero⟩ : Vt)) false 47 ((nextN 15 Nm.zero ([]) 0 1 ([]) true).getD Vt.zero).cs (⟨3, 0, 1, 0, 1, 0, Nm.zero, Nm.zero⟩ : Vt).cs (by kernel_rfl) (by kernel_rfl) (by kernel_rfl) (by kernel_rfl) (fun w => eq_vt w ((nextN 15 Nm.zero ([]) 0 1 ([]) true).getD Vt.zero) (⟨3, 0, 1, 0, 1, 0, Nm.zero, Nm.zero⟩ : Vt)) ?_))
  exact T.blkEnd (by kernel_rfl) (fun w h => h)
 refine T.an 24 (((nextN 15 Nm.zero ([]) 0 1 ([]) true).isSome) && (!((nextN 15 Nm.zero ([]) 0 1 ([]) false).isSome))) (((nextN 15 Nm.zero ([]) 0 1 ([]) true).getD Vt.zero) == (⟨3, 0, 1, 0, 1, 0, Nm.zero, Nm.zero⟩ : Vt)) (T.pb 0 ((((nextN 15 Nm.zero ([]) 0 1 ([]) true).isSome) && (!((nextN 15 Nm.zero ([]) 0 1 ([]) false).isSome))) && (((nextN 15 Nm.zero ([]) 0 1 ([]) true).getD Vt.zero) == (⟨3, 0, 1, 0, 1, 0, Nm.zero, Nm.zero⟩ : Vt))) (T.nil (QN.seq (W.ret (QN.done (.inl rfl) 0 (.bool ((((nextN 15 Nm.zero ([]) 0 1 ([]) true).isSome) && (!((nextN 15 Nm.zero ([]) 0 1 ([]) false).isSome))) && (((nextN 15 Nm.zero ([]) 0 1 ([]) true).getD Vt.zero) == (⟨3, 0, 1, 0, 1, 0, Nm.zero, Nm.zero⟩ : Vt)))) rfl (by kernel_rfl) (fun w hw => ⟨?_, hw.below⟩))))))
 exact ret_bool (by decide +kernel)
end Go.Proofs.YtnjkbgcfpbbglaaGreat
