/- The walk of AgreementEach. -/
import Derived.Test.YtnjkbgcfpbbglaaGreatL16a
import Derived.Test.YtnjkbgcfpbbglaaGreatRn
import Derived.Test.YtnjkbgcfpbbglaaGreatOpenG
namespace Go.Proofs.YtnjkbgcfpbbglaaGreat
open Go Go.RowKit
set_option linter.unusedVariables false

set_option maxRecDepth 100000 in
set_option maxHeartbeats 2000000 in
theorem AgreementEach_c (m : Int) (p : Nm) (a : List Vt) (wt : Bool) (A : Option Addr) (c : Nat) (w : World) (hm : W64 m) (hok : ∀ u ∈ a, u.Ok) (h1 : a.length ≤ c) (h2 : c ≤ maxLen) (hr : Rd w A a) : Calls Tryz.prog 8 #[.int .i64 m, .agg p.cs, .slice A a.length c, .bool wt] w (fun rr w' => rr = .returned (.bool true) ∧ Below w.heap.size w w') := by
 have ht : (a.take 250).length ≤ 250 := List.length_take_le _ _
 refine calls_W (n := 78) Tryz.func8 rfl [(0, .int .i64 m), (1, .agg p.cs), (2, .slice A a.length c), (3, .bool wt)] rfl ⟨by kernel_rfl, by kernel_rfl⟩ (W.weak (Ψ := St w []) (fun w' h => by rw [h]; exact St.start w) (W.seq (W.rg od2 (T.bx 5 24 (.agg p.cs) (p.cs) tv3 (fun b1 => T.pb 8 false (T.nil (QN.seq (W.seq (W.rg od3 (T.pu 17 (.slice A a.length c) (T.cp 18 39 #[.slice A a.length c] (.slice A ((a.take 250).length) c) ent39 (fun w hw => cut16_c a A c w h1 h2 (Arr.rd (Rd.arr hr _) hw)) tv2 (T.pu 2 (.slice A ((a.take 250).length) c) (T.nil (QN.seq (W.seq (W.rg od1 (T.pu 9 (.slice none 0 0) (T.nil (QN.seq (W.seq (W.seq (W.rg od1 (T.pi 10 0 (T.nil (QN.seq (W.block (W.loop (σ := Nat × List Nm × Option Addr × Nat × List (Nat × Obj)) (fun gs => gs.1 ≤ (a.take 250).length ∧ gs.2.1.length ≤ gs.1 ∧ RowIs 24 8 gs.2.2.1 gs.2.1.length gs.2.2.2.1 (cells gs.2.1) gs.2.2.2.2) (fun gs => [(0, .int .i64 m), (2, .slice A ((a.take 250).length) c), (3, .bool wt), (5, .pointer (some ⟨b1, 0, none⟩)), (8, .bool false), (9, .slice gs.2.2.1 gs.2.1.length gs.2.2.2.1), (10, .int .i64 (gs.1 : Int))]) (fun gs => St w (gs.2.2.2.2 ++ [(b1, Obj.cells p.cs 24 (0, 0))])) (fun gs => (a.take 250).length - gs.1) (0, [], none, 0, []) ?_ (by kernel_rfl) (fun w h => h) ?_)))))))))))))))))))))))))))
 ·
  try dsimp only
  exact ⟨Nat.zero_le _, Nat.le_refl _, RowIs.nil⟩
 rintro ⟨k, hd, A9, c9, Hr9⟩ hI_
 obtain ⟨hk, hhl, hrow9⟩ : k ≤ (a.take 250).length ∧ hd.length ≤ k ∧ RowIs 24 8 A9 hd.length c9 (cells hd) Hr9 := hI_
 refine W.seq (W.seq (W.rg od4 (T.pi 19 k (T.pu 20 (.slice A ((a.take 250).length) c) (T.pi 21 (((a.take 250).length : Nat) : Int) (T.pb 22 (decide ((k : Int) < (((a.take 250).length : Nat) : Int))) (T.nil (QN.seq (W.cd (decide ((k : Int) < (((a.take 250).length : Nat) : Int))) (fun h2 => ?_) (fun h2 => ?_))))))))))
 ·
  have h2' := of_decide_eq_true h2
  have hl3 : k < (a.take 250).length := by omega
  refine W.skip (QN.seq (W.seq (W.block (W.seq (W.rg od6 (T.pu 25 (.slice A ((a.take 250).length) c) (T.pi 26 k ?_)))))))
  obtain ⟨b4, o5, hA6, hr7⟩ := ((Rd.arr hr _).take _) k hl3
  refine T.ix 27 25 47 22 A ((a.take 250).length) c (k : Int) k b4 o5 hA6 rfl (by omega) (T.pu 28 (.pointer (some ⟨b4, o5 + k * 22, none⟩)) (T.ld false 29 (.int .i64 (((a.take 250)[k]'hl3).kind)) 3 b4 (o5 + k * 22) (fun w h => cell_of_range (hr7 w h) 0 (by kernel_rfl)) (T.pb 30 ((((a.take 250)[k]'hl3).kind) == 1) (T.nil (QN.seq (W.cd ((((a.take 250)[k]'hl3).kind) == 1) (fun h8 => ?_) (fun h8 => ?_)))))))
  ·
   refine W.rg od9 (T.pu 31 (.slice A9 hd.length c9) (T.pu 32 (.slice A ((a.take 250).length) c) (T.pi 33 k ?_)))
   obtain ⟨b9, o10, hA11, hr12⟩ := ((Rd.arr hr _).take _) k hl3
   refine T.ix 34 25 47 22 A ((a.take 250).length) c (k : Int) k b9 o10 hA11 rfl (by omega) (T.pu 35 (.pointer (some ⟨b9, o10 + k * 22 + 14, none⟩)) (T.lr false 36 (((a.take 250)[k]'hl3).val).cs 24 b9 (o10 + k * 22 + 14) (fun w h => range_of_range (hr12 w h) 14 (((a.take 250)[k]'hl3).val).cs (by kernel_rfl)) (T.lit 37 28 24 1 #[(0, .agg (((a.take 250)[k]'hl3).val).cs)] (cells ([((a.take 250)[k]'hl3).val] : List Nm)).toArray (by kernel_rfl) (by kernel_rfl) (by kernel_rfl) (by kernel_rfl) tv3 (fun b13 => T.appC 38 28 24 8 A9 c9 (hd : List Nm) Hr9 b13 0 1 ([((a.take 250)[k]'hl3).val] : List Nm) ((pm0.cons _).trans List.perm_middle.symm) (by kernel_rfl) (by kernel_rfl) (by kernel_rfl) (by kernel_rfl) hrow9 (fun w h => St.rangeM h (cells ([((a.take 250)[k]'hl3).val] : List Nm)).toArray (List.mem_append_right _ mm0) (by kernel_rfl)) (by unfold maxLen; first | omega | (simp; omega)) (by first | omega | (simp; omega)) tv3 (fun A14 c15 Hr16 hrow17 => T.pu 9 (.slice A14 ((hd ++ ([((a.take 250)[k]'hl3).val])).length) c15) (T.nil (QN.blkNormal (QN.seq (W.rg od3 (T.pi 23 k (T.pw 24 ((k : Int) + 1) (T.pi 10 ((k : Int) + 1) (T.nil (QN.back (k + 1, hd ++ ([((a.take 250)[k]'hl3).val]), A14, c15, Hr16) ?_ ?_ (by kernel_rfl) (fun w h => (h.perm (pm0.trans (pm1.append_left Hr16))).part (List.Sublist.append (List.Sublist.refl _) ns1))))))))))))))))
   ·
    try dsimp only
    exact ⟨by omega, by rw [List.length_append, List.length_singleton]; omega, hrow17⟩
   · show (a.take 250).length - _ < (a.take 250).length - _; omega
  ·
   refine W.skip (QN.blkNormal (QN.seq (W.rg od3 (T.pi 23 k (T.pw 24 ((k : Int) + 1) (T.pi 10 ((k : Int) + 1) (T.nil (QN.back (k + 1, hd, A9, c9, Hr9) ?_ ?_ (by kernel_rfl) (fun w h => h)))))))))
   ·
    try dsimp only
    exact ⟨by omega, by omega, hrow9⟩
   · show (a.take 250).length - _ < (a.take 250).length - _; omega
 ·
  have h2' := of_decide_eq_false h2
  refine W.exit (QN.thenExit (QN.thenExit (QN.blkHit (QN.seq (W.seq (W.seq (W.rg od1 (T.pi 11 0 (T.nil (QN.seq (W.block (W.loop (σ := Nat) (fun gs => gs ≤ 4 ∧ True) (fun gs => [(0, .int .i64 m), (2, .slice A ((a.take 250).length) c), (3, .bool wt), (5, .pointer (some ⟨b1, 0, none⟩)), (9, .slice A9 hd.length c9), (11, .int .i64 gs)]) (fun gs => St w (Hr9 ++ [(b1, Obj.cells p.cs 24 (0, 0))])) (fun gs => 4 - gs) 0 ?_ (by kernel_rfl) (fun w h => h) ?_))))))))))))
  ·
   try dsimp only
   exact ⟨by omega, trivial⟩
  rintro x hI_
  obtain ⟨hx, _⟩ : x ≤ 4 ∧ True := hI_
  refine W.seq (W.seq (W.rg od2 (T.pi 39 x (T.pb 40 (decide ((x : Int) < 4)) (T.nil (QN.seq (W.cd (decide ((x : Int) < 4)) (fun h18 => ?_) (fun h18 => ?_))))))))
  ·
   have h18' := of_decide_eq_true h18
   refine W.skip (QN.seq (W.seq (W.block (W.seq (W.rg od1 (T.pi 12 0 (T.nil (QN.seq (W.block (W.loop (σ := Nat) (fun gs => gs ≤ 4 ∧ True) (fun gs => [(0, .int .i64 m), (2, .slice A ((a.take 250).length) c), (3, .bool wt), (5, .pointer (some ⟨b1, 0, none⟩)), (9, .slice A9 hd.length c9), (11, .int .i64 x), (12, .int .i64 gs), (39, .int .i64 x), (40, .bool (decide ((x : Int) < 4)))]) (fun gs => St w (Hr9 ++ [(b1, Obj.cells p.cs 24 (0, 0))])) (fun gs => 4 - gs) 0 ?_ (by kernel_rfl) (fun w h => h) ?_))))))))))
   ·
    try dsimp only
    exact ⟨by omega, trivial⟩
   rintro y hI_
   obtain ⟨hy, _⟩ : y ≤ 4 ∧ True := hI_
   refine W.seq (W.seq (W.rg od2 (T.pi 43 y (T.pb 44 (decide ((y : Int) < 4)) (T.nil (QN.seq (W.cd (decide ((y : Int) < 4)) (fun h19 => ?_) (fun h19 => ?_))))))))
   ·
    have h19' := of_decide_eq_true h19
    refine W.skip (QN.seq (W.seq (W.block (W.seq (W.rg od14 (T.pi 48 m (T.lr false 49 p.cs 24 b1 0 (fun w h => St.rangeM h p.cs (List.mem_append_right _ mm0) (by kernel_rfl)) (T.pu 50 (.slice A ((a.take 250).length) c) (T.pi 51 x (T.pi 52 y (T.pu 53 (.slice A9 hd.length c9) (T.pb 54 wt (T.cp 55 41 #[.int .i64 m, .agg p.cs, .slice A ((a.take 250).length) c, .int .i64 x, .int .i64 y, .slice A9 hd.length c9, .bool wt] (.tuple #[.agg ((nextN m p (a.take 250) (x : Int) (y : Int) hd wt).getD Vt.zero).cs, .bool ((nextN m p (a.take 250) (x : Int) (y : Int) hd wt).isSome)]) ent41 (fun w hw => agnext_c m p (a.take 250) (x : Int) (y : Int) hd wt A c A9 c9 w (by assumption) (fun u hu => (hok u (List.mem_of_mem_take hu)).support) (by first | omega | (simp; done) | (simp; omega)) (Arr.rd ((Rd.arr hr _).take _) hw) (by first | omega | (simp; done) | (simp; omega)) (Arr.rd (Arr.row hrow9 rfl rfl _) hw)) tv2 (T.pu 47 (.tuple #[.agg ((nextN m p (a.take 250) (x : Int) (y : Int) hd wt).getD Vt.zero).cs, .bool ((nextN m p (a.take 250) (x : Int) (y : Int) hd wt).isSome)]) (T.pu 56 (.agg ((nextN m p (a.take 250) (x : Int) (y : Int) hd wt).getD Vt.zero).cs) (T.pb 57 ((nextN m p (a.take 250) (x : Int) (y : Int) hd wt).isSome) (T.al 13 47 Vt.zero.cs tv3 (fun b20 => T.sp 47 b20 0 (.agg ((nextN m p (a.take 250) (x : Int) (y : Int) hd wt).getD Vt.zero).cs) Vt.zero.cs ((nextN m p (a.take 250) (x : Int) (y : Int) hd wt).getD Vt.zero).cs 47 pm0 tv2 (T.pb 14 ((nextN m p (a.take 250) (x : Int) (y : Int) hd wt).isSome) (T.nil (QN.seq (W.seq (W.rg od14 (T.pi 59 m (T.lr false 60 p.cs 24 b1 0 (fun w h => St.rangeM h p.cs (.tail _ (List.mem_append_right _ mm0)) (by kernel_rfl)) (T.pu 61 (.slice A ((a.take 250).length) c) (T.pi 62 x (T.pi 63 y (T.pu 64 (.slice A9 hd.length c9) (T.pb 65 wt (T.cp 66 42 #[.int .i64 m, .agg p.cs, .slice A ((a.take 250).length) c, .int .i64 x, .int .i64 y, .slice A9 hd.length c9, .bool wt] (.tuple #[.agg ((nextN m p (a.take 250) (x : Int) (y : Int) hd wt).getD Vt.zero).cs, .bool ((nextN m p (a.take 250) (x : Int) (y : Int) hd wt).isSome)]) ent42 (fun w hw => rnextall_c m p (a.take 250) (x : Int) (y : Int) hd wt A c A9 c9 w (by assumption) (fun u hu => (hok u (List.mem_of_mem_take hu)).support) (by first | omega | (simp; done) | (simp; omega)) (Arr.rd ((Rd.arr hr _).take _) hw) (by first | omega | (simp; done) | (simp; omega)) (Arr.rd (show Arr (St _ ((b20, Obj.cells ((nextN m p (a.take 250) (x : Int) (y : Int) hd wt).getD Vt.zero).cs 47 (0, 0)) :: (Hr9 ++ [(b1, Obj.cells p.cs 24 (0, 0))]))) A9 hd from (Arr.row hrow9 rfl rfl [(b20, Obj.cells ((nextN m p (a.take 250) (x : Int) (y : Int) hd wt).getD Vt.zero).cs 47 (0, 0)), (b1, Obj.cells p.cs 24 (0, 0))]).weak (fun w h => h.perm ((pm0.cons _).trans List.perm_middle.symm))) hw)) tv2 (T.pu 58 (.tuple #[.agg ((nextN m p (a.take 250) (x : Int) (y : Int) hd wt).getD Vt.zero).cs, .bool ((nextN m p (a.take 250) (x : Int) (y : Int) hd wt).isSome)]) (T.pu 67 (.agg ((nextN m p (a.take 250) (x : Int) (y : Int) hd wt).getD Vt.zero).cs) (T.pb 68 ((nextN m p (a.take 250) (x : Int) (y : Int) hd wt).isSome) (T.al 15 47 Vt.zero.cs tv3 (fun b21 => T.sp 47 b21 0 (.agg ((nextN m p (a.take 250) (x : Int) (y : Int) hd wt).getD Vt.zero).cs) Vt.zero.cs ((nextN m p (a.take 250) (x : Int) (y : Int) hd wt).getD Vt.zero).cs 47 pm0 tv2 (T.pb 16 ((nextN m p (a.take 250) (x : Int) (y : Int) hd wt).isSome) (T.nil (QN.seq (W.seq (W.rg od8 (T.lr false 69 ((nextN m p (a.take 250) (x : Int) (y : Int) hd wt).getD Vt.zero).cs 47 b20 0 (fun w h => St.rangeM h ((nextN m p (a.take 250) (x : Int) (y : Int) hd wt).getD Vt.zero).cs mm1 (by kernel_rfl)) (T.lr false 70 ((nextN m p (a.take 250) (x : Int) (y : Int) hd wt).getD Vt.zero).cs 47 b21 0 (fun w h => St.rangeM h ((nextN m p (a.take 250) (x : Int) (y : Int) hd wt).getD Vt.zero).cs mm0 (by kernel_rfl)) (T.eqq 71 (((nextN m p (a.take 250) (x : Int) (y : Int) hd wt).getD Vt.zero) != ((nextN m p (a.take 250) (x : Int) (y : Int) hd wt).getD Vt.zero)) (((nextN m p (a.take 250) (x : Int) (y : Int) hd wt).getD Vt.zero) == ((nextN m p (a.take 250) (x : Int) (y : Int) hd wt).getD Vt.zero)) true 47 ((nextN m p (a.take 250) (x : Int) (y : Int) hd wt).getD Vt.zero).cs ((nextN m p (a.take 250) (x : Int) (y : Int) hd wt).getD Vt.zero).cs (by kernel_rfl) (by kernel_rfl) (by kernel_rfl) (by kernel_rfl) (fun w => eq_vt w ((nextN m p (a.take 250) (x : Int) (y : Int) hd wt).getD Vt.zero) ((nextN m p (a.take 250) (x : Int) (y : Int) hd wt).getD Vt.zero)) (T.pb 72 (((nextN m p (a.take 250) (x : Int) (y : Int) hd wt).getD Vt.zero) != ((nextN m p (a.take 250) (x : Int) (y : Int) hd wt).getD Vt.zero)) (T.bk [(4, false), (5, false), (6, false)] [(7, false)] 3 false (((nextN m p (a.take 250) (x : Int) (y : Int) hd wt).getD Vt.zero) != ((nextN m p (a.take 250) (x : Int) (y : Int) hd wt).getD Vt.zero)) 72 75 (.bool (((nextN m p (a.take 250) (x : Int) (y : Int) hd wt).isSome) != ((nextN m p (a.take 250) (x : Int) (y : Int) hd wt).isSome))) (fun hg22 => ?_) ?_))))))))))))))))))))))))))))))))))))))))))))))
    ·
     have hg22_ := hg22
     refine T.pb 73 ((nextN m p (a.take 250) (x : Int) (y : Int) hd wt).isSome) (T.pb 74 ((nextN m p (a.take 250) (x : Int) (y : Int) hd wt).isSome) (T.pb 75 (((nextN m p (a.take 250) (x : Int) (y : Int) hd wt).isSome) != ((nextN m p (a.take 250) (x : Int) (y : Int) hd wt).isSome)) ?_))
     exact T.blkEnd (by kernel_rfl) (fun w h => h)
    refine T.oo 76 (((nextN m p (a.take 250) (x : Int) (y : Int) hd wt).getD Vt.zero) != ((nextN m p (a.take 250) (x : Int) (y : Int) hd wt).getD Vt.zero)) (((nextN m p (a.take 250) (x : Int) (y : Int) hd wt).isSome) != ((nextN m p (a.take 250) (x : Int) (y : Int) hd wt).isSome)) (T.nil (QN.seq (W.cd ((((nextN m p (a.take 250) (x : Int) (y : Int) hd wt).getD Vt.zero) != ((nextN m p (a.take 250) (x : Int) (y : Int) hd wt).getD Vt.zero)) || (((nextN m p (a.take 250) (x : Int) (y : Int) hd wt).isSome) != ((nextN m p (a.take 250) (x : Int) (y : Int) hd wt).isSome))) (fun h23 => ?_) (fun h23 => ?_))))
    ·
     refine W.seq (W.rg od1 (T.pb 8 false (T.nil (QN.seq (W.ret (QN.blkRet (QN.thenRet (QN.thenRet (QN.blkRet (QN.blkRet (QN.thenRet (QN.thenRet (QN.blkRet (QN.thenRet (QN.done (.inl rfl) 8 (.bool false) rfl (by kernel_rfl) (fun w hw => ⟨?_, hw.below⟩))))))))))))))))
     exact absurd h23 (by simp)
    ·
     have h23l := (Bool.or_eq_false_iff.1 h23).1
     have h23r := (Bool.or_eq_false_iff.1 h23).2
     refine W.skip (QN.blkNormal (QN.seq (W.rg od3 (T.pi 45 y (T.pw 46 ((y : Int) + 1) (T.pi 12 ((y : Int) + 1) (T.nil (QN.back (y + 1) ?_ ?_ (by kernel_rfl) (fun w h => (h.perm (((((pm0.cons _).trans List.perm_middle.symm).cons _).trans List.perm_middle.symm).trans (pm2.append_left Hr9))).part (List.Sublist.append (List.Sublist.refl _) ns1))))))))))
     ·
      try dsimp only
      exact ⟨by omega, trivial⟩
     · show 4 - _ < 4 - _; omega
   ·
    have h19' := of_decide_eq_false h19
    refine W.exit (QN.thenExit (QN.thenExit (QN.blkHit (QN.blkNormal (QN.seq (W.rg od3 (T.pi 41 x (T.pw 42 ((x : Int) + 1) (T.pi 11 ((x : Int) + 1) (T.nil (QN.back (x + 1) ?_ ?_ (by kernel_rfl) (fun w h => h))))))))))))
    ·
     try dsimp only
     exact ⟨by omega, trivial⟩
    · show 4 - _ < 4 - _; omega
  ·
   have h18' := of_decide_eq_false h18
   refine W.exit (QN.thenExit (QN.thenExit (QN.blkHit (QN.seq (W.seq (W.rg od2 (T.cp 77 43 #[] (.bool true) ent43 (fun w hw => awake16_c w) tv2 (T.pb 8 true (T.nil (QN.seq (W.ret (QN.done (.inl rfl) 8 (.bool true) rfl (by kernel_rfl) (fun w hw => ⟨?_, hw.below⟩)))))))))))))
   exact rfl
theorem AgreementEach_w (w : World) (a0 : Int) (v1 : Value) (x1 : Nm) (v2 : Value) (x2 : List Vt) (a3 : Bool) (h0 : W64 a0) (h1 : v1 = .agg x1.cs) (h2 : VS w v2 x2) : Calls Tryz.prog 8 #[.int .i64 a0, v1, v2, .bool a3] w fun e w' => e = .returned (.bool true) ∧ Below w.heap.size w w' := by
  obtain rfl := h1
  obtain ⟨A2, c2, rfl, l2, m2, r2, k2⟩ := h2
  exact AgreementEach_c _ _ _ _ _ _ w h0 k2 l2 m2 r2.rd
end Go.Proofs.YtnjkbgcfpbbglaaGreat
