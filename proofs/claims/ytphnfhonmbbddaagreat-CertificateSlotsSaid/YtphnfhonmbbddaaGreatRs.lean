/- The reference: the order of votes, Sorted, Accepted, Slot, who, values. -/
import Derived.Test.YtphnfhonmbbddaaGreatRsP
namespace Go.Proofs.YtphnfhonmbbddaaGreat
open Go Go.RowKit
set_option linter.unusedVariables false

set_option maxRecDepth 100000 in
set_option maxHeartbeats 2000000 in
theorem rnumber_c (a : Nm) (w : World) : Calls Tryz.prog 126 #[.agg a.cs] w (fun rr w' => rr = .returned (.int .u64 ((a.num : Nat) : Int)) ∧ Below w.heap.size w w') := by
 refine calls_W (n := 17) Tryz.func126 rfl [(0, .agg a.cs)] rfl ⟨by kernel_rfl, by kernel_rfl⟩ (W.weak (Ψ := St w []) (fun w' h => by rw [h]; exact St.start w) (W.seq (W.rg od2 (T.bx 1 24 (.agg a.cs) (a.cs) tv3 (fun b1 => T.pu 2 (.int .u64 0) (T.nil (QN.seq (W.seq (W.rg od1 (T.pu 3 (.int .u64 0) (T.nil (QN.seq (W.seq (W.seq (W.rg od1 (T.pi 4 0 (T.nil (QN.seq (W.block (W.loop (σ := Nat) (fun gs => gs ≤ 8) (fun gs => [(1, .pointer (some ⟨b1, 0, none⟩)), (2, .int .u64 0), (3, .int .u64 ((a.up gs : Nat) : Int)), (4, .int .i64 gs)]) (fun gs => St w [(b1, Obj.cells a.cs 24 (0, 0))]) (fun gs => 8 - gs) 0 ?_ (by kernel_rfl) (fun w h => h) ?_))))))))))))))))))))
 ·
  try dsimp only
  exact Nat.zero_le _
 rintro j hI_
 have hj : j ≤ 8 := hI_
 refine W.seq (W.seq (W.rg od2 (T.pi 5 j (T.pb 6 (decide ((j : Int) < 8)) (T.nil (QN.seq (W.cd (decide ((j : Int) < 8)) (fun h2 => ?_) (fun h2 => ?_))))))))
 ·
  have h2' := of_decide_eq_true h2
  refine W.skip (QN.seq (W.seq (W.block (W.rg od8 (T.pu 9 (.int .u64 ((a.up j : Nat) : Int)) ?_)))))
  have hj8 : j < 8 := by omega
  refine T.shl 10 .u64 .u64 ((a.up j : Nat) : Int) 8 (.int .u64 ((a.up j * 256 : Nat) : Int)) (by kernel_rfl) (by kernel_rfl) (by omega) (shl8 _ (a.up_small j hj8)) (T.pi 11 j ?_)
  have hj8 : j < 8 := by omega
  refine T.pure 12 (.pointer (some ⟨b1, j, none⟩)) (by kernel_rfl) (fun w => ?_) ?_
  · rcases lt8 hj8 with rfl | rfl | rfl | rfl | rfl | rfl | rfl | rfl <;> kernel_rfl
  refine T.ld false 13 (.int .u8 ((a.at j).toNat : Int)) 5 b1 j (fun w h => St.cellM h mm0 ?_) ?_
  · rcases lt8 hj8 with rfl | rfl | rfl | rfl | rfl | rfl | rfl | rfl <;> rfl
  refine T.pe 14 (.int .u64 (IntKind.u64.wrap ((a.at j).toNat : Int))) (.int .u64 ((a.at j).toNat : Int)) (wrapu_int (by omega) (by have := (a.at j).toNat_lt; omega)) (T.pe 15 (.int .u64 (bits .or .u64 ((a.up j * 256 : Nat) : Int) ((a.at j).toNat : Int))) (.int .u64 ((a.up (j + 1) : Nat) : Int)) (int_eq (or8 _ _ (a.up_small j hj8) (a.at j).toNat_lt)) (T.pu 3 (.int .u64 ((a.up (j + 1) : Nat) : Int)) (T.nil (QN.blkNormal (QN.seq (W.rg od3 (T.pi 7 j (T.pw 8 ((j : Int) + 1) (T.pi 4 ((j : Int) + 1) (T.nil (QN.back (j + 1) ?_ ?_ (by kernel_rfl) (fun w h => h))))))))))))
  ·
   show (j + 1) ≤ 8
   omega
  · show 8 - _ < 8 - _; omega
 ·
  have h2' := of_decide_eq_false h2
  refine W.exit (QN.thenExit (QN.thenExit (QN.blkHit (QN.seq (W.seq (W.rg od2 (T.pu 16 (.int .u64 ((a.up j : Nat) : Int)) (T.pu 2 (.int .u64 ((a.up j : Nat) : Int)) (T.nil (QN.seq (W.ret (QN.done (.inl rfl) 2 (.int .u64 ((a.up j : Nat) : Int)) rfl (by kernel_rfl) (fun w hw => ⟨?_, hw.below⟩)))))))))))))
  (have e8 : j = 8 := (by omega); rw [e8]; rfl)
set_option maxRecDepth 100000 in
set_option maxHeartbeats 2000000 in
theorem rhless_c (a b : Nm) (w : World) : Calls Tryz.prog 106 #[.agg a.cs, .agg b.cs] w (fun rr w' => rr = .returned (.bool (hless a b)) ∧ Below w.heap.size w w') := by
 refine calls_W (n := 10) Tryz.func106 rfl [(0, .agg a.cs), (1, .agg b.cs)] rfl ⟨by kernel_rfl, by kernel_rfl⟩ (W.weak (Ψ := St w []) (fun w' h => by rw [h]; exact St.start w) (W.seq (W.rg od3 (T.bx 2 24 (.agg a.cs) (a.cs) tv3 (fun b1 => T.bx 3 24 (.agg b.cs) (b.cs) tv3 (fun b2 => T.pb 4 false (T.nil (QN.seq (W.seq (W.drawn (Ψ := St w [(b2, Obj.cells b.cs 24 (0, 0)), (b1, Obj.cells a.cs 24 (0, 0))]) (St w [(b2, Obj.cells b.cs 24 (0, 0)), (b1, Obj.cells a.cs 24 (0, 0))]) [(0, true), (2, true), (1, false), (3, false), (4, true), (5, false)] hmx (by kernel_rfl) (NoPanic.then NoPanic.body) (fun w h => h.drew) (fun w h => h) (T.lr true 5 a.cs 24 b1 0 (fun w h => St.rangeM h a.cs mm1 (by kernel_rfl)) (T.lr true 7 b.cs 24 b2 0 (fun w h => St.rangeM h b.cs mm0 (by kernel_rfl)) (T.cp 6 126 #[.agg a.cs] (.int .u64 ((a.num : Nat) : Int)) ent126 (fun w hw => rnumber_c a w) (fun w h => h) (T.cp 8 126 #[.agg b.cs] (.int .u64 ((b.num : Nat) : Int)) ent126 (fun w hw => rnumber_c b w) (fun w h => h) (T.pb 9 (decide (((a.num : Nat) : Int) < ((b.num : Nat) : Int))) (T.pb 4 (decide (((a.num : Nat) : Int) < ((b.num : Nat) : Int))) (T.nil (QN.seq (W.ret (QN.done (.inl rfl) 4 (.bool (decide (((a.num : Nat) : Int) < ((b.num : Nat) : Int)))) rfl (by kernel_rfl) (fun w hw => ⟨?_, hw.below⟩)))))))))))))))))))))
 exact rfl
set_option maxRecDepth 100000 in
set_option maxHeartbeats 2000000 in
theorem rvless_c (x y : Vt) (w : World) : Calls Tryz.prog 57 #[.agg x.cs, .agg y.cs] w (fun rr w' => rr = .returned (.bool (vless x y)) ∧ Below w.heap.size w w') := by
 refine calls_W (n := 73) Tryz.func57 rfl [(0, .agg x.cs), (1, .agg y.cs)] rfl ⟨by kernel_rfl, by kernel_rfl⟩ (W.weak (Ψ := St w []) (fun w' h => by rw [h]; exact St.start w) (W.seq (W.rg od3 (T.bx 2 43 (.agg x.cs) (x.cs) tv3 (fun b1 => T.bx 3 43 (.agg y.cs) (y.cs) tv3 (fun b2 => T.pb 4 false (T.nil (QN.seq (W.seq (W.seq (W.rg od5 (T.pu 8 (.pointer (some ⟨b1, 6, none⟩)) (T.lr false 9 x.par.cs 24 b1 6 (fun w h => St.rangeM h x.par.cs mm1 (by kernel_rfl)) (T.pu 10 (.pointer (some ⟨b2, 6, none⟩)) (T.lr false 11 y.par.cs 24 b2 6 (fun w h => St.rangeM h y.par.cs mm0 (by kernel_rfl)) (T.eqq 12 (x.par != y.par) (x.par == y.par) true 24 x.par.cs y.par.cs (by kernel_rfl) (by kernel_rfl) (by kernel_rfl) (by kernel_rfl) (fun w => eq_nm w x.par y.par) (T.nil (QN.seq (W.cd (x.par != y.par) (fun h3 => ?_) (fun h3 => ?_))))))))))))))))))))
 ·
  refine W.seq (W.rg od6 (T.pu 13 (.pointer (some ⟨b1, 6, none⟩)) (T.lr false 14 x.par.cs 24 b1 6 (fun w h => St.rangeM h x.par.cs mm1 (by kernel_rfl)) (T.pu 15 (.pointer (some ⟨b2, 6, none⟩)) (T.lr false 16 y.par.cs 24 b2 6 (fun w h => St.rangeM h y.par.cs mm0 (by kernel_rfl)) (T.cp 17 106 #[.agg x.par.cs, .agg y.par.cs] (.bool (hless x.par y.par)) ent106 (fun w hw => rhless_c x.par y.par w) tv2 (T.pb 4 (hless x.par y.par) (T.nil (QN.seq (W.ret (QN.thenRet (QN.done (.inl rfl) 4 (.bool (hless x.par y.par)) rfl (by kernel_rfl) (fun w hw => ⟨?_, hw.below⟩)))))))))))))
  exact congrArg (fun b => Ending.returned (.bool b)) (vless_par (by simpa using h3)).symm
 ·
  refine W.skip (QN.seq (W.seq (W.rg od13 (T.pu 18 (.pointer (some ⟨b1, 1, none⟩)) (T.ld false 19 (.int .i64 x.slot) 3 b1 1 (fun w h => St.cellM h mm1 (by kernel_rfl)) (T.pu 20 (.pointer (some ⟨b1, 2, none⟩)) (T.ld false 21 (.int .i64 x.round) 3 b1 2 (fun w h => St.cellM h mm1 (by kernel_rfl)) (T.pu 22 (.pointer (some ⟨b1, 0, none⟩)) (T.ld false 23 (.int .i64 x.kind) 3 b1 0 (fun w h => St.cellM h mm1 (by kernel_rfl)) (T.pu 24 (.pointer (some ⟨b1, 4, none⟩)) (T.ld false 25 (.int .i64 x.signer) 3 b1 4 (fun w h => St.cellM h mm1 (by kernel_rfl)) (T.pu 26 (.pointer (some ⟨b1, 3, none⟩)) (T.ld false 27 (.int .i64 x.choice) 3 b1 3 (fun w h => St.cellM h mm1 (by kernel_rfl)) (T.pu 28 (.agg #[.int .i64 x.slot, .int .i64 x.round, .int .i64 x.kind, .int .i64 x.signer, .int .i64 x.choice]) (T.al 5 81 #[.int .i64 0, .int .i64 0, .int .i64 0, .int .i64 0, .int .i64 0] tv3 (fun b4 => T.sp 81 b4 0 (.agg #[.int .i64 x.slot, .int .i64 x.round, .int .i64 x.kind, .int .i64 x.signer, .int .i64 x.choice]) #[.int .i64 0, .int .i64 0, .int .i64 0, .int .i64 0, .int .i64 0] #[.int .i64 x.slot, .int .i64 x.round, .int .i64 x.kind, .int .i64 x.signer, .int .i64 x.choice] 81 pm0 tv2 (T.nil (QN.seq (W.seq (W.rg od13 (T.pu 29 (.pointer (some ⟨b2, 1, none⟩)) (T.ld false 30 (.int .i64 y.slot) 3 b2 1 (fun w h => St.cellM h mm1 (by kernel_rfl)) (T.pu 31 (.pointer (some ⟨b2, 2, none⟩)) (T.ld false 32 (.int .i64 y.round) 3 b2 2 (fun w h => St.cellM h mm1 (by kernel_rfl)) (T.pu 33 (.pointer (some ⟨b2, 0, none⟩)) (T.ld false 34 (.int .i64 y.kind) 3 b2 0 (fun w h => St.cellM h mm1 (by kernel_rfl)) (T.pu 35 (.pointer (some ⟨b2, 4, none⟩)) (T.ld false 36 (.int .i64 y.signer) 3 b2 4 (fun w h => St.cellM h mm1 (by kernel_rfl)) (T.pu 37 (.pointer (some ⟨b2, 3, none⟩)) (T.ld false 38 (.int .i64 y.choice) 3 b2 3 (fun w h => St.cellM h mm1 (by kernel_rfl)) (T.pu 39 (.agg #[.int .i64 y.slot, .int .i64 y.round, .int .i64 y.kind, .int .i64 y.signer, .int .i64 y.choice]) (T.al 6 81 #[.int .i64 0, .int .i64 0, .int .i64 0, .int .i64 0, .int .i64 0] tv3 (fun b5 => T.sp 81 b5 0 (.agg #[.int .i64 y.slot, .int .i64 y.round, .int .i64 y.kind, .int .i64 y.signer, .int .i64 y.choice]) #[.int .i64 0, .int .i64 0, .int .i64 0, .int .i64 0, .int .i64 0] #[.int .i64 y.slot, .int .i64 y.round, .int .i64 y.kind, .int .i64 y.signer, .int .i64 y.choice] 81 pm0 tv2 (T.nil (QN.seq (W.seq (W.seq (W.rg od1 (T.pi 7 0 (T.nil (QN.seq (W.block (W.loop (σ := Nat) (fun gs => gs ≤ 5 ∧ ∀ k, k < gs → key5 x k = key5 y k) (fun gs => [(2, .pointer (some ⟨b1, 0, none⟩)), (3, .pointer (some ⟨b2, 0, none⟩)), (5, .pointer (some ⟨b4, 0, none⟩)), (6, .pointer (some ⟨b5, 0, none⟩)), (7, .int .i64 gs)]) (fun gs => St w [(b5, Obj.cells #[.int .i64 y.slot, .int .i64 y.round, .int .i64 y.kind, .int .i64 y.signer, .int .i64 y.choice] 81 (0, 0)), (b4, Obj.cells #[.int .i64 x.slot, .int .i64 x.round, .int .i64 x.kind, .int .i64 x.signer, .int .i64 x.choice] 81 (0, 0)), (b2, Obj.cells y.cs 43 (0, 0)), (b1, Obj.cells x.cs 43 (0, 0))]) (fun gs => 5 - gs) 0 ?_ (by kernel_rfl) (fun w h => h) ?_)))))))))))))))))))))))))))))))))))))))))))
  ·
   try dsimp only
   exact ⟨Nat.zero_le _, fun k hk => absurd hk (by omega)⟩
  rintro j hI_
  obtain ⟨hj, hk⟩ : j ≤ 5 ∧ ∀ k, k < j → key5 x k = key5 y k := hI_
  refine W.seq (W.seq (W.rg od2 (T.pi 40 j (T.pb 41 (decide ((j : Int) < 5)) (T.nil (QN.seq (W.cd (decide ((j : Int) < 5)) (fun h6 => ?_) (fun h6 => ?_))))))))
  ·
   have h6' := of_decide_eq_true h6
   refine W.skip (QN.seq (W.seq (W.block (W.seq (W.drawn (Ψ := St w [(b5, Obj.cells #[.int .i64 y.slot, .int .i64 y.round, .int .i64 y.kind, .int .i64 y.signer, .int .i64 y.choice] 81 (0, 0)), (b4, Obj.cells #[.int .i64 x.slot, .int .i64 x.round, .int .i64 x.kind, .int .i64 x.signer, .int .i64 x.choice] 81 (0, 0)), (b2, Obj.cells y.cs 43 (0, 0)), (b1, Obj.cells x.cs 43 (0, 0))]) (St w [(b5, Obj.cells #[.int .i64 y.slot, .int .i64 y.round, .int .i64 y.kind, .int .i64 y.signer, .int .i64 y.choice] 81 (0, 0)), (b4, Obj.cells #[.int .i64 x.slot, .int .i64 x.round, .int .i64 x.kind, .int .i64 x.signer, .int .i64 x.choice] 81 (0, 0)), (b2, Obj.cells y.cs 43 (0, 0)), (b1, Obj.cells x.cs 43 (0, 0))]) [(0, true), (1, true), (2, true), (3, true), (4, true), (5, true), (6, true)] hmx (by kernel_rfl) (NoPanic.then (NoPanic.inBlock (NoPanic.then (NoPanic.then (NoPanic.inBlock (NoPanic.then NoPanic.body)))))) (fun w h => h.drew) (fun w h => h) (T.pi 44 j ?_))))))
   have hj5 : j < 5 := by omega
   refine T.pure 45 (.pointer (some ⟨b4, j, none⟩)) (by kernel_rfl) (fun w => ?_) ?_
   · rcases lt5 hj5 with rfl | rfl | rfl | rfl | rfl <;> kernel_rfl
   refine T.ld true 46 (.int .i64 (key5 x j)) 3 b4 j (fun w h => St.cellM h mm1 ?_) ?_
   · rcases lt5 hj5 with rfl | rfl | rfl | rfl | rfl <;> rfl
   refine T.pi 47 j ?_
   have hj5 : j < 5 := by omega
   refine T.pure 48 (.pointer (some ⟨b5, j, none⟩)) (by kernel_rfl) (fun w => ?_) ?_
   · rcases lt5 hj5 with rfl | rfl | rfl | rfl | rfl <;> kernel_rfl
   refine T.ld true 49 (.int .i64 (key5 y j)) 3 b5 j (fun w h => St.cellM h mm0 ?_) ?_
   · rcases lt5 hj5 with rfl | rfl | rfl | rfl | rfl <;> rfl
   refine T.pb 50 ((key5 x j) != (key5 y j)) (T.nil (QN.seq (W.cd ((key5 x j) != (key5 y j)) (fun h7 => ?_) (fun h7 => ?_))))
   ·
    refine W.seq (W.drawn (Ψ := St w [(b5, Obj.cells #[.int .i64 y.slot, .int .i64 y.round, .int .i64 y.kind, .int .i64 y.signer, .int .i64 y.choice] 81 (0, 0)), (b4, Obj.cells #[.int .i64 x.slot, .int .i64 x.round, .int .i64 x.kind, .int .i64 x.signer, .int .i64 x.choice] 81 (0, 0)), (b2, Obj.cells y.cs 43 (0, 0)), (b1, Obj.cells x.cs 43 (0, 0))]) (St w [(b5, Obj.cells #[.int .i64 y.slot, .int .i64 y.round, .int .i64 y.kind, .int .i64 y.signer, .int .i64 y.choice] 81 (0, 0)), (b4, Obj.cells #[.int .i64 x.slot, .int .i64 x.round, .int .i64 x.kind, .int .i64 x.signer, .int .i64 x.choice] 81 (0, 0)), (b2, Obj.cells y.cs 43 (0, 0)), (b1, Obj.cells x.cs 43 (0, 0))]) [(0, true), (1, true), (2, true), (3, true), (4, true), (5, true), (6, true), (7, false)] hmx (by kernel_rfl) (NoPanic.then (NoPanic.inBlock (NoPanic.then (NoPanic.then (NoPanic.inBlock (NoPanic.then NoPanic.body)))))) (fun w h => h.drew) (fun w h => h) (T.pi 51 j ?_))
    have hj5 : j < 5 := by omega
    refine T.pure 52 (.pointer (some ⟨b4, j, none⟩)) (by kernel_rfl) (fun w => ?_) ?_
    · rcases lt5 hj5 with rfl | rfl | rfl | rfl | rfl <;> kernel_rfl
    refine T.ld true 53 (.int .i64 (key5 x j)) 3 b4 j (fun w h => St.cellM h mm1 ?_) ?_
    · rcases lt5 hj5 with rfl | rfl | rfl | rfl | rfl <;> rfl
    refine T.pi 54 j ?_
    have hj5 : j < 5 := by omega
    refine T.pure 55 (.pointer (some ⟨b5, j, none⟩)) (by kernel_rfl) (fun w => ?_) ?_
    · rcases lt5 hj5 with rfl | rfl | rfl | rfl | rfl <;> kernel_rfl
    refine T.ld true 56 (.int .i64 (key5 y j)) 3 b5 j (fun w h => St.cellM h mm0 ?_) ?_
    · rcases lt5 hj5 with rfl | rfl | rfl | rfl | rfl <;> rfl
    refine T.pb 57 (decide ((key5 x j) < (key5 y j))) (T.pb 4 (decide ((key5 x j) < (key5 y j))) (T.nil (QN.seq (W.ret (QN.blkRet (QN.thenRet (QN.thenRet (QN.blkRet (QN.thenRet (QN.done (.inl rfl) 4 (.bool (decide ((key5 x j) < (key5 y j)))) rfl (by kernel_rfl) (fun w hw => ⟨?_, hw.below⟩)))))))))))
    exact congrArg (fun b => Ending.returned (.bool b)) (vless_key (by simpa using h3) j (by omega) hk (by simpa using h7)).symm
   ·
    refine W.skip (QN.blkNormal (QN.seq (W.rg od3 (T.pi 42 j (T.pw 43 ((j : Int) + 1) (T.pi 7 ((j : Int) + 1) (T.nil (QN.back (j + 1) ?_ ?_ (by kernel_rfl) (fun w h => h)))))))))
    ·
     try dsimp only
     exact ⟨by omega, key_bk hk (by simpa using h7)⟩
    · show 5 - _ < 5 - _; omega
  ·
   have h6' := of_decide_eq_false h6
   refine W.exit (QN.thenExit (QN.thenExit (QN.blkHit (QN.seq (W.seq (W.seq (W.rg od5 (T.pu 58 (.pointer (some ⟨b1, 14, none⟩)) (T.lr false 59 x.val.cs 24 b1 14 (fun w h => St.rangeM h x.val.cs mm3 (by kernel_rfl)) (T.pu 60 (.pointer (some ⟨b2, 14, none⟩)) (T.lr false 61 y.val.cs 24 b2 14 (fun w h => St.rangeM h y.val.cs mm2 (by kernel_rfl)) (T.eqq 62 (x.val != y.val) (x.val == y.val) true 24 x.val.cs y.val.cs (by kernel_rfl) (by kernel_rfl) (by kernel_rfl) (by kernel_rfl) (fun w => eq_nm w x.val y.val) (T.nil (QN.seq (W.cd (x.val != y.val) (fun h8 => ?_) (fun h8 => ?_))))))))))))))))
   ·
    refine W.seq (W.rg od6 (T.pu 63 (.pointer (some ⟨b1, 14, none⟩)) (T.lr false 64 x.val.cs 24 b1 14 (fun w h => St.rangeM h x.val.cs mm3 (by kernel_rfl)) (T.pu 65 (.pointer (some ⟨b2, 14, none⟩)) (T.lr false 66 y.val.cs 24 b2 14 (fun w h => St.rangeM h y.val.cs mm2 (by kernel_rfl)) (T.cp 67 106 #[.agg x.val.cs, .agg y.val.cs] (.bool (hless x.val y.val)) ent106 (fun w hw => rhless_c x.val y.val w) tv2 (T.pb 4 (hless x.val y.val) (T.nil (QN.seq (W.ret (QN.thenRet (QN.done (.inl rfl) 4 (.bool (hless x.val y.val)) rfl (by kernel_rfl) (fun w hw => ⟨?_, hw.below⟩)))))))))))))
    (have e5 : j = 5 := (by omega); subst e5; have hv : x.val ≠ y.val := (by simpa using h8); rw [vless_end (by simpa using h3) hk, if_neg hv])
   ·
    refine W.skip (QN.seq (W.seq (W.rg od6 (T.pu 68 (.pointer (some ⟨b1, 5, none⟩)) (T.ld false 69 (.int .i64 x.support) 22 b1 5 (fun w h => St.cellM h mm3 (by kernel_rfl)) (T.pu 70 (.pointer (some ⟨b2, 5, none⟩)) (T.ld false 71 (.int .i64 y.support) 22 b2 5 (fun w h => St.cellM h mm2 (by kernel_rfl)) (T.pb 72 (decide (x.support < y.support)) (T.pb 4 (decide (x.support < y.support)) (T.nil (QN.seq (W.ret (QN.done (.inl rfl) 4 (.bool (decide (x.support < y.support))) rfl (by kernel_rfl) (fun w hw => ⟨?_, hw.below⟩))))))))))))))
    (have e5 : j = 5 := (by omega); subst e5; have hv : x.val = y.val := (by simpa using h8); rw [vless_end (by simpa using h3) hk, if_pos hv])
theorem rd_two {l : List Vt} {rd : Bool} (h : rd = true ∨ 2 ≤ l.length) (hr : rd = false) : 2 ≤ l.length := by
  rcases h with h | h
  · rw [hr] at h; cases h
  · exact h
theorem rd_all {l : List Vt} {j : Nat} {rd : Bool} (h : rd = true → Strict (l.take (j + 1))) (hr : rd = true) (hb : ((decide ((j : Int) + 1 < (((l.length : Nat)) : Int))) && rd) = false) : Strict l := by
  have := h hr
  rw [hr, Bool.and_true, decide_eq_false_iff_not] at hb
  have hj : l.length ≤ j + 1 := by omega
  rwa [List.take_of_length_le hj] at this
theorem mrg_end {a b : List Vt} (hl : ((decide (0 < (((a.length : Nat)) : Int))) || (decide (0 < (((b.length : Nat)) : Int)))) = false) : a.length = 0 ∧ b.length = 0 := by
  simp only [Bool.or_eq_false_iff, decide_eq_false_iff_not] at hl
  omega
set_option maxRecDepth 100000 in
set_option maxHeartbeats 2000000 in
theorem rsorted_step (n : Nat) (ih : ∀ (l : List Vt) (A : Option Addr) (c : Nat) (w : World) (hk : l.length < n) (hl : l.length ≤ 1000) (hc : l.length ≤ c) (hr : Rd w A l), Calls Tryz.prog 33 #[.slice A l.length c] w (fun rr w' => ∃ A c Hr, rr = .returned (.slice A (srtV l).length c) ∧ RowIs 43 22 A (srtV l).length c (cells (srtV l)) Hr ∧ St w Hr w')) (l : List Vt) (A : Option Addr) (c : Nat) (w : World) (hk : l.length ≤ n) (hl : l.length ≤ 1000) (hc : l.length ≤ c) (hr : Rd w A l) : Calls Tryz.prog 33 #[.slice A l.length c] w (fun rr w' => ∃ A c Hr, rr = .returned (.slice A (srtV l).length c) ∧ RowIs 43 22 A (srtV l).length c (cells (srtV l)) Hr ∧ St w Hr w') := by
 refine calls_W (n := 101) Tryz.func33 rfl [(0, .slice A l.length c)] rfl ⟨by kernel_rfl, by kernel_rfl⟩ (W.weak (Ψ := St w []) (fun w' h => by rw [h]; exact St.start w) (W.seq (W.rg od1 (T.pu 2 (.slice none 0 0) (T.nil (QN.seq (W.seq (W.rg od1 (T.pb 3 true (T.nil (QN.seq (W.seq (W.seq (W.rg od1 (T.pi 4 0 (T.nil (QN.seq (W.block (W.loop (σ := Nat × Bool) (fun gs => gs.1 ≤ l.length ∧ (gs.2 = true → Strict (l.take (gs.1 + 1))) ∧ (gs.2 = true ∨ 2 ≤ l.length)) (fun gs => [(0, .slice A l.length c), (2, .slice none 0 0), (3, .bool gs.2), (4, .int .i64 (gs.1 : Int))]) (fun gs => St w []) (fun gs => l.length - gs.1) (0, true) ?_ (by kernel_rfl) (fun w h => h) ?_)))))))))))))))))))
 ·
  try dsimp only
  exact ⟨Nat.zero_le _, fun _ => rdy0 l, .inl rfl⟩
 rintro ⟨j, rd⟩ hI_
 obtain ⟨hj, hrd, htw⟩ : j ≤ l.length ∧ (rd = true → Strict (l.take (j + 1))) ∧ (rd = true ∨ 2 ≤ l.length) := hI_
 refine W.seq (W.seq (W.rg od8 (T.pi 8 j (T.pw 9 ((j : Int) + 1) (T.pu 10 (.slice A l.length c) (T.pi 11 ((l.length : Nat) : Int) (T.pb 12 (decide (((j : Int) + 1) < ((l.length : Nat) : Int))) (T.pb 13 (decide (((j : Int) + 1) < ((l.length : Nat) : Int))) (T.bk [(6, false)] [(7, false)] 5 true (decide (((j : Int) + 1) < ((l.length : Nat) : Int))) 13 14 (.bool rd) (fun hg1 => ?_) ?_)))))))))
 ·
  have hg1_ := hg1
  have hg1' := of_decide_eq_true hg1
  refine T.pb 14 rd ?_
  exact T.blkEnd (by kernel_rfl) (fun w h => h)
 refine T.an 15 (decide (((j : Int) + 1) < ((l.length : Nat) : Int))) rd (T.nil (QN.seq (W.cd ((decide (((j : Int) + 1) < ((l.length : Nat) : Int))) && rd) (fun h2 => ?_) (fun h2 => ?_))))
 ·
  have h2l := (Bool.and_eq_true_iff.1 h2).1
  have h2r := (Bool.and_eq_true_iff.1 h2).2
  have h2l' := of_decide_eq_true h2l
  refine W.skip (QN.seq (W.seq (W.block (W.drawn (Ψ := St w []) (St w []) [(0, true), (1, true), (2, true), (3, true), (4, true), (5, true), (6, true), (7, true), (8, true), (9, false), (10, false)] hmx (by kernel_rfl) (NoPanic.inBlock (NoPanic.then (NoPanic.then (NoPanic.inBlock (NoPanic.then NoPanic.body))))) (fun w h => h.drew) (fun w h => h) (T.pu 18 (.slice A l.length c) (T.pi 19 j ?_))))))
  have hl7 : j < l.length := by omega
  obtain ⟨b3, o4, hA5, hr6⟩ := (Rd.arr hr _) j hl7
  refine T.ix 20 25 43 22 A l.length c (j : Int) j b3 o4 hA5 rfl (by omega) (T.lr true 21 (l[j]'hl7).cs 43 b3 (o4 + j * 22) hr6 (T.pu 22 (.slice A l.length c) (T.pi 23 j (T.pw 24 ((j : Int) + 1) ?_))))
  have hl12 : (j + 1) < l.length := by omega
  obtain ⟨b8, o9, hA10, hr11⟩ := (Rd.arr hr _) (j + 1) hl12
  refine T.ix 25 25 43 22 A l.length c ((j : Int) + 1) (j + 1) b8 o9 hA10 (by omega) (by omega) (T.lr true 26 (l[(j + 1)]'hl12).cs 43 b8 (o9 + (j + 1) * 22) hr11 (T.cp 27 57 #[.agg (l[j]'hl7).cs, .agg (l[(j + 1)]'hl12).cs] (.bool (vless (l[j]'hl7) (l[(j + 1)]'hl12))) ent57 (fun w hw => rvless_c (l[j]'hl7) (l[(j + 1)]'hl12) w) (fun w h => h) (T.pb 3 (vless (l[j]'hl7) (l[(j + 1)]'hl12)) (T.nil (QN.blkNormal (QN.seq (W.rg od3 (T.pi 16 j (T.pw 17 ((j : Int) + 1) (T.pi 4 ((j : Int) + 1) (T.nil (QN.back (j + 1, vless (l[j]'hl7) (l[(j + 1)]'hl12)) ?_ ?_ (by kernel_rfl) (fun w h => h)))))))))))))
  ·
   try dsimp only
   exact ⟨by omega, rdy_bk hrd (Bool.and_eq_true_iff.1 h2).2, .inr (by omega)⟩
  · show l.length - (j + 1) < l.length - j; omega
 ·
  refine W.exit (QN.thenExit (QN.thenExit (QN.blkHit (QN.seq (W.seq (W.seq (W.rg od1 (T.pb 28 rd (T.nil (QN.seq (W.cd rd (fun h13 => ?_) (fun h13 => ?_))))))))))))
  ·
   refine W.seq (W.rg od3 (T.pu 29 (.slice A l.length c) (T.appD 30 25 43 64 none 0 ([] : List Vt) [] A c (l : List Vt) pm0 (by kernel_rfl) (by kernel_rfl) (by kernel_rfl) (by kernel_rfl) RowIs.nil (Rd.arr hr _) (by unfold maxLen; first | omega | (simp; omega)) (by first | omega | (simp; omega)) tv3 (fun A14 c15 Hr16 hrow17 => T.pu 2 (.slice A14 ((([] : List Vt) ++ l).length) c15) (T.nil (QN.seq (W.ret (QN.thenRet (QN.done (.inl rfl) 2 (.slice A14 ((([] : List Vt) ++ l).length) c15) rfl (by kernel_rfl) (fun w hw => ?_))))))))))
   exact (have e1 : srtV l = ([] : List Vt) ++ l := (by rw [List.nil_append]; exact srt_ready (rd_all hrd h13 h2)); by rw [e1]; exact ⟨A14, c15, Hr16, rfl, hrow17, hw.part (List.sublist_append_left _ _)⟩)
  ·
   refine W.skip (QN.seq (W.seq (W.drawn (Ψ := St w []) (St w []) [(0, true), (1, true), (2, true), (3, true), (4, true), (6, true), (7, true), (8, true), (9, true), (10, true), (5, false), (11, false), (12, false), (13, false)] hmx (by kernel_rfl) (NoPanic.then NoPanic.body) (fun w h => h.drew) (fun w h => h) (T.pu 31 (.slice A l.length c) (T.pu 32 (.slice A l.length c) ?_)))))
   have h2l : 2 ≤ l.length := rd_two htw h13
   refine T.pi 33 ((l.length : Nat) : Int) (T.pe 34 (.int .i64 (IntKind.i64.wrap (((l.length : Nat) : Int).tdiv 2))) (.int .i64 (((l.length : Nat) : Int) / 2)) (quo_int (by omega) (by decide) (by omega)) ?_)
   have hsl18 : (l.take (l.length / 2)).length = (l.length / 2) := by first | (simp; done) | (simp; omega)
   refine T.sliceTo 35 25 43 A l.length c (((l.length : Nat) : Int) / 2) ((l.take (l.length / 2)).length) (by kernel_rfl) (by kernel_rfl) (by kernel_rfl) (by kernel_rfl) (by omega) (by omega) (T.pu 37 (.slice A l.length c) (T.pu 38 (.slice A l.length c) (T.pi 39 ((l.length : Nat) : Int) (T.pe 40 (.int .i64 (IntKind.i64.wrap (((l.length : Nat) : Int).tdiv 2))) (.int .i64 (((l.length : Nat) : Int) / 2)) (quo_int (by omega) (by decide) (by omega)) (T.sliceFrom 41 25 43 22 A l.length c (((l.length : Nat) : Int) / 2) (l.length / 2) ((l.drop (l.length / 2)).length) (by kernel_rfl) (by kernel_rfl) (by kernel_rfl) (by kernel_rfl) (by omega) (by omega) (by simp) (T.callR 36 33 #[.slice A ((l.take (l.length / 2)).length) c] 43 22 (srtV (l.take (l.length / 2))).length (cells (srtV (l.take (l.length / 2)))) (by kernel_rfl) (by kernel_rfl) ent33 (fun w hw => ih (l.take (l.length / 2)) A c w (by first | (simp; omega) | omega) (by first | (simp; omega) | omega) (by first | (simp; omega) | omega) (Arr.rd ((Rd.arr hr _).take _) hw)) (fun Hr21 => (fun w h => h.part (List.nil_sublist _))) (fun A19 c20 Hr21 hrow22 => T.callR 42 33 #[.slice (offA A c (l.length / 2) 22) ((l.drop (l.length / 2)).length) (c - (l.length / 2))] 43 22 (srtV (l.drop (l.length / 2))).length (cells (srtV (l.drop (l.length / 2)))) (by kernel_rfl) (by kernel_rfl) ent33 (fun w hw => ih (l.drop (l.length / 2)) (offA A c (l.length / 2) 22) (c - (l.length / 2)) w (by first | (simp; omega) | omega) (by first | (simp; omega) | omega) (by first | (simp; omega) | omega) (Arr.rd (Arr.drop (Rd.arr hr _) c (l.length / 2) (by omega)) hw)) (fun Hr25 => (fun w h => h.part (List.nil_sublist _))) (fun A23 c24 Hr25 hrow26 => T.pu 5 (.slice A19 ((srtV (l.take (l.length / 2))).length) c20) (T.pu 6 (.slice A23 ((srtV (l.drop (l.length / 2))).length) c24) (T.nil (QN.seq (W.seq (W.rg od1 (T.pu 7 (.slice none 0 0) (T.nil (QN.seq (W.seq (W.block (W.loop (σ := List Vt × Option Addr × Nat × List Vt × Option Addr × Nat × List Vt × Option Addr × Nat × List (Nat × Obj)) (fun gs => Mrg l gs.2.2.2.2.2.2.1 gs.1 gs.2.2.2.1 ∧ gs.1.length ≤ gs.2.2.1 ∧ gs.2.2.2.1.length ≤ gs.2.2.2.2.2.1 ∧ Arr (St w (Hr21 ++ [])) gs.2.1 gs.1 ∧ Arr (St w (Hr25 ++ [])) gs.2.2.2.2.1 gs.2.2.2.1 ∧ RowIs 43 22 gs.2.2.2.2.2.2.2.1 gs.2.2.2.2.2.2.1.length gs.2.2.2.2.2.2.2.2.1 (cells gs.2.2.2.2.2.2.1) gs.2.2.2.2.2.2.2.2.2) (fun gs => [(2, .slice none 0 0), (5, .slice gs.2.1 gs.1.length gs.2.2.1), (6, .slice gs.2.2.2.2.1 gs.2.2.2.1.length gs.2.2.2.2.2.1), (7, .slice gs.2.2.2.2.2.2.2.1 gs.2.2.2.2.2.2.1.length gs.2.2.2.2.2.2.2.2.1)]) (fun gs => St w (gs.2.2.2.2.2.2.2.2.2 ++ (Hr25 ++ (Hr21 ++ [])))) (fun gs => gs.1.length + gs.2.2.2.1.length) (srtV (l.take (l.length / 2)), A19, c20, srtV (l.drop (l.length / 2)), A23, c24, [], none, 0, []) ?_ (by kernel_rfl) (fun w h => h) ?_)))))))))))))))))))
   ·
    try dsimp only
    exact ⟨Mrg.start l _, RowIs.cap hrow22, RowIs.cap hrow26, Arr.row hrow22 rfl rfl [], Arr.row hrow26 rfl rfl [], RowIs.nil⟩
   rintro ⟨la, Aa, ca, lb, Ab, cb, out, A7, c7, Hr7⟩ hI_
   obtain ⟨hmg, hca, hcb, hAa, hAb, hrow7⟩ : Mrg l out la lb ∧ la.length ≤ ca ∧ lb.length ≤ cb ∧ Arr (St w (Hr21 ++ [])) Aa la ∧ Arr (St w (Hr25 ++ [])) Ab lb ∧ RowIs 43 22 A7 out.length c7 (cells out) Hr7 := hI_
   have hml := hmg.len
   refine W.seq (W.seq (W.rg od8 (T.pu 43 (.slice Aa la.length ca) (T.pi 44 ((la.length : Nat) : Int) (T.pb 45 (decide (0 < ((la.length : Nat) : Int))) (T.pb 46 (decide (0 < ((la.length : Nat) : Int))) (T.bk [(4, false), (5, false), (6, false)] [(7, false)] 3 false (decide (0 < ((la.length : Nat) : Int))) 46 49 (.bool (decide (0 < ((lb.length : Nat) : Int)))) (fun hg27 => ?_) ?_)))))))
   ·
    have hg27_ := hg27
    have hg27' := of_decide_eq_false hg27
    refine T.pu 47 (.slice Ab lb.length cb) (T.pi 48 ((lb.length : Nat) : Int) (T.pb 49 (decide (0 < ((lb.length : Nat) : Int))) ?_))
    exact T.blkEnd (by kernel_rfl) (fun w h => h)
   refine T.oo 50 (decide (0 < ((la.length : Nat) : Int))) (decide (0 < ((lb.length : Nat) : Int))) (T.nil (QN.seq (W.cd ((decide (0 < ((la.length : Nat) : Int))) || (decide (0 < ((lb.length : Nat) : Int)))) (fun h28 => ?_) (fun h28 => ?_))))
   ·
    refine W.skip (QN.seq (W.block (W.block (W.seq (W.drawn (Ψ := St w (Hr7 ++ (Hr25 ++ (Hr21 ++ [])))) (St w (Hr7 ++ (Hr25 ++ (Hr21 ++ [])))) [(0, true), (1, true), (2, true), (3, true), (4, true), (5, true), (6, true), (7, true), (8, true), (9, true), (10, true), (11, true), (12, true), (13, true), (14, false), (15, true), (16, true), (17, false)] hmx (by kernel_rfl) (NoPanic.then (NoPanic.inBlock (NoPanic.inBlock (NoPanic.then (NoPanic.inBlock (NoPanic.then NoPanic.body)))))) (fun w h => h.drew) (fun w h => h) (T.pu 54 (.slice Ab lb.length cb) (T.pi 55 ((lb.length : Nat) : Int) (T.pb 56 (((lb.length : Nat) : Int) == 0) (T.pb 57 (((lb.length : Nat) : Int) == 0) (T.bk [(4, true), (5, true), (6, true), (7, true), (8, true), (9, true), (10, true), (11, true), (12, true), (13, true), (14, false), (15, true)] [(16, true), (17, false)] 3 false (((lb.length : Nat) : Int) == 0) 57 69 (.bool ((decide (0 < ((la.length : Nat) : Int))) && (vless (la[0]!) (lb[0]!)))) (fun hg29 => ?_) ?_))))))))))
    ·
     have hg29_ := hg29
     have hg29' := ne_of_beq_false hg29
     refine T.pu 58 (.slice Aa la.length ca) (T.pi 59 ((la.length : Nat) : Int) (T.pb 60 (decide (0 < ((la.length : Nat) : Int))) (T.pb 61 (decide (0 < ((la.length : Nat) : Int))) (T.bk [(8, true), (9, true), (10, true), (11, true), (12, true), (13, true), (14, false)] [(15, true)] 7 true (decide (0 < ((la.length : Nat) : Int))) 61 68 (.bool (vless (la[0]!) (lb[0]!))) (fun hg30 => ?_) ?_))))
     ·
      have hg30_ := hg30
      have hg30' := of_decide_eq_true hg30
      refine T.pu 62 (.slice Aa la.length ca) ?_
      have hbg31 : 0 < la.length := by omega
      obtain ⟨b32, o33, hA34, hr35⟩ := (show Arr (St w (Hr7 ++ (Hr25 ++ (Hr21 ++ [])))) Aa la from hAa.weak (fun w h => (h.perm ((((pm0.append_left Hr25).trans (List.perm_append_comm_assoc _ _ _)).append_left Hr7).trans (List.perm_append_comm_assoc _ _ _))).part (List.Sublist.append (List.Sublist.refl _) (List.nil_sublist _)))) 0 hbg31
      have hy36 := rng_bang hbg31 hr35
      refine T.ix 63 25 43 22 Aa la.length ca 0 0 b32 o33 hA34 (by omega) (by omega) (T.lr true 64 (la[0]!).cs 43 b32 (o33 + 0 * 22) hy36 (T.pu 65 (.slice Ab lb.length cb) ?_))
      have hbg37 : 0 < lb.length := by omega
      obtain ⟨b38, o39, hA40, hr41⟩ := (show Arr (St w (Hr7 ++ (Hr25 ++ (Hr21 ++ [])))) Ab lb from hAb.weak (fun w h => (h.perm ((pm0.append_left Hr7).trans (List.perm_append_comm_assoc _ _ _))).part (List.Sublist.append (List.Sublist.refl _) (List.nil_sublist _)))) 0 hbg37
      have hy42 := rng_bang hbg37 hr41
      refine T.ix 66 25 43 22 Ab lb.length cb 0 0 b38 o39 hA40 (by omega) (by omega) (T.lr true 67 (lb[0]!).cs 43 b38 (o39 + 0 * 22) hy42 (T.cp 68 57 #[.agg (la[0]!).cs, .agg (lb[0]!).cs] (.bool (vless (la[0]!) (lb[0]!))) ent57 (fun w hw => rvless_c (la[0]!) (lb[0]!) w) (fun w h => h) ?_))
      exact T.blkEnd (by kernel_rfl) (fun w h => h)
     refine T.an 69 (decide (0 < ((la.length : Nat) : Int))) (vless (la[0]!) (lb[0]!)) ?_
     exact T.blkEnd (by kernel_rfl) (fun w h => h)
    refine T.oo 70 (((lb.length : Nat) : Int) == 0) ((decide (0 < ((la.length : Nat) : Int))) && (vless (la[0]!) (lb[0]!))) (T.pb 53 ((((lb.length : Nat) : Int) == 0) || ((decide (0 < ((la.length : Nat) : Int))) && (vless (la[0]!) (lb[0]!)))) (T.nil (QN.seq (W.cd ((((lb.length : Nat) : Int) == 0) || ((decide (0 < ((la.length : Nat) : Int))) && (vless (la[0]!) (lb[0]!)))) (fun h43 => ?_) (fun h43 => ?_)))))
    ·
     refine W.seq (W.rg od7 (T.pu 71 (.slice A7 out.length c7) (T.pu 72 (.slice Aa la.length ca) ?_)))
     have hla0 : 0 < la.length := mrg_c1 h28 h43
     obtain ⟨b44, o45, hA46, hr47⟩ := (show Arr (St w (Hr7 ++ (Hr25 ++ (Hr21 ++ [])))) Aa la from hAa.weak (fun w h => (h.perm ((((pm0.append_left Hr25).trans (List.perm_append_comm_assoc _ _ _)).append_left Hr7).trans (List.perm_append_comm_assoc _ _ _))).part (List.Sublist.append (List.Sublist.refl _) (List.nil_sublist _)))) 0 hla0
     refine T.ix 73 25 43 22 Aa la.length ca 0 0 b44 o45 hA46 (by omega) (by omega) (T.lr false 74 (la[0]'hla0).cs 43 b44 (o45 + 0 * 22) hr47 (T.lit 75 25 43 1 #[(0, .agg (la[0]'hla0).cs)] (cells ([(la[0]'hla0)] : List Vt)).toArray (by kernel_rfl) (by kernel_rfl) (by kernel_rfl) (by kernel_rfl) tv3 (fun b48 => T.appC 76 25 43 64 A7 c7 (out : List Vt) Hr7 b48 0 1 ([(la[0]'hla0)] : List Vt) ((pm0.cons _).trans List.perm_middle.symm) (by kernel_rfl) (by kernel_rfl) (by kernel_rfl) (by kernel_rfl) hrow7 (fun w h => St.rangeM h (cells ([(la[0]'hla0)] : List Vt)).toArray (List.mem_append_right _ mm0) (by kernel_rfl)) (by unfold maxLen; first | omega | (simp; omega)) (by first | omega | (simp; omega)) tv3 (fun A49 c50 Hr51 hrow52 => T.pu 7 (.slice A49 ((out ++ ([(la[0]'hla0)])).length) c50) (T.nil (QN.seq (W.rg od3 ?_)))))))
     have hla0 : 0 < la.length := mrg_c1 h28 h43
     refine T.pu 77 (.slice Aa la.length ca) (T.sliceFrom 78 25 43 22 Aa la.length ca 1 1 ((la.drop 1).length) (by kernel_rfl) (by kernel_rfl) (by kernel_rfl) (by kernel_rfl) (by omega) (by omega) (by simp) (T.pu 5 (.slice (offA Aa ca 1 22) ((la.drop 1).length) (ca - 1)) (T.nil (QN.blkNormal (QN.blkNormal (QN.back (la.drop 1, offA Aa ca 1 22, ca - 1, lb, Ab, cb, out ++ ([(la[0]'hla0)]), A49, c50, Hr51) ?_ ?_ (by kernel_rfl) (fun w h => (h.perm (pm0.trans ((((pm0.cons _).trans List.perm_middle.symm).trans (((pm0.cons _).trans List.perm_middle.symm).append_left Hr25)).append_left Hr51))).part (List.Sublist.append (List.Sublist.refl _) (List.Sublist.append (List.Sublist.refl _) (List.Sublist.append (List.Sublist.refl _) (List.nil_sublist _)))))))))))
     ·
      try dsimp only
      exact ⟨hmg.left (h0 := hla0) (mrg_c1b hmg.sb.right h43), by first | omega | (simp; omega), by first | omega | (simp; omega), Arr.drop hAa ca 1 (by omega), hAb, hrow52⟩
     · show _ < la.length + lb.length; simp only [List.length_drop]; omega
    ·
     have h43l := (Bool.or_eq_false_iff.1 h43).1
     have h43r := (Bool.or_eq_false_iff.1 h43).2
     have h43l' := ne_of_beq_false h43l
     refine W.seq (W.drawn (Ψ := St w (Hr7 ++ (Hr25 ++ (Hr21 ++ [])))) (St w (Hr7 ++ (Hr25 ++ (Hr21 ++ [])))) [(0, true), (1, true), (2, true), (3, true), (4, true), (5, true), (6, true), (7, true), (8, true), (9, true), (10, false), (11, true), (12, false)] hmx (by kernel_rfl) (NoPanic.then (NoPanic.inBlock (NoPanic.inBlock (NoPanic.then (NoPanic.inBlock (NoPanic.then NoPanic.body)))))) (fun w h => h.drew) (fun w h => h) (T.pu 80 (.slice Aa la.length ca) (T.pi 81 ((la.length : Nat) : Int) (T.pb 82 (((la.length : Nat) : Int) == 0) (T.pb 83 (((la.length : Nat) : Int) == 0) (T.bk [(4, true), (5, true), (6, true), (7, true), (8, true), (9, true), (10, false)] [(11, true), (12, false)] 3 false (((la.length : Nat) : Int) == 0) 83 90 (.bool (vless (lb[0]!) (la[0]!))) (fun hg53 => ?_) ?_))))))
     ·
      have hg53_ := hg53
      have hg53' := ne_of_beq_false hg53
      refine T.pu 84 (.slice Ab lb.length cb) ?_
      have hlb9 : 0 < lb.length := (mrg_no1 h43).1
      have hbg54 : 0 < lb.length := by omega
      obtain ⟨b55, o56, hA57, hr58⟩ := (show Arr (St w (Hr7 ++ (Hr25 ++ (Hr21 ++ [])))) Ab lb from hAb.weak (fun w h => (h.perm ((pm0.append_left Hr7).trans (List.perm_append_comm_assoc _ _ _))).part (List.Sublist.append (List.Sublist.refl _) (List.nil_sublist _)))) 0 hbg54
      have hy59 := rng_bang hbg54 hr58
      refine T.ix 85 25 43 22 Ab lb.length cb 0 0 b55 o56 hA57 (by omega) (by omega) (T.lr true 86 (lb[0]!).cs 43 b55 (o56 + 0 * 22) hy59 (T.pu 87 (.slice Aa la.length ca) ?_))
      have hbg60 : 0 < la.length := by omega
      obtain ⟨b61, o62, hA63, hr64⟩ := (show Arr (St w (Hr7 ++ (Hr25 ++ (Hr21 ++ [])))) Aa la from hAa.weak (fun w h => (h.perm ((((pm0.append_left Hr25).trans (List.perm_append_comm_assoc _ _ _)).append_left Hr7).trans (List.perm_append_comm_assoc _ _ _))).part (List.Sublist.append (List.Sublist.refl _) (List.nil_sublist _)))) 0 hbg60
      have hy65 := rng_bang hbg60 hr64
      refine T.ix 88 25 43 22 Aa la.length ca 0 0 b61 o62 hA63 (by omega) (by omega) (T.lr true 89 (la[0]!).cs 43 b61 (o62 + 0 * 22) hy65 (T.cp 90 57 #[.agg (lb[0]!).cs, .agg (la[0]!).cs] (.bool (vless (lb[0]!) (la[0]!))) ent57 (fun w hw => rvless_c (lb[0]!) (la[0]!) w) (fun w h => h) ?_))
      exact T.blkEnd (by kernel_rfl) (fun w h => h)
     refine T.oo 91 (((la.length : Nat) : Int) == 0) (vless (lb[0]!) (la[0]!)) (T.pb 79 ((((la.length : Nat) : Int) == 0) || (vless (lb[0]!) (la[0]!))) (T.nil (QN.seq (W.cd ((((la.length : Nat) : Int) == 0) || (vless (lb[0]!) (la[0]!))) (fun h66 => ?_) (fun h66 => ?_)))))
     ·
      refine W.seq (W.rg od7 (T.pu 92 (.slice A7 out.length c7) (T.pu 93 (.slice Ab lb.length cb) ?_)))
      have hlb0 : 0 < lb.length := (mrg_no1 h43).1
      obtain ⟨b67, o68, hA69, hr70⟩ := (show Arr (St w (Hr7 ++ (Hr25 ++ (Hr21 ++ [])))) Ab lb from hAb.weak (fun w h => (h.perm ((pm0.append_left Hr7).trans (List.perm_append_comm_assoc _ _ _))).part (List.Sublist.append (List.Sublist.refl _) (List.nil_sublist _)))) 0 hlb0
      refine T.ix 94 25 43 22 Ab lb.length cb 0 0 b67 o68 hA69 (by omega) (by omega) (T.lr false 95 (lb[0]'hlb0).cs 43 b67 (o68 + 0 * 22) hr70 (T.lit 96 25 43 1 #[(0, .agg (lb[0]'hlb0).cs)] (cells ([(lb[0]'hlb0)] : List Vt)).toArray (by kernel_rfl) (by kernel_rfl) (by kernel_rfl) (by kernel_rfl) tv3 (fun b71 => T.appC 97 25 43 64 A7 c7 (out : List Vt) Hr7 b71 0 1 ([(lb[0]'hlb0)] : List Vt) ((pm0.cons _).trans List.perm_middle.symm) (by kernel_rfl) (by kernel_rfl) (by kernel_rfl) (by kernel_rfl) hrow7 (fun w h => St.rangeM h (cells ([(lb[0]'hlb0)] : List Vt)).toArray (List.mem_append_right _ mm0) (by kernel_rfl)) (by unfold maxLen; first | omega | (simp; omega)) (by first | omega | (simp; omega)) tv3 (fun A72 c73 Hr74 hrow75 => T.pu 7 (.slice A72 ((out ++ ([(lb[0]'hlb0)])).length) c73) (T.nil (QN.seq (W.rg od3 ?_)))))))
      have hlb0 : 0 < lb.length := (mrg_no1 h43).1
      refine T.pu 98 (.slice Ab lb.length cb) (T.sliceFrom 99 25 43 22 Ab lb.length cb 1 1 ((lb.drop 1).length) (by kernel_rfl) (by kernel_rfl) (by kernel_rfl) (by kernel_rfl) (by omega) (by omega) (by simp) (T.pu 6 (.slice (offA Ab cb 1 22) ((lb.drop 1).length) (cb - 1)) (T.nil (QN.blkNormal (QN.blkNormal (QN.back (la, Aa, ca, lb.drop 1, offA Ab cb 1 22, cb - 1, out ++ ([(lb[0]'hlb0)]), A72, c73, Hr74) ?_ ?_ (by kernel_rfl) (fun w h => (h.perm (pm0.trans ((((pm0.cons _).trans List.perm_middle.symm).trans (((pm0.cons _).trans List.perm_middle.symm).append_left Hr25)).append_left Hr74))).part (List.Sublist.append (List.Sublist.refl _) (List.Sublist.append (List.Sublist.refl _) (List.Sublist.append (List.Sublist.refl _) (List.nil_sublist _)))))))))))
      ·
       try dsimp only
       exact ⟨(hmg.swap.left (h0 := hlb0) (mrg_c2b hmg.sa.right h66)).swap, by first | omega | (simp; omega), by first | omega | (simp; omega), hAa, Arr.drop hAb cb 1 (by omega), hrow75⟩
      · show _ < la.length + lb.length; simp only [List.length_drop]; omega
     ·
      have h66l := (Bool.or_eq_false_iff.1 h66).1
      have h66r := (Bool.or_eq_false_iff.1 h66).2
      have h66l' := ne_of_beq_false h66l
      refine W.rg od3 ?_
      have hla0 : 0 < la.length := (mrg_no2 (mrg_no1 h43) h66).1
      refine T.pu 51 (.slice Aa la.length ca) (T.sliceFrom 52 25 43 22 Aa la.length ca 1 1 ((la.drop 1).length) (by kernel_rfl) (by kernel_rfl) (by kernel_rfl) (by kernel_rfl) (by omega) (by omega) (by simp) (T.pu 5 (.slice (offA Aa ca 1 22) ((la.drop 1).length) (ca - 1)) (T.nil (QN.blkNormal (QN.blkNormal (QN.back (la.drop 1, offA Aa ca 1 22, ca - 1, lb, Ab, cb, out, A7, c7, Hr7) ?_ ?_ (by kernel_rfl) (fun w h => h)))))))
      ·
       try dsimp only
       exact ⟨hmg.drop (h0 := hla0) ((mrg_no2 (mrg_no1 h43) h66).2 _), by first | omega | (simp; omega), by first | omega | (simp; omega), Arr.drop hAa ca 1 (by omega), hAb, hrow7⟩
      · show _ < la.length + lb.length; simp only [List.length_drop]; omega
   ·
    have h28l := (Bool.or_eq_false_iff.1 h28).1
    have h28r := (Bool.or_eq_false_iff.1 h28).2
    have h28l' := of_decide_eq_false h28l
    have h28r' := of_decide_eq_false h28r
    refine W.exit (QN.thenExit (QN.thenExit (QN.blkHit (QN.seq (W.seq (W.rg od2 (T.pu 100 (.slice A7 out.length c7) (T.pu 2 (.slice A7 out.length c7) (T.nil (QN.seq (W.ret (QN.done (.inl rfl) 2 (.slice A7 out.length c7) rfl (by kernel_rfl) (fun w hw => ?_)))))))))))))
    exact (have e0 := mrg_end h28; have e1 : out = srtV l := hmg.fin e0.1 e0.2; by rw [← e1]; exact ⟨A7, c7, Hr7, rfl, hrow7, hw.part (List.sublist_append_left _ _)⟩)
theorem rsorted_n : ∀ (n : Nat) (l : List Vt) (A : Option Addr) (c : Nat) (w : World) (hk : l.length ≤ n) (hl : l.length ≤ 1000) (hc : l.length ≤ c) (hr : Rd w A l), Calls Tryz.prog 33 #[.slice A l.length c] w (fun rr w' => ∃ A c Hr, rr = .returned (.slice A (srtV l).length c) ∧ RowIs 43 22 A (srtV l).length c (cells (srtV l)) Hr ∧ St w Hr w')
  | 0, l, A, c, w, hk, hl, hc, hr => rsorted_step 0 (fun l A c w hk => absurd hk (by omega)) l A c w hk hl hc hr
  | n + 1, l, A, c, w, hk, hl, hc, hr => rsorted_step (n + 1) (fun l A c w hk => rsorted_n n l A c w (by omega)) l A c w hk hl hc hr
theorem rsorted_c (l : List Vt) (A : Option Addr) (c : Nat) (w : World) (hl : l.length ≤ 1000) (hc : l.length ≤ c) (hr : Rd w A l) : Calls Tryz.prog 33 #[.slice A l.length c] w (fun rr w' => ∃ A c Hr, rr = .returned (.slice A (srtV l).length c) ∧ RowIs 43 22 A (srtV l).length c (cells (srtV l)) Hr ∧ St w Hr w') := rsorted_n l.length l A c w (Nat.le_refl _) hl hc hr
theorem fold_len {m : Int} {S : List Vt} {k : Nat} : ((S.take k).foldl (acc2 m) []).length ≤ k := by
  obtain ⟨t, h1, h2⟩ := fold_sub m (S.take k) []
  rw [h1, List.nil_append]
  exact Nat.le_trans h2.length_le (List.length_take_le _ _)
set_option maxRecDepth 100000 in
set_option maxHeartbeats 2000000 in
theorem raccepted_c (m : Int) (p : Nm) (l : List Vt) (A : Option Addr) (c : Nat) (w : World) (hm : W64 m) (hok : ∀ u ∈ l, W64 u.support) (hl : l.length ≤ 1000) (hr : Rd w A l) : Calls Tryz.prog 25 #[.int .i64 m, .agg p.cs, .slice A l.length c] w (fun rr w' => ∃ A c Hr, rr = .returned (.slice A (accV m p l).length c) ∧ RowIs 43 22 A (accV m p l).length c (cells (accV m p l)) Hr ∧ St w Hr w') := by
 have hsu : ∀ u ∈ ascV p l, W64 u.support := fun u hu => hok u ((ascV_mem p l u).1 hu).1
 refine calls_W (n := 76) Tryz.func25 rfl [(0, .int .i64 m), (1, .agg p.cs), (2, .slice A l.length c)] rfl ⟨by kernel_rfl, by kernel_rfl⟩ (W.weak (Ψ := St w []) (fun w' h => by rw [h]; exact St.start w) (W.seq (W.rg od2 (T.bx 4 24 (.agg p.cs) (p.cs) tv3 (fun b1 => T.pu 6 (.slice none 0 0) (T.nil (QN.seq (W.seq (W.rg od1 (T.pu 7 (.slice none 0 0) (T.nil (QN.seq (W.seq (W.seq (W.rg od1 (T.pi 8 0 (T.nil (QN.seq (W.block (W.loop (σ := Nat × List Vt × Option Addr × Nat × List (Nat × Obj)) (fun gs => gs.1 ≤ l.length ∧ gs.2.1 = (l.take gs.1).filter (fun x => x.par == p) ∧ RowIs 43 22 gs.2.2.1 gs.2.1.length gs.2.2.2.1 (cells gs.2.1) gs.2.2.2.2) (fun gs => [(0, .int .i64 m), (2, .slice A l.length c), (4, .pointer (some ⟨b1, 0, none⟩)), (6, .slice none 0 0), (7, .slice gs.2.2.1 gs.2.1.length gs.2.2.2.1), (8, .int .i64 (gs.1 : Int))]) (fun gs => St w (gs.2.2.2.2 ++ [(b1, Obj.cells p.cs 24 (0, 0))])) (fun gs => l.length - gs.1) (0, [], none, 0, []) ?_ (by kernel_rfl) (fun w h => h) ?_))))))))))))))))))))
 ·
  try dsimp only
  exact ⟨Nat.zero_le _, rfl, RowIs.nil⟩
 rintro ⟨k, own, A9, c9, Hr9⟩ hI_
 obtain ⟨hk, hown, hrow9⟩ : k ≤ l.length ∧ own = (l.take k).filter (fun x => x.par == p) ∧ RowIs 43 22 A9 own.length c9 (cells own) Hr9 := hI_
 have hol : own.length ≤ k := by rw [hown]; exact Nat.le_trans (List.length_filter_le _ _) (List.length_take_le _ _)
 refine W.seq (W.seq (W.rg od4 (T.pi 12 k (T.pu 13 (.slice A l.length c) (T.pi 14 ((l.length : Nat) : Int) (T.pb 15 (decide ((k : Int) < ((l.length : Nat) : Int))) (T.nil (QN.seq (W.cd (decide ((k : Int) < ((l.length : Nat) : Int))) (fun h2 => ?_) (fun h2 => ?_))))))))))
 ·
  have h2' := of_decide_eq_true h2
  have hl3 : k < l.length := by omega
  refine W.skip (QN.seq (W.seq (W.block (W.seq (W.drawn (Ψ := St w (Hr9 ++ [(b1, Obj.cells p.cs 24 (0, 0))])) (St w (Hr9 ++ [(b1, Obj.cells p.cs 24 (0, 0))])) [(0, true), (1, true), (2, true), (3, true), (4, true), (5, true), (6, true)] hmx (by kernel_rfl) (NoPanic.then (NoPanic.inBlock (NoPanic.then (NoPanic.then (NoPanic.inBlock (NoPanic.then NoPanic.body)))))) (fun w h => h.drew) (fun w h => h) (T.pu 18 (.slice A l.length c) (T.pi 19 k ?_)))))))
  obtain ⟨b4, o5, hA6, hr7⟩ := (Rd.arr hr _) k hl3
  refine T.ix 20 25 43 22 A l.length c (k : Int) k b4 o5 hA6 rfl (by omega) (T.pu 21 (.pointer (some ⟨b4, o5 + k * 22 + 6, none⟩)) (T.lr true 22 ((l[k]'hl3).par).cs 24 b4 (o5 + k * 22 + 6) (fun w h => range_of_range (hr7 w h) 6 ((l[k]'hl3).par).cs (by kernel_rfl)) (T.lr true 23 p.cs 24 b1 0 (fun w h => St.rangeM h p.cs (List.mem_append_right _ mm0) (by kernel_rfl)) (T.eqq 24 (((l[k]'hl3).par) == p) (((l[k]'hl3).par) == p) false 24 ((l[k]'hl3).par).cs p.cs (by kernel_rfl) (by kernel_rfl) (by kernel_rfl) (by kernel_rfl) (fun w => eq_nm w ((l[k]'hl3).par) p) (T.nil (QN.seq (W.cd (((l[k]'hl3).par) == p) (fun h8 => ?_) (fun h8 => ?_))))))))
  ·
   refine W.rg od8 (T.pu 25 (.slice A9 own.length c9) (T.pu 26 (.slice A l.length c) (T.pi 27 k ?_)))
   obtain ⟨b9, o10, hA11, hr12⟩ := (Rd.arr hr _) k hl3
   refine T.ix 28 25 43 22 A l.length c (k : Int) k b9 o10 hA11 rfl (by omega) (T.lr false 29 (l[k]'hl3).cs 43 b9 (o10 + k * 22) hr12 (T.lit 30 25 43 1 #[(0, .agg (l[k]'hl3).cs)] (cells ([(l[k]'hl3)] : List Vt)).toArray (by kernel_rfl) (by kernel_rfl) (by kernel_rfl) (by kernel_rfl) tv3 (fun b13 => T.appC 31 25 43 64 A9 c9 (own : List Vt) Hr9 b13 0 1 ([(l[k]'hl3)] : List Vt) ((pm0.cons _).trans List.perm_middle.symm) (by kernel_rfl) (by kernel_rfl) (by kernel_rfl) (by kernel_rfl) hrow9 (fun w h => St.rangeM h (cells ([(l[k]'hl3)] : List Vt)).toArray (List.mem_append_right _ mm0) (by kernel_rfl)) (by unfold maxLen; first | omega | (simp; omega)) (by first | omega | (simp; omega)) tv3 (fun A14 c15 Hr16 hrow17 => T.pu 7 (.slice A14 ((own ++ ([(l[k]'hl3)])).length) c15) (T.nil (QN.blkNormal (QN.seq (W.rg od3 (T.pi 16 k (T.pw 17 ((k : Int) + 1) (T.pi 8 ((k : Int) + 1) (T.nil (QN.back (k + 1, own ++ ([(l[k]'hl3)]), A14, c15, Hr16) ?_ ?_ (by kernel_rfl) (fun w h => (h.perm (pm0.trans (pm1.append_left Hr16))).part (List.Sublist.append (List.Sublist.refl _) ns1)))))))))))))))
   ·
    try dsimp only
    exact ⟨by omega, filt_yes (p := fun x => x.par == p) (by omega) hown h8, hrow17⟩
   · show l.length - _ < l.length - _; omega
  ·
   refine W.skip (QN.blkNormal (QN.seq (W.rg od3 (T.pi 16 k (T.pw 17 ((k : Int) + 1) (T.pi 8 ((k : Int) + 1) (T.nil (QN.back (k + 1, own, A9, c9, Hr9) ?_ ?_ (by kernel_rfl) (fun w h => h)))))))))
   ·
    try dsimp only
    exact ⟨by omega, filt_no (p := fun x => x.par == p) (by omega) hown h8, hrow9⟩
   · show l.length - _ < l.length - _; omega
 ·
  have h2' := of_decide_eq_false h2
  refine W.exit (QN.thenExit (QN.thenExit (QN.blkHit (QN.seq (W.seq (W.rg od3 (T.pu 32 (.slice A9 own.length c9) (T.callR 33 33 #[.slice A9 own.length c9] 43 22 (ascV p l).length (cells (ascV p l)) (by kernel_rfl) (by kernel_rfl) ent33 (fun w hw => (show srtV own = ascV p l by rw [ascV_srt, hown, take_end (by omega)]) ▸ rsorted_c own A9 c9 w (by omega) (RowIs.cap hrow9) (Arr.rd (Arr.row hrow9 rfl rfl _) hw)) tv3 (fun A18 c19 Hr20 hrow21 => T.pu 7 (.slice A18 ((ascV p l).length) c19) (T.nil (QN.seq (W.seq (W.rg od1 (T.pu 9 (.slice none 0 0) (T.nil (QN.seq (W.seq (W.rg od1 (T.pi 10 0 (T.nil (QN.seq (W.seq (W.seq (W.rg od1 (T.pi 11 0 (T.nil (QN.seq (W.block ?_))))))))))))))))))))))))))))
  have hav := ascV_len p l
  refine W.loop (σ := Nat × List Vt × Nat × Option Addr × Nat × List (Nat × Obj)) (fun gs => gs.1 ≤ (ascV p l).length ∧ gs.2.1 = ((ascV p l).take gs.1).foldl (acc2 m) [] ∧ FromOk (ascV p l) gs.2.1 gs.2.2.1 gs.1 ∧ RowIs 43 22 gs.2.2.2.1 gs.2.1.length gs.2.2.2.2.1 (cells gs.2.1) gs.2.2.2.2.2) (fun gs => [(0, .int .i64 m), (6, .slice none 0 0), (7, .slice A18 ((ascV p l).length) c19), (9, .slice gs.2.2.2.1 gs.2.1.length gs.2.2.2.2.1), (10, .int .i64 (gs.2.2.1 : Int)), (11, .int .i64 (gs.1 : Int))]) (fun gs => St w (gs.2.2.2.2.2 ++ (Hr20 ++ (Hr9 ++ [(b1, Obj.cells p.cs 24 (0, 0))])))) (fun gs => (ascV p l).length - gs.1) (0, [], 0, none, 0, []) ?_ (by kernel_rfl) (fun w h => h) ?_
  ·
   try dsimp only
   exact ⟨Nat.zero_le _, rfl, ⟨Nat.le_refl _, fun u hu => by cases hu⟩, RowIs.nil⟩
  rintro ⟨k1, out, fr, A7, c7, Hr7⟩ hI_
  obtain ⟨hk1, hout, hfrm, hrow7⟩ : k1 ≤ (ascV p l).length ∧ out = ((ascV p l).take k1).foldl (acc2 m) [] ∧ FromOk (ascV p l) out fr k1 ∧ RowIs 43 22 A7 out.length c7 (cells out) Hr7 := hI_
  have hcap := RowIs.cap hrow7
  have hofl : out.length ≤ k1 := by rw [hout]; exact fold_len
  have hfl := hfrm.1
  refine W.seq (W.seq (W.rg od4 (T.pi 34 k1 (T.pu 35 (.slice A18 ((ascV p l).length) c19) (T.pi 36 (((ascV p l).length : Nat) : Int) (T.pb 37 (decide ((k1 : Int) < (((ascV p l).length : Nat) : Int))) (T.nil (QN.seq (W.cd (decide ((k1 : Int) < (((ascV p l).length : Nat) : Int))) (fun h22 => ?_) (fun h22 => ?_))))))))))
  ·
   have h22' := of_decide_eq_true h22
   have hl23 : k1 < (ascV p l).length := by omega
   refine W.skip (QN.seq (W.seq (W.block (W.seq (W.block (W.loop (σ := Nat) (fun gs => FromOk (ascV p l) out gs k1) (fun gs => [(0, .int .i64 m), (6, .slice none 0 0), (7, .slice A18 ((ascV p l).length) c19), (9, .slice A7 out.length c7), (10, .int .i64 gs), (11, .int .i64 k1), (34, .int .i64 k1), (35, .slice A18 ((ascV p l).length) c19), (36, .int .i64 (((ascV p l).length : Nat) : Int)), (37, .bool (decide ((k1 : Int) < (((ascV p l).length : Nat) : Int))))]) (fun gs => St w (Hr7 ++ (Hr20 ++ (Hr9 ++ [(b1, Obj.cells p.cs 24 (0, 0))])))) (fun gs => out.length - gs) fr ?_ (by kernel_rfl) (fun w h => h) ?_))))))
   ·
    try dsimp only
    exact hfrm
   rintro f2 hI_
   have hI_ : FromOk (ascV p l) out f2 k1 := hI_
   have hf2 : FromOk (ascV p l) out f2 k1 := hI_
   have hfl2 := hf2.1
   refine W.seq (W.seq (W.drawn (Ψ := St w (Hr7 ++ (Hr20 ++ (Hr9 ++ [(b1, Obj.cells p.cs 24 (0, 0))])))) (St w (Hr7 ++ (Hr20 ++ (Hr9 ++ [(b1, Obj.cells p.cs 24 (0, 0))])))) [(0, true), (1, true), (2, true), (3, true), (4, true), (5, true), (6, true), (7, true), (8, true), (9, true), (10, true), (11, true), (12, true), (13, true), (14, true), (15, true), (16, true)] hmx (by kernel_rfl) (NoPanic.then (NoPanic.then (NoPanic.then (NoPanic.inBlock (NoPanic.then (NoPanic.inBlock (NoPanic.then (NoPanic.then (NoPanic.inBlock (NoPanic.then NoPanic.body)))))))))) (fun w h => h.drew) (fun w h => h) (T.pi 40 f2 (T.pu 41 (.slice A7 out.length c7) (T.pi 42 ((out.length : Nat) : Int) (T.pb 43 (decide ((f2 : Int) < ((out.length : Nat) : Int))) (T.pb 44 (decide ((f2 : Int) < ((out.length : Nat) : Int))) (T.bk [(5, true), (6, true), (7, true), (8, true), (9, true), (10, true), (11, true), (12, true), (13, true), (14, true), (15, true)] [(16, true)] 4 true (decide ((f2 : Int) < ((out.length : Nat) : Int))) 44 55 (.bool (((out[f2]!).slot) != (((ascV p l)[k1]'hl23).slot))) (fun hg24 => ?_) ?_))))))))
   ·
    have hg24_ := hg24
    have hg24' := of_decide_eq_true hg24
    refine T.pu 45 (.slice A7 out.length c7) (T.pi 46 f2 ?_)
    have hbg25 : f2 < out.length := by omega
    obtain ⟨b26, o27, hA28, hr29⟩ := (Arr.row hrow7 rfl rfl _) f2 hbg25
    have hy30 := rng_bang hbg25 hr29
    refine T.ix 47 25 43 22 A7 out.length c7 (f2 : Int) f2 b26 o27 hA28 rfl (by omega) (T.pu 48 (.pointer (some ⟨b26, o27 + f2 * 22 + 1, none⟩)) (T.ld true 49 (.int .i64 ((out[f2]!).slot)) 3 b26 (o27 + f2 * 22 + 1) (fun w h => cell_of_range (hy30 w h) 1 (by kernel_rfl)) (T.pu 50 (.slice A18 ((ascV p l).length) c19) (T.pi 51 k1 ?_))))
    obtain ⟨b31, o32, hA33, hr34⟩ := (show Arr (St _ (Hr7 ++ (Hr20 ++ (Hr9 ++ [(b1, Obj.cells p.cs 24 (0, 0))])))) A18 (ascV p l) from (Arr.row hrow21 rfl rfl (Hr7 ++ (Hr9 ++ [(b1, Obj.cells p.cs 24 (0, 0))]))).weak (fun w h => h.perm ((pm0.append_left Hr7).trans (List.perm_append_comm_assoc _ _ _)))) k1 hl23
    refine T.ix 52 25 43 22 A18 ((ascV p l).length) c19 (k1 : Int) k1 b31 o32 hA33 rfl (by omega) (T.pu 53 (.pointer (some ⟨b31, o32 + k1 * 22 + 1, none⟩)) (T.ld true 54 (.int .i64 (((ascV p l)[k1]'hl23).slot)) 3 b31 (o32 + k1 * 22 + 1) (fun w h => cell_of_range (hr34 w h) 1 (by kernel_rfl)) (T.pb 55 (((out[f2]!).slot) != (((ascV p l)[k1]'hl23).slot)) ?_)))
    exact T.blkEnd (by kernel_rfl) (fun w h => h)
   refine T.an 56 (decide ((f2 : Int) < ((out.length : Nat) : Int))) (((out[f2]!).slot) != (((ascV p l)[k1]'hl23).slot)) (T.nil (QN.seq (W.cd ((decide ((f2 : Int) < ((out.length : Nat) : Int))) && (((out[f2]!).slot) != (((ascV p l)[k1]'hl23).slot))) (fun h35 => ?_) (fun h35 => ?_))))
   ·
    have h35l := (Bool.and_eq_true_iff.1 h35).1
    have h35r := (Bool.and_eq_true_iff.1 h35).2
    have h35l' := of_decide_eq_true h35l
    refine W.skip (QN.seq (W.block (W.rg od3 (T.pi 57 f2 (T.pw 58 ((f2 : Int) + 1) (T.pi 10 ((f2 : Int) + 1) (T.nil (QN.blkNormal (QN.back (f2 + 1) ?_ ?_ (by kernel_rfl) (fun w h => h))))))))))
    ·
     try dsimp only
     exact from_bk (by omega) hout hf2 h35
    · show out.length - _ < out.length - _; have := (from_bk (by omega) hout hf2 h35).1; omega
   ·
    refine W.exit (QN.thenExit (QN.thenExit (QN.blkHit (QN.seq (W.seq (W.drawn (Ψ := St w (Hr7 ++ (Hr20 ++ (Hr9 ++ [(b1, Obj.cells p.cs 24 (0, 0))])))) (St w (Hr7 ++ (Hr20 ++ (Hr9 ++ [(b1, Obj.cells p.cs 24 (0, 0))])))) [(0, true), (1, true), (2, true), (3, true), (4, true), (5, true), (6, true), (7, true), (8, false)] hmx (by kernel_rfl) (NoPanic.then (NoPanic.inBlock (NoPanic.then (NoPanic.then (NoPanic.inBlock (NoPanic.then NoPanic.body)))))) (fun w h => h.drew) (fun w h => h) (T.pi 59 m (T.pu 60 (.slice A18 ((ascV p l).length) c19) (T.pi 61 k1 ?_)))))))))
    obtain ⟨b36, o37, hA38, hr39⟩ := (show Arr (St _ (Hr7 ++ (Hr20 ++ (Hr9 ++ [(b1, Obj.cells p.cs 24 (0, 0))])))) A18 (ascV p l) from (Arr.row hrow21 rfl rfl (Hr7 ++ (Hr9 ++ [(b1, Obj.cells p.cs 24 (0, 0))]))).weak (fun w h => h.perm ((pm0.append_left Hr7).trans (List.perm_append_comm_assoc _ _ _)))) k1 hl23
    refine T.ix 62 25 43 22 A18 ((ascV p l).length) c19 (k1 : Int) k1 b36 o37 hA38 rfl (by omega) (T.lr true 63 ((ascV p l)[k1]'hl23).cs 43 b36 (o37 + k1 * 22) hr39 (T.pu 64 (.slice A7 out.length c7) (T.pi 65 f2 (T.sliceFrom 66 25 43 22 A7 out.length c7 (f2 : Int) f2 ((out.drop f2).length) (by kernel_rfl) (by kernel_rfl) (by kernel_rfl) (by kernel_rfl) (by omega) (by omega) (by simp) (T.cp 67 52 #[.int .i64 m, .agg ((ascV p l)[k1]'hl23).cs, .slice (offA A7 c7 f2 22) ((out.drop f2).length) (c7 - f2)] (.bool (allowB m ((ascV p l)[k1]'hl23) (out.drop f2))) ent52 (fun w hw => by rw [← rallow_eq]; exact rallowed_c _ _ _ _ _ (by assumption) (hsu _ (List.getElem_mem _)) (by first | omega | (simp; done) | (simp; omega)) w (Arr.rd (Arr.drop (Arr.row hrow7 rfl rfl _) c7 f2 (by omega)) hw)) (fun w h => h) (T.nil (QN.seq (W.cd (allowB m ((ascV p l)[k1]'hl23) (out.drop f2)) (fun h40 => ?_) (fun h40 => ?_)))))))))
    ·
     refine W.rg od8 (T.pu 68 (.slice A7 out.length c7) (T.pu 69 (.slice A18 ((ascV p l).length) c19) (T.pi 70 k1 ?_)))
     obtain ⟨b41, o42, hA43, hr44⟩ := (show Arr (St _ (Hr7 ++ (Hr20 ++ (Hr9 ++ [(b1, Obj.cells p.cs 24 (0, 0))])))) A18 (ascV p l) from (Arr.row hrow21 rfl rfl (Hr7 ++ (Hr9 ++ [(b1, Obj.cells p.cs 24 (0, 0))]))).weak (fun w h => h.perm ((pm0.append_left Hr7).trans (List.perm_append_comm_assoc _ _ _)))) k1 hl23
     refine T.ix 71 25 43 22 A18 ((ascV p l).length) c19 (k1 : Int) k1 b41 o42 hA43 rfl (by omega) (T.lr false 72 ((ascV p l)[k1]'hl23).cs 43 b41 (o42 + k1 * 22) hr44 (T.lit 73 25 43 1 #[(0, .agg ((ascV p l)[k1]'hl23).cs)] (cells ([((ascV p l)[k1]'hl23)] : List Vt)).toArray (by kernel_rfl) (by kernel_rfl) (by kernel_rfl) (by kernel_rfl) tv3 (fun b45 => T.appC 74 25 43 64 A7 c7 (out : List Vt) Hr7 b45 0 1 ([((ascV p l)[k1]'hl23)] : List Vt) ((pm0.cons _).trans List.perm_middle.symm) (by kernel_rfl) (by kernel_rfl) (by kernel_rfl) (by kernel_rfl) hrow7 (fun w h => St.rangeM h (cells ([((ascV p l)[k1]'hl23)] : List Vt)).toArray (List.mem_append_right _ mm0) (by kernel_rfl)) (by unfold maxLen; first | omega | (simp; omega)) (by first | omega | (simp; omega)) tv3 (fun A46 c47 Hr48 hrow49 => T.pu 9 (.slice A46 ((out ++ ([((ascV p l)[k1]'hl23)])).length) c47) (T.nil (QN.blkNormal (QN.seq (W.rg od3 (T.pi 38 k1 (T.pw 39 ((k1 : Int) + 1) (T.pi 11 ((k1 : Int) + 1) (T.nil (QN.back (k1 + 1, out ++ ([((ascV p l)[k1]'hl23)]), f2, A46, c47, Hr48) ?_ ?_ (by kernel_rfl) (fun w h => (h.perm (pm0.trans ((((pm0.cons _).trans List.perm_middle.symm).trans ((((pm0.cons _).trans List.perm_middle.symm).trans (pm1.append_left Hr9)).append_left Hr20)).append_left Hr48))).part (List.Sublist.append (List.Sublist.refl _) (List.Sublist.append (List.Sublist.refl _) (List.Sublist.append (List.Sublist.refl _) ns1)))))))))))))))))
     ·
      try dsimp only
      exact ⟨by omega, racc_yes (by omega) hout ((from_allow hf2 (by omega)).symm.trans h40), from_next hf2 (by rw [List.take_append_of_le_length hf2.1]) (by rw [List.length_append]; have := hf2.1; omega), hrow49⟩
     · show (ascV p l).length - _ < (ascV p l).length - _; omega
    ·
     refine W.skip (QN.blkNormal (QN.seq (W.rg od3 (T.pi 38 k1 (T.pw 39 ((k1 : Int) + 1) (T.pi 11 ((k1 : Int) + 1) (T.nil (QN.back (k1 + 1, out, f2, A7, c7, Hr7) ?_ ?_ (by kernel_rfl) (fun w h => h)))))))))
     ·
      try dsimp only
      exact ⟨by omega, racc_no (by omega) hout ((from_allow hf2 (by omega)).symm.trans h40), from_next hf2 rfl hf2.1, hrow7⟩
     · show (ascV p l).length - _ < (ascV p l).length - _; omega
  ·
   have h22' := of_decide_eq_false h22
   refine W.exit (QN.thenExit (QN.thenExit (QN.blkHit (QN.seq (W.seq (W.rg od2 (T.pu 75 (.slice A7 out.length c7) (T.pu 6 (.slice A7 out.length c7) (T.nil (QN.seq (W.ret (QN.done (.inl rfl) 6 (.slice A7 out.length c7) rfl (by kernel_rfl) (fun w hw => ?_)))))))))))))
   exact (have e1 : out = accV m p l := (by rw [accV_eq, hout, take_end (by omega)]); by rw [← e1]; exact ⟨A7, c7, Hr7, rfl, hrow7, hw.part (List.sublist_append_left _ _)⟩)
set_option maxRecDepth 100000 in
set_option maxHeartbeats 2000000 in
theorem rslot_c (l : List Vt) (s : Int) (A : Option Addr) (c : Nat) (w : World) (hl : l.length ≤ 1000) (hr : Rd w A l) : Calls Tryz.prog 24 #[.slice A l.length c, .int .i64 s] w (fun rr w' => ∃ A c Hr, rr = .returned (.slice A (l.filter (slP s)).length c) ∧ RowIs 43 22 A (l.filter (slP s)).length c (cells (l.filter (slP s))) Hr ∧ St w Hr w') := by
 refine calls_W (n := 28) Tryz.func24 rfl [(0, .slice A l.length c), (1, .int .i64 s)] rfl ⟨by kernel_rfl, by kernel_rfl⟩ (W.weak (Ψ := St w []) (fun w' h => by rw [h]; exact St.start w) (W.seq (W.rg od1 (T.pu 4 (.slice none 0 0) (T.nil (QN.seq (W.seq (W.rg od1 (T.pu 5 (.slice none 0 0) (T.nil (QN.seq (W.seq (W.seq (W.rg od1 (T.pi 6 0 (T.nil (QN.seq (W.block (W.loop (σ := Nat × List Vt × Option Addr × Nat × List (Nat × Obj)) (fun gs => gs.1 ≤ l.length ∧ gs.2.1 = (l.take gs.1).filter (slP s) ∧ RowIs 43 22 gs.2.2.1 gs.2.1.length gs.2.2.2.1 (cells gs.2.1) gs.2.2.2.2) (fun gs => [(0, .slice A l.length c), (1, .int .i64 s), (4, .slice none 0 0), (5, .slice gs.2.2.1 gs.2.1.length gs.2.2.2.1), (6, .int .i64 (gs.1 : Int))]) (fun gs => St w (gs.2.2.2.2 ++ [])) (fun gs => l.length - gs.1) (0, [], none, 0, []) ?_ (by kernel_rfl) (fun w h => h) ?_)))))))))))))))))))
 ·
  try dsimp only
  exact ⟨Nat.zero_le _, rfl, RowIs.nil⟩
 rintro ⟨k, own, A9, c9, Hr9⟩ hI_
 obtain ⟨hk, hown, hrow9⟩ : k ≤ l.length ∧ own = (l.take k).filter (slP s) ∧ RowIs 43 22 A9 own.length c9 (cells own) Hr9 := hI_
 have hol : own.length ≤ k := by rw [hown]; exact Nat.le_trans (List.length_filter_le _ _) (List.length_take_le _ _)
 refine W.seq (W.seq (W.rg od4 (T.pi 7 k (T.pu 8 (.slice A l.length c) (T.pi 9 ((l.length : Nat) : Int) (T.pb 10 (decide ((k : Int) < ((l.length : Nat) : Int))) (T.nil (QN.seq (W.cd (decide ((k : Int) < ((l.length : Nat) : Int))) (fun h1 => ?_) (fun h1 => ?_))))))))))
 ·
  have h1' := of_decide_eq_true h1
  have hl2 : k < l.length := by omega
  refine W.skip (QN.seq (W.seq (W.block (W.seq (W.rg od7 (T.pu 13 (.slice A l.length c) (T.pi 14 k ?_)))))))
  obtain ⟨b3, o4, hA5, hr6⟩ := (Rd.arr hr _) k hl2
  refine T.ix 15 25 43 22 A l.length c (k : Int) k b3 o4 hA5 rfl (by omega) (T.pu 16 (.pointer (some ⟨b3, o4 + k * 22 + 1, none⟩)) (T.ld false 17 (.int .i64 ((l[k]'hl2).slot)) 3 b3 (o4 + k * 22 + 1) (fun w h => cell_of_range (hr6 w h) 1 (by kernel_rfl)) (T.pi 18 s (T.pb 19 (((l[k]'hl2).slot) == s) (T.nil (QN.seq (W.cd (((l[k]'hl2).slot) == s) (fun h7 => ?_) (fun h7 => ?_))))))))
  ·
   refine W.rg od8 (T.pu 20 (.slice A9 own.length c9) (T.pu 21 (.slice A l.length c) (T.pi 22 k ?_)))
   obtain ⟨b8, o9, hA10, hr11⟩ := (Rd.arr hr _) k hl2
   refine T.ix 23 25 43 22 A l.length c (k : Int) k b8 o9 hA10 rfl (by omega) (T.lr false 24 (l[k]'hl2).cs 43 b8 (o9 + k * 22) hr11 (T.lit 25 25 43 1 #[(0, .agg (l[k]'hl2).cs)] (cells ([(l[k]'hl2)] : List Vt)).toArray (by kernel_rfl) (by kernel_rfl) (by kernel_rfl) (by kernel_rfl) tv3 (fun b12 => T.appC 26 25 43 64 A9 c9 (own : List Vt) Hr9 b12 0 1 ([(l[k]'hl2)] : List Vt) ((pm0.cons _).trans List.perm_middle.symm) (by kernel_rfl) (by kernel_rfl) (by kernel_rfl) (by kernel_rfl) hrow9 (fun w h => St.rangeM h (cells ([(l[k]'hl2)] : List Vt)).toArray (List.mem_append_right _ mm0) (by kernel_rfl)) (by unfold maxLen; first | omega | (simp; omega)) (by first | omega | (simp; omega)) tv3 (fun A13 c14 Hr15 hrow16 => T.pu 5 (.slice A13 ((own ++ ([(l[k]'hl2)])).length) c14) (T.nil (QN.blkNormal (QN.seq (W.rg od3 (T.pi 11 k (T.pw 12 ((k : Int) + 1) (T.pi 6 ((k : Int) + 1) (T.nil (QN.back (k + 1, own ++ ([(l[k]'hl2)]), A13, c14, Hr15) ?_ ?_ (by kernel_rfl) (fun w h => (h.perm pm0).part (List.Sublist.append (List.Sublist.refl _) (List.nil_sublist _))))))))))))))))
   ·
    try dsimp only
    exact ⟨by omega, filt_yes (p := slP s) (by omega) hown h7, hrow16⟩
   · show l.length - _ < l.length - _; omega
  ·
   refine W.skip (QN.blkNormal (QN.seq (W.rg od3 (T.pi 11 k (T.pw 12 ((k : Int) + 1) (T.pi 6 ((k : Int) + 1) (T.nil (QN.back (k + 1, own, A9, c9, Hr9) ?_ ?_ (by kernel_rfl) (fun w h => h)))))))))
   ·
    try dsimp only
    exact ⟨by omega, filt_no (p := slP s) (by omega) hown h7, hrow9⟩
   · show l.length - _ < l.length - _; omega
 ·
  have h1' := of_decide_eq_false h1
  refine W.exit (QN.thenExit (QN.thenExit (QN.blkHit (QN.seq (W.seq (W.rg od2 (T.pu 27 (.slice A9 own.length c9) (T.pu 4 (.slice A9 own.length c9) (T.nil (QN.seq (W.ret (QN.done (.inl rfl) 4 (.slice A9 own.length c9) rfl (by kernel_rfl) (fun w hw => ?_)))))))))))))
  exact (have hoq : own = l.filter (slP s) := (by rw [hown, take_end (by omega)]); by rw [← hoq]; exact ⟨A9, c9, Hr9, rfl, hrow9, hw.part (List.sublist_append_left _ _)⟩)
set_option maxRecDepth 100000 in
set_option maxHeartbeats 2000000 in
theorem rwho_c (a : List Vt) (k r ch : Int) (x : Nm) (A : Option Addr) (c : Nat) (w : World) (hsg : ∀ u ∈ a, 0 ≤ u.signer ∧ u.signer < 10) (ha : a.length ≤ 1000) (hr : Rd w A a) : Calls Tryz.prog 28 #[.slice A a.length c, .int .i64 k, .int .i64 r, .int .i64 ch, .agg x.cs] w (fun rr w' => rr = .returned (.int .i64 (whoM a k r (isV ⟨ch, x⟩))) ∧ Below w.heap.size w w') := by
 refine calls_W (n := 62) Tryz.func28 rfl [(0, .slice A a.length c), (1, .int .i64 k), (2, .int .i64 r), (3, .int .i64 ch), (4, .agg x.cs)] rfl ⟨by kernel_rfl, by kernel_rfl⟩ (W.weak (Ψ := St w []) (fun w' h => by rw [h]; exact St.start w) (W.seq (W.rg od2 (T.bx 9 24 (.agg x.cs) (x.cs) tv3 (fun b1 => T.pi 10 0 (T.nil (QN.seq (W.seq (W.rg od1 (T.pi 11 0 (T.nil (QN.seq (W.seq (W.seq (W.rg od1 (T.pi 12 0 (T.nil (QN.seq (W.block (W.loop (σ := Nat × Int) (fun gs => gs.1 ≤ a.length ∧ gs.2 = whoM (a.take gs.1) k r (isV ⟨ch, x⟩)) (fun gs => [(0, .slice A a.length c), (1, .int .i64 k), (2, .int .i64 r), (3, .int .i64 ch), (9, .pointer (some ⟨b1, 0, none⟩)), (10, .int .i64 0), (11, .int .i64 gs.2), (12, .int .i64 (gs.1 : Int))]) (fun gs => St w [(b1, Obj.cells x.cs 24 (0, 0))]) (fun gs => a.length - gs.1) (0, 0) ?_ (by kernel_rfl) (fun w h => h) ?_))))))))))))))))))))
 ·
  try dsimp only
  exact ⟨Nat.zero_le _, rfl⟩
 rintro ⟨j, mk⟩ hI_
 obtain ⟨hj, hmk⟩ : j ≤ a.length ∧ mk = whoM (a.take j) k r (isV ⟨ch, x⟩) := hI_
 refine W.seq (W.seq (W.rg od4 (T.pi 13 j (T.pu 14 (.slice A a.length c) (T.pi 15 ((a.length : Nat) : Int) (T.pb 16 (decide ((j : Int) < ((a.length : Nat) : Int))) (T.nil (QN.seq (W.cd (decide ((j : Int) < ((a.length : Nat) : Int))) (fun h2 => ?_) (fun h2 => ?_))))))))))
 ·
  have h2' := of_decide_eq_true h2
  have hl3 : j < a.length := by omega
  refine W.skip (QN.seq (W.seq (W.block (W.seq (W.drawn (Ψ := St w [(b1, Obj.cells x.cs 24 (0, 0))]) (St w [(b1, Obj.cells x.cs 24 (0, 0))]) [(0, true), (1, true), (2, true), (3, true), (4, true), (5, true), (6, true), (7, true), (8, true), (9, true), (10, true), (11, true), (12, true), (13, true), (14, true), (15, true), (16, true), (17, true), (18, true), (19, true), (20, true), (21, true), (22, true), (23, true), (24, true), (25, true), (26, true), (27, true), (28, true), (29, true), (30, true), (31, true), (32, true), (33, true)] hmx (by kernel_rfl) (NoPanic.then (NoPanic.inBlock (NoPanic.then (NoPanic.then (NoPanic.inBlock (NoPanic.then NoPanic.body)))))) (fun w h => h.drew) (fun w h => h) (T.pu 19 (.slice A a.length c) (T.pi 20 j ?_)))))))
  obtain ⟨b4, o5, hA6, hr7⟩ := (Rd.arr hr _) j hl3
  refine T.ix 21 25 43 22 A a.length c (j : Int) j b4 o5 hA6 rfl (by omega) (T.pu 22 (.pointer (some ⟨b4, o5 + j * 22, none⟩)) (T.ld true 23 (.int .i64 ((a[j]'hl3).kind)) 3 b4 (o5 + j * 22) (fun w h => cell_of_range (hr7 w h) 0 (by kernel_rfl)) (T.pi 24 k (T.pb 25 (((a[j]'hl3).kind) == k) (T.pb 26 (((a[j]'hl3).kind) == k) (T.bk [(8, true), (9, true), (10, true), (11, true), (12, true), (13, true), (14, true)] [(15, true), (16, true), (17, true), (18, true), (19, true), (20, true), (21, true), (22, true), (23, true), (24, true), (25, true), (26, true), (27, true), (28, true), (29, true), (30, true), (31, true), (32, true), (33, true)] 7 true (((a[j]'hl3).kind) == k) 26 33 (.bool (((a[j]'hl3).round) == r)) (fun hg8 => ?_) ?_))))))
  ·
   have hg8_ := hg8
   refine T.pu 27 (.slice A a.length c) (T.pi 28 j ?_)
   obtain ⟨b9, o10, hA11, hr12⟩ := (Rd.arr hr _) j hl3
   refine T.ix 29 25 43 22 A a.length c (j : Int) j b9 o10 hA11 rfl (by omega) (T.pu 30 (.pointer (some ⟨b9, o10 + j * 22 + 2, none⟩)) (T.ld true 31 (.int .i64 ((a[j]'hl3).round)) 3 b9 (o10 + j * 22 + 2) (fun w h => cell_of_range (hr12 w h) 2 (by kernel_rfl)) (T.pi 32 r (T.pb 33 (((a[j]'hl3).round) == r) ?_))))
   exact T.blkEnd (by kernel_rfl) (fun w h => h)
  refine T.an 34 (((a[j]'hl3).kind) == k) (((a[j]'hl3).round) == r) (T.pb 35 ((((a[j]'hl3).kind) == k) && (((a[j]'hl3).round) == r)) (T.bk [(17, true), (18, true), (19, true), (20, true), (21, true), (22, true), (23, true)] [(24, true), (25, true), (26, true), (27, true), (28, true), (29, true), (30, true), (31, true), (32, true), (33, true)] 16 true ((((a[j]'hl3).kind) == k) && (((a[j]'hl3).round) == r)) 35 42 (.bool (((a[j]'hl3).choice) == ch)) (fun hg13 => ?_) ?_))
  ·
   have hg13_ := hg13
   have hg13l := (Bool.and_eq_true_iff.1 hg13).1
   have hg13r := (Bool.and_eq_true_iff.1 hg13).2
   refine T.pu 36 (.slice A a.length c) (T.pi 37 j ?_)
   obtain ⟨b14, o15, hA16, hr17⟩ := (Rd.arr hr _) j hl3
   refine T.ix 38 25 43 22 A a.length c (j : Int) j b14 o15 hA16 rfl (by omega) (T.pu 39 (.pointer (some ⟨b14, o15 + j * 22 + 3, none⟩)) (T.ld true 40 (.int .i64 ((a[j]'hl3).choice)) 3 b14 (o15 + j * 22 + 3) (fun w h => cell_of_range (hr17 w h) 3 (by kernel_rfl)) (T.pi 41 ch (T.pb 42 (((a[j]'hl3).choice) == ch) ?_))))
   exact T.blkEnd (by kernel_rfl) (fun w h => h)
  refine T.an 43 ((((a[j]'hl3).kind) == k) && (((a[j]'hl3).round) == r)) (((a[j]'hl3).choice) == ch) (T.pb 44 (((((a[j]'hl3).kind) == k) && (((a[j]'hl3).round) == r)) && (((a[j]'hl3).choice) == ch)) (T.bk [(26, true), (27, true), (28, true), (29, true), (30, true), (31, true), (32, true)] [(33, true)] 25 true (((((a[j]'hl3).kind) == k) && (((a[j]'hl3).round) == r)) && (((a[j]'hl3).choice) == ch)) 44 51 (.bool (((a[j]'hl3).val) == x)) (fun hg18 => ?_) ?_))
  ·
   have hg18_ := hg18
   have hg18l := (Bool.and_eq_true_iff.1 hg18).1
   have hg18r := (Bool.and_eq_true_iff.1 hg18).2
   have hg18ll := (Bool.and_eq_true_iff.1 hg18l).1
   have hg18lr := (Bool.and_eq_true_iff.1 hg18l).2
   refine T.pu 45 (.slice A a.length c) (T.pi 46 j ?_)
   obtain ⟨b19, o20, hA21, hr22⟩ := (Rd.arr hr _) j hl3
   refine T.ix 47 25 43 22 A a.length c (j : Int) j b19 o20 hA21 rfl (by omega) (T.pu 48 (.pointer (some ⟨b19, o20 + j * 22 + 14, none⟩)) (T.lr true 49 ((a[j]'hl3).val).cs 24 b19 (o20 + j * 22 + 14) (fun w h => range_of_range (hr22 w h) 14 ((a[j]'hl3).val).cs (by kernel_rfl)) (T.lr true 50 x.cs 24 b1 0 (fun w h => St.rangeM h x.cs mm0 (by kernel_rfl)) (T.eqq 51 (((a[j]'hl3).val) == x) (((a[j]'hl3).val) == x) false 24 ((a[j]'hl3).val).cs x.cs (by kernel_rfl) (by kernel_rfl) (by kernel_rfl) (by kernel_rfl) (fun w => eq_nm w ((a[j]'hl3).val) x) ?_))))
   exact T.blkEnd (by kernel_rfl) (fun w h => h)
  refine T.an 52 (((((a[j]'hl3).kind) == k) && (((a[j]'hl3).round) == r)) && (((a[j]'hl3).choice) == ch)) (((a[j]'hl3).val) == x) (T.nil (QN.seq (W.cd ((((((a[j]'hl3).kind) == k) && (((a[j]'hl3).round) == r)) && (((a[j]'hl3).choice) == ch)) && (((a[j]'hl3).val) == x)) (fun h23 => ?_) (fun h23 => ?_))))
  ·
   have h23l := (Bool.and_eq_true_iff.1 h23).1
   have h23r := (Bool.and_eq_true_iff.1 h23).2
   have h23ll := (Bool.and_eq_true_iff.1 h23l).1
   have h23lr := (Bool.and_eq_true_iff.1 h23l).2
   have h23lll := (Bool.and_eq_true_iff.1 h23ll).1
   have h23llr := (Bool.and_eq_true_iff.1 h23ll).2
   refine W.rg od9 (T.pi 53 mk (T.pu 54 (.slice A a.length c) (T.pi 55 j ?_)))
   obtain ⟨b24, o25, hA26, hr27⟩ := (Rd.arr hr _) j hl3
   refine T.ix 56 25 43 22 A a.length c (j : Int) j b24 o25 hA26 rfl (by omega) (T.pu 57 (.pointer (some ⟨b24, o25 + j * 22 + 4, none⟩)) (T.ld false 58 (.int .i64 ((a[j]'hl3).signer)) 3 b24 (o25 + j * 22 + 4) (fun w h => cell_of_range (hr27 w h) 4 (by kernel_rfl)) (T.cp 59 54 #[.int .i64 ((a[j]'hl3).signer)] (.int .i64 (bitD ((a[j]'hl3).signer))) ent54 (fun w hw => rbit_cD _ (by have := hsg _ (List.getElem_mem (show j < a.length by omega)); unfold W64; omega) w) tv2 (T.pi 60 (bits .or .i64 mk (bitD ((a[j]'hl3).signer))) (T.pi 11 (bits .or .i64 mk (bitD ((a[j]'hl3).signer))) (T.nil (QN.blkNormal (QN.seq (W.rg od3 (T.pi 17 j (T.pw 18 ((j : Int) + 1) (T.pi 12 ((j : Int) + 1) (T.nil (QN.back (j + 1, bits .or .i64 mk (bitD ((a[j]'hl3).signer))) ?_ ?_ (by kernel_rfl) (fun w h => h)))))))))))))))
   ·
    try dsimp only
    exact ⟨by omega, rwho_yes hsg (by omega) hmk h23⟩
   · show a.length - (j + 1) < a.length - j; omega
  ·
   refine W.skip (QN.blkNormal (QN.seq (W.rg od3 (T.pi 17 j (T.pw 18 ((j : Int) + 1) (T.pi 12 ((j : Int) + 1) (T.nil (QN.back (j + 1, mk) ?_ ?_ (by kernel_rfl) (fun w h => h)))))))))
   ·
    try dsimp only
    exact ⟨by omega, rwho_no (by omega) hmk h23⟩
   · show a.length - (j + 1) < a.length - j; omega
 ·
  have h2' := of_decide_eq_false h2
  refine W.exit (QN.thenExit (QN.thenExit (QN.blkHit (QN.seq (W.seq (W.rg od2 (T.pi 61 mk (T.pi 10 mk (T.nil (QN.seq (W.ret (QN.done (.inl rfl) 10 (.int .i64 mk) rfl (by kernel_rfl) (fun w hw => ⟨?_, hw.below⟩)))))))))))))
  exact ret_int (by rw [hmk, take_end (by omega)])
set_option maxRecDepth 100000 in
set_option maxHeartbeats 2000000 in
theorem rvalues_c (a : List Vt) (k r ch : Int) (A : Option Addr) (c : Nat) (w : World) (ha : a.length ≤ 1000) (hr : Rd w A a) : Calls Tryz.prog 58 #[.slice A a.length c, .int .i64 k, .int .i64 r, .int .i64 ch] w (fun rr w' => ∃ A c Hr, rr = .returned (.slice A (nvL a k r ch).length c) ∧ RowIs 24 8 A (nvL a k r ch).length c (cells (nvL a k r ch)) Hr ∧ St w Hr w') := by
 refine calls_W (n := 93) Tryz.func58 rfl [(0, .slice A a.length c), (1, .int .i64 k), (2, .int .i64 r), (3, .int .i64 ch)] rfl ⟨by kernel_rfl, by kernel_rfl⟩ (W.weak (Ψ := St w []) (fun w' h => by rw [h]; exact St.start w) (W.seq (W.rg od1 (T.pu 8 (.slice none 0 0) (T.nil (QN.seq (W.seq (W.rg od1 (T.pu 9 (.slice none 0 0) (T.nil (QN.seq (W.seq (W.seq (W.rg od1 (T.pi 10 0 (T.nil (QN.seq (W.block (W.loop (σ := Nat × List Nm × Option Addr × Nat × List (Nat × Obj)) (fun gs => gs.1 ≤ a.length ∧ gs.2.1 = nvL (a.take gs.1) k r ch ∧ RowIs 24 8 gs.2.2.1 gs.2.1.length gs.2.2.2.1 (cells gs.2.1) gs.2.2.2.2) (fun gs => [(0, .slice A a.length c), (1, .int .i64 k), (2, .int .i64 r), (3, .int .i64 ch), (8, .slice none 0 0), (9, .slice gs.2.2.1 gs.2.1.length gs.2.2.2.1), (10, .int .i64 (gs.1 : Int))]) (fun gs => St w (gs.2.2.2.2 ++ [])) (fun gs => a.length - gs.1) (0, [], none, 0, []) ?_ (by kernel_rfl) (fun w h => h) ?_)))))))))))))))))))
 ·
  try dsimp only
  exact ⟨Nat.zero_le _, rfl, RowIs.nil⟩
 rintro ⟨j, out, A9, c9, Hr9⟩ hI_
 obtain ⟨hj, hout, hrow9⟩ : j ≤ a.length ∧ out = nvL (a.take j) k r ch ∧ RowIs 24 8 A9 out.length c9 (cells out) Hr9 := hI_
 have hol : out.length ≤ j := by rw [hout]; exact Nat.le_trans (nvL_len _ _ _ _) (List.length_take_le _ _)
 have hcap := RowIs.cap hrow9
 refine W.seq (W.seq (W.rg od4 (T.pi 12 j (T.pu 13 (.slice A a.length c) (T.pi 14 ((a.length : Nat) : Int) (T.pb 15 (decide ((j : Int) < ((a.length : Nat) : Int))) (T.nil (QN.seq (W.cd (decide ((j : Int) < ((a.length : Nat) : Int))) (fun h1 => ?_) (fun h1 => ?_))))))))))
 ·
  have h1' := of_decide_eq_true h1
  have hl2 : j < a.length := by omega
  refine W.skip (QN.seq (W.seq (W.block (W.seq (W.seq (W.rg od25 (T.pu 18 (.slice A a.length c) (T.pi 19 j ?_))))))))
  obtain ⟨b3, o4, hA5, hr6⟩ := (Rd.arr hr _) j hl2
  refine T.ix 20 25 43 22 A a.length c (j : Int) j b3 o4 hA5 rfl (by omega) (T.pu 21 (.pointer (some ⟨b3, o4 + j * 22, none⟩)) (T.ld false 22 (.int .i64 ((a[j]'hl2).kind)) 3 b3 (o4 + j * 22) (fun w h => cell_of_range (hr6 w h) 0 (by kernel_rfl)) (T.pi 23 k (T.pb 24 (((a[j]'hl2).kind) != k) (T.pb 25 (((a[j]'hl2).kind) != k) (T.bk [(8, false), (9, false), (10, false), (11, false), (12, false), (13, false), (14, false)] [(15, false), (16, false), (17, false), (18, false), (19, false), (20, false), (21, false), (22, false), (23, false), (24, false)] 7 false (((a[j]'hl2).kind) != k) 25 32 (.bool (((a[j]'hl2).round) != r)) (fun hg7 => ?_) ?_))))))
  ·
   have hg7_ := hg7
   refine T.pu 26 (.slice A a.length c) (T.pi 27 j ?_)
   obtain ⟨b8, o9, hA10, hr11⟩ := (Rd.arr hr _) j hl2
   refine T.ix 28 25 43 22 A a.length c (j : Int) j b8 o9 hA10 rfl (by omega) (T.pu 29 (.pointer (some ⟨b8, o9 + j * 22 + 2, none⟩)) (T.ld false 30 (.int .i64 ((a[j]'hl2).round)) 3 b8 (o9 + j * 22 + 2) (fun w h => cell_of_range (hr11 w h) 2 (by kernel_rfl)) (T.pi 31 r (T.pb 32 (((a[j]'hl2).round) != r) ?_))))
   exact T.blkEnd (by kernel_rfl) (fun w h => h)
  refine T.oo 33 (((a[j]'hl2).kind) != k) (((a[j]'hl2).round) != r) (T.pb 34 ((((a[j]'hl2).kind) != k) || (((a[j]'hl2).round) != r)) (T.bk [(17, false), (18, false), (19, false), (20, false), (21, false), (22, false), (23, false)] [(24, false)] 16 false ((((a[j]'hl2).kind) != k) || (((a[j]'hl2).round) != r)) 34 41 (.bool (((a[j]'hl2).choice) != ch)) (fun hg12 => ?_) ?_))
  ·
   have hg12_ := hg12
   have hg12l := (Bool.or_eq_false_iff.1 hg12).1
   have hg12r := (Bool.or_eq_false_iff.1 hg12).2
   refine T.pu 35 (.slice A a.length c) (T.pi 36 j ?_)
   obtain ⟨b13, o14, hA15, hr16⟩ := (Rd.arr hr _) j hl2
   refine T.ix 37 25 43 22 A a.length c (j : Int) j b13 o14 hA15 rfl (by omega) (T.pu 38 (.pointer (some ⟨b13, o14 + j * 22 + 3, none⟩)) (T.ld false 39 (.int .i64 ((a[j]'hl2).choice)) 3 b13 (o14 + j * 22 + 3) (fun w h => cell_of_range (hr16 w h) 3 (by kernel_rfl)) (T.pi 40 ch (T.pb 41 (((a[j]'hl2).choice) != ch) ?_))))
   exact T.blkEnd (by kernel_rfl) (fun w h => h)
  refine T.oo 42 ((((a[j]'hl2).kind) != k) || (((a[j]'hl2).round) != r)) (((a[j]'hl2).choice) != ch) (T.nil (QN.seq (W.cd (((((a[j]'hl2).kind) != k) || (((a[j]'hl2).round) != r)) || (((a[j]'hl2).choice) != ch)) (fun h17 => ?_) (fun h17 => ?_))))
  ·
   refine W.exit (QN.thenExit (QN.blkHit (QN.seq (W.rg od3 (T.pi 16 j (T.pw 17 ((j : Int) + 1) (T.pi 10 ((j : Int) + 1) (T.nil (QN.back (j + 1, out, A9, c9, Hr9) ?_ ?_ (by kernel_rfl) (fun w h => h))))))))))
   ·
    try dsimp only
    exact ⟨by omega, nv_skip (by omega) hout h17, hrow9⟩
   · show a.length - _ < a.length - _; omega
  ·
   have h17l := (Bool.or_eq_false_iff.1 h17).1
   have h17r := (Bool.or_eq_false_iff.1 h17).2
   have h17ll := (Bool.or_eq_false_iff.1 h17l).1
   have h17lr := (Bool.or_eq_false_iff.1 h17l).2
   refine W.skip (QN.seq (W.seq (W.rg od1 (T.pi 11 0 (T.nil (QN.seq (W.seq (W.block (W.loop (σ := Nat) (fun gs => gs ≤ out.length ∧ (out.take gs).all (fun y => hless y (a[j]'hl2).val) = true) (fun gs => [(0, .slice A a.length c), (1, .int .i64 k), (2, .int .i64 r), (3, .int .i64 ch), (8, .slice none 0 0), (9, .slice A9 out.length c9), (10, .int .i64 j), (11, .int .i64 gs), (12, .int .i64 j), (13, .slice A a.length c), (14, .int .i64 ((a.length : Nat) : Int)), (15, .bool (decide ((j : Int) < ((a.length : Nat) : Int)))), (18, .slice A a.length c), (19, .int .i64 j), (20, .pointer (some ⟨b3, o4 + j * 22, none⟩)), (21, .pointer (some ⟨b3, o4 + j * 22, none⟩)), (22, .int .i64 ((a[j]'hl2).kind)), (23, .int .i64 k), (24, .bool (((a[j]'hl2).kind) != k)), (25, .bool (((a[j]'hl2).kind) != k)), (32, gv ((((a[j]'hl2).kind) != k) == false) (.bool (((a[j]'hl2).round) != r))), (33, .bool ((((a[j]'hl2).kind) != k) || (((a[j]'hl2).round) != r))), (34, .bool ((((a[j]'hl2).kind) != k) || (((a[j]'hl2).round) != r))), (41, gv (((((a[j]'hl2).kind) != k) || (((a[j]'hl2).round) != r)) == false) (.bool (((a[j]'hl2).choice) != ch))), (42, .bool (((((a[j]'hl2).kind) != k) || (((a[j]'hl2).round) != r)) || (((a[j]'hl2).choice) != ch)))]) (fun gs => St w (Hr9 ++ [])) (fun gs => out.length - gs) 0 ?_ (by kernel_rfl) (fun w h => h) ?_)))))))))
   ·
    try dsimp only
    exact ⟨Nat.zero_le _, rfl⟩
   rintro k2 hI_
   obtain ⟨hk2, hall⟩ : k2 ≤ out.length ∧ (out.take k2).all (fun y => hless y (a[j]'hl2).val) = true := hI_
   refine W.seq (W.seq (W.drawn (Ψ := St w (Hr9 ++ [])) (St w (Hr9 ++ [])) [(0, true), (1, true), (2, true), (3, true), (4, true), (5, true), (6, true), (7, true), (8, true), (9, true), (10, true), (11, true), (12, true), (13, true), (14, false), (15, true)] hmx (by kernel_rfl) (NoPanic.then (NoPanic.then (NoPanic.then (NoPanic.inBlock (NoPanic.then (NoPanic.inBlock (NoPanic.then (NoPanic.then (NoPanic.inBlock (NoPanic.then NoPanic.body)))))))))) (fun w h => h.drew) (fun w h => h) (T.pi 43 k2 (T.pu 44 (.slice A9 out.length c9) (T.pi 45 ((out.length : Nat) : Int) (T.pb 46 (decide ((k2 : Int) < ((out.length : Nat) : Int))) (T.pb 47 (decide ((k2 : Int) < ((out.length : Nat) : Int))) (T.bk [(5, true), (6, true), (7, true), (8, true), (9, true), (10, true), (11, true), (12, true), (13, true), (14, false)] [(15, true)] 4 true (decide ((k2 : Int) < ((out.length : Nat) : Int))) 47 57 (.bool (hless (out[k2]!) ((a[j]'hl2).val))) (fun hg18 => ?_) ?_))))))))
   ·
    have hg18_ := hg18
    have hg18' := of_decide_eq_true hg18
    refine T.pu 48 (.slice A9 out.length c9) (T.pi 49 k2 ?_)
    have hbg19 : k2 < out.length := by omega
    obtain ⟨b20, o21, hA22, hr23⟩ := (Arr.row hrow9 rfl rfl _) k2 hbg19
    have hy24 := rng_bang hbg19 hr23
    refine T.ix 50 85 24 8 A9 out.length c9 (k2 : Int) k2 b20 o21 hA22 rfl (by omega) (T.lr true 51 (out[k2]!).cs 24 b20 (o21 + k2 * 8) hy24 (T.pu 52 (.slice A a.length c) (T.pi 53 j ?_)))
    obtain ⟨b25, o26, hA27, hr28⟩ := (Rd.arr hr _) j hl2
    refine T.ix 54 25 43 22 A a.length c (j : Int) j b25 o26 hA27 rfl (by omega) (T.pu 55 (.pointer (some ⟨b25, o26 + j * 22 + 14, none⟩)) (T.lr true 56 ((a[j]'hl2).val).cs 24 b25 (o26 + j * 22 + 14) (fun w h => range_of_range (hr28 w h) 14 ((a[j]'hl2).val).cs (by kernel_rfl)) (T.cp 57 106 #[.agg (out[k2]!).cs, .agg ((a[j]'hl2).val).cs] (.bool (hless (out[k2]!) ((a[j]'hl2).val))) ent106 (fun w hw => rhless_c (out[k2]!) ((a[j]'hl2).val) w) (fun w h => h) ?_)))
    exact T.blkEnd (by kernel_rfl) (fun w h => h)
   refine T.an 58 (decide ((k2 : Int) < ((out.length : Nat) : Int))) (hless (out[k2]!) ((a[j]'hl2).val)) (T.nil (QN.seq (W.cd ((decide ((k2 : Int) < ((out.length : Nat) : Int))) && (hless (out[k2]!) ((a[j]'hl2).val))) (fun h29 => ?_) (fun h29 => ?_))))
   ·
    have h29l := (Bool.and_eq_true_iff.1 h29).1
    have h29r := (Bool.and_eq_true_iff.1 h29).2
    have h29l' := of_decide_eq_true h29l
    refine W.skip (QN.seq (W.block (W.rg od3 (T.pi 59 k2 (T.pw 60 ((k2 : Int) + 1) (T.pi 11 ((k2 : Int) + 1) (T.nil (QN.blkNormal (QN.back (k2 + 1) ?_ ?_ (by kernel_rfl) (fun w h => h))))))))))
    ·
     try dsimp only
     exact nv_go hall h29
    · show out.length - _ < out.length - _; have := (nv_go hall h29).1; omega
   ·
    refine W.exit (QN.thenExit (QN.thenExit (QN.blkHit (QN.seq (W.seq (W.seq (W.drawn (Ψ := St w (Hr9 ++ [])) (St w (Hr9 ++ [])) [(0, true), (1, true), (2, true), (3, true), (4, true), (5, true), (6, true), (7, true), (8, true), (9, true), (10, true), (11, true), (12, true), (13, true), (14, true), (15, true)] hmx (by kernel_rfl) (NoPanic.then (NoPanic.then (NoPanic.inBlock (NoPanic.then (NoPanic.then (NoPanic.inBlock (NoPanic.then NoPanic.body))))))) (fun w h => h.drew) (fun w h => h) (T.pi 61 k2 (T.pu 62 (.slice A9 out.length c9) (T.pi 63 ((out.length : Nat) : Int) (T.pb 64 (decide ((k2 : Int) < ((out.length : Nat) : Int))) (T.pb 65 (decide ((k2 : Int) < ((out.length : Nat) : Int))) (T.bk [(5, true), (6, true), (7, true), (8, true), (9, true), (10, true), (11, true), (12, true), (13, true), (14, true)] [(15, true)] 4 true (decide ((k2 : Int) < ((out.length : Nat) : Int))) 65 75 (.bool ((out[k2]!) == ((a[j]'hl2).val))) (fun hg30 => ?_) ?_)))))))))))))
    ·
     have hg30_ := hg30
     have hg30' := of_decide_eq_true hg30
     refine T.pu 66 (.slice A9 out.length c9) (T.pi 67 k2 ?_)
     have hbg31 : k2 < out.length := by omega
     obtain ⟨b32, o33, hA34, hr35⟩ := (Arr.row hrow9 rfl rfl _) k2 hbg31
     have hy36 := rng_bang hbg31 hr35
     refine T.ix 68 85 24 8 A9 out.length c9 (k2 : Int) k2 b32 o33 hA34 rfl (by omega) (T.lr true 69 (out[k2]!).cs 24 b32 (o33 + k2 * 8) hy36 (T.pu 70 (.slice A a.length c) (T.pi 71 j ?_)))
     obtain ⟨b37, o38, hA39, hr40⟩ := (Rd.arr hr _) j hl2
     refine T.ix 72 25 43 22 A a.length c (j : Int) j b37 o38 hA39 rfl (by omega) (T.pu 73 (.pointer (some ⟨b37, o38 + j * 22 + 14, none⟩)) (T.lr true 74 ((a[j]'hl2).val).cs 24 b37 (o38 + j * 22 + 14) (fun w h => range_of_range (hr40 w h) 14 ((a[j]'hl2).val).cs (by kernel_rfl)) (T.eqq 75 ((out[k2]!) == ((a[j]'hl2).val)) ((out[k2]!) == ((a[j]'hl2).val)) false 24 (out[k2]!).cs ((a[j]'hl2).val).cs (by kernel_rfl) (by kernel_rfl) (by kernel_rfl) (by kernel_rfl) (fun w => eq_nm w (out[k2]!) ((a[j]'hl2).val)) ?_)))
     exact T.blkEnd (by kernel_rfl) (fun w h => h)
    refine T.an 76 (decide ((k2 : Int) < ((out.length : Nat) : Int))) ((out[k2]!) == ((a[j]'hl2).val)) (T.nil (QN.seq (W.cd ((decide ((k2 : Int) < ((out.length : Nat) : Int))) && ((out[k2]!) == ((a[j]'hl2).val))) (fun h41 => ?_) (fun h41 => ?_))))
    ·
     have h41l := (Bool.and_eq_true_iff.1 h41).1
     have h41r := (Bool.and_eq_true_iff.1 h41).2
     have h41l' := of_decide_eq_true h41l
     refine W.exit (QN.thenExit (QN.blkHit (QN.seq (W.rg od3 (T.pi 16 j (T.pw 17 ((j : Int) + 1) (T.pi 10 ((j : Int) + 1) (T.nil (QN.back (j + 1, out, A9, c9, Hr9) ?_ ?_ (by kernel_rfl) (fun w h => h))))))))))
     ·
      try dsimp only
      exact ⟨by omega, (nv_eq hall hk2 (nv_stop hk2 h29) h41).symm.trans (nv_ins (by omega) hout h17), hrow9⟩
     · show a.length - _ < a.length - _; omega
    ·
     refine W.skip (QN.seq (W.drawn2 (Ψ := St w (Hr9 ++ [])) (St w (Hr9 ++ [])) [(0, true), (1, true), (2, true), (4, true), (5, true), (6, true), (7, true), (8, true), (11, true), (12, true), (13, true)] 3 [(9, false), (10, false), (14, false), (15, false)] 9 [(3, false), (10, false), (14, false), (15, false)] hmx (by kernel_rfl) (NoPanic.inBlock (NoPanic.then (NoPanic.then (NoPanic.inBlock (NoPanic.then NoPanic.body))))) (fun w h => h.drew) (fun w h => h) (T.pu 77 (.slice A9 out.length c9) (T.pi 78 k2 ?_))))
     have hsl42 : (out.take k2).length = k2 := by first | (simp; done) | (simp; omega)
     refine T.sliceTo 79 85 24 A9 out.length c9 (k2 : Int) ((out.take k2).length) (by kernel_rfl) (by kernel_rfl) (by kernel_rfl) (by kernel_rfl) (by omega) (by omega) (T.pu 81 (.slice A a.length c) (T.pi 82 j ?_))
     obtain ⟨b43, o44, hA45, hr46⟩ := (Rd.arr hr _) j hl2
     refine T.ix 83 25 43 22 A a.length c (j : Int) j b43 o44 hA45 rfl (by omega) (T.pu 84 (.pointer (some ⟨b43, o44 + j * 22 + 14, none⟩)) (T.lr true 85 ((a[j]'hl2).val).cs 24 b43 (o44 + j * 22 + 14) (fun w h => range_of_range (hr46 w h) 14 ((a[j]'hl2).val).cs (by kernel_rfl)) (T.pu 88 (.slice A9 out.length c9) (T.pi 89 k2 (T.sliceFrom 90 85 24 8 A9 out.length c9 (k2 : Int) k2 ((out.drop k2).length) (by kernel_rfl) (by kernel_rfl) (by kernel_rfl) (by kernel_rfl) (by omega) (by omega) (by simp) (T.split (fun w h => h) ?_ ?_))))))
     ·
      refine T.appD 80 85 24 8 none 0 ([] : List Nm) [] A9 c9 (out.take k2 : List Nm) pm0 (by kernel_rfl) (by kernel_rfl) (by kernel_rfl) (by kernel_rfl) RowIs.nil (show Arr (St w (Hr9 ++ [])) A9 (out.take k2) from ((Arr.row hrow9 rfl rfl _).take _)) (by unfold maxLen; first | omega | (simp; omega)) (by first | omega | (simp; omega)) (fun Hr49 => (fun w h => (h.perm ((pm0.append_left Hr49).trans (List.perm_append_comm_assoc _ _ _))).part (List.Sublist.append (List.Sublist.refl _) (List.nil_sublist _)))) (fun A47 c48 Hr49 hrow50 => T.lit 86 85 24 1 #[(0, .agg ((a[j]'hl2).val).cs)] (cells ([(a[j]'hl2).val] : List Nm)).toArray (by kernel_rfl) (by kernel_rfl) (by kernel_rfl) (by kernel_rfl) (fun b51 => (fun w h => (h.perm ((((pm0.append_left Hr49).trans (List.perm_append_comm_assoc _ _ _)).cons _).trans List.perm_middle.symm)).part (List.Sublist.append (List.Sublist.refl _) (List.nil_sublist _)))) (fun b51 => T.appC 87 85 24 8 A47 c48 (([] : List Nm) ++ (out.take k2) : List Nm) Hr49 b51 0 1 ([(a[j]'hl2).val] : List Nm) ((pm0.cons _).trans List.perm_middle.symm) (by kernel_rfl) (by kernel_rfl) (by kernel_rfl) (by kernel_rfl) hrow50 (fun w h => St.rangeM h (cells ([(a[j]'hl2).val] : List Nm)).toArray (List.mem_append_right _ mm0) (by kernel_rfl)) (by unfold maxLen; first | omega | (simp; omega)) (by first | omega | (simp; omega)) (fun Hr54 => (fun w h => (h.perm ((((pm0.cons _).trans List.perm_middle.symm).append_left Hr54).trans (List.perm_append_comm_assoc _ _ _))).part (List.Sublist.append (List.Sublist.refl _) (List.nil_sublist _)))) (fun A52 c53 Hr54 hrow55 => T.appD 91 85 24 8 A52 c53 ((([] : List Nm) ++ (out.take k2)) ++ ([(a[j]'hl2).val]) : List Nm) Hr54 (offA A9 c9 k2 8) (c9 - k2) (out.drop k2 : List Nm) pm0 (by kernel_rfl) (by kernel_rfl) (by kernel_rfl) (by kernel_rfl) hrow55 (Arr.drop (show Arr (St _ (Hr54 ++ ((b51, Obj.cells (cells ([(a[j]'hl2).val] : List Nm)).toArray 24 (0, 0)) :: (Hr9 ++ [])))) A9 out from (Arr.row hrow9 rfl rfl (Hr54 ++ [(b51, Obj.cells (cells ([(a[j]'hl2).val] : List Nm)).toArray 24 (0, 0))])).weak (fun w h => h.perm ((((pm0.cons _).trans List.perm_middle.symm).append_left Hr54).trans (List.perm_append_comm_assoc _ _ _)))) c9 k2 (by omega)) (by unfold maxLen; first | omega | (simp; omega)) (by first | omega | (simp; omega)) (fun Hr58 => (fun w h => (h.perm ((((pm0.cons _).trans List.perm_middle.symm).append_left Hr58).trans (List.perm_append_comm_assoc _ _ _))).part (List.Sublist.append (List.Sublist.refl _) (List.nil_sublist _)))) (fun A56 c57 Hr58 hrow59 => T.pu 9 (.slice A56 ((((([] : List Nm) ++ (out.take k2)) ++ ([(a[j]'hl2).val])) ++ (out.drop k2)).length) c57) (T.nil (QN.blkNormal (QN.seq (W.rg od3 (T.pi 16 j (T.pw 17 ((j : Int) + 1) (T.pi 10 ((j : Int) + 1) (T.nil (QN.back (j + 1, ((([] : List Nm) ++ (out.take k2)) ++ ([(a[j]'hl2).val])) ++ (out.drop k2), A56, c57, Hr58) ?_ ?_ (by kernel_rfl) (fun w h => (h.perm pm0).part (List.Sublist.append (List.Sublist.refl _) (List.nil_sublist _))))))))))))))))
      ·
       try dsimp only
       exact ⟨by omega, (nv_ne hall hk2 (nv_stop hk2 h29) h41).symm.trans (nv_ins (by omega) hout h17), hrow59⟩
      · show a.length - _ < a.length - _; omega
     ·
      refine T.lit 86 85 24 1 #[(0, .agg ((a[j]'hl2).val).cs)] (cells ([(a[j]'hl2).val] : List Nm)).toArray (by kernel_rfl) (by kernel_rfl) (by kernel_rfl) (by kernel_rfl) (fun b60 => (fun w h => (h.perm ((pm0.cons _).trans List.perm_middle.symm)).part (List.Sublist.append (List.Sublist.refl _) (List.nil_sublist _)))) (fun b60 => T.appD 80 85 24 8 none 0 ([] : List Nm) [] A9 c9 (out.take k2 : List Nm) pm0 (by kernel_rfl) (by kernel_rfl) (by kernel_rfl) (by kernel_rfl) RowIs.nil (show Arr (St w ((b60, Obj.cells (cells ([(a[j]'hl2).val] : List Nm)).toArray 24 (0, 0)) :: (Hr9 ++ []))) A9 (out.take k2) from ((show Arr (St _ ((b60, Obj.cells (cells ([(a[j]'hl2).val] : List Nm)).toArray 24 (0, 0)) :: (Hr9 ++ []))) A9 out from (Arr.row hrow9 rfl rfl [(b60, Obj.cells (cells ([(a[j]'hl2).val] : List Nm)).toArray 24 (0, 0))]).weak (fun w h => h.perm ((pm0.cons _).trans List.perm_middle.symm))).take _)) (by unfold maxLen; first | omega | (simp; omega)) (by first | omega | (simp; omega)) (fun Hr63 => (fun w h => (h.perm ((((pm0.cons _).trans List.perm_middle.symm).append_left Hr63).trans (List.perm_append_comm_assoc _ _ _))).part (List.Sublist.append (List.Sublist.refl _) (List.nil_sublist _)))) (fun A61 c62 Hr63 hrow64 => T.appC 87 85 24 8 A61 c62 (([] : List Nm) ++ (out.take k2) : List Nm) Hr63 b60 0 1 ([(a[j]'hl2).val] : List Nm) pm0 (by kernel_rfl) (by kernel_rfl) (by kernel_rfl) (by kernel_rfl) hrow64 (fun w h => St.rangeM h (cells ([(a[j]'hl2).val] : List Nm)).toArray (List.mem_append_right _ mm0) (by kernel_rfl)) (by unfold maxLen; first | omega | (simp; omega)) (by first | omega | (simp; omega)) (fun Hr67 => (fun w h => (h.perm ((((pm0.cons _).trans List.perm_middle.symm).append_left Hr67).trans (List.perm_append_comm_assoc _ _ _))).part (List.Sublist.append (List.Sublist.refl _) (List.nil_sublist _)))) (fun A65 c66 Hr67 hrow68 => T.appD 91 85 24 8 A65 c66 ((([] : List Nm) ++ (out.take k2)) ++ ([(a[j]'hl2).val]) : List Nm) Hr67 (offA A9 c9 k2 8) (c9 - k2) (out.drop k2 : List Nm) pm0 (by kernel_rfl) (by kernel_rfl) (by kernel_rfl) (by kernel_rfl) hrow68 (Arr.drop (show Arr (St _ (Hr67 ++ ((b60, Obj.cells (cells ([(a[j]'hl2).val] : List Nm)).toArray 24 (0, 0)) :: (Hr9 ++ [])))) A9 out from (Arr.row hrow9 rfl rfl (Hr67 ++ [(b60, Obj.cells (cells ([(a[j]'hl2).val] : List Nm)).toArray 24 (0, 0))])).weak (fun w h => h.perm ((((pm0.cons _).trans List.perm_middle.symm).append_left Hr67).trans (List.perm_append_comm_assoc _ _ _)))) c9 k2 (by omega)) (by unfold maxLen; first | omega | (simp; omega)) (by first | omega | (simp; omega)) (fun Hr71 => (fun w h => (h.perm ((((pm0.cons _).trans List.perm_middle.symm).append_left Hr71).trans (List.perm_append_comm_assoc _ _ _))).part (List.Sublist.append (List.Sublist.refl _) (List.nil_sublist _)))) (fun A69 c70 Hr71 hrow72 => T.pu 9 (.slice A69 ((((([] : List Nm) ++ (out.take k2)) ++ ([(a[j]'hl2).val])) ++ (out.drop k2)).length) c70) (T.nil (QN.blkNormal (QN.seq (W.rg od3 (T.pi 16 j (T.pw 17 ((j : Int) + 1) (T.pi 10 ((j : Int) + 1) (T.nil (QN.back (j + 1, ((([] : List Nm) ++ (out.take k2)) ++ ([(a[j]'hl2).val])) ++ (out.drop k2), A69, c70, Hr71) ?_ ?_ (by kernel_rfl) (fun w h => (h.perm pm0).part (List.Sublist.append (List.Sublist.refl _) (List.nil_sublist _))))))))))))))))
      ·
       try dsimp only
       exact ⟨by omega, (nv_ne hall hk2 (nv_stop hk2 h29) h41).symm.trans (nv_ins (by omega) hout h17), hrow72⟩
      · show a.length - _ < a.length - _; omega
 ·
  have h1' := of_decide_eq_false h1
  refine W.exit (QN.thenExit (QN.thenExit (QN.blkHit (QN.seq (W.seq (W.rg od2 (T.pu 92 (.slice A9 out.length c9) (T.pu 8 (.slice A9 out.length c9) (T.nil (QN.seq (W.ret (QN.done (.inl rfl) 8 (.slice A9 out.length c9) rfl (by kernel_rfl) (fun w hw => ?_)))))))))))))
  exact (have hoq : out = nvL a k r ch := (by rw [hout, take_end (by omega)]); by rw [← hoq]; exact ⟨A9, c9, Hr9, rfl, hrow9, hw.part (List.sublist_append_left _ _)⟩)
end Go.Proofs.YtphnfhonmbbddaaGreat
