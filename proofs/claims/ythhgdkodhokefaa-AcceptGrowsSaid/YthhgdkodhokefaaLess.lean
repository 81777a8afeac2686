/- The order of names and of votes. -/
import Derived.Test.YthhgdkodhokefaaSrt6
namespace Go.Proofs.Ythhgdkodhokefaa
open Go Go.RowKit
set_option linter.unusedVariables false

def Nm.at (a : Nm) (j : Nat) : UInt8 := match j with | 0 => a.b0 | 1 => a.b1 | 2 => a.b2 | 3 => a.b3 | 4 => a.b4 | 5 => a.b5 | 6 => a.b6 | _ => a.b7
/-- The number of the first j bytes. -/
def Nm.up (a : Nm) : Nat → Nat
  | 0 => 0
  | j + 1 => a.up j * 256 + (a.at j).toNat
theorem Nm.up_lt (a : Nm) : ∀ j, a.up j < 256 ^ j
  | 0 => by simp [Nm.up]
  | j + 1 => by
    have := a.up_lt j
    have h := (a.at j).toNat_lt
    rw [Nm.up, Nat.pow_succ]
    omega
theorem Nm.up_small (a : Nm) (j : Nat) (h : j < 8) : a.up j < 72057594037927936 := Nat.lt_of_lt_of_le (a.up_lt j) (Nat.pow_le_pow_right (by decide) (show j ≤ 7 by omega))
def Nm.num (a : Nm) : Nat := a.up 8
theorem Nm.num_inj {a b : Nm} (h : a.num = b.num) : a = b := by
  have l : ∀ x : UInt8, x.toNat < 256 := fun x => x.toNat_lt
  simp only [Nm.num, Nm.up, Nm.at] at h
  have q0 := l a.b0; have q1 := l a.b1; have q2 := l a.b2; have q3 := l a.b3; have q4 := l a.b4; have q5 := l a.b5; have q6 := l a.b6; have q7 := l a.b7
  have r0 := l b.b0; have r1 := l b.b1; have r2 := l b.b2; have r3 := l b.b3; have r4 := l b.b4; have r5 := l b.b5; have r6 := l b.b6; have r7 := l b.b7
  cases a; cases b
  simp only [Nm.mk.injEq, ← UInt8.toNat_inj] at *
  omega
theorem lt8 {j : Nat} (h : j < 8) : j = 0 ∨ j = 1 ∨ j = 2 ∨ j = 3 ∨ j = 4 ∨ j = 5 ∨ j = 6 ∨ j = 7 := by omega
theorem lt5 {j : Nat} (h : j < 5) : j = 0 ∨ j = 1 ∨ j = 2 ∨ j = 3 ∨ j = 4 := by omega
theorem shl8 (x : Nat) (h : x < 72057594037927936) : Value.int .u64 (IntKind.u64.wrap ((x : Int) * 2 ^ min (Int.toNat 8) IntKind.u64.bits)) = .int .u64 (((x * 256 : Nat) : Int)) := by
  rw [show (2 : Int) ^ min (Int.toNat 8) IntKind.u64.bits = 256 from rfl, IntKind.wrap_u64]
  congr 1
  omega
theorem or8 (x b : Nat) (h : x < 72057594037927936) (hb : b < 256) : bits .or .u64 (((x * 256 : Nat) : Int)) ((b : Nat) : Int) = ((x * 256 + b : Nat) : Int) := by
  show IntKind.u64.wrap ((BitVec.ofInt 64 (((x * 256 : Nat) : Int)) ||| BitVec.ofInt 64 ((b : Nat) : Int)).toNat : Int) = _
  have e1 : (BitVec.ofInt 64 (((x * 256 : Nat) : Int))).toNat = x * 256 := by rw [BitVec.toNat_ofInt]; omega
  have e2 : (BitVec.ofInt 64 ((b : Nat) : Int)).toNat = b := by rw [BitVec.toNat_ofInt]; omega
  rw [BitVec.toNat_or, e1, e2]
  have e3 : x * 256 ||| b = x * 256 + b := by
    have := Nat.shiftLeft_add_eq_or_of_lt (i := 8) (b := b) (by omega) x
    rw [Nat.shiftLeft_eq] at this
    exact this.symm
  rw [e3, IntKind.wrap_u64]
  omega
set_option maxRecDepth 100000 in
set_option maxHeartbeats 2000000 in
theorem number_c (a : Nm) (w : World) : Calls Try.prog 85 #[.agg (a).cs] w (fun rr w' => rr = .returned (.int .u64 ((a.num : Nat) : Int)) ∧ Below w.heap.size w w') := by
  refine calls_W (n := 17) Try.func85 rfl [(0, .agg (a).cs)] rfl ⟨by kernel_rfl, by kernel_rfl⟩ ?_
  refine W.weak (Ψ := St w []) (fun w' h => by rw [h]; exact St.start w) ?_
  refine W.seq ?_
  refine W.region [(0, false), (1, false)] (by kernel_rfl) ?_
  refine T.box 1 24 (.agg (a).cs) ((a).cs) (by kernel_rfl) (by kernel_rfl) (by kernel_rfl) (fun _ _ _ => trivial) (fun b1 => ?_)
  refine T.pure 2 (.int .u64 (0)) (by kernel_rfl) (fun w => by kernel_rfl) ?_
  refine T.nil ?_
  refine QN.seq ?_
  refine W.seq ?_
  refine W.region [(0, false)] (by kernel_rfl) ?_
  refine T.pure 3 (.int .u64 (0)) (by kernel_rfl) (fun w => by kernel_rfl) ?_
  refine T.nil ?_
  refine QN.seq ?_
  refine W.seq ?_
  refine W.seq ?_
  refine W.region [(0, false), (1, false)] (by kernel_rfl) ?_
  refine T.loadR false 6 (a).cs 24 b1 0 (by kernel_rfl) (by kernel_rfl) (by kernel_rfl) (by kernel_rfl) (fun w h => St.rangeM h (a).cs (.head _) (by kernel_rfl)) ?_
  refine T.pure 7 (.int .i64 (0)) (by kernel_rfl) (fun w => by kernel_rfl) ?_
  refine T.nil ?_
  refine QN.seq ?_
  refine W.block ?_
  refine W.loop (σ := Nat) (fun gs => gs ≤ 8) (fun gs => [(2, .int .u64 (0)), (3, .int .u64 (((a.up gs : Nat) : Int))), (6, .agg (a).cs), (7, .int .i64 ((gs : Int)))]) (fun gs => St w [(b1, .cells (a).cs 24 (0, 0))]) (fun gs => 8 - gs) (0) ?_ (by kernel_rfl) (fun w h => h) ?_
  · show 0 ≤ 8
    exact Nat.zero_le _
  rintro j hI_
  obtain hj : j ≤ 8 := hI_
  show W _ _ [(2, .int .u64 (0)), (3, .int .u64 (((a.up j : Nat) : Int))), (6, .agg (a).cs), (7, .int .i64 ((j : Int)))] (St w [(b1, .cells (a).cs 24 (0, 0))]) _ _
  refine W.seq ?_
  refine W.region [(0, false)] (by kernel_rfl) ?_
  refine T.pure 8 (.bool (decide ((j : Int) < 8))) (by kernel_rfl) (fun w => by kernel_rfl) ?_
  refine T.nil ?_
  refine QN.seq ?_
  refine W.seq ?_
  refine W.cond (decide ((j : Int) < 8)) (by kernel_rfl) (fun h2 => ?_) (fun h2 => ?_)
  · skip
    have h2' := of_decide_eq_true h2
    refine W.skip ?_
    refine QN.seq ?_
    refine W.seq ?_
    refine W.block ?_
    refine W.seq ?_
    refine W.region [(0, false), (1, false)] (by kernel_rfl) ?_
    have hj8 : j < 8 := by omega
    refine T.pure 9 (.int .u8 (((a.at j).toNat : Int))) (by kernel_rfl) (fun w => ?_) ?_
    · rcases lt8 hj8 with rfl | rfl | rfl | rfl | rfl | rfl | rfl | rfl <;> kernel_rfl
    refine T.pure 5 (.int .u8 (((a.at j).toNat : Int))) (by kernel_rfl) (fun w => by kernel_rfl) ?_
    refine T.nil ?_
    refine QN.seq ?_
    refine W.region [(0, false), (1, false), (2, false), (3, false), (4, false), (5, false)] (by kernel_rfl) ?_
    refine T.pure 10 (.int .u64 (((a.up j : Nat) : Int))) (by kernel_rfl) (fun w => by kernel_rfl) ?_
    have hj8 : j < 8 := by omega
    refine T.shl 11 .u64 .u64 (((a.up j : Nat) : Int)) 8 (.int .u64 (((a.up j * 256 : Nat) : Int))) (by kernel_rfl) (by kernel_rfl) (by omega) (shl8 _ (a.up_small j hj8)) ?_
    refine T.pure 12 (.int .u8 (((a.at j).toNat : Int))) (by kernel_rfl) (fun w => by kernel_rfl) ?_
    refine T.pureE 13 (.int .u64 (IntKind.u64.wrap (((a.at j).toNat : Int)))) (.int .u64 (((a.at j).toNat : Int))) (by kernel_rfl) (fun w => by kernel_rfl) (wrapu_int (by omega) (by have := (a.at j).toNat_lt; omega)) ?_
    refine T.pureE 14 (.int .u64 (bits .or .u64 (((a.up j * 256 : Nat) : Int)) (((a.at j).toNat : Int)))) (.int .u64 (((a.up (j + 1) : Nat) : Int))) (by kernel_rfl) (fun w => by kernel_rfl) (int_eq (or8 _ _ (a.up_small j hj8) (a.at j).toNat_lt)) ?_
    refine T.pure 3 (.int .u64 (((a.up (j + 1) : Nat) : Int))) (by kernel_rfl) (fun w => by kernel_rfl) ?_
    refine T.nil ?_
    refine QN.blkNormal ?_
    refine QN.seq ?_
    refine W.region [(0, false), (1, false)] (by kernel_rfl) ?_
    refine T.pureE 15 (.int .i64 (IntKind.i64.wrap ((j : Int) + 1))) (.int .i64 ((j : Int) + 1)) (by kernel_rfl) (fun w => by kernel_rfl) (wrap_int (by omega) (by omega)) ?_
    refine T.pure 7 (.int .i64 ((j : Int) + 1)) (by kernel_rfl) (fun w => by kernel_rfl) ?_
    refine T.nil ?_
    refine QN.back (j + 1) ?_ ?_ (by kernel_rfl) (fun w h => h)
    · show (j + 1) ≤ 8
      omega
    · show 8 - _ < 8 - _; omega
  · skip
    have h2' := of_decide_eq_false h2
    refine W.exit ?_
    refine QN.thenExit ?_
    refine QN.thenExit ?_
    refine QN.blkHit ?_
    refine QN.seq ?_
    refine W.seq ?_
    refine W.region [(0, false), (1, false)] (by kernel_rfl) ?_
    refine T.pure 16 (.int .u64 (((a.up j : Nat) : Int))) (by kernel_rfl) (fun w => by kernel_rfl) ?_
    refine T.pure 2 (.int .u64 (((a.up j : Nat) : Int))) (by kernel_rfl) (fun w => by kernel_rfl) ?_
    refine T.nil ?_
    refine QN.seq ?_
    refine W.ret ?_
    refine QN.done (.inl rfl) 2 (.int .u64 (((a.up j : Nat) : Int))) rfl (by kernel_rfl) (fun w hw => ⟨?_, hw.below⟩)
    (have e8 : j = 8 := (by omega); rw [e8]; rfl)
def hless (a b : Nm) : Bool := decide (((a.num : Nat) : Int) < ((b.num : Nat) : Int))
theorem hless_self (a : Nm) : hless a a = false := by simp [hless]
set_option maxRecDepth 100000 in
set_option maxHeartbeats 2000000 in
theorem hless_c (a b : Nm) (w : World) : Calls Try.prog 66 #[.agg (a).cs, .agg (b).cs] w (fun rr w' => rr = .returned (.bool (hless a b)) ∧ Below w.heap.size w w') := by
  refine calls_W (n := 13) Try.func66 rfl [(0, .agg (a).cs), (1, .agg (b).cs)] rfl ⟨by kernel_rfl, by kernel_rfl⟩ ?_
  refine W.weak (Ψ := St w []) (fun w' h => by rw [h]; exact St.start w) ?_
  refine W.seq ?_
  refine W.region [(0, false), (1, false), (2, false)] (by kernel_rfl) ?_
  refine T.box 2 24 (.agg (a).cs) ((a).cs) (by kernel_rfl) (by kernel_rfl) (by kernel_rfl) (fun _ _ _ => trivial) (fun b1 => ?_)
  refine T.box 3 24 (.agg (b).cs) ((b).cs) (by kernel_rfl) (by kernel_rfl) (by kernel_rfl) (fun _ _ _ => trivial) (fun b2 => ?_)
  refine T.pure 4 (.bool (false)) (by kernel_rfl) (fun w => by kernel_rfl) ?_
  refine T.nil ?_
  refine QN.seq ?_
  refine W.seq ?_
  refine W.seq ?_
  refine W.region [(0, false), (1, false), (2, false)] (by kernel_rfl) ?_
  refine T.loadR false 5 (a).cs 24 b1 0 (by kernel_rfl) (by kernel_rfl) (by kernel_rfl) (by kernel_rfl) (fun w h => St.rangeM h (a).cs (.tail _ (.head _)) (by kernel_rfl)) ?_
  refine T.loadR false 6 (b).cs 24 b2 0 (by kernel_rfl) (by kernel_rfl) (by kernel_rfl) (by kernel_rfl) (fun w h => St.rangeM h (b).cs (.head _) (by kernel_rfl)) ?_
  refine T.eqq 7 (a == b) (a == b) false 24 (a).cs (b).cs (by kernel_rfl) (by kernel_rfl) (by kernel_rfl) (by kernel_rfl) (fun w => eq_nm w a b) ?_
  refine T.nil ?_
  refine QN.seq ?_
  refine W.cond (a == b) (by kernel_rfl) (fun h3 => ?_) (fun h3 => ?_)
  · skip
    refine W.seq ?_
    refine W.region [(0, false)] (by kernel_rfl) ?_
    refine T.pure 4 (.bool (false)) (by kernel_rfl) (fun w => by kernel_rfl) ?_
    refine T.nil ?_
    refine QN.seq ?_
    refine W.ret ?_
    refine QN.thenRet ?_
    refine QN.done (.inl rfl) 4 (.bool (false)) rfl (by kernel_rfl) (fun w hw => ⟨?_, hw.below⟩)
    (have h0 : a = b := (by simpa using h3); rw [h0, hless_self])
  · skip
    refine W.skip ?_
    refine QN.seq ?_
    refine W.seq ?_
    refine W.drawn (Ψ := St w [(b2, .cells (b).cs 24 (0, 0)), (b1, .cells (a).cs 24 (0, 0))]) (St w [(b2, .cells (b).cs 24 (0, 0)), (b1, .cells (a).cs 24 (0, 0))]) [(0, true), (2, true), (1, false), (3, false), (4, true), (5, false)] hmx (by kernel_rfl) (NoPanic.then (NoPanic.body)) (fun w h => h.drew) (fun w h => h) ?_
    refine T.loadR true 8 (a).cs 24 b1 0 (by kernel_rfl) (by kernel_rfl) (by kernel_rfl) (by kernel_rfl) (fun w h => St.rangeM h (a).cs (.tail _ (.head _)) (by kernel_rfl)) ?_
    refine T.loadR true 10 (b).cs 24 b2 0 (by kernel_rfl) (by kernel_rfl) (by kernel_rfl) (by kernel_rfl) (fun w h => St.rangeM h (b).cs (.head _) (by kernel_rfl)) ?_
    refine T.callP 9 85 #[.agg (a).cs] (.int .u64 (((a.num : Nat) : Int))) (by kernel_rfl) (by kernel_rfl) ent85 (fun w hw => number_c a w) (fun w h => h) ?_
    refine T.callP 11 85 #[.agg (b).cs] (.int .u64 (((b.num : Nat) : Int))) (by kernel_rfl) (by kernel_rfl) ent85 (fun w hw => number_c b w) (fun w h => h) ?_
    refine T.pure 12 (.bool (decide (((a.num : Nat) : Int) < ((b.num : Nat) : Int)))) (by kernel_rfl) (fun w => by kernel_rfl) ?_
    refine T.pure 4 (.bool (decide (((a.num : Nat) : Int) < ((b.num : Nat) : Int)))) (by kernel_rfl) (fun w => by kernel_rfl) ?_
    refine T.nil ?_
    refine QN.seq ?_
    refine W.ret ?_
    refine QN.done (.inl rfl) 4 (.bool (decide (((a.num : Nat) : Int) < ((b.num : Nat) : Int)))) rfl (by kernel_rfl) (fun w hw => ⟨?_, hw.below⟩)
    exact rfl
def key5 (x : Vt) (j : Nat) : Int := match j with | 0 => x.slot | 1 => x.round | 2 => x.kind | 3 => x.signer | _ => x.choice
def lexLt : List Int → List Int → Bool
  | a :: l, b :: m => if a = b then lexLt l m else decide (a < b)
  | _, _ => false
def keyL (x : Vt) : List Int := [(x.par.num : Int), x.slot, x.round, x.kind, x.signer, x.choice, (x.val.num : Int), x.support]
/-- The order of votes. -/
def vless (x y : Vt) : Bool := lexLt (keyL x) (keyL y)
theorem lexLt_ne {a b : Int} {l m : List Int} (h : a ≠ b) : lexLt (a :: l) (b :: m) = decide (a < b) := by simp [lexLt, h]
theorem lexLt_eq {a : Int} {l m : List Int} : lexLt (a :: l) (a :: m) = lexLt l m := by simp [lexLt]
theorem vless_par {x y : Vt} (h : x.par ≠ y.par) : vless x y = hless x.par y.par := by
  have : (x.par.num : Int) ≠ (y.par.num : Int) := fun e => h (Nm.num_inj (by omega))
  rw [vless, keyL, keyL, lexLt_ne this]; rfl
theorem vless_key {x y : Vt} (h : x.par = y.par) (j : Nat) (hj : j < 5) (hk : ∀ k, k < j → key5 x k = key5 y k) (hn : key5 x j ≠ key5 y j) : vless x y = decide (key5 x j < key5 y j) := by
  rw [vless, keyL, keyL, h, lexLt_eq]
  rcases lt5 hj with rfl | rfl | rfl | rfl | rfl
  · exact lexLt_ne hn
  · have h0 : x.slot = y.slot := hk 0 (by omega)
    rw [h0, lexLt_eq]; exact lexLt_ne hn
  · have h0 : x.slot = y.slot := hk 0 (by omega)
    have h1 : x.round = y.round := hk 1 (by omega)
    rw [h0, h1, lexLt_eq, lexLt_eq]; exact lexLt_ne hn
  · have h0 : x.slot = y.slot := hk 0 (by omega)
    have h1 : x.round = y.round := hk 1 (by omega)
    have h2 : x.kind = y.kind := hk 2 (by omega)
    rw [h0, h1, h2, lexLt_eq, lexLt_eq, lexLt_eq]; exact lexLt_ne hn
  · have h0 : x.slot = y.slot := hk 0 (by omega)
    have h1 : x.round = y.round := hk 1 (by omega)
    have h2 : x.kind = y.kind := hk 2 (by omega)
    have h3 : x.signer = y.signer := hk 3 (by omega)
    rw [h0, h1, h2, h3, lexLt_eq, lexLt_eq, lexLt_eq, lexLt_eq]; exact lexLt_ne hn
theorem vless_end {x y : Vt} (h : x.par = y.par) (hk : ∀ k, k < 5 → key5 x k = key5 y k) : vless x y = if x.val = y.val then decide (x.support < y.support) else hless x.val y.val := by
  have h0 : x.slot = y.slot := hk 0 (by omega)
  have h1 : x.round = y.round := hk 1 (by omega)
  have h2 : x.kind = y.kind := hk 2 (by omega)
  have h3 : x.signer = y.signer := hk 3 (by omega)
  have h4 : x.choice = y.choice := hk 4 (by omega)
  rw [vless, keyL, keyL, h, h0, h1, h2, h3, h4, lexLt_eq, lexLt_eq, lexLt_eq, lexLt_eq, lexLt_eq, lexLt_eq]
  by_cases hv : x.val = y.val
  · rw [hv, lexLt_eq, if_pos rfl]
    by_cases hs : x.support = y.support
    · rw [hs, lexLt_eq]; simp [lexLt]
    · rw [lexLt_ne hs]
  · have : (x.val.num : Int) ≠ (y.val.num : Int) := fun e => hv (Nm.num_inj (by omega))
    rw [if_neg hv, lexLt_ne this]; rfl
theorem key_bk {x y : Vt} {j : Nat} (hk : ∀ k, k < j → key5 x k = key5 y k) (h : key5 x j = key5 y j) : ∀ k, k < j + 1 → key5 x k = key5 y k := fun k hl => by
  rcases Nat.lt_or_eq_of_le (Nat.lt_succ_iff.1 hl) with h1 | rfl
  · exact hk k h1
  · exact h
set_option maxRecDepth 100000 in
set_option maxHeartbeats 2000000 in
theorem vless_c (x y : Vt) (w : World) : Calls Try.prog 36 #[.agg (x).cs, .agg (y).cs] w (fun rr w' => rr = .returned (.bool (vless x y)) ∧ Below w.heap.size w w') := by
  refine calls_W (n := 73) Try.func36 rfl [(0, .agg (x).cs), (1, .agg (y).cs)] rfl ⟨by kernel_rfl, by kernel_rfl⟩ ?_
  refine W.weak (Ψ := St w []) (fun w' h => by rw [h]; exact St.start w) ?_
  refine W.seq ?_
  refine W.region [(0, false), (1, false), (2, false)] (by kernel_rfl) ?_
  refine T.box 2 26 (.agg (x).cs) ((x).cs) (by kernel_rfl) (by kernel_rfl) (by kernel_rfl) (fun _ _ _ => trivial) (fun b1 => ?_)
  refine T.box 3 26 (.agg (y).cs) ((y).cs) (by kernel_rfl) (by kernel_rfl) (by kernel_rfl) (fun _ _ _ => trivial) (fun b2 => ?_)
  refine T.pure 4 (.bool (false)) (by kernel_rfl) (fun w => by kernel_rfl) ?_
  refine T.nil ?_
  refine QN.seq ?_
  refine W.seq ?_
  refine W.seq ?_
  refine W.region [(0, false), (1, false), (2, false), (3, false), (4, false)] (by kernel_rfl) ?_
  refine T.pure 8 (.pointer (some ⟨b1, 6, none⟩)) (by kernel_rfl) (fun w => by kernel_rfl) ?_
  refine T.loadR false 9 (x.par).cs 24 b1 6 (by kernel_rfl) (by kernel_rfl) (by kernel_rfl) (by kernel_rfl) (fun w h => St.rangeM h (x.par).cs (.tail _ (.head _)) (by kernel_rfl)) ?_
  refine T.pure 10 (.pointer (some ⟨b2, 6, none⟩)) (by kernel_rfl) (fun w => by kernel_rfl) ?_
  refine T.loadR false 11 (y.par).cs 24 b2 6 (by kernel_rfl) (by kernel_rfl) (by kernel_rfl) (by kernel_rfl) (fun w h => St.rangeM h (y.par).cs (.head _) (by kernel_rfl)) ?_
  refine T.eqq 12 (x.par != y.par) (x.par == y.par) true 24 (x.par).cs (y.par).cs (by kernel_rfl) (by kernel_rfl) (by kernel_rfl) (by kernel_rfl) (fun w => eq_nm w x.par y.par) ?_
  refine T.nil ?_
  refine QN.seq ?_
  refine W.cond (x.par != y.par) (by kernel_rfl) (fun h3 => ?_) (fun h3 => ?_)
  · skip
    refine W.seq ?_
    refine W.region [(0, false), (1, false), (2, false), (3, false), (4, false), (5, false)] (by kernel_rfl) ?_
    refine T.pure 13 (.pointer (some ⟨b1, 6, none⟩)) (by kernel_rfl) (fun w => by kernel_rfl) ?_
    refine T.loadR false 14 (x.par).cs 24 b1 6 (by kernel_rfl) (by kernel_rfl) (by kernel_rfl) (by kernel_rfl) (fun w h => St.rangeM h (x.par).cs (.tail _ (.head _)) (by kernel_rfl)) ?_
    refine T.pure 15 (.pointer (some ⟨b2, 6, none⟩)) (by kernel_rfl) (fun w => by kernel_rfl) ?_
    refine T.loadR false 16 (y.par).cs 24 b2 6 (by kernel_rfl) (by kernel_rfl) (by kernel_rfl) (by kernel_rfl) (fun w h => St.rangeM h (y.par).cs (.head _) (by kernel_rfl)) ?_
    refine T.callP 17 66 #[.agg (x.par).cs, .agg (y.par).cs] (.bool (hless x.par y.par)) (by kernel_rfl) (by kernel_rfl) ent66 (fun w hw => hless_c x.par y.par w) (fun _ _ => trivial) ?_
    refine T.pure 4 (.bool (hless x.par y.par)) (by kernel_rfl) (fun w => by kernel_rfl) ?_
    refine T.nil ?_
    refine QN.seq ?_
    refine W.ret ?_
    refine QN.thenRet ?_
    refine QN.done (.inl rfl) 4 (.bool (hless x.par y.par)) rfl (by kernel_rfl) (fun w hw => ⟨?_, hw.below⟩)
    exact congrArg (fun b => Ending.returned (.bool b)) (vless_par (by simpa using h3)).symm
  · skip
    refine W.skip ?_
    refine QN.seq ?_
    refine W.seq ?_
    refine W.region [(0, false), (1, false), (2, false), (3, false), (4, false), (5, false), (6, false), (7, false), (8, false), (9, false), (10, false), (11, false), (12, false)] (by kernel_rfl) ?_
    refine T.pure 18 (.pointer (some ⟨b1, 1, none⟩)) (by kernel_rfl) (fun w => by kernel_rfl) ?_
    refine T.load false 19 (.int .i64 (x.slot)) 3 b1 1 (by kernel_rfl) (by kernel_rfl) (by kernel_rfl) (fun w h => St.cellM h (.tail _ (.head _)) (by kernel_rfl)) ?_
    refine T.pure 20 (.pointer (some ⟨b1, 2, none⟩)) (by kernel_rfl) (fun w => by kernel_rfl) ?_
    refine T.load false 21 (.int .i64 (x.round)) 3 b1 2 (by kernel_rfl) (by kernel_rfl) (by kernel_rfl) (fun w h => St.cellM h (.tail _ (.head _)) (by kernel_rfl)) ?_
    refine T.pure 22 (.pointer (some ⟨b1, 0, none⟩)) (by kernel_rfl) (fun w => by kernel_rfl) ?_
    refine T.load false 23 (.int .i64 (x.kind)) 3 b1 0 (by kernel_rfl) (by kernel_rfl) (by kernel_rfl) (fun w h => St.cellM h (.tail _ (.head _)) (by kernel_rfl)) ?_
    refine T.pure 24 (.pointer (some ⟨b1, 4, none⟩)) (by kernel_rfl) (fun w => by kernel_rfl) ?_
    refine T.load false 25 (.int .i64 (x.signer)) 3 b1 4 (by kernel_rfl) (by kernel_rfl) (by kernel_rfl) (fun w h => St.cellM h (.tail _ (.head _)) (by kernel_rfl)) ?_
    refine T.pure 26 (.pointer (some ⟨b1, 3, none⟩)) (by kernel_rfl) (fun w => by kernel_rfl) ?_
    refine T.load false 27 (.int .i64 (x.choice)) 3 b1 3 (by kernel_rfl) (by kernel_rfl) (by kernel_rfl) (fun w h => St.cellM h (.tail _ (.head _)) (by kernel_rfl)) ?_
    refine T.pure 28 (.agg #[.int .i64 (x.slot), .int .i64 (x.round), .int .i64 (x.kind), .int .i64 (x.signer), .int .i64 (x.choice)]) (by kernel_rfl) (fun w => by kernel_rfl) ?_
    refine T.alloc 5 96 #[.int .i64 (0), .int .i64 (0), .int .i64 (0), .int .i64 (0), .int .i64 (0)] (by kernel_rfl) (by kernel_rfl) (by kernel_rfl) (fun _ _ _ => trivial) (fun b4 => ?_)
    refine T.storeP 96 b4 0 (.agg #[.int .i64 (x.slot), .int .i64 (x.round), .int .i64 (x.kind), .int .i64 (x.signer), .int .i64 (x.choice)]) #[.int .i64 (0), .int .i64 (0), .int .i64 (0), .int .i64 (0), .int .i64 (0)] #[.int .i64 (x.slot), .int .i64 (x.round), .int .i64 (x.kind), .int .i64 (x.signer), .int .i64 (x.choice)] 96 (by kernel_rfl) (by kernel_rfl) (by kernel_rfl) (by kernel_rfl) (by kernel_rfl) (by kernel_rfl) (List.Perm.refl _) (fun _ _ => trivial) ?_
    refine T.nil ?_
    refine QN.seq ?_
    refine W.seq ?_
    refine W.region [(0, false), (1, false), (2, false), (3, false), (4, false), (5, false), (6, false), (7, false), (8, false), (9, false), (10, false), (11, false), (12, false)] (by kernel_rfl) ?_
    refine T.pure 29 (.pointer (some ⟨b2, 1, none⟩)) (by kernel_rfl) (fun w => by kernel_rfl) ?_
    refine T.load false 30 (.int .i64 (y.slot)) 3 b2 1 (by kernel_rfl) (by kernel_rfl) (by kernel_rfl) (fun w h => St.cellM h (.tail _ (.head _)) (by kernel_rfl)) ?_
    refine T.pure 31 (.pointer (some ⟨b2, 2, none⟩)) (by kernel_rfl) (fun w => by kernel_rfl) ?_
    refine T.load false 32 (.int .i64 (y.round)) 3 b2 2 (by kernel_rfl) (by kernel_rfl) (by kernel_rfl) (fun w h => St.cellM h (.tail _ (.head _)) (by kernel_rfl)) ?_
    refine T.pure 33 (.pointer (some ⟨b2, 0, none⟩)) (by kernel_rfl) (fun w => by kernel_rfl) ?_
    refine T.load false 34 (.int .i64 (y.kind)) 3 b2 0 (by kernel_rfl) (by kernel_rfl) (by kernel_rfl) (fun w h => St.cellM h (.tail _ (.head _)) (by kernel_rfl)) ?_
    refine T.pure 35 (.pointer (some ⟨b2, 4, none⟩)) (by kernel_rfl) (fun w => by kernel_rfl) ?_
    refine T.load false 36 (.int .i64 (y.signer)) 3 b2 4 (by kernel_rfl) (by kernel_rfl) (by kernel_rfl) (fun w h => St.cellM h (.tail _ (.head _)) (by kernel_rfl)) ?_
    refine T.pure 37 (.pointer (some ⟨b2, 3, none⟩)) (by kernel_rfl) (fun w => by kernel_rfl) ?_
    refine T.load false 38 (.int .i64 (y.choice)) 3 b2 3 (by kernel_rfl) (by kernel_rfl) (by kernel_rfl) (fun w h => St.cellM h (.tail _ (.head _)) (by kernel_rfl)) ?_
    refine T.pure 39 (.agg #[.int .i64 (y.slot), .int .i64 (y.round), .int .i64 (y.kind), .int .i64 (y.signer), .int .i64 (y.choice)]) (by kernel_rfl) (fun w => by kernel_rfl) ?_
    refine T.alloc 6 96 #[.int .i64 (0), .int .i64 (0), .int .i64 (0), .int .i64 (0), .int .i64 (0)] (by kernel_rfl) (by kernel_rfl) (by kernel_rfl) (fun _ _ _ => trivial) (fun b5 => ?_)
    refine T.storeP 96 b5 0 (.agg #[.int .i64 (y.slot), .int .i64 (y.round), .int .i64 (y.kind), .int .i64 (y.signer), .int .i64 (y.choice)]) #[.int .i64 (0), .int .i64 (0), .int .i64 (0), .int .i64 (0), .int .i64 (0)] #[.int .i64 (y.slot), .int .i64 (y.round), .int .i64 (y.kind), .int .i64 (y.signer), .int .i64 (y.choice)] 96 (by kernel_rfl) (by kernel_rfl) (by kernel_rfl) (by kernel_rfl) (by kernel_rfl) (by kernel_rfl) (List.Perm.refl _) (fun _ _ => trivial) ?_
    refine T.nil ?_
    refine QN.seq ?_
    refine W.seq ?_
    refine W.seq ?_
    refine W.region [(0, false)] (by kernel_rfl) ?_
    refine T.pure 40 (.int .i64 (0)) (by kernel_rfl) (fun w => by kernel_rfl) ?_
    refine T.nil ?_
    refine QN.seq ?_
    refine W.block ?_
    refine W.loop (σ := Nat) (fun gs => gs ≤ 5 ∧ ∀ k, k < gs → key5 x k = key5 y k) (fun gs => [(2, .pointer (some ⟨b1, 0, none⟩)), (3, .pointer (some ⟨b2, 0, none⟩)), (5, .pointer (some ⟨b4, 0, none⟩)), (6, .pointer (some ⟨b5, 0, none⟩)), (40, .int .i64 ((gs : Int)))]) (fun gs => St w [(b5, .cells #[.int .i64 (y.slot), .int .i64 (y.round), .int .i64 (y.kind), .int .i64 (y.signer), .int .i64 (y.choice)] 96 (0, 0)), (b4, .cells #[.int .i64 (x.slot), .int .i64 (x.round), .int .i64 (x.kind), .int .i64 (x.signer), .int .i64 (x.choice)] 96 (0, 0)), (b2, .cells (y).cs 26 (0, 0)), (b1, .cells (x).cs 26 (0, 0))]) (fun gs => 5 - gs) (0) ?_ (by kernel_rfl) (fun w h => h) ?_
    · show 0 ≤ 5 ∧ ∀ k, k < 0 → key5 x k = key5 y k
      exact ⟨Nat.zero_le _, fun k hk => absurd hk (by omega)⟩
    rintro j hI_
    obtain ⟨hj, hk⟩ : j ≤ 5 ∧ ∀ k, k < j → key5 x k = key5 y k := hI_
    show W _ _ [(2, .pointer (some ⟨b1, 0, none⟩)), (3, .pointer (some ⟨b2, 0, none⟩)), (5, .pointer (some ⟨b4, 0, none⟩)), (6, .pointer (some ⟨b5, 0, none⟩)), (40, .int .i64 ((j : Int)))] (St w [(b5, .cells #[.int .i64 (y.slot), .int .i64 (y.round), .int .i64 (y.kind), .int .i64 (y.signer), .int .i64 (y.choice)] 96 (0, 0)), (b4, .cells #[.int .i64 (x.slot), .int .i64 (x.round), .int .i64 (x.kind), .int .i64 (x.signer), .int .i64 (x.choice)] 96 (0, 0)), (b2, .cells (y).cs 26 (0, 0)), (b1, .cells (x).cs 26 (0, 0))]) _ _
    refine W.seq ?_
    refine W.region [(0, false)] (by kernel_rfl) ?_
    refine T.pure 41 (.bool (decide ((j : Int) < 5))) (by kernel_rfl) (fun w => by kernel_rfl) ?_
    refine T.nil ?_
    refine QN.seq ?_
    refine W.seq ?_
    refine W.cond (decide ((j : Int) < 5)) (by kernel_rfl) (fun h6 => ?_) (fun h6 => ?_)
    · skip
      have h6' := of_decide_eq_true h6
      refine W.skip ?_
      refine QN.seq ?_
      refine W.seq ?_
      refine W.block ?_
      refine W.seq ?_
      refine W.region [(0, false), (1, false)] (by kernel_rfl) ?_
      refine T.pure 42 (.int .i64 ((j : Int))) (by kernel_rfl) (fun w => by kernel_rfl) ?_
      refine T.pure 7 (.int .i64 ((j : Int))) (by kernel_rfl) (fun w => by kernel_rfl) ?_
      refine T.nil ?_
      refine QN.seq ?_
      refine W.seq ?_
      refine W.drawn (Ψ := St w [(b5, .cells #[.int .i64 (y.slot), .int .i64 (y.round), .int .i64 (y.kind), .int .i64 (y.signer), .int .i64 (y.choice)] 96 (0, 0)), (b4, .cells #[.int .i64 (x.slot), .int .i64 (x.round), .int .i64 (x.kind), .int .i64 (x.signer), .int .i64 (x.choice)] 96 (0, 0)), (b2, .cells (y).cs 26 (0, 0)), (b1, .cells (x).cs 26 (0, 0))]) (St w [(b5, .cells #[.int .i64 (y.slot), .int .i64 (y.round), .int .i64 (y.kind), .int .i64 (y.signer), .int .i64 (y.choice)] 96 (0, 0)), (b4, .cells #[.int .i64 (x.slot), .int .i64 (x.round), .int .i64 (x.kind), .int .i64 (x.signer), .int .i64 (x.choice)] 96 (0, 0)), (b2, .cells (y).cs 26 (0, 0)), (b1, .cells (x).cs 26 (0, 0))]) [(0, true), (1, true), (2, true), (3, true), (4, true), (5, true), (6, true)] hmx (by kernel_rfl) (NoPanic.then (NoPanic.inBlock (NoPanic.then (NoPanic.then (NoPanic.inBlock (NoPanic.then (NoPanic.body))))))) (fun w h => h.drew) (fun w h => h) ?_
      refine T.pure 43 (.int .i64 ((j : Int))) (by kernel_rfl) (fun w => by kernel_rfl) ?_
      have hj5 : j < 5 := by omega
      refine T.pure 44 (.pointer (some ⟨b4, j, none⟩)) (by kernel_rfl) (fun w => ?_) ?_
      · rcases lt5 hj5 with rfl | rfl | rfl | rfl | rfl <;> kernel_rfl
      refine T.load true 45 (.int .i64 (key5 x j)) 3 b4 j (by kernel_rfl) (by kernel_rfl) (by kernel_rfl) (fun w h => St.cellM h (.tail _ (.head _)) ?_) ?_
      · rcases lt5 hj5 with rfl | rfl | rfl | rfl | rfl <;> rfl
      refine T.pure 46 (.int .i64 ((j : Int))) (by kernel_rfl) (fun w => by kernel_rfl) ?_
      have hj5 : j < 5 := by omega
      refine T.pure 47 (.pointer (some ⟨b5, j, none⟩)) (by kernel_rfl) (fun w => ?_) ?_
      · rcases lt5 hj5 with rfl | rfl | rfl | rfl | rfl <;> kernel_rfl
      refine T.load true 48 (.int .i64 (key5 y j)) 3 b5 j (by kernel_rfl) (by kernel_rfl) (by kernel_rfl) (fun w h => St.cellM h (.head _) ?_) ?_
      · rcases lt5 hj5 with rfl | rfl | rfl | rfl | rfl <;> rfl
      refine T.pure 49 (.bool ((key5 x j) != (key5 y j))) (by kernel_rfl) (fun w => by kernel_rfl) ?_
      refine T.nil ?_
      refine QN.seq ?_
      refine W.cond ((key5 x j) != (key5 y j)) (by kernel_rfl) (fun h7 => ?_) (fun h7 => ?_)
      · skip
        refine W.seq ?_
        refine W.drawn (Ψ := St w [(b5, .cells #[.int .i64 (y.slot), .int .i64 (y.round), .int .i64 (y.kind), .int .i64 (y.signer), .int .i64 (y.choice)] 96 (0, 0)), (b4, .cells #[.int .i64 (x.slot), .int .i64 (x.round), .int .i64 (x.kind), .int .i64 (x.signer), .int .i64 (x.choice)] 96 (0, 0)), (b2, .cells (y).cs 26 (0, 0)), (b1, .cells (x).cs 26 (0, 0))]) (St w [(b5, .cells #[.int .i64 (y.slot), .int .i64 (y.round), .int .i64 (y.kind), .int .i64 (y.signer), .int .i64 (y.choice)] 96 (0, 0)), (b4, .cells #[.int .i64 (x.slot), .int .i64 (x.round), .int .i64 (x.kind), .int .i64 (x.signer), .int .i64 (x.choice)] 96 (0, 0)), (b2, .cells (y).cs 26 (0, 0)), (b1, .cells (x).cs 26 (0, 0))]) [(0, true), (1, true), (2, true), (3, true), (4, true), (5, true), (6, true), (7, false)] hmx (by kernel_rfl) (NoPanic.then (NoPanic.inBlock (NoPanic.then (NoPanic.then (NoPanic.inBlock (NoPanic.then (NoPanic.body))))))) (fun w h => h.drew) (fun w h => h) ?_
        refine T.pure 50 (.int .i64 ((j : Int))) (by kernel_rfl) (fun w => by kernel_rfl) ?_
        have hj5 : j < 5 := by omega
        refine T.pure 51 (.pointer (some ⟨b4, j, none⟩)) (by kernel_rfl) (fun w => ?_) ?_
        · rcases lt5 hj5 with rfl | rfl | rfl | rfl | rfl <;> kernel_rfl
        refine T.load true 52 (.int .i64 (key5 x j)) 3 b4 j (by kernel_rfl) (by kernel_rfl) (by kernel_rfl) (fun w h => St.cellM h (.tail _ (.head _)) ?_) ?_
        · rcases lt5 hj5 with rfl | rfl | rfl | rfl | rfl <;> rfl
        refine T.pure 53 (.int .i64 ((j : Int))) (by kernel_rfl) (fun w => by kernel_rfl) ?_
        have hj5 : j < 5 := by omega
        refine T.pure 54 (.pointer (some ⟨b5, j, none⟩)) (by kernel_rfl) (fun w => ?_) ?_
        · rcases lt5 hj5 with rfl | rfl | rfl | rfl | rfl <;> kernel_rfl
        refine T.load true 55 (.int .i64 (key5 y j)) 3 b5 j (by kernel_rfl) (by kernel_rfl) (by kernel_rfl) (fun w h => St.cellM h (.head _) ?_) ?_
        · rcases lt5 hj5 with rfl | rfl | rfl | rfl | rfl <;> rfl
        refine T.pure 56 (.bool (decide ((key5 x j) < (key5 y j)))) (by kernel_rfl) (fun w => by kernel_rfl) ?_
        refine T.pure 4 (.bool (decide ((key5 x j) < (key5 y j)))) (by kernel_rfl) (fun w => by kernel_rfl) ?_
        refine T.nil ?_
        refine QN.seq ?_
        refine W.ret ?_
        refine QN.blkRet ?_
        refine QN.thenRet ?_
        refine QN.thenRet ?_
        refine QN.blkRet ?_
        refine QN.thenRet ?_
        refine QN.done (.inl rfl) 4 (.bool (decide ((key5 x j) < (key5 y j)))) rfl (by kernel_rfl) (fun w hw => ⟨?_, hw.below⟩)
        exact congrArg (fun b => Ending.returned (.bool b)) (vless_key (by simpa using h3) j (by omega) hk (by simpa using h7)).symm
      · skip
        refine W.skip ?_
        refine QN.blkNormal ?_
        refine QN.seq ?_
        refine W.region [(0, false), (1, false)] (by kernel_rfl) ?_
        refine T.pureE 57 (.int .i64 (IntKind.i64.wrap ((j : Int) + 1))) (.int .i64 ((j : Int) + 1)) (by kernel_rfl) (fun w => by kernel_rfl) (wrap_int (by omega) (by omega)) ?_
        refine T.pure 40 (.int .i64 ((j : Int) + 1)) (by kernel_rfl) (fun w => by kernel_rfl) ?_
        refine T.nil ?_
        refine QN.back (j + 1) ?_ ?_ (by kernel_rfl) (fun w h => h)
        · show (j + 1) ≤ 5 ∧ ∀ k, k < (j + 1) → key5 x k = key5 y k
          exact ⟨by omega, key_bk hk (by simpa using h7)⟩
        · show 5 - _ < 5 - _; omega
    · skip
      have h6' := of_decide_eq_false h6
      refine W.exit ?_
      refine QN.thenExit ?_
      refine QN.thenExit ?_
      refine QN.blkHit ?_
      refine QN.seq ?_
      refine W.seq ?_
      refine W.seq ?_
      refine W.region [(0, false), (1, false), (2, false), (3, false), (4, false)] (by kernel_rfl) ?_
      refine T.pure 58 (.pointer (some ⟨b1, 14, none⟩)) (by kernel_rfl) (fun w => by kernel_rfl) ?_
      refine T.loadR false 59 (x.val).cs 24 b1 14 (by kernel_rfl) (by kernel_rfl) (by kernel_rfl) (by kernel_rfl) (fun w h => St.rangeM h (x.val).cs (.tail _ (.tail _ (.tail _ (.head _)))) (by kernel_rfl)) ?_
      refine T.pure 60 (.pointer (some ⟨b2, 14, none⟩)) (by kernel_rfl) (fun w => by kernel_rfl) ?_
      refine T.loadR false 61 (y.val).cs 24 b2 14 (by kernel_rfl) (by kernel_rfl) (by kernel_rfl) (by kernel_rfl) (fun w h => St.rangeM h (y.val).cs (.tail _ (.tail _ (.head _))) (by kernel_rfl)) ?_
      refine T.eqq 62 (x.val != y.val) (x.val == y.val) true 24 (x.val).cs (y.val).cs (by kernel_rfl) (by kernel_rfl) (by kernel_rfl) (by kernel_rfl) (fun w => eq_nm w x.val y.val) ?_
      refine T.nil ?_
      refine QN.seq ?_
      refine W.cond (x.val != y.val) (by kernel_rfl) (fun h8 => ?_) (fun h8 => ?_)
      · skip
        refine W.seq ?_
        refine W.region [(0, false), (1, false), (2, false), (3, false), (4, false), (5, false)] (by kernel_rfl) ?_
        refine T.pure 63 (.pointer (some ⟨b1, 14, none⟩)) (by kernel_rfl) (fun w => by kernel_rfl) ?_
        refine T.loadR false 64 (x.val).cs 24 b1 14 (by kernel_rfl) (by kernel_rfl) (by kernel_rfl) (by kernel_rfl) (fun w h => St.rangeM h (x.val).cs (.tail _ (.tail _ (.tail _ (.head _)))) (by kernel_rfl)) ?_
        refine T.pure 65 (.pointer (some ⟨b2, 14, none⟩)) (by kernel_rfl) (fun w => by kernel_rfl) ?_
        refine T.loadR false 66 (y.val).cs 24 b2 14 (by kernel_rfl) (by kernel_rfl) (by kernel_rfl) (by kernel_rfl) (fun w h => St.rangeM h (y.val).cs (.tail _ (.tail _ (.head _))) (by kernel_rfl)) ?_
        refine T.callP 67 66 #[.agg (x.val).cs, .agg (y.val).cs] (.bool (hless x.val y.val)) (by kernel_rfl) (by kernel_rfl) ent66 (fun w hw => hless_c x.val y.val w) (fun _ _ => trivial) ?_
        refine T.pure 4 (.bool (hless x.val y.val)) (by kernel_rfl) (fun w => by kernel_rfl) ?_
        refine T.nil ?_
        refine QN.seq ?_
        refine W.ret ?_
        refine QN.thenRet ?_
        refine QN.done (.inl rfl) 4 (.bool (hless x.val y.val)) rfl (by kernel_rfl) (fun w hw => ⟨?_, hw.below⟩)
        (have e5 : j = 5 := (by omega); subst e5; have hv : x.val ≠ y.val := (by simpa using h8); rw [vless_end (by simpa using h3) hk, if_neg hv])
      · skip
        refine W.skip ?_
        refine QN.seq ?_
        refine W.seq ?_
        refine W.region [(0, false), (1, false), (2, false), (3, false), (4, false), (5, false)] (by kernel_rfl) ?_
        refine T.pure 68 (.pointer (some ⟨b1, 5, none⟩)) (by kernel_rfl) (fun w => by kernel_rfl) ?_
        refine T.load false 69 (.int .i64 (x.support)) 22 b1 5 (by kernel_rfl) (by kernel_rfl) (by kernel_rfl) (fun w h => St.cellM h (.tail _ (.tail _ (.tail _ (.head _)))) (by kernel_rfl)) ?_
        refine T.pure 70 (.pointer (some ⟨b2, 5, none⟩)) (by kernel_rfl) (fun w => by kernel_rfl) ?_
        refine T.load false 71 (.int .i64 (y.support)) 22 b2 5 (by kernel_rfl) (by kernel_rfl) (by kernel_rfl) (fun w h => St.cellM h (.tail _ (.tail _ (.head _))) (by kernel_rfl)) ?_
        refine T.pure 72 (.bool (decide (x.support < y.support))) (by kernel_rfl) (fun w => by kernel_rfl) ?_
        refine T.pure 4 (.bool (decide (x.support < y.support))) (by kernel_rfl) (fun w => by kernel_rfl) ?_
        refine T.nil ?_
        refine QN.seq ?_
        refine W.ret ?_
        refine QN.done (.inl rfl) 4 (.bool (decide (x.support < y.support))) rfl (by kernel_rfl) (fun w hw => ⟨?_, hw.below⟩)
        (have e5 : j = 5 := (by omega); subst e5; have hv : x.val = y.val := (by simpa using h8); rw [vless_end (by simpa using h3) hk, if_pos hv])
theorem lex_irr : ∀ l : List Int, lexLt l l = false
  | [] => rfl
  | a :: l => by rw [lexLt_eq]; exact lex_irr l
theorem lex_trans : ∀ l m k : List Int, lexLt l m = true → lexLt m k = true → lexLt l k = true
  | [], _, _, h, _ => by simp [lexLt] at h
  | _ :: _, [], _, h, _ => by simp [lexLt] at h
  | _ :: _, _ :: _, [], _, h => by simp [lexLt] at h
  | a :: l, b :: m, c :: k, h1, h2 => by
    by_cases e1 : a = b
    · subst e1
      by_cases e2 : a = c
      · subst e2
        rw [lexLt_eq] at *
        exact lex_trans l m k h1 h2
      · rw [lexLt_ne e2] at *; exact h2
    · rw [lexLt_ne e1] at h1
      by_cases e2 : b = c
      · subst e2; rw [lexLt_ne e1]; exact h1
      · rw [lexLt_ne e2] at h2
        simp only [decide_eq_true_eq] at h1 h2
        rw [lexLt_ne (by omega)]
        simp only [decide_eq_true_eq]; omega
theorem lex_tot : ∀ l m : List Int, l.length = m.length → lexLt l m = false → lexLt m l = false → l = m
  | [], [], _, _, _ => rfl
  | [], _ :: _, h, _, _ => by simp at h
  | _ :: _, [], h, _, _ => by simp at h
  | a :: l, b :: m, h, h1, h2 => by
    by_cases e1 : a = b
    · subst e1
      rw [lexLt_eq] at *
      rw [lex_tot l m (by simpa using h) h1 h2]
    · rw [lexLt_ne e1] at h1
      rw [lexLt_ne (Ne.symm e1)] at h2
      simp only [decide_eq_false_iff_not] at h1 h2
      omega
theorem vless_tot {x y : Vt} (h1 : vless x y = false) (h2 : vless y x = false) : x = y := by
  have h := lex_tot (keyL x) (keyL y) (by simp [keyL]) h1 h2
  simp only [keyL, List.cons.injEq, and_true] at h
  obtain ⟨a1, a2, a3, a4, a5, a6, a7, a8⟩ := h
  have b1 : x.par = y.par := Nm.num_inj (by omega)
  have b2 : x.val = y.val := Nm.num_inj (by omega)
  cases x; cases y; simp_all
theorem vless_swo : Sort.SWO vless where
  irrefl := fun x => lex_irr _
  trans := fun x y z => lex_trans _ _ _
  ntrans := fun x y z h1 h2 => by
    by_cases h3 : vless x z = true
    · exfalso
      by_cases h4 : vless y x = true
      · exact absurd (lex_trans _ _ _ h4 h3) (by simpa [vless] using h2)
      · have := vless_tot h1 (by simpa using h4)
        subst this
        exact absurd h3 (by simpa using h2)
    · simpa using h3
end Go.Proofs.Ythhgdkodhokefaa
