/- The closures of justify: each decides a plain predicate. -/
import Derived.Test.YtphnfhonmbbddaaGC
import Derived.StillTailTactics
import Derived.LaidEqlPtr
namespace Go.Proofs.Ytphnfhonmbbddaa
open Go Go.RowKit
set_option linter.unusedVariables false

def poB (v u : Vt) : Bool := (u.kind == 1) && sameB v u
def peB (v u : Vt) : Bool := (u.kind == 2) && sameB v u
def pvB (v u : Vt) : Bool := (u.kind == 4) && (u.round == v.round - 1) && sameB v u
def pmB (v u : Vt) : Bool := (u.kind == 4) && (u.round == v.round - 1) && (u.choice == 2)
def pbB (v u : Vt) : Bool := (u.kind == 3) && (u.round == v.round - 1) && sameB v u
def prB (v u : Vt) : Bool := (u.kind == 3) && (u.round == v.round)

theorem VtAt.alloc {w : World} {b off : Nat} {v : Vt} (h : VtAt w b off v) (hb : b < w.heap.size) (o : Obj) : VtAt (w.alloc o) b off v :=
  fun t u hu => (World.cell?_alloc_lt w o ⟨b, off + t, none⟩ hb).trans (h t u hu)
theorem VtAt.blw {w w' : World} {b off : Nat} {v : Vt} (h : VtAt w b off v) (hb : b < w.heap.size) (hw : Below w.heap.size w w') : VtAt w' b off v :=
  fun t u hu => (hw.cell (p := ⟨b, off + t, none⟩) hb).trans (h t u hu)
theorem below1 (w : World) (o : Obj) : Below w.heap.size w (w.alloc o) := (Below.refl _ _).alloc (Nat.le_refl _) _
theorem below1t {w w2 : World} {o : Obj} (h : Below (w.alloc o).heap.size (w.alloc o) w2) : Below w.heap.size w w2 := (below1 w o).trans (h.mono (by simp))
set_option maxRecDepth 100000 in
set_option maxHeartbeats 2000000 in
theorem fits_propose (W0 : World) (Bv : Nat) (v : Vt) (hB : W0.heap[Bv]? = some (.cells v.cs 68 (0, 0))) :
    Fits W0 (.func (.func 78) #[] #[.pointer (some ⟨Bv, 0, none⟩)]) (fun u => poB v u) := by
  refine ⟨_, _, rfl, enters_of Try.func78 (by kernel_rfl) rfl, fun W u hW => ?_⟩
  have hv : VtAt W Bv 0 v := VtAt.of_blk ((hW.block Bv (heap_lt hB)).trans hB)
  have hlt : Bv < W.heap.size := Nat.lt_of_lt_of_le (heap_lt hB) hW.size
  have cr : W.cell? ⟨Bv, 2, none⟩ = some (.int .i64 v.round) := by simpa using hv 2 _ (Vt.cs_2 v)
  have HV := Lib.hid (hv.alloc hlt (.cells u.cs 68))
  clear hv hB hW
  cases k1 : (u.kind == 1) with
  | false =>
    go_enter Try.func78, Try.ntmps78
    go_wp2
    go_ret
    exact ⟨ret_bool (by simp [poB, k1]), below1 _ _⟩
  | true =>
    go_enter Try.func78, Try.ntmps78
    go_wp2_with (first | (refine wpList_load_vt (by rfl) (.tmp 1) rfl _ _ rfl v HV.out ?_) | (refine wpList_load_vt (by rfl) (.tmp 2) rfl _ _ rfl u (VtAt.new _ _ _) ?_) | (go_at_call 79; refine (same_c _ _ _).mono ?_; rintro e w2 ⟨rfl, hb2⟩))
    go_ret
    exact ⟨ret_bool (by simp [poB, k1]), below1t hb2⟩
set_option maxRecDepth 100000 in
set_option maxHeartbeats 2000000 in
theorem fits_echo (W0 : World) (Bv : Nat) (v : Vt) (hB : W0.heap[Bv]? = some (.cells v.cs 68 (0, 0))) :
    Fits W0 (.func (.func 112) #[] #[.pointer (some ⟨Bv, 0, none⟩)]) (fun u => peB v u) := by
  refine ⟨_, _, rfl, enters_of Try.func112 (by kernel_rfl) rfl, fun W u hW => ?_⟩
  have hv : VtAt W Bv 0 v := VtAt.of_blk ((hW.block Bv (heap_lt hB)).trans hB)
  have hlt : Bv < W.heap.size := Nat.lt_of_lt_of_le (heap_lt hB) hW.size
  have cr : W.cell? ⟨Bv, 2, none⟩ = some (.int .i64 v.round) := by simpa using hv 2 _ (Vt.cs_2 v)
  have HV := Lib.hid (hv.alloc hlt (.cells u.cs 68))
  clear hv hB hW
  cases k1 : (u.kind == 2) with
  | false =>
    go_enter Try.func112, Try.ntmps112
    go_wp2
    go_ret
    exact ⟨ret_bool (by simp [peB, k1]), below1 _ _⟩
  | true =>
    go_enter Try.func112, Try.ntmps112
    go_wp2_with (first | (refine wpList_load_vt (by rfl) (.tmp 1) rfl _ _ rfl v HV.out ?_) | (refine wpList_load_vt (by rfl) (.tmp 2) rfl _ _ rfl u (VtAt.new _ _ _) ?_) | (go_at_call 79; refine (same_c _ _ _).mono ?_; rintro e w2 ⟨rfl, hb2⟩))
    go_ret
    exact ⟨ret_bool (by simp [peB, k1]), below1t hb2⟩
set_option maxRecDepth 100000 in
set_option maxHeartbeats 2000000 in
theorem fits_value (W0 : World) (Bv : Nat) (v : Vt) (h1 : 1 ≤ v.round) (h2 : v.round ≤ 12) (hB : W0.heap[Bv]? = some (.cells v.cs 68 (0, 0))) :
    Fits W0 (.func (.func 113) #[] #[.pointer (some ⟨Bv, 0, none⟩)]) (fun u => pvB v u) := by
  refine ⟨_, _, rfl, enters_of Try.func113 (by kernel_rfl) rfl, fun W u hW => ?_⟩
  have hv : VtAt W Bv 0 v := VtAt.of_blk ((hW.block Bv (heap_lt hB)).trans hB)
  have hlt : Bv < W.heap.size := Nat.lt_of_lt_of_le (heap_lt hB) hW.size
  have cr : W.cell? ⟨Bv, 2, none⟩ = some (.int .i64 v.round) := by simpa using hv 2 _ (Vt.cs_2 v)
  have HV := Lib.hid (hv.alloc hlt (.cells u.cs 68))
  clear hv hB hW
  cases k1 : (u.kind == 4) with
  | false =>
    go_enter Try.func113, Try.ntmps113
    go_wp2
    go_ret
    exact ⟨ret_bool (by simp [pvB, k1]), below1 _ _⟩
  | true =>
    cases k2 : (u.round == v.round - 1) with
    | false =>
      go_enter Try.func113, Try.ntmps113
      go_wp2
      go_ret
      exact ⟨ret_bool (by simp [pvB, k1, k2]), below1 _ _⟩
    | true =>
      go_enter Try.func113, Try.ntmps113
      go_wp2_with (first | (refine wpList_load_vt (by rfl) (.tmp 1) rfl _ _ rfl v HV.out ?_) | (refine wpList_load_vt (by rfl) (.tmp 2) rfl _ _ rfl u (VtAt.new _ _ _) ?_) | (go_at_call 79; refine (same_c _ _ _).mono ?_; rintro e w2 ⟨rfl, hb2⟩))
      go_ret
      exact ⟨ret_bool (by simp [pvB, k1, k2]), below1t hb2⟩
set_option maxRecDepth 100000 in
set_option maxHeartbeats 2000000 in
theorem fits_mixed (W0 : World) (Bv : Nat) (v : Vt) (h1 : 1 ≤ v.round) (h2 : v.round ≤ 12) (hB : W0.heap[Bv]? = some (.cells v.cs 68 (0, 0))) :
    Fits W0 (.func (.func 114) #[] #[.pointer (some ⟨Bv, 0, none⟩)]) (fun u => pmB v u) := by
  refine ⟨_, _, rfl, enters_of Try.func114 (by kernel_rfl) rfl, fun W u hW => ?_⟩
  have hv : VtAt W Bv 0 v := VtAt.of_blk ((hW.block Bv (heap_lt hB)).trans hB)
  have hlt : Bv < W.heap.size := Nat.lt_of_lt_of_le (heap_lt hB) hW.size
  have cr : W.cell? ⟨Bv, 2, none⟩ = some (.int .i64 v.round) := by simpa using hv 2 _ (Vt.cs_2 v)
  have HV := Lib.hid (hv.alloc hlt (.cells u.cs 68))
  clear hv hB hW
  cases k1 : (u.kind == 4) with
  | false =>
    go_enter Try.func114, Try.ntmps114
    go_wp2
    go_ret
    exact ⟨ret_bool (by simp [pmB, k1]), below1 _ _⟩
  | true =>
    cases k2 : (u.round == v.round - 1) with
    | false =>
      go_enter Try.func114, Try.ntmps114
      go_wp2
      go_ret
      exact ⟨ret_bool (by simp [pmB, k1, k2]), below1 _ _⟩
    | true =>
      go_enter Try.func114, Try.ntmps114
      go_wp2
      go_ret
      exact ⟨ret_bool (by simp [pmB, k1, k2]), below1 _ _⟩
set_option maxRecDepth 100000 in
set_option maxHeartbeats 2000000 in
theorem fits_before (W0 : World) (Bv : Nat) (v : Vt) (h1 : 1 ≤ v.round) (h2 : v.round ≤ 12) (hB : W0.heap[Bv]? = some (.cells v.cs 68 (0, 0))) :
    Fits W0 (.func (.func 117) #[] #[.pointer (some ⟨Bv, 0, none⟩)]) (fun u => pbB v u) := by
  refine ⟨_, _, rfl, enters_of Try.func117 (by kernel_rfl) rfl, fun W u hW => ?_⟩
  have hv : VtAt W Bv 0 v := VtAt.of_blk ((hW.block Bv (heap_lt hB)).trans hB)
  have hlt : Bv < W.heap.size := Nat.lt_of_lt_of_le (heap_lt hB) hW.size
  have cr : W.cell? ⟨Bv, 2, none⟩ = some (.int .i64 v.round) := by simpa using hv 2 _ (Vt.cs_2 v)
  have HV := Lib.hid (hv.alloc hlt (.cells u.cs 68))
  clear hv hB hW
  cases k1 : (u.kind == 3) with
  | false =>
    go_enter Try.func117, Try.ntmps117
    go_wp2
    go_ret
    exact ⟨ret_bool (by simp [pbB, k1]), below1 _ _⟩
  | true =>
    cases k2 : (u.round == v.round - 1) with
    | false =>
      go_enter Try.func117, Try.ntmps117
      go_wp2
      go_ret
      exact ⟨ret_bool (by simp [pbB, k1, k2]), below1 _ _⟩
    | true =>
      go_enter Try.func117, Try.ntmps117
      go_wp2_with (first | (refine wpList_load_vt (by rfl) (.tmp 1) rfl _ _ rfl v HV.out ?_) | (refine wpList_load_vt (by rfl) (.tmp 2) rfl _ _ rfl u (VtAt.new _ _ _) ?_) | (go_at_call 79; refine (same_c _ _ _).mono ?_; rintro e w2 ⟨rfl, hb2⟩))
      go_ret
      exact ⟨ret_bool (by simp [pbB, k1, k2]), below1t hb2⟩
set_option maxRecDepth 100000 in
set_option maxHeartbeats 2000000 in
theorem fits_round (W0 : World) (Bv : Nat) (v : Vt) (hB : W0.heap[Bv]? = some (.cells v.cs 68 (0, 0))) :
    Fits W0 (.func (.func 118) #[] #[.pointer (some ⟨Bv, 0, none⟩)]) (fun u => prB v u) := by
  refine ⟨_, _, rfl, enters_of Try.func118 (by kernel_rfl) rfl, fun W u hW => ?_⟩
  have hv : VtAt W Bv 0 v := VtAt.of_blk ((hW.block Bv (heap_lt hB)).trans hB)
  have hlt : Bv < W.heap.size := Nat.lt_of_lt_of_le (heap_lt hB) hW.size
  have cr : W.cell? ⟨Bv, 2, none⟩ = some (.int .i64 v.round) := by simpa using hv 2 _ (Vt.cs_2 v)
  have HV := Lib.hid (hv.alloc hlt (.cells u.cs 68))
  clear hv hB hW
  cases k1 : (u.kind == 3) with
  | false =>
    go_enter Try.func118, Try.ntmps118
    go_wp2
    go_ret
    exact ⟨ret_bool (by simp [prB, k1]), below1 _ _⟩
  | true =>
    go_enter Try.func118, Try.ntmps118
    go_wp2
    go_ret
    exact ⟨ret_bool (by simp [prB, k1]), below1 _ _⟩
set_option maxRecDepth 100000 in
set_option maxHeartbeats 2000000 in
theorem fits_either (W0 : World) (B1 B2 : Nat) (f1 f2 : Value) (p1 p2 : Vt → Bool) (hF1 : Fits W0 f1 p1) (hF2 : Fits W0 f2 p2) (hB1 : Boxed W0 B1 100 f1) (hB2 : Boxed W0 B2 100 f2) :
    Fits W0 (.func (.func 115) #[] #[.pointer (some ⟨B1, 0, none⟩), .pointer (some ⟨B2, 0, none⟩)]) (fun u => p1 u || p2 u) := by
  refine ⟨_, _, rfl, enters_of Try.func115 (by kernel_rfl) rfl, fun W u hW => ?_⟩
  have hWA : Below W0.heap.size W0 (W.alloc (.cells u.cs 68)) := hW.trans ((below1 _ _).mono hW.size)
  obtain ⟨k1, lb1, rfl, he1, hc1⟩ := hF1
  obtain ⟨k2, lb2, rfl, he2, hc2⟩ := hF2
  have x1 : Boxed W B1 100 (.func (.func k1) #[] lb1) := boxed_eq hB1 (hW.block B1 hB1.lt)
  have x2 : Boxed W B2 100 (.func (.func k2) #[] lb2) := boxed_eq hB2 (hW.block B2 hB2.lt)
  have HC1 := Lib.hid (hc1 _ u hWA)
  have HC2 := Lib.hid (fun w2 (hb : Below (W.alloc (.cells u.cs 68)).heap.size (W.alloc (.cells u.cs 68)) w2) => hc2 w2 u (hWA.trans (hb.mono hWA.size)))
  have c1 := x1.cell
  have l1 := x1.lt
  have X2 := Lib.hid x2
  clear hc1 hc2 hB1 hB2 hW hWA x1 x2
  go_enter Try.func115, Try.ntmps115
  go_wp2_with (refine wpList_load_vt (by rfl) (.tmp 3) rfl _ _ rfl u (VtAt.new _ _ _) ?_)
  refine HC1.out.mono ?_
  rintro e w2 ⟨rfl, hb2⟩
  cases h1 : p1 u with
  | true =>
    go_wp2
    go_ret
    exact ⟨ret_bool (by simp [h1]), below1t hb2⟩
  | false =>
    have c2 := (Boxed.blw (X2.out.alloc (.cells u.cs 68)) hb2).cell
    have HU := Lib.hid ((VtAt.new W u 68).blw (by simp) hb2)
    go_wp2_with (refine wpList_load_vt (by rfl) (.tmp 3) rfl _ _ rfl u HU.out ?_)
    refine (HC2.out _ hb2).mono ?_
    rintro e w3 ⟨rfl, hb3⟩
    go_wp2
    go_ret
    exact ⟨ret_bool (by simp [h1]), (below1t hb2).trans (hb3.mono (below1t hb2).size)⟩
set_option maxRecDepth 100000 in
set_option maxHeartbeats 2000000 in
theorem fits_in (W0 : World) (Bv B1 : Nat) (v : Vt) (hs : W64 v.support) (f1 : Value) (p1 : Vt → Bool) (hF1 : Fits W0 f1 p1) (hB : W0.heap[Bv]? = some (.cells v.cs 68 (0, 0))) (hB1 : Boxed W0 B1 100 f1) :
    Fits W0 (.func (.func 116) #[] #[.pointer (some ⟨Bv, 0, none⟩), .pointer (some ⟨B1, 0, none⟩)]) (fun u => hasB v.support u.signer && p1 u) := by
  refine ⟨_, _, rfl, enters_of Try.func116 (by kernel_rfl) rfl, fun W u hW => ?_⟩
  have hWA : Below W0.heap.size W0 (W.alloc (.cells u.cs 68)) := hW.trans ((below1 _ _).mono hW.size)
  obtain ⟨k1, lb1, rfl, he1, hc1⟩ := hF1
  have hv : VtAt W Bv 0 v := VtAt.of_blk ((hW.block Bv (heap_lt hB)).trans hB)
  have hlt : Bv < W.heap.size := Nat.lt_of_lt_of_le (heap_lt hB) hW.size
  have cs : W.cell? ⟨Bv, 5, none⟩ = some (.int .i64 v.support) := by simpa using hv 5 _ (Vt.cs_5 v)
  have x1 : Boxed W B1 100 (.func (.func k1) #[] lb1) := boxed_eq hB1 (hW.block B1 hB1.lt)
  have HC1 := Lib.hid (hc1 _ u hWA)
  have HH := Lib.hid (fun w => has_c v.support u.signer w hs)
  have c1 := x1.cell
  have l1 := x1.lt
  clear hc1 hB1 hB hW hWA x1 hv hs
  cases h1 : hasB v.support u.signer with
  | true =>
    rw [h1] at HH
    go_enter Try.func116, Try.ntmps116
    go_wp2_with (first | (go_at_call 76; refine (HH.out _).mono ?_; rintro e w' ⟨rfl, rfl⟩) | (refine wpList_load_vt (by rfl) (.tmp 3) rfl _ _ rfl u (VtAt.new _ _ _) ?_))
    refine HC1.out.mono ?_
    rintro e w2 ⟨rfl, hb2⟩
    go_wp2
    go_ret
    exact ⟨ret_bool (by simp [h1]), below1t hb2⟩
  | false =>
    rw [h1] at HH
    go_enter Try.func116, Try.ntmps116
    go_wp2_with (go_at_call 76; refine (HH.out _).mono ?_; rintro e w' ⟨rfl, rfl⟩)
    go_ret
    exact ⟨ret_bool (by simp [h1]), below1 _ _⟩
set_option maxRecDepth 100000 in
set_option maxHeartbeats 2000000 in
theorem fits_and (W0 : World) (B1 Bv : Nat) (v : Vt) (f1 : Value) (p1 : Vt → Bool) (hF1 : Fits W0 f1 p1) (hB : W0.heap[Bv]? = some (.cells v.cs 68 (0, 0))) (hB1 : Boxed W0 B1 100 f1) :
    Fits W0 (.func (.func 119) #[] #[.pointer (some ⟨B1, 0, none⟩), .pointer (some ⟨Bv, 0, none⟩)]) (fun u => p1 u && sameB v u) := by
  refine ⟨_, _, rfl, enters_of Try.func119 (by kernel_rfl) rfl, fun W u hW => ?_⟩
  have hWA : Below W0.heap.size W0 (W.alloc (.cells u.cs 68)) := hW.trans ((below1 _ _).mono hW.size)
  obtain ⟨k1, lb1, rfl, he1, hc1⟩ := hF1
  have hv : VtAt W Bv 0 v := VtAt.of_blk ((hW.block Bv (heap_lt hB)).trans hB)
  have hlt : Bv < W.heap.size := Nat.lt_of_lt_of_le (heap_lt hB) hW.size
  have x1 : Boxed W B1 100 (.func (.func k1) #[] lb1) := boxed_eq hB1 (hW.block B1 hB1.lt)
  have HC1 := Lib.hid (hc1 _ u hWA)
  have HV := Lib.hid (hv.alloc hlt (.cells u.cs 68))
  have c1 := x1.cell
  have l1 := x1.lt
  clear hc1 hB1 hB hW hWA x1 hv
  go_enter Try.func119, Try.ntmps119
  go_wp2_with (refine wpList_load_vt (by rfl) (.tmp 3) rfl _ _ rfl u (VtAt.new _ _ _) ?_)
  refine HC1.out.mono ?_
  rintro e w2 ⟨rfl, hb2⟩
  cases h1 : p1 u with
  | false =>
    go_wp2
    go_ret
    exact ⟨ret_bool (by simp [h1]), below1t hb2⟩
  | true =>
    have HU := Lib.hid ((VtAt.new W u 68).blw (by simp) hb2)
    have HV2 := Lib.hid (HV.out.blw (by simp; omega) hb2)
    go_wp2_with (first | (refine wpList_load_vt (by rfl) (.tmp 2) rfl _ _ rfl v HV2.out ?_) | (refine wpList_load_vt (by rfl) (.tmp 3) rfl _ _ rfl u HU.out ?_) | (go_at_call 79; refine (same_c _ _ _).mono ?_; rintro e w3 ⟨rfl, hb3⟩))
    go_ret
    exact ⟨ret_bool (by simp [h1]), (below1t hb2).trans (hb3.mono (below1t hb2).size)⟩
end Go.Proofs.Ytphnfhonmbbddaa

/- The closure of precommit that remembers the first vote. -/
namespace Go.Proofs.Ytphnfhonmbbddaa
open Go Go.RowKit
set_option linter.unusedVariables false

def FirstIs (W : World) (F : Nat) : List Vt → Prop
  | [] => Boxed W F 140 (.pointer none)
  | u0 :: _ => ∃ B, Boxed W F 140 (.pointer (some ⟨B, 0, none⟩)) ∧ W.heap[B]? = some (.cells u0.cs 68 (0, 0)) ∧ F < B
/-- Two of the votes are unlike the first. -/
def unl : List Vt → Bool
  | [] => false
  | u0 :: r => r.any fun u => !sameB u0 u
def unlike (ms : List Vt) (u : Vt) : Bool :=
  match ms with
  | [] => false
  | u0 :: _ => !sameB u0 u
theorem unl_snoc (ms : List Vt) (u : Vt) : unl (ms ++ [u]) = (unl ms || unlike ms u) := by
  cases ms with
  | nil => rfl
  | cons a r => simp [unl, unlike]
theorem sameB_self (u : Vt) : sameB u u = true := by simp [sameB]
section
variable {ops : Array Oper} {w : World} {Q : Act → Prop} {a : Act} {rest : List Oper} {o : Oper}
theorem wpStill_load_vt (hw : Region.wanted o (yielded ops a.tmps) = true) (x : Operand) (ho : o.op = .load 68 x) (b off : Nat) (hx : a.eval x = .pointer (some ⟨b, off, none⟩)) (v : Vt) (hv : VtAt w b off v)
    (h : wpStill Try.prog ops w Q rest (a.put o.dst (.agg v.cs))) : wpStill Try.prog ops w Q (o :: rest) a := by
  obtain ⟨fs, hu⟩ := vt_under
  refine wpStill_step fun K hK => ?_
  rw [if_pos hw]
  have hl := run_loadAt_mid (P := Try.prog) w b off 68 v.cs.toList _ hv.range hu rfl (by rw [vt_info]; rfl)
  unfold Oper.still execOp
  simp only [ho, hx, Sem.run_bind, Sem.run_pure, Result.andThen_ok, hl]
  rw [Oper.stillUpon_value]
  exact hK _ (by simpa using h)
end
def FirstPost (W0 W : World) (F : Nat) (ms : List Vt) (u : Vt) (b : Bool) (e : Ending) (W' : World) : Prop :=
  Below F W0 W' ∧ ((b = false ∧ e = .returned (.bool false) ∧ FirstIs W' F ms) ∨ (b = true ∧ e = .returned (.bool (unlike ms u)) ∧ FirstIs W' F (ms ++ [u])))
theorem FirstIs.blw {W W' : World} {F : Nat} {ms : List Vt} (h : FirstIs W F ms) (hb : Below W.heap.size W W') : FirstIs W' F ms := by
  cases ms with
  | nil => exact Boxed.blw h hb
  | cons a r =>
    obtain ⟨B, h1, h2, h3⟩ := h
    exact ⟨B, Boxed.blw h1 hb, (hb.block B (heap_lt h2)).trans h2, h3⟩
theorem FirstIs.box {W : World} {F : Nat} {ms : List Vt} (h : FirstIs W F ms) : ∃ v, Boxed W F 140 v := by
  cases ms with
  | nil => exact ⟨_, h⟩
  | cons a r => obtain ⟨B, h1, _⟩ := h; exact ⟨_, h1⟩
theorem below_undrew {W W' : World} (h : Below W.drew.heap.size W.drew W') : Below W.heap.size W W' := ⟨h.os, h.tape, h.output, h.size, h.block⟩
theorem FirstIs.lt {W : World} {F : Nat} {ms : List Vt} (h : FirstIs W F ms) : F < W.heap.size := by
  obtain ⟨v, hv⟩ := FirstIs.box h
  exact hv.lt
set_option maxRecDepth 100000 in
set_option maxHeartbeats 2000000 in
theorem first_c (W0 W : World) (B1 Bv F : Nat) (hF : W0.heap.size = F) (f1 : Value) (p1 : Vt → Bool) (hF1 : Fits W0 f1 p1) (v : Vt) (hs : W64 v.support) (hB : W0.heap[Bv]? = some (.cells v.cs 68 (0, 0))) (hB1 : Boxed W0 B1 100 f1)
    (hW : Below F W0 W) (ms : List Vt) (hf : FirstIs W F ms) (u : Vt) :
    Calls Try.prog 120 #[.agg u.cs, .pointer (some ⟨B1, 0, none⟩), .pointer (some ⟨Bv, 0, none⟩), .pointer (some ⟨F, 0, none⟩)] W (FirstPost W0 W F ms u (p1 u && hasB v.support u.signer)) := by
  subst hF
  obtain ⟨k1, lb1, rfl, he1, hc1⟩ := hF1
  have hWA : Below W0.heap.size W0 (W.alloc (.cells u.cs 68)) := hW.trans ((below1 _ _).mono hW.size)
  have hv : VtAt W Bv 0 v := VtAt.of_blk ((hW.block Bv (heap_lt hB)).trans hB)
  have hlt : Bv < W.heap.size := Nat.lt_of_lt_of_le (heap_lt hB) hW.size
  have x1 : Boxed W B1 100 (.func (.func k1) #[] lb1) := boxed_eq hB1 (hW.block B1 hB1.lt)
  have c1 := x1.cell
  have l1 := x1.lt
  have HC1 := Lib.hid (hc1 _ u hWA)
  have HH := Lib.hid (fun w => has_c v.support u.signer w hs)
  have HV := Lib.hid (hv.alloc hlt (.cells u.cs 68))
  have HW := Lib.hid hW
  have HWA := Lib.hid hWA
  have FIB := Lib.hid (FirstIs.lt hf)
  have HFI := Lib.hid (FirstIs.blw hf (below1 W (.cells u.cs 68)))
  clear hc1 hB hB1 hW hWA x1 hv hf hs
  cases h1 : p1 u with
  | false =>
    rw [h1] at HC1
    go_enter Try.func120, Try.ntmps120
    go_wp2_with (refine wpList_load_vt (by rfl) (.tmp 4) rfl _ _ rfl u (VtAt.new _ _ _) ?_)
    refine HC1.out.mono ?_
    rintro e w2 ⟨rfl, hb2⟩
    go_wp2
    go_ret
    exact ⟨HWA.out.trans (hb2.mono HWA.out.size), .inl ⟨by simp, rfl, FirstIs.blw HFI.out hb2⟩⟩
  | true =>
    rw [h1] at HC1
    cases h2 : hasB v.support u.signer with
    | false =>
      rw [h2] at HH
      go_enter Try.func120, Try.ntmps120
      go_wp2_with (refine wpList_load_vt (by rfl) (.tmp 4) rfl _ _ rfl u (VtAt.new _ _ _) ?_)
      refine HC1.out.mono ?_
      rintro e w2 ⟨rfl, hb2⟩
      have cs : w2.cell? ⟨Bv, 5, none⟩ = some (.int .i64 v.support) := by simpa using (HV.out.blw (by simp; omega) hb2) 5 _ (Vt.cs_5 v)
      have cu : w2.cell? ⟨W.heap.size, 4, none⟩ = some (.int .i64 u.signer) := by simpa using ((VtAt.new W u 68).blw (by simp) hb2) 4 _ (Vt.cs_4 u)
      go_wp2_with (go_at_call 76; refine (HH.out _).mono ?_; rintro e w' ⟨rfl, rfl⟩)
      go_ret
      exact ⟨HWA.out.trans (hb2.mono HWA.out.size), .inl ⟨by simp, rfl, FirstIs.blw HFI.out hb2⟩⟩
    | true =>
      rw [h2] at HH
      have hmx : Try.prog.follows .mixedOrders = true := by kernel_rfl
      cases ms with
      | nil =>
        have HB3 := Lib.hid (show Boxed (W.alloc (.cells u.cs 68)) W0.heap.size 140 (.pointer none) from HFI.out)
        go_enter Try.func120, Try.ntmps120
        go_wp2_with (refine wpList_load_vt (by rfl) (.tmp 4) rfl _ _ rfl u (VtAt.new _ _ _) ?_)
        refine HC1.out.mono ?_
        rintro e w2 ⟨rfl, hb2⟩
        have cs : w2.cell? ⟨Bv, 5, none⟩ = some (.int .i64 v.support) := by simpa using (HV.out.blw (by simp; omega) hb2) 5 _ (Vt.cs_5 v)
        have hu2 := (VtAt.new W u 68).blw (by simp) hb2
        have HU2 := Lib.hid hu2
        have cu : w2.cell? ⟨W.heap.size, 4, none⟩ = some (.int .i64 u.signer) := by simpa using hu2 4 _ (Vt.cs_4 u)
        have bf := Boxed.blw HB3.out hb2
        have cf := bf.cell
        have ff := bf.frozen
        have BF := Lib.hid bf
        clear hu2 bf
        go_wp2_with (go_at_call 76; refine (HH.out _).mono ?_; rintro e w' ⟨rfl, rfl⟩)
        have l0 : W0.heap.size < W.heap.size + 1 := by simpa using HB3.out.lt
        have hle := HW.out.size
        have hsz2 : W.heap.size + 1 ≤ w2.heap.size := by simpa using hb2.size
        have hneq : W0.heap.size ≠ W.heap.size := by
          intro e
          have := FIB.out
          rw [← e] at this
          omega
        have HB5 := Lib.hid (BF.out.set (.pointer (some ⟨W.heap.size, 0, none⟩)))
        have HA5 : Hid (VtAt (w2.setCell ⟨W0.heap.size, 0, none⟩ (.pointer (some ⟨W.heap.size, 0, none⟩))) W.heap.size 0 u) := fun t x hx => (World.cell?_setCell_other w2 ⟨W0.heap.size, 0, none⟩ ⟨W.heap.size, 0 + t, none⟩ _ (fun e => hneq (congrArg Addr.block e))).trans (HU2.out t x hx)
        have HK5 : Hid ((w2.setCell ⟨W0.heap.size, 0, none⟩ (.pointer (some ⟨W.heap.size, 0, none⟩))).heap[W.heap.size]? = some (.cells u.cs 68 (0, 0))) := (Below.heap_setCell w2 ⟨W0.heap.size, 0, none⟩ _ W.heap.size (fun e => hneq e.symm)).trans ((hb2.block W.heap.size (by simp)).trans (heap_alloc_last W _))
        have HBW5 : Hid (Below W0.heap.size W0 (w2.setCell ⟨W0.heap.size, 0, none⟩ (.pointer (some ⟨W.heap.size, 0, none⟩)))) := (HWA.out.trans (hb2.mono HWA.out.size)).setCell (p := ⟨W0.heap.size, 0, none⟩) (Nat.le_refl _) _
        clear hb2 cf ff cs cu BF HB3 HU2 hneq
        generalize w2.setCell ⟨W0.heap.size, 0, none⟩ (.pointer (some ⟨W.heap.size, 0, none⟩)) = W5 at *
        have c5 : W5.cell? ⟨W0.heap.size, 0, none⟩ = some (.pointer (some ⟨W.heap.size, 0, none⟩)) := HB5.out.cell
        have HA : Hid (VtAt { W5 with drawn := W5.drawn + 1 } W.heap.size 0 u) := HA5.out
        have HC : Hid (VtAt { W5 with drawn := W5.drawn + 1 } W.heap.size 0 u) := HA5.out
        refine wp_region_still_tail 4 hmx (by kernel_rfl) ?_
        simp only [List.take_succ_cons, List.take_zero, List.drop_succ_cons, List.drop_zero]
        still_step
        still_step
        refine wpStill_load_vt (by rfl) (.tmp 21) rfl _ _ rfl u HA.out ?_
        refine wpStill_load_vt (by rfl) (.tmp 4) rfl _ _ rfl u HC.out ?_
        refine wpStill_nil ?_
        go_wp2_with (go_at_call 79; refine (same_c _ _ _).mono ?_; rintro e w6 ⟨rfl, hb6⟩)
        go_ret
        have hb6' : Below W5.heap.size W5 w6 := below_undrew hb6
        refine ⟨HBW5.out.trans (hb6'.mono HBW5.out.size), .inr ⟨by simp, by simp [sameB_self, unlike], ?_⟩⟩
        exact ⟨W.heap.size, Boxed.blw HB5.out hb6', (hb6'.block _ (heap_lt HK5.out)).trans HK5.out, FIB.out⟩
      | cons u0 r =>
        obtain ⟨B, q1, q2, q3⟩ := HFI.out
        have Q1 := Lib.hid q1
        have Q2 := Lib.hid q2
        clear q1 q2
        go_enter Try.func120, Try.ntmps120
        go_wp2_with (refine wpList_load_vt (by rfl) (.tmp 4) rfl _ _ rfl u (VtAt.new _ _ _) ?_)
        refine HC1.out.mono ?_
        rintro e w2 ⟨rfl, hb2⟩
        have cs : w2.cell? ⟨Bv, 5, none⟩ = some (.int .i64 v.support) := by simpa using (HV.out.blw (by simp; omega) hb2) 5 _ (Vt.cs_5 v)
        have hu2 := (VtAt.new W u 68).blw (by simp) hb2
        have HU2 := Lib.hid hu2
        have cu : w2.cell? ⟨W.heap.size, 4, none⟩ = some (.int .i64 u.signer) := by simpa using hu2 4 _ (Vt.cs_4 u)
        have bf := Boxed.blw Q1.out hb2
        have cf := bf.cell
        have BF := Lib.hid bf
        have BK := Lib.hid ((hb2.block B (heap_lt Q2.out)).trans Q2.out)
        have HBW := Lib.hid (HWA.out.trans (hb2.mono HWA.out.size))
        clear hu2 bf hb2
        go_wp2_with (go_at_call 76; refine (HH.out _).mono ?_; rintro e w' ⟨rfl, rfl⟩)
        have HA : Hid (VtAt { w2 with drawn := w2.drawn + 1 } B 0 u0) := VtAt.of_blk BK.out
        have HC : Hid (VtAt { w2 with drawn := w2.drawn + 1 } W.heap.size 0 u) := HU2.out
        refine wp_region_still_tail 4 hmx (by kernel_rfl) ?_
        simp only [List.take_succ_cons, List.take_zero, List.drop_succ_cons, List.drop_zero]
        still_step
        still_step
        refine wpStill_load_vt (by rfl) (.tmp 21) rfl _ _ rfl u0 HA.out ?_
        refine wpStill_load_vt (by rfl) (.tmp 4) rfl _ _ rfl u HC.out ?_
        refine wpStill_nil ?_
        go_wp2_with (go_at_call 79; refine (same_c _ _ _).mono ?_; rintro e w6 ⟨rfl, hb6⟩)
        go_ret
        have hb6' : Below w2.heap.size w2 w6 := below_undrew hb6
        refine ⟨HBW.out.trans (hb6'.mono HBW.out.size), .inr ⟨by simp, by simp [unlike], ?_⟩⟩
        exact ⟨B, Boxed.blw BF.out hb6', (hb6'.block _ (heap_lt BK.out)).trans BK.out, q3⟩
end Go.Proofs.Ytphnfhonmbbddaa
