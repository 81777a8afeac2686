/- The closures of justify: each decides a plain predicate. -/
import Derived.Test.YthhgdkodhokefaaCourtB
namespace Go.Proofs.Ythhgdkodhokefaa
open Go Go.RowKit
set_option linter.unusedVariables false

def poB (v u : Vt) : Bool := (u.kind == 1) && sameB v u
def peB (v u : Vt) : Bool := (u.kind == 2) && sameB v u
def pvB (v u : Vt) : Bool := (u.kind == 4) && (u.round == v.round - 1) && sameB v u
def pmB (v u : Vt) : Bool := (u.kind == 4) && (u.round == v.round - 1) && (u.choice == 2)
def pbB (v u : Vt) : Bool := (u.kind == 3) && (u.round == v.round - 1) && sameB v u
def prB (v u : Vt) : Bool := (u.kind == 3) && (u.round == v.round)

theorem VtAt.alloc {w : World} {b off : Nat} {v : Vt} (h : VtAt w b off v) (hb : b < w.heap.size) (o : Obj) : VtAt (w.alloc o) b off v :=
  fun t u hu => (World.cell?_alloc_lt w o ⟨b, off + t, none⟩ hb).trans (h t u hu)
theorem VtAt.blw {w w' : World} {b off : Nat} {v : Vt} (h : VtAt w b off v) (hb : b < w.heap.size) (hw : Below w.heap.size w w') : VtAt w' b off v :=
  fun t u hu => (hw.cell (p := ⟨b, off + t, none⟩) hb).trans (h t u hu)
theorem below1 (w : World) (o : Obj) : Below w.heap.size w (w.alloc o) := (Below.refl _ _).alloc (Nat.le_refl _) _
theorem below1t {w w2 : World} {o : Obj} (h : Below (w.alloc o).heap.size (w.alloc o) w2) : Below w.heap.size w w2 := (below1 w o).trans (h.mono (by simp))
set_option maxRecDepth 100000 in
set_option maxHeartbeats 2000000 in
theorem fits_propose (W0 : World) (Bv : Nat) (v : Vt) (hB : W0.heap[Bv]? = some (.cells v.cs 26 (0, 0))) :
    Fits W0 (.func (.func 46) #[] #[.pointer (some ⟨Bv, 0, none⟩)]) (fun u => poB v u) := by
  refine ⟨_, _, rfl, enters_of Try.func46 (by kernel_rfl) rfl, fun W u hW => ?_⟩
  have hv : VtAt W Bv 0 v := VtAt.of_blk ((hW.block Bv (heap_lt hB)).trans hB)
  have hlt : Bv < W.heap.size := Nat.lt_of_lt_of_le (heap_lt hB) hW.size
  have cr : W.cell? ⟨Bv, 2, none⟩ = some (.int .i64 v.round) := by simpa using hv 2 _ (Vt.cs_2 v)
  have HV := Lib.hid (hv.alloc hlt (.cells u.cs 26))
  clear hv hB hW
  cases k1 : (u.kind == 1) with
  | false =>
    go_enter Try.func46, Try.ntmps46
    go_wp2
    go_ret
    exact ⟨ret_bool (by simp [poB, k1]), below1 _ _⟩
  | true =>
    go_enter Try.func46, Try.ntmps46
    go_wp2_with (first | (refine wpList_load_vt (by rfl) (.tmp 1) rfl _ _ rfl v HV.out ?_) | (refine wpList_load_vt (by rfl) (.tmp 2) rfl _ _ rfl u (VtAt.new _ _ _) ?_) | (go_at_call 47; refine (same_c _ _ _).mono ?_; rintro e w2 ⟨rfl, hb2⟩))
    go_ret
    exact ⟨ret_bool (by simp [poB, k1]), below1t hb2⟩
set_option maxRecDepth 100000 in
set_option maxHeartbeats 2000000 in
theorem fits_echo (W0 : World) (Bv : Nat) (v : Vt) (hB : W0.heap[Bv]? = some (.cells v.cs 26 (0, 0))) :
    Fits W0 (.func (.func 74) #[] #[.pointer (some ⟨Bv, 0, none⟩)]) (fun u => peB v u) := by
  refine ⟨_, _, rfl, enters_of Try.func74 (by kernel_rfl) rfl, fun W u hW => ?_⟩
  have hv : VtAt W Bv 0 v := VtAt.of_blk ((hW.block Bv (heap_lt hB)).trans hB)
  have hlt : Bv < W.heap.size := Nat.lt_of_lt_of_le (heap_lt hB) hW.size
  have cr : W.cell? ⟨Bv, 2, none⟩ = some (.int .i64 v.round) := by simpa using hv 2 _ (Vt.cs_2 v)
  have HV := Lib.hid (hv.alloc hlt (.cells u.cs 26))
  clear hv hB hW
  cases k1 : (u.kind == 2) with
  | false =>
    go_enter Try.func74, Try.ntmps74
    go_wp2
    go_ret
    exact ⟨ret_bool (by simp [peB, k1]), below1 _ _⟩
  | true =>
    go_enter Try.func74, Try.ntmps74
    go_wp2_with (first | (refine wpList_load_vt (by rfl) (.tmp 1) rfl _ _ rfl v HV.out ?_) | (refine wpList_load_vt (by rfl) (.tmp 2) rfl _ _ rfl u (VtAt.new _ _ _) ?_) | (go_at_call 47; refine (same_c _ _ _).mono ?_; rintro e w2 ⟨rfl, hb2⟩))
    go_ret
    exact ⟨ret_bool (by simp [peB, k1]), below1t hb2⟩
set_option maxRecDepth 100000 in
set_option maxHeartbeats 2000000 in
theorem fits_value (W0 : World) (Bv : Nat) (v : Vt) (h1 : 1 ≤ v.round) (h2 : v.round ≤ 12) (hB : W0.heap[Bv]? = some (.cells v.cs 26 (0, 0))) :
    Fits W0 (.func (.func 75) #[] #[.pointer (some ⟨Bv, 0, none⟩)]) (fun u => pvB v u) := by
  refine ⟨_, _, rfl, enters_of Try.func75 (by kernel_rfl) rfl, fun W u hW => ?_⟩
  have hv : VtAt W Bv 0 v := VtAt.of_blk ((hW.block Bv (heap_lt hB)).trans hB)
  have hlt : Bv < W.heap.size := Nat.lt_of_lt_of_le (heap_lt hB) hW.size
  have cr : W.cell? ⟨Bv, 2, none⟩ = some (.int .i64 v.round) := by simpa using hv 2 _ (Vt.cs_2 v)
  have HV := Lib.hid (hv.alloc hlt (.cells u.cs 26))
  clear hv hB hW
  cases k1 : (u.kind == 4) with
  | false =>
    go_enter Try.func75, Try.ntmps75
    go_wp2
    go_ret
    exact ⟨ret_bool (by simp [pvB, k1]), below1 _ _⟩
  | true =>
    cases k2 : (u.round == v.round - 1) with
    | false =>
      go_enter Try.func75, Try.ntmps75
      go_wp2
      go_ret
      exact ⟨ret_bool (by simp [pvB, k1, k2]), below1 _ _⟩
    | true =>
      go_enter Try.func75, Try.ntmps75
      go_wp2_with (first | (refine wpList_load_vt (by rfl) (.tmp 1) rfl _ _ rfl v HV.out ?_) | (refine wpList_load_vt (by rfl) (.tmp 2) rfl _ _ rfl u (VtAt.new _ _ _) ?_) | (go_at_call 47; refine (same_c _ _ _).mono ?_; rintro e w2 ⟨rfl, hb2⟩))
      go_ret
      exact ⟨ret_bool (by simp [pvB, k1, k2]), below1t hb2⟩
set_option maxRecDepth 100000 in
set_option maxHeartbeats 2000000 in
theorem fits_mixed (W0 : World) (Bv : Nat) (v : Vt) (h1 : 1 ≤ v.round) (h2 : v.round ≤ 12) (hB : W0.heap[Bv]? = some (.cells v.cs 26 (0, 0))) :
    Fits W0 (.func (.func 76) #[] #[.pointer (some ⟨Bv, 0, none⟩)]) (fun u => pmB v u) := by
  refine ⟨_, _, rfl, enters_of Try.func76 (by kernel_rfl) rfl, fun W u hW => ?_⟩
  have hv : VtAt W Bv 0 v := VtAt.of_blk ((hW.block Bv (heap_lt hB)).trans hB)
  have hlt : Bv < W.heap.size := Nat.lt_of_lt_of_le (heap_lt hB) hW.size
  have cr : W.cell? ⟨Bv, 2, none⟩ = some (.int .i64 v.round) := by simpa using hv 2 _ (Vt.cs_2 v)
  have HV := Lib.hid (hv.alloc hlt (.cells u.cs 26))
  clear hv hB hW
  cases k1 : (u.kind == 4) with
  | false =>
    go_enter Try.func76, Try.ntmps76
    go_wp2
    go_ret
    exact ⟨ret_bool (by simp [pmB, k1]), below1 _ _⟩
  | true =>
    cases k2 : (u.round == v.round - 1) with
    | false =>
      go_enter Try.func76, Try.ntmps76
      go_wp2
      go_ret
      exact ⟨ret_bool (by simp [pmB, k1, k2]), below1 _ _⟩
    | true =>
      go_enter Try.func76, Try.ntmps76
      go_wp2
      go_ret
      exact ⟨ret_bool (by simp [pmB, k1, k2]), below1 _ _⟩
set_option maxRecDepth 100000 in
set_option maxHeartbeats 2000000 in
theorem fits_before (W0 : World) (Bv : Nat) (v : Vt) (h1 : 1 ≤ v.round) (h2 : v.round ≤ 12) (hB : W0.heap[Bv]? = some (.cells v.cs 26 (0, 0))) :
    Fits W0 (.func (.func 79) #[] #[.pointer (some ⟨Bv, 0, none⟩)]) (fun u => pbB v u) := by
  refine ⟨_, _, rfl, enters_of Try.func79 (by kernel_rfl) rfl, fun W u hW => ?_⟩
  have hv : VtAt W Bv 0 v := VtAt.of_blk ((hW.block Bv (heap_lt hB)).trans hB)
  have hlt : Bv < W.heap.size := Nat.lt_of_lt_of_le (heap_lt hB) hW.size
  have cr : W.cell? ⟨Bv, 2, none⟩ = some (.int .i64 v.round) := by simpa using hv 2 _ (Vt.cs_2 v)
  have HV := Lib.hid (hv.alloc hlt (.cells u.cs 26))
  clear hv hB hW
  cases k1 : (u.kind == 3) with
  | false =>
    go_enter Try.func79, Try.ntmps79
    go_wp2
    go_ret
    exact ⟨ret_bool (by simp [pbB, k1]), below1 _ _⟩
  | true =>
    cases k2 : (u.round == v.round - 1) with
    | false =>
      go_enter Try.func79, Try.ntmps79
      go_wp2
      go_ret
      exact ⟨ret_bool (by simp [pbB, k1, k2]), below1 _ _⟩
    | true =>
      go_enter Try.func79, Try.ntmps79
      go_wp2_with (first | (refine wpList_load_vt (by rfl) (.tmp 1) rfl _ _ rfl v HV.out ?_) | (refine wpList_load_vt (by rfl) (.tmp 2) rfl _ _ rfl u (VtAt.new _ _ _) ?_) | (go_at_call 47; refine (same_c _ _ _).mono ?_; rintro e w2 ⟨rfl, hb2⟩))
      go_ret
      exact ⟨ret_bool (by simp [pbB, k1, k2]), below1t hb2⟩
set_option maxRecDepth 100000 in
set_option maxHeartbeats 2000000 in
theorem fits_round (W0 : World) (Bv : Nat) (v : Vt) (hB : W0.heap[Bv]? = some (.cells v.cs 26 (0, 0))) :
    Fits W0 (.func (.func 80) #[] #[.pointer (some ⟨Bv, 0, none⟩)]) (fun u => prB v u) := by
  refine ⟨_, _, rfl, enters_of Try.func80 (by kernel_rfl) rfl, fun W u hW => ?_⟩
  have hv : VtAt W Bv 0 v := VtAt.of_blk ((hW.block Bv (heap_lt hB)).trans hB)
  have hlt : Bv < W.heap.size := Nat.lt_of_lt_of_le (heap_lt hB) hW.size
  have cr : W.cell? ⟨Bv, 2, none⟩ = some (.int .i64 v.round) := by simpa using hv 2 _ (Vt.cs_2 v)
  have HV := Lib.hid (hv.alloc hlt (.cells u.cs 26))
  clear hv hB hW
  cases k1 : (u.kind == 3) with
  | false =>
    go_enter Try.func80, Try.ntmps80
    go_wp2
    go_ret
    exact ⟨ret_bool (by simp [prB, k1]), below1 _ _⟩
  | true =>
    go_enter Try.func80, Try.ntmps80
    go_wp2
    go_ret
    exact ⟨ret_bool (by simp [prB, k1]), below1 _ _⟩
set_option maxRecDepth 100000 in
set_option maxHeartbeats 2000000 in
theorem fits_either (W0 : World) (B1 B2 : Nat) (f1 f2 : Value) (p1 p2 : Vt → Bool) (hF1 : Fits W0 f1 p1) (hF2 : Fits W0 f2 p2) (hB1 : Boxed W0 B1 78 f1) (hB2 : Boxed W0 B2 78 f2) :
    Fits W0 (.func (.func 77) #[] #[.pointer (some ⟨B1, 0, none⟩), .pointer (some ⟨B2, 0, none⟩)]) (fun u => p1 u || p2 u) := by
  refine ⟨_, _, rfl, enters_of Try.func77 (by kernel_rfl) rfl, fun W u hW => ?_⟩
  have hWA : Below W0.heap.size W0 (W.alloc (.cells u.cs 26)) := hW.trans ((below1 _ _).mono hW.size)
  obtain ⟨k1, lb1, rfl, he1, hc1⟩ := hF1
  obtain ⟨k2, lb2, rfl, he2, hc2⟩ := hF2
  have x1 : Boxed W B1 78 (.func (.func k1) #[] lb1) := boxed_eq hB1 (hW.block B1 hB1.lt)
  have x2 : Boxed W B2 78 (.func (.func k2) #[] lb2) := boxed_eq hB2 (hW.block B2 hB2.lt)
  have HC1 := Lib.hid (hc1 _ u hWA)
  have HC2 := Lib.hid (fun w2 (hb : Below (W.alloc (.cells u.cs 26)).heap.size (W.alloc (.cells u.cs 26)) w2) => hc2 w2 u (hWA.trans (hb.mono hWA.size)))
  have c1 := x1.cell
  have l1 := x1.lt
  have X2 := Lib.hid x2
  clear hc1 hc2 hB1 hB2 hW hWA x1 x2
  go_enter Try.func77, Try.ntmps77
  go_wp2_with (refine wpList_load_vt (by rfl) (.tmp 3) rfl _ _ rfl u (VtAt.new _ _ _) ?_)
  refine HC1.out.mono ?_
  rintro e w2 ⟨rfl, hb2⟩
  cases h1 : p1 u with
  | true =>
    go_wp2
    go_ret
    exact ⟨ret_bool (by simp [h1]), below1t hb2⟩
  | false =>
    have c2 := (Boxed.blw (X2.out.alloc (.cells u.cs 26)) hb2).cell
    have HU := Lib.hid ((VtAt.new W u 26).blw (by simp) hb2)
    go_wp2_with (refine wpList_load_vt (by rfl) (.tmp 3) rfl _ _ rfl u HU.out ?_)
    refine (HC2.out _ hb2).mono ?_
    rintro e w3 ⟨rfl, hb3⟩
    go_wp2
    go_ret
    exact ⟨ret_bool (by simp [h1]), (below1t hb2).trans (hb3.mono (below1t hb2).size)⟩
set_option maxRecDepth 100000 in
set_option maxHeartbeats 2000000 in
theorem fits_in (W0 : World) (Bv B1 : Nat) (v : Vt) (hs : W64 v.support) (f1 : Value) (p1 : Vt → Bool) (hF1 : Fits W0 f1 p1) (hB : W0.heap[Bv]? = some (.cells v.cs 26 (0, 0))) (hB1 : Boxed W0 B1 78 f1) :
    Fits W0 (.func (.func 78) #[] #[.pointer (some ⟨Bv, 0, none⟩), .pointer (some ⟨B1, 0, none⟩)]) (fun u => hasB v.support u.signer && p1 u) := by
  refine ⟨_, _, rfl, enters_of Try.func78 (by kernel_rfl) rfl, fun W u hW => ?_⟩
  have hWA : Below W0.heap.size W0 (W.alloc (.cells u.cs 26)) := hW.trans ((below1 _ _).mono hW.size)
  obtain ⟨k1, lb1, rfl, he1, hc1⟩ := hF1
  have hv : VtAt W Bv 0 v := VtAt.of_blk ((hW.block Bv (heap_lt hB)).trans hB)
  have hlt : Bv < W.heap.size := Nat.lt_of_lt_of_le (heap_lt hB) hW.size
  have cs : W.cell? ⟨Bv, 5, none⟩ = some (.int .i64 v.support) := by simpa using hv 5 _ (Vt.cs_5 v)
  have x1 : Boxed W B1 78 (.func (.func k1) #[] lb1) := boxed_eq hB1 (hW.block B1 hB1.lt)
  have HC1 := Lib.hid (hc1 _ u hWA)
  have HH := Lib.hid (fun w => has_c v.support u.signer w hs)
  have c1 := x1.cell
  have l1 := x1.lt
  clear hc1 hB1 hB hW hWA x1 hv hs
  cases h1 : hasB v.support u.signer with
  | true =>
    rw [h1] at HH
    go_enter Try.func78, Try.ntmps78
    go_wp2_with (first | (go_at_call 21; refine (HH.out _).mono ?_; rintro e w' ⟨rfl, rfl⟩) | (refine wpList_load_vt (by rfl) (.tmp 3) rfl _ _ rfl u (VtAt.new _ _ _) ?_))
    refine HC1.out.mono ?_
    rintro e w2 ⟨rfl, hb2⟩
    go_wp2
    go_ret
    exact ⟨ret_bool (by simp [h1]), below1t hb2⟩
  | false =>
    rw [h1] at HH
    go_enter Try.func78, Try.ntmps78
    go_wp2_with (go_at_call 21; refine (HH.out _).mono ?_; rintro e w' ⟨rfl, rfl⟩)
    go_ret
    exact ⟨ret_bool (by simp [h1]), below1 _ _⟩
set_option maxRecDepth 100000 in
set_option maxHeartbeats 2000000 in
theorem fits_and (W0 : World) (B1 Bv : Nat) (v : Vt) (f1 : Value) (p1 : Vt → Bool) (hF1 : Fits W0 f1 p1) (hB : W0.heap[Bv]? = some (.cells v.cs 26 (0, 0))) (hB1 : Boxed W0 B1 78 f1) :
    Fits W0 (.func (.func 81) #[] #[.pointer (some ⟨B1, 0, none⟩), .pointer (some ⟨Bv, 0, none⟩)]) (fun u => p1 u && sameB v u) := by
  refine ⟨_, _, rfl, enters_of Try.func81 (by kernel_rfl) rfl, fun W u hW => ?_⟩
  have hWA : Below W0.heap.size W0 (W.alloc (.cells u.cs 26)) := hW.trans ((below1 _ _).mono hW.size)
  obtain ⟨k1, lb1, rfl, he1, hc1⟩ := hF1
  have hv : VtAt W Bv 0 v := VtAt.of_blk ((hW.block Bv (heap_lt hB)).trans hB)
  have hlt : Bv < W.heap.size := Nat.lt_of_lt_of_le (heap_lt hB) hW.size
  have x1 : Boxed W B1 78 (.func (.func k1) #[] lb1) := boxed_eq hB1 (hW.block B1 hB1.lt)
  have HC1 := Lib.hid (hc1 _ u hWA)
  have HV := Lib.hid (hv.alloc hlt (.cells u.cs 26))
  have c1 := x1.cell
  have l1 := x1.lt
  clear hc1 hB1 hB hW hWA x1 hv
  go_enter Try.func81, Try.ntmps81
  go_wp2_with (refine wpList_load_vt (by rfl) (.tmp 3) rfl _ _ rfl u (VtAt.new _ _ _) ?_)
  refine HC1.out.mono ?_
  rintro e w2 ⟨rfl, hb2⟩
  cases h1 : p1 u with
  | false =>
    go_wp2
    go_ret
    exact ⟨ret_bool (by simp [h1]), below1t hb2⟩
  | true =>
    have HU := Lib.hid ((VtAt.new W u 26).blw (by simp) hb2)
    have HV2 := Lib.hid (HV.out.blw (by simp; omega) hb2)
    go_wp2_with (first | (refine wpList_load_vt (by rfl) (.tmp 2) rfl _ _ rfl v HV2.out ?_) | (refine wpList_load_vt (by rfl) (.tmp 3) rfl _ _ rfl u HU.out ?_) | (go_at_call 47; refine (same_c _ _ _).mono ?_; rintro e w3 ⟨rfl, hb3⟩))
    go_ret
    exact ⟨ret_bool (by simp [h1]), (below1t hb2).trans (hb3.mono (below1t hb2).size)⟩
end Go.Proofs.Ythhgdkodhokefaa
