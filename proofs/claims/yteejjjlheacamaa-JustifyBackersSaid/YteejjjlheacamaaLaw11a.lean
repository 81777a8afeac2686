/- The sanity check and the cut of the statements of layer 11; the walk of JustifyOutside. -/
import Derived.Test.YteejjjlheacamaaAllowed
import Derived.Test.YteejjjlheacamaaOpen
namespace Go.Proofs.Yteejjjlheacamaa
open Go Go.RowKit
set_option linter.unusedVariables false

theorem RdV.take {w : World} {A : Option Addr} {l : List Vt} (h : RdV w A l) (k : Nat) : RdV w A (l.take k) := by
  intro j hj
  have hj' : j < l.length := by simp at hj; omega
  obtain ⟨b, off, hA, hlt, hc⟩ := h j hj'
  exact ⟨b, off, hA, hlt, by rw [List.getElem_take]; exact hc⟩
theorem RdV.nil (w : World) (A : Option Addr) : RdV w A [] := fun j hj => by simp at hj
set_option maxHeartbeats 400000 in
theorem cut11_c (A : Option Addr) (l : List Vt) (c : Nat) (hc : l.length ≤ c) (hm : c ≤ maxLen) (w : World) :
    Calls Try.prog 31 #[.slice A l.length c] w fun e w' => e = .returned (.slice A (l.take 300).length c) ∧ w' = w := by
  unfold maxLen at hm
  by_cases h : 300 < l.length
  · have e : (l.take 300).length = 300 := by simp; omega
    rw [e]
    clear e
    have h' : (300 : Int) < (l.length : Int) := by omega
    have h3 : (300 : Int) ≤ (c : Int) := by omega
    go_enter Try.func31, Try.ntmps31
    go_wp2
    go_ret
    exact ⟨rfl, rfl⟩
  · have e : (l.take 300).length = l.length := by simp; omega
    rw [e]
    clear e
    have h' : ¬ (300 : Int) < (l.length : Int) := by omega
    go_enter Try.func31, Try.ntmps31
    go_wp2
    go_ret
    exact ⟨rfl, rfl⟩
section
variable {ops : Array Oper} {Q : Exit → Act → World → Prop} {a : Act} {w : World} {rest : List Oper} {o : Oper}
/-- A vote literal. -/
theorem wpList_build_vt (hg : o.guard = none) (parts : Array (Nat × Operand)) (ho : o.op = .build 42 parts) (vs : List (Nat × Value)) (hp : (parts.map fun (i, x) => (i, a.eval x)).toList = vs) (u : Vt) (hb : Try.prog.built 42 vs = some u.cs)
    (h : wpList Try.prog ops Q rest (a.put o.dst (.agg u.cs)) w) : wpList Try.prog ops Q (o :: rest) a w := by
  refine wpList_plain hg fun _ hK => ?_
  rw [← hp] at hb
  have hr := run_build (P := Try.prog) w 42 _ u.cs hb
  unfold Oper.wp execOp
  simp only [ho, Sem.run_bind, hr, Result.andThen_ok]
  exact hK _ _ h
end
def awv1 : Vt := ⟨3, 0, 1, 0, 1, 0, Nm.zero, Nm.zero⟩
def awv2 : Vt := ⟨4, 0, 1, 0, 1, 7, Nm.zero, Nm.zero⟩
theorem awb1 : Try.prog.built 42 [(0, .int .i64 3), (2, .int .i64 1), (4, .int .i64 1)] = some awv1.cs := by kernel_rfl
theorem awb2 : Try.prog.built 42 [(0, .int .i64 4), (2, .int .i64 1), (4, .int .i64 1), (5, .int .i64 7)] = some awv2.cs := by kernel_rfl
theorem aw1 : allowB 15 awv1 [] = true := by decide +kernel
theorem aw2 : allowB 15 awv2 [] = false := by decide +kernel
set_option maxRecDepth 100000 in
set_option maxHeartbeats 1000000 in
theorem awake11_c (w : World) :
    Calls Try.prog 34 #[] w fun e w' => e = .returned (.bool true) ∧ Below w.heap.size w w' := by
  have H1 := Lib.hid (fun w => aw1 ▸ allowed_c 15 (by unfold W64; omega) awv1 (by unfold W64 awv1; simp) none [] 0 (by simp) w (RdV.nil _ _))
  have H2 := Lib.hid (fun w => aw2 ▸ allowed_c 15 (by unfold W64; omega) awv2 (by unfold W64 awv2; simp) none [] 0 (by simp) w (RdV.nil _ _))
  obtain ⟨b1, b2, b3⟩ := two_blocks w (.cells awv1.cs 42) (.cells awv2.cs 42)
  have V1 := Lib.hid (VtAt.of_blk b1)
  have B2 := Lib.hid b2
  have B3 := Lib.hid b3
  clear b1 b2 b3
  go_enter Try.func34, Try.ntmps34
  go_wp2_with (first
    | (refine wpList_build_vt rfl _ rfl [(0, .int .i64 3), (2, .int .i64 1), (4, .int .i64 1)] rfl awv1 awb1 ?_)
    | (refine wpList_build_vt rfl _ rfl [(0, .int .i64 4), (2, .int .i64 1), (4, .int .i64 1), (5, .int .i64 7)] rfl awv2 awb2 ?_)
    | (refine wpList_store_vt (by rfl) (.tmp 1) (.tmp 3) rfl w _ rfl rfl rfl awv1 rfl ?_)
    | (refine wpList_store_vt (by rfl) (.tmp 2) (.tmp 4) rfl (w.alloc (.cells awv1.cs 42)) _ rfl rfl (by rw [World.size_alloc]; rfl) awv2 rfl ?_)
    | (refine wpList_load_vt (by rfl) (.tmp 1) rfl _ _ rfl awv1 V1.out ?_))
  refine (H1.out _).mono ?_
  rintro e w2 ⟨rfl, hb2⟩
  have V2 := Lib.hid (VtAt.of_blk ((hb2.block _ (heap_lt B2.out)).trans B2.out))
  have HB := Lib.hid (B3.out.trans (hb2.mono B3.out.size))
  clear hb2
  go_wp2_with (refine wpList_load_vt (by rfl) (.tmp 2) rfl _ _ rfl awv2 V2.out ?_)
  refine (H2.out _).mono ?_
  rintro e w3 ⟨rfl, hb3⟩
  go_wp2
  go_ret
  exact ⟨rfl, HB.out.trans (hb3.mono HB.out.size)⟩
theorem allow_ok {m : Int} {v : Vt} {a : List Vt} (h : allowB m v a = true) : validB v = true ∧ decide (v.kind ≤ 4) = true ∧ hasB m v.signer = true ∧ hasB m v.slot = true := by
  unfold allowB okB at h
  simp only [Bool.and_eq_true, Bool.not_eq_true', decide_eq_false_iff_not] at h
  obtain ⟨⟨⟨⟨h1, h2⟩, h3⟩, h4⟩, _⟩ := h
  exact ⟨h1, by simp; omega, h3, h4⟩
set_option maxRecDepth 100000 in
set_option maxHeartbeats 2000000 in
theorem JustifyOutside_w (w : World) (m : Int) (vv : Value) (v : Vt) (sv : Value) (a : List Vt) (hm : W64 m) (hv : vv = .agg v.cs ∧ v.Ok) (hs : VS w sv a) :
    Calls Try.prog 13 #[.int .i64 m, vv, sv] w fun e w' => e = .returned (.bool true) ∧ Below w.heap.size w w' := by
  obtain ⟨rfl, hok⟩ := hv
  obtain ⟨A, c, rfl, h1, h2, hr, _⟩ := hs
  have hmx : Try.prog.follows .mixedOrders = true := by kernel_rfl
  have HC := Lib.hid (fun w => cut11_c A a c h1 h2 w)
  have HV : Hid (VtAt { w.alloc (.cells v.cs 42) with drawn := (w.alloc (.cells v.cs 42)).drawn + 1 } w.heap.size 0 v) := VtAt.new w v _
  have HA := Lib.hid (fun W (hW : Below w.heap.size w W) => allowed_c m hm v hok.support A (a.take 300) c (by simp; omega) W ((hr.take 300).below hW))
  have HB := Lib.hid (belowD (below1 w (.cells v.cs 42)) 1)
  have HH := Lib.hid (fun (i : Int) w => has_c m i w hm)
  have HVC := Lib.hid (fun w => valid_c v w)
  generalize a.take 300 = t at *
  clear hr hm hok h1 h2
  go_enter Try.func13, Try.ntmps13
  go_wp2
  refine wp_region_still_tail 4 hmx (by kernel_rfl) ?_
  simp only [List.take_succ_cons, List.take_zero, List.drop_succ_cons, List.drop_zero]
  still_step
  refine wpStill_load_vt (by rfl) (.tmp 4) rfl _ _ rfl v HV.out ?_
  still_step
  still_call (HC.out _)
  refine wpStill_nil ?_
  go_wp2_with fail
  refine (HA.out _ (by exact HB.out)).mono ?_
  rintro e w2 ⟨rfl, hb2⟩
  have hw2 : Below w.heap.size w w2 := HB.out.trans (hb2.mono HB.out.size)
  have x2 : w2.heap[w.heap.size]? = some (.cells v.cs 42 (0, 0)) := (hb2.block w.heap.size (by show w.heap.size < (w.heap.push _).size; simp)).trans (heap_alloc_last w _)
  have X2 := Lib.hid x2
  have HW2 := Lib.hid hw2
  clear hb2 hw2 x2
  cases h : allowB m v t with
  | false =>
    go_wp2_with fail
    refine (awake11_c _).mono ?_
    rintro e w3 ⟨rfl, hb3⟩
    go_wp2
    go_ret
    exact ⟨rfl, HW2.out.trans (hb3.mono HW2.out.size)⟩
  | true =>
    obtain ⟨g1, g2, g3, g4⟩ := allow_ok h
    rw [g1] at HVC
    have HSG := Lib.hid (HH.out v.signer)
    have HST := Lib.hid (HH.out v.slot)
    rw [g3] at HSG
    rw [g4] at HST
    go_wp2_with (refine wpList_load_vt (by rfl) (.tmp 4) rfl _ _ rfl v (VtAt.of_blk X2.out) ?_)
    refine (HVC.out _).mono ?_
    rintro e w3 ⟨rfl, hb3⟩
    have hv3 := VtAt.of_blk ((hb3.block _ (heap_lt X2.out)).trans X2.out)
    have d0 : w3.cell? ⟨w.heap.size, 0, none⟩ = some (.int .i64 v.kind) := by simpa using hv3 0 _ (Vt.cs_0 v)
    have d1 : w3.cell? ⟨w.heap.size, 1, none⟩ = some (.int .i64 v.slot) := by simpa using hv3 1 _ (Vt.cs_1 v)
    have d4 : w3.cell? ⟨w.heap.size, 4, none⟩ = some (.int .i64 v.signer) := by simpa using hv3 4 _ (Vt.cs_4 v)
    have HW3 := Lib.hid (HW2.out.trans (hb3.mono HW2.out.size))
    clear hb3 hv3
    go_wp2_with fail
    refine (HSG.out _).mono ?_
    rintro e w' ⟨rfl, rfl⟩
    go_wp2_with fail
    refine (HST.out _).mono ?_
    rintro e w' ⟨rfl, rfl⟩
    go_wp2_with fail
    refine (awake11_c _).mono ?_
    rintro e w4 ⟨rfl, hb4⟩
    go_wp2
    go_ret
    exact ⟨rfl, HW3.out.trans (hb4.mono HW3.out.size)⟩
end Go.Proofs.Yteejjjlheacamaa
