/- The sanity check and the cut of the statements of layer 11; the walk of JustifyOutside. -/
import Derived.Test.YthhgdkodhokefaaAllowed
import Derived.Test.YthhgdkodhokefaaOpen
namespace Go.Proofs.Ythhgdkodhokefaa
open Go Go.RowKit
set_option linter.unusedVariables false

theorem RdV.take {w : World} {A : Option Addr} {l : List Vt} (h : RdV w A l) (k : Nat) : RdV w A (l.take k) := by
  intro j hj
  have hj' : j < l.length := by simp at hj; omega
  obtain ⟨b, off, hA, hlt, hc⟩ := h j hj'
  exact ⟨b, off, hA, hlt, by rw [List.getElem_take]; exact hc⟩
theorem RdV.nil (w : World) (A : Option Addr) : RdV w A [] := fun j hj => by simp at hj
set_option maxHeartbeats 400000 in
theorem cut11_c (A : Option Addr) (l : List Vt) (c : Nat) (hc : l.length ≤ c) (hm : c ≤ maxLen) (w : World) :
    Calls Try.prog 14 #[.slice A l.length c] w fun e w' => e = .returned (.slice A (l.take 300).length c) ∧ w' = w := by
  unfold maxLen at hm
  by_cases h : 300 < l.length
  · have e : (l.take 300).length = 300 := by simp; omega
    rw [e]
    clear e
    have h' : (300 : Int) < (l.length : Int) := by omega
    have h3 : (300 : Int) ≤ (c : Int) := by omega
    go_enter Try.func14, Try.ntmps14
    go_wp2
    go_ret
    exact ⟨rfl, rfl⟩
  · have e : (l.take 300).length = l.length := by simp; omega
    rw [e]
    clear e
    have h' : ¬ (300 : Int) < (l.length : Int) := by omega
    go_enter Try.func14, Try.ntmps14
    go_wp2
    go_ret
    exact ⟨rfl, rfl⟩
section
variable {ops : Array Oper} {Q : Exit → Act → World → Prop} {a : Act} {w : World} {rest : List Oper} {o : Oper}
/-- A vote literal. -/
theorem wpList_build_vt (hg : o.guard = none) (parts : Array (Nat × Operand)) (ho : o.op = .build 26 parts) (vs : List (Nat × Value)) (hp : (parts.map fun (i, x) => (i, a.eval x)).toList = vs) (u : Vt) (hb : Try.prog.built 26 vs = some u.cs)
    (h : wpList Try.prog ops Q rest (a.put o.dst (.agg u.cs)) w) : wpList Try.prog ops Q (o :: rest) a w := by
  refine wpList_plain hg fun _ hK => ?_
  rw [← hp] at hb
  have hr := run_build (P := Try.prog) w 26 _ u.cs hb
  unfold Oper.wp execOp
  simp only [ho, Sem.run_bind, hr, Result.andThen_ok]
  exact hK _ _ h
end
def awv1 : Vt := ⟨3, 0, 1, 0, 1, 0, Nm.zero, Nm.zero⟩
def awv2 : Vt := ⟨4, 0, 1, 0, 1, 7, Nm.zero, Nm.zero⟩
theorem awb1 : Try.prog.built 26 [(0, .int .i64 3), (2, .int .i64 1), (4, .int .i64 1)] = some awv1.cs := by kernel_rfl
theorem awb2 : Try.prog.built 26 [(0, .int .i64 4), (2, .int .i64 1), (4, .int .i64 1), (5, .int .i64 7)] = some awv2.cs := by kernel_rfl
theorem aw1 : allowB 15 awv1 [] = true := by decide +kernel
theorem aw2 : allowB 15 awv2 [] = false := by decide +kernel
set_option maxRecDepth 100000 in
set_option maxHeartbeats 1000000 in
theorem awake11_c (w : World) :
    Calls Try.prog 19 #[] w fun e w' => e = .returned (.bool true) ∧ Below w.heap.size w w' := by
  have H1 := Lib.hid (fun w => aw1 ▸ allowed_c 15 (by unfold W64; omega) awv1 (by unfold W64 awv1; simp) none [] 0 (by simp) w (RdV.nil _ _))
  have H2 := Lib.hid (fun w => aw2 ▸ allowed_c 15 (by unfold W64; omega) awv2 (by unfold W64 awv2; simp) none [] 0 (by simp) w (RdV.nil _ _))
  obtain ⟨b1, b2, b3⟩ := two_blocks w (.cells awv1.cs 26) (.cells awv2.cs 26)
  have V1 := Lib.hid (VtAt.of_blk b1)
  have B2 := Lib.hid b2
  have B3 := Lib.hid b3
  clear b1 b2 b3
  go_enter Try.func19, Try.ntmps19
  go_wp2_with (first
    | (refine wpList_build_vt rfl _ rfl [(0, .int .i64 3), (2, .int .i64 1), (4, .int .i64 1)] rfl awv1 awb1 ?_)
    | (refine wpList_build_vt rfl _ rfl [(0, .int .i64 4), (2, .int .i64 1), (4, .int .i64 1), (5, .int .i64 7)] rfl awv2 awb2 ?_)
    | (refine wpList_store_vt (by rfl) (.tmp 1) (.tmp 3) rfl w _ rfl rfl rfl awv1 rfl ?_)
    | (refine wpList_store_vt (by rfl) (.tmp 2) (.tmp 4) rfl (w.alloc (.cells awv1.cs 26)) _ rfl rfl (by rw [World.size_alloc]; rfl) awv2 rfl ?_)
    | (refine wpList_load_vt (by rfl) (.tmp 1) rfl _ _ rfl awv1 V1.out ?_))
  refine (H1.out _).mono ?_
  rintro e w2 ⟨rfl, hb2⟩
  have V2 := Lib.hid (VtAt.of_blk ((hb2.block _ (heap_lt B2.out)).trans B2.out))
  have HB := Lib.hid (B3.out.trans (hb2.mono B3.out.size))
  clear hb2
  go_wp2_with (refine wpList_load_vt (by rfl) (.tmp 2) rfl _ _ rfl awv2 V2.out ?_)
  refine (H2.out _).mono ?_
  rintro e w3 ⟨rfl, hb3⟩
  go_wp2
  go_ret
  exact ⟨rfl, HB.out.trans (hb3.mono HB.out.size)⟩
end Go.Proofs.Ythhgdkodhokefaa
