/- court.has and court.supported for pure closures. -/
import Derived.RangeFuncBox
import Derived.RangeFuncCalls
import Derived.Test.YthhgdkodhokefaaCourt
namespace Go.Proofs.Ythhgdkodhokefaa
open Go Go.RowKit
set_option linter.unusedVariables false

/-- A function value that decides p, in every world that grows out of W0. -/
def Fits (W0 : World) (f : Value) (p : Vt → Bool) : Prop :=
  ∃ (k : Nat) (lb : Array Value), f = .func (.func k) #[] lb ∧ (∀ args w, (callFunc k args).run Try.prog w = .ok (.enter k args) w) ∧
    ∀ (W : World) (v : Vt), Below W0.heap.size W0 W → Calls Try.prog k (#[.agg v.cs] ++ lb) W fun e W' => e = .returned (.bool (p v)) ∧ Below W.heap.size W W'
theorem Fits.below {W0 W1 : World} {f : Value} {p : Vt → Bool} (h : Fits W0 f p) (hb : Below W0.heap.size W0 W1) : Fits W1 f p := by
  obtain ⟨k, lb, e, he, hc⟩ := h
  exact ⟨k, lb, e, he, fun W v hW => hc W v (hb.trans (hW.mono hb.size))⟩
theorem has_pure (m q : Int) (A : Option Addr) (l : List Vt) (c : Nat) (hl : l.length ≤ 1000) (f : Value) (p : Vt → Bool) (w : World) (hF : Fits w f p) (hr : RdV w A l) :
    Calls Try.prog 45 #[.agg #[.int .i64 m, .int .i64 q, .slice A l.length c], f] w fun e W' => e = .returned (.bool (l.any p)) ∧ Below w.heap.size w W' := by
  obtain ⟨k, lb, rfl, he, hc⟩ := hF
  refine (has_g m q A l c hl k lb he w (fun pre W => pre.any p = false ∧ Below w.heap.size w W) (fun W => l.any p = true ∧ Below w.heap.size w W) (fun pre W h => hr.below h.2) (fun pre W W' h hb => ⟨h.1, h.2.trans (hb.mono h.2.size)⟩) ?_ ⟨rfl, Below.refl _ _⟩).mono ?_
  · rintro pre v W ⟨h1, h2⟩ ⟨rest, hrest⟩
    refine (hc W v h2).mono ?_
    rintro e W' ⟨rfl, hb⟩
    cases hp : p v with
    | false => exact .inl ⟨rfl, by simp [h1, hp], h2.trans (hb.mono h2.size)⟩
    | true => exact .inr ⟨rfl, by rw [hrest]; simp [hp], h2.trans (hb.mono h2.size)⟩
  · rintro e W' (⟨rfl, h1, h2⟩ | ⟨rfl, h1, h2⟩)
    · exact ⟨by rw [h1], h2⟩
    · exact ⟨by rw [h1], h2⟩
theorem Boxed.blw {W W' : World} {B : Nat} {t : TypeId} {v : Value} (h : Boxed W B t v) (hb : Below W.heap.size W W') : Boxed W' B t v := boxed_eq h (hb.block B h.lt)
set_option maxRecDepth 100000 in
set_option maxHeartbeats 2000000 in
theorem sup1_fits (W0 : World) (f : Value) (p : Vt → Bool) (iB fB : Nat) (i : Int) (hF : Fits W0 f p) (hi : Boxed W0 iB 3 (.int .i64 i)) (hf : Boxed W0 fB 78 f) :
    Fits W0 (.func (.func 92) #[] #[.pointer (some ⟨iB, 0, none⟩), .pointer (some ⟨fB, 0, none⟩)]) (fun w => (w.signer == i) && p w) := by
  refine ⟨_, _, rfl, enters_of Try.func92 (by kernel_rfl) rfl, fun W v hW => ?_⟩
  obtain ⟨k, lb, rfl, he, hc⟩ := hF
  have bi : Boxed W iB 3 (.int .i64 i) := boxed_eq hi (hW.block iB hi.lt)
  have bf : Boxed W fB 78 (.func (.func k) #[] lb) := boxed_eq hf (hW.block fB hf.lt)
  have HC := Lib.hid (hc (W.alloc (.cells v.cs 26)) v (hW.trans (((Below.refl _ _).alloc (Nat.le_refl _) _).mono hW.size)))
  have c1 := bi.cell
  have c2 := bf.cell
  have l1 := bi.lt
  have l2 := bf.lt
  clear hc hi hf bi bf hW
  cases hs : (v.signer == i) with
  | true =>
    go_enter Try.func92, Try.ntmps92
    go_wp2_with (refine wpList_load_vt (by rfl) (.tmp 3) rfl _ _ rfl v (VtAt.new _ _ _) ?_)
    refine HC.out.mono ?_
    rintro e w2 ⟨rfl, hb2⟩
    go_wp2
    go_ret
    exact ⟨ret_bool (by simp [hs]), ((Below.refl _ _).alloc (Nat.le_refl _) _).trans (hb2.mono (by simp))⟩
  | false =>
    go_enter Try.func92, Try.ntmps92
    go_wp2
    go_ret
    exact ⟨ret_bool (by simp [hs]), (Below.refl _ _).alloc (Nat.le_refl _) _⟩
/-- supported. -/
def supB (m q : Int) (l : List Vt) (v : Vt) (p : Vt → Bool) : Bool :=
  !(bits .andNot .i64 v.support m != 0) && !((size v.support : Int) != q) && (ids v.support).all (fun i => l.any (fun w => (w.signer == (i : Int)) && p w))
theorem all_take_next {α : Type} (l : List α) (g : α → Bool) (j : Nat) (h : j < l.length) (h1 : (l.take j).all g = true) (h2 : g l[j] = true) : (l.take (j + 1)).all g = true := by
  rw [List.take_succ_eq_append_getElem h, List.all_append, h1]; simp [h2]
theorem all_false_at {α : Type} (l : List α) (g : α → Bool) (j : Nat) (h : j < l.length) (h2 : g l[j] = false) : l.all g = false := by
  rw [List.all_eq_false]; exact ⟨l[j], List.getElem_mem h, by simp [h2]⟩
theorem three_blocks (w : World) (o1 o2 o3 : Obj) (n : Nat) :
    ((((w.alloc o1).alloc o2).alloc o3).drewN n).heap[w.heap.size]? = some o1 ∧ ((((w.alloc o1).alloc o2).alloc o3).drewN n).heap[w.heap.size + 1]? = some o2 ∧ ((((w.alloc o1).alloc o2).alloc o3).drewN n).heap[w.heap.size + 1 + 1]? = some o3 ∧
    ((((w.alloc o1).alloc o2).alloc o3).drewN n).heap.size = w.heap.size + 1 + 1 + 1 ∧ Below w.heap.size w ((((w.alloc o1).alloc o2).alloc o3).drewN n) := by
  refine ⟨?_, ?_, ?_, ?_, belowD ((((Below.refl _ _).alloc (Nat.le_refl _) _).alloc (by simp) _).alloc (by simp; omega) _) _⟩
  · show (((w.heap.push o1).push o2).push o3)[w.heap.size]? = some o1
    rw [Array.getElem?_push, Array.getElem?_push, Array.getElem?_push]
    simp
    omega
  · show (((w.heap.push o1).push o2).push o3)[w.heap.size + 1]? = some o2
    rw [Array.getElem?_push, Array.getElem?_push]
    simp
  · show (((w.heap.push o1).push o2).push o3)[w.heap.size + 1 + 1]? = some o3
    rw [Array.getElem?_push]
    simp
  · show (((w.heap.push o1).push o2).push o3).size = _
    simp
theorem cells3 {w : World} {b : Nat} {t : TypeId} {x y z : Value} (h : w.heap[b]? = some (.cells #[x, y, z] t (0, 0))) :
    w.cell? ⟨b, 0, none⟩ = some x ∧ w.cell? ⟨b, 1, none⟩ = some y ∧ w.cell? ⟨b, 2, none⟩ = some z := by
  refine ⟨?_, ?_, ?_⟩ <;> rw [cell_of_row _ _ _ _ _ _ h] <;> rfl
theorem heap_lt {w : World} {b : Nat} {o : Obj} (h : w.heap[b]? = some o) : b < w.heap.size := (Array.getElem?_eq_some_iff.1 h).1
set_option maxRecDepth 100000 in
set_option maxHeartbeats 2000000 in
theorem supported_c (m q : Int) (A : Option Addr) (l : List Vt) (c : Nat) (hl : l.length ≤ 1000) (v : Vt) (hv : W64 v.support) (f : Value) (p : Vt → Bool) (w : World) (hF : Fits w f p) (hr : RdV w A l) :
    Calls Try.prog 73 #[.agg #[.int .i64 m, .int .i64 q, .slice A l.length c], .agg v.cs, f] w fun e W' => e = .returned (.bool (supB m q l v p)) ∧ Below w.heap.size w W' := by
  have HF := Lib.hid hF
  obtain ⟨k, lb, rfl, he, _⟩ := hF
  have HE := Lib.hid he
  have HR := Lib.hid hr
  have HI := Lib.hid (fun w => ids_c v.support hv w)
  have hlen : (ids v.support).length ≤ 10 := size_le v.support
  clear he hr hv
  unfold supB
  cases hb1 : (bits .andNot .i64 v.support m != 0) with
  | true =>
    go_enter Try.func73, Try.ntmps73
    go_wp2
    go_quiet (fail)
    go_wp2
    go_ret
    exact ⟨ret_bool (by simp), belowD ((((Below.refl _ _).alloc (Nat.le_refl _) _).alloc (by simp) _).alloc (by simp; omega) _) _⟩
  | false =>
    cases hb2 : ((size v.support : Int) != q) with
    | true =>
      go_enter Try.func73, Try.ntmps73
      go_wp2
      go_quiet ((go_at_call 15; first | exact quietL (size_c _ _) | exact quietA (size_c _ _)))
      go_wp2
      go_ret
      exact ⟨ret_bool (by simp), belowD ((((Below.refl _ _).alloc (Nat.le_refl _) _).alloc (by simp) _).alloc (by simp; omega) _) _⟩
    | false =>
      go_enter Try.func73, Try.ntmps73
      go_wp2
      go_quiet ((go_at_call 15; first | exact quietL (size_c _ _) | exact quietA (size_c _ _)))
      go_wp2_with fail
      refine (HI.out _).mono ?_
      rintro e w2 ⟨vv, rfl, hown, hb2⟩
      obtain ⟨A2, c2, hv2⟩ := own_form hown
      subst hv2
      obtain ⟨k1, k2, k3, k4, hB1⟩ := three_blocks w (.cells #[.int .i64 m, .int .i64 q, .slice A l.length c] 80) (.cells v.cs 26) (.cells #[.func (.func k) #[] lb] 78) nq
      have e1 := (hb2.block w.heap.size (by rw [k4]; omega)).trans k1
      have e3 := (hb2.block (w.heap.size + 1 + 1) (by rw [k4]; omega)).trans k3
      have hBw2 : Below w.heap.size w w2 := hB1.trans (hb2.mono hB1.size)
      have HRD := Lib.hid (RdN.of_own hown)
      have HBW2 := Lib.hid hBw2
      have E1 := Lib.hid e1
      have E3 := Lib.hid e3
      clear hown hb2 k1 k2 k3 k4 hB1 e1 e3 hBw2 HI
      go_wp2
      go_loopw [27] (fun i wr => ∃ j : Nat, j ≤ (ids v.support).length ∧ i = .int .i64 j ∧ ((ids v.support).take j).all (fun i => l.any (fun w => (w.signer == (i : Int)) && p w)) = true ∧ Below w2.heap.size w2 wr) (fun i _ => (ids v.support).length - (intOf i).toNat)
      case atStart => exact ⟨0, Nat.zero_le _, rfl, rfl, Below.refl _ _⟩
      case round =>
        obtain ⟨j, hj, rfl, hall, hB⟩ := hrel
        have HALL := Lib.hid hall
        have HB := Lib.hid hB
        clear hall hB
        by_cases hlt : j < (ids v.support).length
        · obtain ⟨b, off, rfl, hb, hc⟩ := (HRD.out.below HB.out) j hlt
          have x1 := (HB.out.block w.heap.size (heap_lt E1.out)).trans E1.out
          have x3 := (HB.out.block (w.heap.size + 1 + 1) (heap_lt E3.out)).trans E3.out
          obtain ⟨y1, y2, y3⟩ := cells3 x1
          have l1 := heap_lt x1
          have l3 := heap_lt x3
          have hBw : Below w.heap.size w wr := HBW2.out.trans (HB.out.mono HBW2.out.size)
          have HN := Lib.hid (all_take_next (ids v.support) (fun i => l.any (fun w => (w.signer == (i : Int)) && p w)) j hlt HALL.out)
          have HX := Lib.hid (all_false_at (ids v.support) (fun i => l.any (fun w => (w.signer == (i : Int)) && p w)) j hlt)
          generalize (ids v.support)[j] = x at *
          have HH := Lib.hid (has_pure m q A l c hl _ _ (wr.alloc (.cells #[.int .i64 (x : Int)] 3)) (sup1_fits (wr.alloc (.cells #[.int .i64 (x : Int)] 3)) (.func (.func k) #[] lb) p wr.heap.size (w.heap.size + 1 + 1) (x : Int) (HF.out.below (hBw.alloc hBw.size _)) (Boxed.new _ _ _) (Boxed.alloc x3 _)) (HR.out.below (hBw.alloc hBw.size _)))
          have HBW := Lib.hid hBw
          clear x1 x3 hBw
          go_wp2_with fail
          refine HH.out.mono ?_
          rintro e w4 ⟨rfl, hb4⟩
          have hb4' : Below wr.heap.size wr w4 := ((Below.refl _ _).alloc (Nat.le_refl _) _).trans (hb4.mono (by simp))
          clear hb4
          cases hbb : l.any (fun w => (w.signer == (x : Int)) && p w) with
          | true =>
            have hnx := Lib.hid (HN.out hbb)
            clear hbb
            go_wp2
            go_roundw
            case rel => exact ⟨j + 1, by omega, by go_num, hnx.out, HB.out.trans (hb4'.mono HB.out.size)⟩
            case measure => simp [intOf]; omega
          | false =>
            have hnx := HX.out hbb
            have hnx' := Lib.hid hnx
            clear hbb hnx
            go_wp2
            go_ret
            exact ⟨ret_bool (by rw [hnx'.out]; simp), HBW.out.trans (hb4'.mono HBW.out.size)⟩
        · go_wp2
          go_ret
          have e : (ids v.support).take j = ids v.support := List.take_of_length_le (by omega)
          have hh := HALL.out
          rw [e] at hh
          exact ⟨ret_bool (by simp [hh]), HBW2.out.trans (HB.out.mono HBW2.out.size)⟩
end Go.Proofs.Ythhgdkodhokefaa
