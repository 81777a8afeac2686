/- court.prevote and court.precommit. -/
import Derived.Laws.EntriesVeiled
import Derived.Test.YthhgdkodhokefaaCourtD
namespace Go.Proofs.Ythhgdkodhokefaa
open Go Go.RowKit
set_option linter.unusedVariables false

/-- prevote. -/
def prevB (m q : Int) (l : List Vt) (v : Vt) : Bool :=
  if v.round == 1 then (v.choice == 0) || supB m q l v (peB v)
  else (supB m q l v (fun u => pvB v u || pmB v u) && l.any (fun u => hasB v.support u.signer && pvB v u)) || (supB m q l v (pmB v) && l.any (pbB v))
/-- precommit. -/
def precB (m q : Int) (l : List Vt) (v : Vt) : Bool :=
  if v.choice != 2 then supB m q l v (fun u => prB v u && sameB v u)
  else supB m q l v (prB v) && unl (l.filter (fun u => prB v u && hasB v.support u.signer))
theorem two_blocks (w : World) (o1 o2 : Obj) :
    ((w.alloc o1).alloc o2).heap[w.heap.size]? = some o1 ∧ ((w.alloc o1).alloc o2).heap[w.heap.size + 1]? = some o2 ∧ Below w.heap.size w ((w.alloc o1).alloc o2) := by
  refine ⟨?_, ?_, (((Below.refl _ _).alloc (Nat.le_refl _) _).alloc (by simp) _)⟩
  · show ((w.heap.push o1).push o2)[w.heap.size]? = some o1
    rw [Array.getElem?_push, Array.getElem?_push]
    simp
  · show ((w.heap.push o1).push o2)[w.heap.size + 1]? = some o2
    rw [Array.getElem?_push]
    simp
theorem four_blocks (w : World) (o1 o2 o3 o4 : Obj) :
    ((((w.alloc o1).alloc o2).alloc o3).alloc o4).heap[w.heap.size]? = some o1 ∧ ((((w.alloc o1).alloc o2).alloc o3).alloc o4).heap[w.heap.size + 1]? = some o2 ∧ ((((w.alloc o1).alloc o2).alloc o3).alloc o4).heap[w.heap.size + 1 + 1]? = some o3 ∧ ((((w.alloc o1).alloc o2).alloc o3).alloc o4).heap[w.heap.size + 1 + 1 + 1]? = some o4 ∧
    Below w.heap.size w ((((w.alloc o1).alloc o2).alloc o3).alloc o4) := by
  refine ⟨?_, ?_, ?_, ?_, ((((Below.refl _ _).alloc (Nat.le_refl _) _).alloc (by simp) _).alloc (by simp; omega) _).alloc (by simp; omega) _⟩
  · exact (Below.heap_alloc _ _ _ (by simp <;> omega)).trans ((Below.heap_alloc _ _ _ (by simp <;> omega)).trans ((Below.heap_alloc _ _ _ (by simp)).trans (heap_alloc_last w o1)))
  · refine (Below.heap_alloc _ _ _ (by simp <;> omega)).trans ((Below.heap_alloc _ _ _ (by simp <;> omega)).trans ?_)
    have := heap_alloc_last (w.alloc o1) o2
    rwa [World.size_alloc] at this
  · refine (Below.heap_alloc _ _ _ (by simp <;> omega)).trans ?_
    have := heap_alloc_last ((w.alloc o1).alloc o2) o3
    rwa [World.size_alloc, World.size_alloc] at this
  · have := heap_alloc_last (((w.alloc o1).alloc o2).alloc o3) o4
    rwa [World.size_alloc, World.size_alloc, World.size_alloc] at this
set_option maxRecDepth 100000 in
set_option maxHeartbeats 2000000 in
theorem prevote_1 (m q : Int) (A : Option Addr) (l : List Vt) (c : Nat) (hl : l.length ≤ 1000) (v : Vt) (hv : W64 v.support) (w : World) (hr : RdV w A l) (h1 : (v.round == 1) = true) :
    Calls Try.prog 48 #[.agg #[.int .i64 m, .int .i64 q, .slice A l.length c], .agg v.cs] w fun e W' => e = .returned (.bool ((v.choice == 0) || supB m q l v (peB v))) ∧ Below w.heap.size w W' := by
  obtain ⟨b1, b2, b3⟩ := two_blocks w (.cells #[.int .i64 m, .int .i64 q, .slice A l.length c] 80) (.cells v.cs 26)
  have HS := Lib.hid (supported_c m q A l c hl v hv _ _ _ (fits_echo _ (w.heap.size + 1) v b2) (hr.below b3))
  have HB := Lib.hid b3
  have HV := Lib.hid (VtAt.of_blk b2)
  clear b1 b2 b3 hr hv
  cases h2 : (v.choice == 0) with
  | true =>
    go_enter Try.func48, Try.ntmps48
    go_wp2
    go_ret
    exact ⟨ret_bool (by simp), HB.out⟩
  | false =>
    go_enter Try.func48, Try.ntmps48
    go_wp2_with (refine wpList_load_vt (by rfl) (.tmp 3) rfl _ _ rfl v HV.out ?_)
    refine HS.out.mono ?_
    rintro e w2 ⟨rfl, hb2⟩
    go_wp2
    go_ret
    exact ⟨ret_bool (by simp), HB.out.trans (hb2.mono HB.out.size)⟩
set_option maxRecDepth 100000 in
set_option maxHeartbeats 2000000 in
theorem prevote_2 (m q : Int) (A : Option Addr) (l : List Vt) (c : Nat) (hl : l.length ≤ 1000) (v : Vt) (hv : W64 v.support) (w : World) (hr : RdV w A l) (h1 : (v.round == 1) = false) (hr1 : 1 ≤ v.round) (hr2 : v.round ≤ 12) :
    Calls Try.prog 48 #[.agg #[.int .i64 m, .int .i64 q, .slice A l.length c], .agg v.cs] w fun e W' => e = .returned (.bool ((supB m q l v (fun u => pvB v u || pmB v u) && l.any (fun u => hasB v.support u.signer && pvB v u)) || (supB m q l v (pmB v) && l.any (pbB v)))) ∧ Below w.heap.size w W' := by
  obtain ⟨b1, b2, b3, b4, b5⟩ := four_blocks w (.cells #[.int .i64 m, .int .i64 q, .slice A l.length c] 80) (.cells v.cs 26) (.cells #[.func (.func 75) #[] #[.pointer (some ⟨w.heap.size + 1, 0, none⟩)]] 78) (.cells #[.func (.func 76) #[] #[.pointer (some ⟨w.heap.size + 1, 0, none⟩)]] 78)
  have F1 := fits_value _ (w.heap.size + 1) v hr1 hr2 b2
  have F2 := fits_mixed _ (w.heap.size + 1) v hr1 hr2 b2
  have HS1 := Lib.hid (supported_c m q A l c hl v hv _ _ _ (fits_either _ (w.heap.size + 1 + 1) (w.heap.size + 1 + 1 + 1) _ _ _ _ F1 F2 b3 b4) (hr.below b5))
  have HV := Lib.hid (VtAt.of_blk b2)
  have FI1 := Lib.hid F1
  have FI2 := Lib.hid F2
  have B1 := Lib.hid b1
  have B2 := Lib.hid b2
  have B3 := Lib.hid b3
  have B4 := Lib.hid b4
  have B5 := Lib.hid b5
  have HR := Lib.hid hr
  have HSUP := Lib.hid hv
  have R1 := Lib.hid hr1
  have R2 := Lib.hid hr2
  clear b1 b2 b3 b4 b5 F1 F2 hr hv hr1 hr2
  go_enter Try.func48, Try.ntmps48
  go_wp2_with (refine wpList_load_vt (by rfl) (.tmp 3) rfl _ _ rfl v HV.out ?_)
  refine HS1.out.mono ?_
  rintro e w2 ⟨rfl, hb2⟩
  have HB2 := Lib.hid hb2
  have hw2 : Below w.heap.size w w2 := B5.out.trans (hb2.mono B5.out.size)
  have HW2 := Lib.hid hw2
  obtain ⟨y1, y2, y3⟩ := cells3 ((hb2.block _ (heap_lt B1.out)).trans B1.out)
  have x2 := (hb2.block _ (heap_lt B2.out)).trans B2.out
  have x4 : Boxed w2 (w.heap.size + 1 + 1 + 1) 78 _ := (hb2.block _ (heap_lt B4.out)).trans B4.out
  have HV2 := Lib.hid (VtAt.of_blk x2)
  have HS2 := Lib.hid (supported_c m q A l c hl v HSUP.out _ _ w2 (FI2.out.below hb2) (HR.out.below hw2))
  have HH1 := Lib.hid (has_pure m q A l c hl _ _ w2 (fits_in _ (w.heap.size + 1) (w.heap.size + 1 + 1) v HSUP.out _ _ (FI1.out.below hb2) x2 ((hb2.block _ (heap_lt B3.out)).trans B3.out)) (HR.out.below hw2))
  have c4 := x4.cell
  clear hb2 hw2 x2 x4
  cases hA : supB m q l v (fun u => pvB v u || pmB v u) with
  | false =>
    go_wp2_with (refine wpList_load_vt (by rfl) (.tmp 3) rfl _ _ rfl v HV2.out ?_)
    refine HS2.out.mono ?_
    rintro e w5 ⟨rfl, hb5⟩
    have hb5' : Below _ _ w5 := HB2.out.trans (hb5.mono HB2.out.size)
    have hw5 : Below w.heap.size w w5 := B5.out.trans (hb5'.mono B5.out.size)
    have HW5 := Lib.hid hw5
    obtain ⟨z1, z2, z3⟩ := cells3 ((hb5'.block _ (heap_lt B1.out)).trans B1.out)
    have HH2 := Lib.hid (has_pure m q A l c hl _ _ w5 (fits_before _ (w.heap.size + 1) v R1.out R2.out ((hb5'.block _ (heap_lt B2.out)).trans B2.out)) (HR.out.below hw5))
    clear hb5 hb5' hw5
    cases hC : supB m q l v (pmB v) with
    | false =>
      go_wp2
      go_ret
      exact ⟨ret_bool (by simp [hA, hC]), HW5.out⟩
    | true =>
      go_wp2_with fail
      refine HH2.out.mono ?_
      rintro e w6 ⟨rfl, hb6⟩
      go_wp2
      go_ret
      exact ⟨ret_bool (by simp [hA, hC]), HW5.out.trans (hb6.mono HW5.out.size)⟩
  | true =>
    go_wp2_with fail
    refine HH1.out.mono ?_
    rintro e w3 ⟨rfl, hb3⟩
    have hb3' : Below _ _ w3 := HB2.out.trans (hb3.mono HB2.out.size)
    have HB3 := Lib.hid hb3'
    have hw3 : Below w.heap.size w w3 := B5.out.trans (hb3'.mono B5.out.size)
    have HW3 := Lib.hid hw3
    obtain ⟨t1, t2, t3⟩ := cells3 ((hb3'.block _ (heap_lt B1.out)).trans B1.out)
    have HV3 := Lib.hid (VtAt.of_blk ((hb3'.block _ (heap_lt B2.out)).trans B2.out))
    have x5 : Boxed w3 (w.heap.size + 1 + 1 + 1) 78 _ := (hb3'.block _ (heap_lt B4.out)).trans B4.out
    have c5 := x5.cell
    have HS3 := Lib.hid (supported_c m q A l c hl v HSUP.out _ _ w3 (FI2.out.below hb3') (HR.out.below hw3))
    clear hb3 hb3' hw3 x5
    cases hD : l.any (fun u => hasB v.support u.signer && pvB v u) with
    | true =>
      go_wp2
      go_ret
      exact ⟨ret_bool (by rw [hA, hD]; rfl), HW3.out⟩
    | false =>
      go_wp2_with (refine wpList_load_vt (by rfl) (.tmp 3) rfl _ _ rfl v HV3.out ?_)
      refine HS3.out.mono ?_
      rintro e w5 ⟨rfl, hb5⟩
      have hb5' : Below _ _ w5 := HB3.out.trans (hb5.mono HB3.out.size)
      have hw5 : Below w.heap.size w w5 := B5.out.trans (hb5'.mono B5.out.size)
      have HW5 := Lib.hid hw5
      obtain ⟨z1, z2, z3⟩ := cells3 ((hb5'.block _ (heap_lt B1.out)).trans B1.out)
      have HH2 := Lib.hid (has_pure m q A l c hl _ _ w5 (fits_before _ (w.heap.size + 1) v R1.out R2.out ((hb5'.block _ (heap_lt B2.out)).trans B2.out)) (HR.out.below hw5))
      clear hb5 hb5' hw5
      cases hC : supB m q l v (pmB v) with
      | false =>
        go_wp2
        go_ret
        exact ⟨ret_bool (by simp [hD, hC]), HW5.out⟩
      | true =>
        go_wp2_with fail
        refine HH2.out.mono ?_
        rintro e w6 ⟨rfl, hb6⟩
        go_wp2
        go_ret
        exact ⟨ret_bool (by simp [hD, hC]), HW5.out.trans (hb6.mono HW5.out.size)⟩
theorem unl_more (a b : List Vt) (h : unl a = true) : unl (a ++ b) = true := by
  cases a with
  | nil => cases h
  | cons x r => simp only [unl, List.cons_append, List.any_append] at *; simp [h]
/-- has with the closure that remembers the first vote. -/
theorem has_first (m q : Int) (A : Option Addr) (l : List Vt) (c : Nat) (hl : l.length ≤ 1000) (w2 : World) (B1 Bv : Nat) (f1 : Value) (p1 : Vt → Bool) (hF1 : Fits w2 f1 p1) (v : Vt) (hs : W64 v.support) (hB : w2.heap[Bv]? = some (.cells v.cs 26 (0, 0))) (hB1 : Boxed w2 B1 78 f1) (hr : RdV w2 A l) :
    Calls Try.prog 45 #[.agg #[.int .i64 m, .int .i64 q, .slice A l.length c], .func (.func 82) #[] #[.pointer (some ⟨B1, 0, none⟩), .pointer (some ⟨Bv, 0, none⟩), .pointer (some ⟨w2.heap.size, 0, none⟩)]] (w2.alloc (.cells #[.pointer none] 105)) fun e W' => e = .returned (.bool (unl (l.filter (fun u => p1 u && hasB v.support u.signer)))) ∧ Below w2.heap.size w2 W' := by
  refine (has_g m q A l c hl _ _ (enters_of Try.func82 (by kernel_rfl) rfl) _
    (fun pre W => Below w2.heap.size w2 W ∧ FirstIs W w2.heap.size (pre.filter (fun u => p1 u && hasB v.support u.signer)) ∧ unl (pre.filter (fun u => p1 u && hasB v.support u.signer)) = false)
    (fun W => Below w2.heap.size w2 W ∧ unl (l.filter (fun u => p1 u && hasB v.support u.signer)) = true)
    (fun pre W h => hr.below h.1) (fun pre W W' h hb => ⟨h.1.trans (hb.mono h.1.size), FirstIs.blw h.2.1 hb, h.2.2⟩) ?_ ⟨below1 _ _, Boxed.new _ _ _, rfl⟩).mono ?_
  · rintro pre u W ⟨h1, h2, h3⟩ ⟨rest, hrest⟩
    refine (first_c w2 W B1 Bv w2.heap.size rfl f1 p1 hF1 v hs hB hB1 h1 _ h2 u).mono ?_
    rintro e W' ⟨hb, (⟨hp, rfl, hf⟩ | ⟨hp, rfl, hf⟩)⟩
    · refine .inl ⟨rfl, hb, ?_, ?_⟩
      · simpa [List.filter_append, hp] using hf
      · simpa [List.filter_append, hp] using h3
    · have ef : (pre ++ [u]).filter (fun u => p1 u && hasB v.support u.signer) = pre.filter (fun u => p1 u && hasB v.support u.signer) ++ [u] := by
        rw [List.filter_append]; simp only [List.filter_cons, List.filter_nil, hp, if_true]
      cases hu : unlike (pre.filter (fun u => p1 u && hasB v.support u.signer)) u with
      | false => exact .inl ⟨rfl, hb, by rw [ef]; exact hf, by rw [ef, unl_snoc, h3, hu]; rfl⟩
      | true =>
        refine .inr ⟨rfl, hb, ?_⟩
        have e2 : l.filter (fun u => p1 u && hasB v.support u.signer) = (pre.filter (fun u => p1 u && hasB v.support u.signer) ++ [u]) ++ rest.filter (fun u => p1 u && hasB v.support u.signer) := by
          rw [hrest, ← ef, ← List.filter_append]; simp
        rw [e2]
        exact unl_more _ _ (by rw [unl_snoc, hu]; simp)
  · rintro e W' (⟨rfl, h1, h2, h3⟩ | ⟨rfl, h1, h3⟩)
    · exact ⟨by rw [h3], h1⟩
    · exact ⟨by rw [h3], h1⟩
theorem three_blocks' (w : World) (o1 o2 o3 : Obj) :
    (((w.alloc o1).alloc o2).alloc o3).heap[w.heap.size]? = some o1 ∧ (((w.alloc o1).alloc o2).alloc o3).heap[w.heap.size + 1]? = some o2 ∧ (((w.alloc o1).alloc o2).alloc o3).heap[w.heap.size + 1 + 1]? = some o3 ∧ Below w.heap.size w (((w.alloc o1).alloc o2).alloc o3) :=
  let ⟨a, b, c, _, e⟩ := three_blocks w o1 o2 o3 0
  ⟨a, b, c, ⟨e.os, e.tape, e.output, e.size, e.block⟩⟩
set_option maxRecDepth 100000 in
set_option maxHeartbeats 2000000 in
theorem precommit_c (m q : Int) (A : Option Addr) (l : List Vt) (c : Nat) (hl : l.length ≤ 1000) (v : Vt) (hv : W64 v.support) (w : World) (hr : RdV w A l) :
    Calls Try.prog 49 #[.agg #[.int .i64 m, .int .i64 q, .slice A l.length c], .agg v.cs] w fun e W' => e = .returned (.bool (precB m q l v)) ∧ Below w.heap.size w W' := by
  obtain ⟨b1, b2, b3, b5⟩ := three_blocks' w (.cells #[.int .i64 m, .int .i64 q, .slice A l.length c] 80) (.cells v.cs 26) (.cells #[.func (.func 80) #[] #[.pointer (some ⟨w.heap.size + 1, 0, none⟩)]] 78)
  have F1 := fits_round _ (w.heap.size + 1) v b2
  have HS1 := Lib.hid (supported_c m q A l c hl v hv _ _ _ (fits_and _ (w.heap.size + 1 + 1) (w.heap.size + 1) v _ _ F1 b2 b3) (hr.below b5))
  have HS2 := Lib.hid (supported_c m q A l c hl v hv _ _ _ F1 (hr.below b5))
  have HV := Lib.hid (VtAt.of_blk b2)
  have FI1 := Lib.hid F1
  have B1 := Lib.hid b1
  have B2 := Lib.hid b2
  have B3 := Lib.hid b3
  have B5 := Lib.hid b5
  have HR := Lib.hid hr
  have HSUP := Lib.hid hv
  clear b1 b2 b3 b5 F1 hr hv
  unfold precB
  cases h1 : (v.choice != 2) with
  | true =>
    go_enter Try.func49, Try.ntmps49
    go_wp2_with (refine wpList_load_vt (by rfl) (.tmp 3) rfl _ _ rfl v HV.out ?_)
    refine HS1.out.mono ?_
    rintro e w2 ⟨rfl, hb2⟩
    go_wp2
    go_ret
    exact ⟨ret_bool (by simp), B5.out.trans (hb2.mono B5.out.size)⟩
  | false =>
    go_enter Try.func49, Try.ntmps49
    go_wp2_with (refine wpList_load_vt (by rfl) (.tmp 3) rfl _ _ rfl v HV.out ?_)
    refine HS2.out.mono ?_
    rintro e w2 ⟨rfl, hb2⟩
    have hw2 : Below w.heap.size w w2 := B5.out.trans (hb2.mono B5.out.size)
    have HW2 := Lib.hid hw2
    obtain ⟨y1, y2, y3⟩ := cells3 ((hb2.block _ (heap_lt B1.out)).trans B1.out)
    have x2 := (hb2.block _ (heap_lt B2.out)).trans B2.out
    have l1 : w.heap.size < w2.heap.size := heap_lt ((hb2.block _ (heap_lt B1.out)).trans B1.out)
    have HH := Lib.hid (has_first m q A l c hl w2 (w.heap.size + 1 + 1) (w.heap.size + 1) _ _ (FI1.out.below hb2) v HSUP.out x2 ((hb2.block _ (heap_lt B3.out)).trans B3.out) (HR.out.below hw2))
    clear hb2 hw2 x2
    cases hA : supB m q l v (prB v) with
    | false =>
      go_wp2
      go_ret
      exact ⟨ret_bool (by simp), HW2.out⟩
    | true =>
      go_wp2_with fail
      refine HH.out.mono ?_
      rintro e w3 ⟨rfl, hb3⟩
      go_wp2
      go_ret
      exact ⟨ret_bool (by simp), HW2.out.trans (hb3.mono HW2.out.size)⟩
end Go.Proofs.Ythhgdkodhokefaa
