/- court.prevote and court.precommit. -/
import Derived.Laws.EntriesVeiled
import Derived.Test.YtphnfhonmbbddaaGD
import Derived.Test.YtphnfhonmbbddaaGC
namespace Go.Proofs.Ytphnfhonmbbddaa
open Go Go.RowKit
set_option linter.unusedVariables false

/-- prevote. -/
def prevB (m q : Int) (l : List Vt) (v : Vt) : Bool :=
  if v.round == 1 then (v.choice == 0) || supB m q l v (peB v)
  else (supB m q l v (fun u => pvB v u || pmB v u) && l.any (fun u => hasB v.support u.signer && pvB v u)) || (supB m q l v (pmB v) && l.any (pbB v))
/-- precommit. -/
def precB (m q : Int) (l : List Vt) (v : Vt) : Bool :=
  if v.choice != 2 then supB m q l v (fun u => prB v u && sameB v u)
  else supB m q l v (prB v) && unl (l.filter (fun u => prB v u && hasB v.support u.signer))
theorem two_blocks (w : World) (o1 o2 : Obj) :
    ((w.alloc o1).alloc o2).heap[w.heap.size]? = some o1 ∧ ((w.alloc o1).alloc o2).heap[w.heap.size + 1]? = some o2 ∧ Below w.heap.size w ((w.alloc o1).alloc o2) := by
  refine ⟨?_, ?_, (((Below.refl _ _).alloc (Nat.le_refl _) _).alloc (by simp) _)⟩
  · show ((w.heap.push o1).push o2)[w.heap.size]? = some o1
    rw [Array.getElem?_push, Array.getElem?_push]
    simp
  · show ((w.heap.push o1).push o2)[w.heap.size + 1]? = some o2
    rw [Array.getElem?_push]
    simp
theorem four_blocks (w : World) (o1 o2 o3 o4 : Obj) :
    ((((w.alloc o1).alloc o2).alloc o3).alloc o4).heap[w.heap.size]? = some o1 ∧ ((((w.alloc o1).alloc o2).alloc o3).alloc o4).heap[w.heap.size + 1]? = some o2 ∧ ((((w.alloc o1).alloc o2).alloc o3).alloc o4).heap[w.heap.size + 1 + 1]? = some o3 ∧ ((((w.alloc o1).alloc o2).alloc o3).alloc o4).heap[w.heap.size + 1 + 1 + 1]? = some o4 ∧
    Below w.heap.size w ((((w.alloc o1).alloc o2).alloc o3).alloc o4) := by
  refine ⟨?_, ?_, ?_, ?_, ((((Below.refl _ _).alloc (Nat.le_refl _) _).alloc (by simp) _).alloc (by simp; omega) _).alloc (by simp; omega) _⟩
  · exact (Below.heap_alloc _ _ _ (by simp <;> omega)).trans ((Below.heap_alloc _ _ _ (by simp <;> omega)).trans ((Below.heap_alloc _ _ _ (by simp)).trans (heap_alloc_last w o1)))
  · refine (Below.heap_alloc _ _ _ (by simp <;> omega)).trans ((Below.heap_alloc _ _ _ (by simp <;> omega)).trans ?_)
    have := heap_alloc_last (w.alloc o1) o2
    rwa [World.size_alloc] at this
  · refine (Below.heap_alloc _ _ _ (by simp <;> omega)).trans ?_
    have := heap_alloc_last ((w.alloc o1).alloc o2) o3
    rwa [World.size_alloc, World.size_alloc] at this
  · have := heap_alloc_last (((w.alloc o1).alloc o2).alloc o3) o4
    rwa [World.size_alloc, World.size_alloc, World.size_alloc] at this
set_option maxRecDepth 100000 in
set_option maxHeartbeats 2000000 in
theorem prevote_1 (m q : Int) (A : Option Addr) (l : List Vt) (c : Nat) (hl : l.length ≤ 1000) (v : Vt) (hv : W64 v.support) (w : World) (hr : RdV w A l) (h1 : (v.round == 1) = true) :
    Calls Try.prog 80 #[.agg #[.int .i64 m, .int .i64 q, .slice A l.length c], .agg v.cs] w fun e W' => e = .returned (.bool ((v.choice == 0) || supB m q l v (peB v))) ∧ Below w.heap.size w W' := by
  obtain ⟨b1, b2, b3⟩ := two_blocks w (.cells #[.int .i64 m, .int .i64 q, .slice A l.length c] 120) (.cells v.cs 68)
  have HS := Lib.hid (supported_c m q A l c hl v hv _ _ _ (fits_echo _ (w.heap.size + 1) v b2) (hr.below b3))
  have HB := Lib.hid b3
  have HV := Lib.hid (VtAt.of_blk b2)
  clear b1 b2 b3 hr hv
  cases h2 : (v.choice == 0) with
  | true =>
    go_enter Try.func80, Try.ntmps80
    go_wp2
    go_ret
    exact ⟨ret_bool (by simp), HB.out⟩
  | false =>
    go_enter Try.func80, Try.ntmps80
    go_wp2_with (refine wpList_load_vt (by rfl) (.tmp 3) rfl _ _ rfl v HV.out ?_)
    refine HS.out.mono ?_
    rintro e w2 ⟨rfl, hb2⟩
    go_wp2
    go_ret
    exact ⟨ret_bool (by simp), HB.out.trans (hb2.mono HB.out.size)⟩
set_option maxRecDepth 100000 in
set_option maxHeartbeats 2000000 in
theorem prevote_2 (m q : Int) (A : Option Addr) (l : List Vt) (c : Nat) (hl : l.length ≤ 1000) (v : Vt) (hv : W64 v.support) (w : World) (hr : RdV w A l) (h1 : (v.round == 1) = false) (hr1 : 1 ≤ v.round) (hr2 : v.round ≤ 12) :
    Calls Try.prog 80 #[.agg #[.int .i64 m, .int .i64 q, .slice A l.length c], .agg v.cs] w fun e W' => e = .returned (.bool ((supB m q l v (fun u => pvB v u || pmB v u) && l.any (fun u => hasB v.support u.signer && pvB v u)) || (supB m q l v (pmB v) && l.any (pbB v)))) ∧ Below w.heap.size w W' := by
  obtain ⟨b1, b2, b3, b4, b5⟩ := four_blocks w (.cells #[.int .i64 m, .int .i64 q, .slice A l.length c] 120) (.cells v.cs 68) (.cells #[.func (.func 113) #[] #[.pointer (some ⟨w.heap.size + 1, 0, none⟩)]] 100) (.cells #[.func (.func 114) #[] #[.pointer (some ⟨w.heap.size + 1, 0, none⟩)]] 100)
  have F1 := fits_value _ (w.heap.size + 1) v hr1 hr2 b2
  have F2 := fits_mixed _ (w.heap.size + 1) v hr1 hr2 b2
  have HS1 := Lib.hid (supported_c m q A l c hl v hv _ _ _ (fits_either _ (w.heap.size + 1 + 1) (w.heap.size + 1 + 1 + 1) _ _ _ _ F1 F2 b3 b4) (hr.below b5))
  have HV := Lib.hid (VtAt.of_blk b2)
  have FI1 := Lib.hid F1
  have FI2 := Lib.hid F2
  have B1 := Lib.hid b1
  have B2 := Lib.hid b2
  have B3 := Lib.hid b3
  have B4 := Lib.hid b4
  have B5 := Lib.hid b5
  have HR := Lib.hid hr
  have HSUP := Lib.hid hv
  have R1 := Lib.hid hr1
  have R2 := Lib.hid hr2
  clear b1 b2 b3 b4 b5 F1 F2 hr hv hr1 hr2
  go_enter Try.func80, Try.ntmps80
  go_wp2_with (refine wpList_load_vt (by rfl) (.tmp 3) rfl _ _ rfl v HV.out ?_)
  refine HS1.out.mono ?_
  rintro e w2 ⟨rfl, hb2⟩
  have HB2 := Lib.hid hb2
  have hw2 : Below w.heap.size w w2 := B5.out.trans (hb2.mono B5.out.size)
  have HW2 := Lib.hid hw2
  obtain ⟨y1, y2, y3⟩ := cells3 ((hb2.block _ (heap_lt B1.out)).trans B1.out)
  have x2 := (hb2.block _ (heap_lt B2.out)).trans B2.out
  have x4 : Boxed w2 (w.heap.size + 1 + 1 + 1) 100 _ := (hb2.block _ (heap_lt B4.out)).trans B4.out
  have HV2 := Lib.hid (VtAt.of_blk x2)
  have HS2 := Lib.hid (supported_c m q A l c hl v HSUP.out _ _ w2 (FI2.out.below hb2) (HR.out.below hw2))
  have HH1 := Lib.hid (has_pure m q A l c hl _ _ w2 (fits_in _ (w.heap.size + 1) (w.heap.size + 1 + 1) v HSUP.out _ _ (FI1.out.below hb2) x2 ((hb2.block _ (heap_lt B3.out)).trans B3.out)) (HR.out.below hw2))
  have c4 := x4.cell
  clear hb2 hw2 x2 x4
  cases hA : supB m q l v (fun u => pvB v u || pmB v u) with
  | false =>
    go_wp2_with (refine wpList_load_vt (by rfl) (.tmp 3) rfl _ _ rfl v HV2.out ?_)
    refine HS2.out.mono ?_
    rintro e w5 ⟨rfl, hb5⟩
    have hb5' : Below _ _ w5 := HB2.out.trans (hb5.mono HB2.out.size)
    have hw5 : Below w.heap.size w w5 := B5.out.trans (hb5'.mono B5.out.size)
    have HW5 := Lib.hid hw5
    obtain ⟨z1, z2, z3⟩ := cells3 ((hb5'.block _ (heap_lt B1.out)).trans B1.out)
    have HH2 := Lib.hid (has_pure m q A l c hl _ _ w5 (fits_before _ (w.heap.size + 1) v R1.out R2.out ((hb5'.block _ (heap_lt B2.out)).trans B2.out)) (HR.out.below hw5))
    clear hb5 hb5' hw5
    cases hC : supB m q l v (pmB v) with
    | false =>
      go_wp2
      go_ret
      exact ⟨ret_bool (by simp [hA, hC]), HW5.out⟩
    | true =>
      go_wp2_with fail
      refine HH2.out.mono ?_
      rintro e w6 ⟨rfl, hb6⟩
      go_wp2
      go_ret
      exact ⟨ret_bool (by simp [hA, hC]), HW5.out.trans (hb6.mono HW5.out.size)⟩
  | true =>
    go_wp2_with fail
    refine HH1.out.mono ?_
    rintro e w3 ⟨rfl, hb3⟩
    have hb3' : Below _ _ w3 := HB2.out.trans (hb3.mono HB2.out.size)
    have HB3 := Lib.hid hb3'
    have hw3 : Below w.heap.size w w3 := B5.out.trans (hb3'.mono B5.out.size)
    have HW3 := Lib.hid hw3
    obtain ⟨t1, t2, t3⟩ := cells3 ((hb3'.block _ (heap_lt B1.out)).trans B1.out)
    have HV3 := Lib.hid (VtAt.of_blk ((hb3'.block _ (heap_lt B2.out)).trans B2.out))
    have x5 : Boxed w3 (w.heap.size + 1 + 1 + 1) 100 _ := (hb3'.block _ (heap_lt B4.out)).trans B4.out
    have c5 := x5.cell
    have HS3 := Lib.hid (supported_c m q A l c hl v HSUP.out _ _ w3 (FI2.out.below hb3') (HR.out.below hw3))
    clear hb3 hb3' hw3 x5
    cases hD : l.any (fun u => hasB v.support u.signer && pvB v u) with
    | true =>
      go_wp2
      go_ret
      exact ⟨ret_bool (by rw [hA, hD]; rfl), HW3.out⟩
    | false =>
      go_wp2_with (refine wpList_load_vt (by rfl) (.tmp 3) rfl _ _ rfl v HV3.out ?_)
      refine HS3.out.mono ?_
      rintro e w5 ⟨rfl, hb5⟩
      have hb5' : Below _ _ w5 := HB3.out.trans (hb5.mono HB3.out.size)
      have hw5 : Below w.heap.size w w5 := B5.out.trans (hb5'.mono B5.out.size)
      have HW5 := Lib.hid hw5
      obtain ⟨z1, z2, z3⟩ := cells3 ((hb5'.block _ (heap_lt B1.out)).trans B1.out)
      have HH2 := Lib.hid (has_pure m q A l c hl _ _ w5 (fits_before _ (w.heap.size + 1) v R1.out R2.out ((hb5'.block _ (heap_lt B2.out)).trans B2.out)) (HR.out.below hw5))
      clear hb5 hb5' hw5
      cases hC : supB m q l v (pmB v) with
      | false =>
        go_wp2
        go_ret
        exact ⟨ret_bool (by simp [hD, hC]), HW5.out⟩
      | true =>
        go_wp2_with fail
        refine HH2.out.mono ?_
        rintro e w6 ⟨rfl, hb6⟩
        go_wp2
        go_ret
        exact ⟨ret_bool (by simp [hD, hC]), HW5.out.trans (hb6.mono HW5.out.size)⟩
theorem unl_more (a b : List Vt) (h : unl a = true) : unl (a ++ b) = true := by
  cases a with
  | nil => cases h
  | cons x r => simp only [unl, List.cons_append, List.any_append] at *; simp [h]
/-- has with the closure that remembers the first vote. -/
theorem has_first (m q : Int) (A : Option Addr) (l : List Vt) (c : Nat) (hl : l.length ≤ 1000) (w2 : World) (B1 Bv : Nat) (f1 : Value) (p1 : Vt → Bool) (hF1 : Fits w2 f1 p1) (v : Vt) (hs : W64 v.support) (hB : w2.heap[Bv]? = some (.cells v.cs 68 (0, 0))) (hB1 : Boxed w2 B1 100 f1) (hr : RdV w2 A l) :
    Calls Try.prog 77 #[.agg #[.int .i64 m, .int .i64 q, .slice A l.length c], .func (.func 120) #[] #[.pointer (some ⟨B1, 0, none⟩), .pointer (some ⟨Bv, 0, none⟩), .pointer (some ⟨w2.heap.size, 0, none⟩)]] (w2.alloc (.cells #[.pointer none] 140)) fun e W' => e = .returned (.bool (unl (l.filter (fun u => p1 u && hasB v.support u.signer)))) ∧ Below w2.heap.size w2 W' := by
  refine (has_g m q A l c hl _ _ (enters_of Try.func120 (by kernel_rfl) rfl) _
    (fun pre W => Below w2.heap.size w2 W ∧ FirstIs W w2.heap.size (pre.filter (fun u => p1 u && hasB v.support u.signer)) ∧ unl (pre.filter (fun u => p1 u && hasB v.support u.signer)) = false)
    (fun W => Below w2.heap.size w2 W ∧ unl (l.filter (fun u => p1 u && hasB v.support u.signer)) = true)
    (fun pre W h => hr.below h.1) (fun pre W W' h hb => ⟨h.1.trans (hb.mono h.1.size), FirstIs.blw h.2.1 hb, h.2.2⟩) ?_ ⟨below1 _ _, Boxed.new _ _ _, rfl⟩).mono ?_
  · rintro pre u W ⟨h1, h2, h3⟩ ⟨rest, hrest⟩
    refine (first_c w2 W B1 Bv w2.heap.size rfl f1 p1 hF1 v hs hB hB1 h1 _ h2 u).mono ?_
    rintro e W' ⟨hb, (⟨hp, rfl, hf⟩ | ⟨hp, rfl, hf⟩)⟩
    · refine .inl ⟨rfl, hb, ?_, ?_⟩
      · simpa [List.filter_append, hp] using hf
      · simpa [List.filter_append, hp] using h3
    · have ef : (pre ++ [u]).filter (fun u => p1 u && hasB v.support u.signer) = pre.filter (fun u => p1 u && hasB v.support u.signer) ++ [u] := by
        rw [List.filter_append]; simp only [List.filter_cons, List.filter_nil, hp, if_true]
      cases hu : unlike (pre.filter (fun u => p1 u && hasB v.support u.signer)) u with
      | false => exact .inl ⟨rfl, hb, by rw [ef]; exact hf, by rw [ef, unl_snoc, h3, hu]; rfl⟩
      | true =>
        refine .inr ⟨rfl, hb, ?_⟩
        have e2 : l.filter (fun u => p1 u && hasB v.support u.signer) = (pre.filter (fun u => p1 u && hasB v.support u.signer) ++ [u]) ++ rest.filter (fun u => p1 u && hasB v.support u.signer) := by
          rw [hrest, ← ef, ← List.filter_append]; simp
        rw [e2]
        exact unl_more _ _ (by rw [unl_snoc, hu]; simp)
  · rintro e W' (⟨rfl, h1, h2, h3⟩ | ⟨rfl, h1, h3⟩)
    · exact ⟨by rw [h3], h1⟩
    · exact ⟨by rw [h3], h1⟩
theorem three_blocks' (w : World) (o1 o2 o3 : Obj) :
    (((w.alloc o1).alloc o2).alloc o3).heap[w.heap.size]? = some o1 ∧ (((w.alloc o1).alloc o2).alloc o3).heap[w.heap.size + 1]? = some o2 ∧ (((w.alloc o1).alloc o2).alloc o3).heap[w.heap.size + 1 + 1]? = some o3 ∧ Below w.heap.size w (((w.alloc o1).alloc o2).alloc o3) :=
  let ⟨a, b, c, _, e⟩ := three_blocks w o1 o2 o3 0
  ⟨a, b, c, ⟨e.os, e.tape, e.output, e.size, e.block⟩⟩
set_option maxRecDepth 100000 in
set_option maxHeartbeats 2000000 in
theorem precommit_c (m q : Int) (A : Option Addr) (l : List Vt) (c : Nat) (hl : l.length ≤ 1000) (v : Vt) (hv : W64 v.support) (w : World) (hr : RdV w A l) :
    Calls Try.prog 81 #[.agg #[.int .i64 m, .int .i64 q, .slice A l.length c], .agg v.cs] w fun e W' => e = .returned (.bool (precB m q l v)) ∧ Below w.heap.size w W' := by
  obtain ⟨b1, b2, b3, b5⟩ := three_blocks' w (.cells #[.int .i64 m, .int .i64 q, .slice A l.length c] 120) (.cells v.cs 68) (.cells #[.func (.func 118) #[] #[.pointer (some ⟨w.heap.size + 1, 0, none⟩)]] 100)
  have F1 := fits_round _ (w.heap.size + 1) v b2
  have HS1 := Lib.hid (supported_c m q A l c hl v hv _ _ _ (fits_and _ (w.heap.size + 1 + 1) (w.heap.size + 1) v _ _ F1 b2 b3) (hr.below b5))
  have HS2 := Lib.hid (supported_c m q A l c hl v hv _ _ _ F1 (hr.below b5))
  have HV := Lib.hid (VtAt.of_blk b2)
  have FI1 := Lib.hid F1
  have B1 := Lib.hid b1
  have B2 := Lib.hid b2
  have B3 := Lib.hid b3
  have B5 := Lib.hid b5
  have HR := Lib.hid hr
  have HSUP := Lib.hid hv
  clear b1 b2 b3 b5 F1 hr hv
  unfold precB
  cases h1 : (v.choice != 2) with
  | true =>
    go_enter Try.func81, Try.ntmps81
    go_wp2_with (refine wpList_load_vt (by rfl) (.tmp 3) rfl _ _ rfl v HV.out ?_)
    refine HS1.out.mono ?_
    rintro e w2 ⟨rfl, hb2⟩
    go_wp2
    go_ret
    exact ⟨ret_bool (by simp), B5.out.trans (hb2.mono B5.out.size)⟩
  | false =>
    go_enter Try.func81, Try.ntmps81
    go_wp2_with (refine wpList_load_vt (by rfl) (.tmp 3) rfl _ _ rfl v HV.out ?_)
    refine HS2.out.mono ?_
    rintro e w2 ⟨rfl, hb2⟩
    have hw2 : Below w.heap.size w w2 := B5.out.trans (hb2.mono B5.out.size)
    have HW2 := Lib.hid hw2
    obtain ⟨y1, y2, y3⟩ := cells3 ((hb2.block _ (heap_lt B1.out)).trans B1.out)
    have x2 := (hb2.block _ (heap_lt B2.out)).trans B2.out
    have l1 : w.heap.size < w2.heap.size := heap_lt ((hb2.block _ (heap_lt B1.out)).trans B1.out)
    have HH := Lib.hid (has_first m q A l c hl w2 (w.heap.size + 1 + 1) (w.heap.size + 1) _ _ (FI1.out.below hb2) v HSUP.out x2 ((hb2.block _ (heap_lt B3.out)).trans B3.out) (HR.out.below hw2))
    clear hb2 hw2 x2
    cases hA : supB m q l v (prB v) with
    | false =>
      go_wp2
      go_ret
      exact ⟨ret_bool (by simp), HW2.out⟩
    | true =>
      go_wp2_with fail
      refine HH.out.mono ?_
      rintro e w3 ⟨rfl, hb3⟩
      go_wp2
      go_ret
      exact ⟨ret_bool (by simp), HW2.out.trans (hb3.mono HW2.out.size)⟩
end Go.Proofs.Ytphnfhonmbbddaa

/- justify.Allowed. -/
namespace Go.Proofs.Ytphnfhonmbbddaa
open Go Go.RowKit
set_option linter.unusedVariables false

/-- A vote counts. -/
def cntB (m : Int) (v u : Vt) : Bool := validB u && (u.par == v.par) && (u.slot == v.slot) && decide (u.kind ≤ 4) && hasB m u.signer
def okB (m : Int) (v : Vt) : Bool := validB v && !decide (4 < v.kind) && hasB m v.signer && hasB m v.slot
def propB (v : Vt) (l : List Vt) : Bool := l.any (poB v)
def judB (m q : Int) (v : Vt) (l : List Vt) : Bool :=
  if v.kind == 1 then v.signer == v.slot
  else if v.kind == 2 then propB v l
  else if v.kind == 3 then prevB m q l v
  else precB m q l v
/-- Allowed. -/
def allowB (m : Int) (v : Vt) (a : List Vt) : Bool := okB m v && judB m (quorum (size m)) v (a.filter (cntB m v))
set_option maxRecDepth 100000 in
set_option maxHeartbeats 2000000 in
theorem allowed_no (m : Int) (hm : W64 m) (v : Vt) (x : Value) (w : World) (h : okB m v = false) :
    Calls Try.prog 56 #[.int .i64 m, .agg v.cs, x] w fun e w' => e = .returned (.bool false) ∧ Below w.heap.size w w' := by
  have HV := Lib.hid (valid_c v (w.alloc (.cells v.cs 68)))
  have H1 := Lib.hid (fun w => has_c m v.signer w hm)
  have H2 := Lib.hid (fun w => has_c m v.slot w hm)
  clear hm
  unfold okB at h
  go_enter Try.func56, Try.ntmps56
  go_wp2_with (refine wpList_load_vt (by rfl) (.tmp 4) rfl _ _ rfl v (VtAt.new _ _ _) ?_)
  refine HV.out.mono ?_
  rintro e w2 ⟨rfl, hb2⟩
  have hv2 := (VtAt.new w v 68).blw (by simp) hb2
  have c0 : w2.cell? ⟨w.heap.size, 0, none⟩ = some (.int .i64 v.kind) := by simpa using hv2 0 _ (Vt.cs_0 v)
  have c1 : w2.cell? ⟨w.heap.size, 1, none⟩ = some (.int .i64 v.slot) := by simpa using hv2 1 _ (Vt.cs_1 v)
  have c4 : w2.cell? ⟨w.heap.size, 4, none⟩ = some (.int .i64 v.signer) := by simpa using hv2 4 _ (Vt.cs_4 v)
  have HB := Lib.hid (below1t hb2)
  clear hv2 hb2
  cases g1 : validB v with
  | false =>
    go_wp2
    go_ret
    exact ⟨rfl, HB.out⟩
  | true =>
    cases g2 : decide (4 < v.kind) with
    | true =>
      go_wp2
      go_ret
      exact ⟨rfl, HB.out⟩
    | false =>
      cases g3 : hasB m v.signer with
      | false =>
        rw [g3] at H1
        go_wp2_with (go_at_call 76; refine (H1.out _).mono ?_; rintro e w' ⟨rfl, rfl⟩)
        go_ret
        exact ⟨rfl, HB.out⟩
      | true =>
        cases g4 : hasB m v.slot with
        | true => rw [g1, g2, g3, g4] at h; cases h
        | false =>
          rw [g3] at H1
          rw [g4] at H2
          go_wp2_with fail
          refine (H1.out _).mono ?_
          rintro e w' ⟨rfl, rfl⟩
          go_wp2_with fail
          refine (H2.out _).mono ?_
          rintro e w' ⟨rfl, rfl⟩
          go_wp2
          go_ret
          exact ⟨rfl, HB.out⟩
theorem prevote_c (m q : Int) (A : Option Addr) (l : List Vt) (c : Nat) (hl : l.length ≤ 1000) (v : Vt) (hv : W64 v.support) (w : World) (hr : RdV w A l) (hh : 1 ≤ v.round ∧ v.round ≤ 12) :
    Calls Try.prog 80 #[.agg #[.int .i64 m, .int .i64 q, .slice A l.length c], .agg v.cs] w fun e W' => e = .returned (.bool (prevB m q l v)) ∧ Below w.heap.size w W' := by
  unfold prevB
  cases h : (v.round == 1) with
  | true => exact prevote_1 m q A l c hl v hv w hr h
  | false => exact prevote_2 m q A l c hl v hv w hr h hh.1 hh.2
theorem filter_next (l : List Vt) (g : Vt → Bool) (j : Nat) (h : j < l.length) : (l.take (j + 1)).filter g = (l.take j).filter g ++ (if g l[j] then [l[j]] else []) := by
  rw [List.take_succ_eq_append_getElem h, List.filter_append]
  congr 1
  cases hg : g l[j] <;> simp [hg]
theorem own_below {W W' : World} {base : Nat} {e : TypeId} {sz : Nat} {v : Value} {n : Nat} {xs : List Value} (h : W.ownsRow base e sz v n xs) (hb : Below W.heap.size W W') : W'.ownsRow base e sz v n xs := by
  refine ⟨h.1, ?_⟩
  rcases h.2 with h0 | ⟨g, cap, cur, hv, h1, h2, h3⟩
  · exact .inl h0
  · exact .inr ⟨g, cap, cur, hv, h1, (hb.block g (heap_lt h2)).trans h2, h3⟩
/-- What the loop of Allowed keeps. -/
def AllowInv (w : World) (C : Nat) (m q : Int) (v : Vt) (l : List Vt) (wr : World) : Prop :=
  ∃ vv, wr.heap[w.heap.size]? = some (.cells v.cs 68 (0, 0)) ∧ wr.heap[C]? = some (.cells #[.int .i64 m, .int .i64 q, vv] 120 (0, 0)) ∧
    wr.ownsRow (C + 1) 68 22 vv l.length (vcells l) ∧ Below w.heap.size w wr
theorem AllowInv.blw {w : World} {C : Nat} {m q : Int} {v : Vt} {l : List Vt} {W W' : World} (h : AllowInv w C m q v l W) (hb : Below W.heap.size W W') : AllowInv w C m q v l W' := by
  obtain ⟨vv, h1, h2, h3, h4⟩ := h
  exact ⟨vv, (hb.block _ (heap_lt h1)).trans h1, (hb.block _ (heap_lt h2)).trans h2, own_below h3 hb, h4.trans (hb.mono h4.size)⟩
theorem set3 {w : World} {C : Nat} {x y z z' : Value} {t : TypeId} (h : w.heap[C]? = some (.cells #[x, y, z] t (0, 0))) : (w.setCell ⟨C, 2, none⟩ z').heap[C]? = some (.cells #[x, y, z'] t (0, 0)) := by
  simp [World.setCell, Array.getElem?_modify, h]
set_option maxRecDepth 100000 in
set_option maxHeartbeats 4000000 in
theorem allowed_yes (m : Int) (hm : W64 m) (v : Vt) (hv : W64 v.support) (A : Option Addr) (a : List Vt) (c : Nat) (ha : a.length ≤ 1000) (w : World) (hr : RdV w A a) (h : okB m v = true) :
    Calls Try.prog 56 #[.int .i64 m, .agg v.cs, .slice A a.length c] w fun e w' => e = .returned (.bool (judB m (quorum (size m)) v (a.filter (cntB m v)))) ∧ Below w.heap.size w w' := by
  have HV := Lib.hid (valid_c v (w.alloc (.cells v.cs 68)))
  have H1 := Lib.hid (fun w => has_c m v.signer w hm)
  have H2 := Lib.hid (fun w => has_c m v.slot w hm)
  have HU := Lib.hid (fun (u : Vt) w => has_c m u.signer w hm)
  have HR := Lib.hid hr
  have HSUP := Lib.hid hv
  have hsz := size_le m
  have HQ := Lib.hid (fun w => quorum_c (size m) w (by unfold W64; omega))
  have HZ := Lib.hid (fun w => size_c m w)
  have hval : validB v = true := by unfold okB at h; simp only [Bool.and_eq_true] at h; exact h.1.1.1
  unfold okB at h
  rw [hval] at h
  have hk : decide (4 < v.kind) = false := by simp only [Bool.and_eq_true, Bool.true_and] at h; simpa using h.1.1
  have hsg : hasB m v.signer = true := by simp only [Bool.and_eq_true] at h; exact h.1.2
  have hst : hasB m v.slot = true := by simp only [Bool.and_eq_true] at h; exact h.2
  rw [hsg] at H1
  rw [hst] at H2
  have HVAL := Lib.hid hval
  rw [hval] at HV
  clear hm h hr hv hsg hst hval
  obtain ⟨i0, hi, hz0, hz1, hz2⟩ := info_parts info_vt
  generalize quorum (size m) = q at *
  go_enter Try.func56, Try.ntmps56
  go_wp2_with (refine wpList_load_vt (by rfl) (.tmp 4) rfl _ _ rfl v (VtAt.new _ _ _) ?_)
  refine HV.out.mono ?_
  rintro e w2 ⟨rfl, hb2⟩
  have x2 : w2.heap[w.heap.size]? = some (.cells v.cs 68 (0, 0)) := (hb2.block _ (by simp)).trans (heap_alloc_last w _)
  have hv2 := VtAt.of_blk x2
  have c0 : w2.cell? ⟨w.heap.size, 0, none⟩ = some (.int .i64 v.kind) := by simpa using hv2 0 _ (Vt.cs_0 v)
  have c1 : w2.cell? ⟨w.heap.size, 1, none⟩ = some (.int .i64 v.slot) := by simpa using hv2 1 _ (Vt.cs_1 v)
  have c4 : w2.cell? ⟨w.heap.size, 4, none⟩ = some (.int .i64 v.signer) := by simpa using hv2 4 _ (Vt.cs_4 v)
  have X2 := Lib.hid x2
  have HB := Lib.hid (below1t hb2)
  clear hv2 hb2 x2
  go_wp2_with fail
  refine (H1.out _).mono ?_
  rintro e w' ⟨rfl, rfl⟩
  go_wp2_with fail
  refine (H2.out _).mono ?_
  rintro e w' ⟨rfl, rfl⟩
  go_wp2_with fail
  refine (HZ.out _).mono ?_
  rintro e w' ⟨rfl, rfl⟩
  go_wp2_with fail
  refine (HQ.out _).mono ?_
  rintro e w' ⟨rfl, rfl⟩
  go_wp2
  have HI0 : Hid (AllowInv w w2.heap.size m q v [] (w2.alloc (.cells #[.int .i64 m, .int .i64 q, .slice none 0 0] 120))) :=
    ⟨_, (Below.heap_alloc _ _ _ (heap_lt X2.out)).trans X2.out, heap_alloc_last _ _, World.ownsRow_nil _ _ _ _, HB.out.alloc HB.out.size _⟩
  clear c0 c1 c4
  go_loopw [39] (fun i wr => ∃ j : Nat, j ≤ a.length ∧ i = .int .i64 j ∧ AllowInv w w2.heap.size m q v ((a.take j).filter (cntB m v)) wr) (fun i _ => a.length - (intOf i).toNat)
  case atStart => exact ⟨0, Nat.zero_le _, rfl, HI0.out⟩
  case round =>
    obtain ⟨j, hj, rfl, hinv⟩ := hrel
    have INV := Lib.hid hinv
    clear hinv
    by_cases hlt : j < a.length
    · obtain ⟨vv, k1, k2, k3, k4⟩ := INV.out
      obtain ⟨b, off, rfl, hb, hvt⟩ := (HR.out.below k4) j hlt
      have HVT := Lib.hid hvt
      have HN := Lib.hid (filter_next a (cntB m v) j hlt)
      have hul : ((a.take j).filter (cntB m v)).length ≤ 1000 := Nat.le_trans (List.length_filter_le _ _) (Nat.le_trans (List.length_take_le _ _) (by omega))
      have hcu : cntB m v a[j] = (validB a[j] && (a[j].par == v.par) && (a[j].slot == v.slot) && decide (a[j].kind ≤ 4) && hasB m a[j].signer) := rfl
      have HCU := Lib.hid hcu
      have HUJ := Lib.hid (HU.out a[j])
      have HVU := Lib.hid (valid_c a[j] (wr.alloc (.cells a[j].cs 68)))
      clear hvt k1 k2 k3 k4 hcu
      generalize (a.take j).filter (cntB m v) = l at *
      generalize a[j] = u at *
      go_wp2_with (first
        | (refine wpList_load_vt (by rfl) (.tmp 41) rfl _ _ rfl u HVT.out ?_)
        | (refine wpList_store_vt (by rfl) (.tmp 9) (.tmp 42) rfl wr _ rfl rfl rfl u rfl ?_)
        | (refine wpList_load_vt (by rfl) (.tmp 9) rfl _ _ rfl u (VtAt.new _ _ _) ?_))
      refine HVU.out.mono ?_
      rintro e w3 ⟨rfl, hb3⟩
      have hu3 := (VtAt.new wr u 68).blw (by simp) hb3
      have hb3' := below1t hb3
      have INV3 := Lib.hid (AllowInv.blw INV.out hb3')
      obtain ⟨vv, k1, k2, k3, k4⟩ := INV3.out
      have hv3 := VtAt.of_blk k1
      have PU := Lib.hid hu3.parR
      have PV := Lib.hid hv3.parR
      have HU3 := Lib.hid hu3
      have hE := fun w d => run_equalIn_nm w d u.par v.par
      have d0 : w3.cell? ⟨wr.heap.size, 0, none⟩ = some (.int .i64 u.kind) := by simpa using hu3 0 _ (Vt.cs_0 u)
      have d1 : w3.cell? ⟨wr.heap.size, 1, none⟩ = some (.int .i64 u.slot) := by simpa using hu3 1 _ (Vt.cs_1 u)
      have d4 : w3.cell? ⟨wr.heap.size, 4, none⟩ = some (.int .i64 u.signer) := by simpa using hu3 4 _ (Vt.cs_4 u)
      have e1 : w3.cell? ⟨w.heap.size, 1, none⟩ = some (.int .i64 v.slot) := by simpa using hv3 1 _ (Vt.cs_1 v)
      have K1 := Lib.hid k1
      have K2 := Lib.hid k2
      have K3 := Lib.hid k3
      have K4 := Lib.hid k4
      clear hu3 hv3 hb3 hb3' k1 k2 k3 k4
      cases g1 : validB u with
      | false =>
        go_wp2
        go_roundw
        case rel => exact ⟨j + 1, by omega, by go_num, by rw [HN.out, HCU.out, g1]; simpa using INV3.out⟩
        case measure => simp [intOf]; omega
      | true =>
        cases g2 : (u.par == v.par) with
        | false =>
          rw [g2] at hE
          go_wp2_with (first
            | (refine wpList_load_nm (by rfl) (.tmp 46) rfl _ _ rfl u.par PU.out ?_)
            | (refine wpList_load_nm (by rfl) (.tmp 48) rfl _ _ rfl v.par PV.out ?_))
          go_roundw
          case rel => exact ⟨j + 1, by omega, by go_num, by rw [HN.out, HCU.out, g1, g2]; simpa using INV3.out⟩
          case measure => simp [intOf]; omega
        | true =>
          rw [g2] at hE
          cases g3 : (u.slot == v.slot) with
          | false =>
            go_wp2_with (first
              | (refine wpList_load_nm (by rfl) (.tmp 46) rfl _ _ rfl u.par PU.out ?_)
              | (refine wpList_load_nm (by rfl) (.tmp 48) rfl _ _ rfl v.par PV.out ?_))
            go_roundw
            case rel => exact ⟨j + 1, by omega, by go_num, by rw [HN.out, HCU.out, g1, g2, g3]; simpa using INV3.out⟩
            case measure => simp [intOf]; omega
          | true =>
            cases g4 : decide (u.kind ≤ 4) with
            | false =>
              go_wp2_with (first
                | (refine wpList_load_nm (by rfl) (.tmp 46) rfl _ _ rfl u.par PU.out ?_)
                | (refine wpList_load_nm (by rfl) (.tmp 48) rfl _ _ rfl v.par PV.out ?_))
              go_roundw
              case rel => exact ⟨j + 1, by omega, by go_num, by rw [HN.out, HCU.out, g1, g2, g3, g4]; simpa using INV3.out⟩
              case measure => simp [intOf]; omega
            | true =>
              cases g5 : hasB m u.signer with
              | false =>
                rw [g5] at HUJ
                go_wp2_with (first
                  | (refine wpList_load_nm (by rfl) (.tmp 46) rfl _ _ rfl u.par PU.out ?_)
                  | (refine wpList_load_nm (by rfl) (.tmp 48) rfl _ _ rfl v.par PV.out ?_)
                  | (go_at_call 76; refine (HUJ.out _).mono ?_; rintro e w' ⟨rfl, rfl⟩))
                go_roundw
                case rel => exact ⟨j + 1, by omega, by go_num, by rw [HN.out, HCU.out, g1, g2, g3, g4, g5]; simpa using INV3.out⟩
                case measure => simp [intOf]; omega
              | true =>
                rw [g5] at HUJ
                obtain ⟨A3, c3, hvv⟩ := own_form K3.out
                subst hvv
                obtain ⟨y1, y2, y3⟩ := cells3 K2.out
                have lC := heap_lt K2.out
                have hsz2 : w2.heap.size + 1 ≤ (w3.alloc (.cells u.cs 68)).heap.size := by simp; omega
                have hc1 : ∀ (jj : Nat) (x : Value), u.cs.toList[jj]? = some x → (w3.alloc (.cells u.cs 68)).cell? ((⟨w3.heap.size, 0, none⟩ : Addr).add jj) = some x := fun jj x hx => by
                  rw [Addr.add_mid]; exact (VtAt.new w3 u 68) jj x (by simpa using hx)
                have hc2 : ∀ x ∈ u.cs.toList, x.oneCell' = true := fun x hx => vcells_one [u] x (by simpa [vcells] using hx)
                have hc3 : l.length + 1 ≤ maxLen := by unfold maxLen; omega
                have hc4 : (l.length + 1) * 64 ≤ 140737488355328 := by omega
                have C1 := Lib.hid hc1
                have C2 := Lib.hid hc2
                have C3 := Lib.hid hc3
                have C4 := Lib.hid hc4
                clear hc1 hc2 hc3 hc4
                go_wp2_with (first
                  | (refine wpList_load_nm (by rfl) (.tmp 46) rfl _ _ rfl u.par PU.out ?_)
                  | (refine wpList_load_nm (by rfl) (.tmp 48) rfl _ _ rfl v.par PV.out ?_)
                  | (go_at_call 76; refine (HUJ.out _).mono ?_; rintro e w' ⟨rfl, rfl⟩)
                  | (refine wpList_load_vt (by rfl) (.tmp 9) rfl _ _ rfl u HU3.out ?_)
                  | (refine wpList_lit_vt rfl (.tmp 72) rfl u rfl ?_)
                  | (at_builtin; (refine wpList_append_own _ rfl (.tmp 71) (.tmp 73) 55 rfl (w2.heap.size + 1) 68 i0 vtZ 22 64 Try.underlying55 hi hz0 hz1 hz2 rfl (by decide) _ _ _ rfl (K3.out.alloc _) ⟨w3.heap.size, 0, none⟩ 1 1 u.cs.toList rfl rfl C1.out C2.out C3.out C4.out hsz2 ?_); intro v' w5 hown' hgrow _; obtain ⟨g', cap', rfl⟩ := ownsRow_succ hown'; have q2 : w5.heap[w2.heap.size]? = _ := (hgrow.block w2.heap.size (by simp; omega) (fun e => by have := own_base K3.out _ e.symm; omega)).trans ((Below.heap_alloc _ _ _ lC).trans K2.out); obtain ⟨r1, r2, r3⟩ := cells3 q2; have f3 : w5.frozen? ⟨w2.heap.size, 2, none⟩ = false := (by simp [World.frozen?, q2]); have Q2 := Lib.hid q2; clear q2))
                go_roundw
                case rel =>
                  refine ⟨j + 1, by omega, by go_num, ?_⟩
                  rw [HN.out, HCU.out, g1, g2, g3, g4, g5]
                  have hgB : ∀ k, (Value.slice A3 l.length c3).ownBlock = some k → w2.heap.size + 1 ≤ k := own_base K3.out
                  have l1 := heap_lt K1.out
                  have hlt1 : w.heap.size < w2.heap.size := heap_lt X2.out
                  have hB5 : Below w.heap.size w w5 := (K4.out.alloc K4.out.size _).grown hgrow (by have := K4.out.size; simp; omega) (fun k hk => by have := hgB k hk; omega)
                  have p1 : w5.heap[w.heap.size]? = some (.cells v.cs 68 (0, 0)) := (hgrow.block w.heap.size (by simp; omega) (fun e => by have := hgB _ e.symm; omega)).trans ((Below.heap_alloc _ _ _ l1).trans K1.out)
                  have ho5 := own_base hown'
                  refine ⟨.slice (some ⟨g', 0, none⟩) (l.length + 1) cap', ?_, set3 Q2.out, ?_, hB5.setCell (p := ⟨w2.heap.size, 2, none⟩) (by show w.heap.size ≤ w2.heap.size; omega) _⟩
                  · exact (Below.heap_setCell w5 ⟨w2.heap.size, 2, none⟩ _ w.heap.size (by show w.heap.size ≠ w2.heap.size; omega)).trans p1
                  · have hg' := ho5 g' rfl
                    have hk : (w5.setCell ⟨w2.heap.size, 2, none⟩ (.slice (some ⟨g', 0, none⟩) (l.length + 1) cap')).ownsRow (w2.heap.size + 1) 68 22 (.slice (some ⟨g', 0, none⟩) (l.length + 1) cap') (l.length + 1) (vcells l ++ u.cs.toList) := by
                      refine ⟨hown'.1, ?_⟩
                      rcases hown'.2 with ⟨h0, _⟩ | ⟨g2, cap2, cur, hv, h1, h2, h3⟩
                      · cases h0
                      · injection hv with hA hn hc
                        injection hA with hA
                        injection hA with hA
                        subst hA
                        exact .inr ⟨g', cap2, cur, by rw [hc], h1, (Below.heap_setCell w5 ⟨w2.heap.size, 2, none⟩ _ g' (by show g' ≠ w2.heap.size; omega)).trans h2, h3⟩
                    simpa [vcells_snoc] using hk
                case measure => simp [intOf]; omega
    · have e : a.take j = a := List.take_of_length_le (by omega)
      rw [e] at INV
      obtain ⟨vv, k1, k2, k3, k4⟩ := INV.out
      obtain ⟨A3, c3, hvv⟩ := own_form k3
      subst hvv
      obtain ⟨y1, y2, y3⟩ := cells3 k2
      have hv3 := VtAt.of_blk k1
      have d0 : wr.cell? ⟨w.heap.size, 0, none⟩ = some (.int .i64 v.kind) := by simpa using hv3 0 _ (Vt.cs_0 v)
      have d1 : wr.cell? ⟨w.heap.size, 1, none⟩ = some (.int .i64 v.slot) := by simpa using hv3 1 _ (Vt.cs_1 v)
      have d4 : wr.cell? ⟨w.heap.size, 4, none⟩ = some (.int .i64 v.signer) := by simpa using hv3 4 _ (Vt.cs_4 v)
      have hfl : (a.filter (cntB m v)).length ≤ 1000 := Nat.le_trans (List.length_filter_le _ _) ha
      have hrd := RdV.of_own k3
      have HP := Lib.hid (show Calls Try.prog 77 #[.agg #[.int .i64 m, .int .i64 q, .slice A3 (a.filter (cntB m v)).length c3], .func (.func 78) #[] #[.pointer (some ⟨w.heap.size, 0, none⟩)]] wr (fun e W' => e = .returned (.bool (propB v (a.filter (cntB m v)))) ∧ Below wr.heap.size wr W') from has_pure m q A3 _ c3 hfl _ _ wr (fits_propose _ w.heap.size v k1) hrd)
      have HC := Lib.hid (precommit_c m q A3 _ c3 hfl v HSUP.out wr hrd)
      have HPV := Lib.hid (fun hh => prevote_c m q A3 _ c3 hfl v HSUP.out wr hrd hh)
      have HV3 := Lib.hid hv3
      have K4 := Lib.hid k4
      clear k1 k2 k3 k4 hrd hv3 e INV
      cases g1 : (v.kind == 1) with
      | true =>
        go_wp2
        go_ret
        exact ⟨ret_bool (by unfold judB; rw [g1]; rfl), K4.out⟩
      | false =>
        cases g2 : (v.kind == 2) with
        | true =>
          go_wp2_with fail
          refine HP.out.mono ?_
          rintro e w4 ⟨rfl, hb4⟩
          go_wp2
          go_ret
          exact ⟨ret_bool (by unfold judB; rw [g1, g2]; rfl), K4.out.trans (hb4.mono K4.out.size)⟩
        | false =>
          cases g3 : (v.kind == 3) with
          | true =>
            have hrr : 1 ≤ v.round ∧ v.round ≤ 12 := by
              have := HVAL.out
              unfold validB restB at this
              rw [g1, g2, g3] at this
              simp [btw] at this
              exact ⟨by omega, by omega⟩
            have HPW := Lib.hid (HPV.out hrr)
            clear hrr
            go_wp2_with (refine wpList_load_vt (by rfl) (.tmp 4) rfl _ _ rfl v HV3.out ?_)
            refine HPW.out.mono ?_
            rintro e w4 ⟨rfl, hb4⟩
            go_wp2
            go_ret
            exact ⟨ret_bool (by unfold judB; rw [g1, g2, g3]; rfl), K4.out.trans (hb4.mono K4.out.size)⟩
          | false =>
            go_wp2_with (refine wpList_load_vt (by rfl) (.tmp 4) rfl _ _ rfl v HV3.out ?_)
            refine HC.out.mono ?_
            rintro e w4 ⟨rfl, hb4⟩
            go_wp2
            go_ret
            exact ⟨ret_bool (by unfold judB; rw [g1, g2, g3]; rfl), K4.out.trans (hb4.mono K4.out.size)⟩
theorem allowed_c (m : Int) (hm : W64 m) (v : Vt) (hv : W64 v.support) (A : Option Addr) (a : List Vt) (c : Nat) (ha : a.length ≤ 1000) (w : World) (hr : RdV w A a) :
    Calls Try.prog 56 #[.int .i64 m, .agg v.cs, .slice A a.length c] w fun e w' => e = .returned (.bool (allowB m v a)) ∧ Below w.heap.size w w' := by
  unfold allowB
  cases h : okB m v with
  | false => simpa using allowed_no m hm v _ w h
  | true => simpa using allowed_yes m hm v hv A a c ha w hr h
end Go.Proofs.Ytphnfhonmbbddaa

/- Plain laws on Allowed: it grows with the list. -/
namespace Go.Proofs.Ytphnfhonmbbddaa
open Go Go.RowKit
set_option linter.unusedVariables false

theorem sameB_iff (a b : Vt) : sameB a b = true ↔ a.choice = b.choice ∧ a.val = b.val := by simp [sameB]
theorem unl_iff (ms : List Vt) : unl ms = true ↔ ∃ x ∈ ms, ∃ y ∈ ms, sameB x y = false := by
  cases ms with
  | nil => simp [unl]
  | cons u r =>
    constructor
    · intro h
      simp only [unl, List.any_eq_true, Bool.not_eq_true'] at h
      obtain ⟨y, hy, h⟩ := h
      exact ⟨u, by simp, y, by simp [hy], h⟩
    · rintro ⟨x, hx, y, hy, hxy⟩
      simp only [unl, List.any_eq_true, Bool.not_eq_true']
      by_cases h1 : sameB u x = true
      · by_cases h2 : sameB u y = true
        · exfalso
          rw [sameB_iff] at h1 h2
          have : sameB x y = true := by rw [sameB_iff]; exact ⟨h1.1.symm.trans h2.1, h1.2.symm.trans h2.2⟩
          rw [this] at hxy; cases hxy
        · rcases List.mem_cons.1 hy with rfl | hy'
          · exact absurd (sameB_self y) h2
          · exact ⟨y, hy', by simpa using h2⟩
      · rcases List.mem_cons.1 hx with rfl | hx'
        · exact absurd (sameB_self x) h1
        · exact ⟨x, hx', by simpa using h1⟩
theorem any_mono {l l' : List Vt} (h : ∀ u ∈ l, u ∈ l') (p : Vt → Bool) (ha : l.any p = true) : l'.any p = true := by
  rw [List.any_eq_true] at *
  obtain ⟨x, hx, hp⟩ := ha
  exact ⟨x, h x hx, hp⟩
theorem unl_mono {l l' : List Vt} (h : ∀ u ∈ l, u ∈ l') (ha : unl l = true) : unl l' = true := by
  rw [unl_iff] at *
  obtain ⟨x, hx, y, hy, e⟩ := ha
  exact ⟨x, h x hx, y, h y hy, e⟩
theorem filter_sub {l l' : List Vt} (h : ∀ u ∈ l, u ∈ l') (p : Vt → Bool) : ∀ u ∈ l.filter p, u ∈ l'.filter p := by
  intro u hu
  rw [List.mem_filter] at *
  exact ⟨h u hu.1, hu.2⟩
theorem supB_mono {m q : Int} {l l' : List Vt} (h : ∀ u ∈ l, u ∈ l') {v : Vt} {p : Vt → Bool} (hs : supB m q l v p = true) : supB m q l' v p = true := by
  unfold supB at *
  rw [Bool.and_eq_true] at *
  refine ⟨hs.1, ?_⟩
  rw [List.all_eq_true] at *
  intro i hi
  exact any_mono h _ (hs.2 i hi)
theorem prevB_mono {m q : Int} {l l' : List Vt} (h : ∀ u ∈ l, u ∈ l') {v : Vt} (hs : prevB m q l v = true) : prevB m q l' v = true := by
  unfold prevB at *
  split at hs
  · rename_i h1
    rw [if_pos h1]
    rw [Bool.or_eq_true] at *
    rcases hs with hs | hs
    · exact .inl hs
    · exact .inr (supB_mono h hs)
  · rename_i h1
    rw [if_neg h1]
    rw [Bool.or_eq_true, Bool.and_eq_true, Bool.and_eq_true] at *
    rcases hs with ⟨a, b⟩ | ⟨a, b⟩
    · exact .inl ⟨supB_mono h a, any_mono h _ b⟩
    · exact .inr ⟨supB_mono h a, any_mono h _ b⟩
theorem precB_mono {m q : Int} {l l' : List Vt} (h : ∀ u ∈ l, u ∈ l') {v : Vt} (hs : precB m q l v = true) : precB m q l' v = true := by
  unfold precB at *
  split at hs
  · rename_i h1
    rw [if_pos h1]
    exact supB_mono h hs
  · rename_i h1
    rw [if_neg h1]
    rw [Bool.and_eq_true] at *
    exact ⟨supB_mono h hs.1, unl_mono (filter_sub h _) hs.2⟩
theorem judB_mono {m q : Int} {l l' : List Vt} (h : ∀ u ∈ l, u ∈ l') {v : Vt} (hs : judB m q v l = true) : judB m q v l' = true := by
  unfold judB at *
  split at hs
  · rename_i h1; rw [if_pos h1]; exact hs
  · rename_i h1
    rw [if_neg h1]
    split at hs
    · rename_i h2; rw [if_pos h2]; exact any_mono h _ hs
    · rename_i h2
      rw [if_neg h2]
      split at hs
      · rename_i h3; rw [if_pos h3]; exact prevB_mono h hs
      · rename_i h3; rw [if_neg h3]; exact precB_mono h hs
/-- A vote that is allowed by a list is allowed by every list that contains it. -/
theorem allowB_mono {m : Int} {v : Vt} {a b : List Vt} (h : ∀ u ∈ a, u ∈ b) (hs : allowB m v a = true) : allowB m v b = true := by
  unfold allowB at *
  rw [Bool.and_eq_true] at *
  exact ⟨hs.1, judB_mono (filter_sub h _) hs.2⟩
end Go.Proofs.Ytphnfhonmbbddaa
