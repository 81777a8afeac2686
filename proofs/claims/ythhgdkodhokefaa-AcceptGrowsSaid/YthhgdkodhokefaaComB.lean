/- The iterator over the members of a mask, and what ranges over it: IDs, Lowest, Select. -/
import Derived.RangeFuncNested
import Derived.RangeFuncBound
import Derived.RangeFuncCalls
import Derived.RangeFuncLeaves
import Derived.RangeFuncBox
import Derived.Shelf.Abstract
import Derived.Shelf.RegionOpen
import Derived.WalkKit
import Derived.OwnWalkIn
import Derived.TacticsInMore
import Derived.LoopNIn
import Derived.LoopIn
import Derived.Maps.AppendAt
import Derived.Test.YthhgdkodhokefaaComA
namespace Go.Proofs.Ythhgdkodhokefaa
open Go Go.RowKit Go.Shelf
set_option linter.unusedVariables false
attribute [local go_sem] Oper.semAt_some

theorem boxed_eq {W W' : World} {B : Nat} {t : TypeId} {v : Value} (h : Boxed W B t v) (e : W'.heap[B]? = W.heap[B]?) : Boxed W' B t v := by
  unfold Boxed at *
  rw [e]; exact h
set_option maxRecDepth 100000 in
set_option maxHeartbeats 1000000 in
theorem members1_in (n : Nat) (hn : 1 ≤ n) (l Bn : Nat) (m : Int) (hm : W64 m) (J Jx : List (Fin 10) → World → Prop)
    (hY : ∀ pre (x : Fin 10) W, J pre W → pre.length < 10 → YieldAt Fence.wide (n - 1) Try.prog l #[.int .i64 (x.val : Int)] W fun e W' =>
      (e = .returned (.bool true) ∧ J (pre ++ [x]) W' ∧ W'.heap[Bn]? = W.heap[Bn]?) ∨ (e = .returned (.bool false) ∧ Jx (pre ++ [x]) W'))
    (W : World) (hB : Boxed W Bn 22 (.int .i64 m)) (h0 : J [] W) :
    CallsIn Fence.wide n Try.prog 119 #[.func (.yield l) #[] #[], .pointer (some ⟨Bn, 0, none⟩)] W fun e W' => (∃ v, e = .returned v) ∧
      ((∃ ys, ys = idsF m ∧ J ys W') ∨ (∃ pre, pre <+: idsF m ∧ Jx pre W')) := by
  refine callsIn_of_wp Try.func119 rfl trivial ?_ rfl
  simp only [Try.ntmps119, List.size_toArray, List.length_cons, List.length_nil, Nat.reduceAdd, Nat.reduceSub, Array.replicate_succ, Array.replicate_zero, List.push_toArray, List.append_toArray, List.nil_append, List.cons_append]
  gi_wp2
  gi_loopw [4] (fun i wr => ∃ k : Nat, k ≤ 10 ∧ i = .int .i64 k ∧ Boxed wr Bn 22 (.int .i64 m) ∧ J (idsTo m k) wr)
    (fun i wr => 10 - (intOf i).toNat)
  case atStart =>
    exact ⟨0, by omega, rfl, hB, by rw [idsTo_zero]; exact h0⟩
  case round =>
    obtain ⟨k, hk, rfl, hb, hJ⟩ := hrel
    have hc := hb.cell
    by_cases hk' : k < 10
    · by_cases hbit : mb m k = true
      · obtain ⟨fn, tmps, assign, body, hy, hR⟩ := hY (idsTo m k) ⟨k, hk'⟩ wr hJ (idsTo_len m k hk')
        dsimp only at hy
        have hh : hasB m (k : Int) = true := by rw [hasB_nat m k hk']; exact hbit
        have hH := has_c m (k : Int) wr hm
        rw [hh] at hH
        clear hh
        have HH := Lib.hid hH
        clear hH
        gi_wp2_with (refine ⟨trivial, ?_⟩; gi_at_call 21; refine (callsIn_wide.2 HH.out).mono ?_; rintro e w' ⟨rfl, rfl⟩)
        refine hR.mono ?_
        rintro e W3 (⟨rfl, hJ3, hk3⟩ | ⟨rfl, hJx3⟩)
        · gi_wp2
          go_roundw
          case rel => exact ⟨k + 1, by omega, by go_num, boxed_eq hb hk3, by rw [idsTo_hit m k hk' hbit]; exact hJ3⟩
          case measure => simp [intOf]; omega
        · gi_wp2
          refine bodyPost_ret (results_none rfl _ _ _) rfl ?_
          exact ⟨⟨_, rfl⟩, .inr ⟨idsTo m (k + 1), idsTo_pre m (k + 1), by rw [idsTo_hit m k hk' hbit]; exact hJx3⟩⟩
      · have hh : hasB m (k : Int) = false := by rw [hasB_nat m k hk']; simpa using hbit
        have hH := has_c m (k : Int) wr hm
        rw [hh] at hH
        clear hh
        have HH := Lib.hid hH
        clear hH
        gi_wp2_with (refine ⟨trivial, ?_⟩; gi_at_call 21; refine (callsIn_wide.2 HH.out).mono ?_; rintro e w' ⟨rfl, rfl⟩)
        refine ⟨fun _ h => (by cases h), ?_⟩
        gi_wp2
        go_roundw
        case rel => exact ⟨k + 1, by omega, by go_num, hb, by rw [idsTo_miss m k hk' (by simpa using hbit)]; exact hJ⟩
        case measure => simp [intOf]; omega
    · obtain rfl : k = 10 := by omega
      rw [idsTo_ten] at hJ
      gi_wp2
      go_end0
      exact ⟨⟨_, rfl⟩, .inl ⟨_, rfl, hJ⟩⟩
/-- What a round must keep: the block that holds the mask. -/
def KeepsBlock (B : Nat) (W W' : World) : Prop := W'.heap[B]? = W.heap[B]?
theorem keepsBlock_t {B : Nat} {X Y Z : World} (h : KeepsBlock B X Y) (k : KeepsBlock B Y Z) : KeepsBlock B X Z := Eq.trans k h
theorem keepsBlock_b {B : Nat} {w : World} (hn : B < w.heap.size) (W : World) (l : Nat) (o o' : Obj) (hl : w.heap.size ≤ l) (h : W.heap[l]? = some o) (_ : o.isCells = false) (_ : o.isWalk = false) : KeepsBlock B W (W.putObj l o') :=
  World.putObj_heap_other (by omega)
theorem members_stops (n : Nat) (hn : 1 ≤ n) (Bn : Nat) (m : Int) (hm : W64 m) (w : World) (hB : Boxed w Bn 22 (.int .i64 m)) :
    SeqStopsK Fence.wide n Try.prog 119 #[.pointer (some ⟨Bn, 0, none⟩)] (fun x : Fin 10 => #[Value.int .i64 (x.val : Int)]) (KeepsBlock Bn) (fun ys => ys = idsF m) (fun pre => pre <+: idsF m) 10 w := fun l J Jx W hW _ _ hY h0 =>
  members1_in n hn l Bn m hm J Jx hY W (boxed_eq hB (hW.block Bn hB.lt)) h0
set_option maxHeartbeats 1000000 in
theorem members_c (m : Int) (w : World) :
    Calls Try.prog 113 #[.int .i64 m] w fun e w' => e = .returned (.func (.func 119) #[] #[.pointer (some ⟨w.heap.size, 0, none⟩)]) ∧ w' = w.alloc (.cells #[.int .i64 m] 22) := by
  go_enter Try.func113, Try.ntmps113
  go_wp2
  go_ret
  exact ⟨rfl, rfl⟩
theorem info_int : (Try.prog.info? 3).map (fun i => (i.zero, i.size, i.bytes)) = some (some (.int .i64 0), 1, 8) := by kernel_rfl
set_option maxRecDepth 100000 in
set_option maxHeartbeats 2000000 in
theorem ids_c (m : Int) (hm : W64 m) (w : World) :
    Calls Try.prog 91 #[.int .i64 m] w fun e W' => ∃ v, e = .returned v ∧ W'.ownsRow w.heap.size 3 1 v (ids m).length ((ids m).map fun i : Nat => Value.int .i64 (i : Int)) ∧ Below w.heap.size w W' := by
  refine (callsIn_wide (n := 5)).1 ?_
  obtain ⟨i0, hi, hz0, hz1, hz2⟩ := info_parts info_int
  refine callsIn_of_wp_marks Try.func91 rfl trivial ?_ rfl
  simp only [Try.ntmps91, List.size_toArray, List.length_cons, List.length_nil, Nat.reduceAdd, Nat.reduceSub, Array.replicate_succ, Array.replicate_zero, List.push_toArray, List.append_toArray, List.nil_append, List.cons_append]
  gi_wp2_with (refine ⟨trivial, ?_⟩; gi_at_call 113; refine (callsIn_wide.2 (members_c m _)).mono ?_; rintro e w' ⟨rfl, rfl⟩)
  have bO := Boxed.new w 59 (.slice none 0 0)
  have bN := Boxed.new (w.alloc (.cells #[.slice none 0 0] 59)) 22 (.int .i64 m)
  rw [World.size_alloc] at bN
  have hB0 : Below w.heap.size w ((w.alloc (.cells #[.slice none 0 0] 59)).alloc (.cells #[.int .i64 m] 22)) := ((Below.refl _ w).alloc (Nat.le_refl _) _).alloc (by simp) _
  refine wpIn_rangeFunc_ownG rfl (by omega) (gf := 119) (lb := #[.pointer (some ⟨w.heap.size + 1, 0, none⟩)]) rfl trivial (enters_of Try.func119 (by kernel_rfl) rfl)
    (members_stops 4 (by omega) (w.heap.size + 1) m hm _ bN) keepsBlock_t (keepsBlock_b (by simp)) (Below.refl _ _) (fun _ => rfl)
    (fun pre W => (∃ v, Boxed W w.heap.size 59 v ∧ W.ownsRow w.heap.size 3 1 v pre.length (pre.map fun i : Fin 10 => Value.int .i64 (i.val : Int)) ∧ True) ∧ (Boxed W (w.heap.size + 1) 22 (.int .i64 m) ∧ Below w.heap.size w W))
    (fun _ _ _ => False)
    (OwnFrom.and (Own.from (holdsRow_own w.heap.size w.heap.size 59 3 1 (fun pre : List (Fin 10) => pre.length) (fun pre => pre.map fun i : Fin 10 => Value.int .i64 (i.val : Int)) (fun pre v => True)) _) (OwnFrom.and (Own.from (boxed_own _ _ _) _) (ownFrom_below (Nat.le_refl _) (by simp; omega))))
    (fun _ _ _ _ _ hs _ _ => hs)
    ⟨⟨_, bO.alloc _, World.ownsRow_nil _ _ _ _, trivial⟩, bN, hB0⟩
    (fun x => { tmps := #[.int .i64 m, undef, .slice none 0 0, .pointer (some ⟨w.heap.size, 0, none⟩), .int .i64 (x.val : Int), .int .i64 m, .func (.func 119) #[] #[.pointer (some ⟨w.heap.size + 1, 0, none⟩)], .int .i64 (x.val : Int), undef, undef, undef, undef, undef], defers := [] }) ?assign ?body ?done ?stop
  case assign =>
    intro l x W K hK
    gi_wp2
    exact hK
  case body =>
    rintro l pre x W ⟨⟨v, hv, hrow, _⟩, bM, hB⟩ hlt
    have hc := hv.cell
    gi_wp2_with (gi_at_builtin; refine wpListIn_append_own _ rfl _ _ 59 rfl w.heap.size 3 i0 (.int .i64 0) 1 8 Try.underlying59 hi hz0 hz1 hz2 rfl (by decide) _ _ _ rfl (hrow.alloc _) ⟨W.heap.size, 0, none⟩ 1 1 [.int .i64 (x.val : Int)] rfl rfl (cell_one_new _ _ _) (by simp [Value.oneCell']) (by unfold maxLen; omega) (by omega) (by have := hB.size; simp; omega) ?_; intro v' w1 hown' hgrow _; obtain ⟨g', cap', rfl⟩ := ownsRow_succ hown'; obtain ⟨hv1, hv2, hr2, hk2, hb2⟩ := hv.appended (by decide) hrow hB.size (Nat.le_refl _) hown' hgrow; have hm1 := ((bM.alloc _).kept hgrow (bM.not_row (by decide) hrow)).kept (grownBy_setCell' w1 w.heap.size (.slice (some ⟨g', 0, none⟩) (pre.length + 1) cap')) (by simp) ; have hc1 := hv1.cell; have hf1 := hv1.frozen)
    exact ⟨hk2.from _, Eq.trans hm1 bM.symm, ⟨_, hv2, by simpa using hr2, trivial⟩, hm1, hB.trans hb2⟩
  case done =>
    rintro D ys W hD rfl ⟨⟨v, hv, hrow, _⟩, bM, hB⟩ hK
    have hc := hv.cell
    gi_wp2
    refine ⟨by simp, .inl ⟨_, _, rfl, run_takeDeferred hK, ?_⟩⟩
    refine ⟨_, results_tmp rfl _ _ _, v, rfl, ?_, hB.trans (belowK_b (w := w) (Nat.le_refl _) W D _ _ (by simp at hD; omega) hK rfl rfl)⟩
    have := ownsRow_putObj hrow (.deferred none) hK rfl
    rw [← idsF_map, List.length_map, List.map_map]
    exact this
  case stop =>
    rintro D c pre W _ _ h _
    exact h.elim
end Go.Proofs.Ythhgdkodhokefaa
