/- Lowest and Select of the program. -/
import Derived.Test.YteejjjlheacamaaComB
namespace Go.Proofs.Yteejjjlheacamaa
open Go Go.RowKit Go.Shelf
set_option linter.unusedVariables false
attribute [local go_sem] Oper.semAt_some

theorem low_all (m k : Int) (h : (idsF m).length ≤ k.toNat) : ofIds ((idsF m).map (·.val)) = lowest m k := by
  unfold lowest
  rw [← idsF_map, List.take_of_length_le (by simpa using h)]
theorem low_part (m k : Int) (pre : List (Fin 10)) (x : Fin 10) (h : pre ++ [x] <+: idsF m) (hl : pre.length = k.toNat) : ofIds (pre.map (·.val)) = lowest m k := by
  unfold lowest
  rw [← idsF_map, ← List.map_take, ← hl]
  have : pre <+: idsF m := List.IsPrefix.trans (List.prefix_append _ _) h
  rw [← List.prefix_iff_eq_take.1 this]
theorem wrap_pow (x : Nat) (h : x < 10) : wrap64 (2 ^ x) = 2 ^ x := by
  have h1 : (2 : Int) ^ x ≤ 2 ^ 10 := by
    have : (2 : Nat) ^ x ≤ 2 ^ 10 := Nat.pow_le_pow_right (by omega) (by omega)
    exact_mod_cast this
  have h0 : (0 : Int) < 2 ^ x := Int.pow_pos (by omega)
  unfold wrap64
  omega
set_option maxRecDepth 100000 in
set_option maxHeartbeats 2000000 in
theorem lowest_c (m k : Int) (hm : W64 m) (hk : W64 k) (w : World) :
    Calls Try.prog 29 #[.int .i64 m, .int .i64 k] w fun e W' => e = .returned (.int .i64 (lowest m k)) ∧ Below w.heap.size w W' := by
  refine (callsIn_wide (n := 5)).1 ?_
  obtain ⟨hk1, hk2⟩ := hk
  refine callsIn_of_wp_marks Try.func29 rfl trivial ?_ rfl
  simp only [Try.ntmps29, List.size_toArray, List.length_cons, List.length_nil, Nat.reduceAdd, Nat.reduceSub, Array.replicate_succ, Array.replicate_zero, List.push_toArray, List.append_toArray, List.nil_append, List.cons_append]
  gi_wp2_with (refine ⟨trivial, ?_⟩; gi_at_call 39; refine (callsIn_wide.2 (members_c m _)).mono ?_; rintro e w' ⟨rfl, rfl⟩)
  have bK := Boxed.new w 3 (.int .i64 k)
  have bO := Boxed.new (w.alloc (.cells #[.int .i64 k] 3)) 25 (.int .i64 0)
  have bN := Boxed.new ((w.alloc (.cells #[.int .i64 k] 3)).alloc (.cells #[.int .i64 0] 25)) 25 (.int .i64 m)
  rw [World.size_alloc] at bO
  rw [World.size_alloc, World.size_alloc] at bN
  have hB0 : Below w.heap.size w (((w.alloc (.cells #[.int .i64 k] 3)).alloc (.cells #[.int .i64 0] 25)).alloc (.cells #[.int .i64 m] 25)) := (((Below.refl _ w).alloc (Nat.le_refl _) _).alloc (by simp) _).alloc (by simp; omega) _
  refine wpIn_rangeFunc_ownG rfl (by omega) (gf := 54) (lb := #[.pointer (some ⟨w.heap.size + 1 + 1, 0, none⟩)]) rfl trivial (enters_of Try.func54 (by kernel_rfl) rfl)
    (members_stops 4 (by omega) (w.heap.size + 1 + 1) m hm _ bN) keepsBlock_t (keepsBlock_b (by simp)) (Below.refl _ _) (fun _ => rfl)
    (fun pre W => (Boxed W w.heap.size 3 (.int .i64 (k - pre.length)) ∧ Boxed W (w.heap.size + 1) 25 (.int .i64 (ofIds (pre.map (·.val))))) ∧ (Boxed W (w.heap.size + 1 + 1) 25 (.int .i64 m) ∧ (Below w.heap.size w W ∧ pre.length ≤ k.toNat)))
    (fun c pre W => (c = .exit 0 ∧ ∃ pre' x, pre = pre' ++ [x] ∧ pre'.length = k.toNat ∧ Boxed W (w.heap.size + 1) 25 (.int .i64 (ofIds (pre'.map (·.val))))) ∧ Below w.heap.size w W)
    (OwnFrom.and (OwnFrom.and (Own.from (boxed_own _ _ _) _) (Own.from (boxed_own _ _ _) _)) (OwnFrom.and (Own.from (boxed_own _ _ _) _) (OwnFrom.and (ownFrom_below (Nat.le_refl _) (by simp; omega)) (fun _ _ _ _ h _ _ => h))))
    (fun c => OwnFrom.and (fun s X Y row hs hg hrow => by
      obtain ⟨hc, pre', x, h1, h2, h3⟩ := hs
      exact ⟨hc, pre', x, h1, h2, Own.from (boxed_own (β := Unit) (w.heap.size + 1) 25 (fun _ => .int .i64 (ofIds (pre'.map (·.val))))) _ () X Y row h3 hg hrow⟩) (ownFrom_below (Nat.le_refl _) (by simp; omega)))
    ⟨⟨by simpa using (bK.alloc _).alloc _, bO.alloc _⟩, bN, hB0, by simp⟩
    (fun x => { tmps := #[.int .i64 m, .int .i64 k, undef, .pointer (some ⟨w.heap.size, 0, none⟩), .int .i64 0, .pointer (some ⟨w.heap.size + 1, 0, none⟩), .int .i64 (x.val : Int), .int .i64 m, .func (.func 54) #[] #[.pointer (some ⟨w.heap.size + 1 + 1, 0, none⟩)], .int .i64 (x.val : Int), undef, undef, undef, undef, undef, undef, undef, undef, undef], defers := [] }) ?assign ?body ?done ?stop
  case assign =>
    intro l x W K hK
    gi_wp2
    exact hK
  case body =>
    rintro l pre x W ⟨⟨bk, bo⟩, bm, hB, hpl⟩ hlt
    have hc1 := bk.cell
    have hf1 := bk.frozen
    have hc2 := bo.cell
    have hf2 := bo.frozen
    have hmx : Try.prog.follows .mixedOrders = true := by kernel_rfl
    have hx := x.isLt
    by_cases hlast : k - pre.length < 1
    · gi_wp2
      exact ⟨KeepsFrom.refl _ _, ⟨rfl, pre, x, rfl, by omega, bo⟩, hB⟩
    · gi_wp2
      gi_region_with_o (fail)
      all_goals gi_wp2
      all_goals
        have e1 : k - (pre.length : Int) - 1 = k - ((pre ++ [x]).length : Int) := by simp; omega
        have e2 : bits .or .i64 (ofIds (pre.map (·.val))) (wrap64 (2 ^ x.val)) = ofIds ((pre ++ [x]).map (·.val)) := by
          rw [List.map_append, List.map_cons, List.map_nil, ofIds_snoc, wrap_pow x.val (by omega)]
        rw [e1, e2]
        have b1 := (bo.set (.int .i64 (ofIds ((pre ++ [x]).map (·.val))))).other (B' := w.heap.size) (by omega) (.int .i64 (k - ((pre ++ [x]).length : Int)))
        have b2 := (bk.other (B' := w.heap.size + 1) (by omega) (.int .i64 (ofIds ((pre ++ [x]).map (·.val))))).set (.int .i64 (k - ((pre ++ [x]).length : Int)))
        have b3 := (bm.other (B' := w.heap.size + 1) (by omega) (.int .i64 (ofIds ((pre ++ [x]).map (·.val))))).other (B' := w.heap.size) (by omega) (.int .i64 (k - ((pre ++ [x]).length : Int)))
        exact ⟨(((KeepsOthers.setCell _ _ _).trans (KeepsOthers.setCell _ _ _)).trans (KeepsOthers.drew _)).from _, Eq.trans b3 bm.symm, ⟨b2, b1⟩, b3, ((hB.setCell (p := ⟨w.heap.size + 1, 0, none⟩) (by simp) _).setCell (p := ⟨w.heap.size, 0, none⟩) (Nat.le_refl _) _).drew, by simp; omega⟩
  case done =>
    rintro D ys W hD rfl ⟨⟨bk, bo⟩, bm, hB, hpl⟩ hK
    have hc := bo.cell
    rw [low_all m k hpl] at hc
    gi_wp2
    refine ⟨by simp, .inl ⟨_, _, rfl, run_takeDeferred hK, ?_⟩⟩
    exact ⟨_, results_tmp rfl _ _ _, rfl, hB.trans (belowK_b (w := w) (Nat.le_refl _) W D _ _ (by simp at hD; omega) hK rfl rfl)⟩
  case stop =>
    rintro D c pre W hD hSp ⟨⟨rfl, pre', x, rfl, hl, bo⟩, hB⟩ hK
    have hc := bo.cell
    rw [low_part m k pre' x hSp hl] at hc
    gi_wp2
    refine ⟨by simp, .inl ⟨_, _, rfl, run_takeDeferred hK, ?_⟩⟩
    exact ⟨_, results_tmp rfl _ _ _, rfl, hB.trans (belowK_b (w := w) (Nat.le_refl _) W D _ _ (by simp at hD; omega) hK rfl rfl)⟩
end Go.Proofs.Yteejjjlheacamaa
