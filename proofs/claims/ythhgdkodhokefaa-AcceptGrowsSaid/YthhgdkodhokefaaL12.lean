/- Law 12: its helpers. -/
import Derived.Test.YthhgdkodhokefaaAcc
namespace Go.Proofs.Ythhgdkodhokefaa
open Go Go.RowKit
set_option linter.unusedVariables false

theorem Arr.lit {α : Type} [Cel α] {l : List α} {b : Nat} {ty : TypeId} {w0 : World} {H : List (Nat × Obj)} (hm : (b, .cells (cells l).toArray ty (0, 0)) ∈ H) : Arr (St w0 H) (some ⟨b, 0, none⟩) l := fun j hj => ⟨b, 0, rfl, fun w hw t u hu => by
  have ht : t < Cel.sz α := by rw [← Cel.size l[j]]; simpa using (List.getElem?_eq_some_iff.1 hu).1
  refine hw.cellM (off := 0 + j * Cel.sz α + t) hm ?_
  rw [List.getElem?_toArray, Nat.zero_add, cells_get l j t hj ht]
  simpa using hu⟩
set_option maxRecDepth 100000 in
set_option maxHeartbeats 2000000 in
theorem has12_c (l : List Vt) (v : Vt) (A : Option Addr) (c : Nat) (w : World) (hl : l.length ≤ 1000) (hr : Rd w A l) : Calls Try.prog 35 #[.slice A (l.length) c, .agg (v).cs] w (fun rr w' => rr = .returned (.bool (l.any (fun x => x == v))) ∧ Below w.heap.size w w') := by
  refine calls_W (n := 18) Try.func35 rfl [(0, .slice A (l.length) c), (1, .agg (v).cs)] rfl ⟨by kernel_rfl, by kernel_rfl⟩ ?_
  refine W.weak (Ψ := St w []) (fun w' h => by rw [h]; exact St.start w) ?_
  refine W.seq ?_
  refine W.region [(0, false), (1, false)] (by kernel_rfl) ?_
  refine T.box 3 26 (.agg (v).cs) ((v).cs) (by kernel_rfl) (by kernel_rfl) (by kernel_rfl) (fun _ _ _ => trivial) (fun b1 => ?_)
  refine T.pure 4 (.bool (false)) (by kernel_rfl) (fun w => by kernel_rfl) ?_
  refine T.nil ?_
  refine QN.seq ?_
  refine W.seq ?_
  refine W.seq ?_
  refine W.region [(0, false)] (by kernel_rfl) ?_
  refine T.pure 5 (.int .i64 (0)) (by kernel_rfl) (fun w => by kernel_rfl) ?_
  refine T.nil ?_
  refine QN.seq ?_
  refine W.block ?_
  refine W.loop (σ := Nat) (fun gs => gs ≤ (l).length ∧ ((l).take gs).any (fun x => x == v) = false) (fun gs => [(0, .slice A (l.length) c), (3, .pointer (some ⟨b1, 0, none⟩)), (5, .int .i64 ((gs : Int)))]) (fun gs => St w [(b1, .cells (v).cs 26 (0, 0))]) (fun gs => (l).length - gs) (0) ?_ (by kernel_rfl) (fun w h => h) ?_
  · show 0 ≤ (l).length ∧ ((l).take 0).any (fun x => x == v) = false
    exact ⟨Nat.zero_le _, any_zero _ _⟩
  rintro j hI_
  obtain ⟨hj, hany⟩ : j ≤ (l).length ∧ ((l).take j).any (fun x => x == v) = false := hI_
  show W _ _ [(0, .slice A (l.length) c), (3, .pointer (some ⟨b1, 0, none⟩)), (5, .int .i64 ((j : Int)))] (St w [(b1, .cells (v).cs 26 (0, 0))]) _ _
  refine W.seq ?_
  refine W.seq ?_
  refine W.region [(0, false), (1, false), (2, false), (3, false)] (by kernel_rfl) ?_
  refine T.pure 6 (.int .i64 ((j : Int))) (by kernel_rfl) (fun w => by kernel_rfl) ?_
  refine T.pure 7 (.slice A (l.length) c) (by kernel_rfl) (fun w => by kernel_rfl) ?_
  refine T.pure 8 (.int .i64 (((l.length : Nat) : Int))) (by kernel_rfl) (fun w => by kernel_rfl) ?_
  refine T.pure 9 (.bool (decide ((j : Int) < ((l.length : Nat) : Int)))) (by kernel_rfl) (fun w => by kernel_rfl) ?_
  refine T.nil ?_
  refine QN.seq ?_
  refine W.cond (decide ((j : Int) < ((l.length : Nat) : Int))) (by kernel_rfl) (fun h2 => ?_) (fun h2 => ?_)
  · skip
    have h2' := of_decide_eq_true h2
    have hl3 : j < (l).length := by omega
    refine W.skip ?_
    refine QN.seq ?_
    refine W.seq ?_
    refine W.block ?_
    refine W.seq ?_
    refine W.drawn (Ψ := St w [(b1, .cells (v).cs 26 (0, 0))]) (St w [(b1, .cells (v).cs 26 (0, 0))]) [(0, true), (1, true), (2, true), (3, true), (4, true), (5, true)] hmx (by kernel_rfl) (NoPanic.then (NoPanic.inBlock (NoPanic.then (NoPanic.then (NoPanic.inBlock (NoPanic.then (NoPanic.body))))))) (fun w h => h.drew) (fun w h => h) ?_
    refine T.pure 12 (.slice A (l.length) c) (by kernel_rfl) (fun w => by kernel_rfl) ?_
    refine T.pure 13 (.int .i64 ((j : Int))) (by kernel_rfl) (fun w => by kernel_rfl) ?_
    obtain ⟨b4, o5, hA6, hr7⟩ := (Rd.arr hr _) j hl3
    refine T.index 14 27 26 22 A (l.length) c ((j : Int)) (j) b4 o5 (by kernel_rfl) (by kernel_rfl) (by kernel_rfl) (by kernel_rfl) hA6 (rfl) (by omega) ?_
    refine T.loadR true 15 ((l[j]'hl3)).cs 26 b4 (o5 + j * 22) (by kernel_rfl) (by kernel_rfl) (by kernel_rfl) (by kernel_rfl) hr7 ?_
    refine T.loadR true 16 (v).cs 26 b1 0 (by kernel_rfl) (by kernel_rfl) (by kernel_rfl) (by kernel_rfl) (fun w h => St.rangeM h (v).cs (.head _) (by kernel_rfl)) ?_
    refine T.eqq 17 ((l[j]'hl3) == v) ((l[j]'hl3) == v) false 26 ((l[j]'hl3)).cs (v).cs (by kernel_rfl) (by kernel_rfl) (by kernel_rfl) (by kernel_rfl) (fun w => eq_vt w (l[j]'hl3) v) ?_
    refine T.nil ?_
    refine QN.seq ?_
    refine W.cond ((l[j]'hl3) == v) (by kernel_rfl) (fun h8 => ?_) (fun h8 => ?_)
    · skip
      refine W.seq ?_
      refine W.region [(0, false)] (by kernel_rfl) ?_
      refine T.pure 4 (.bool (true)) (by kernel_rfl) (fun w => by kernel_rfl) ?_
      refine T.nil ?_
      refine QN.seq ?_
      refine W.ret ?_
      refine QN.blkRet ?_
      refine QN.thenRet ?_
      refine QN.thenRet ?_
      refine QN.blkRet ?_
      refine QN.thenRet ?_
      refine QN.done (.inl rfl) 4 (.bool (true)) rfl (by kernel_rfl) (fun w hw => ⟨?_, hw.below⟩)
      exact ret_bool (any_hit (p := fun x => x == v) (by omega) h8).symm
    · skip
      refine W.skip ?_
      refine QN.blkNormal ?_
      refine QN.seq ?_
      refine W.region [(0, false), (1, false), (2, false)] (by kernel_rfl) ?_
      refine T.pure 10 (.int .i64 ((j : Int))) (by kernel_rfl) (fun w => by kernel_rfl) ?_
      refine T.pureE 11 (.int .i64 (IntKind.i64.wrap ((j : Int) + 1))) (.int .i64 ((j : Int) + 1)) (by kernel_rfl) (fun w => by kernel_rfl) (wrap_int (by omega) (by omega)) ?_
      refine T.pure 5 (.int .i64 ((j : Int) + 1)) (by kernel_rfl) (fun w => by kernel_rfl) ?_
      refine T.nil ?_
      refine QN.back (j + 1) ?_ ?_ (by kernel_rfl) (fun w h => h)
      · show (j + 1) ≤ (l).length ∧ ((l).take (j + 1)).any (fun x => x == v) = false
        exact ⟨by omega, any_step hany (by omega) h8⟩
      · show (l).length - (j + 1) < (l).length - j; omega
  · skip
    have h2' := of_decide_eq_false h2
    refine W.exit ?_
    refine QN.thenExit ?_
    refine QN.thenExit ?_
    refine QN.blkHit ?_
    refine QN.seq ?_
    refine W.seq ?_
    refine W.region [(0, false)] (by kernel_rfl) ?_
    refine T.pure 4 (.bool (false)) (by kernel_rfl) (fun w => by kernel_rfl) ?_
    refine T.nil ?_
    refine QN.seq ?_
    refine W.ret ?_
    refine QN.done (.inl rfl) 4 (.bool (false)) rfl (by kernel_rfl) (fun w hw => ⟨?_, hw.below⟩)
    exact ret_bool (any_end hany (by omega)).symm
theorem take_bk {a b : List Vt} {j : Nat} (ha : j < a.length) (hb : j < b.length) (h : a.take j = b.take j) (he : a[j] = b[j]) : a.take (j + 1) = b.take (j + 1) := by
  rw [List.take_succ_eq_append_getElem ha, List.take_succ_eq_append_getElem hb, h, he]
theorem same_ne {a b : List Vt} (h : ((a.length : Int) != (b.length : Int)) = true) : false = (a == b) := by
  have e : ¬ a = b := fun e => by subst e; simp at h
  simpa using e
theorem same_el {a b : List Vt} {j : Nat} {ha : j < a.length} {hb : j < b.length} (h : (a[j] != b[j]) = true) : false = (a == b) := by
  have e : ¬ a = b := fun e => by subst e; simp at h
  simpa using e
theorem same_len {a b : List Vt} (h : ((a.length : Int) != (b.length : Int)) = false) : a.length = b.length := by
  simp only [bne_eq_false_iff_eq] at h; omega
set_option maxRecDepth 100000 in
set_option maxHeartbeats 2000000 in
theorem same12_c (a b : List Vt) (A : Option Addr) (c : Nat) (A2 : Option Addr) (c2 : Nat) (w : World) (hl : a.length ≤ 1000) (hl2 : b.length ≤ 1000) (hr : Rd w A a) (hr2 : Rd w A2 b) : Calls Try.prog 37 #[.slice A (a.length) c, .slice A2 (b.length) c2] w (fun rr w' => rr = .returned (.bool (a == b)) ∧ Below w.heap.size w w') := by
  refine calls_W (n := 26) Try.func37 rfl [(0, .slice A (a.length) c), (1, .slice A2 (b.length) c2)] rfl ⟨by kernel_rfl, by kernel_rfl⟩ ?_
  refine W.weak (Ψ := St w []) (fun w' h => by rw [h]; exact St.start w) ?_
  refine W.seq ?_
  refine W.region [(0, false)] (by kernel_rfl) ?_
  refine T.pure 4 (.bool (false)) (by kernel_rfl) (fun w => by kernel_rfl) ?_
  refine T.nil ?_
  refine QN.seq ?_
  refine W.seq ?_
  refine W.seq ?_
  refine W.region [(0, false), (1, false), (2, false), (3, false), (4, false)] (by kernel_rfl) ?_
  refine T.pure 6 (.slice A (a.length) c) (by kernel_rfl) (fun w => by kernel_rfl) ?_
  refine T.pure 7 (.int .i64 (((a.length : Nat) : Int))) (by kernel_rfl) (fun w => by kernel_rfl) ?_
  refine T.pure 8 (.slice A2 (b.length) c2) (by kernel_rfl) (fun w => by kernel_rfl) ?_
  refine T.pure 9 (.int .i64 (((b.length : Nat) : Int))) (by kernel_rfl) (fun w => by kernel_rfl) ?_
  refine T.pure 10 (.bool (((a.length : Nat) : Int) != ((b.length : Nat) : Int))) (by kernel_rfl) (fun w => by kernel_rfl) ?_
  refine T.nil ?_
  refine QN.seq ?_
  refine W.cond (((a.length : Nat) : Int) != ((b.length : Nat) : Int)) (by kernel_rfl) (fun h1 => ?_) (fun h1 => ?_)
  · skip
    refine W.seq ?_
    refine W.region [(0, false)] (by kernel_rfl) ?_
    refine T.pure 4 (.bool (false)) (by kernel_rfl) (fun w => by kernel_rfl) ?_
    refine T.nil ?_
    refine QN.seq ?_
    refine W.ret ?_
    refine QN.thenRet ?_
    refine QN.done (.inl rfl) 4 (.bool (false)) rfl (by kernel_rfl) (fun w hw => ⟨?_, hw.below⟩)
    exact ret_bool (same_ne h1)
  · skip
    refine W.skip ?_
    refine QN.seq ?_
    refine W.seq ?_
    refine W.seq ?_
    refine W.region [(0, false)] (by kernel_rfl) ?_
    refine T.pure 5 (.int .i64 (0)) (by kernel_rfl) (fun w => by kernel_rfl) ?_
    refine T.nil ?_
    refine QN.seq ?_
    refine W.block ?_
    have hab := same_len h1
    refine W.loop (σ := Nat) (fun gs => gs ≤ a.length ∧ a.take gs = b.take gs) (fun gs => [(0, .slice A (a.length) c), (1, .slice A2 (b.length) c2), (5, .int .i64 ((gs : Int)))]) (fun gs => St w []) (fun gs => a.length - gs) (0) ?_ (by kernel_rfl) (fun w h => h) ?_
    · show 0 ≤ a.length ∧ a.take 0 = b.take 0
      exact ⟨Nat.zero_le _, rfl⟩
    rintro j hI_
    obtain ⟨hj, htk⟩ : j ≤ a.length ∧ a.take j = b.take j := hI_
    show W _ _ [(0, .slice A (a.length) c), (1, .slice A2 (b.length) c2), (5, .int .i64 ((j : Int)))] (St w []) _ _
    refine W.seq ?_
    refine W.seq ?_
    refine W.region [(0, false), (1, false), (2, false), (3, false)] (by kernel_rfl) ?_
    refine T.pure 11 (.int .i64 ((j : Int))) (by kernel_rfl) (fun w => by kernel_rfl) ?_
    refine T.pure 12 (.slice A (a.length) c) (by kernel_rfl) (fun w => by kernel_rfl) ?_
    refine T.pure 13 (.int .i64 (((a.length : Nat) : Int))) (by kernel_rfl) (fun w => by kernel_rfl) ?_
    refine T.pure 14 (.bool (decide ((j : Int) < ((a.length : Nat) : Int)))) (by kernel_rfl) (fun w => by kernel_rfl) ?_
    refine T.nil ?_
    refine QN.seq ?_
    refine W.cond (decide ((j : Int) < ((a.length : Nat) : Int))) (by kernel_rfl) (fun h2 => ?_) (fun h2 => ?_)
    · skip
      have h2' := of_decide_eq_true h2
      have hl3 : j < (a).length := by omega
      refine W.skip ?_
      refine QN.seq ?_
      refine W.seq ?_
      refine W.block ?_
      refine W.seq ?_
      refine W.drawn (Ψ := St w []) (St w []) [(0, true), (1, true), (2, true), (3, true), (4, true), (5, true), (6, true), (7, true), (8, true)] hmx (by kernel_rfl) (NoPanic.then (NoPanic.inBlock (NoPanic.then (NoPanic.then (NoPanic.inBlock (NoPanic.then (NoPanic.body))))))) (fun w h => h.drew) (fun w h => h) ?_
      refine T.pure 17 (.slice A (a.length) c) (by kernel_rfl) (fun w => by kernel_rfl) ?_
      refine T.pure 18 (.int .i64 ((j : Int))) (by kernel_rfl) (fun w => by kernel_rfl) ?_
      obtain ⟨b4, o5, hA6, hr7⟩ := (Rd.arr hr _) j hl3
      refine T.index 19 27 26 22 A (a.length) c ((j : Int)) (j) b4 o5 (by kernel_rfl) (by kernel_rfl) (by kernel_rfl) (by kernel_rfl) hA6 (rfl) (by omega) ?_
      refine T.loadR true 20 ((a[j]'hl3)).cs 26 b4 (o5 + j * 22) (by kernel_rfl) (by kernel_rfl) (by kernel_rfl) (by kernel_rfl) hr7 ?_
      refine T.pure 21 (.slice A2 (b.length) c2) (by kernel_rfl) (fun w => by kernel_rfl) ?_
      refine T.pure 22 (.int .i64 ((j : Int))) (by kernel_rfl) (fun w => by kernel_rfl) ?_
      have hl12 : j < (b).length := by omega
      obtain ⟨b8, o9, hA10, hr11⟩ := (Rd.arr hr2 _) j hl12
      refine T.index 23 27 26 22 A2 (b.length) c2 ((j : Int)) (j) b8 o9 (by kernel_rfl) (by kernel_rfl) (by kernel_rfl) (by kernel_rfl) hA10 (rfl) (by omega) ?_
      refine T.loadR true 24 ((b[j]'hl12)).cs 26 b8 (o9 + j * 22) (by kernel_rfl) (by kernel_rfl) (by kernel_rfl) (by kernel_rfl) hr11 ?_
      refine T.eqq 25 ((a[j]'hl3) != (b[j]'hl12)) ((a[j]'hl3) == (b[j]'hl12)) true 26 ((a[j]'hl3)).cs ((b[j]'hl12)).cs (by kernel_rfl) (by kernel_rfl) (by kernel_rfl) (by kernel_rfl) (fun w => eq_vt w (a[j]'hl3) (b[j]'hl12)) ?_
      refine T.nil ?_
      refine QN.seq ?_
      refine W.cond ((a[j]'hl3) != (b[j]'hl12)) (by kernel_rfl) (fun h13 => ?_) (fun h13 => ?_)
      · skip
        refine W.seq ?_
        refine W.region [(0, false)] (by kernel_rfl) ?_
        refine T.pure 4 (.bool (false)) (by kernel_rfl) (fun w => by kernel_rfl) ?_
        refine T.nil ?_
        refine QN.seq ?_
        refine W.ret ?_
        refine QN.blkRet ?_
        refine QN.thenRet ?_
        refine QN.thenRet ?_
        refine QN.blkRet ?_
        refine QN.thenRet ?_
        refine QN.done (.inl rfl) 4 (.bool (false)) rfl (by kernel_rfl) (fun w hw => ⟨?_, hw.below⟩)
        exact ret_bool (same_el h13)
      · skip
        refine W.skip ?_
        refine QN.blkNormal ?_
        refine QN.seq ?_
        refine W.region [(0, false), (1, false), (2, false)] (by kernel_rfl) ?_
        refine T.pure 15 (.int .i64 ((j : Int))) (by kernel_rfl) (fun w => by kernel_rfl) ?_
        refine T.pureE 16 (.int .i64 (IntKind.i64.wrap ((j : Int) + 1))) (.int .i64 ((j : Int) + 1)) (by kernel_rfl) (fun w => by kernel_rfl) (wrap_int (by omega) (by omega)) ?_
        refine T.pure 5 (.int .i64 ((j : Int) + 1)) (by kernel_rfl) (fun w => by kernel_rfl) ?_
        refine T.nil ?_
        refine QN.back (j + 1) ?_ ?_ (by kernel_rfl) (fun w h => h)
        · show (j + 1) ≤ a.length ∧ a.take (j + 1) = b.take (j + 1)
          exact ⟨by omega, take_bk (by omega) (by omega) htk (by simpa using h13)⟩
        · show a.length - (j + 1) < a.length - j; omega
    · skip
      have h2' := of_decide_eq_false h2
      refine W.exit ?_
      refine QN.thenExit ?_
      refine QN.thenExit ?_
      refine QN.blkHit ?_
      refine QN.seq ?_
      refine W.seq ?_
      refine W.region [(0, false)] (by kernel_rfl) ?_
      refine T.pure 4 (.bool (true)) (by kernel_rfl) (fun w => by kernel_rfl) ?_
      refine T.nil ?_
      refine QN.seq ?_
      refine W.ret ?_
      refine QN.done (.inl rfl) 4 (.bool (true)) rfl (by kernel_rfl) (fun w hw => ⟨?_, hw.below⟩)
      exact ret_bool (by have e1 : a = b := (by rw [List.take_of_length_le (by omega), List.take_of_length_le (by omega)] at htk; exact htk); simp [e1])
set_option maxRecDepth 100000 in
set_option maxHeartbeats 2000000 in
theorem awake_c (w : World) : Calls Try.prog 38 #[] w (fun rr w' => rr = .returned (.bool (true)) ∧ Below w.heap.size w w') := by
  refine calls_W (n := 24) Try.func38 rfl [] rfl ⟨by kernel_rfl, by kernel_rfl⟩ ?_
  refine W.weak (Ψ := St w []) (fun w' h => by rw [h]; exact St.start w) ?_
  refine W.seq ?_
  refine W.region [(0, false)] (by kernel_rfl) ?_
  refine T.pure 0 (.bool (false)) (by kernel_rfl) (fun w => by kernel_rfl) ?_
  refine T.nil ?_
  refine QN.seq ?_
  refine W.seq ?_
  refine W.region [(0, false)] (by kernel_rfl) ?_
  refine T.alloc 1 24 (Nm.zero).cs (by kernel_rfl) (by kernel_rfl) (by kernel_rfl) (fun _ _ _ => trivial) (fun b1 => ?_)
  refine T.nil ?_
  refine QN.seq ?_
  refine W.seq ?_
  refine W.region [(0, false), (1, false)] (by kernel_rfl) ?_
  refine T.pure 4 (.pointer (some ⟨b1, 0, none⟩)) (by kernel_rfl) (fun w => by kernel_rfl) ?_
  refine T.storeP 5 b1 0 (.int .u8 (1)) (Nm.zero).cs (({ Nm.zero with b0 := 1 } : Nm)).cs 24 (by kernel_rfl) (by kernel_rfl) (by kernel_rfl) (by kernel_rfl) (by kernel_rfl) (by kernel_rfl) (List.Perm.refl _) (fun _ _ => trivial) ?_
  refine T.nil ?_
  refine QN.seq ?_
  refine W.seq ?_
  refine W.region [(0, false), (1, false), (2, false), (3, false)] (by kernel_rfl) ?_
  refine T.loadR false 5 (({ Nm.zero with b0 := 1 } : Nm)).cs 24 b1 0 (by kernel_rfl) (by kernel_rfl) (by kernel_rfl) (by kernel_rfl) (fun w h => St.rangeM h (({ Nm.zero with b0 := 1 } : Nm)).cs (.head _) (by kernel_rfl)) ?_
  refine T.pure 6 (.agg ((⟨1, 0, 0, 1, 0, 0, Nm.zero, ({ Nm.zero with b0 := 1 } : Nm)⟩ : Vt)).cs) (by kernel_rfl) (fun w => by kernel_rfl) ?_
  refine T.alloc 2 26 (Vt.zero).cs (by kernel_rfl) (by kernel_rfl) (by kernel_rfl) (fun _ _ _ => trivial) (fun b2 => ?_)
  refine T.storeP 26 b2 0 (.agg ((⟨1, 0, 0, 1, 0, 0, Nm.zero, ({ Nm.zero with b0 := 1 } : Nm)⟩ : Vt)).cs) (Vt.zero).cs ((⟨1, 0, 0, 1, 0, 0, Nm.zero, ({ Nm.zero with b0 := 1 } : Nm)⟩ : Vt)).cs 26 (by kernel_rfl) (by kernel_rfl) (by kernel_rfl) (by kernel_rfl) (by kernel_rfl) (by kernel_rfl) (List.Perm.refl _) (fun _ _ => trivial) ?_
  refine T.nil ?_
  refine QN.seq ?_
  refine W.seq ?_
  refine W.region [(0, false), (1, false), (2, false), (3, false)] (by kernel_rfl) ?_
  refine T.loadR false 7 (({ Nm.zero with b0 := 1 } : Nm)).cs 24 b1 0 (by kernel_rfl) (by kernel_rfl) (by kernel_rfl) (by kernel_rfl) (fun w h => St.rangeM h (({ Nm.zero with b0 := 1 } : Nm)).cs (.tail _ (.head _)) (by kernel_rfl)) ?_
  refine T.pure 8 (.agg ((⟨2, 0, 0, 1, 1, 0, Nm.zero, ({ Nm.zero with b0 := 1 } : Nm)⟩ : Vt)).cs) (by kernel_rfl) (fun w => by kernel_rfl) ?_
  refine T.alloc 3 26 (Vt.zero).cs (by kernel_rfl) (by kernel_rfl) (by kernel_rfl) (fun _ _ _ => trivial) (fun b3 => ?_)
  refine T.storeP 26 b3 0 (.agg ((⟨2, 0, 0, 1, 1, 0, Nm.zero, ({ Nm.zero with b0 := 1 } : Nm)⟩ : Vt)).cs) (Vt.zero).cs ((⟨2, 0, 0, 1, 1, 0, Nm.zero, ({ Nm.zero with b0 := 1 } : Nm)⟩ : Vt)).cs 26 (by kernel_rfl) (by kernel_rfl) (by kernel_rfl) (by kernel_rfl) (by kernel_rfl) (by kernel_rfl) (List.Perm.refl _) (fun _ _ => trivial) ?_
  refine T.nil ?_
  refine QN.seq ?_
  refine W.seq ?_
  refine W.region [(0, false), (1, false), (2, false), (3, false), (4, false), (5, false), (6, false), (7, false), (8, false), (9, false), (10, false), (11, false), (12, false), (13, false), (14, false), (15, false)] (by kernel_rfl) ?_
  refine T.pure 9 (.agg (Nm.zero).cs) (by kernel_rfl) (fun w => by kernel_rfl) ?_
  refine T.loadR false 10 ((⟨2, 0, 0, 1, 1, 0, Nm.zero, ({ Nm.zero with b0 := 1 } : Nm)⟩ : Vt)).cs 26 b3 0 (by kernel_rfl) (by kernel_rfl) (by kernel_rfl) (by kernel_rfl) (fun w h => St.rangeM h ((⟨2, 0, 0, 1, 1, 0, Nm.zero, ({ Nm.zero with b0 := 1 } : Nm)⟩ : Vt)).cs (.head _) (by kernel_rfl)) ?_
  refine T.lit 11 27 26 1 #[(0, .agg ((⟨2, 0, 0, 1, 1, 0, Nm.zero, ({ Nm.zero with b0 := 1 } : Nm)⟩ : Vt)).cs)] (cells ([(⟨2, 0, 0, 1, 1, 0, Nm.zero, ({ Nm.zero with b0 := 1 } : Nm)⟩ : Vt)] : List Vt)).toArray (by kernel_rfl) (by kernel_rfl) (by kernel_rfl) (by kernel_rfl) (fun _ _ _ => trivial) (fun b4 => ?_)
  refine T.callR 12 34 #[.int .i64 (3), .agg (Nm.zero).cs, .slice (some ⟨b4, 0, none⟩) (1) 1] 26 22 (accV 3 Nm.zero ([(⟨2, 0, 0, 1, 1, 0, Nm.zero, ({ Nm.zero with b0 := 1 } : Nm)⟩ : Vt)])).length (cells (accV 3 Nm.zero ([(⟨2, 0, 0, 1, 1, 0, Nm.zero, ({ Nm.zero with b0 := 1 } : Nm)⟩ : Vt)]))) (by kernel_rfl) (by kernel_rfl) ent34 (fun w hw => accepted_c 3 Nm.zero ([(⟨2, 0, 0, 1, 1, 0, Nm.zero, ({ Nm.zero with b0 := 1 } : Nm)⟩ : Vt)]) (some ⟨b4, 0, none⟩) 1 w (by first | assumption | exact w64_and _ _ | exact w64_or _ _ | exact w64_andNot _ _ | (unfold W64; omega)) (by intro u hu; simp only [List.mem_cons, List.not_mem_nil, or_false] at hu; rcases hu with rfl | rfl <;> (unfold W64; decide)) (by first | omega | (simp; done) | (simp; omega)) (Arr.rd (Arr.lit (.head _)) hw)) (fun _ _ _ => trivial) (fun A5 c6 Hr7 hrow8 => ?_)
  refine T.pure 13 (.int .i64 ((((accV 3 Nm.zero ([(⟨2, 0, 0, 1, 1, 0, Nm.zero, ({ Nm.zero with b0 := 1 } : Nm)⟩ : Vt)])).length : Nat) : Int))) (by kernel_rfl) (fun w => by kernel_rfl) ?_
  refine T.pure 14 (.bool ((((accV 3 Nm.zero ([(⟨2, 0, 0, 1, 1, 0, Nm.zero, ({ Nm.zero with b0 := 1 } : Nm)⟩ : Vt)])).length : Nat) : Int) == 0)) (by kernel_rfl) (fun w => by kernel_rfl) ?_
  refine T.pure 15 (.bool ((((accV 3 Nm.zero ([(⟨2, 0, 0, 1, 1, 0, Nm.zero, ({ Nm.zero with b0 := 1 } : Nm)⟩ : Vt)])).length : Nat) : Int) == 0)) (by kernel_rfl) (fun w => by kernel_rfl) ?_
  refine T.blk [(7, false), (8, false), (9, false), (10, false), (11, false), (12, false), (13, false)] [(14, false), (15, false)] 6 true ((((accV 3 Nm.zero ([(⟨2, 0, 0, 1, 1, 0, Nm.zero, ({ Nm.zero with b0 := 1 } : Nm)⟩ : Vt)])).length : Nat) : Int) == 0) 15 22 (.bool ((((accV 3 Nm.zero ([(⟨2, 0, 0, 1, 1, 0, Nm.zero, ({ Nm.zero with b0 := 1 } : Nm)⟩ : Vt), (⟨1, 0, 0, 1, 0, 0, Nm.zero, ({ Nm.zero with b0 := 1 } : Nm)⟩ : Vt)])).length : Nat) : Int) == 2)) (by kernel_rfl) (by kernel_rfl) (by kernel_rfl) (fun hg9 => ?_) ?_
  · have hg9_ := hg9
    have hg9' := eq_of_beq hg9
    refine T.pure 16 (.agg (Nm.zero).cs) (by kernel_rfl) (fun w => by kernel_rfl) ?_
    refine T.loadR false 17 ((⟨2, 0, 0, 1, 1, 0, Nm.zero, ({ Nm.zero with b0 := 1 } : Nm)⟩ : Vt)).cs 26 b3 0 (by kernel_rfl) (by kernel_rfl) (by kernel_rfl) (by kernel_rfl) (fun w h => St.rangeM h ((⟨2, 0, 0, 1, 1, 0, Nm.zero, ({ Nm.zero with b0 := 1 } : Nm)⟩ : Vt)).cs (List.mem_append_right _ (.tail _ (.head _))) (by kernel_rfl)) ?_
    refine T.loadR false 18 ((⟨1, 0, 0, 1, 0, 0, Nm.zero, ({ Nm.zero with b0 := 1 } : Nm)⟩ : Vt)).cs 26 b2 0 (by kernel_rfl) (by kernel_rfl) (by kernel_rfl) (by kernel_rfl) (fun w h => St.rangeM h ((⟨1, 0, 0, 1, 0, 0, Nm.zero, ({ Nm.zero with b0 := 1 } : Nm)⟩ : Vt)).cs (List.mem_append_right _ (.tail _ (.tail _ (.head _)))) (by kernel_rfl)) ?_
    refine T.lit 19 27 26 2 #[(0, .agg ((⟨2, 0, 0, 1, 1, 0, Nm.zero, ({ Nm.zero with b0 := 1 } : Nm)⟩ : Vt)).cs), (1, .agg ((⟨1, 0, 0, 1, 0, 0, Nm.zero, ({ Nm.zero with b0 := 1 } : Nm)⟩ : Vt)).cs)] (cells ([(⟨2, 0, 0, 1, 1, 0, Nm.zero, ({ Nm.zero with b0 := 1 } : Nm)⟩ : Vt), (⟨1, 0, 0, 1, 0, 0, Nm.zero, ({ Nm.zero with b0 := 1 } : Nm)⟩ : Vt)] : List Vt)).toArray (by kernel_rfl) (by kernel_rfl) (by kernel_rfl) (by kernel_rfl) (fun _ _ _ => trivial) (fun b10 => ?_)
    refine T.callR 20 34 #[.int .i64 (3), .agg (Nm.zero).cs, .slice (some ⟨b10, 0, none⟩) (2) 2] 26 22 (accV 3 Nm.zero ([(⟨2, 0, 0, 1, 1, 0, Nm.zero, ({ Nm.zero with b0 := 1 } : Nm)⟩ : Vt), (⟨1, 0, 0, 1, 0, 0, Nm.zero, ({ Nm.zero with b0 := 1 } : Nm)⟩ : Vt)])).length (cells (accV 3 Nm.zero ([(⟨2, 0, 0, 1, 1, 0, Nm.zero, ({ Nm.zero with b0 := 1 } : Nm)⟩ : Vt), (⟨1, 0, 0, 1, 0, 0, Nm.zero, ({ Nm.zero with b0 := 1 } : Nm)⟩ : Vt)]))) (by kernel_rfl) (by kernel_rfl) ent34 (fun w hw => accepted_c 3 Nm.zero ([(⟨2, 0, 0, 1, 1, 0, Nm.zero, ({ Nm.zero with b0 := 1 } : Nm)⟩ : Vt), (⟨1, 0, 0, 1, 0, 0, Nm.zero, ({ Nm.zero with b0 := 1 } : Nm)⟩ : Vt)]) (some ⟨b10, 0, none⟩) 2 w (by first | assumption | exact w64_and _ _ | exact w64_or _ _ | exact w64_andNot _ _ | (unfold W64; omega)) (by intro u hu; simp only [List.mem_cons, List.not_mem_nil, or_false] at hu; rcases hu with rfl | rfl <;> (unfold W64; decide)) (by first | omega | (simp; done) | (simp; omega)) (Arr.rd (Arr.lit (.head _)) hw)) (fun _ _ _ => trivial) (fun A11 c12 Hr13 hrow14 => ?_)
    refine T.pure 21 (.int .i64 ((((accV 3 Nm.zero ([(⟨2, 0, 0, 1, 1, 0, Nm.zero, ({ Nm.zero with b0 := 1 } : Nm)⟩ : Vt), (⟨1, 0, 0, 1, 0, 0, Nm.zero, ({ Nm.zero with b0 := 1 } : Nm)⟩ : Vt)])).length : Nat) : Int))) (by kernel_rfl) (fun w => by kernel_rfl) ?_
    refine T.pure 22 (.bool ((((accV 3 Nm.zero ([(⟨2, 0, 0, 1, 1, 0, Nm.zero, ({ Nm.zero with b0 := 1 } : Nm)⟩ : Vt), (⟨1, 0, 0, 1, 0, 0, Nm.zero, ({ Nm.zero with b0 := 1 } : Nm)⟩ : Vt)])).length : Nat) : Int) == 2)) (by kernel_rfl) (fun w => by kernel_rfl) ?_
    exact T.blkEnd (by kernel_rfl) (fun w h => (h.perm ((((((List.Perm.refl _).cons _).trans List.perm_middle.symm).append_left Hr13).trans (List.perm_append_comm_assoc _ _ _)).trans (((((((List.Perm.refl _).cons _).trans (List.Perm.swap _ _ _)).append_left Hr13).trans List.perm_middle).trans (((((((List.Perm.refl _).cons _).trans (List.Perm.swap _ _ _)).append_left Hr13).trans List.perm_middle).trans (((((((List.Perm.refl _).cons _).trans (List.Perm.swap _ _ _)).append_left Hr13).trans List.perm_middle).trans ((((((List.Perm.refl _).cons _).trans (List.Perm.swap _ _ _)).append_left Hr13).trans List.perm_middle).cons _)).cons _)).cons _)).append_left Hr7))).part (List.Sublist.append (List.Sublist.refl _) (((((List.nil_sublist _).cons_cons _).cons_cons _).cons_cons _).cons_cons _)))
  refine T.and 23 ((((accV 3 Nm.zero ([(⟨2, 0, 0, 1, 1, 0, Nm.zero, ({ Nm.zero with b0 := 1 } : Nm)⟩ : Vt)])).length : Nat) : Int) == 0) ((((accV 3 Nm.zero ([(⟨2, 0, 0, 1, 1, 0, Nm.zero, ({ Nm.zero with b0 := 1 } : Nm)⟩ : Vt), (⟨1, 0, 0, 1, 0, 0, Nm.zero, ({ Nm.zero with b0 := 1 } : Nm)⟩ : Vt)])).length : Nat) : Int) == 2) (by kernel_rfl) (by kernel_rfl) ?_
  refine T.pure 0 (.bool (((((accV 3 Nm.zero ([(⟨2, 0, 0, 1, 1, 0, Nm.zero, ({ Nm.zero with b0 := 1 } : Nm)⟩ : Vt)])).length : Nat) : Int) == 0) && ((((accV 3 Nm.zero ([(⟨2, 0, 0, 1, 1, 0, Nm.zero, ({ Nm.zero with b0 := 1 } : Nm)⟩ : Vt), (⟨1, 0, 0, 1, 0, 0, Nm.zero, ({ Nm.zero with b0 := 1 } : Nm)⟩ : Vt)])).length : Nat) : Int) == 2))) (by kernel_rfl) (fun w => by kernel_rfl) ?_
  refine T.nil ?_
  refine QN.seq ?_
  refine W.ret ?_
  refine QN.done (.inl rfl) 0 (.bool (((((accV 3 Nm.zero ([(⟨2, 0, 0, 1, 1, 0, Nm.zero, ({ Nm.zero with b0 := 1 } : Nm)⟩ : Vt)])).length : Nat) : Int) == 0) && ((((accV 3 Nm.zero ([(⟨2, 0, 0, 1, 1, 0, Nm.zero, ({ Nm.zero with b0 := 1 } : Nm)⟩ : Vt), (⟨1, 0, 0, 1, 0, 0, Nm.zero, ({ Nm.zero with b0 := 1 } : Nm)⟩ : Vt)])).length : Nat) : Int) == 2))) rfl (by kernel_rfl) (fun w hw => ⟨?_, hw.below⟩)
  exact ret_bool (by decide +kernel)
end Go.Proofs.Ythhgdkodhokefaa
