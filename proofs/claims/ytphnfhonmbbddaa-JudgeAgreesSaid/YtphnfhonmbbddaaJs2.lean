/- The judge's search, walked. -/
import Derived.Test.YtphnfhonmbbddaaJs
namespace Go.Proofs.Ytphnfhonmbbddaa
open Go Go.RowKit
set_option linter.unusedVariables false

def chJ (n : Nat) (lz : Int) (j : Nat) : List P2 := pairsV (decide (((j % n : Nat) : Int) < lz))
def lenJ (n : Nat) (lz : Int) (j : Nat) : Nat := (chJ n lz j).length
def chA (n : Nat) (lz : Int) (N : Nat) : List (List P2) := (List.range N).map (chJ n lz)
def chT (n : Nat) (lz : Int) (N j : Nat) : List (List P2) := (List.range j).map (chJ n lz) ++ List.replicate (N - j) []
/-- How many tables there are, as long as they are few. -/
def totT (n : Nat) (lz : Int) : Nat → Option Int
  | 0 => some 1
  | j + 1 => match totT n lz j with
    | none => none
    | some t => bif decide (1048576 < t * (lenJ n lz j : Int)) then none else some (t * (lenJ n lz j : Int))
def vPL (chL : List (List P2)) (dg : List Int) (i : Nat) : P2 := (chL.getD i []).getD (dg.getD i 0).toNat P2.zero
def tblP (n : Nat) (chL : List (List P2)) (dg : List Int) : List (List Int) := tabR n (fun i => (vPL chL dg i).x) dg.length
def tblC (n : Nat) (chL : List (List P2)) (dg : List Int) : List (List Int) := tabR n (fun i => (vPL chL dg i).y) dg.length
def forkB (P C : List (List Int)) : Bool := (decV P C).1 && (decV P C).2
def lessB (ls z : Int) : Bool := (decide (ls < 0)) || (decide (z < ls))
/-- One table of the search. -/
def stepS (n : Nat) (chL : List (List P2)) (s : Int × Int × List Int) : Int × Int × List Int :=
  (bif forkB (tblP n chL s.2.2) (tblC n chL s.2.2) then s.1 + 1 else s.1,
   bif forkB (tblP n chL s.2.2) (tblC n chL s.2.2) && lessB s.2.1 (size (confV (tblP n chL s.2.2) (tblC n chL s.2.2)) : Int) then (size (confV (tblP n chL s.2.2) (tblC n chL s.2.2)) : Int) else s.2.1,
   advV (chL.map fun l => (l.length : Int)) s.2.2)
def srchT (n : Nat) (chL : List (List P2)) (N : Nat) : Nat → Int × Int × List Int
  | 0 => (0, -1, List.replicate N 0)
  | k + 1 => stepS n chL (srchT n chL N k)
def badS (mm rr0 lz : Int) : Bool := (((((decide (mm < 1)) || (decide (7 < mm))) || (decide (rr0 < 1))) || (decide (3 < rr0))) || (decide (lz < 0))) || (decide (mm < lz))
/-- The search: tables, forks, least, error. -/
def searchV (mm rr0 lz : Int) : Int × Int × Int × Int := bif badS mm rr0 lz then (0, 0, 0, 1) else
  match totT mm.toNat lz (mm.toNat * rr0.toNat) with
  | none => (0, 0, 0, 5)
  | some t => (t, (srchT mm.toNat (chA mm.toNat lz (mm.toNat * rr0.toNat)) (mm.toNat * rr0.toNat) t.toNat).1, (srchT mm.toNat (chA mm.toNat lz (mm.toNat * rr0.toNat)) (mm.toNat * rr0.toNat) t.toNat).2.1, 0)
theorem pairs_len (b : Bool) : (pairsV b).length = bif b then 32 else 12 := by cases b <;> kernel_rfl
theorem lenJ_rng (n : Nat) (lz : Int) (j : Nat) : 12 ≤ lenJ n lz j ∧ lenJ n lz j ≤ 32 := by
  unfold lenJ chJ
  rw [pairs_len]
  cases (decide (((j % n : Nat) : Int) < lz)) <;> exact ⟨by decide, by decide⟩
section
variable {n N r0 j k tt : Nat} {lz tot fk ls : Int} {ol : List (Hd P2)} {dg : List Int} {tb : Tb} {mm rr0 : Int}
theorem chT_zero (n : Nat) (lz : Int) (N : Nat) : (List.replicate N (Hd.zero : Hd P2)).map Hd.l = chT n lz N 0 := by
  unfold chT
  rw [List.map_replicate]; rfl
theorem chT_step {A : Option Addr} {c : Nat} (hj : j < N) (h : ol.map Hd.l = chT n lz N j) : (ol.set j (⟨A, pairsV (decide (((j % n : Nat) : Int) < lz)), c⟩ : Hd P2)).map Hd.l = chT n lz N (j + 1) := by
  have e : N - j = (N - (j + 1)) + 1 := by omega
  rw [show (ol.set j (⟨A, pairsV (decide (((j % n : Nat) : Int) < lz)), c⟩ : Hd P2)).map Hd.l = (ol.map Hd.l).set j (pairsV (decide (((j % n : Nat) : Int) < lz))) from by rw [List.map_set], h]
  unfold chT
  rw [e, List.replicate_succ, List.set_append_right _ _ (by simp), List.length_map, List.length_range, Nat.sub_self, List.set_cons_zero, List.range_succ, List.map_append]
  simp [chJ]
theorem chT_end : chT n lz N N = chA n lz N := by unfold chT chA; simp
theorem tot_step {x : Int} (h : totT n lz j = some tot) (hx : tot * (lenJ n lz j : Int) ≤ 1048576) (e : x = tot * (lenJ n lz j : Int)) : totT n lz (j + 1) = some x := by
  have hd : decide (1048576 < tot * (lenJ n lz j : Int)) = false := decide_eq_false (by omega)
  unfold totT
  rw [h]
  simp only [hd, cond_false, e]
theorem tot_pos : ∀ {j : Nat} {tot : Int}, totT n lz j = some tot → 1 ≤ tot
  | 0, tot, h => by cases h; exact Int.le_refl _
  | j + 1, tot, h => by
    unfold totT at h
    cases ht : totT n lz j with
    | none => rw [ht] at h; cases h
    | some t =>
      rw [ht] at h
      have h1 := tot_pos ht
      have h2 := (lenJ_rng n lz j).1
      simp only at h
      cases hd : decide (1048576 < t * (lenJ n lz j : Int)) with
      | true => rw [hd] at h; cases h
      | false =>
        rw [hd, cond_false, Option.some.injEq] at h
        rw [← h]
        have := Int.mul_le_mul h1 (by omega : (1 : Int) ≤ (lenJ n lz j : Int)) (by decide) (by omega)
        omega
theorem mul_len (h1 : 1 ≤ tot) (h2 : tot ≤ 1048576) : 0 ≤ tot * (lenJ n lz j : Int) ∧ tot * (lenJ n lz j : Int) ≤ 33554432 := by
  obtain ⟨a, b⟩ := lenJ_rng n lz j
  refine ⟨Int.mul_nonneg (by omega) (by omega), ?_⟩
  have := Int.mul_le_mul h2 (by omega : (lenJ n lz j : Int) ≤ 32) (by omega) (by omega)
  omega
theorem tot_none (h : totT n lz j = some tot) (hd : decide (1048576 < tot * (lenJ n lz j : Int)) = true) (hj : j < N) : totT n lz N = none := by
  have h1 : totT n lz (j + 1) = none := by
    unfold totT
    rw [h]
    simp only [hd, cond_true]
  have : ∀ k, totT n lz (j + 1 + k) = none := fun k => by
    induction k with
    | zero => exact h1
    | succ k ih => rw [← Nat.add_assoc]; unfold totT; rw [ih]
  rw [show N = j + 1 + (N - (j + 1)) by omega]
  exact this _
theorem ch_len (h : ol.map Hd.l = chA n lz N) : ∀ x ∈ ol, x.l.length ≤ 32 := fun x hx => by
  have : x.l ∈ chA n lz N := by rw [← h]; exact List.mem_map_of_mem hx
  obtain ⟨i, _, e⟩ := List.mem_map.1 this
  rw [← e]
  exact (lenJ_rng n lz i).2
/-- The rows of the choices are owned. -/
def OwnR (ol : List (Hd P2)) (Hc : List (Nat × Obj)) : Prop := ∀ w0 H w, St w0 (Hc ++ H) w → ∀ h ∈ ol, Rd w h.A h.l
theorem own_zero (N : Nat) : OwnR (List.replicate N Hd.zero) [] := fun w0 H w hw h hh => by
  rw [(List.mem_replicate.1 hh).2]
  exact fun j hj => absurd hj (Nat.not_lt_zero _)
theorem own_set {A : Option Addr} {c : Nat} {l : List P2} {Hr Hc : List (Nat × Obj)} {tp : TypeId} (ho : OwnR ol Hc) (hr : RowIs tp 2 A l.length c (cells l) Hr) : OwnR (ol.set j ⟨A, l, c⟩) (Hr ++ Hc) := fun w0 H w hw h hh => by
  rw [List.append_assoc] at hw
  rcases List.mem_or_eq_of_mem_set hh with hh | rfl
  · exact ho w0 (Hr ++ H) w (hw.perm (List.perm_append_comm_assoc _ _ _)) h hh
  · exact (Arr.row (α := P2) hr rfl rfl _).rd hw
theorem adv_len : ∀ (ns dg : List Int), (advV ns dg).length = dg.length
  | [], dg => by cases dg <;> rfl
  | n :: ns, [] => rfl
  | n :: ns, a :: xs => by
    unfold advV
    split
    · rfl
    · rw [List.length_cons, List.length_cons, adv_len ns xs]
theorem adv_rng : ∀ {chL : List (List P2)} {dg : List Int} (h : ∀ (i : Nat) (h1 : i < dg.length) (h2 : i < chL.length), 0 ≤ dg[i] ∧ dg[i] < ((chL[i]).length : Int)), ∀ (i : Nat) (h1 : i < (advV (chL.map fun l => (l.length : Int)) dg).length) (h2 : i < chL.length), 0 ≤ (advV (chL.map fun l => (l.length : Int)) dg)[i] ∧ (advV (chL.map fun l => (l.length : Int)) dg)[i] < ((chL[i]).length : Int)
  | [], dg, h, i, h1, h2 => absurd h2 (Nat.not_lt_zero _)
  | c :: chL, [], h, i, h1, h2 => absurd h1 (Nat.not_lt_zero _)
  | c :: chL, a :: dg, h, i, h1, h2 => by
    have h0 := h 0 (by simp) (by simp)
    have hs : ∀ (i : Nat) (h1 : i < dg.length) (h2 : i < chL.length), 0 ≤ dg[i] ∧ dg[i] < ((chL[i]).length : Int) := fun i h1 h2 => h (i + 1) (by simpa using h1) (by simpa using h2)
    simp only [List.getElem_cons_zero] at h0
    by_cases hc : a + 1 < (c.length : Int)
    · have e : advV ((c :: chL).map fun l => (l.length : Int)) (a :: dg) = (a + 1) :: dg := by simp [advV, hc]
      simp only [e] at h1 ⊢
      cases i with
      | zero => exact ⟨by simp only [List.getElem_cons_zero]; omega, by simp only [List.getElem_cons_zero]; exact hc⟩
      | succ i => exact hs i (by simpa using h1) (by simpa using h2)
    · have e : advV ((c :: chL).map fun l => (l.length : Int)) (a :: dg) = 0 :: advV (chL.map fun l => (l.length : Int)) dg := by simp [advV, hc]
      simp only [e] at h1 ⊢
      cases i with
      | zero => exact ⟨Int.le_refl _, by simp only [List.getElem_cons_zero]; omega⟩
      | succ i => exact adv_rng hs i (by simpa using h1) (by simpa using h2)
theorem rng_zero (n : Nat) (lz : Int) (N : Nat) : ∀ (i : Nat) (h1 : i < (List.replicate N (0 : Int)).length) (h2 : i < (chA n lz N).length), 0 ≤ (List.replicate N (0 : Int))[i] ∧ (List.replicate N (0 : Int))[i] < (((chA n lz N)[i]).length : Int) := fun i h1 h2 => by
  have := (lenJ_rng n lz i).1
  unfold lenJ at this
  have e : (chA n lz N)[i] = chJ n lz i := by simp [chA]
  rw [List.getElem_replicate, e]
  omega
theorem dg_of {chL : List (List P2)} (hol : ol.map Hd.l = chL) (h : ∀ (i : Nat) (h1 : i < dg.length) (h2 : i < chL.length), 0 ≤ dg[i] ∧ dg[i] < ((chL[i]).length : Int)) : ∀ (k : Nat) (h1 : k < dg.length) (h2 : k < ol.length), 0 ≤ dg[k] ∧ dg[k] < (ol[k].l.length : Int) := fun k h1 h2 => by
  subst hol
  have := h k h1 (by simpa using h2)
  simpa using this
theorem lens_of {chL : List (List P2)} (hol : ol.map Hd.l = chL) : (ol.map fun h => (h.l.length : Int)) = chL.map fun l => (l.length : Int) := by
  subst hol
  rw [List.map_map]; rfl
theorem vP_of {chL : List (List P2)} (hol : ol.map Hd.l = chL) (dg : List Int) : vP ol dg = vPL chL dg := by
  subst hol
  funext i
  have e : (ol.getD i ⟨none, [], 0⟩).l = (ol.map Hd.l).getD i [] := by
    rw [List.getD_eq_getElem?_getD, List.getD_eq_getElem?_getD, List.getElem?_map]
    cases ol[i]? <;> rfl
  unfold vP vPL
  rw [e]
theorem tbl_P (n : Nat) {chL : List (List P2)} (hol : ol.map Hd.l = chL) (dg : List Int) : tabR n (vX ol dg) dg.length = tblP n chL dg := by
  unfold tblP
  have : vX ol dg = fun i => (vPL chL dg i).x := by funext i; unfold vX; rw [vP_of hol]
  rw [this]
theorem tbl_C (n : Nat) {chL : List (List P2)} (hol : ol.map Hd.l = chL) (dg : List Int) : tabR n (vY ol dg) dg.length = tblC n chL dg := by
  unfold tblC
  have : vY ol dg = fun i => (vPL chL dg i).y := by funext i; unfold vY; rw [vP_of hol]
  rw [this]
theorem not_lt_of_dec {x : Int} (h : decide (1048576 < x) = false) : x ≤ 1048576 := by have := of_decide_eq_false h; omega
theorem srch_no {chL : List (List P2)} (h : (fk, ls, dg) = srchT n chL N k) (hP : tb.P = tblP n chL dg) (hC : tb.C = tblC n chL dg) (hf : ((decV tb.P tb.C).1 && (decV tb.P tb.C).2) = false) : (fk, ls, advV (chL.map fun l => (l.length : Int)) dg) = srchT n chL N (k + 1) := by
  have h1 : forkB tb.P tb.C = false := hf
  rw [srchT, ← h]
  unfold stepS
  simp only [← hP, ← hC, h1, cond_false, Bool.false_and]
theorem srch_take {chL : List (List P2)} (h : (fk, ls, dg) = srchT n chL N k) (hP : tb.P = tblP n chL dg) (hC : tb.C = tblC n chL dg) (hf : ((decV tb.P tb.C).1 && (decV tb.P tb.C).2) = true) (hl : ((decide (ls < 0)) || (decide ((size (confV tb.P tb.C) : Int) < ls))) = true) : (fk + 1, (size (confV tb.P tb.C) : Int), advV (chL.map fun l => (l.length : Int)) dg) = srchT n chL N (k + 1) := by
  have h1 : forkB tb.P tb.C = true := hf
  have h2 : lessB ls (size (confV tb.P tb.C) : Int) = true := hl
  rw [srchT, ← h]
  unfold stepS
  simp only [← hP, ← hC, h1, h2, cond_true, Bool.and_true]
theorem srch_keep {chL : List (List P2)} (h : (fk, ls, dg) = srchT n chL N k) (hP : tb.P = tblP n chL dg) (hC : tb.C = tblC n chL dg) (hf : ((decV tb.P tb.C).1 && (decV tb.P tb.C).2) = true) (hl : ((decide (ls < 0)) || (decide ((size (confV tb.P tb.C) : Int) < ls))) = false) : (fk + 1, ls, advV (chL.map fun l => (l.length : Int)) dg) = srchT n chL N (k + 1) := by
  have h1 : forkB tb.P tb.C = true := hf
  have h2 : lessB ls (size (confV tb.P tb.C) : Int) = false := hl
  rw [srchT, ← h]
  unfold stepS
  simp only [← hP, ← hC, h1, h2, cond_true, cond_false, Bool.and_false]
theorem search_bad (h : ((((((decide (mm < 1)) || (decide (7 < mm))) || (decide (rr0 < 1))) || (decide (3 < rr0))) || (decide (lz < 0))) || (decide (mm < lz))) = true) : searchV mm rr0 lz = (0, 0, 0, 1) := by
  have h1 : badS mm rr0 lz = true := h
  unfold searchV; rw [h1]; rfl
theorem search_full (h : ((((((decide ((n : Int) < 1)) || (decide (7 < (n : Int)))) || (decide ((r0 : Int) < 1))) || (decide (3 < (r0 : Int)))) || (decide (lz < 0))) || (decide ((n : Int) < lz))) = false) (hN : N = n * r0) (ht : totT n lz N = none) : searchV (n : Int) (r0 : Int) lz = (0, 0, 0, 5) := by
  have h1 : badS (n : Int) (r0 : Int) lz = false := h
  unfold searchV
  rw [h1, cond_false, Int.toNat_natCast, Int.toNat_natCast, ← hN, ht]
theorem search_ok (h : ((((((decide ((n : Int) < 1)) || (decide (7 < (n : Int)))) || (decide ((r0 : Int) < 1))) || (decide (3 < (r0 : Int)))) || (decide (lz < 0))) || (decide ((n : Int) < lz))) = false) (hN : N = n * r0) (ht : totT n lz N = some (tt : Int)) (hs : (fk, ls, dg) = srchT n (chA n lz N) N tt) : searchV (n : Int) (r0 : Int) lz = ((tt : Int), fk, ls, 0) := by
  have h1 : badS (n : Int) (r0 : Int) lz = false := h
  unfold searchV
  rw [h1, cond_false, Int.toNat_natCast, Int.toNat_natCast, ← hN, ht]
  simp only [Int.toNat_natCast, ← hs]
end
set_option maxRecDepth 100000 in
set_option maxHeartbeats 2000000 in
theorem search_c (mm rr0 lz : Int) (w : World) : Calls Try.prog 21 #[.int .i64 mm, .int .i64 rr0, .int .i64 lz] w (fun rr w' => rr = .returned (.tuple #[.agg #[.int .i64 (searchV mm rr0 lz).1, .int .i64 (searchV mm rr0 lz).2.1, .int .i64 (searchV mm rr0 lz).2.2.1], .int .i64 (searchV mm rr0 lz).2.2.2]) ∧ Below w.heap.size w w') := by
 refine calls_W (n := 114) Try.func21 rfl [(0, .int .i64 mm), (1, .int .i64 rr0), (2, .int .i64 lz)] rfl ⟨by kernel_rfl, by kernel_rfl⟩ (W.weak (Ψ := St w []) (fun w' h => by rw [h]; exact St.start w) (W.seq (W.rg od2 (T.al 6 37 #[.int .i64 0, .int .i64 0, .int .i64 0] tv3 (fun b1 => T.pi 7 0 (T.nil (QN.seq (W.seq (W.seq (W.rg od23 (T.pi 17 mm (T.pb 18 (decide (mm < 1)) (T.pb 19 (decide (mm < 1)) (T.bk [(3, false), (4, false)] [(5, false), (6, false), (7, false), (8, false), (9, false), (10, false), (11, false), (12, false), (13, false), (14, false), (15, false), (16, false), (17, false), (18, false), (19, false), (20, false), (21, false), (22, false)] 2 false (decide (mm < 1)) 19 21 (.bool (decide (7 < mm))) (fun hg2 => ?_) ?_))))))))))))))
 ·
  have hg2_ := hg2
  have hg2' := of_decide_eq_false hg2
  refine T.pi 20 mm (T.pb 21 (decide (7 < mm)) ?_)
  exact T.blkEnd (by kernel_rfl) (fun w h => h)
 refine T.oo 22 (decide (mm < 1)) (decide (7 < mm)) (T.pb 23 ((decide (mm < 1)) || (decide (7 < mm))) (T.bk [(7, false), (8, false)] [(9, false), (10, false), (11, false), (12, false), (13, false), (14, false), (15, false), (16, false), (17, false), (18, false), (19, false), (20, false), (21, false), (22, false)] 6 false ((decide (mm < 1)) || (decide (7 < mm))) 23 25 (.bool (decide (rr0 < 1))) (fun hg3 => ?_) ?_))
 ·
  have hg3_ := hg3
  have hg3l := (Bool.or_eq_false_iff.1 hg3).1
  have hg3r := (Bool.or_eq_false_iff.1 hg3).2
  have hg3l' := of_decide_eq_false hg3l
  have hg3r' := of_decide_eq_false hg3r
  refine T.pi 24 rr0 (T.pb 25 (decide (rr0 < 1)) ?_)
  exact T.blkEnd (by kernel_rfl) (fun w h => h)
 refine T.oo 26 ((decide (mm < 1)) || (decide (7 < mm))) (decide (rr0 < 1)) (T.pb 27 (((decide (mm < 1)) || (decide (7 < mm))) || (decide (rr0 < 1))) (T.bk [(11, false), (12, false)] [(13, false), (14, false), (15, false), (16, false), (17, false), (18, false), (19, false), (20, false), (21, false), (22, false)] 10 false (((decide (mm < 1)) || (decide (7 < mm))) || (decide (rr0 < 1))) 27 29 (.bool (decide (3 < rr0))) (fun hg4 => ?_) ?_))
 ·
  have hg4_ := hg4
  have hg4l := (Bool.or_eq_false_iff.1 hg4).1
  have hg4r := (Bool.or_eq_false_iff.1 hg4).2
  have hg4ll := (Bool.or_eq_false_iff.1 hg4l).1
  have hg4lr := (Bool.or_eq_false_iff.1 hg4l).2
  have hg4ll' := of_decide_eq_false hg4ll
  have hg4lr' := of_decide_eq_false hg4lr
  have hg4r' := of_decide_eq_false hg4r
  refine T.pi 28 rr0 (T.pb 29 (decide (3 < rr0)) ?_)
  exact T.blkEnd (by kernel_rfl) (fun w h => h)
 refine T.oo 30 (((decide (mm < 1)) || (decide (7 < mm))) || (decide (rr0 < 1))) (decide (3 < rr0)) (T.pb 31 ((((decide (mm < 1)) || (decide (7 < mm))) || (decide (rr0 < 1))) || (decide (3 < rr0))) (T.bk [(15, false), (16, false)] [(17, false), (18, false), (19, false), (20, false), (21, false), (22, false)] 14 false ((((decide (mm < 1)) || (decide (7 < mm))) || (decide (rr0 < 1))) || (decide (3 < rr0))) 31 33 (.bool (decide (lz < 0))) (fun hg5 => ?_) ?_))
 ·
  have hg5_ := hg5
  have hg5l := (Bool.or_eq_false_iff.1 hg5).1
  have hg5r := (Bool.or_eq_false_iff.1 hg5).2
  have hg5ll := (Bool.or_eq_false_iff.1 hg5l).1
  have hg5lr := (Bool.or_eq_false_iff.1 hg5l).2
  have hg5lll := (Bool.or_eq_false_iff.1 hg5ll).1
  have hg5llr := (Bool.or_eq_false_iff.1 hg5ll).2
  have hg5lll' := of_decide_eq_false hg5lll
  have hg5llr' := of_decide_eq_false hg5llr
  have hg5lr' := of_decide_eq_false hg5lr
  have hg5r' := of_decide_eq_false hg5r
  refine T.pi 32 lz (T.pb 33 (decide (lz < 0)) ?_)
  exact T.blkEnd (by kernel_rfl) (fun w h => h)
 refine T.oo 34 ((((decide (mm < 1)) || (decide (7 < mm))) || (decide (rr0 < 1))) || (decide (3 < rr0))) (decide (lz < 0)) (T.pb 35 (((((decide (mm < 1)) || (decide (7 < mm))) || (decide (rr0 < 1))) || (decide (3 < rr0))) || (decide (lz < 0))) (T.bk [(19, false), (20, false), (21, false)] [(22, false)] 18 false (((((decide (mm < 1)) || (decide (7 < mm))) || (decide (rr0 < 1))) || (decide (3 < rr0))) || (decide (lz < 0))) 35 38 (.bool (decide (mm < lz))) (fun hg6 => ?_) ?_))
 ·
  have hg6_ := hg6
  have hg6l := (Bool.or_eq_false_iff.1 hg6).1
  have hg6r := (Bool.or_eq_false_iff.1 hg6).2
  have hg6ll := (Bool.or_eq_false_iff.1 hg6l).1
  have hg6lr := (Bool.or_eq_false_iff.1 hg6l).2
  have hg6lll := (Bool.or_eq_false_iff.1 hg6ll).1
  have hg6llr := (Bool.or_eq_false_iff.1 hg6ll).2
  have hg6llll := (Bool.or_eq_false_iff.1 hg6lll).1
  have hg6lllr := (Bool.or_eq_false_iff.1 hg6lll).2
  have hg6llll' := of_decide_eq_false hg6llll
  have hg6lllr' := of_decide_eq_false hg6lllr
  have hg6llr' := of_decide_eq_false hg6llr
  have hg6lr' := of_decide_eq_false hg6lr
  have hg6r' := of_decide_eq_false hg6r
  refine T.pi 36 lz (T.pi 37 mm (T.pb 38 (decide (mm < lz)) ?_))
  exact T.blkEnd (by kernel_rfl) (fun w h => h)
 refine T.oo 39 (((((decide (mm < 1)) || (decide (7 < mm))) || (decide (rr0 < 1))) || (decide (3 < rr0))) || (decide (lz < 0))) (decide (mm < lz)) (T.nil (QN.seq (W.cd ((((((decide (mm < 1)) || (decide (7 < mm))) || (decide (rr0 < 1))) || (decide (3 < rr0))) || (decide (lz < 0))) || (decide (mm < lz))) (fun h7 => ?_) (fun h7 => ?_))))
 ·
  refine W.seq (W.rg od3 (T.pu 40 (.agg #[.int .i64 0, .int .i64 0, .int .i64 0]) (T.sp 37 b1 0 (.agg #[.int .i64 0, .int .i64 0, .int .i64 0]) #[.int .i64 0, .int .i64 0, .int .i64 0] #[.int .i64 0, .int .i64 0, .int .i64 0] 37 pm0 tv2 (T.pi 7 1 (T.nil (QN.seq (W.ret (QN.thenRet (QN.doneC2 (.inl rfl) 6 7 37 b1 #[.int .i64 0, .int .i64 0, .int .i64 0] (.int .i64 1) _ rfl (by kernel_rfl) (by kernel_rfl) Try.underlying37 (by kernel_rfl) (by kernel_rfl) (fun w hw => St.rangeM hw #[.int .i64 0, .int .i64 0, .int .i64 0] mm0 (by kernel_rfl)) (fun w hw => ⟨?_, hw.below⟩))))))))))
  exact (by rw [search_bad h7])
 ·
  have h7l := (Bool.or_eq_false_iff.1 h7).1
  have h7r := (Bool.or_eq_false_iff.1 h7).2
  have h7ll := (Bool.or_eq_false_iff.1 h7l).1
  have h7lr := (Bool.or_eq_false_iff.1 h7l).2
  have h7lll := (Bool.or_eq_false_iff.1 h7ll).1
  have h7llr := (Bool.or_eq_false_iff.1 h7ll).2
  have h7llll := (Bool.or_eq_false_iff.1 h7lll).1
  have h7lllr := (Bool.or_eq_false_iff.1 h7lll).2
  have h7lllll := (Bool.or_eq_false_iff.1 h7llll).1
  have h7llllr := (Bool.or_eq_false_iff.1 h7llll).2
  have h7lllll' := of_decide_eq_false h7lllll
  have h7llllr' := of_decide_eq_false h7llllr
  have h7lllr' := of_decide_eq_false h7lllr
  have h7llr' := of_decide_eq_false h7llr
  have h7lr' := of_decide_eq_false h7lr
  have h7r' := of_decide_eq_false h7r
  refine W.skip (QN.seq (W.seq (W.rg od5 ?_)))
  obtain ⟨n, hn_⟩ : ∃ n : Nat, mm = (n : Int) := ⟨mm.toNat, by omega⟩
  subst hn_
  obtain ⟨r0, hr_⟩ : ∃ r0 : Nat, rr0 = (r0 : Int) := ⟨rr0.toNat, by omega⟩
  subst hr_
  obtain ⟨N, hN⟩ : ∃ N : Nat, N = n * r0 := ⟨_, rfl⟩
  have hn1 : 1 ≤ n := by omega
  have hn7 : n ≤ 7 := by omega
  have hN21 : N ≤ 21 := by rw [hN]; exact (Nat.mul_le_mul hn7 (by omega : r0 ≤ 3))
  have hz0 : 0 ≤ lz := by omega
  refine T.pi 41 n (T.pi 42 r0 (T.pe 43 (.int .i64 (IntKind.i64.wrap ((n : Int) * (r0 : Int)))) (.int .i64 N) (by rw [hN]; exact wrap_int (by omega) (by rw [← Int.natCast_mul]; omega)) (T.make 44 81 82 24 (N : Int) N (Hd.zero : (Hd P2)) (.slice none 0 0) (List.replicate N (Hd.zero : (Hd P2))) rfl (by kernel_rfl) (fun w => by kernel_rfl) (by kernel_rfl) (by kernel_rfl) (by kernel_rfl) (by kernel_rfl) rfl (by omega) (by omega) (by omega) tv3 (fun b8 => ?_))))
  have hrl9 : (List.replicate N (Hd.zero : (Hd P2)) : List (Hd P2)).length = N := List.length_replicate
  refine T.pu 8 (.slice (some ⟨b8, 0, none⟩) ((List.replicate N (Hd.zero : (Hd P2)) : List (Hd P2)).length) ((List.replicate N (Hd.zero : (Hd P2)) : List (Hd P2)).length)) (T.nil (QN.seq (W.seq (W.rg od1 (T.pi 9 1 (T.nil (QN.seq (W.seq (W.seq (W.rg od3 (T.pu 45 (.slice (some ⟨b8, 0, none⟩) ((List.replicate N (Hd.zero : (Hd P2)) : List (Hd P2)).length) ((List.replicate N (Hd.zero : (Hd P2)) : List (Hd P2)).length)) (T.pi 46 (((List.replicate N (Hd.zero : (Hd P2)) : List (Hd P2)).length : Nat) : Int) (T.pi 47 0 (T.nil (QN.seq (W.block (W.loop (σ := Nat × List (Hd P2) × Int × List (Nat × Obj)) (fun gs => gs.1 ≤ N ∧ gs.2.1.length = N ∧ gs.2.1.map Hd.l = chT n lz N gs.1 ∧ totT n lz gs.1 = some gs.2.2.1 ∧ gs.2.2.1 ≤ 1048576 ∧ OwnR gs.2.1 gs.2.2.2) (fun gs => [(0, .int .i64 n), (2, .int .i64 lz), (6, .pointer (some ⟨b1, 0, none⟩)), (8, .slice (some ⟨b8, 0, none⟩) ((List.replicate N (Hd.zero : (Hd P2)) : List (Hd P2)).length) ((List.replicate N (Hd.zero : (Hd P2)) : List (Hd P2)).length)), (9, .int .i64 gs.2.2.1), (46, .int .i64 (((List.replicate N (Hd.zero : (Hd P2)) : List (Hd P2)).length : Nat) : Int)), (47, .int .i64 (gs.1 : Int))]) (fun gs => St w ((b8, lstB 82 (gs.2.1 : List (Hd P2))) :: (gs.2.2.2 ++ [(b1, Obj.cells #[.int .i64 0, .int .i64 0, .int .i64 0] 37 (0, 0))]))) (fun gs => N - gs.1) (0, List.replicate N Hd.zero, 1, []) ?_ (by kernel_rfl) (fun w h => h) ?_)))))))))))))))))
  ·
   try dsimp only
   exact ⟨Nat.zero_le _, List.length_replicate, chT_zero n lz N, rfl, by omega, own_zero N⟩
  rintro ⟨j, ol, tot, Hc⟩ hI_
  obtain ⟨hj, holn, hol, htt, htl, hown⟩ : j ≤ N ∧ ol.length = N ∧ ol.map Hd.l = chT n lz N j ∧ totT n lz j = some tot ∧ tot ≤ 1048576 ∧ OwnR ol Hc := hI_
  have ht1 := tot_pos htt
  refine W.seq (W.rg od1 (T.pb 48 (decide ((j : Int) < (((List.replicate N (Hd.zero : (Hd P2)) : List (Hd P2)).length : Nat) : Int))) (T.nil (QN.seq (W.seq (W.cd (decide ((j : Int) < (((List.replicate N (Hd.zero : (Hd P2)) : List (Hd P2)).length : Nat) : Int))) (fun h10 => ?_) (fun h10 => ?_)))))))
  ·
   have h10' := of_decide_eq_true h10
   have hl11 : j < (List.replicate N (Hd.zero : (Hd P2)) : List (Hd P2)).length := by omega
   refine W.skip (QN.seq (W.seq (W.block (W.seq (W.rg od2 (T.pi 49 j (T.pi 10 j (T.nil (QN.seq (W.seq (W.rg od10 (T.pu 50 (.slice (some ⟨b8, 0, none⟩) ((List.replicate N (Hd.zero : (Hd P2)) : List (Hd P2)).length) ((List.replicate N (Hd.zero : (Hd P2)) : List (Hd P2)).length)) (T.pi 51 j (T.pi 52 j (T.pi 53 n (T.rem 54 .i64 (j : Int) (n : Int) (.int .i64 ((j % n : Nat) : Int)) (by kernel_rfl) (by kernel_rfl) (by omega) (remN_int (by omega)) (T.pi 55 lz (T.pb 56 (decide (((j % n : Nat) : Int) < lz)) (T.callR 57 47 #[.bool (decide (((j % n : Nat) : Int) < lz))] 105 2 (pairsV (decide (((j % n : Nat) : Int) < lz))).length (cells (pairsV (decide (((j % n : Nat) : Int) < lz)))) (by kernel_rfl) (by kernel_rfl) ent47 (fun w hw => pairs_c (decide (((j % n : Nat) : Int) < lz)) w) tv3 (fun A12 c13 Hr14 hrow15 => ?_))))))))))))))))))))
   have hl20 : j < ol.length := by omega
   refine T.ix 58 81 82 1 (some ⟨b8, 0, none⟩) ((List.replicate N (Hd.zero : (Hd P2)) : List (Hd P2)).length) ((List.replicate N (Hd.zero : (Hd P2)) : List (Hd P2)).length) (j : Int) j b8 0 rfl rfl (by omega) (T.setL 82 82 b8 (0 + j * 1) (⟨A12, pairsV (decide (((j % n : Nat) : Int) < lz)), c13⟩ : Hd P2) (.slice A12 ((pairsV (decide (((j % n : Nat) : Int) < lz))).length) c13) (ol : List (Hd P2)) (ol.set j (⟨A12, pairsV (decide (((j % n : Nat) : Int) < lz)), c13⟩ : Hd P2)) j ((pm0.append_left Hr14).trans List.perm_middle) hl20 rfl (by kernel_rfl) (Nat.zero_add _) (by kernel_rfl) (by kernel_rfl) (by kernel_rfl) tv2 (T.nil (QN.seq (W.seq (W.rg od8 (T.pi 59 tot (T.pu 60 (.slice (some ⟨b8, 0, none⟩) ((List.replicate N (Hd.zero : (Hd P2)) : List (Hd P2)).length) ((List.replicate N (Hd.zero : (Hd P2)) : List (Hd P2)).length)) (T.pi 61 j ?_))))))))
   have hls : j < (ol.set j (⟨A12, pairsV (decide (((j % n : Nat) : Int) < lz)), c13⟩ : Hd P2)).length := by rw [List.length_set]; omega
   have hel : (((ol.set j (⟨A12, pairsV (decide (((j % n : Nat) : Int) < lz)), c13⟩ : Hd P2))[j]'hls).l.length : Int) = (lenJ n lz j : Int) := by rw [List.getElem_set_self]; rfl
   refine T.ix 62 81 82 1 (some ⟨b8, 0, none⟩) ((List.replicate N (Hd.zero : (Hd P2)) : List (Hd P2)).length) ((List.replicate N (Hd.zero : (Hd P2)) : List (Hd P2)).length) (j : Int) j b8 0 rfl rfl (by omega) (T.ld false 63 (.slice (((ol.set j (⟨A12, pairsV (decide (((j % n : Nat) : Int) < lz)), c13⟩ : Hd P2))[j]'hls).A) (((ol.set j (⟨A12, pairsV (decide (((j % n : Nat) : Int) < lz)), c13⟩ : Hd P2))[j]'hls).l.length) (((ol.set j (⟨A12, pairsV (decide (((j % n : Nat) : Int) < lz)), c13⟩ : Hd P2))[j]'hls).c)) 82 b8 (0 + j * 1) (fun w h => cell_of_range ((rangeL (ty := 82) mm0 hls) w h) 0 (by kernel_rfl)) (T.pi 64 ((((ol.set j (⟨A12, pairsV (decide (((j % n : Nat) : Int) < lz)), c13⟩ : Hd P2))[j]'hls).l.length : Nat) : Int) ?_))
   have hmul := mul_len (n := n) (lz := lz) (j := j) ht1 htl
   refine T.pe 65 (.int .i64 (IntKind.i64.wrap (tot * ((((ol.set j (⟨A12, pairsV (decide (((j % n : Nat) : Int) < lz)), c13⟩ : Hd P2))[j]'hls).l.length : Nat) : Int)))) (.int .i64 (tot * (lenJ n lz j : Int))) (by rw [hel]; exact wrap_int (by omega) (by omega)) (T.pi 9 (tot * (lenJ n lz j : Int)) (T.nil (QN.seq (W.seq (W.rg od2 (T.pi 66 (tot * (lenJ n lz j : Int)) (T.pb 67 (decide (1048576 < (tot * (lenJ n lz j : Int)))) (T.nil (QN.seq (W.cd (decide (1048576 < (tot * (lenJ n lz j : Int)))) (fun h25 => ?_) (fun h25 => ?_)))))))))))
   ·
    have h25' := of_decide_eq_true h25
    refine W.seq (W.rg od3 (T.pu 68 (.agg #[.int .i64 0, .int .i64 0, .int .i64 0]) (T.sp 37 b1 0 (.agg #[.int .i64 0, .int .i64 0, .int .i64 0]) #[.int .i64 0, .int .i64 0, .int .i64 0] #[.int .i64 0, .int .i64 0, .int .i64 0] 37 ((((((pm0.append_left Hc).trans List.perm_middle).append_left Hr14).trans List.perm_middle).cons _).trans (List.Perm.swap _ _ _)) tv2 (T.pi 7 5 (T.nil (QN.seq (W.ret (QN.blkRet (QN.thenRet (QN.thenRet (QN.blkRet (QN.thenRet (QN.doneC2 (.inl rfl) 6 7 37 b1 #[.int .i64 0, .int .i64 0, .int .i64 0] (.int .i64 5) _ rfl (by kernel_rfl) (by kernel_rfl) Try.underlying37 (by kernel_rfl) (by kernel_rfl) (fun w hw => St.rangeM hw #[.int .i64 0, .int .i64 0, .int .i64 0] mm0 (by kernel_rfl)) (fun w hw => ⟨?_, hw.below⟩))))))))))))))
    exact (by rw [search_full h7 hN (tot_none htt h25 (by omega))])
   ·
    have h25' := of_decide_eq_false h25
    refine W.skip (QN.blkNormal (QN.seq (W.rg od2 (T.pw 69 ((j : Int) + 1) (T.pi 47 ((j : Int) + 1) (T.nil (QN.back (j + 1, ol.set j (⟨A12, pairsV (decide (((j % n : Nat) : Int) < lz)), c13⟩ : Hd P2), tot * (lenJ n lz j : Int), (Hr14 ++ Hc)) ?_ ?_ (by kernel_rfl) (fun u h => (show St w ((b8, lstB 82 (ol.set j (⟨A12, pairsV (decide (((j % n : Nat) : Int) < lz)), c13⟩ : Hd P2) : List (Hd P2))) :: ((Hr14 ++ Hc) ++ [(b1, Obj.cells #[.int .i64 0, .int .i64 0, .int .i64 0] 37 (0, 0))])) u from by rw [List.append_assoc]; exact h)))))))))
    ·
     try dsimp only
     exact ⟨by omega, by rw [List.length_set]; exact holn, by rw [chT_step (by omega) hol], tot_step htt (not_lt_of_dec h25) rfl, not_lt_of_dec h25, own_set hown hrow15⟩
    · show N - _ < N - _; omega
  ·
   have h10' := of_decide_eq_false h10
   refine W.exit (QN.thenExit (QN.thenExit (QN.blkHit (QN.seq (W.seq (W.rg od4 ?_))))))
   have hjN : j = N := by omega
   rw [hjN] at hol htt
   rw [chT_end] at hol
   have hchl := ch_len hol
   obtain ⟨tt, htt_⟩ : ∃ tt : Nat, tot = (tt : Int) := ⟨tot.toNat, by omega⟩
   subst htt_
   refine T.pu 70 (.slice (some ⟨b8, 0, none⟩) ((List.replicate N (Hd.zero : (Hd P2)) : List (Hd P2)).length) ((List.replicate N (Hd.zero : (Hd P2)) : List (Hd P2)).length)) (T.pe 71 (.int .i64 (((List.replicate N (Hd.zero : (Hd P2)) : List (Hd P2)).length : Nat) : Int)) (.int .i64 N) (by rw [List.length_replicate]) (T.make 72 45 3 8 (N : Int) N (0 : Int) (.int .i64 0) (List.replicate N (0 : Int)) rfl (by kernel_rfl) (fun w => by kernel_rfl) (by kernel_rfl) (by kernel_rfl) (by kernel_rfl) (by kernel_rfl) rfl (by omega) (by omega) (by omega) tv3 (fun b26 => ?_)))
   have hrl27 : (List.replicate N (0 : Int) : List Int).length = N := List.length_replicate
   refine T.pu 11 (.slice (some ⟨b26, 0, none⟩) ((List.replicate N (0 : Int) : List Int).length) ((List.replicate N (0 : Int) : List Int).length)) (T.nil (QN.seq (W.seq (W.rg od4 (T.pi 73 tt (T.pu 74 (.agg #[.int .i64 tt, .int .i64 0, .int .i64 (-1)]) (T.al 12 37 #[.int .i64 0, .int .i64 0, .int .i64 0] tv3 (fun b28 => T.sp 37 b28 0 (.agg #[.int .i64 tt, .int .i64 0, .int .i64 (-1)]) #[.int .i64 0, .int .i64 0, .int .i64 0] #[.int .i64 tt, .int .i64 0, .int .i64 (-1)] 37 pm0 tv2 (T.nil (QN.seq (W.seq (W.seq (W.rg od2 (T.pi 75 tt (T.pi 76 0 (T.nil (QN.seq (W.block (W.cast 8 (.slice (some ⟨b8, 0, none⟩) ((List.replicate N (Hd.zero : (Hd P2)) : List (Hd P2)).length) ((List.replicate N (Hd.zero : (Hd P2)) : List (Hd P2)).length)) (.slice (some ⟨b8, 0, none⟩) (ol.length) (ol.length)) (by kernel_rfl) (by rw [show (List.replicate N (Hd.zero : (Hd P2)) : List (Hd P2)).length = ol.length from by rw [List.length_replicate, holn]]) (W.loop (σ := Nat × Int × Int × List Int) (fun gs => gs.1 ≤ tt ∧ (gs.2.1, gs.2.2.1, gs.2.2.2) = srchT n (chA n lz N) N gs.1 ∧ gs.2.2.2.length = N ∧ (∀ (i : Nat) (h1 : i < gs.2.2.2.length) (h2 : i < (chA n lz N).length), 0 ≤ gs.2.2.2[i] ∧ gs.2.2.2[i] < (((chA n lz N)[i]).length : Int)) ∧ 0 ≤ gs.2.1 ∧ gs.2.1 ≤ (gs.1 : Int)) (fun gs => [(0, .int .i64 n), (6, .pointer (some ⟨b1, 0, none⟩)), (8, .slice (some ⟨b8, 0, none⟩) (ol.length) (ol.length)), (11, .slice (some ⟨b26, 0, none⟩) (gs.2.2.2.length) (gs.2.2.2.length)), (12, .pointer (some ⟨b28, 0, none⟩)), (75, .int .i64 tt), (76, .int .i64 (gs.1 : Int))]) (fun gs => St w ((b28, Obj.cells #[.int .i64 tt, .int .i64 gs.2.1, .int .i64 gs.2.2.1] 37 (0, 0)) :: ((b26, lstB 3 (gs.2.2.2 : List Int)) :: ((b8, lstB 82 (ol : List (Hd P2))) :: (Hc ++ [(b1, Obj.cells #[.int .i64 0, .int .i64 0, .int .i64 0] 37 (0, 0))]))))) (fun gs => tt - gs.1) (0, 0, -1, List.replicate N 0) ?_ (by kernel_rfl) (fun w h => h) ?_))))))))))))))))))))
   ·
    try dsimp only
    exact ⟨Nat.zero_le _, rfl, List.length_replicate, rng_zero n lz N, Int.le_refl _, Int.le_refl _⟩
   rintro ⟨k, fk, ls, dg⟩ hI_
   obtain ⟨hk, hsr, hdl, hdr, hf0, hfk⟩ : k ≤ tt ∧ (fk, ls, dg) = srchT n (chA n lz N) N k ∧ dg.length = N ∧ (∀ (i : Nat) (h1 : i < dg.length) (h2 : i < (chA n lz N).length), 0 ≤ dg[i] ∧ dg[i] < (((chA n lz N)[i]).length : Int)) ∧ 0 ≤ fk ∧ fk ≤ (k : Int) := hI_
   refine W.seq (W.rg od1 (T.pb 77 (decide ((k : Int) < (tt : Int))) (T.nil (QN.seq (W.seq (W.cd (decide ((k : Int) < (tt : Int))) (fun h29 => ?_) (fun h29 => ?_)))))))
   ·
    have h29' := of_decide_eq_true h29
    refine W.skip (QN.seq (W.seq (W.block (W.seq (W.rg od6 (T.pu 78 (.slice (some ⟨b8, 0, none⟩) (ol.length) (ol.length)) (T.pu 79 (.slice (some ⟨b26, 0, none⟩) (dg.length) (dg.length)) (T.pi 80 n (T.callG (β := Tb × List (Nat × Obj)) 81 48 #[.slice (some ⟨b8, 0, none⟩) (ol.length) (ol.length), .slice (some ⟨b26, 0, none⟩) (dg.length) (dg.length), .int .i64 n] (fun gs => .agg gs.1.cs) (fun gs => St w (gs.2 ++ ((b28, Obj.cells #[.int .i64 tt, .int .i64 fk, .int .i64 ls] 37 (0, 0)) :: ((b26, lstB 3 (dg : List Int)) :: ((b8, lstB 82 (ol : List (Hd P2))) :: (Hc ++ [(b1, Obj.cells #[.int .i64 0, .int .i64 0, .int .i64 0] 37 (0, 0))])))))) (fun gs => gs.1.P = tblP n (chA n lz N) dg ∧ gs.1.C = tblC n (chA n lz N) dg ∧ TbLen gs.1 ∧ TbOwn gs.1 gs.2) (by kernel_rfl) (by kernel_rfl) ent48 ?_ tv3 ?_)))))))))
    · exact fun w hw => (table_c ol (some ⟨b8, 0, none⟩) (ol.length) dg (some ⟨b26, 0, none⟩) (dg.length) n w (Arr.rd (Arr.ofL (ty := 82) mm2) hw) (hown _ _ w ((hw.perm ((((((pm0.cons _).trans List.perm_middle.symm).cons _).trans List.perm_middle.symm).cons _).trans List.perm_middle.symm)).part (List.Sublist.append (List.Sublist.refl _) (List.nil_sublist _)))) (Arr.rd (Arr.ofL (ty := 3) mm1) hw) hchl (by omega) (by omega) hn1 hn7 (dg_of hol hdr)).mono fun r w' ⟨tb, Ht, h1, h2, h3, h4, h5, h6⟩ => ⟨(tb, Ht), ⟨h2.trans (tbl_P n hol dg), h3.trans (tbl_C n hol dg), h4, h5⟩, h1, hw.join h6⟩
    rintro ⟨tb30, Ht31⟩ hp_
    have hp32 : tb30.P = tblP n (chA n lz N) dg ∧ tb30.C = tblC n (chA n lz N) dg ∧ TbLen tb30 ∧ TbOwn tb30 Ht31 := hp_
    refine T.al 13 24 Tb.zero.cs tv3 (fun b33 => T.sp 24 b33 0 (.agg tb30.cs) Tb.zero.cs tb30.cs 24 pm0 tv2 (T.nil (QN.seq (W.seq (W.seq (W.rg od7 (T.lr false 83 tb30.cs 24 b33 0 (fun w h => St.rangeM h tb30.cs mm0 (by kernel_rfl)) (T.cp 84 13 #[.agg tb30.cs] (.tuple #[.bool ((decV tb30.P tb30.C).1), .bool ((decV tb30.P tb30.C).2)]) ent13 (fun w hw => jdec_c tb30 w (TbOwn.rd hp32.2.2.2 ((hw.perm ((pm0.cons _).trans List.perm_middle.symm)).part (List.Sublist.append (List.Sublist.refl _) (List.nil_sublist _)))) hp32.2.2.1) tv2 (T.pu 82 (.tuple #[.bool ((decV tb30.P tb30.C).1), .bool ((decV tb30.P tb30.C).2)]) (T.pb 85 ((decV tb30.P tb30.C).1) (T.pb 86 ((decV tb30.P tb30.C).2) (T.pb 14 ((decV tb30.P tb30.C).1) (T.pb 15 ((decV tb30.P tb30.C).2) (T.nil (QN.seq (W.seq (W.rg od4 (T.pb 87 ((decV tb30.P tb30.C).1) (T.pb 88 ((decV tb30.P tb30.C).1) (T.bk [(2, false)] [(3, false)] 1 true ((decV tb30.P tb30.C).1) 88 89 (.bool ((decV tb30.P tb30.C).2)) (fun hg34 => ?_) ?_))))))))))))))))))))
    ·
     have hg34_ := hg34
     refine T.pb 89 ((decV tb30.P tb30.C).2) ?_
     exact T.blkEnd (by kernel_rfl) (fun w h => h)
    refine T.an 90 ((decV tb30.P tb30.C).1) ((decV tb30.P tb30.C).2) (T.nil (QN.seq (W.cd (((decV tb30.P tb30.C).1) && ((decV tb30.P tb30.C).2)) (fun h35 => ?_) (fun h35 => ?_))))
    ·
     have h35l := (Bool.and_eq_true_iff.1 h35).1
     have h35r := (Bool.and_eq_true_iff.1 h35).2
     refine W.seq (W.rg od5 (T.pu 91 (.pointer (some ⟨b28, 1, none⟩)) (T.ld false 92 (.int .i64 fk) 3 b28 1 (fun w h => St.cellM h (.tail _ (List.mem_append_right _ mm0)) (by kernel_rfl)) (T.pw 93 (fk + 1) (T.pu 94 (.pointer (some ⟨b28, 1, none⟩)) (T.sp 3 b28 1 (.int .i64 (fk + 1)) #[.int .i64 tt, .int .i64 fk, .int .i64 ls] #[.int .i64 tt, .int .i64 (fk + 1), .int .i64 ls] 37 ((((pm0.append_left Ht31).trans List.perm_middle).cons _).trans (List.Perm.swap _ _ _)) tv2 (T.nil (QN.seq (W.seq (W.rg od4 (T.lr false 95 tb30.cs 24 b33 0 (fun w h => St.rangeM h tb30.cs mm1 (by kernel_rfl)) (T.cp 96 18 #[.agg tb30.cs] (.int .i64 (confV tb30.P tb30.C)) ent18 (fun w hw => jconf_c tb30 w (TbOwn.rd hp32.2.2.2 ((hw.perm ((((pm0.cons _).trans List.perm_middle.symm).cons _).trans List.perm_middle.symm)).part (List.Sublist.append (List.Sublist.refl _) (List.nil_sublist _)))) hp32.2.2.1) tv2 (T.cp 97 25 #[.int .i64 (confV tb30.P tb30.C)] (.int .i64 (size (confV tb30.P tb30.C) : Int)) ent25 (fun w hw => Ret.same (size_c _ w)) tv2 (T.pi 16 (size (confV tb30.P tb30.C) : Int) (T.nil (QN.seq (W.seq (W.rg od9 (T.pu 98 (.pointer (some ⟨b28, 2, none⟩)) (T.ld false 99 (.int .i64 ls) 3 b28 2 (fun w h => St.cellM h mm0 (by kernel_rfl)) (T.pb 100 (decide (ls < 0)) (T.pb 101 (decide (ls < 0)) (T.bk [(4, false), (5, false), (6, false), (7, false)] [(8, false)] 3 false (decide (ls < 0)) 101 105 (.bool (decide ((size (confV tb30.P tb30.C) : Int) < ls))) (fun hg36 => ?_) ?_)))))))))))))))))))))))
     ·
      have hg36_ := hg36
      have hg36' := of_decide_eq_false hg36
      refine T.pi 102 (size (confV tb30.P tb30.C) : Int) (T.pu 103 (.pointer (some ⟨b28, 2, none⟩)) (T.ld false 104 (.int .i64 ls) 3 b28 2 (fun w h => St.cellM h mm0 (by kernel_rfl)) (T.pb 105 (decide ((size (confV tb30.P tb30.C) : Int) < ls)) ?_)))
      exact T.blkEnd (by kernel_rfl) (fun w h => h)
     refine T.oo 106 (decide (ls < 0)) (decide ((size (confV tb30.P tb30.C) : Int) < ls)) (T.nil (QN.seq (W.cd ((decide (ls < 0)) || (decide ((size (confV tb30.P tb30.C) : Int) < ls))) (fun h37 => ?_) (fun h37 => ?_))))
     ·
      refine W.rg od3 (T.pi 107 (size (confV tb30.P tb30.C) : Int) (T.pu 108 (.pointer (some ⟨b28, 2, none⟩)) (T.sp 3 b28 2 (.int .i64 (size (confV tb30.P tb30.C) : Int)) #[.int .i64 tt, .int .i64 (fk + 1), .int .i64 ls] #[.int .i64 tt, .int .i64 (fk + 1), .int .i64 (size (confV tb30.P tb30.C) : Int)] 37 pm0 tv2 (T.nil (QN.seq (W.rg od3 (T.pu 109 (.slice (some ⟨b8, 0, none⟩) (ol.length) (ol.length)) (T.pu 110 (.slice (some ⟨b26, 0, none⟩) (dg.length) (dg.length)) (T.callW 111 49 #[.slice (some ⟨b8, 0, none⟩) (ol.length) (ol.length), .slice (some ⟨b26, 0, none⟩) (dg.length) (dg.length)] (.tuple #[]) (St w ((b26, lstB 3 (advV ((chA n lz N).map fun l => (l.length : Int)) dg : List Int)) :: ((b28, Obj.cells #[.int .i64 tt, .int .i64 (fk + 1), .int .i64 (size (confV tb30.P tb30.C) : Int)] 37 (0, 0)) :: ((b33, Obj.cells tb30.cs 24 (0, 0)) :: (Ht31 ++ ((b8, lstB 82 (ol : List (Hd P2))) :: (Hc ++ [(b1, Obj.cells #[.int .i64 0, .int .i64 0, .int .i64 0] 37 (0, 0))]))))))) (by kernel_rfl) (by kernel_rfl) ent49 ?_ tv2 ?_)))))))))
      · exact fun w hw => (adv_c (H0 := ((b28, Obj.cells #[.int .i64 tt, .int .i64 (fk + 1), .int .i64 (size (confV tb30.P tb30.C) : Int)] 37 (0, 0)) :: ((b33, Obj.cells tb30.cs 24 (0, 0)) :: (Ht31 ++ ((b8, lstB 82 (ol : List (Hd P2))) :: (Hc ++ [(b1, Obj.cells #[.int .i64 0, .int .i64 0, .int .i64 0] 37 (0, 0))])))))) ol (some ⟨b8, 0, none⟩) (ol.length) dg b26 w (Arr.ofL (ty := 82) (.tail _ (.tail _ (List.mem_append_right _ mm0)))) hchl (by omega) (by omega) (dg_of hol hdr) ((hw.perm (((((((pm0.append_left Ht31).trans List.perm_middle).cons _).trans (List.Perm.swap _ _ _)).cons _).trans (List.Perm.swap _ _ _)).trans ((pm0.trans ((pm0.trans ((pm0.trans ((pm0.trans ((pm0.trans (pm0.append_left Hc)).cons _)).append_left Ht31)).cons _)).cons _)).cons _))).part ((((List.Sublist.append (List.Sublist.refl _) ((List.Sublist.append (List.Sublist.refl _) ns1).cons_cons _)).cons_cons _).cons_cons _).cons_cons _))).mono fun r w' h => ⟨h.1, by rw [← lens_of hol]; exact h.2⟩
      refine T.nil (QN.blkNormal (QN.seq (W.rg od2 (T.pw 112 ((k : Int) + 1) (T.pi 76 ((k : Int) + 1) (T.nil (QN.cast 11 (.slice (some ⟨b26, 0, none⟩) (dg.length) (dg.length)) (.slice (some ⟨b26, 0, none⟩) ((advV ((chA n lz N).map fun l => (l.length : Int)) dg).length) ((advV ((chA n lz N).map fun l => (l.length : Int)) dg).length)) (by kernel_rfl) (by rw [adv_len]) (QN.back (k + 1, fk + 1, (size (confV tb30.P tb30.C) : Int), advV ((chA n lz N).map fun l => (l.length : Int)) dg) ?_ ?_ (by kernel_rfl) (fun w h => (h.perm (pm1.trans ((pm0.trans ((((((pm0.append_left Ht31).trans List.perm_middle).cons _).trans (List.Perm.swap _ _ _)).trans ((((((pm0.append_left Ht31).trans (List.perm_append_comm_assoc _ _ _)).cons _).trans List.perm_middle.symm).trans (((((pm0.append_left Ht31).trans List.perm_middle).cons _).trans (List.Perm.swap _ _ _)).append_left Hc)).cons _)).cons _)).cons _))).part ((((List.Sublist.append (List.Sublist.refl _) ns1).cons_cons _).cons_cons _).cons_cons _))))))))))
      ·
       try dsimp only
       exact ⟨by omega, srch_take hsr hp32.1 hp32.2.1 h35 h37, by rw [adv_len]; exact hdl, adv_rng hdr, by omega, by omega⟩
      · show tt - _ < tt - _; omega
     ·
      have h37l := (Bool.or_eq_false_iff.1 h37).1
      have h37r := (Bool.or_eq_false_iff.1 h37).2
      have h37l' := of_decide_eq_false h37l
      have h37r' := of_decide_eq_false h37r
      refine W.skip (QN.seq (W.rg od3 (T.pu 109 (.slice (some ⟨b8, 0, none⟩) (ol.length) (ol.length)) (T.pu 110 (.slice (some ⟨b26, 0, none⟩) (dg.length) (dg.length)) (T.callW 111 49 #[.slice (some ⟨b8, 0, none⟩) (ol.length) (ol.length), .slice (some ⟨b26, 0, none⟩) (dg.length) (dg.length)] (.tuple #[]) (St w ((b26, lstB 3 (advV ((chA n lz N).map fun l => (l.length : Int)) dg : List Int)) :: ((b28, Obj.cells #[.int .i64 tt, .int .i64 (fk + 1), .int .i64 ls] 37 (0, 0)) :: ((b33, Obj.cells tb30.cs 24 (0, 0)) :: (Ht31 ++ ((b8, lstB 82 (ol : List (Hd P2))) :: (Hc ++ [(b1, Obj.cells #[.int .i64 0, .int .i64 0, .int .i64 0] 37 (0, 0))]))))))) (by kernel_rfl) (by kernel_rfl) ent49 ?_ tv2 ?_)))))
      · exact fun w hw => (adv_c (H0 := ((b28, Obj.cells #[.int .i64 tt, .int .i64 (fk + 1), .int .i64 ls] 37 (0, 0)) :: ((b33, Obj.cells tb30.cs 24 (0, 0)) :: (Ht31 ++ ((b8, lstB 82 (ol : List (Hd P2))) :: (Hc ++ [(b1, Obj.cells #[.int .i64 0, .int .i64 0, .int .i64 0] 37 (0, 0))])))))) ol (some ⟨b8, 0, none⟩) (ol.length) dg b26 w (Arr.ofL (ty := 82) (.tail _ (.tail _ (List.mem_append_right _ mm0)))) hchl (by omega) (by omega) (dg_of hol hdr) ((hw.perm (((((((pm0.append_left Ht31).trans List.perm_middle).cons _).trans (List.Perm.swap _ _ _)).cons _).trans (List.Perm.swap _ _ _)).trans ((pm0.trans ((pm0.trans ((pm0.trans ((pm0.trans ((pm0.trans (pm0.append_left Hc)).cons _)).append_left Ht31)).cons _)).cons _)).cons _))).part ((((List.Sublist.append (List.Sublist.refl _) ((List.Sublist.append (List.Sublist.refl _) ns1).cons_cons _)).cons_cons _).cons_cons _).cons_cons _))).mono fun r w' h => ⟨h.1, by rw [← lens_of hol]; exact h.2⟩
      refine T.nil (QN.blkNormal (QN.seq (W.rg od2 (T.pw 112 ((k : Int) + 1) (T.pi 76 ((k : Int) + 1) (T.nil (QN.cast 11 (.slice (some ⟨b26, 0, none⟩) (dg.length) (dg.length)) (.slice (some ⟨b26, 0, none⟩) ((advV ((chA n lz N).map fun l => (l.length : Int)) dg).length) ((advV ((chA n lz N).map fun l => (l.length : Int)) dg).length)) (by kernel_rfl) (by rw [adv_len]) (QN.back (k + 1, fk + 1, ls, advV ((chA n lz N).map fun l => (l.length : Int)) dg) ?_ ?_ (by kernel_rfl) (fun w h => (h.perm (pm1.trans ((pm0.trans ((((((pm0.append_left Ht31).trans List.perm_middle).cons _).trans (List.Perm.swap _ _ _)).trans ((((((pm0.append_left Ht31).trans (List.perm_append_comm_assoc _ _ _)).cons _).trans List.perm_middle.symm).trans (((((pm0.append_left Ht31).trans List.perm_middle).cons _).trans (List.Perm.swap _ _ _)).append_left Hc)).cons _)).cons _)).cons _))).part ((((List.Sublist.append (List.Sublist.refl _) ns1).cons_cons _).cons_cons _).cons_cons _))))))))))
      ·
       try dsimp only
       exact ⟨by omega, srch_keep hsr hp32.1 hp32.2.1 h35 h37, by rw [adv_len]; exact hdl, adv_rng hdr, by omega, by omega⟩
      · show tt - _ < tt - _; omega
    ·
     refine W.skip (QN.seq (W.rg od3 (T.pu 109 (.slice (some ⟨b8, 0, none⟩) (ol.length) (ol.length)) (T.pu 110 (.slice (some ⟨b26, 0, none⟩) (dg.length) (dg.length)) (T.callW 111 49 #[.slice (some ⟨b8, 0, none⟩) (ol.length) (ol.length), .slice (some ⟨b26, 0, none⟩) (dg.length) (dg.length)] (.tuple #[]) (St w ((b26, lstB 3 (advV ((chA n lz N).map fun l => (l.length : Int)) dg : List Int)) :: ((b33, Obj.cells tb30.cs 24 (0, 0)) :: (Ht31 ++ ((b28, Obj.cells #[.int .i64 tt, .int .i64 fk, .int .i64 ls] 37 (0, 0)) :: ((b8, lstB 82 (ol : List (Hd P2))) :: (Hc ++ [(b1, Obj.cells #[.int .i64 0, .int .i64 0, .int .i64 0] 37 (0, 0))]))))))) (by kernel_rfl) (by kernel_rfl) ent49 ?_ tv2 ?_)))))
     · exact fun w hw => (adv_c (H0 := ((b33, Obj.cells tb30.cs 24 (0, 0)) :: (Ht31 ++ ((b28, Obj.cells #[.int .i64 tt, .int .i64 fk, .int .i64 ls] 37 (0, 0)) :: ((b8, lstB 82 (ol : List (Hd P2))) :: (Hc ++ [(b1, Obj.cells #[.int .i64 0, .int .i64 0, .int .i64 0] 37 (0, 0))])))))) ol (some ⟨b8, 0, none⟩) (ol.length) dg b26 w (Arr.ofL (ty := 82) (.tail _ (List.mem_append_right _ mm1))) hchl (by omega) (by omega) (dg_of hol hdr) ((hw.perm (((((pm1.append_left Ht31).trans List.perm_middle).cons _).trans (List.Perm.swap _ _ _)).trans ((pm0.trans ((pm0.trans ((pm0.trans ((pm0.trans ((pm0.trans (pm0.append_left Hc)).cons _)).cons _)).append_left Ht31)).cons _)).cons _))).part (((List.Sublist.append (List.Sublist.refl _) (((List.Sublist.append (List.Sublist.refl _) ns1).cons_cons _).cons_cons _)).cons_cons _).cons_cons _))).mono fun r w' h => ⟨h.1, by rw [← lens_of hol]; exact h.2⟩
     refine T.nil (QN.blkNormal (QN.seq (W.rg od2 (T.pw 112 ((k : Int) + 1) (T.pi 76 ((k : Int) + 1) (T.nil (QN.cast 11 (.slice (some ⟨b26, 0, none⟩) (dg.length) (dg.length)) (.slice (some ⟨b26, 0, none⟩) ((advV ((chA n lz N).map fun l => (l.length : Int)) dg).length) ((advV ((chA n lz N).map fun l => (l.length : Int)) dg).length)) (by kernel_rfl) (by rw [adv_len]) (QN.back (k + 1, fk, ls, advV ((chA n lz N).map fun l => (l.length : Int)) dg) ?_ ?_ (by kernel_rfl) (fun w h => (h.perm (((((((pm0.append_left Ht31).trans List.perm_middle).cons _).trans (List.Perm.swap _ _ _)).cons _).trans (List.Perm.swap _ _ _)).trans ((pm0.trans ((((((pm0.append_left Ht31).trans List.perm_middle).cons _).trans (List.Perm.swap _ _ _)).trans ((((((pm0.append_left Ht31).trans (List.perm_append_comm_assoc _ _ _)).cons _).trans List.perm_middle.symm).trans (((((pm0.append_left Ht31).trans List.perm_middle).cons _).trans (List.Perm.swap _ _ _)).append_left Hc)).cons _)).cons _)).cons _))).part ((((List.Sublist.append (List.Sublist.refl _) ns1).cons_cons _).cons_cons _).cons_cons _))))))))))
     ·
      try dsimp only
      exact ⟨by omega, srch_no hsr hp32.1 hp32.2.1 h35, by rw [adv_len]; exact hdl, adv_rng hdr, by omega, by omega⟩
     · show tt - _ < tt - _; omega
   ·
    have h29' := of_decide_eq_false h29
    refine W.exit (QN.thenExit (QN.thenExit (QN.blkHit (QN.seq (W.seq (W.rg od3 (T.lr false 113 #[.int .i64 tt, .int .i64 fk, .int .i64 ls] 37 b28 0 (fun w h => St.rangeM h #[.int .i64 tt, .int .i64 fk, .int .i64 ls] mm0 (by kernel_rfl)) (T.sp 37 b1 0 (.agg #[.int .i64 tt, .int .i64 fk, .int .i64 ls]) #[.int .i64 0, .int .i64 0, .int .i64 0] #[.int .i64 tt, .int .i64 fk, .int .i64 ls] 37 ((((((((pm0.append_left Hc).trans List.perm_middle).cons _).trans (List.Perm.swap _ _ _)).cons _).trans (List.Perm.swap _ _ _)).cons _).trans (List.Perm.swap _ _ _)) tv2 (T.pi 7 0 (T.nil (QN.seq (W.ret (QN.doneC2 (.inl rfl) 6 7 37 b1 #[.int .i64 tt, .int .i64 fk, .int .i64 ls] (.int .i64 0) _ rfl (by kernel_rfl) (by kernel_rfl) Try.underlying37 (by kernel_rfl) (by kernel_rfl) (fun w hw => St.rangeM hw #[.int .i64 tt, .int .i64 fk, .int .i64 ls] mm0 (by kernel_rfl)) (fun w hw => ⟨?_, hw.below⟩))))))))))))))
    exact (by have hkt : k = tt := (by omega); rw [hkt] at hsr; rw [search_ok h7 hN htt hsr])
end Go.Proofs.Ytphnfhonmbbddaa
