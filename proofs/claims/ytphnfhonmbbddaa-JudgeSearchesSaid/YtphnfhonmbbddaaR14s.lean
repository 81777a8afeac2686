/- The reference's search. -/
import Derived.Test.YtphnfhonmbbddaaR14b
import Derived.Test.YtphnfhonmbbddaaJsS
import Derived.Test.YtphnfhonmbbddaaJsT
namespace Go.Proofs.Ytphnfhonmbbddaa
open Go Go.RowKit
set_option linter.unusedVariables false

theorem rem_int {x y : Int} (h0 : 0 ≤ x) : Value.int .i64 (x.tmod y) = .int .i64 (x % y) := by rw [Int.tmod_eq_emod_of_nonneg h0]
structure Rws (R : List (List Int)) (n r : Nat) : Prop where
  len : R.length = r
  row : ∀ x ∈ R, x.length = n
def Fld (R : List (List Int)) (n i : Nat) (f : Nat → Int) : Prop := ∀ j, j < i → (R.getD (j / n) []).getD (j % n) 0 = f j
section
variable {n r i k N x : Nat} {lz : Int} {R : List (List Int)} {hs pr cm : List (OR Int)} {f : Nat → Int}
theorem rws_nil : Rws [] n 0 := ⟨rfl, fun x hx => by cases hx⟩
theorem rws_snoc {b : Nat} (h : Rws (hs.map OR.l) n r) : Rws ((hs ++ [(⟨b, List.replicate n (0 : Int)⟩ : OR Int)]).map OR.l) n (r + 1) := by
  refine ⟨by have := h.len; rw [List.length_map] at this; simp [this], fun x hx => ?_⟩
  rw [List.map_append, List.mem_append] at hx
  rcases hx with hx | hx
  · exact h.row x hx
  · rw [List.mem_singleton.1 hx]; exact List.length_replicate
theorem rws_at (h : Rws (hs.map OR.l) n r) (hi : i < n * r) (hn : 1 ≤ n) : ∃ hr : i / n < hs.length, (hs[i / n]'hr).l.length = n := by
  have h1 : i / n < hs.length := by
    have := h.len
    rw [List.length_map] at this
    rw [this]
    exact Nat.div_lt_of_lt_mul hi
  exact ⟨h1, h.row _ (List.mem_map_of_mem (List.getElem_mem h1))⟩
theorem fld_zero : Fld R n 0 f := fun j hj => absurd hj (Nat.not_lt_zero _)
theorem fld_step {x : Int} (hR : Rws (hs.map OR.l) n r) (hF : Fld (hs.map OR.l) n i f) (hi : i < n * r) (hn : 1 ≤ n) (hx : x = f i) : Rws ((setR hs (i / n) (i % n) x).map OR.l) n r ∧ Fld ((setR hs (i / n) (i % n) x).map OR.l) n (i + 1) f := by
  rw [setR_l]
  have ha : i / n < (hs.map OR.l).length := by rw [hR.len]; exact Nat.div_lt_of_lt_mul hi
  have hrow : ((hs.map OR.l).getD (i / n) []).length = n := by
    rw [List.getD_eq_getElem?_getD, List.getElem?_eq_getElem ha]; exact hR.row _ (List.getElem_mem _)
  have hb : i % n < ((hs.map OR.l).getD (i / n) []).length := by rw [hrow]; exact Nat.mod_lt _ (by omega)
  refine ⟨⟨by rw [List.length_modify]; exact hR.len, fun y hy => ?_⟩, fun j hj => ?_⟩
  · obtain ⟨q, hq, rfl⟩ := List.mem_iff_getElem.1 hy
    rw [List.getElem_modify]
    split
    · rw [List.length_set]; exact hR.row _ (List.getElem_mem _)
    · exact hR.row _ (List.getElem_mem _)
  · rw [ent_mod ha hb]
    by_cases h : j / n = i / n ∧ j % n = i % n
    · have e : j = i := by
        have h1 := Nat.div_add_mod j n
        have h2 := Nat.div_add_mod i n
        rw [h.1, h.2] at h1
        omega
      rw [if_pos h, hx, e]
    · rw [if_neg h]
      refine hF j ?_
      rcases Nat.lt_succ_iff_lt_or_eq.1 hj with h1 | h1
      · exact h1
      · subst h1; exact absurd ⟨rfl, rfl⟩ h
theorem fld_tab {M : Nat} (hR : Rws R n r) (hF : Fld R n N f) (hN : N = n * r) (hn1 : 1 ≤ n) (hn7 : n ≤ 7) (hr1 : 1 ≤ r) (hM : M = N) : R = tabR n f M := by
  subst hM
  obtain ⟨h1, h2⟩ := tabR_rows f hn1 hn7 M
  have e : (M + n - 1) / n = r := by
    obtain ⟨_, e2⟩ := div_parts (n := n) (q := r) (r := n - 1) (k := M + n - 1) (by omega) (by omega)
    exact e2
  refine rows_ext (n := n) (by rw [hR.len, h1, e]) hR.row h2 fun a m ha hm => ?_
  rw [h1, e] at ha
  obtain ⟨e1, e2⟩ := div_parts (n := n) (q := a) (r := m) (k := a * n + m) hm (by rw [Nat.mul_comm])
  have hlt : a * n + m < M := by
    have h3 := Nat.mul_le_mul_left n (show a + 1 ≤ r from ha)
    rw [Nat.mul_succ] at h3
    have h4 := Nat.mul_comm a n
    omega
  have h5 := hF (a * n + m) hlt
  rw [e1, e2] at h5
  rw [h5, tab_ent hn1 hn7 f M a m hm, if_pos hlt]
theorem tmodN (a b : Nat) : ((a : Int).tmod (b : Int)) = ((a % b : Nat) : Int) := by rw [Int.tmod_eq_emod_of_nonneg (by omega)]; rfl
theorem tmodD (a : Nat) : (((a : Int) / 3).tmod 4) = ((a / 3 % 4 : Nat) : Int) := by
  rw [Int.tmod_eq_emod_of_nonneg (by omega)]; rfl
theorem xAt_le (n : Nat) (lz : Int) (k : Nat) : ∀ i, xAt n lz k i ≤ k
  | 0 => Nat.le_refl _
  | i + 1 => Nat.le_trans (Nat.div_le_self _ _) (xAt_le n lz k i)
theorem x_yes (h : decide (((i % n : Nat) : Int) < lz) = true) (hx : x = xAt n lz k i) : x / 32 = xAt n lz k (i + 1) := by
  show x / 32 = xAt n lz k i / rLen (lB n lz i)
  unfold lB
  rw [h, hx]; rfl
theorem x_no (h : decide (((i % n : Nat) : Int) < lz) = false) (hx : x = xAt n lz k i) : x / 12 = xAt n lz k (i + 1) := by
  show x / 12 = xAt n lz k i / rLen (lB n lz i)
  unfold lB
  rw [h, hx]; rfl
theorem fx_yes (hi : i < N) (h : decide (((i % n : Nat) : Int) < lz) = true) (hx : x = xAt n lz k i) : (x : Int) % 4 = ((vecK (chR n lz N) k).getD i P2.zero).x := by
  rw [chR_vec hi]
  show _ = rX (lB n lz i) _
  unfold lB
  rw [h, ← hx]; rfl
theorem fy_yes (hi : i < N) (h : decide (((i % n : Nat) : Int) < lz) = true) (hx : x = xAt n lz k i) : ((x : Int) / 4) % 8 = ((vecK (chR n lz N) k).getD i P2.zero).y := by
  rw [chR_vec hi]
  show _ = rY (lB n lz i) _
  unfold lB
  rw [h, ← hx]; rfl
theorem fx_no {j : Nat} (hi : i < N) (h : decide (((i % n : Nat) : Int) < lz) = false) (hx : x = xAt n lz k i) (hj : j = x % 3) : ([0, 1, 2, 4] : List Int).getD j 0 = ((vecK (chR n lz N) k).getD i P2.zero).x := by
  rw [chR_vec hi]
  show _ = rX (lB n lz i) _
  unfold lB
  rw [h, ← hx, hj]; rfl
theorem fy_no {j : Nat} (hi : i < N) (h : decide (((i % n : Nat) : Int) < lz) = false) (hx : x = xAt n lz k i) (hj : j = x / 3 % 4) : ([0, 1, 2, 4] : List Int).getD j 0 = ((vecK (chR n lz N) k).getD i P2.zero).y := by
  rw [chR_vec hi]
  show _ = rY (lB n lz i) _
  unfold lB
  rw [h, ← hx, hj]; rfl
theorem len_yes {tot : Int} {j : Nat} (h : decide (((j % n : Nat) : Int) < lz) = true) : tot * 32 = tot * (lenJ n lz j : Int) := by
  rw [lenJ_r]
  unfold lB
  rw [h]; rfl
theorem len_no {tot : Int} {j : Nat} (h : decide (((j % n : Nat) : Int) < lz) = false) : tot * 12 = tot * (lenJ n lz j : Int) := by
  rw [lenJ_r]
  unfold lB
  rw [h]; rfl
theorem w64_confI (P C : List (List Int)) (r : Nat) {m : Int} (hm : W64 m) : ∀ i, W64 (confI P C r i m)
  | 0 => hm
  | i + 1 => by
    rw [confI_succ]
    cases manyC P C r i with
    | true => exact w64_or _ _
    | false => exact w64_confI P C r hm i
theorem w64_confT (P C : List (List Int)) : ∀ r, W64 (confT P C r)
  | 0 => ⟨show (-9223372036854775808 : Int) ≤ 0 by decide, show (0 : Int) < 9223372036854775808 by decide⟩
  | r + 1 => by rw [confT_succ]; exact w64_confI P C r (w64_confT P C r) _
theorem w64_conf (P C : List (List Int)) : W64 (confV P C) := by
  unfold confV
  cases validV P C with
  | true => exact w64_confT P C _
  | false => exact ⟨show (-9223372036854775808 : Int) ≤ 0 by decide, show (0 : Int) < 9223372036854775808 by decide⟩
theorem tb_rd9 {ty ti : TypeId} {Ap Aq : Option Addr} {cp cq : Nat} {Hp Hq : List (Nat × Obj)} {w0 w : World} (h1 : RowIs ty 1 Ap (pr.map OR.hd).length cp (cells (pr.map OR.hd)) Hp) (h2 : RowIs ty 1 Aq (cm.map OR.hd).length cq (cells (cm.map OR.hd)) Hq) (hw : St w0 (Hp ++ (Hq ++ (rowsH ti pr ++ (rowsH ti cm ++ [])))) w) : TbRd w ⟨Ap, pr.map OR.hd, cp, Aq, cm.map OR.hd, cq⟩ :=
  TbOwn.rd (H := []) (tb_own (ti := ti) h1 h2) (by simpa only [List.append_nil] using hw)
theorem rws_tblen {Ap Aq : Option Addr} {cp cq : Nat} (h : Rws (pr.map OR.l) n r) (h' : Rws (cm.map OR.l) n r) (hr : r ≤ 3) (hn : n ≤ 7) : TbLen ⟨Ap, pr.map OR.hd, cp, Aq, cm.map OR.hd, cq⟩ := by
  have e1 := h.len
  have e2 := h'.len
  rw [List.length_map] at e1 e2
  have rows : ∀ {hs : List (OR Int)}, Rws (hs.map OR.l) n r → ∀ x ∈ hs.map OR.hd, x.l.length ≤ maxLen := fun {hs} h x hx => by
    obtain ⟨o, ho, rfl⟩ := List.mem_map.1 hx
    have h9 := h.row o.l (List.mem_map_of_mem ho)
    have : o.l.length ≤ maxLen := by unfold maxLen; omega
    exact this
  exact ⟨by show (pr.map OR.hd).length ≤ _; rw [List.length_map]; unfold maxLen; omega, by show (cm.map OR.hd).length ≤ _; rw [List.length_map]; unfold maxLen; omega, rows h, rows h'⟩
variable {fk ls zz : Int} {f1 f2 : Bool} {cs : List (List P2)}
theorem rs_no (h : (fk, ls) = rSrch n cs k) (h1 : f1 = (decV (tbX n (vecK cs k)) (tbY n (vecK cs k))).1) (h2 : f2 = (decV (tbX n (vecK cs k)) (tbY n (vecK cs k))).2) (hf : (f1 && f2) = false) : (fk, ls) = rSrch n cs (k + 1) := by
  have e : forkT n (vecK cs k) = false := by unfold forkT forkB; rw [← h1, ← h2]; exact hf
  rw [rSrch, ← h, e]; rfl
theorem rs_take (h : (fk, ls) = rSrch n cs k) (h1 : f1 = (decV (tbX n (vecK cs k)) (tbY n (vecK cs k))).1) (h2 : f2 = (decV (tbX n (vecK cs k)) (tbY n (vecK cs k))).2) (hz : zz = confV (tbX n (vecK cs k)) (tbY n (vecK cs k))) (hf : (f1 && f2) = true) (hl : ((decide (ls < 0)) || (decide ((size zz : Int) < ls))) = true) : (fk + 1, (size zz : Int)) = rSrch n cs (k + 1) := by
  have e : forkT n (vecK cs k) = true := by unfold forkT forkB; rw [← h1, ← h2]; exact hf
  have e2 : sizT n (vecK cs k) = (size zz : Int) := by unfold sizT; rw [← hz]
  have e3 : lessB ls (size zz : Int) = true := hl
  rw [rSrch, ← h, e, e2]
  simp only [e3, cond_true, Bool.and_true]
theorem rs_keep (h : (fk, ls) = rSrch n cs k) (h1 : f1 = (decV (tbX n (vecK cs k)) (tbY n (vecK cs k))).1) (h2 : f2 = (decV (tbX n (vecK cs k)) (tbY n (vecK cs k))).2) (hz : zz = confV (tbX n (vecK cs k)) (tbY n (vecK cs k))) (hf : (f1 && f2) = true) (hl : ((decide (ls < 0)) || (decide ((size zz : Int) < ls))) = false) : (fk + 1, ls) = rSrch n cs (k + 1) := by
  have e : forkT n (vecK cs k) = true := by unfold forkT forkB; rw [← h1, ← h2]; exact hf
  have e2 : sizT n (vecK cs k) = (size zz : Int) := by unfold sizT; rw [← hz]
  have e3 : lessB ls (size zz : Int) = false := hl
  rw [rSrch, ← h, e, e2]
  simp only [e3, cond_true, cond_false, Bool.and_false]
theorem rsearch_ok {tt : Nat} (h : ((((((decide ((n : Int) < 1)) || (decide (7 < (n : Int)))) || (decide ((r : Int) < 1))) || (decide (3 < (r : Int)))) || (decide (lz < 0))) || (decide ((n : Int) < lz))) = false) (hN : N = n * r) (ht : totT n lz N = some (tt : Int)) (hs : (fk, ls) = rSrch n (chR n lz N) tt) : searchV (n : Int) (r : Int) lz = ((tt : Int), fk, ls, 0) := by
  subst hN
  have h1 : badS (n : Int) (r : Int) lz = false := h
  rw [rsrch_eq h1 ht, ← hs]
end

set_option maxRecDepth 100000 in
set_option maxHeartbeats 2000000 in
theorem rsearch_c (mm rr0 lz : Int) (w : World) : Calls Try.prog 22 #[.int .i64 mm, .int .i64 rr0, .int .i64 lz] w (fun rr w' => rr = .returned (.tuple #[.agg #[.int .i64 (searchV mm rr0 lz).1, .int .i64 (searchV mm rr0 lz).2.1, .int .i64 (searchV mm rr0 lz).2.2.1], .int .i64 (searchV mm rr0 lz).2.2.2]) ∧ Below w.heap.size w w') := by
 refine calls_W (n := 184) Try.func22 rfl [(0, .int .i64 mm), (1, .int .i64 rr0), (2, .int .i64 lz)] rfl ⟨by kernel_rfl, by kernel_rfl⟩ (W.weak (Ψ := St w []) (fun w' h => by rw [h]; exact St.start w) (W.seq (W.rg od2 (T.al 6 41 #[.int .i64 0, .int .i64 0, .int .i64 0] tv3 (fun b1 => T.pi 7 0 (T.nil (QN.seq (W.seq (W.seq (W.rg od23 (T.pi 22 mm (T.pb 23 (decide (mm < 1)) (T.pb 24 (decide (mm < 1)) (T.bk [(3, false), (4, false)] [(5, false), (6, false), (7, false), (8, false), (9, false), (10, false), (11, false), (12, false), (13, false), (14, false), (15, false), (16, false), (17, false), (18, false), (19, false), (20, false), (21, false), (22, false)] 2 false (decide (mm < 1)) 24 26 (.bool (decide (7 < mm))) (fun hg2 => ?_) ?_))))))))))))))
 ·
  have hg2_ := hg2
  have hg2' := of_decide_eq_false hg2
  refine T.pi 25 mm (T.pb 26 (decide (7 < mm)) ?_)
  exact T.blkEnd (by kernel_rfl) (fun w h => h)
 refine T.oo 27 (decide (mm < 1)) (decide (7 < mm)) (T.pb 28 ((decide (mm < 1)) || (decide (7 < mm))) (T.bk [(7, false), (8, false)] [(9, false), (10, false), (11, false), (12, false), (13, false), (14, false), (15, false), (16, false), (17, false), (18, false), (19, false), (20, false), (21, false), (22, false)] 6 false ((decide (mm < 1)) || (decide (7 < mm))) 28 30 (.bool (decide (rr0 < 1))) (fun hg3 => ?_) ?_))
 ·
  have hg3_ := hg3
  have hg3l := (Bool.or_eq_false_iff.1 hg3).1
  have hg3r := (Bool.or_eq_false_iff.1 hg3).2
  have hg3l' := of_decide_eq_false hg3l
  have hg3r' := of_decide_eq_false hg3r
  refine T.pi 29 rr0 (T.pb 30 (decide (rr0 < 1)) ?_)
  exact T.blkEnd (by kernel_rfl) (fun w h => h)
 refine T.oo 31 ((decide (mm < 1)) || (decide (7 < mm))) (decide (rr0 < 1)) (T.pb 32 (((decide (mm < 1)) || (decide (7 < mm))) || (decide (rr0 < 1))) (T.bk [(11, false), (12, false)] [(13, false), (14, false), (15, false), (16, false), (17, false), (18, false), (19, false), (20, false), (21, false), (22, false)] 10 false (((decide (mm < 1)) || (decide (7 < mm))) || (decide (rr0 < 1))) 32 34 (.bool (decide (3 < rr0))) (fun hg4 => ?_) ?_))
 ·
  have hg4_ := hg4
  have hg4l := (Bool.or_eq_false_iff.1 hg4).1
  have hg4r := (Bool.or_eq_false_iff.1 hg4).2
  have hg4ll := (Bool.or_eq_false_iff.1 hg4l).1
  have hg4lr := (Bool.or_eq_false_iff.1 hg4l).2
  have hg4ll' := of_decide_eq_false hg4ll
  have hg4lr' := of_decide_eq_false hg4lr
  have hg4r' := of_decide_eq_false hg4r
  refine T.pi 33 rr0 (T.pb 34 (decide (3 < rr0)) ?_)
  exact T.blkEnd (by kernel_rfl) (fun w h => h)
 refine T.oo 35 (((decide (mm < 1)) || (decide (7 < mm))) || (decide (rr0 < 1))) (decide (3 < rr0)) (T.pb 36 ((((decide (mm < 1)) || (decide (7 < mm))) || (decide (rr0 < 1))) || (decide (3 < rr0))) (T.bk [(15, false), (16, false)] [(17, false), (18, false), (19, false), (20, false), (21, false), (22, false)] 14 false ((((decide (mm < 1)) || (decide (7 < mm))) || (decide (rr0 < 1))) || (decide (3 < rr0))) 36 38 (.bool (decide (lz < 0))) (fun hg5 => ?_) ?_))
 ·
  have hg5_ := hg5
  have hg5l := (Bool.or_eq_false_iff.1 hg5).1
  have hg5r := (Bool.or_eq_false_iff.1 hg5).2
  have hg5ll := (Bool.or_eq_false_iff.1 hg5l).1
  have hg5lr := (Bool.or_eq_false_iff.1 hg5l).2
  have hg5lll := (Bool.or_eq_false_iff.1 hg5ll).1
  have hg5llr := (Bool.or_eq_false_iff.1 hg5ll).2
  have hg5lll' := of_decide_eq_false hg5lll
  have hg5llr' := of_decide_eq_false hg5llr
  have hg5lr' := of_decide_eq_false hg5lr
  have hg5r' := of_decide_eq_false hg5r
  refine T.pi 37 lz (T.pb 38 (decide (lz < 0)) ?_)
  exact T.blkEnd (by kernel_rfl) (fun w h => h)
 refine T.oo 39 ((((decide (mm < 1)) || (decide (7 < mm))) || (decide (rr0 < 1))) || (decide (3 < rr0))) (decide (lz < 0)) (T.pb 40 (((((decide (mm < 1)) || (decide (7 < mm))) || (decide (rr0 < 1))) || (decide (3 < rr0))) || (decide (lz < 0))) (T.bk [(19, false), (20, false), (21, false)] [(22, false)] 18 false (((((decide (mm < 1)) || (decide (7 < mm))) || (decide (rr0 < 1))) || (decide (3 < rr0))) || (decide (lz < 0))) 40 43 (.bool (decide (mm < lz))) (fun hg6 => ?_) ?_))
 ·
  have hg6_ := hg6
  have hg6l := (Bool.or_eq_false_iff.1 hg6).1
  have hg6r := (Bool.or_eq_false_iff.1 hg6).2
  have hg6ll := (Bool.or_eq_false_iff.1 hg6l).1
  have hg6lr := (Bool.or_eq_false_iff.1 hg6l).2
  have hg6lll := (Bool.or_eq_false_iff.1 hg6ll).1
  have hg6llr := (Bool.or_eq_false_iff.1 hg6ll).2
  have hg6llll := (Bool.or_eq_false_iff.1 hg6lll).1
  have hg6lllr := (Bool.or_eq_false_iff.1 hg6lll).2
  have hg6llll' := of_decide_eq_false hg6llll
  have hg6lllr' := of_decide_eq_false hg6lllr
  have hg6llr' := of_decide_eq_false hg6llr
  have hg6lr' := of_decide_eq_false hg6lr
  have hg6r' := of_decide_eq_false hg6r
  refine T.pi 41 lz (T.pi 42 mm (T.pb 43 (decide (mm < lz)) ?_))
  exact T.blkEnd (by kernel_rfl) (fun w h => h)
 refine T.oo 44 (((((decide (mm < 1)) || (decide (7 < mm))) || (decide (rr0 < 1))) || (decide (3 < rr0))) || (decide (lz < 0))) (decide (mm < lz)) (T.nil (QN.seq (W.cd ((((((decide (mm < 1)) || (decide (7 < mm))) || (decide (rr0 < 1))) || (decide (3 < rr0))) || (decide (lz < 0))) || (decide (mm < lz))) (fun h7 => ?_) (fun h7 => ?_))))
 ·
  refine W.seq (W.rg od3 (T.pu 45 (.agg #[.int .i64 0, .int .i64 0, .int .i64 0]) (T.sp 41 b1 0 (.agg #[.int .i64 0, .int .i64 0, .int .i64 0]) #[.int .i64 0, .int .i64 0, .int .i64 0] #[.int .i64 0, .int .i64 0, .int .i64 0] 41 pm0 tv2 (T.pi 7 1 (T.nil (QN.seq (W.ret (QN.thenRet (QN.doneC2 (.inl rfl) 6 7 41 b1 #[.int .i64 0, .int .i64 0, .int .i64 0] (.int .i64 1) _ rfl (by kernel_rfl) (by kernel_rfl) Try.underlying41 (by kernel_rfl) (by kernel_rfl) (fun w hw => St.rangeM hw #[.int .i64 0, .int .i64 0, .int .i64 0] mm0 (by kernel_rfl)) (fun w hw => ⟨?_, hw.below⟩))))))))))
  exact (by rw [search_bad h7])
 ·
  have h7l := (Bool.or_eq_false_iff.1 h7).1
  have h7r := (Bool.or_eq_false_iff.1 h7).2
  have h7ll := (Bool.or_eq_false_iff.1 h7l).1
  have h7lr := (Bool.or_eq_false_iff.1 h7l).2
  have h7lll := (Bool.or_eq_false_iff.1 h7ll).1
  have h7llr := (Bool.or_eq_false_iff.1 h7ll).2
  have h7llll := (Bool.or_eq_false_iff.1 h7lll).1
  have h7lllr := (Bool.or_eq_false_iff.1 h7lll).2
  have h7lllll := (Bool.or_eq_false_iff.1 h7llll).1
  have h7llllr := (Bool.or_eq_false_iff.1 h7llll).2
  have h7lllll' := of_decide_eq_false h7lllll
  have h7llllr' := of_decide_eq_false h7llllr
  have h7lllr' := of_decide_eq_false h7lllr
  have h7llr' := of_decide_eq_false h7llr
  have h7lr' := of_decide_eq_false h7lr
  have h7r' := of_decide_eq_false h7r
  refine W.skip (QN.seq (W.seq (W.rg od1 (T.pi 8 1 (T.nil (QN.seq (W.seq (W.seq (W.rg od1 (T.pi 9 0 (T.nil (QN.seq (W.block ?_)))))))))))))
  obtain ⟨n, hn_⟩ : ∃ n : Nat, mm = (n : Int) := ⟨mm.toNat, by omega⟩
  subst hn_
  obtain ⟨r0, hr_⟩ : ∃ r0 : Nat, rr0 = (r0 : Int) := ⟨rr0.toNat, by omega⟩
  subst hr_
  obtain ⟨N, hN⟩ : ∃ N : Nat, N = n * r0 := ⟨_, rfl⟩
  have hn1 : 1 ≤ n := by omega
  have hn7 : n ≤ 7 := by omega
  have hr1 : 1 ≤ r0 := by omega
  have hr3 : r0 ≤ 3 := by omega
  have hN21 : N ≤ 21 := by rw [hN]; exact (Nat.mul_le_mul hn7 (by omega : r0 ≤ 3))
  have hz0 : 0 ≤ lz := by omega
  refine W.loop (σ := Nat × Int) (fun gs => gs.1 ≤ N ∧ totT n lz gs.1 = some gs.2 ∧ gs.2 ≤ 1048576) (fun gs => [(0, .int .i64 n), (1, .int .i64 r0), (2, .int .i64 lz), (6, .pointer (some ⟨b1, 0, none⟩)), (8, .int .i64 gs.2), (9, .int .i64 (gs.1 : Int))]) (fun gs => St w [(b1, Obj.cells #[.int .i64 0, .int .i64 0, .int .i64 0] 41 (0, 0))]) (fun gs => N - gs.1) (0, 1) ?_ (by kernel_rfl) (fun w h => h) ?_
  ·
   try dsimp only
   exact ⟨Nat.zero_le _, rfl, by omega⟩
  rintro ⟨j, tot⟩ hI_
  obtain ⟨hj, htt, htl⟩ : j ≤ N ∧ totT n lz j = some tot ∧ tot ≤ 1048576 := hI_
  have ht1 := tot_pos htt
  refine W.seq (W.seq (W.rg od5 (T.pi 46 j (T.pi 47 n (T.pi 48 r0 (T.pe 49 (.int .i64 (IntKind.i64.wrap ((n : Int) * (r0 : Int)))) (.int .i64 N) (by rw [hN]; exact wrap_int (by omega) (by rw [← Int.natCast_mul]; omega)) (T.pb 50 (decide ((j : Int) < (N : Int))) (T.nil (QN.seq (W.cd (decide ((j : Int) < (N : Int))) (fun h8 => ?_) (fun h8 => ?_)))))))))))
  ·
   have h8' := of_decide_eq_true h8
   refine W.skip (QN.seq (W.seq (W.block (W.seq (W.seq (W.rg od5 (T.pi 53 j (T.pi 54 n (T.rem 55 .i64 (j : Int) (n : Int) (.int .i64 ((j % n : Nat) : Int)) (by kernel_rfl) (by kernel_rfl) (by omega) (remN_int (by omega)) (T.pi 56 lz (T.pb 57 (decide (((j % n : Nat) : Int) < lz)) (T.nil (QN.seq (W.meet (β := Unit) (fun gs => [(0, .int .i64 n), (1, .int .i64 r0), (2, .int .i64 lz), (6, .pointer (some ⟨b1, 0, none⟩)), (8, .int .i64 (tot * (lenJ n lz j : Int))), (9, .int .i64 j), (46, .int .i64 j), (47, .int .i64 n), (48, .int .i64 r0), (49, .int .i64 N), (50, .bool (decide ((j : Int) < (N : Int)))), (53, .int .i64 j), (54, .int .i64 n), (55, .int .i64 ((j % n : Nat) : Int)), (56, .int .i64 lz), (57, .bool (decide (((j % n : Nat) : Int) < lz)))]) (fun gs => St w [(b1, Obj.cells #[.int .i64 0, .int .i64 0, .int .i64 0] 41 (0, 0))]) ?_ ?_))))))))))))))
   ·
    refine W.cd (decide (((j % n : Nat) : Int) < lz)) (fun h9 => ?_) (fun h9 => ?_)
    ·
     have h9' := of_decide_eq_true h9
     refine W.rg od3 (T.pi 58 tot (T.pw 59 (tot * 32) (T.pi 8 (tot * 32) (T.nil (QN.cast 8 (.int .i64 (tot * 32)) (.int .i64 (tot * (lenJ n lz j : Int))) (by kernel_rfl) (int_eq (len_yes h9)) ?_)))))
     exact QN.meet () (by kernel_rfl) (fun w h => h)
    ·
     have h9' := of_decide_eq_false h9
     refine W.rg od3 (T.pi 60 tot (T.pw 61 (tot * 12) (T.pi 8 (tot * 12) (T.nil (QN.cast 8 (.int .i64 (tot * 12)) (.int .i64 (tot * (lenJ n lz j : Int))) (by kernel_rfl) (int_eq (len_no h9)) ?_)))))
     exact QN.meet () (by kernel_rfl) (fun w h => h)
   intro u9
   show QN _ [(0, .int .i64 n), (1, .int .i64 r0), (2, .int .i64 lz), (6, .pointer (some ⟨b1, 0, none⟩)), (8, .int .i64 (tot * (lenJ n lz j : Int))), (9, .int .i64 j), (46, .int .i64 j), (47, .int .i64 n), (48, .int .i64 r0), (49, .int .i64 N), (50, .bool (decide ((j : Int) < (N : Int)))), (53, .int .i64 j), (54, .int .i64 n), (55, .int .i64 ((j % n : Nat) : Int)), (56, .int .i64 lz), (57, .bool (decide (((j % n : Nat) : Int) < lz)))] (St w [(b1, Obj.cells #[.int .i64 0, .int .i64 0, .int .i64 0] 41 (0, 0))]) _ _
   have hmul := mul_len (n := n) (lz := lz) (j := j) ht1 htl
   refine QN.seq (W.seq (W.rg od2 (T.pi 62 (tot * (lenJ n lz j : Int)) (T.pb 63 (decide (1048576 < (tot * (lenJ n lz j : Int)))) (T.nil (QN.seq (W.cd (decide (1048576 < (tot * (lenJ n lz j : Int)))) (fun h10 => ?_) (fun h10 => ?_))))))))
   ·
    have h10' := of_decide_eq_true h10
    refine W.seq (W.rg od3 (T.pu 64 (.agg #[.int .i64 0, .int .i64 0, .int .i64 0]) (T.sp 41 b1 0 (.agg #[.int .i64 0, .int .i64 0, .int .i64 0]) #[.int .i64 0, .int .i64 0, .int .i64 0] #[.int .i64 0, .int .i64 0, .int .i64 0] 41 pm0 tv2 (T.pi 7 5 (T.nil (QN.seq (W.ret (QN.blkRet (QN.thenRet (QN.thenRet (QN.blkRet (QN.thenRet (QN.doneC2 (.inl rfl) 6 7 41 b1 #[.int .i64 0, .int .i64 0, .int .i64 0] (.int .i64 5) _ rfl (by kernel_rfl) (by kernel_rfl) Try.underlying41 (by kernel_rfl) (by kernel_rfl) (fun w hw => St.rangeM hw #[.int .i64 0, .int .i64 0, .int .i64 0] mm0 (by kernel_rfl)) (fun w hw => ⟨?_, hw.below⟩))))))))))))))
    exact (by rw [search_full h7 hN (tot_none htt h10 (by omega))])
   ·
    have h10' := of_decide_eq_false h10
    refine W.skip (QN.blkNormal (QN.seq (W.rg od3 (T.pi 51 j (T.pw 52 ((j : Int) + 1) (T.pi 9 ((j : Int) + 1) (T.nil (QN.back (j + 1, tot * (lenJ n lz j : Int)) ?_ ?_ (by kernel_rfl) (fun w h => h)))))))))
    ·
     try dsimp only
     exact ⟨by omega, tot_step htt (not_lt_of_dec h10) rfl, not_lt_of_dec h10⟩
    · show N - _ < N - _; omega
  ·
   have h8' := of_decide_eq_false h8
   refine W.exit (QN.thenExit (QN.thenExit (QN.blkHit (QN.seq (W.seq (W.rg od4 ?_))))))
   have hjN : j = N := by omega
   rw [hjN] at htt
   obtain ⟨tt, htt_⟩ : ∃ tt : Nat, tot = (tt : Int) := ⟨tot.toNat, by omega⟩
   subst htt_
   refine T.pi 65 tt (T.pu 66 (.agg #[.int .i64 tt, .int .i64 0, .int .i64 (-1)]) (T.al 10 41 #[.int .i64 0, .int .i64 0, .int .i64 0] tv3 (fun b11 => T.sp 41 b11 0 (.agg #[.int .i64 tt, .int .i64 0, .int .i64 (-1)]) #[.int .i64 0, .int .i64 0, .int .i64 0] #[.int .i64 tt, .int .i64 0, .int .i64 (-1)] 41 pm0 tv2 (T.nil (QN.seq (W.seq (W.rg od3 (T.pu 67 (.agg #[.slice none 0 0, .slice none 0 0]) (T.al 11 28 #[.slice none 0 0, .slice none 0 0] tv3 (fun b12 => T.sp 28 b12 0 (.agg #[.slice none 0 0, .slice none 0 0]) #[.slice none 0 0, .slice none 0 0] #[.slice none 0 0, .slice none 0 0] 28 pm0 tv2 (T.nil (QN.seq (W.seq (W.seq (W.rg od1 (T.pi 12 0 (T.nil (QN.seq (W.block (W.loop (σ := Nat × List (OR Int) × List (OR Int) × Option Addr × Nat × List (Nat × Obj) × Option Addr × Nat × List (Nat × Obj)) (fun gs => gs.1 ≤ r0 ∧ Rws (gs.2.1.map OR.l) n gs.1 ∧ Rws (gs.2.2.1.map OR.l) n gs.1 ∧ RowIs 45 1 gs.2.2.2.1 (gs.2.1.map OR.hd).length gs.2.2.2.2.1 (cells (gs.2.1.map OR.hd)) gs.2.2.2.2.2.1 ∧ RowIs 45 1 gs.2.2.2.2.2.2.1 (gs.2.2.1.map OR.hd).length gs.2.2.2.2.2.2.2.1 (cells (gs.2.2.1.map OR.hd)) gs.2.2.2.2.2.2.2.2) (fun gs => [(0, .int .i64 n), (1, .int .i64 r0), (2, .int .i64 lz), (6, .pointer (some ⟨b1, 0, none⟩)), (8, .int .i64 tt), (10, .pointer (some ⟨b11, 0, none⟩)), (11, .pointer (some ⟨b12, 0, none⟩)), (12, .int .i64 (gs.1 : Int))]) (fun gs => St w ((b12, Obj.cells #[.slice gs.2.2.2.1 ((gs.2.1.map OR.hd).length) gs.2.2.2.2.1, .slice gs.2.2.2.2.2.2.1 ((gs.2.2.1.map OR.hd).length) gs.2.2.2.2.2.2.2.1] 28 (0, 0)) :: (gs.2.2.2.2.2.1 ++ (gs.2.2.2.2.2.2.2.2 ++ ((rowsH 3 gs.2.1) ++ ((rowsH 3 gs.2.2.1) ++ [(b11, Obj.cells #[.int .i64 tt, .int .i64 0, .int .i64 (-1)] 41 (0, 0)), (b1, Obj.cells #[.int .i64 0, .int .i64 0, .int .i64 0] 41 (0, 0))])))))) (fun gs => r0 - gs.1) (0, [], [], none, 0, [], none, 0, []) ?_ (by kernel_rfl) (fun w h => h) ?_))))))))))))))))))))
   ·
    try dsimp only
    exact ⟨Nat.zero_le _, rws_nil, rws_nil, RowIs.nil, RowIs.nil⟩
   rintro ⟨r, pr, cm, Ap, cp, Hp, Aq, cq, Hq⟩ hI_
   obtain ⟨hr0, hP, hC, hrow1, hrow2⟩ : r ≤ r0 ∧ Rws (pr.map OR.l) n r ∧ Rws (cm.map OR.l) n r ∧ RowIs 45 1 Ap (pr.map OR.hd).length cp (cells (pr.map OR.hd)) Hp ∧ RowIs 45 1 Aq (cm.map OR.hd).length cq (cells (cm.map OR.hd)) Hq := hI_
   have hpl : pr.length ≤ 3 := by have := hP.len; rw [List.length_map] at this; omega
   have hcl : cm.length ≤ 3 := by have := hC.len; rw [List.length_map] at this; omega
   refine W.seq (W.seq (W.rg od3 (T.pi 68 r (T.pi 69 r0 (T.pb 70 (decide ((r : Int) < (r0 : Int))) (T.nil (QN.seq (W.cd (decide ((r : Int) < (r0 : Int))) (fun h13 => ?_) (fun h13 => ?_)))))))))
   ·
    have h13' := of_decide_eq_true h13
    refine W.skip (QN.seq (W.seq (W.block (W.seq (W.drawnB (Ψ := St w ((b12, Obj.cells #[.slice Ap ((pr.map OR.hd).length) cp, .slice Aq ((cm.map OR.hd).length) cq] 28 (0, 0)) :: (Hp ++ (Hq ++ ((rowsH 3 pr) ++ ((rowsH 3 cm) ++ [(b11, Obj.cells #[.int .i64 tt, .int .i64 0, .int .i64 (-1)] 41 (0, 0)), (b1, Obj.cells #[.int .i64 0, .int .i64 0, .int .i64 0] 41 (0, 0))])))))) (St w ((b12, Obj.cells #[.slice Ap ((pr.map OR.hd).length) cp, .slice Aq ((cm.map OR.hd).length) cq] 28 (0, 0)) :: ((rowsH 3 pr) ++ ((rowsH 3 cm) ++ [(b11, Obj.cells #[.int .i64 tt, .int .i64 0, .int .i64 (-1)] 41 (0, 0)), (b1, Obj.cells #[.int .i64 0, .int .i64 0, .int .i64 0] 41 (0, 0))])))) (.leaf [(0, true), (1, true), (2, true), (3, false), (4, false), (5, false), (6, true)]) 7 [(7, false)] rfl hmx (by kernel_rfl) (by kernel_rfl) (NoPanic.then (NoPanic.inBlock (NoPanic.then (NoPanic.then (NoPanic.inBlock (NoPanic.then NoPanic.body)))))) (fun w h => h.drew) (fun w h => (h.perm (pm0.trans ((((((pm0.append_left Hq).trans (List.perm_append_comm_assoc _ _ _)).append_left Hp).trans (List.perm_append_comm_assoc _ _ _)).trans ((((((pm0.append_left Hq).trans (List.perm_append_comm_assoc _ _ _)).append_left Hp).trans (List.perm_append_comm_assoc _ _ _)).trans ((((((pm0.append_left Hq).trans List.perm_middle).append_left Hp).trans List.perm_middle).trans (((((pm0.append_left Hq).trans List.perm_middle).append_left Hp).trans List.perm_middle).cons _)).append_left (rowsH 3 cm))).append_left (rowsH 3 pr))).cons _))).part ((List.Sublist.append (List.Sublist.refl _) (List.Sublist.append (List.Sublist.refl _) ns2)).cons_cons _)) (TT.leaf (T.pu 73 (.pointer (some ⟨b12, 0, none⟩)) (T.ld true 74 (.slice Ap ((pr.map OR.hd).length) cp) 22 b12 0 (fun w h => St.cellM h mm0 (by kernel_rfl)) (T.pi 75 n (T.make 76 45 3 8 (n : Int) n (0 : Int) (.int .i64 0) (List.replicate n (0 : Int)) rfl (by kernel_rfl) (fun w => by kernel_rfl) (by kernel_rfl) (by kernel_rfl) (by kernel_rfl) (by kernel_rfl) rfl (by omega) (by omega) (by omega) (fun b14 => (fun w h => (h.perm (pm1.trans ((((((((pm0.append_left Hq).trans (List.perm_append_comm_assoc _ _ _)).append_left Hp).trans (List.perm_append_comm_assoc _ _ _)).cons _).trans List.perm_middle.symm).trans ((((((((pm0.append_left Hq).trans (List.perm_append_comm_assoc _ _ _)).append_left Hp).trans (List.perm_append_comm_assoc _ _ _)).cons _).trans List.perm_middle.symm).trans ((((((((pm0.append_left Hq).trans List.perm_middle).append_left Hp).trans List.perm_middle).cons _).trans (List.Perm.swap _ _ _)).trans (((((((pm0.append_left Hq).trans List.perm_middle).append_left Hp).trans List.perm_middle).cons _).trans (List.Perm.swap _ _ _)).cons _)).append_left (rowsH 3 cm))).append_left (rowsH 3 pr))).cons _))).part ((List.Sublist.append (List.Sublist.refl _) (List.Sublist.append (List.Sublist.refl _) ns2)).cons_cons _))) (fun b14 => ?_)))))))))))
    have hrl15 : (List.replicate n (0 : Int) : List Int).length = n := List.length_replicate
    refine T.lit 77 22 45 1 #[(0, .slice (some ⟨b14, 0, none⟩) ((List.replicate n (0 : Int) : List Int).length) ((List.replicate n (0 : Int) : List Int).length))] (cells ([OR.hd ⟨b14, (List.replicate n (0 : Int) : List Int)⟩] : List (Hd Int))).toArray (by kernel_rfl) (by kernel_rfl) (by kernel_rfl) (by kernel_rfl) (fun b16 => (fun w h => (h.perm (pm2.trans ((((((((((pm0.append_left Hq).trans (List.perm_append_comm_assoc _ _ _)).append_left Hp).trans (List.perm_append_comm_assoc _ _ _)).cons _).trans List.perm_middle.symm).cons _).trans List.perm_middle.symm).trans ((((((((((pm0.append_left Hq).trans (List.perm_append_comm_assoc _ _ _)).append_left Hp).trans (List.perm_append_comm_assoc _ _ _)).cons _).trans List.perm_middle.symm).cons _).trans List.perm_middle.symm).trans ((((((((((pm0.append_left Hq).trans List.perm_middle).append_left Hp).trans List.perm_middle).cons _).trans (List.Perm.swap _ _ _)).cons _).trans (List.Perm.swap _ _ _)).trans (((((((((pm0.append_left Hq).trans List.perm_middle).append_left Hp).trans List.perm_middle).cons _).trans (List.Perm.swap _ _ _)).cons _).trans (List.Perm.swap _ _ _)).cons _)).append_left (rowsH 3 cm))).append_left (rowsH 3 pr))).cons _))).part ((List.Sublist.append (List.Sublist.refl _) (List.Sublist.append (List.Sublist.refl _) ns2)).cons_cons _))) (fun b16 => T.appC 78 22 45 24 Ap cp ((pr.map OR.hd) : List (Hd Int)) Hp b16 0 1 ([OR.hd ⟨b14, (List.replicate n (0 : Int) : List Int)⟩] : List (Hd Int)) ((((((pm0.cons _).trans List.perm_middle.symm).cons _).trans List.perm_middle.symm).cons _).trans List.perm_middle.symm) (by kernel_rfl) (by kernel_rfl) (by kernel_rfl) (by kernel_rfl) hrow1 (fun w h => St.rangeM h (cells ([OR.hd ⟨b14, (List.replicate n (0 : Int) : List Int)⟩] : List (Hd Int))).toArray (List.mem_append_right _ mm0) (by kernel_rfl)) (by unfold maxLen; first | omega | (simp; omega)) (by first | omega | (simp; omega)) (fun Hr19 => (fun w h => (h.perm (((pm2.append_left Hr19).trans List.perm_middle).trans ((((((((((pm0.append_left Hq).trans (List.perm_append_comm_assoc _ _ _)).cons _).trans List.perm_middle.symm).cons _).trans List.perm_middle.symm).append_left Hr19).trans (List.perm_append_comm_assoc _ _ _)).trans ((((((((((pm0.append_left Hq).trans (List.perm_append_comm_assoc _ _ _)).cons _).trans List.perm_middle.symm).cons _).trans List.perm_middle.symm).append_left Hr19).trans (List.perm_append_comm_assoc _ _ _)).trans ((((((((((pm0.append_left Hq).trans List.perm_middle).cons _).trans (List.Perm.swap _ _ _)).cons _).trans (List.Perm.swap _ _ _)).append_left Hr19).trans List.perm_middle).trans (((((((((pm0.append_left Hq).trans List.perm_middle).cons _).trans (List.Perm.swap _ _ _)).cons _).trans (List.Perm.swap _ _ _)).append_left Hr19).trans List.perm_middle).cons _)).append_left (rowsH 3 cm))).append_left (rowsH 3 pr))).cons _))).part ((List.Sublist.append (List.Sublist.refl _) (List.Sublist.append (List.Sublist.refl _) ns2)).cons_cons _))) (fun A17 c18 Hr19 hrow20 => T.pu 79 (.pointer (some ⟨b12, 0, none⟩)) (T.bar (T.sp 22 b12 0 (.slice A17 (((pr.map OR.hd) ++ ([OR.hd ⟨b14, (List.replicate n (0 : Int) : List Int)⟩])).length) c18) #[.slice Ap ((pr.map OR.hd).length) cp, .slice Aq ((cm.map OR.hd).length) cq] #[.slice A17 (((pr.map OR.hd) ++ ([OR.hd ⟨b14, (List.replicate n (0 : Int) : List Int)⟩])).length) c18, .slice Aq ((cm.map OR.hd).length) cq] 28 ((pm2.append_left Hr19).trans List.perm_middle) tv2 (T.nil ?_)))))
    have e21 : (pr.map OR.hd) ++ ([OR.hd ⟨b14, (List.replicate n (0 : Int) : List Int)⟩]) = (pr ++ [(⟨b14, (List.replicate n (0 : Int) : List Int)⟩ : OR Int)]).map OR.hd := by rw [List.map_append]; rfl
    rw [e21] at hrow20
    rw [e21]
    refine QN.weak (Ψ := St w ((rowsH 3 (pr ++ [(⟨b14, (List.replicate n (0 : Int) : List Int)⟩ : OR Int)])) ++ ((b12, Obj.cells #[.slice A17 (((pr ++ [(⟨b14, (List.replicate n (0 : Int) : List Int)⟩ : OR Int)]).map OR.hd).length) c18, .slice Aq ((cm.map OR.hd).length) cq] 28 (0, 0)) :: (Hr19 ++ ((b16, Obj.cells (cells ([OR.hd ⟨b14, (List.replicate n (0 : Int) : List Int)⟩] : List (Hd Int))).toArray 45 (0, 0)) :: (Hq ++ ((rowsH 3 cm) ++ [(b11, Obj.cells #[.int .i64 tt, .int .i64 0, .int .i64 (-1)] 41 (0, 0)), (b1, Obj.cells #[.int .i64 0, .int .i64 0, .int .i64 0] 41 (0, 0))]))))))) (fun w h => St.perm ((h.perm (((((pm1.append_left Hr19).trans List.perm_middle).cons _).trans (List.Perm.swap _ _ _)).trans ((((((((((pm0.append_left Hq).trans (List.perm_append_comm_assoc _ _ _)).cons _).trans List.perm_middle.symm).append_left Hr19).trans (List.perm_append_comm_assoc _ _ _)).cons _).trans List.perm_middle.symm).trans ((pm0.trans ((pm0.trans ((pm0.trans ((pm0.trans ((pm0.trans ((pm0.trans (pm0.cons _)).append_left (rowsH 3 cm))).append_left Hq)).cons _)).append_left Hr19)).cons _)).append_left (rowsH 3 pr))).cons _))).part ((List.Sublist.append (List.Sublist.refl _) ((List.Sublist.append (List.Sublist.refl _) ((List.Sublist.append (List.Sublist.refl _) (List.Sublist.append (List.Sublist.refl _) ns2)).cons_cons _)).cons_cons _)).cons_cons _)) ((rowsH_snoc 3 pr b14 (List.replicate n (0 : Int) : List Int)).symm.append_right _)) (QN.seq (W.drawnB (Ψ := St w ((rowsH 3 (pr ++ [(⟨b14, (List.replicate n (0 : Int) : List Int)⟩ : OR Int)])) ++ ((b12, Obj.cells #[.slice A17 (((pr ++ [(⟨b14, (List.replicate n (0 : Int) : List Int)⟩ : OR Int)]).map OR.hd).length) c18, .slice Aq ((cm.map OR.hd).length) cq] 28 (0, 0)) :: (Hr19 ++ ((b16, Obj.cells (cells ([OR.hd ⟨b14, (List.replicate n (0 : Int) : List Int)⟩] : List (Hd Int))).toArray 45 (0, 0)) :: (Hq ++ ((rowsH 3 cm) ++ [(b11, Obj.cells #[.int .i64 tt, .int .i64 0, .int .i64 (-1)] 41 (0, 0)), (b1, Obj.cells #[.int .i64 0, .int .i64 0, .int .i64 0] 41 (0, 0))]))))))) (St w ((rowsH 3 (pr ++ [(⟨b14, (List.replicate n (0 : Int) : List Int)⟩ : OR Int)])) ++ ((b12, Obj.cells #[.slice A17 (((pr ++ [(⟨b14, (List.replicate n (0 : Int) : List Int)⟩ : OR Int)]).map OR.hd).length) c18, .slice Aq ((cm.map OR.hd).length) cq] 28 (0, 0)) :: ((b16, Obj.cells (cells ([OR.hd ⟨b14, (List.replicate n (0 : Int) : List Int)⟩] : List (Hd Int))).toArray 45 (0, 0)) :: ((rowsH 3 cm) ++ [(b11, Obj.cells #[.int .i64 tt, .int .i64 0, .int .i64 (-1)] 41 (0, 0)), (b1, Obj.cells #[.int .i64 0, .int .i64 0, .int .i64 0] 41 (0, 0))]))))) (.leaf [(0, true), (1, true), (2, true), (3, false), (4, false), (5, false), (6, true)]) 7 [(7, false)] rfl hmx (by kernel_rfl) (by kernel_rfl) (NoPanic.inBlock (NoPanic.then (NoPanic.then (NoPanic.inBlock (NoPanic.then NoPanic.body))))) (fun w h => h.drew) (fun w h => (h.perm (pm0.trans ((pm0.trans ((((pm0.append_left Hr19).trans List.perm_middle).trans ((((((pm0.append_left Hq).trans (List.perm_append_comm_assoc _ _ _)).append_left Hr19).trans (List.perm_append_comm_assoc _ _ _)).trans ((((((pm0.append_left Hq).trans List.perm_middle).append_left Hr19).trans List.perm_middle).trans (((((pm0.append_left Hq).trans List.perm_middle).append_left Hr19).trans List.perm_middle).cons _)).append_left (rowsH 3 cm))).cons _)).cons _)).append_left (rowsH 3 (pr ++ [(⟨b14, (List.replicate n (0 : Int) : List Int)⟩ : OR Int)]))))).part (List.Sublist.append (List.Sublist.refl _) (((List.Sublist.append (List.Sublist.refl _) ns2).cons_cons _).cons_cons _))) (TT.leaf (T.pu 80 (.pointer (some ⟨b12, 1, none⟩)) (T.ld true 81 (.slice Aq ((cm.map OR.hd).length) cq) 22 b12 1 (fun w h => St.cellM h (List.mem_append_right _ mm0) (by kernel_rfl)) (T.pi 82 n (T.make 83 45 3 8 (n : Int) n (0 : Int) (.int .i64 0) (List.replicate n (0 : Int)) rfl (by kernel_rfl) (fun w => by kernel_rfl) (by kernel_rfl) (by kernel_rfl) (by kernel_rfl) (by kernel_rfl) rfl (by omega) (by omega) (by omega) (fun b22 => (fun w h => (h.perm (((pm0.cons _).trans List.perm_middle.symm).trans ((pm1.trans ((((((pm0.append_left Hr19).trans List.perm_middle).cons _).trans (List.Perm.swap _ _ _)).trans ((((((((pm0.append_left Hq).trans (List.perm_append_comm_assoc _ _ _)).append_left Hr19).trans (List.perm_append_comm_assoc _ _ _)).cons _).trans List.perm_middle.symm).trans ((((((((pm0.append_left Hq).trans List.perm_middle).append_left Hr19).trans List.perm_middle).cons _).trans (List.Perm.swap _ _ _)).trans (((((((pm0.append_left Hq).trans List.perm_middle).append_left Hr19).trans List.perm_middle).cons _).trans (List.Perm.swap _ _ _)).cons _)).append_left (rowsH 3 cm))).cons _)).cons _)).append_left (rowsH 3 (pr ++ [(⟨b14, (List.replicate n (0 : Int) : List Int)⟩ : OR Int)]))))).part (List.Sublist.append (List.Sublist.refl _) (((List.Sublist.append (List.Sublist.refl _) ns2).cons_cons _).cons_cons _)))) (fun b22 => ?_))))))))
    have hrl23 : (List.replicate n (0 : Int) : List Int).length = n := List.length_replicate
    refine T.lit 84 22 45 1 #[(0, .slice (some ⟨b22, 0, none⟩) ((List.replicate n (0 : Int) : List Int).length) ((List.replicate n (0 : Int) : List Int).length))] (cells ([OR.hd ⟨b22, (List.replicate n (0 : Int) : List Int)⟩] : List (Hd Int))).toArray (by kernel_rfl) (by kernel_rfl) (by kernel_rfl) (by kernel_rfl) (fun b24 => (fun w h => (h.perm (((((pm0.cons _).trans List.perm_middle.symm).cons _).trans List.perm_middle.symm).trans ((pm2.trans ((((((((pm0.append_left Hr19).trans List.perm_middle).cons _).trans (List.Perm.swap _ _ _)).cons _).trans (List.Perm.swap _ _ _)).trans ((((((((((pm0.append_left Hq).trans (List.perm_append_comm_assoc _ _ _)).append_left Hr19).trans (List.perm_append_comm_assoc _ _ _)).cons _).trans List.perm_middle.symm).cons _).trans List.perm_middle.symm).trans ((((((((((pm0.append_left Hq).trans List.perm_middle).append_left Hr19).trans List.perm_middle).cons _).trans (List.Perm.swap _ _ _)).cons _).trans (List.Perm.swap _ _ _)).trans (((((((((pm0.append_left Hq).trans List.perm_middle).append_left Hr19).trans List.perm_middle).cons _).trans (List.Perm.swap _ _ _)).cons _).trans (List.Perm.swap _ _ _)).cons _)).append_left (rowsH 3 cm))).cons _)).cons _)).append_left (rowsH 3 (pr ++ [(⟨b14, (List.replicate n (0 : Int) : List Int)⟩ : OR Int)]))))).part (List.Sublist.append (List.Sublist.refl _) (((List.Sublist.append (List.Sublist.refl _) ns2).cons_cons _).cons_cons _)))) (fun b24 => T.appC 85 22 45 24 Aq cq ((cm.map OR.hd) : List (Hd Int)) Hq b24 0 1 ([OR.hd ⟨b22, (List.replicate n (0 : Int) : List Int)⟩] : List (Hd Int)) ((((((((((((pm0.cons _).trans List.perm_middle.symm).append_left Hr19).trans (List.perm_append_comm_assoc _ _ _)).cons _).trans List.perm_middle.symm).append_left (rowsH 3 (pr ++ [(⟨b14, (List.replicate n (0 : Int) : List Int)⟩ : OR Int)]))).trans (List.perm_append_comm_assoc _ _ _)).cons _).trans List.perm_middle.symm).cons _).trans List.perm_middle.symm) (by kernel_rfl) (by kernel_rfl) (by kernel_rfl) (by kernel_rfl) hrow2 (fun w h => St.rangeM h (cells ([OR.hd ⟨b22, (List.replicate n (0 : Int) : List Int)⟩] : List (Hd Int))).toArray (List.mem_append_right _ mm0) (by kernel_rfl)) (by unfold maxLen; first | omega | (simp; omega)) (by first | omega | (simp; omega)) (fun Hr27 => (fun w h => (h.perm (((((((pm0.cons _).trans List.perm_middle.symm).cons _).trans List.perm_middle.symm).append_left Hr27).trans (List.perm_append_comm_assoc _ _ _)).trans ((((pm2.append_left Hr27).trans List.perm_middle).trans ((((((((((pm0.append_left Hr19).trans List.perm_middle).cons _).trans (List.Perm.swap _ _ _)).cons _).trans (List.Perm.swap _ _ _)).append_left Hr27).trans List.perm_middle).trans ((((((((((pm0.append_left Hr19).trans (List.perm_append_comm_assoc _ _ _)).cons _).trans List.perm_middle.symm).cons _).trans List.perm_middle.symm).append_left Hr27).trans (List.perm_append_comm_assoc _ _ _)).trans ((((((((((pm0.append_left Hr19).trans List.perm_middle).cons _).trans (List.Perm.swap _ _ _)).cons _).trans (List.Perm.swap _ _ _)).append_left Hr27).trans List.perm_middle).trans (((((((((pm0.append_left Hr19).trans List.perm_middle).cons _).trans (List.Perm.swap _ _ _)).cons _).trans (List.Perm.swap _ _ _)).append_left Hr27).trans List.perm_middle).cons _)).append_left (rowsH 3 cm))).cons _)).cons _)).append_left (rowsH 3 (pr ++ [(⟨b14, (List.replicate n (0 : Int) : List Int)⟩ : OR Int)]))))).part (List.Sublist.append (List.Sublist.refl _) (((List.Sublist.append (List.Sublist.refl _) ns2).cons_cons _).cons_cons _)))) (fun A25 c26 Hr27 hrow28 => T.pu 86 (.pointer (some ⟨b12, 1, none⟩)) (T.bar (T.sp 22 b12 1 (.slice A25 (((cm.map OR.hd) ++ ([OR.hd ⟨b22, (List.replicate n (0 : Int) : List Int)⟩])).length) c26) #[.slice A17 (((pr ++ [(⟨b14, (List.replicate n (0 : Int) : List Int)⟩ : OR Int)]).map OR.hd).length) c18, .slice Aq ((cm.map OR.hd).length) cq] #[.slice A17 (((pr ++ [(⟨b14, (List.replicate n (0 : Int) : List Int)⟩ : OR Int)]).map OR.hd).length) c18, .slice A25 (((cm.map OR.hd) ++ ([OR.hd ⟨b22, (List.replicate n (0 : Int) : List Int)⟩])).length) c26] 28 ((((((((pm0.append_left (rowsH 3 (pr ++ [(⟨b14, (List.replicate n (0 : Int) : List Int)⟩ : OR Int)]))).trans List.perm_middle).cons _).trans (List.Perm.swap _ _ _)).cons _).trans (List.Perm.swap _ _ _)).append_left Hr27).trans List.perm_middle) tv2 (T.nil ?_)))))
    have e29 : (cm.map OR.hd) ++ ([OR.hd ⟨b22, (List.replicate n (0 : Int) : List Int)⟩]) = (cm ++ [(⟨b22, (List.replicate n (0 : Int) : List Int)⟩ : OR Int)]).map OR.hd := by rw [List.map_append]; rfl
    rw [e29] at hrow28
    rw [e29]
    refine QN.weak (Ψ := St w ((rowsH 3 (cm ++ [(⟨b22, (List.replicate n (0 : Int) : List Int)⟩ : OR Int)])) ++ ((b12, Obj.cells #[.slice A17 (((pr ++ [(⟨b14, (List.replicate n (0 : Int) : List Int)⟩ : OR Int)]).map OR.hd).length) c18, .slice A25 (((cm ++ [(⟨b22, (List.replicate n (0 : Int) : List Int)⟩ : OR Int)]).map OR.hd).length) c26] 28 (0, 0)) :: (Hr27 ++ ((b24, Obj.cells (cells ([OR.hd ⟨b22, (List.replicate n (0 : Int) : List Int)⟩] : List (Hd Int))).toArray 45 (0, 0)) :: ((rowsH 3 (pr ++ [(⟨b14, (List.replicate n (0 : Int) : List Int)⟩ : OR Int)])) ++ (Hr19 ++ [(b16, Obj.cells (cells ([OR.hd ⟨b14, (List.replicate n (0 : Int) : List Int)⟩] : List (Hd Int))).toArray 45 (0, 0)), (b11, Obj.cells #[.int .i64 tt, .int .i64 0, .int .i64 (-1)] 41 (0, 0)), (b1, Obj.cells #[.int .i64 0, .int .i64 0, .int .i64 0] 41 (0, 0))]))))))) (fun w h => St.perm ((h.perm (((((pm1.append_left Hr27).trans List.perm_middle).cons _).trans (List.Perm.swap _ _ _)).trans ((((((((((((((pm0.cons _).trans List.perm_middle.symm).append_left Hr19).trans (List.perm_append_comm_assoc _ _ _)).append_left (rowsH 3 (pr ++ [(⟨b14, (List.replicate n (0 : Int) : List Int)⟩ : OR Int)]))).trans (List.perm_append_comm_assoc _ _ _)).cons _).trans List.perm_middle.symm).append_left Hr27).trans (List.perm_append_comm_assoc _ _ _)).cons _).trans List.perm_middle.symm).trans ((pm0.trans ((pm0.trans ((pm0.trans ((pm0.trans ((pm0.trans ((pm0.trans ((pm0.trans (pm0.cons _)).cons _)).append_left Hr19)).append_left (rowsH 3 (pr ++ [(⟨b14, (List.replicate n (0 : Int) : List Int)⟩ : OR Int)])))).cons _)).append_left Hr27)).cons _)).append_left (rowsH 3 cm))).cons _))).part ((List.Sublist.append (List.Sublist.refl _) ((List.Sublist.append (List.Sublist.refl _) ((List.Sublist.append (List.Sublist.refl _) (List.Sublist.append (List.Sublist.refl _) ns3)).cons_cons _)).cons_cons _)).cons_cons _)) ((rowsH_snoc 3 cm b22 (List.replicate n (0 : Int) : List Int)).symm.append_right _)) (QN.blkNormal (QN.seq (W.rg od3 (T.pi 71 r (T.pw 72 ((r : Int) + 1) (T.pi 12 ((r : Int) + 1) (T.nil (QN.back (r + 1, (pr ++ [(⟨b14, (List.replicate n (0 : Int) : List Int)⟩ : OR Int)]), (cm ++ [(⟨b22, (List.replicate n (0 : Int) : List Int)⟩ : OR Int)]), A17, c18, Hr19, A25, c26, Hr27) ?_ ?_ (by kernel_rfl) (fun w h => (h.perm (((pm0.append_left (rowsH 3 (cm ++ [(⟨b22, (List.replicate n (0 : Int) : List Int)⟩ : OR Int)]))).trans List.perm_middle).trans ((((((((((pm0.append_left (rowsH 3 (pr ++ [(⟨b14, (List.replicate n (0 : Int) : List Int)⟩ : OR Int)]))).trans (List.perm_append_comm_assoc _ _ _)).cons _).trans List.perm_middle.symm).append_left Hr27).trans (List.perm_append_comm_assoc _ _ _)).append_left (rowsH 3 (cm ++ [(⟨b22, (List.replicate n (0 : Int) : List Int)⟩ : OR Int)]))).trans (List.perm_append_comm_assoc _ _ _)).trans ((((pm0.append_left (rowsH 3 (cm ++ [(⟨b22, (List.replicate n (0 : Int) : List Int)⟩ : OR Int)]))).trans (List.perm_append_comm_assoc _ _ _)).trans ((((((pm0.cons _).trans List.perm_middle.symm).append_left (rowsH 3 (cm ++ [(⟨b22, (List.replicate n (0 : Int) : List Int)⟩ : OR Int)]))).trans (List.perm_append_comm_assoc _ _ _)).trans ((pm0.trans ((pm2.trans (pm2.cons _)).append_left (rowsH 3 (cm ++ [(⟨b22, (List.replicate n (0 : Int) : List Int)⟩ : OR Int)])))).append_left (rowsH 3 (pr ++ [(⟨b14, (List.replicate n (0 : Int) : List Int)⟩ : OR Int)])))).append_left Hr27)).append_left Hr19)).cons _))).part ((List.Sublist.append (List.Sublist.refl _) (List.Sublist.append (List.Sublist.refl _) (List.Sublist.append (List.Sublist.refl _) (List.Sublist.append (List.Sublist.refl _) ns2)))).cons_cons _))))))))))
    ·
     try dsimp only
     exact ⟨by omega, rws_snoc hP, rws_snoc hC, hrow20, hrow28⟩
    · show r0 - _ < r0 - _; omega
   ·
    have h13' := of_decide_eq_false h13
    refine W.exit (QN.thenExit (QN.thenExit (QN.blkHit (QN.seq (W.seq (W.rg od3 (T.pu 87 (.agg #[.int .i64 0, .int .i64 1, .int .i64 2, .int .i64 4]) (T.al 13 86 #[.int .i64 0, .int .i64 0, .int .i64 0, .int .i64 0] tv3 (fun b30 => T.sp 86 b30 0 (.agg #[.int .i64 0, .int .i64 1, .int .i64 2, .int .i64 4]) #[.int .i64 0, .int .i64 0, .int .i64 0, .int .i64 0] #[.int .i64 0, .int .i64 1, .int .i64 2, .int .i64 4] 86 pm0 tv2 (T.nil (QN.seq (W.seq (W.seq (W.rg od1 (T.pi 14 0 (T.nil (QN.seq (W.block ?_))))))))))))))))))
    have hrr : r = r0 := by omega
    subst hrr
    refine W.loop (σ := Nat × List (OR Int) × List (OR Int) × Int × Int) (fun gs => gs.1 ≤ tt ∧ (gs.2.2.2.1, gs.2.2.2.2) = rSrch n (chR n lz N) gs.1 ∧ Rws (gs.2.1.map OR.l) n r ∧ Rws (gs.2.2.1.map OR.l) n r ∧ RowIs 45 1 Ap (gs.2.1.map OR.hd).length cp (cells (gs.2.1.map OR.hd)) Hp ∧ RowIs 45 1 Aq (gs.2.2.1.map OR.hd).length cq (cells (gs.2.2.1.map OR.hd)) Hq ∧ 0 ≤ gs.2.2.2.1 ∧ gs.2.2.2.1 ≤ (gs.1 : Int)) (fun gs => [(0, .int .i64 n), (1, .int .i64 r), (2, .int .i64 lz), (6, .pointer (some ⟨b1, 0, none⟩)), (8, .int .i64 tt), (10, .pointer (some ⟨b11, 0, none⟩)), (11, .pointer (some ⟨b12, 0, none⟩)), (13, .pointer (some ⟨b30, 0, none⟩)), (14, .int .i64 (gs.1 : Int))]) (fun gs => St w ((b12, Obj.cells #[.slice Ap ((gs.2.1.map OR.hd).length) cp, .slice Aq ((gs.2.2.1.map OR.hd).length) cq] 28 (0, 0)) :: (Hp ++ (Hq ++ ((rowsH 3 gs.2.1) ++ ((rowsH 3 gs.2.2.1) ++ [(b11, Obj.cells #[.int .i64 tt, .int .i64 gs.2.2.2.1, .int .i64 gs.2.2.2.2] 41 (0, 0)), (b30, Obj.cells #[.int .i64 0, .int .i64 1, .int .i64 2, .int .i64 4] 86 (0, 0)), (b1, Obj.cells #[.int .i64 0, .int .i64 0, .int .i64 0] 41 (0, 0))])))))) (fun gs => tt - gs.1) (0, pr, cm, 0, -1) ?_ (by kernel_rfl) (fun w h => (h.perm (pm1.trans ((((pm0.cons _).trans List.perm_middle.symm).trans ((((pm0.cons _).trans List.perm_middle.symm).trans ((((pm0.cons _).trans List.perm_middle.symm).trans ((((pm0.cons _).trans List.perm_middle.symm).trans ((pm1.trans ((pm0.trans (pm0.cons _)).cons _)).append_left (rowsH 3 cm))).append_left (rowsH 3 pr))).append_left Hq)).append_left Hp)).cons _))).part ((List.Sublist.append (List.Sublist.refl _) (List.Sublist.append (List.Sublist.refl _) (List.Sublist.append (List.Sublist.refl _) (List.Sublist.append (List.Sublist.refl _) ns3)))).cons_cons _)) ?_
    ·
     try dsimp only
     exact ⟨Nat.zero_le _, rfl, hP, hC, hrow1, hrow2, Int.le_refl _, Int.le_refl _⟩
    rintro ⟨k, pr3, cm3, fk, ls⟩ hI_
    obtain ⟨hk, hsr, hP3, hC3, hrow3, hrow4, hf0, hfk⟩ : k ≤ tt ∧ (fk, ls) = rSrch n (chR n lz N) k ∧ Rws (pr3.map OR.l) n r ∧ Rws (cm3.map OR.l) n r ∧ RowIs 45 1 Ap (pr3.map OR.hd).length cp (cells (pr3.map OR.hd)) Hp ∧ RowIs 45 1 Aq (cm3.map OR.hd).length cq (cells (cm3.map OR.hd)) Hq ∧ 0 ≤ fk ∧ fk ≤ (k : Int) := hI_
    refine W.seq (W.seq (W.rg od3 (T.pi 88 k (T.pi 89 tt (T.pb 90 (decide ((k : Int) < (tt : Int))) (T.nil (QN.seq (W.cd (decide ((k : Int) < (tt : Int))) (fun h31 => ?_) (fun h31 => ?_)))))))))
    ·
     have h31' := of_decide_eq_true h31
     refine W.skip (QN.seq (W.seq (W.block (W.seq (W.rg od2 (T.pi 93 k (T.pi 15 k (T.nil (QN.seq (W.seq (W.seq (W.rg od1 (T.pi 16 0 (T.nil (QN.seq (W.block (W.loop (σ := Nat × Nat × List (OR Int) × List (OR Int)) (fun gs => gs.1 ≤ N ∧ gs.2.1 = xAt n lz k gs.1 ∧ Rws (gs.2.2.1.map OR.l) n r ∧ Fld (gs.2.2.1.map OR.l) n gs.1 (fun j => ((vecK (chR n lz N) k).getD j P2.zero).x) ∧ Rws (gs.2.2.2.map OR.l) n r ∧ Fld (gs.2.2.2.map OR.l) n gs.1 (fun j => ((vecK (chR n lz N) k).getD j P2.zero).y) ∧ RowIs 45 1 Ap (gs.2.2.1.map OR.hd).length cp (cells (gs.2.2.1.map OR.hd)) Hp ∧ RowIs 45 1 Aq (gs.2.2.2.map OR.hd).length cq (cells (gs.2.2.2.map OR.hd)) Hq) (fun gs => [(0, .int .i64 n), (1, .int .i64 r), (2, .int .i64 lz), (6, .pointer (some ⟨b1, 0, none⟩)), (8, .int .i64 tt), (10, .pointer (some ⟨b11, 0, none⟩)), (11, .pointer (some ⟨b12, 0, none⟩)), (13, .pointer (some ⟨b30, 0, none⟩)), (14, .int .i64 k), (15, .int .i64 (gs.2.1 : Int)), (16, .int .i64 (gs.1 : Int)), (88, .int .i64 k), (89, .int .i64 tt), (90, .bool (decide ((k : Int) < (tt : Int)))), (93, .int .i64 k)]) (fun gs => St w ((b12, Obj.cells #[.slice Ap ((gs.2.2.1.map OR.hd).length) cp, .slice Aq ((gs.2.2.2.map OR.hd).length) cq] 28 (0, 0)) :: (Hp ++ (Hq ++ ((rowsH 3 gs.2.2.1) ++ ((rowsH 3 gs.2.2.2) ++ [(b11, Obj.cells #[.int .i64 tt, .int .i64 fk, .int .i64 ls] 41 (0, 0)), (b30, Obj.cells #[.int .i64 0, .int .i64 1, .int .i64 2, .int .i64 4] 86 (0, 0)), (b1, Obj.cells #[.int .i64 0, .int .i64 0, .int .i64 0] 41 (0, 0))])))))) (fun gs => N - gs.1) (0, k, pr3, cm3) ?_ (by kernel_rfl) (fun w h => h) ?_)))))))))))))))))
     ·
      try dsimp only
      exact ⟨Nat.zero_le _, rfl, hP3, fld_zero, hC3, fld_zero, hrow3, hrow4⟩
     rintro ⟨i, x, pr2, cm2⟩ hI_
     obtain ⟨hi, hxx, hP2, hF2, hC2, hG2, hrow5, hrow6⟩ : i ≤ N ∧ x = xAt n lz k i ∧ Rws (pr2.map OR.l) n r ∧ Fld (pr2.map OR.l) n i (fun j => ((vecK (chR n lz N) k).getD j P2.zero).x) ∧ Rws (cm2.map OR.l) n r ∧ Fld (cm2.map OR.l) n i (fun j => ((vecK (chR n lz N) k).getD j P2.zero).y) ∧ RowIs 45 1 Ap (pr2.map OR.hd).length cp (cells (pr2.map OR.hd)) Hp ∧ RowIs 45 1 Aq (cm2.map OR.hd).length cq (cells (cm2.map OR.hd)) Hq := hI_
     have hxk := xAt_le n lz k i
     have hxM : x ≤ 1048576 := by omega
     refine W.seq (W.seq (W.rg od5 (T.pi 94 i (T.pi 95 n (T.pi 96 r (T.pe 97 (.int .i64 (IntKind.i64.wrap ((n : Int) * (r : Int)))) (.int .i64 N) (by rw [hN]; exact wrap_int (by omega) (by rw [← Int.natCast_mul]; omega)) (T.pb 98 (decide ((i : Int) < (N : Int))) (T.nil (QN.seq (W.cd (decide ((i : Int) < (N : Int))) (fun h32 => ?_) (fun h32 => ?_)))))))))))
     ·
      have h32' := of_decide_eq_true h32
      refine W.skip (QN.seq (W.seq (W.block (W.seq (W.drawn (Ψ := St w ((b12, Obj.cells #[.slice Ap ((pr2.map OR.hd).length) cp, .slice Aq ((cm2.map OR.hd).length) cq] 28 (0, 0)) :: (Hp ++ (Hq ++ ((rowsH 3 pr2) ++ ((rowsH 3 cm2) ++ [(b11, Obj.cells #[.int .i64 tt, .int .i64 fk, .int .i64 ls] 41 (0, 0)), (b30, Obj.cells #[.int .i64 0, .int .i64 1, .int .i64 2, .int .i64 4] 86 (0, 0)), (b1, Obj.cells #[.int .i64 0, .int .i64 0, .int .i64 0] 41 (0, 0))])))))) (St w ((b12, Obj.cells #[.slice Ap ((pr2.map OR.hd).length) cp, .slice Aq ((cm2.map OR.hd).length) cq] 28 (0, 0)) :: (Hp ++ (Hq ++ ((rowsH 3 pr2) ++ ((rowsH 3 cm2) ++ [(b11, Obj.cells #[.int .i64 tt, .int .i64 fk, .int .i64 ls] 41 (0, 0)), (b30, Obj.cells #[.int .i64 0, .int .i64 1, .int .i64 2, .int .i64 4] 86 (0, 0)), (b1, Obj.cells #[.int .i64 0, .int .i64 0, .int .i64 0] 41 (0, 0))])))))) [(0, true), (1, true), (2, true), (3, true), (4, true), (5, true), (6, false), (7, false)] hmx (by kernel_rfl) (NoPanic.then (NoPanic.inBlock (NoPanic.then (NoPanic.then (NoPanic.inBlock (NoPanic.then (NoPanic.inBlock (NoPanic.then (NoPanic.then (NoPanic.inBlock (NoPanic.then NoPanic.body))))))))))) (fun w h => h.drew) (fun w h => h) ?_)))))
      have hiN : i < N := by omega
      have hA1 := rws_at hP2 (i := i) (by omega) hn1
      have hA2 := rws_at hC2 (i := i) (by omega) hn1
      have hkn : i % n < n := Nat.mod_lt _ (by omega)
      refine T.pi 101 i (T.pi 102 n (T.quo 103 .i64 (i : Int) (n : Int) (.int .i64 ((i / n : Nat) : Int)) (by kernel_rfl) (by kernel_rfl) (by omega) (quoN_int (by omega)) (T.pi 104 i (T.pi 105 n (T.rem 106 .i64 (i : Int) (n : Int) (.int .i64 ((i % n : Nat) : Int)) (by kernel_rfl) (by kernel_rfl) (by omega) (remN_int (by omega)) (T.pi 17 ((i / n : Nat) : Int) (T.pi 18 ((i % n : Nat) : Int) (T.nil (QN.seq (W.seq (W.rg od3 (T.pi 107 ((i % n : Nat) : Int) (T.pi 108 lz (T.pb 109 (decide (((i % n : Nat) : Int) < lz)) (T.nil (QN.seq (W.cd (decide (((i % n : Nat) : Int) < lz)) (fun h33 => ?_) (fun h33 => ?_))))))))))))))))))
      ·
       have h33' := of_decide_eq_true h33
       refine W.seq (W.drawn (Ψ := St w ((b12, Obj.cells #[.slice Ap ((pr2.map OR.hd).length) cp, .slice Aq ((cm2.map OR.hd).length) cq] 28 (0, 0)) :: (Hp ++ (Hq ++ ((rowsH 3 pr2) ++ ((rowsH 3 cm2) ++ [(b11, Obj.cells #[.int .i64 tt, .int .i64 fk, .int .i64 ls] 41 (0, 0)), (b30, Obj.cells #[.int .i64 0, .int .i64 1, .int .i64 2, .int .i64 4] 86 (0, 0)), (b1, Obj.cells #[.int .i64 0, .int .i64 0, .int .i64 0] 41 (0, 0))])))))) (St w ((b12, Obj.cells #[.slice Ap ((pr2.map OR.hd).length) cp, .slice Aq ((cm2.map OR.hd).length) cq] 28 (0, 0)) :: (Hp ++ (Hq ++ [(b11, Obj.cells #[.int .i64 tt, .int .i64 fk, .int .i64 ls] 41 (0, 0)), (b30, Obj.cells #[.int .i64 0, .int .i64 1, .int .i64 2, .int .i64 4] 86 (0, 0)), (b1, Obj.cells #[.int .i64 0, .int .i64 0, .int .i64 0] 41 (0, 0))])))) [(0, true), (1, true), (2, true), (3, true), (4, true), (5, true), (6, true), (7, true), (8, true), (9, true), (10, true), (11, true), (12, true), (13, true), (14, true), (15, true), (16, true), (17, true), (18, false), (19, true), (20, false)] hmx (by kernel_rfl) (NoPanic.then (NoPanic.inBlock (NoPanic.then (NoPanic.then (NoPanic.inBlock (NoPanic.then (NoPanic.inBlock (NoPanic.then (NoPanic.then (NoPanic.inBlock (NoPanic.then NoPanic.body))))))))))) (fun w h => h.drew) (fun w h => (h.perm (pm0.trans ((pm0.trans ((pm0.trans ((((((pm0.append_left (rowsH 3 cm2)).trans List.perm_middle).append_left (rowsH 3 pr2)).trans List.perm_middle).trans ((((((pm0.append_left (rowsH 3 cm2)).trans List.perm_middle).append_left (rowsH 3 pr2)).trans List.perm_middle).trans (((((pm0.append_left (rowsH 3 cm2)).trans List.perm_middle).append_left (rowsH 3 pr2)).trans List.perm_middle).cons _)).cons _)).append_left Hq)).append_left Hp)).cons _))).part ((List.Sublist.append (List.Sublist.refl _) (List.Sublist.append (List.Sublist.refl _) ns3)).cons_cons _)) (T.pu 110 (.pointer (some ⟨b12, 0, none⟩)) (T.ld true 111 (.slice Ap ((pr2.map OR.hd).length) cp) 22 b12 0 (fun w h => St.cellM h mm0 (by kernel_rfl)) (T.pi 112 ((i / n : Nat) : Int) ?_))))
       obtain ⟨b34, o35, hA36, hr37⟩ := (show Arr (St _ ((b12, Obj.cells #[.slice Ap ((pr2.map OR.hd).length) cp, .slice Aq ((cm2.map OR.hd).length) cq] 28 (0, 0)) :: (Hp ++ (Hq ++ [(b11, Obj.cells #[.int .i64 tt, .int .i64 fk, .int .i64 ls] 41 (0, 0)), (b30, Obj.cells #[.int .i64 0, .int .i64 1, .int .i64 2, .int .i64 4] 86 (0, 0)), (b1, Obj.cells #[.int .i64 0, .int .i64 0, .int .i64 0] 41 (0, 0))])))) Ap (pr2.map OR.hd) from (Arr.row hrow5 rfl rfl ((b12, Obj.cells #[.slice Ap ((pr2.map OR.hd).length) cp, .slice Aq ((cm2.map OR.hd).length) cq] 28 (0, 0)) :: (Hq ++ [(b11, Obj.cells #[.int .i64 tt, .int .i64 fk, .int .i64 ls] 41 (0, 0)), (b30, Obj.cells #[.int .i64 0, .int .i64 1, .int .i64 2, .int .i64 4] 86 (0, 0)), (b1, Obj.cells #[.int .i64 0, .int .i64 0, .int .i64 0] 41 (0, 0))]))).weak (fun w h => h.perm ((pm0.cons _).trans List.perm_middle.symm))) (i / n) (by rw [List.length_map]; exact hA1.1)
       refine T.ix 113 22 45 1 Ap ((pr2.map OR.hd).length) cp ((i / n : Nat) : Int) (i / n) b34 o35 hA36 (by first | rfl | omega) (by first | omega | exact (by rw [List.length_map]; exact hA1.1)) (T.ld true 114 (.slice (((pr2.map OR.hd)[(i / n)]'(by rw [List.length_map]; exact hA1.1)).A) (((pr2.map OR.hd)[(i / n)]'(by rw [List.length_map]; exact hA1.1)).l.length) (((pr2.map OR.hd)[(i / n)]'(by rw [List.length_map]; exact hA1.1)).c)) 45 b34 (o35 + (i / n) * 1) (fun w h => cell_of_range (hr37 w h) 0 (by kernel_rfl)) (T.pi 115 ((i % n : Nat) : Int) (T.pu 116 (.pointer (some ⟨b12, 1, none⟩)) (T.ld true 117 (.slice Aq ((cm2.map OR.hd).length) cq) 22 b12 1 (fun w h => St.cellM h mm0 (by kernel_rfl)) (T.pi 118 ((i / n : Nat) : Int) ?_)))))
       obtain ⟨b38, o39, hA40, hr41⟩ := (show Arr (St _ ((b12, Obj.cells #[.slice Ap ((pr2.map OR.hd).length) cp, .slice Aq ((cm2.map OR.hd).length) cq] 28 (0, 0)) :: (Hp ++ (Hq ++ [(b11, Obj.cells #[.int .i64 tt, .int .i64 fk, .int .i64 ls] 41 (0, 0)), (b30, Obj.cells #[.int .i64 0, .int .i64 1, .int .i64 2, .int .i64 4] 86 (0, 0)), (b1, Obj.cells #[.int .i64 0, .int .i64 0, .int .i64 0] 41 (0, 0))])))) Aq (cm2.map OR.hd) from (Arr.row hrow6 rfl rfl ((b12, Obj.cells #[.slice Ap ((pr2.map OR.hd).length) cp, .slice Aq ((cm2.map OR.hd).length) cq] 28 (0, 0)) :: (Hp ++ [(b11, Obj.cells #[.int .i64 tt, .int .i64 fk, .int .i64 ls] 41 (0, 0)), (b30, Obj.cells #[.int .i64 0, .int .i64 1, .int .i64 2, .int .i64 4] 86 (0, 0)), (b1, Obj.cells #[.int .i64 0, .int .i64 0, .int .i64 0] 41 (0, 0))]))).weak (fun w h => h.perm ((((pm0.append_left Hp).trans (List.perm_append_comm_assoc _ _ _)).cons _).trans List.perm_middle.symm))) (i / n) (by rw [List.length_map]; exact hA2.1)
       refine T.ix 119 22 45 1 Aq ((cm2.map OR.hd).length) cq ((i / n : Nat) : Int) (i / n) b38 o39 hA40 (by first | rfl | omega) (by first | omega | exact (by rw [List.length_map]; exact hA2.1)) (T.ld true 120 (.slice (((cm2.map OR.hd)[(i / n)]'(by rw [List.length_map]; exact hA2.1)).A) (((cm2.map OR.hd)[(i / n)]'(by rw [List.length_map]; exact hA2.1)).l.length) (((cm2.map OR.hd)[(i / n)]'(by rw [List.length_map]; exact hA2.1)).c)) 45 b38 (o39 + (i / n) * 1) (fun w h => cell_of_range (hr41 w h) 0 (by kernel_rfl)) (T.pi 121 ((i % n : Nat) : Int) (T.pi 122 x (T.pe 123 (.int .i64 ((x : Int).tmod 4)) (.int .i64 ((x : Int) % 4)) (rem_int (by omega)) (T.pi 124 x (T.pe 125 (.int .i64 (IntKind.i64.wrap ((x : Int).tdiv 4))) (.int .i64 ((x : Int) / 4)) (quo_int (by omega) (by decide) (by omega)) (T.pe 126 (.int .i64 (((x : Int) / 4).tmod 8)) (.int .i64 (((x : Int) / 4) % 8)) (rem_int (by omega)) ?_)))))))
       have hl42 : (i % n) < (pr2[(i / n)]'hA1.1).l.length := hA1.2.symm ▸ hkn
       refine T.ix 127 45 3 1 (((pr2.map OR.hd)[(i / n)]'(by rw [List.length_map]; exact hA1.1)).A) (((pr2.map OR.hd)[(i / n)]'(by rw [List.length_map]; exact hA1.1)).l.length) (((pr2.map OR.hd)[(i / n)]'(by rw [List.length_map]; exact hA1.1)).c) ((i % n : Nat) : Int) (i % n) (pr2[(i / n)]'hA1.1).b 0 (by rw [List.getElem_map]; rfl) (by first | rfl | omega) (by rw [List.getElem_map]; exact hl42) (T.setRow 3 3 (pr2[(i / n)]'hA1.1).b (0 + (i % n) * 1) ((x : Int) % 4) (.int .i64 ((x : Int) % 4)) pr2 (i / n) (i % n) hA1.1 rfl ((((((pm0.append_left Hq).trans (List.perm_append_comm_assoc _ _ _)).append_left Hp).trans (List.perm_append_comm_assoc _ _ _)).cons _).trans List.perm_middle.symm) hl42 rfl (by rw [Nat.zero_add]; rfl) (by kernel_rfl) (by kernel_rfl) (by kernel_rfl) (fun w h => (h.perm (((pm0.append_left (rowsH 3 (setR pr2 (i / n) (i % n) ((x : Int) % 4)))).trans List.perm_middle).trans ((((pm0.append_left (rowsH 3 (setR pr2 (i / n) (i % n) ((x : Int) % 4)))).trans (List.perm_append_comm_assoc _ _ _)).trans ((((pm0.append_left (rowsH 3 (setR pr2 (i / n) (i % n) ((x : Int) % 4)))).trans (List.perm_append_comm_assoc _ _ _)).trans ((((((pm0.append_left (rowsH 3 cm2)).trans List.perm_middle).append_left (rowsH 3 (setR pr2 (i / n) (i % n) ((x : Int) % 4)))).trans List.perm_middle).trans ((((((pm0.append_left (rowsH 3 cm2)).trans List.perm_middle).append_left (rowsH 3 (setR pr2 (i / n) (i % n) ((x : Int) % 4)))).trans List.perm_middle).trans (((((pm0.append_left (rowsH 3 cm2)).trans List.perm_middle).append_left (rowsH 3 (setR pr2 (i / n) (i % n) ((x : Int) % 4)))).trans List.perm_middle).cons _)).cons _)).append_left Hq)).append_left Hp)).cons _))).part ((List.Sublist.append (List.Sublist.refl _) (List.Sublist.append (List.Sublist.refl _) ns3)).cons_cons _)) ?_)
       have hl43 : (i % n) < (cm2[(i / n)]'hA2.1).l.length := hA2.2.symm ▸ hkn
       refine T.ix 128 45 3 1 (((cm2.map OR.hd)[(i / n)]'(by rw [List.length_map]; exact hA2.1)).A) (((cm2.map OR.hd)[(i / n)]'(by rw [List.length_map]; exact hA2.1)).l.length) (((cm2.map OR.hd)[(i / n)]'(by rw [List.length_map]; exact hA2.1)).c) ((i % n : Nat) : Int) (i % n) (cm2[(i / n)]'hA2.1).b 0 (by rw [List.getElem_map]; rfl) (by first | rfl | omega) (by rw [List.getElem_map]; exact hl43) (T.setRow 3 3 (cm2[(i / n)]'hA2.1).b (0 + (i % n) * 1) (((x : Int) / 4) % 8) (.int .i64 (((x : Int) / 4) % 8)) cm2 (i / n) (i % n) hA2.1 rfl ((((((((pm0.append_left Hq).trans (List.perm_append_comm_assoc _ _ _)).append_left Hp).trans (List.perm_append_comm_assoc _ _ _)).cons _).trans List.perm_middle.symm).append_left (rowsH 3 (setR pr2 (i / n) (i % n) ((x : Int) % 4)))).trans (List.perm_append_comm_assoc _ _ _)) hl43 rfl (by rw [Nat.zero_add]; rfl) (by kernel_rfl) (by kernel_rfl) (by kernel_rfl) (fun w h => (h.perm (((((pm0.append_left (rowsH 3 (setR pr2 (i / n) (i % n) ((x : Int) % 4)))).trans List.perm_middle).append_left (rowsH 3 (setR cm2 (i / n) (i % n) (((x : Int) / 4) % 8)))).trans List.perm_middle).trans ((((((pm0.append_left (rowsH 3 (setR pr2 (i / n) (i % n) ((x : Int) % 4)))).trans (List.perm_append_comm_assoc _ _ _)).append_left (rowsH 3 (setR cm2 (i / n) (i % n) (((x : Int) / 4) % 8)))).trans (List.perm_append_comm_assoc _ _ _)).trans ((((((pm0.append_left (rowsH 3 (setR pr2 (i / n) (i % n) ((x : Int) % 4)))).trans (List.perm_append_comm_assoc _ _ _)).append_left (rowsH 3 (setR cm2 (i / n) (i % n) (((x : Int) / 4) % 8)))).trans (List.perm_append_comm_assoc _ _ _)).trans ((((((pm0.append_left (rowsH 3 (setR pr2 (i / n) (i % n) ((x : Int) % 4)))).trans List.perm_middle).append_left (rowsH 3 (setR cm2 (i / n) (i % n) (((x : Int) / 4) % 8)))).trans List.perm_middle).trans ((((((pm0.append_left (rowsH 3 (setR pr2 (i / n) (i % n) ((x : Int) % 4)))).trans List.perm_middle).append_left (rowsH 3 (setR cm2 (i / n) (i % n) (((x : Int) / 4) % 8)))).trans List.perm_middle).trans (((((pm0.append_left (rowsH 3 (setR pr2 (i / n) (i % n) ((x : Int) % 4)))).trans List.perm_middle).append_left (rowsH 3 (setR cm2 (i / n) (i % n) (((x : Int) / 4) % 8)))).trans List.perm_middle).cons _)).cons _)).append_left Hq)).append_left Hp)).cons _))).part ((List.Sublist.append (List.Sublist.refl _) (List.Sublist.append (List.Sublist.refl _) ns3)).cons_cons _)) (T.nil (QN.seq (W.rg od3 (T.pi 129 x (T.pe 130 (.int .i64 (IntKind.i64.wrap ((x : Int).tdiv 32))) (.int .i64 ((x : Int) / 32)) (quo_int (by omega) (by decide) (by omega)) (T.pi 15 ((x : Int) / 32) (T.nil (QN.blkNormal (QN.seq (W.rg od3 (T.pi 99 i (T.pw 100 ((i : Int) + 1) (T.pi 16 ((i : Int) + 1) (T.nil (QN.weak (Ψ := St w ((rowsH 3 (setR cm2 (i / n) (i % n) (((x : Int) / 4) % 8))) ++ ((rowsH 3 (setR pr2 (i / n) (i % n) ((x : Int) % 4))) ++ ((b12, Obj.cells #[.slice Ap (((setR pr2 (i / n) (i % n) ((x : Int) % 4)).map OR.hd).length) cp, .slice Aq (((setR cm2 (i / n) (i % n) (((x : Int) / 4) % 8)).map OR.hd).length) cq] 28 (0, 0)) :: (Hp ++ (Hq ++ [(b11, Obj.cells #[.int .i64 tt, .int .i64 fk, .int .i64 ls] 41 (0, 0)), (b30, Obj.cells #[.int .i64 0, .int .i64 1, .int .i64 2, .int .i64 4] 86 (0, 0)), (b1, Obj.cells #[.int .i64 0, .int .i64 0, .int .i64 0] 41 (0, 0))])))))) (fun w h => by rw [← hd_len, ← hd_len]; exact h) (QN.cast 15 (.int .i64 ((x : Int) / 32)) (.int .i64 ((x / 32 : Nat) : Int)) (by kernel_rfl) (int_eq (by omega)) (QN.back (i + 1, x / 32, setR pr2 (i / n) (i % n) ((x : Int) % 4), setR cm2 (i / n) (i % n) (((x : Int) / 4) % 8)) ?_ ?_ (by kernel_rfl) (fun w h => (h.perm (((((pm0.append_left (rowsH 3 (setR pr2 (i / n) (i % n) ((x : Int) % 4)))).trans List.perm_middle).append_left (rowsH 3 (setR cm2 (i / n) (i % n) (((x : Int) / 4) % 8)))).trans List.perm_middle).trans ((((((pm0.append_left (rowsH 3 (setR pr2 (i / n) (i % n) ((x : Int) % 4)))).trans (List.perm_append_comm_assoc _ _ _)).append_left (rowsH 3 (setR cm2 (i / n) (i % n) (((x : Int) / 4) % 8)))).trans (List.perm_append_comm_assoc _ _ _)).trans ((((((pm0.append_left (rowsH 3 (setR pr2 (i / n) (i % n) ((x : Int) % 4)))).trans (List.perm_append_comm_assoc _ _ _)).append_left (rowsH 3 (setR cm2 (i / n) (i % n) (((x : Int) / 4) % 8)))).trans (List.perm_append_comm_assoc _ _ _)).trans ((((pm0.append_left (rowsH 3 (setR cm2 (i / n) (i % n) (((x : Int) / 4) % 8)))).trans (List.perm_append_comm_assoc _ _ _)).trans ((pm0.trans ((pm0.trans ((pm0.trans (pm0.cons _)).cons _)).append_left (rowsH 3 (setR cm2 (i / n) (i % n) (((x : Int) / 4) % 8))))).append_left (rowsH 3 (setR pr2 (i / n) (i % n) ((x : Int) % 4))))).append_left Hq)).append_left Hp)).cons _))).part ((List.Sublist.append (List.Sublist.refl _) (List.Sublist.append (List.Sublist.refl _) (List.Sublist.append (List.Sublist.refl _) (List.Sublist.append (List.Sublist.refl _) ns3)))).cons_cons _))))))))))))))))))))
       ·
        try dsimp only
        exact ⟨by omega, x_yes h33 hxx, (fld_step hP2 hF2 (by omega) hn1 (fx_yes hiN h33 hxx)).1, (fld_step hP2 hF2 (by omega) hn1 (fx_yes hiN h33 hxx)).2, (fld_step hC2 hG2 (by omega) hn1 (fy_yes hiN h33 hxx)).1, (fld_step hC2 hG2 (by omega) hn1 (fy_yes hiN h33 hxx)).2, hd_row hrow5 pr2 (i / n) (i % n) ((x : Int) % 4), hd_row hrow6 cm2 (i / n) (i % n) (((x : Int) / 4) % 8)⟩
       · show N - _ < N - _; omega
      ·
       have h33' := of_decide_eq_false h33
       refine W.seq (W.drawn (Ψ := St w ((b12, Obj.cells #[.slice Ap ((pr2.map OR.hd).length) cp, .slice Aq ((cm2.map OR.hd).length) cq] 28 (0, 0)) :: (Hp ++ (Hq ++ ((rowsH 3 pr2) ++ ((rowsH 3 cm2) ++ [(b11, Obj.cells #[.int .i64 tt, .int .i64 fk, .int .i64 ls] 41 (0, 0)), (b30, Obj.cells #[.int .i64 0, .int .i64 1, .int .i64 2, .int .i64 4] 86 (0, 0)), (b1, Obj.cells #[.int .i64 0, .int .i64 0, .int .i64 0] 41 (0, 0))])))))) (St w ((b12, Obj.cells #[.slice Ap ((pr2.map OR.hd).length) cp, .slice Aq ((cm2.map OR.hd).length) cq] 28 (0, 0)) :: (Hp ++ (Hq ++ [(b11, Obj.cells #[.int .i64 tt, .int .i64 fk, .int .i64 ls] 41 (0, 0)), (b30, Obj.cells #[.int .i64 0, .int .i64 1, .int .i64 2, .int .i64 4] 86 (0, 0)), (b1, Obj.cells #[.int .i64 0, .int .i64 0, .int .i64 0] 41 (0, 0))])))) [(0, true), (1, true), (2, true), (3, true), (4, true), (5, true), (6, true), (7, true), (8, true), (9, true), (10, true), (11, true), (12, true), (13, true), (14, true), (15, true), (16, true), (17, true), (18, true), (19, true), (20, true), (21, true), (22, false), (23, true), (24, false)] hmx (by kernel_rfl) (NoPanic.then (NoPanic.inBlock (NoPanic.then (NoPanic.then (NoPanic.inBlock (NoPanic.then (NoPanic.inBlock (NoPanic.then (NoPanic.then (NoPanic.inBlock (NoPanic.then NoPanic.body))))))))))) (fun w h => h.drew) (fun w h => (h.perm (pm0.trans ((pm0.trans ((pm0.trans ((((((pm0.append_left (rowsH 3 cm2)).trans List.perm_middle).append_left (rowsH 3 pr2)).trans List.perm_middle).trans ((((((pm0.append_left (rowsH 3 cm2)).trans List.perm_middle).append_left (rowsH 3 pr2)).trans List.perm_middle).trans (((((pm0.append_left (rowsH 3 cm2)).trans List.perm_middle).append_left (rowsH 3 pr2)).trans List.perm_middle).cons _)).cons _)).append_left Hq)).append_left Hp)).cons _))).part ((List.Sublist.append (List.Sublist.refl _) (List.Sublist.append (List.Sublist.refl _) ns3)).cons_cons _)) (T.pu 131 (.pointer (some ⟨b12, 0, none⟩)) (T.ld true 132 (.slice Ap ((pr2.map OR.hd).length) cp) 22 b12 0 (fun w h => St.cellM h mm0 (by kernel_rfl)) (T.pi 133 ((i / n : Nat) : Int) ?_))))
       obtain ⟨b44, o45, hA46, hr47⟩ := (show Arr (St _ ((b12, Obj.cells #[.slice Ap ((pr2.map OR.hd).length) cp, .slice Aq ((cm2.map OR.hd).length) cq] 28 (0, 0)) :: (Hp ++ (Hq ++ [(b11, Obj.cells #[.int .i64 tt, .int .i64 fk, .int .i64 ls] 41 (0, 0)), (b30, Obj.cells #[.int .i64 0, .int .i64 1, .int .i64 2, .int .i64 4] 86 (0, 0)), (b1, Obj.cells #[.int .i64 0, .int .i64 0, .int .i64 0] 41 (0, 0))])))) Ap (pr2.map OR.hd) from (Arr.row hrow5 rfl rfl ((b12, Obj.cells #[.slice Ap ((pr2.map OR.hd).length) cp, .slice Aq ((cm2.map OR.hd).length) cq] 28 (0, 0)) :: (Hq ++ [(b11, Obj.cells #[.int .i64 tt, .int .i64 fk, .int .i64 ls] 41 (0, 0)), (b30, Obj.cells #[.int .i64 0, .int .i64 1, .int .i64 2, .int .i64 4] 86 (0, 0)), (b1, Obj.cells #[.int .i64 0, .int .i64 0, .int .i64 0] 41 (0, 0))]))).weak (fun w h => h.perm ((pm0.cons _).trans List.perm_middle.symm))) (i / n) (by rw [List.length_map]; exact hA1.1)
       refine T.ix 134 22 45 1 Ap ((pr2.map OR.hd).length) cp ((i / n : Nat) : Int) (i / n) b44 o45 hA46 (by first | rfl | omega) (by first | omega | exact (by rw [List.length_map]; exact hA1.1)) (T.ld true 135 (.slice (((pr2.map OR.hd)[(i / n)]'(by rw [List.length_map]; exact hA1.1)).A) (((pr2.map OR.hd)[(i / n)]'(by rw [List.length_map]; exact hA1.1)).l.length) (((pr2.map OR.hd)[(i / n)]'(by rw [List.length_map]; exact hA1.1)).c)) 45 b44 (o45 + (i / n) * 1) (fun w h => cell_of_range (hr47 w h) 0 (by kernel_rfl)) (T.pi 136 ((i % n : Nat) : Int) (T.pu 137 (.pointer (some ⟨b12, 1, none⟩)) (T.ld true 138 (.slice Aq ((cm2.map OR.hd).length) cq) 22 b12 1 (fun w h => St.cellM h mm0 (by kernel_rfl)) (T.pi 139 ((i / n : Nat) : Int) ?_)))))
       obtain ⟨b48, o49, hA50, hr51⟩ := (show Arr (St _ ((b12, Obj.cells #[.slice Ap ((pr2.map OR.hd).length) cp, .slice Aq ((cm2.map OR.hd).length) cq] 28 (0, 0)) :: (Hp ++ (Hq ++ [(b11, Obj.cells #[.int .i64 tt, .int .i64 fk, .int .i64 ls] 41 (0, 0)), (b30, Obj.cells #[.int .i64 0, .int .i64 1, .int .i64 2, .int .i64 4] 86 (0, 0)), (b1, Obj.cells #[.int .i64 0, .int .i64 0, .int .i64 0] 41 (0, 0))])))) Aq (cm2.map OR.hd) from (Arr.row hrow6 rfl rfl ((b12, Obj.cells #[.slice Ap ((pr2.map OR.hd).length) cp, .slice Aq ((cm2.map OR.hd).length) cq] 28 (0, 0)) :: (Hp ++ [(b11, Obj.cells #[.int .i64 tt, .int .i64 fk, .int .i64 ls] 41 (0, 0)), (b30, Obj.cells #[.int .i64 0, .int .i64 1, .int .i64 2, .int .i64 4] 86 (0, 0)), (b1, Obj.cells #[.int .i64 0, .int .i64 0, .int .i64 0] 41 (0, 0))]))).weak (fun w h => h.perm ((((pm0.append_left Hp).trans (List.perm_append_comm_assoc _ _ _)).cons _).trans List.perm_middle.symm))) (i / n) (by rw [List.length_map]; exact hA2.1)
       refine T.ix 140 22 45 1 Aq ((cm2.map OR.hd).length) cq ((i / n : Nat) : Int) (i / n) b48 o49 hA50 (by first | rfl | omega) (by first | omega | exact (by rw [List.length_map]; exact hA2.1)) (T.ld true 141 (.slice (((cm2.map OR.hd)[(i / n)]'(by rw [List.length_map]; exact hA2.1)).A) (((cm2.map OR.hd)[(i / n)]'(by rw [List.length_map]; exact hA2.1)).l.length) (((cm2.map OR.hd)[(i / n)]'(by rw [List.length_map]; exact hA2.1)).c)) 45 b48 (o49 + (i / n) * 1) (fun w h => cell_of_range (hr51 w h) 0 (by kernel_rfl)) (T.pi 142 ((i % n : Nat) : Int) (T.pi 143 x ?_)))
       obtain ⟨j3, hj3⟩ : ∃ j : Nat, j = x % 3 := ⟨_, rfl⟩
       have hj3b : j3 < 3 := by omega
       refine T.pe 144 (.int .i64 ((x : Int).tmod 3)) (.int .i64 (j3 : Int)) (int_eq (by rw [hj3]; exact tmodN x 3)) (T.pure 145 (.pointer (some ⟨b30, j3, none⟩)) (by kernel_rfl) (fun w => by rcases (show j3 = 0 ∨ j3 = 1 ∨ j3 = 2 by omega) with h | h | h <;> (subst h; kernel_rfl)) (T.ld true 146 (.int .i64 (([0, 1, 2, 4] : List Int).getD j3 0)) 3 b30 j3 (fun w h9 => St.cellM h9 (.tail _ (List.mem_append_right _ (List.mem_append_right _ mm1))) (by rcases (show j3 = 0 ∨ j3 = 1 ∨ j3 = 2 by omega) with h | h | h <;> (subst h; kernel_rfl))) (T.pi 147 x (T.pe 148 (.int .i64 (IntKind.i64.wrap ((x : Int).tdiv 3))) (.int .i64 ((x : Int) / 3)) (quo_int (by omega) (by decide) (by omega)) ?_))))
       obtain ⟨j4, hj4⟩ : ∃ j : Nat, j = x / 3 % 4 := ⟨_, rfl⟩
       have hj4b : j4 < 4 := by omega
       refine T.pe 149 (.int .i64 (((x : Int) / 3).tmod 4)) (.int .i64 (j4 : Int)) (int_eq (by rw [hj4]; exact tmodD x)) (T.pure 150 (.pointer (some ⟨b30, j4, none⟩)) (by kernel_rfl) (fun w => by rcases (show j4 = 0 ∨ j4 = 1 ∨ j4 = 2 ∨ j4 = 3 by omega) with h | h | h | h <;> (subst h; kernel_rfl)) (T.ld true 151 (.int .i64 (([0, 1, 2, 4] : List Int).getD j4 0)) 3 b30 j4 (fun w h9 => St.cellM h9 (.tail _ (List.mem_append_right _ (List.mem_append_right _ mm1))) (by rcases (show j4 = 0 ∨ j4 = 1 ∨ j4 = 2 ∨ j4 = 3 by omega) with h | h | h | h <;> (subst h; kernel_rfl))) ?_))
       have hl52 : (i % n) < (pr2[(i / n)]'hA1.1).l.length := hA1.2.symm ▸ hkn
       refine T.ix 152 45 3 1 (((pr2.map OR.hd)[(i / n)]'(by rw [List.length_map]; exact hA1.1)).A) (((pr2.map OR.hd)[(i / n)]'(by rw [List.length_map]; exact hA1.1)).l.length) (((pr2.map OR.hd)[(i / n)]'(by rw [List.length_map]; exact hA1.1)).c) ((i % n : Nat) : Int) (i % n) (pr2[(i / n)]'hA1.1).b 0 (by rw [List.getElem_map]; rfl) (by first | rfl | omega) (by rw [List.getElem_map]; exact hl52) (T.setRow 3 3 (pr2[(i / n)]'hA1.1).b (0 + (i % n) * 1) (([0, 1, 2, 4] : List Int).getD j3 0) (.int .i64 (([0, 1, 2, 4] : List Int).getD j3 0)) pr2 (i / n) (i % n) hA1.1 rfl ((((((pm0.append_left Hq).trans (List.perm_append_comm_assoc _ _ _)).append_left Hp).trans (List.perm_append_comm_assoc _ _ _)).cons _).trans List.perm_middle.symm) hl52 rfl (by rw [Nat.zero_add]; rfl) (by kernel_rfl) (by kernel_rfl) (by kernel_rfl) (fun w h => (h.perm (((pm0.append_left (rowsH 3 (setR pr2 (i / n) (i % n) (([0, 1, 2, 4] : List Int).getD j3 0)))).trans List.perm_middle).trans ((((pm0.append_left (rowsH 3 (setR pr2 (i / n) (i % n) (([0, 1, 2, 4] : List Int).getD j3 0)))).trans (List.perm_append_comm_assoc _ _ _)).trans ((((pm0.append_left (rowsH 3 (setR pr2 (i / n) (i % n) (([0, 1, 2, 4] : List Int).getD j3 0)))).trans (List.perm_append_comm_assoc _ _ _)).trans ((((((pm0.append_left (rowsH 3 cm2)).trans List.perm_middle).append_left (rowsH 3 (setR pr2 (i / n) (i % n) (([0, 1, 2, 4] : List Int).getD j3 0)))).trans List.perm_middle).trans ((((((pm0.append_left (rowsH 3 cm2)).trans List.perm_middle).append_left (rowsH 3 (setR pr2 (i / n) (i % n) (([0, 1, 2, 4] : List Int).getD j3 0)))).trans List.perm_middle).trans (((((pm0.append_left (rowsH 3 cm2)).trans List.perm_middle).append_left (rowsH 3 (setR pr2 (i / n) (i % n) (([0, 1, 2, 4] : List Int).getD j3 0)))).trans List.perm_middle).cons _)).cons _)).append_left Hq)).append_left Hp)).cons _))).part ((List.Sublist.append (List.Sublist.refl _) (List.Sublist.append (List.Sublist.refl _) ns3)).cons_cons _)) ?_)
       have hl53 : (i % n) < (cm2[(i / n)]'hA2.1).l.length := hA2.2.symm ▸ hkn
       refine T.ix 153 45 3 1 (((cm2.map OR.hd)[(i / n)]'(by rw [List.length_map]; exact hA2.1)).A) (((cm2.map OR.hd)[(i / n)]'(by rw [List.length_map]; exact hA2.1)).l.length) (((cm2.map OR.hd)[(i / n)]'(by rw [List.length_map]; exact hA2.1)).c) ((i % n : Nat) : Int) (i % n) (cm2[(i / n)]'hA2.1).b 0 (by rw [List.getElem_map]; rfl) (by first | rfl | omega) (by rw [List.getElem_map]; exact hl53) (T.setRow 3 3 (cm2[(i / n)]'hA2.1).b (0 + (i % n) * 1) (([0, 1, 2, 4] : List Int).getD j4 0) (.int .i64 (([0, 1, 2, 4] : List Int).getD j4 0)) cm2 (i / n) (i % n) hA2.1 rfl ((((((((pm0.append_left Hq).trans (List.perm_append_comm_assoc _ _ _)).append_left Hp).trans (List.perm_append_comm_assoc _ _ _)).cons _).trans List.perm_middle.symm).append_left (rowsH 3 (setR pr2 (i / n) (i % n) (([0, 1, 2, 4] : List Int).getD j3 0)))).trans (List.perm_append_comm_assoc _ _ _)) hl53 rfl (by rw [Nat.zero_add]; rfl) (by kernel_rfl) (by kernel_rfl) (by kernel_rfl) (fun w h => (h.perm (((((pm0.append_left (rowsH 3 (setR pr2 (i / n) (i % n) (([0, 1, 2, 4] : List Int).getD j3 0)))).trans List.perm_middle).append_left (rowsH 3 (setR cm2 (i / n) (i % n) (([0, 1, 2, 4] : List Int).getD j4 0)))).trans List.perm_middle).trans ((((((pm0.append_left (rowsH 3 (setR pr2 (i / n) (i % n) (([0, 1, 2, 4] : List Int).getD j3 0)))).trans (List.perm_append_comm_assoc _ _ _)).append_left (rowsH 3 (setR cm2 (i / n) (i % n) (([0, 1, 2, 4] : List Int).getD j4 0)))).trans (List.perm_append_comm_assoc _ _ _)).trans ((((((pm0.append_left (rowsH 3 (setR pr2 (i / n) (i % n) (([0, 1, 2, 4] : List Int).getD j3 0)))).trans (List.perm_append_comm_assoc _ _ _)).append_left (rowsH 3 (setR cm2 (i / n) (i % n) (([0, 1, 2, 4] : List Int).getD j4 0)))).trans (List.perm_append_comm_assoc _ _ _)).trans ((((((pm0.append_left (rowsH 3 (setR pr2 (i / n) (i % n) (([0, 1, 2, 4] : List Int).getD j3 0)))).trans List.perm_middle).append_left (rowsH 3 (setR cm2 (i / n) (i % n) (([0, 1, 2, 4] : List Int).getD j4 0)))).trans List.perm_middle).trans ((((((pm0.append_left (rowsH 3 (setR pr2 (i / n) (i % n) (([0, 1, 2, 4] : List Int).getD j3 0)))).trans List.perm_middle).append_left (rowsH 3 (setR cm2 (i / n) (i % n) (([0, 1, 2, 4] : List Int).getD j4 0)))).trans List.perm_middle).trans (((((pm0.append_left (rowsH 3 (setR pr2 (i / n) (i % n) (([0, 1, 2, 4] : List Int).getD j3 0)))).trans List.perm_middle).append_left (rowsH 3 (setR cm2 (i / n) (i % n) (([0, 1, 2, 4] : List Int).getD j4 0)))).trans List.perm_middle).cons _)).cons _)).append_left Hq)).append_left Hp)).cons _))).part ((List.Sublist.append (List.Sublist.refl _) (List.Sublist.append (List.Sublist.refl _) ns3)).cons_cons _)) (T.nil (QN.seq (W.rg od3 (T.pi 154 x (T.pe 155 (.int .i64 (IntKind.i64.wrap ((x : Int).tdiv 12))) (.int .i64 ((x : Int) / 12)) (quo_int (by omega) (by decide) (by omega)) (T.pi 15 ((x : Int) / 12) (T.nil (QN.blkNormal (QN.seq (W.rg od3 (T.pi 99 i (T.pw 100 ((i : Int) + 1) (T.pi 16 ((i : Int) + 1) (T.nil (QN.weak (Ψ := St w ((rowsH 3 (setR cm2 (i / n) (i % n) (([0, 1, 2, 4] : List Int).getD j4 0))) ++ ((rowsH 3 (setR pr2 (i / n) (i % n) (([0, 1, 2, 4] : List Int).getD j3 0))) ++ ((b12, Obj.cells #[.slice Ap (((setR pr2 (i / n) (i % n) (([0, 1, 2, 4] : List Int).getD j3 0)).map OR.hd).length) cp, .slice Aq (((setR cm2 (i / n) (i % n) (([0, 1, 2, 4] : List Int).getD j4 0)).map OR.hd).length) cq] 28 (0, 0)) :: (Hp ++ (Hq ++ [(b11, Obj.cells #[.int .i64 tt, .int .i64 fk, .int .i64 ls] 41 (0, 0)), (b30, Obj.cells #[.int .i64 0, .int .i64 1, .int .i64 2, .int .i64 4] 86 (0, 0)), (b1, Obj.cells #[.int .i64 0, .int .i64 0, .int .i64 0] 41 (0, 0))])))))) (fun w h => by rw [← hd_len, ← hd_len]; exact h) (QN.cast 15 (.int .i64 ((x : Int) / 12)) (.int .i64 ((x / 12 : Nat) : Int)) (by kernel_rfl) (int_eq (by omega)) (QN.back (i + 1, x / 12, setR pr2 (i / n) (i % n) (([0, 1, 2, 4] : List Int).getD j3 0), setR cm2 (i / n) (i % n) (([0, 1, 2, 4] : List Int).getD j4 0)) ?_ ?_ (by kernel_rfl) (fun w h => (h.perm (((((pm0.append_left (rowsH 3 (setR pr2 (i / n) (i % n) (([0, 1, 2, 4] : List Int).getD j3 0)))).trans List.perm_middle).append_left (rowsH 3 (setR cm2 (i / n) (i % n) (([0, 1, 2, 4] : List Int).getD j4 0)))).trans List.perm_middle).trans ((((((pm0.append_left (rowsH 3 (setR pr2 (i / n) (i % n) (([0, 1, 2, 4] : List Int).getD j3 0)))).trans (List.perm_append_comm_assoc _ _ _)).append_left (rowsH 3 (setR cm2 (i / n) (i % n) (([0, 1, 2, 4] : List Int).getD j4 0)))).trans (List.perm_append_comm_assoc _ _ _)).trans ((((((pm0.append_left (rowsH 3 (setR pr2 (i / n) (i % n) (([0, 1, 2, 4] : List Int).getD j3 0)))).trans (List.perm_append_comm_assoc _ _ _)).append_left (rowsH 3 (setR cm2 (i / n) (i % n) (([0, 1, 2, 4] : List Int).getD j4 0)))).trans (List.perm_append_comm_assoc _ _ _)).trans ((((pm0.append_left (rowsH 3 (setR cm2 (i / n) (i % n) (([0, 1, 2, 4] : List Int).getD j4 0)))).trans (List.perm_append_comm_assoc _ _ _)).trans ((pm0.trans ((pm0.trans ((pm0.trans (pm0.cons _)).cons _)).append_left (rowsH 3 (setR cm2 (i / n) (i % n) (([0, 1, 2, 4] : List Int).getD j4 0))))).append_left (rowsH 3 (setR pr2 (i / n) (i % n) (([0, 1, 2, 4] : List Int).getD j3 0))))).append_left Hq)).append_left Hp)).cons _))).part ((List.Sublist.append (List.Sublist.refl _) (List.Sublist.append (List.Sublist.refl _) (List.Sublist.append (List.Sublist.refl _) (List.Sublist.append (List.Sublist.refl _) ns3)))).cons_cons _))))))))))))))))))))
       ·
        try dsimp only
        exact ⟨by omega, x_no h33 hxx, (fld_step hP2 hF2 (by omega) hn1 (fx_no hiN h33 hxx hj3)).1, (fld_step hP2 hF2 (by omega) hn1 (fx_no hiN h33 hxx hj3)).2, (fld_step hC2 hG2 (by omega) hn1 (fy_no hiN h33 hxx hj4)).1, (fld_step hC2 hG2 (by omega) hn1 (fy_no hiN h33 hxx hj4)).2, hd_row hrow5 pr2 (i / n) (i % n) (([0, 1, 2, 4] : List Int).getD j3 0), hd_row hrow6 cm2 (i / n) (i % n) (([0, 1, 2, 4] : List Int).getD j4 0)⟩
       · show N - _ < N - _; omega
     ·
      have h32' := of_decide_eq_false h32
      refine W.exit (QN.thenExit (QN.thenExit (QN.blkHit (QN.seq (W.seq (W.rg od7 ?_))))))
      have hiN2 : i = N := by omega
      have hP9 : (Tb.mk Ap (pr2.map OR.hd) cp Aq (cm2.map OR.hd) cq).P = tbX n (vecK (chR n lz N) k) := (hd_l rfl).trans (fld_tab hP2 (hiN2 ▸ hF2) hN hn1 hn7 hr1 (by rw [vecK_len, chR_len]))
      have hC9 : (Tb.mk Ap (pr2.map OR.hd) cp Aq (cm2.map OR.hd) cq).C = tbY n (vecK (chR n lz N) k) := (hd_l rfl).trans (fld_tab hC2 (hiN2 ▸ hG2) hN hn1 hn7 hr1 (by rw [vecK_len, chR_len]))
      obtain ⟨f1, hf1⟩ : ∃ b : Bool, b = (decV (tbX n (vecK (chR n lz N) k)) (tbY n (vecK (chR n lz N) k))).1 := ⟨_, rfl⟩
      obtain ⟨f2, hf2⟩ : ∃ b : Bool, b = (decV (tbX n (vecK (chR n lz N) k)) (tbY n (vecK (chR n lz N) k))).2 := ⟨_, rfl⟩
      obtain ⟨zz, hzz⟩ : ∃ z : Int, z = confV (tbX n (vecK (chR n lz N) k)) (tbY n (vecK (chR n lz N) k)) := ⟨_, rfl⟩
      have hzw : W64 zz := by rw [hzz]; exact w64_conf _ _
      refine T.lr false 157 #[.slice Ap ((pr2.map OR.hd).length) cp, .slice Aq ((cm2.map OR.hd).length) cq] 28 b12 0 (fun w h => St.rangeM h #[.slice Ap ((pr2.map OR.hd).length) cp, .slice Aq ((cm2.map OR.hd).length) cq] mm0 (by kernel_rfl)) (T.cp 158 14 #[.agg (Tb.mk Ap (pr2.map OR.hd) cp Aq (cm2.map OR.hd) cq).cs] (.tuple #[.bool f1, .bool f2]) ent14 (fun w hw => (by rw [hf1, hf2, ← hP9, ← hC9]; exact rdec14_c (Tb.mk Ap (pr2.map OR.hd) cp Aq (cm2.map OR.hd) cq) w (tb_rd9 hrow5 hrow6 ((hw.perm (((pm0.cons _).trans List.perm_middle.symm).trans ((((pm0.cons _).trans List.perm_middle.symm).trans ((((pm0.cons _).trans List.perm_middle.symm).trans (((pm0.cons _).trans List.perm_middle.symm).append_left (rowsH 3 pr2))).append_left Hq)).append_left Hp))).part (List.Sublist.append (List.Sublist.refl _) (List.Sublist.append (List.Sublist.refl _) (List.Sublist.append (List.Sublist.refl _) (List.Sublist.append (List.Sublist.refl _) (List.nil_sublist _))))))) (rws_tblen hP2 hC2 (by omega) (by omega)))) tv2 (T.pu 156 (.tuple #[.bool f1, .bool f2]) (T.pb 159 f1 (T.pb 160 f2 (T.pb 19 f1 (T.pb 20 f2 (T.nil (QN.seq (W.seq (W.rg od4 (T.pb 161 f1 (T.pb 162 f1 (T.bk [(2, false)] [(3, false)] 1 true f1 162 163 (.bool f2) (fun hg54 => ?_) ?_)))))))))))))
      ·
       have hg54_ := hg54
       refine T.pb 163 f2 ?_
       exact T.blkEnd (by kernel_rfl) (fun w h => h)
      refine T.an 164 f1 f2 (T.nil (QN.seq (W.cd (f1 && f2) (fun h55 => ?_) (fun h55 => ?_))))
      ·
       have h55l := (Bool.and_eq_true_iff.1 h55).1
       have h55r := (Bool.and_eq_true_iff.1 h55).2
       refine W.seq (W.rg od5 (T.pu 165 (.pointer (some ⟨b11, 1, none⟩)) (T.ld false 166 (.int .i64 fk) 3 b11 1 (fun w h => St.cellM h (.tail _ (List.mem_append_right _ (List.mem_append_right _ (List.mem_append_right _ (List.mem_append_right _ mm0))))) (by kernel_rfl)) (T.pw 167 (fk + 1) (T.pu 168 (.pointer (some ⟨b11, 1, none⟩)) (T.sp 3 b11 1 (.int .i64 (fk + 1)) #[.int .i64 tt, .int .i64 fk, .int .i64 ls] #[.int .i64 tt, .int .i64 (fk + 1), .int .i64 ls] 41 ((((((((((pm0.append_left (rowsH 3 cm2)).trans List.perm_middle).append_left (rowsH 3 pr2)).trans List.perm_middle).append_left Hq).trans List.perm_middle).append_left Hp).trans List.perm_middle).cons _).trans (List.Perm.swap _ _ _)) tv2 (T.nil (QN.seq (W.seq (W.rg od4 (T.lr false 169 #[.slice Ap ((pr2.map OR.hd).length) cp, .slice Aq ((cm2.map OR.hd).length) cq] 28 b12 0 (fun w h => St.rangeM h #[.slice Ap ((pr2.map OR.hd).length) cp, .slice Aq ((cm2.map OR.hd).length) cq] mm1 (by kernel_rfl)) (T.cp 170 19 #[.agg (Tb.mk Ap (pr2.map OR.hd) cp Aq (cm2.map OR.hd) cq).cs] (.int .i64 zz) ent19 (fun w hw => (by rw [hzz, ← hP9, ← hC9]; exact rconf14_c (Tb.mk Ap (pr2.map OR.hd) cp Aq (cm2.map OR.hd) cq) w (tb_rd9 hrow5 hrow6 ((hw.perm (((((pm0.cons _).trans List.perm_middle.symm).cons _).trans List.perm_middle.symm).trans ((((((pm0.cons _).trans List.perm_middle.symm).cons _).trans List.perm_middle.symm).trans ((((((pm0.cons _).trans List.perm_middle.symm).cons _).trans List.perm_middle.symm).trans (((((pm0.cons _).trans List.perm_middle.symm).cons _).trans List.perm_middle.symm).append_left (rowsH 3 pr2))).append_left Hq)).append_left Hp))).part (List.Sublist.append (List.Sublist.refl _) (List.Sublist.append (List.Sublist.refl _) (List.Sublist.append (List.Sublist.refl _) (List.Sublist.append (List.Sublist.refl _) (List.nil_sublist _))))))) (rws_tblen hP2 hC2 (by omega) (by omega)))) tv2 (T.cp 171 50 #[.int .i64 zz] (.int .i64 (size zz : Int)) ent50 (fun w hw => rsize_c _ hzw w) tv2 (T.pi 21 (size zz : Int) (T.nil (QN.seq (W.seq (W.rg od9 (T.pu 172 (.pointer (some ⟨b11, 2, none⟩)) (T.ld false 173 (.int .i64 ls) 3 b11 2 (fun w h => St.cellM h mm0 (by kernel_rfl)) (T.pb 174 (decide (ls < 0)) (T.pb 175 (decide (ls < 0)) (T.bk [(4, false), (5, false), (6, false), (7, false)] [(8, false)] 3 false (decide (ls < 0)) 175 179 (.bool (decide ((size zz : Int) < ls))) (fun hg56 => ?_) ?_)))))))))))))))))))))))
       ·
        have hg56_ := hg56
        have hg56' := of_decide_eq_false hg56
        refine T.pi 176 (size zz : Int) (T.pu 177 (.pointer (some ⟨b11, 2, none⟩)) (T.ld false 178 (.int .i64 ls) 3 b11 2 (fun w h => St.cellM h mm0 (by kernel_rfl)) (T.pb 179 (decide ((size zz : Int) < ls)) ?_)))
        exact T.blkEnd (by kernel_rfl) (fun w h => h)
       refine T.oo 180 (decide (ls < 0)) (decide ((size zz : Int) < ls)) (T.nil (QN.seq (W.cd ((decide (ls < 0)) || (decide ((size zz : Int) < ls))) (fun h57 => ?_) (fun h57 => ?_))))
       ·
        refine W.rg od3 (T.pi 181 (size zz : Int) (T.pu 182 (.pointer (some ⟨b11, 2, none⟩)) (T.sp 3 b11 2 (.int .i64 (size zz : Int)) #[.int .i64 tt, .int .i64 (fk + 1), .int .i64 ls] #[.int .i64 tt, .int .i64 (fk + 1), .int .i64 (size zz : Int)] 41 pm0 tv2 (T.nil (QN.blkNormal (QN.seq (W.rg od3 (T.pi 91 k (T.pw 92 ((k : Int) + 1) (T.pi 14 ((k : Int) + 1) (T.nil (QN.back (k + 1, pr2, cm2, fk + 1, (size zz : Int)) ?_ ?_ (by kernel_rfl) (fun w h => (h.perm (pm1.trans ((((pm0.cons _).trans List.perm_middle.symm).trans ((((pm0.cons _).trans List.perm_middle.symm).trans ((((pm0.cons _).trans List.perm_middle.symm).trans ((((pm0.cons _).trans List.perm_middle.symm).trans ((pm0.trans ((pm0.trans (pm0.cons _)).cons _)).append_left (rowsH 3 cm2))).append_left (rowsH 3 pr2))).append_left Hq)).append_left Hp)).cons _))).part ((List.Sublist.append (List.Sublist.refl _) (List.Sublist.append (List.Sublist.refl _) (List.Sublist.append (List.Sublist.refl _) (List.Sublist.append (List.Sublist.refl _) ns3)))).cons_cons _))))))))))))))
        ·
         try dsimp only
         exact ⟨by omega, rs_take hsr hf1 hf2 hzz h55 h57, hP2, hC2, hrow5, hrow6, by omega, by omega⟩
        · show tt - _ < tt - _; omega
       ·
        have h57l := (Bool.or_eq_false_iff.1 h57).1
        have h57r := (Bool.or_eq_false_iff.1 h57).2
        have h57l' := of_decide_eq_false h57l
        have h57r' := of_decide_eq_false h57r
        refine W.skip (QN.blkNormal (QN.seq (W.rg od3 (T.pi 91 k (T.pw 92 ((k : Int) + 1) (T.pi 14 ((k : Int) + 1) (T.nil (QN.back (k + 1, pr2, cm2, fk + 1, ls) ?_ ?_ (by kernel_rfl) (fun w h => (h.perm (pm1.trans ((((pm0.cons _).trans List.perm_middle.symm).trans ((((pm0.cons _).trans List.perm_middle.symm).trans ((((pm0.cons _).trans List.perm_middle.symm).trans ((((pm0.cons _).trans List.perm_middle.symm).trans ((pm0.trans ((pm0.trans (pm0.cons _)).cons _)).append_left (rowsH 3 cm2))).append_left (rowsH 3 pr2))).append_left Hq)).append_left Hp)).cons _))).part ((List.Sublist.append (List.Sublist.refl _) (List.Sublist.append (List.Sublist.refl _) (List.Sublist.append (List.Sublist.refl _) (List.Sublist.append (List.Sublist.refl _) ns3)))).cons_cons _))))))))))
        ·
         try dsimp only
         exact ⟨by omega, rs_keep hsr hf1 hf2 hzz h55 h57, hP2, hC2, hrow5, hrow6, by omega, by omega⟩
        · show tt - _ < tt - _; omega
      ·
       refine W.skip (QN.blkNormal (QN.seq (W.rg od3 (T.pi 91 k (T.pw 92 ((k : Int) + 1) (T.pi 14 ((k : Int) + 1) (T.nil (QN.back (k + 1, pr2, cm2, fk, ls) ?_ ?_ (by kernel_rfl) (fun w h => h)))))))))
       ·
        try dsimp only
        exact ⟨by omega, rs_no hsr hf1 hf2 h55, hP2, hC2, hrow5, hrow6, by omega, by omega⟩
       · show tt - _ < tt - _; omega
    ·
     have h31' := of_decide_eq_false h31
     refine W.exit (QN.thenExit (QN.thenExit (QN.blkHit (QN.seq (W.seq (W.rg od3 (T.lr false 183 #[.int .i64 tt, .int .i64 fk, .int .i64 ls] 41 b11 0 (fun w h => St.rangeM h #[.int .i64 tt, .int .i64 fk, .int .i64 ls] (.tail _ (List.mem_append_right _ (List.mem_append_right _ (List.mem_append_right _ (List.mem_append_right _ mm0))))) (by kernel_rfl)) (T.sp 41 b1 0 (.agg #[.int .i64 tt, .int .i64 fk, .int .i64 ls]) #[.int .i64 0, .int .i64 0, .int .i64 0] #[.int .i64 tt, .int .i64 fk, .int .i64 ls] 41 ((((((((((pm2.append_left (rowsH 3 cm3)).trans List.perm_middle).append_left (rowsH 3 pr3)).trans List.perm_middle).append_left Hq).trans List.perm_middle).append_left Hp).trans List.perm_middle).cons _).trans (List.Perm.swap _ _ _)) tv2 (T.pi 7 0 (T.nil (QN.seq (W.ret (QN.doneC2 (.inl rfl) 6 7 41 b1 #[.int .i64 tt, .int .i64 fk, .int .i64 ls] (.int .i64 0) _ rfl (by kernel_rfl) (by kernel_rfl) Try.underlying41 (by kernel_rfl) (by kernel_rfl) (fun w hw => St.rangeM hw #[.int .i64 tt, .int .i64 fk, .int .i64 ls] mm0 (by kernel_rfl)) (fun w hw => ⟨?_, hw.below⟩))))))))))))))
     exact (by have hkt : k = tt := (by omega); rw [hkt] at hsr; rw [rsearch_ok h7 hN htt hsr])
end Go.Proofs.Ytphnfhonmbbddaa
