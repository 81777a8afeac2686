/- The judge: what is decidable in a table. -/
import Derived.Test.YtphnfhonmbbddaaTb
import Derived.Test.YtphnfhonmbbddaaGK
namespace Go.Proofs.Ytphnfhonmbbddaa
open Go Go.RowKit
set_option linter.unusedVariables false

theorem RowIs.ofL {α : Type} [Cel α] {ty : TypeId} {sz : Nat} (b : Nat) {l : List α} (hs : sz = Cel.sz α) (hl : l.length ≤ maxLen) : RowIs ty sz (some ⟨b, 0, none⟩) l.length l.length (cells l) [(b, lstB ty l)] := by
  subst hs
  exact .row b _ _ _ _ (Nat.le_refl _) hl (by simp [cells_len]) (by simp [← cells_len]) (cells_len l)
/-- How many entries have one of the choices. -/
def hitB (x e : Int) : Bool := bits .and .i64 e x != 0
def countV (l : List Int) (x : Int) : Int := ((l.filter (hitB x)).length : Int)
def bothV (l : List Int) (q : Int) : Bool := bif (((decide (countV l 3 < q)) || (countV l 1 == 0)) || (countV l 2 == 0)) then false else bif decide (1 < q) then true else l.any (fun e => e == 3)
def keptV (l : List Int) (p : Int) : List Int := l.map (fun e => bits .and .i64 e p)
def keptP (l : List Int) (p : Int) (j : Nat) : List Int := keptV (l.take j) p ++ List.replicate (l.length - j) 0
def outB (hi e : Int) : Bool := (decide (e < 0)) || (decide (hi < e))
def fitR (k hi : Int) (l : List Int) : Bool := !((l.length : Int) != k) && !(l.any (outB hi))
def fitsV (rows : List (List Int)) (k hi : Int) : Bool := rows.all (fitR k hi)
def validV (P C : List (List Int)) : Bool := bif (((decide ((P.length : Int) < 1)) || (decide (3 < (P.length : Int)))) || ((C.length : Int) != (P.length : Int))) then false else ((((decide (1 ≤ ((P.getD 0 []).length : Int))) && (decide (((P.getD 0 []).length : Int) ≤ 7))) && (fitsV P ((P.getD 0 []).length : Int) 3)) && (fitsV C ((P.getD 0 []).length : Int) 7))
section
variable {l ol : List Int} {x p n q k hi : Int} {j : Nat}
theorem cnt_yes (hj : j < l.length) (hn : n = countV (l.take j) x) (h : (bits .and .i64 l[j] x != 0) = true) : n + 1 = countV (l.take (j + 1)) x := by
  have hb : hitB x l[j] = true := h
  unfold countV at *
  rw [List.take_succ_eq_append_getElem hj, List.filter_append, List.length_append, hn]
  simp [hb]
theorem cnt_no (hj : j < l.length) (hn : n = countV (l.take j) x) (h : (bits .and .i64 l[j] x != 0) = false) : n = countV (l.take (j + 1)) x := by
  have hb : hitB x l[j] = false := h
  unfold countV at *
  rw [List.take_succ_eq_append_getElem hj, List.filter_append, List.length_append, hn]
  simp [hb]
theorem cnt_le (hn : n = countV (l.take j) x) : 0 ≤ n ∧ n ≤ (j : Int) := by
  have h1 := List.length_filter_le (hitB x) (l.take j)
  have h2 := List.length_take_le j l
  unfold countV at hn
  omega
theorem both_no (h : (((decide (countV l 3 < q)) || (countV l 1 == 0)) || (countV l 2 == 0)) = true) : bothV l q = false := by unfold bothV; rw [h]; rfl
theorem both_more (h : (((decide (countV l 3 < q)) || (countV l 1 == 0)) || (countV l 2 == 0)) = false) (h2 : (decide (1 < q)) = true) : bothV l q = true := by unfold bothV; rw [h, h2]; rfl
theorem both_hit (h : (((decide (countV l 3 < q)) || (countV l 1 == 0)) || (countV l 2 == 0)) = false) (h2 : (decide (1 < q)) = false) (h3 : l.any (fun e => e == 3) = true) : bothV l q = true := by unfold bothV; rw [h, h2]; exact h3
theorem both_end (h : (((decide (countV l 3 < q)) || (countV l 1 == 0)) || (countV l 2 == 0)) = false) (h2 : (decide (1 < q)) = false) (h3 : l.any (fun e => e == 3) = false) : bothV l q = false := by unfold bothV; rw [h, h2]; exact h3
theorem keptP_len (l : List Int) (p : Int) (j : Nat) : (keptP l p j).length = l.length := by
  unfold keptP keptV; simp; omega
theorem kept_zero (l : List Int) (p : Int) : List.replicate l.length (0 : Int) = keptP l p 0 := by unfold keptP keptV; simp
theorem kept_step (hj : j < l.length) (h : ol = keptP l p j) : ol.set j (bits .and .i64 l[j] p) = keptP l p (j + 1) := by
  subst h
  unfold keptP
  have e : l.length - j = (l.length - (j + 1)) + 1 := by omega
  have hk : (keptV (l.take j) p).length = j := by unfold keptV; simp; omega
  rw [e, List.replicate_succ, List.set_append_right _ _ (by omega), hk, Nat.sub_self, List.set_cons_zero, List.take_succ_eq_append_getElem hj]
  unfold keptV
  rw [List.map_append]
  simp only [List.map_cons, List.map_nil, List.append_assoc, List.singleton_append]
theorem kept_fin (h : ol = keptP l p j) (hj : l.length ≤ j) : ol = keptV l p := by
  subst h
  unfold keptP
  rw [List.take_of_length_le hj, Nat.sub_eq_zero_of_le hj]
  simp
theorem fit_len (h : ((l.length : Int) != k) = true) : fitR k hi l = false := by unfold fitR; rw [h]; rfl
theorem fit_out (h : l.any (outB hi) = true) : fitR k hi l = false := by unfold fitR; rw [h]; simp
theorem fit_yes (h : ((l.length : Int) != k) = false) (h2 : l.any (outB hi) = false) : fitR k hi l = true := by unfold fitR; rw [h, h2]; rfl
theorem fits_no {rows : List (Hd Int)} (hj : j < rows.length) (h : fitR k hi rows[j].l = false) : fitsV (rows.map Hd.l) k hi = false := by
  unfold fitsV
  rw [List.all_map]
  exact all_miss (p := fitR k hi ∘ Hd.l) hj h
theorem fits_all {rows : List (Hd Int)} (h : rows.all (fun h => fitR k hi h.l) = true) : fitsV (rows.map Hd.l) k hi = true := by
  unfold fitsV
  rw [List.all_map]; exact h
variable {t : Tb}
theorem P_at (h : j < t.pre.length) : t.P.getD j [] = t.pre[j].l := by unfold Tb.P; simp [List.getD_eq_getElem?_getD, h]
theorem C_at (h : j < t.com.length) : t.C.getD j [] = t.com[j].l := by unfold Tb.C; simp [List.getD_eq_getElem?_getD, h]
theorem P_len : t.P.length = t.pre.length := by simp [Tb.P]
theorem C_len : t.C.length = t.com.length := by simp [Tb.C]
theorem valid_no (h : (((decide ((t.pre.length : Int) < 1)) || (decide (3 < (t.pre.length : Int)))) || ((t.com.length : Int) != (t.pre.length : Int))) = true) : validV t.P t.C = false := by unfold validV; rw [P_len, C_len, h]; rfl
theorem valid_yes (h0 : 0 < t.pre.length) (h : (((decide ((t.pre.length : Int) < 1)) || (decide (3 < (t.pre.length : Int)))) || ((t.com.length : Int) != (t.pre.length : Int))) = false) : validV t.P t.C = ((((decide (1 ≤ ((t.pre[0].l).length : Int))) && (decide (((t.pre[0].l).length : Int) ≤ 7))) && (fitsV (t.pre.map Hd.l) ((t.pre[0].l).length : Int) 3)) && (fitsV (t.com.map Hd.l) ((t.pre[0].l).length : Int) 7)) := by
  unfold validV
  rw [P_len, C_len, h, P_at h0]; rfl
end
set_option maxRecDepth 100000 in
set_option maxHeartbeats 2000000 in
theorem count_c (l : List Int) (x : Int) (A : Option Addr) (c : Nat) (w : World) (hl : l.length ≤ maxLen) (hr : Rd w A l) : Calls Try.prog 37 #[.slice A l.length c, .int .i64 x] w (fun rr w' => rr = .returned (.int .i64 (countV l x)) ∧ Below w.heap.size w w') := by
 have hl9 : l.length ≤ 9223372036854775807 := hl
 refine calls_W (n := 22) Try.func37 rfl [(0, .slice A l.length c), (1, .int .i64 x)] rfl ⟨by kernel_rfl, by kernel_rfl⟩ (W.weak (Ψ := St w []) (fun w' h => by rw [h]; exact St.start w) (W.seq (W.rg od1 (T.pi 4 0 (T.nil (QN.seq (W.seq (W.rg od1 (T.pi 5 0 (T.nil (QN.seq (W.seq (W.seq (W.rg od3 (T.pu 8 (.slice A l.length c) (T.pi 9 ((l.length : Nat) : Int) (T.pi 10 0 (T.nil (QN.seq (W.block (W.loop (σ := Nat × Int) (fun gs => gs.1 ≤ l.length ∧ gs.2 = countV (l.take gs.1) x) (fun gs => [(1, .int .i64 x), (4, .int .i64 0), (5, .int .i64 gs.2), (8, .slice A l.length c), (9, .int .i64 ((l.length : Nat) : Int)), (10, .int .i64 (gs.1 : Int))]) (fun gs => St w []) (fun gs => l.length - gs.1) (0, 0) ?_ (by kernel_rfl) (fun w h => h) ?_)))))))))))))))))))))
 ·
  try dsimp only
  exact ⟨Nat.zero_le _, rfl⟩
 rintro ⟨j, n⟩ hI_
 obtain ⟨hj, hn⟩ : j ≤ l.length ∧ n = countV (l.take j) x := hI_
 have hn0 := cnt_le hn
 refine W.seq (W.rg od1 (T.pb 11 (decide ((j : Int) < ((l.length : Nat) : Int))) (T.nil (QN.seq (W.seq (W.cd (decide ((j : Int) < ((l.length : Nat) : Int))) (fun h1 => ?_) (fun h1 => ?_)))))))
 ·
  have h1' := of_decide_eq_true h1
  have hl2 : j < l.length := by omega
  refine W.skip (QN.seq (W.seq (W.block (W.seq (W.rg od3 ?_)))))
  obtain ⟨b3, o4, hA5, hr6⟩ := (Rd.arr hr _) j hl2
  refine T.ix 12 45 3 1 A l.length c (j : Int) j b3 o4 hA5 rfl (by omega) (T.ld false 13 (.int .i64 (l[j]'hl2)) 3 b3 (o4 + j * 1) (fun w h => cell_of_range (hr6 w h) 0 (by kernel_rfl)) (T.pi 7 (l[j]'hl2) (T.nil (QN.seq (W.seq (W.rg od4 (T.pi 14 (l[j]'hl2) (T.pi 15 x (T.pi 16 (bits .and .i64 (l[j]'hl2) x) (T.pb 17 ((bits .and .i64 (l[j]'hl2) x) != 0) (T.nil (QN.seq (W.cd ((bits .and .i64 (l[j]'hl2) x) != 0) (fun h7 => ?_) (fun h7 => ?_))))))))))))))
  ·
   refine W.rg od3 (T.pi 18 n (T.pw 19 (n + 1) (T.pi 5 (n + 1) (T.nil (QN.blkNormal (QN.seq (W.rg od2 (T.pw 20 ((j : Int) + 1) (T.pi 10 ((j : Int) + 1) (T.nil (QN.back (j + 1, n + 1) ?_ ?_ (by kernel_rfl) (fun w h => h))))))))))))
   ·
    try dsimp only
    exact ⟨by omega, cnt_yes (by omega) hn h7⟩
   · show l.length - (j + 1) < l.length - j; omega
  ·
   refine W.skip (QN.blkNormal (QN.seq (W.rg od2 (T.pw 20 ((j : Int) + 1) (T.pi 10 ((j : Int) + 1) (T.nil (QN.back (j + 1, n) ?_ ?_ (by kernel_rfl) (fun w h => h))))))))
   ·
    try dsimp only
    exact ⟨by omega, cnt_no (by omega) hn h7⟩
   · show l.length - (j + 1) < l.length - j; omega
 ·
  have h1' := of_decide_eq_false h1
  refine W.exit (QN.thenExit (QN.thenExit (QN.blkHit (QN.seq (W.seq (W.rg od2 (T.pi 21 n (T.pi 4 n (T.nil (QN.seq (W.ret (QN.done (.inl rfl) 4 (.int .i64 n) rfl (by kernel_rfl) (fun w hw => ⟨?_, hw.below⟩)))))))))))))
  exact ret_int (by rw [hn, take_end (by omega)])
set_option maxRecDepth 100000 in
set_option maxHeartbeats 2000000 in
theorem both_c (l : List Int) (q : Int) (A : Option Addr) (c : Nat) (w : World) (hl : l.length ≤ maxLen) (hr : Rd w A l) : Calls Try.prog 38 #[.slice A l.length c, .int .i64 q] w (fun rr w' => rr = .returned (.bool (bothV l q)) ∧ Below w.heap.size w w') := by
 have hl9 : l.length ≤ 9223372036854775807 := hl
 refine calls_W (n := 32) Try.func38 rfl [(0, .slice A l.length c), (1, .int .i64 q)] rfl ⟨by kernel_rfl, by kernel_rfl⟩ (W.weak (Ψ := St w []) (fun w' h => by rw [h]; exact St.start w) (W.seq (W.rg od1 (T.pb 4 false (T.nil (QN.seq (W.seq (W.seq (W.rg od14 (T.pu 7 (.slice A l.length c) (T.cp 8 37 #[.slice A l.length c, .int .i64 3] (.int .i64 (countV l 3)) ent37 (fun w hw => count_c l 3 A c w (by first | assumption | omega) (Arr.rd (Rd.arr hr _) hw)) tv2 (T.pi 9 q (T.pb 10 (decide ((countV l 3) < q)) (T.pb 11 (decide ((countV l 3) < q)) (T.bk [(5, false), (6, false), (7, false)] [(8, false), (9, false), (10, false), (11, false), (12, false), (13, false)] 4 false (decide ((countV l 3) < q)) 11 14 (.bool ((countV l 1) == 0)) (fun hg1 => ?_) ?_)))))))))))))))
 ·
  have hg1_ := hg1
  have hg1' := of_decide_eq_false hg1
  refine T.pu 12 (.slice A l.length c) (T.cp 13 37 #[.slice A l.length c, .int .i64 1] (.int .i64 (countV l 1)) ent37 (fun w hw => count_c l 1 A c w (by first | assumption | omega) (Arr.rd (Rd.arr hr _) hw)) tv2 (T.pb 14 ((countV l 1) == 0) ?_))
  exact T.blkEnd (by kernel_rfl) (fun w h => h)
 refine T.oo 15 (decide ((countV l 3) < q)) ((countV l 1) == 0) (T.pb 16 ((decide ((countV l 3) < q)) || ((countV l 1) == 0)) (T.bk [(10, false), (11, false), (12, false)] [(13, false)] 9 false ((decide ((countV l 3) < q)) || ((countV l 1) == 0)) 16 19 (.bool ((countV l 2) == 0)) (fun hg2 => ?_) ?_))
 ·
  have hg2_ := hg2
  have hg2l := (Bool.or_eq_false_iff.1 hg2).1
  have hg2r := (Bool.or_eq_false_iff.1 hg2).2
  have hg2l' := of_decide_eq_false hg2l
  refine T.pu 17 (.slice A l.length c) (T.cp 18 37 #[.slice A l.length c, .int .i64 2] (.int .i64 (countV l 2)) ent37 (fun w hw => count_c l 2 A c w (by first | assumption | omega) (Arr.rd (Rd.arr hr _) hw)) tv2 (T.pb 19 ((countV l 2) == 0) ?_))
  exact T.blkEnd (by kernel_rfl) (fun w h => h)
 refine T.oo 20 ((decide ((countV l 3) < q)) || ((countV l 1) == 0)) ((countV l 2) == 0) (T.nil (QN.seq (W.cd (((decide ((countV l 3) < q)) || ((countV l 1) == 0)) || ((countV l 2) == 0)) (fun h3 => ?_) (fun h3 => ?_))))
 ·
  refine W.seq (W.rg od1 (T.pb 4 false (T.nil (QN.seq (W.ret (QN.thenRet (QN.done (.inl rfl) 4 (.bool false) rfl (by kernel_rfl) (fun w hw => ⟨?_, hw.below⟩))))))))
  exact (by rw [both_no h3])
 ·
  have h3l := (Bool.or_eq_false_iff.1 h3).1
  have h3r := (Bool.or_eq_false_iff.1 h3).2
  have h3ll := (Bool.or_eq_false_iff.1 h3l).1
  have h3lr := (Bool.or_eq_false_iff.1 h3l).2
  have h3ll' := of_decide_eq_false h3ll
  refine W.skip (QN.seq (W.seq (W.seq (W.rg od2 (T.pi 21 q (T.pb 22 (decide (1 < q)) (T.nil (QN.seq (W.cd (decide (1 < q)) (fun h4 => ?_) (fun h4 => ?_))))))))))
  ·
   have h4' := of_decide_eq_true h4
   refine W.seq (W.rg od1 (T.pb 4 true (T.nil (QN.seq (W.ret (QN.thenRet (QN.done (.inl rfl) 4 (.bool true) rfl (by kernel_rfl) (fun w hw => ⟨?_, hw.below⟩))))))))
   exact (by rw [both_more h3 h4])
  ·
   have h4' := of_decide_eq_false h4
   refine W.skip (QN.seq (W.seq (W.seq (W.rg od3 (T.pu 23 (.slice A l.length c) (T.pi 24 ((l.length : Nat) : Int) (T.pi 25 0 (T.nil (QN.seq (W.block (W.loop (σ := Nat) (fun gs => gs ≤ l.length ∧ (l.take gs).any (fun e => e == 3) = false) (fun gs => [(23, .slice A l.length c), (24, .int .i64 ((l.length : Nat) : Int)), (25, .int .i64 gs)]) (fun gs => St w []) (fun gs => l.length - gs) 0 ?_ (by kernel_rfl) (fun w h => h) ?_)))))))))))
   ·
    try dsimp only
    exact ⟨Nat.zero_le _, any_zero _ _⟩
   rintro j hI_
   obtain ⟨hj, hany⟩ : j ≤ l.length ∧ (l.take j).any (fun e => e == 3) = false := hI_
   refine W.seq (W.rg od1 (T.pb 26 (decide ((j : Int) < ((l.length : Nat) : Int))) (T.nil (QN.seq (W.seq (W.cd (decide ((j : Int) < ((l.length : Nat) : Int))) (fun h5 => ?_) (fun h5 => ?_)))))))
   ·
    have h5' := of_decide_eq_true h5
    have hl6 : j < l.length := by omega
    refine W.skip (QN.seq (W.seq (W.block (W.seq (W.rg od3 ?_)))))
    obtain ⟨b7, o8, hA9, hr10⟩ := (Rd.arr hr _) j hl6
    refine T.ix 27 45 3 1 A l.length c (j : Int) j b7 o8 hA9 rfl (by omega) (T.ld false 28 (.int .i64 (l[j]'hl6)) 3 b7 (o8 + j * 1) (fun w h => cell_of_range (hr10 w h) 0 (by kernel_rfl)) (T.pi 6 (l[j]'hl6) (T.nil (QN.seq (W.seq (W.rg od2 (T.pi 29 (l[j]'hl6) (T.pb 30 ((l[j]'hl6) == 3) (T.nil (QN.seq (W.cd ((l[j]'hl6) == 3) (fun h11 => ?_) (fun h11 => ?_))))))))))))
    ·
     refine W.seq (W.rg od1 (T.pb 4 true (T.nil (QN.seq (W.ret (QN.blkRet (QN.thenRet (QN.thenRet (QN.blkRet (QN.thenRet (QN.done (.inl rfl) 4 (.bool true) rfl (by kernel_rfl) (fun w hw => ⟨?_, hw.below⟩))))))))))))
     exact (by rw [both_hit h3 h4 (any_hit (p := fun e => e == 3) (j := j) (by omega) h11)])
    ·
     refine W.skip (QN.blkNormal (QN.seq (W.rg od2 (T.pw 31 ((j : Int) + 1) (T.pi 25 ((j : Int) + 1) (T.nil (QN.back (j + 1) ?_ ?_ (by kernel_rfl) (fun w h => h))))))))
     ·
      try dsimp only
      exact ⟨by omega, any_step hany (by omega) h11⟩
     · show l.length - (j + 1) < l.length - j; omega
   ·
    have h5' := of_decide_eq_false h5
    refine W.exit (QN.thenExit (QN.thenExit (QN.blkHit (QN.seq (W.seq (W.rg od1 (T.pb 4 false (T.nil (QN.seq (W.ret (QN.done (.inl rfl) 4 (.bool false) rfl (by kernel_rfl) (fun w hw => ⟨?_, hw.below⟩))))))))))))
    exact (by rw [both_end h3 h4 (any_end hany (by omega))])
set_option maxRecDepth 100000 in
set_option maxHeartbeats 2000000 in
theorem kept_c (l : List Int) (p : Int) (A : Option Addr) (c : Nat) (w : World) (hl : l.length ≤ 1000) (hr : Rd w A l) : Calls Try.prog 39 #[.slice A l.length c, .int .i64 p] w (fun rr w' => ∃ A c Hr, rr = .returned (.slice A (keptV l p).length c) ∧ RowIs 3 1 A (keptV l p).length c (cells (keptV l p)) Hr ∧ St w Hr w') := by
 refine calls_W (n := 26) Try.func39 rfl [(0, .slice A l.length c), (1, .int .i64 p)] rfl ⟨by kernel_rfl, by kernel_rfl⟩ (W.weak (Ψ := St w []) (fun w' h => by rw [h]; exact St.start w) (W.seq (W.rg od1 (T.pu 4 (.slice none 0 0) (T.nil (QN.seq (W.seq (W.rg od4 (T.pu 8 (.slice A l.length c) (T.pi 9 ((l.length : Nat) : Int) (T.make 10 45 3 8 ((l.length : Nat) : Int) l.length (0 : Int) (.int .i64 0) (List.replicate l.length (0 : Int)) rfl (by kernel_rfl) (fun w => by kernel_rfl) (by kernel_rfl) (by kernel_rfl) (by kernel_rfl) (by kernel_rfl) rfl (by omega) (by omega) (by omega) tv3 (fun b1 => ?_))))))))))))
 have hrl2 : (List.replicate l.length (0 : Int) : List Int).length = l.length := List.length_replicate
 refine T.pu 5 (.slice (some ⟨b1, 0, none⟩) ((List.replicate l.length (0 : Int) : List Int).length) ((List.replicate l.length (0 : Int) : List Int).length)) (T.nil (QN.seq (W.seq (W.seq (W.rg od3 (T.pu 11 (.slice A l.length c) (T.pi 12 ((l.length : Nat) : Int) (T.pi 13 0 (T.nil (QN.seq (W.block (W.loop (σ := Nat × List Int) (fun gs => gs.1 ≤ l.length ∧ gs.2 = keptP l p gs.1) (fun gs => [(1, .int .i64 p), (4, .slice none 0 0), (5, .slice (some ⟨b1, 0, none⟩) ((List.replicate l.length (0 : Int) : List Int).length) ((List.replicate l.length (0 : Int) : List Int).length)), (11, .slice A l.length c), (12, .int .i64 ((l.length : Nat) : Int)), (13, .int .i64 (gs.1 : Int))]) (fun gs => St w [(b1, lstB 3 (gs.2 : List Int))]) (fun gs => l.length - gs.1) (0, (List.replicate l.length (0 : Int) : List Int)) ?_ (by kernel_rfl) (fun w h => h) ?_))))))))))))
 ·
  try dsimp only
  exact ⟨Nat.zero_le _, kept_zero l p⟩
 rintro ⟨j, ol⟩ hI_
 obtain ⟨hj, hol⟩ : j ≤ l.length ∧ ol = keptP l p j := hI_
 have holl : ol.length = l.length := by rw [hol]; exact keptP_len l p j
 refine W.seq (W.rg od1 (T.pb 14 (decide ((j : Int) < ((l.length : Nat) : Int))) (T.nil (QN.seq (W.seq (W.cd (decide ((j : Int) < ((l.length : Nat) : Int))) (fun h3 => ?_) (fun h3 => ?_)))))))
 ·
  have h3' := of_decide_eq_true h3
  have hl4 : j < l.length := by omega
  refine W.skip (QN.seq (W.seq (W.block (W.seq (W.rg od5 (T.pi 15 j ?_))))))
  obtain ⟨b5, o6, hA7, hr8⟩ := (Rd.arr hr _) j hl4
  refine T.ix 16 45 3 1 A l.length c (j : Int) j b5 o6 hA7 rfl (by omega) (T.ld false 17 (.int .i64 (l[j]'hl4)) 3 b5 (o6 + j * 1) (fun w h => cell_of_range (hr8 w h) 0 (by kernel_rfl)) (T.pi 6 j (T.pi 7 (l[j]'hl4) (T.nil (QN.seq (W.rg od7 (T.pu 18 (.slice (some ⟨b1, 0, none⟩) ((List.replicate l.length (0 : Int) : List Int).length) ((List.replicate l.length (0 : Int) : List Int).length)) (T.pi 19 j (T.pi 20 (l[j]'hl4) (T.pi 21 p (T.pi 22 (bits .and .i64 (l[j]'hl4) p) ?_)))))))))))
  have hl13 : j < ol.length := by omega
  refine T.ix 23 45 3 1 (some ⟨b1, 0, none⟩) ((List.replicate l.length (0 : Int) : List Int).length) ((List.replicate l.length (0 : Int) : List Int).length) (j : Int) j b1 0 rfl rfl (by omega) (T.setL 3 3 b1 (0 + j * 1) (bits .and .i64 (l[j]'hl4) p) (.int .i64 (bits .and .i64 (l[j]'hl4) p)) (ol : List Int) (ol.set j (bits .and .i64 (l[j]'hl4) p)) j pm0 hl13 rfl (by kernel_rfl) (Nat.zero_add _) (by kernel_rfl) (by kernel_rfl) (by kernel_rfl) tv2 (T.nil (QN.blkNormal (QN.seq (W.rg od2 (T.pw 24 ((j : Int) + 1) (T.pi 13 ((j : Int) + 1) (T.nil (QN.back (j + 1, ol.set j (bits .and .i64 (l[j]'hl4) p)) ?_ ?_ (by kernel_rfl) (fun w h => h))))))))))
  ·
   try dsimp only
   exact ⟨by omega, kept_step (by omega) hol⟩
  · show l.length - (j + 1) < l.length - j; omega
 ·
  have h3' := of_decide_eq_false h3
  refine W.exit (QN.thenExit (QN.thenExit (QN.blkHit (QN.seq (W.seq (W.rg od2 (T.pu 25 (.slice (some ⟨b1, 0, none⟩) ((List.replicate l.length (0 : Int) : List Int).length) ((List.replicate l.length (0 : Int) : List Int).length)) (T.pu 4 (.slice (some ⟨b1, 0, none⟩) ((List.replicate l.length (0 : Int) : List Int).length) ((List.replicate l.length (0 : Int) : List Int).length)) (T.nil (QN.seq (W.ret (QN.done (.inl rfl) 4 (.slice (some ⟨b1, 0, none⟩) ((List.replicate l.length (0 : Int) : List Int).length) ((List.replicate l.length (0 : Int) : List Int).length)) rfl (by kernel_rfl) (fun w hw => ?_)))))))))))))
  exact (by have e1 : ol = keptV l p := kept_fin hol (by omega); have e2 : (List.replicate l.length (0 : Int)).length = (keptV l p).length := (by simp [keptV]); rw [e2, ← e1]; exact ⟨_, _, _, rfl, RowIs.ofL _ rfl (by unfold maxLen; omega), hw⟩)
set_option maxRecDepth 100000 in
set_option maxHeartbeats 2000000 in
theorem fits_c (rows : List (Hd Int)) (k hi : Int) (A : Option Addr) (c : Nat) (w : World) (hh : rows.length ≤ maxLen ∧ (∀ h ∈ rows, h.l.length ≤ maxLen) ∧ (∀ h ∈ rows, Rd w h.A h.l)) (hr : Rd w A rows) : Calls Try.prog 43 #[.slice A rows.length c, .int .i64 k, .int .i64 hi] w (fun rr w' => rr = .returned (.bool (fitsV (rows.map Hd.l) k hi)) ∧ Below w.heap.size w w') := by
 have hl9 : rows.length ≤ 9223372036854775807 := hh.1
 refine calls_W (n := 36) Try.func43 rfl [(0, .slice A rows.length c), (1, .int .i64 k), (2, .int .i64 hi)] rfl ⟨by kernel_rfl, by kernel_rfl⟩ (W.weak (Ψ := St w []) (fun w' h => by rw [h]; exact St.start w) (W.seq (W.rg od1 (T.pb 6 false (T.nil (QN.seq (W.seq (W.seq (W.rg od3 (T.pu 11 (.slice A rows.length c) (T.pi 12 ((rows.length : Nat) : Int) (T.pi 13 0 (T.nil (QN.seq (W.block (W.loop (σ := Nat) (fun gs => gs ≤ rows.length ∧ ((rows.take gs).all (fun h => fitR k hi h.l)) = true) (fun gs => [(1, .int .i64 k), (2, .int .i64 hi), (11, .slice A rows.length c), (12, .int .i64 ((rows.length : Nat) : Int)), (13, .int .i64 gs)]) (fun gs => St w []) (fun gs => rows.length - gs) 0 ?_ (by kernel_rfl) (fun w h => h) ?_))))))))))))))))
 ·
  try dsimp only
  exact ⟨Nat.zero_le _, rfl⟩
 rintro j hI_
 obtain ⟨hj, hall⟩ : j ≤ rows.length ∧ ((rows.take j).all (fun h => fitR k hi h.l)) = true := hI_
 refine W.seq (W.rg od1 (T.pb 14 (decide ((j : Int) < ((rows.length : Nat) : Int))) (T.nil (QN.seq (W.seq (W.cd (decide ((j : Int) < ((rows.length : Nat) : Int))) (fun h1 => ?_) (fun h1 => ?_)))))))
 ·
  have h1' := of_decide_eq_true h1
  have hl2 : j < rows.length := by omega
  refine W.skip (QN.seq (W.seq (W.block (W.seq (W.rg od3 ?_)))))
  obtain ⟨b3, o4, hA5, hr6⟩ := (Rd.arr hr _) j hl2
  refine T.ix 15 22 45 1 A rows.length c (j : Int) j b3 o4 hA5 rfl (by omega) (T.ld false 16 (.slice ((rows[j]'hl2).A) ((rows[j]'hl2).l.length) ((rows[j]'hl2).c)) 45 b3 (o4 + j * 1) (fun w h => cell_of_range (hr6 w h) 0 (by kernel_rfl)) (T.pu 8 (.slice ((rows[j]'hl2).A) ((rows[j]'hl2).l.length) ((rows[j]'hl2).c)) (T.nil (QN.seq (W.seq (W.seq (W.rg od4 (T.pu 17 (.slice ((rows[j]'hl2).A) ((rows[j]'hl2).l.length) ((rows[j]'hl2).c)) (T.pi 18 (((rows[j]'hl2).l.length : Nat) : Int) (T.pi 19 k (T.pb 20 ((((rows[j]'hl2).l.length : Nat) : Int) != k) (T.nil (QN.seq (W.cd ((((rows[j]'hl2).l.length : Nat) : Int) != k) (fun h7 => ?_) (fun h7 => ?_)))))))))))))))
  ·
   refine W.seq (W.rg od1 (T.pb 6 false (T.nil (QN.seq (W.ret (QN.thenRet (QN.blkRet (QN.thenRet (QN.thenRet (QN.blkRet (QN.thenRet (QN.done (.inl rfl) 6 (.bool false) rfl (by kernel_rfl) (fun w hw => ⟨?_, hw.below⟩)))))))))))))
   exact (by rw [fits_no (j := j) (by omega) (fit_len h7)])
  ·
   refine W.skip (QN.seq (W.seq (W.rg od3 (T.pu 21 (.slice ((rows[j]'hl2).A) ((rows[j]'hl2).l.length) ((rows[j]'hl2).c)) (T.pi 22 (((rows[j]'hl2).l.length : Nat) : Int) (T.pi 23 0 (T.nil (QN.seq (W.block ?_)))))))))
   have hlr : (rows[j]'hl2).l.length ≤ 9223372036854775807 := hh.2.1 _ (List.getElem_mem hl2)
   refine W.loop (σ := Nat) (fun gs => gs ≤ (rows[j]'hl2).l.length ∧ ((rows[j]'hl2).l.take gs).any (outB hi) = false) (fun gs => [(1, .int .i64 k), (2, .int .i64 hi), (8, .slice ((rows[j]'hl2).A) ((rows[j]'hl2).l.length) ((rows[j]'hl2).c)), (11, .slice A rows.length c), (12, .int .i64 ((rows.length : Nat) : Int)), (13, .int .i64 j), (14, .bool (decide ((j : Int) < ((rows.length : Nat) : Int)))), (15, .pointer (some ⟨b3, o4 + j * 1, none⟩)), (16, .slice ((rows[j]'hl2).A) ((rows[j]'hl2).l.length) ((rows[j]'hl2).c)), (17, .slice ((rows[j]'hl2).A) ((rows[j]'hl2).l.length) ((rows[j]'hl2).c)), (18, .int .i64 (((rows[j]'hl2).l.length : Nat) : Int)), (19, .int .i64 k), (20, .bool ((((rows[j]'hl2).l.length : Nat) : Int) != k)), (21, .slice ((rows[j]'hl2).A) ((rows[j]'hl2).l.length) ((rows[j]'hl2).c)), (22, .int .i64 (((rows[j]'hl2).l.length : Nat) : Int)), (23, .int .i64 gs)]) (fun gs => St w []) (fun gs => (rows[j]'hl2).l.length - gs) 0 ?_ (by kernel_rfl) (fun w h => h) ?_
   ·
    try dsimp only
    exact ⟨Nat.zero_le _, any_zero _ _⟩
   rintro k2 hI_
   obtain ⟨hk2, hin⟩ : k2 ≤ (rows[j]'hl2).l.length ∧ ((rows[j]'hl2).l.take k2).any (outB hi) = false := hI_
   refine W.seq (W.rg od1 (T.pb 24 (decide ((k2 : Int) < (((rows[j]'hl2).l.length : Nat) : Int))) (T.nil (QN.seq (W.seq (W.cd (decide ((k2 : Int) < (((rows[j]'hl2).l.length : Nat) : Int))) (fun h8 => ?_) (fun h8 => ?_)))))))
   ·
    have h8' := of_decide_eq_true h8
    have hl9 : k2 < ((rows[j]'hl2).l).length := by omega
    refine W.skip (QN.seq (W.seq (W.block (W.seq (W.rg od3 ?_)))))
    obtain ⟨b10, o11, hA12, hr13⟩ := (Rd.arr (hh.2.2 _ (List.getElem_mem hl2)) _) k2 hl9
    refine T.ix 25 45 3 1 ((rows[j]'hl2).A) ((rows[j]'hl2).l.length) ((rows[j]'hl2).c) (k2 : Int) k2 b10 o11 hA12 rfl (by omega) (T.ld false 26 (.int .i64 (((rows[j]'hl2).l)[k2]'hl9)) 3 b10 (o11 + k2 * 1) (fun w h => cell_of_range (hr13 w h) 0 (by kernel_rfl)) (T.pi 10 (((rows[j]'hl2).l)[k2]'hl9) (T.nil (QN.seq (W.seq (W.rg od7 (T.pi 27 (((rows[j]'hl2).l)[k2]'hl9) (T.pb 28 (decide ((((rows[j]'hl2).l)[k2]'hl9) < 0)) (T.pb 29 (decide ((((rows[j]'hl2).l)[k2]'hl9) < 0)) (T.bk [(3, false), (4, false), (5, false)] [(6, false)] 2 false (decide ((((rows[j]'hl2).l)[k2]'hl9) < 0)) 29 32 (.bool (decide (hi < (((rows[j]'hl2).l)[k2]'hl9)))) (fun hg14 => ?_) ?_))))))))))
    ·
     have hg14_ := hg14
     have hg14' := of_decide_eq_false hg14
     refine T.pi 30 (((rows[j]'hl2).l)[k2]'hl9) (T.pi 31 hi (T.pb 32 (decide (hi < (((rows[j]'hl2).l)[k2]'hl9))) ?_))
     exact T.blkEnd (by kernel_rfl) (fun w h => h)
    refine T.oo 33 (decide ((((rows[j]'hl2).l)[k2]'hl9) < 0)) (decide (hi < (((rows[j]'hl2).l)[k2]'hl9))) (T.nil (QN.seq (W.cd ((decide ((((rows[j]'hl2).l)[k2]'hl9) < 0)) || (decide (hi < (((rows[j]'hl2).l)[k2]'hl9)))) (fun h15 => ?_) (fun h15 => ?_))))
    ·
     refine W.seq (W.rg od1 (T.pb 6 false (T.nil (QN.seq (W.ret (QN.blkRet (QN.thenRet (QN.thenRet (QN.blkRet (QN.blkRet (QN.thenRet (QN.thenRet (QN.blkRet (QN.thenRet (QN.done (.inl rfl) 6 (.bool false) rfl (by kernel_rfl) (fun w hw => ⟨?_, hw.below⟩))))))))))))))))
     exact (by rw [fits_no (j := j) (by omega) (fit_out (any_hit (p := outB hi) (j := k2) (by omega) h15))])
    ·
     have h15l := (Bool.or_eq_false_iff.1 h15).1
     have h15r := (Bool.or_eq_false_iff.1 h15).2
     have h15l' := of_decide_eq_false h15l
     have h15r' := of_decide_eq_false h15r
     refine W.skip (QN.blkNormal (QN.seq (W.rg od2 (T.pw 34 ((k2 : Int) + 1) (T.pi 23 ((k2 : Int) + 1) (T.nil (QN.back (k2 + 1) ?_ ?_ (by kernel_rfl) (fun w h => h))))))))
     ·
      try dsimp only
      exact ⟨by omega, any_step hin (by omega) h15⟩
     · show (rows[j]'hl2).l.length - (k2 + 1) < (rows[j]'hl2).l.length - k2; omega
   ·
    have h8' := of_decide_eq_false h8
    refine W.exit (QN.thenExit (QN.thenExit (QN.blkHit (QN.blkNormal (QN.seq (W.rg od2 (T.pw 35 ((j : Int) + 1) (T.pi 13 ((j : Int) + 1) (T.nil (QN.back (j + 1) ?_ ?_ (by kernel_rfl) (fun w h => h)))))))))))
    ·
     try dsimp only
     exact ⟨by omega, all_step hall (by omega) (fit_yes h7 (any_end hin (by omega)))⟩
    · show rows.length - (j + 1) < rows.length - j; omega
 ·
  have h1' := of_decide_eq_false h1
  refine W.exit (QN.thenExit (QN.thenExit (QN.blkHit (QN.seq (W.seq (W.rg od1 (T.pb 6 true (T.nil (QN.seq (W.ret (QN.done (.inl rfl) 6 (.bool true) rfl (by kernel_rfl) (fun w hw => ⟨?_, hw.below⟩))))))))))))
  exact (by rw [fits_all (all_end hall (by omega))])
set_option maxRecDepth 100000 in
set_option maxHeartbeats 2000000 in
theorem jvalid_c (t : Tb) (w : World) (ht : TbRd w t) (htl : TbLen t) : Calls Try.prog 16 #[.agg t.cs] w (fun rr w' => rr = .returned (.bool (validV t.P t.C)) ∧ Below w.heap.size w w') := by
 have hl9 : t.pre.length ≤ 9223372036854775807 := htl.n1
 have hl8 : t.com.length ≤ 9223372036854775807 := htl.n2
 refine calls_W (n := 46) Try.func16 rfl [(0, .agg t.cs)] rfl ⟨by kernel_rfl, by kernel_rfl⟩ (W.weak (Ψ := St w []) (fun w' h => by rw [h]; exact St.start w) (W.seq (W.rg od2 (T.bx 1 24 (.agg t.cs) (t.cs) tv3 (fun b1 => T.pb 2 false (T.nil (QN.seq (W.seq (W.seq (W.rg od19 (T.pu 4 (.pointer (some ⟨b1, 0, none⟩)) (T.ld false 5 (.slice t.A1 t.pre.length t.c1) 22 b1 0 (fun w h => St.cellM h mm0 (by kernel_rfl)) (T.pi 6 ((t.pre.length : Nat) : Int) (T.pb 7 (decide (((t.pre.length : Nat) : Int) < 1)) (T.pb 8 (decide (((t.pre.length : Nat) : Int) < 1)) (T.bk [(5, false), (6, false), (7, false), (8, false)] [(9, false), (10, false), (11, false), (12, false), (13, false), (14, false), (15, false), (16, false), (17, false), (18, false)] 4 false (decide (((t.pre.length : Nat) : Int) < 1)) 8 12 (.bool (decide (3 < ((t.pre.length : Nat) : Int)))) (fun hg2 => ?_) ?_))))))))))))))))
 ·
  have hg2_ := hg2
  have hg2' := of_decide_eq_false hg2
  refine T.pu 9 (.pointer (some ⟨b1, 0, none⟩)) (T.ld false 10 (.slice t.A1 t.pre.length t.c1) 22 b1 0 (fun w h => St.cellM h mm0 (by kernel_rfl)) (T.pi 11 ((t.pre.length : Nat) : Int) (T.pb 12 (decide (3 < ((t.pre.length : Nat) : Int))) ?_)))
  exact T.blkEnd (by kernel_rfl) (fun w h => h)
 refine T.oo 13 (decide (((t.pre.length : Nat) : Int) < 1)) (decide (3 < ((t.pre.length : Nat) : Int))) (T.pb 14 ((decide (((t.pre.length : Nat) : Int) < 1)) || (decide (3 < ((t.pre.length : Nat) : Int)))) (T.bk [(11, false), (12, false), (13, false), (14, false), (15, false), (16, false), (17, false)] [(18, false)] 10 false ((decide (((t.pre.length : Nat) : Int) < 1)) || (decide (3 < ((t.pre.length : Nat) : Int)))) 14 21 (.bool (((t.com.length : Nat) : Int) != ((t.pre.length : Nat) : Int))) (fun hg3 => ?_) ?_))
 ·
  have hg3_ := hg3
  have hg3l := (Bool.or_eq_false_iff.1 hg3).1
  have hg3r := (Bool.or_eq_false_iff.1 hg3).2
  have hg3l' := of_decide_eq_false hg3l
  have hg3r' := of_decide_eq_false hg3r
  refine T.pu 15 (.pointer (some ⟨b1, 1, none⟩)) (T.ld false 16 (.slice t.A2 t.com.length t.c2) 22 b1 1 (fun w h => St.cellM h mm0 (by kernel_rfl)) (T.pi 17 ((t.com.length : Nat) : Int) (T.pu 18 (.pointer (some ⟨b1, 0, none⟩)) (T.ld false 19 (.slice t.A1 t.pre.length t.c1) 22 b1 0 (fun w h => St.cellM h mm0 (by kernel_rfl)) (T.pi 20 ((t.pre.length : Nat) : Int) (T.pb 21 (((t.com.length : Nat) : Int) != ((t.pre.length : Nat) : Int)) ?_))))))
  exact T.blkEnd (by kernel_rfl) (fun w h => h)
 refine T.oo 22 ((decide (((t.pre.length : Nat) : Int) < 1)) || (decide (3 < ((t.pre.length : Nat) : Int)))) (((t.com.length : Nat) : Int) != ((t.pre.length : Nat) : Int)) (T.nil (QN.seq (W.cd (((decide (((t.pre.length : Nat) : Int) < 1)) || (decide (3 < ((t.pre.length : Nat) : Int)))) || (((t.com.length : Nat) : Int) != ((t.pre.length : Nat) : Int))) (fun h4 => ?_) (fun h4 => ?_))))
 ·
  refine W.seq (W.rg od1 (T.pb 2 false (T.nil (QN.seq (W.ret (QN.thenRet (QN.done (.inl rfl) 2 (.bool false) rfl (by kernel_rfl) (fun w hw => ⟨?_, hw.below⟩))))))))
  exact (by rw [valid_no h4])
 ·
  have h4l := (Bool.or_eq_false_iff.1 h4).1
  have h4r := (Bool.or_eq_false_iff.1 h4).2
  have h4ll := (Bool.or_eq_false_iff.1 h4l).1
  have h4lr := (Bool.or_eq_false_iff.1 h4l).2
  have h4ll' := of_decide_eq_false h4ll
  have h4lr' := of_decide_eq_false h4lr
  refine W.skip (QN.seq (W.seq (W.rg od6 (T.pu 23 (.pointer (some ⟨b1, 0, none⟩)) (T.ld false 24 (.slice t.A1 t.pre.length t.c1) 22 b1 0 (fun w h => St.cellM h mm0 (by kernel_rfl)) ?_)))))
  have hp0 : 0 < t.pre.length := by omega
  obtain ⟨b5, o6, hA7, hr8⟩ := (Rd.arr ht.a1 _) 0 hp0
  refine T.ix 25 22 45 1 t.A1 t.pre.length t.c1 0 0 b5 o6 hA7 (by first | rfl | omega) (by omega) (T.ld false 26 (.slice (((t.pre)[0]'hp0).A) (((t.pre)[0]'hp0).l.length) (((t.pre)[0]'hp0).c)) 45 b5 (o6 + 0 * 1) (fun w h => cell_of_range (hr8 w h) 0 (by kernel_rfl)) (T.pi 27 ((((t.pre)[0]'hp0).l.length : Nat) : Int) (T.pi 3 ((((t.pre)[0]'hp0).l.length : Nat) : Int) (T.nil (QN.seq (W.seq (W.rg od19 (T.pi 28 ((((t.pre)[0]'hp0).l.length : Nat) : Int) (T.pb 29 (decide (1 ≤ ((((t.pre)[0]'hp0).l.length : Nat) : Int))) (T.pb 30 (decide (1 ≤ ((((t.pre)[0]'hp0).l.length : Nat) : Int))) (T.bk [(3, false), (4, false)] [(5, false), (6, false), (7, false), (8, false), (9, false), (10, false), (11, false), (12, false), (13, false), (14, false), (15, false), (16, false), (17, false), (18, false)] 2 true (decide (1 ≤ ((((t.pre)[0]'hp0).l.length : Nat) : Int))) 30 32 (.bool (decide (((((t.pre)[0]'hp0).l.length : Nat) : Int) ≤ 7))) (fun hg9 => ?_) ?_)))))))))))
  ·
   have hg9_ := hg9
   have hg9' := of_decide_eq_true hg9
   refine T.pi 31 ((((t.pre)[0]'hp0).l.length : Nat) : Int) (T.pb 32 (decide (((((t.pre)[0]'hp0).l.length : Nat) : Int) ≤ 7)) ?_)
   exact T.blkEnd (by kernel_rfl) (fun w h => h)
  refine T.an 33 (decide (1 ≤ ((((t.pre)[0]'hp0).l.length : Nat) : Int))) (decide (((((t.pre)[0]'hp0).l.length : Nat) : Int) ≤ 7)) (T.pb 34 ((decide (1 ≤ ((((t.pre)[0]'hp0).l.length : Nat) : Int))) && (decide (((((t.pre)[0]'hp0).l.length : Nat) : Int) ≤ 7))) (T.bk [(7, false), (8, false), (9, false), (10, false)] [(11, false), (12, false), (13, false), (14, false), (15, false), (16, false), (17, false), (18, false)] 6 true ((decide (1 ≤ ((((t.pre)[0]'hp0).l.length : Nat) : Int))) && (decide (((((t.pre)[0]'hp0).l.length : Nat) : Int) ≤ 7))) 34 38 (.bool (fitsV (t.pre.map Hd.l) ((((t.pre)[0]'hp0).l.length : Nat) : Int) 3)) (fun hg10 => ?_) ?_))
  ·
   have hg10_ := hg10
   have hg10l := (Bool.and_eq_true_iff.1 hg10).1
   have hg10r := (Bool.and_eq_true_iff.1 hg10).2
   have hg10l' := of_decide_eq_true hg10l
   have hg10r' := of_decide_eq_true hg10r
   refine T.pu 35 (.pointer (some ⟨b1, 0, none⟩)) (T.ld false 36 (.slice t.A1 t.pre.length t.c1) 22 b1 0 (fun w h => St.cellM h mm0 (by kernel_rfl)) (T.pi 37 ((((t.pre)[0]'hp0).l.length : Nat) : Int) (T.cp 38 43 #[.slice t.A1 t.pre.length t.c1, .int .i64 ((((t.pre)[0]'hp0).l.length : Nat) : Int), .int .i64 3] (.bool (fitsV (t.pre.map Hd.l) ((((t.pre)[0]'hp0).l.length : Nat) : Int) 3)) ent43 (fun w hw => fits_c t.pre ((((t.pre)[0]'hp0).l.length : Nat) : Int) 3 t.A1 t.c1 w (⟨htl.n1, htl.l1, fun h hh => (ht.r1 h hh).below hw.below⟩) (Arr.rd (Rd.arr ht.a1 _) hw)) tv2 ?_)))
   exact T.blkEnd (by kernel_rfl) (fun w h => h)
  refine T.an 39 ((decide (1 ≤ ((((t.pre)[0]'hp0).l.length : Nat) : Int))) && (decide (((((t.pre)[0]'hp0).l.length : Nat) : Int) ≤ 7))) (fitsV (t.pre.map Hd.l) ((((t.pre)[0]'hp0).l.length : Nat) : Int) 3) (T.pb 40 (((decide (1 ≤ ((((t.pre)[0]'hp0).l.length : Nat) : Int))) && (decide (((((t.pre)[0]'hp0).l.length : Nat) : Int) ≤ 7))) && (fitsV (t.pre.map Hd.l) ((((t.pre)[0]'hp0).l.length : Nat) : Int) 3)) (T.bk [(13, false), (14, false), (15, false), (16, false)] [(17, false), (18, false)] 12 true (((decide (1 ≤ ((((t.pre)[0]'hp0).l.length : Nat) : Int))) && (decide (((((t.pre)[0]'hp0).l.length : Nat) : Int) ≤ 7))) && (fitsV (t.pre.map Hd.l) ((((t.pre)[0]'hp0).l.length : Nat) : Int) 3)) 40 44 (.bool (fitsV (t.com.map Hd.l) ((((t.pre)[0]'hp0).l.length : Nat) : Int) 7)) (fun hg11 => ?_) ?_))
  ·
   have hg11_ := hg11
   have hg11l := (Bool.and_eq_true_iff.1 hg11).1
   have hg11r := (Bool.and_eq_true_iff.1 hg11).2
   have hg11ll := (Bool.and_eq_true_iff.1 hg11l).1
   have hg11lr := (Bool.and_eq_true_iff.1 hg11l).2
   have hg11ll' := of_decide_eq_true hg11ll
   have hg11lr' := of_decide_eq_true hg11lr
   refine T.pu 41 (.pointer (some ⟨b1, 1, none⟩)) (T.ld false 42 (.slice t.A2 t.com.length t.c2) 22 b1 1 (fun w h => St.cellM h mm0 (by kernel_rfl)) (T.pi 43 ((((t.pre)[0]'hp0).l.length : Nat) : Int) (T.cp 44 43 #[.slice t.A2 t.com.length t.c2, .int .i64 ((((t.pre)[0]'hp0).l.length : Nat) : Int), .int .i64 7] (.bool (fitsV (t.com.map Hd.l) ((((t.pre)[0]'hp0).l.length : Nat) : Int) 7)) ent43 (fun w hw => fits_c t.com ((((t.pre)[0]'hp0).l.length : Nat) : Int) 7 t.A2 t.c2 w (⟨htl.n2, htl.l2, fun h hh => (ht.r2 h hh).below hw.below⟩) (Arr.rd (Rd.arr ht.a2 _) hw)) tv2 ?_)))
   exact T.blkEnd (by kernel_rfl) (fun w h => h)
  refine T.an 45 (((decide (1 ≤ ((((t.pre)[0]'hp0).l.length : Nat) : Int))) && (decide (((((t.pre)[0]'hp0).l.length : Nat) : Int) ≤ 7))) && (fitsV (t.pre.map Hd.l) ((((t.pre)[0]'hp0).l.length : Nat) : Int) 3)) (fitsV (t.com.map Hd.l) ((((t.pre)[0]'hp0).l.length : Nat) : Int) 7) (T.pb 2 ((((decide (1 ≤ ((((t.pre)[0]'hp0).l.length : Nat) : Int))) && (decide (((((t.pre)[0]'hp0).l.length : Nat) : Int) ≤ 7))) && (fitsV (t.pre.map Hd.l) ((((t.pre)[0]'hp0).l.length : Nat) : Int) 3)) && (fitsV (t.com.map Hd.l) ((((t.pre)[0]'hp0).l.length : Nat) : Int) 7)) (T.nil (QN.seq (W.ret (QN.done (.inl rfl) 2 (.bool ((((decide (1 ≤ ((((t.pre)[0]'hp0).l.length : Nat) : Int))) && (decide (((((t.pre)[0]'hp0).l.length : Nat) : Int) ≤ 7))) && (fitsV (t.pre.map Hd.l) ((((t.pre)[0]'hp0).l.length : Nat) : Int) 3)) && (fitsV (t.com.map Hd.l) ((((t.pre)[0]'hp0).l.length : Nat) : Int) 7))) rfl (by kernel_rfl) (fun w hw => ⟨?_, hw.below⟩))))))
  exact (by rw [valid_yes hp0 h4])
end Go.Proofs.Ytphnfhonmbbddaa
