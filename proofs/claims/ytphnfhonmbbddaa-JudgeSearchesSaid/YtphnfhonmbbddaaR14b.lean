/- The reference's judge: Decidable. -/
import Derived.Test.YtphnfhonmbbddaaR14
namespace Go.Proofs.Ytphnfhonmbbddaa
open Go Go.RowKit
set_option linter.unusedVariables false

/-- The choices that the round before lets stand. -/
def canR (P C : List (List Int)) (q : Int) (r : Nat) : Int := if r = 0 then 3 else nxT P C q (r - 1)
section
variable {t : Tb} {pl cl now co : List Int} {q nx po y : Int} {r k n : Nat} {o : Bool} {x : Int} {P C : List (List Int)}
theorem x12 (h : k < 2) (hk : k < ([1, 2] : List Int).length) : ([1, 2] : List Int)[k] = ((k + 1 : Nat) : Int) := by
  have : k = 0 ∨ k = 1 := by omega
  rcases this with rfl | rfl <;> rfl
theorem fold12 {f : Int → Int → Int} (h : k < 2) (hn : nx = (([1, 2] : List Int).take k).foldl f 0) (hy : f nx ((k + 1 : Nat) : Int) = y) : y = (([1, 2] : List Int).take (k + 1)).foldl f 0 := by
  have hk : k < ([1, 2] : List Int).length := h
  rw [← fold_bk hk hn, x12 h hk, hy]
theorem nx12_yes (h : k < 2) (hn : nx = (([1, 2] : List Int).take k).foldl (nxF cl pl q) 0) (hb : (((decide (q ≤ countV cl (bits .or .i64 ((k + 1 : Nat) : Int) 4))) && (decide (0 < countV cl ((k + 1 : Nat) : Int)))) || ((decide (q ≤ countV cl 4)) && (decide (0 < countV pl ((k + 1 : Nat) : Int))))) = true) : bits .or .i64 nx ((k + 1 : Nat) : Int) = (([1, 2] : List Int).take (k + 1)).foldl (nxF cl pl q) 0 := fold12 h hn (nxF_yes hb).symm
theorem nx12_no (h : k < 2) (hn : nx = (([1, 2] : List Int).take k).foldl (nxF cl pl q) 0) (hb : (((decide (q ≤ countV cl (bits .or .i64 ((k + 1 : Nat) : Int) 4))) && (decide (0 < countV cl ((k + 1 : Nat) : Int)))) || ((decide (q ≤ countV cl 4)) && (decide (0 < countV pl ((k + 1 : Nat) : Int))))) = false) : nx = (([1, 2] : List Int).take (k + 1)).foldl (nxF cl pl q) 0 := fold12 h hn (nxF_no hb).symm
theorem po12_yes (h : k < 2) (hn : po = (([1, 2] : List Int).take k).foldl (posF now q) 0) (hb : decide (q ≤ countV now ((k + 1 : Nat) : Int)) = true) : bits .or .i64 po ((k + 1 : Nat) : Int) = (([1, 2] : List Int).take (k + 1)).foldl (posF now q) 0 := fold12 h hn (posF_yes hb).symm
theorem po12_no (h : k < 2) (hn : po = (([1, 2] : List Int).take k).foldl (posF now q) 0) (hb : decide (q ≤ countV now ((k + 1 : Nat) : Int)) = false) : po = (([1, 2] : List Int).take (k + 1)).foldl (posF now q) 0 := fold12 h hn (posF_no hb).symm
theorem can_yes (hst : r = 0 ∨ (1 ≤ r ∧ pl = plT P C q (r - 1) ∧ cl = comT P C q (r - 1))) (hr : 0 < r) (hn : nx = (([1, 2] : List Int).take k).foldl (nxF cl pl q) 0) (hk : 2 ≤ k) : nx = canR P C q r := by
  rcases hst with h | ⟨_, h1, h2⟩
  · omega
  · unfold canR
    rw [if_neg (by omega), hn, take_end (l := ([1, 2] : List Int)) (by show 2 ≤ k; omega), h1, h2]; rfl
theorem can_no (hr : r = 0) : (3 : Int) = canR P C q r := by unfold canR; rw [if_pos hr]
theorem and_three {l : List Int} (h : ∀ e ∈ l, 0 ≤ e ∧ e ≤ 3) : keptV l 3 = l := by
  unfold keptV
  conv => rhs; rw [← List.map_id l]
  apply List.map_congr_left
  intro e he
  have := h e he
  rcases small4 this.1 this.2 with rfl | rfl | rfl | rfl <;> decide +kernel
theorem now_eq (hv : VF t.P t.C n t.pre.length) (hr : r < t.pre.length) (h : now = keptV (t.pre[r]'hr).l (canR t.P t.C q r)) : now = plT t.P t.C q r := by
  rw [← P_at hr] at h
  rw [h]
  cases r with
  | zero =>
    show keptV (t.P.getD 0 []) 3 = t.P.getD 0 []
    exact and_three (hv.pr 0 hr).2
  | succ r =>
    rw [plT_succ r (by rw [hv.pl]; exact hr)]; rfl
theorem rng_any (h : o = (List.range r).any (fun s => dcd P C q s x)) (hc : co = comT P C q r) : (o || (decide (q ≤ countV co x))) = (List.range (r + 1)).any (fun s => dcd P C q s x) := by
  rw [List.range_succ, List.any_append, ← h, hc]
  simp [dcd]
theorem rdec_yes {o1 o2 : Bool} (hv : validV t.P t.C = true) (h0 : 0 < t.pre.length) (hn : (t.pre[0]'h0).l.length = n) (hq : q = quorum (n : Int)) (hr : r = t.pre.length) (h1 : o1 = (List.range r).any (fun s => dcd t.P t.C q s 1)) (h2 : o2 = (List.range r).any (fun s => dcd t.P t.C q s 2)) : decV t.P t.C = (o1, o2) := by
  obtain ⟨a, b, c, d⟩ := dec_any (P := t.P) (C := t.C) (q := q) r
  obtain ⟨e, f⟩ := and_bit a b
  unfold decV
  rw [hv, cond_true, P_at h0, hn, ← hq, P_len, ← hr, e, f, c, d, h1, h2]
end

set_option maxRecDepth 100000 in
set_option maxHeartbeats 2000000 in
theorem rdec14_c (t : Tb) (w : World) (ht : TbRd w t) (htl : TbLen t) : Calls Try.prog 14 #[.agg t.cs] w (fun rr w' => rr = .returned (.tuple #[.bool (decV t.P t.C).1, .bool (decV t.P t.C).2]) ∧ Below w.heap.size w w') := by
 have hl9 : t.pre.length ≤ 9223372036854775807 := htl.n1
 have hl8 : t.com.length ≤ 9223372036854775807 := htl.n2
 refine calls_W (n := 147) Try.func14 rfl [(0, .agg t.cs)] rfl ⟨by kernel_rfl, by kernel_rfl⟩ (W.weak (Ψ := St w []) (fun w' h => by rw [h]; exact St.start w) (W.seq (W.rg od3 (T.bx 1 28 (.agg t.cs) (t.cs) tv3 (fun b1 => T.pb 2 false (T.pb 3 false (T.nil (QN.seq (W.seq (W.seq (W.rg od3 (T.lr false 16 t.cs 28 b1 0 (fun w h => St.rangeM h t.cs mm0 (by kernel_rfl)) (T.cp 17 17 #[.agg t.cs] (.bool (validV t.P t.C)) ent17 (fun w hw => rvalid14_c t w (ht.below hw.below) htl) tv2 (T.pb 18 (!(validV t.P t.C)) (T.nil (QN.seq (W.cd (!(validV t.P t.C)) (fun h2 => ?_) (fun h2 => ?_))))))))))))))))))
 ·
  have h2n := not_eq_true h2
  refine W.seq (W.rg od2 (T.pb 2 false (T.pb 3 false (T.nil (QN.seq (W.ret (QN.thenRet (QN.done2 (.inl rfl) 2 3 (.bool false) (.bool false) rfl (by kernel_rfl) (by kernel_rfl) (fun w hw => ?_)))))))))
  exact ⟨by rw [dec_no (not_eq_true h2)], hw.below⟩
 ·
  have h2n := not_eq_false h2
  refine W.skip (QN.seq (W.seq (W.rg od6 ?_)))
  have hvv := not_eq_false h2
  obtain ⟨n, hn1, hn7, hp1, hp3, hpc, hrp, hrc⟩ := valid_facts hvv
  have hp0 : 0 < t.pre.length := by omega
  have hn0 := (hrp _ (List.getElem_mem hp0)).1
  have hvf := VF.of hvv
  rw [P_at hp0, hn0, P_len] at hvf
  refine T.pu 19 (.pointer (some ⟨b1, 0, none⟩)) (T.ld false 20 (.slice t.A1 t.pre.length t.c1) 22 b1 0 (fun w h => St.cellM h mm0 (by kernel_rfl)) ?_)
  obtain ⟨b3, o4, hA5, hr6⟩ := (Rd.arr ht.a1 _) 0 hp0
  refine T.ix 21 22 45 1 t.A1 t.pre.length t.c1 0 0 b3 o4 hA5 (by first | rfl | omega) (by omega) (T.ld false 22 (.slice (((t.pre)[0]'hp0).A) (((t.pre)[0]'hp0).l.length) (((t.pre)[0]'hp0).c)) 45 b3 (o4 + 0 * 1) (fun w h => cell_of_range (hr6 w h) 0 (by kernel_rfl)) (T.pi 23 ((((t.pre)[0]'hp0).l.length : Nat) : Int) (T.pe 4 (.int .i64 ((((t.pre)[0]'hp0).l.length : Nat) : Int)) (.int .i64 (n : Int)) (by rw [hn0]) (T.nil (QN.seq (W.seq (W.rg od3 (T.pi 24 n (T.cp 25 40 #[.int .i64 n] (.int .i64 (quorum (n : Int))) ent40 (fun w hw => Ret.same (rquorum_c _ w (by unfold W64; omega))) tv2 ?_)))))))))
  obtain ⟨q, hq⟩ : ∃ q : Int, q = quorum (n : Int) := ⟨_, rfl⟩
  have hq1 : 1 ≤ q := by rw [hq]; unfold quorum; split <;> omega
  have hqM : q ≤ 10 := by rw [hq]; unfold quorum; split <;> omega
  refine T.pe 5 (.int .i64 (quorum (n : Int))) (.int .i64 q) (by rw [hq]) (T.nil (QN.seq (W.seq (W.rg od3 (T.pu 26 (.agg #[.bool false, .bool false]) (T.al 6 74 #[.bool false, .bool false] tv3 (fun b7 => T.sp 74 b7 0 (.agg #[.bool false, .bool false]) #[.bool false, .bool false] #[.bool false, .bool false] 74 pm0 tv2 (T.nil (QN.seq (W.seq (W.rg od2 (T.pu 7 (.slice none 0 0) (T.pu 8 (.slice none 0 0) (T.nil (QN.seq (W.seq (W.seq (W.rg od1 (T.pi 9 0 (T.nil (QN.seq (W.block (W.loop (σ := Nat × List Int × Option Addr × Nat × List (Nat × Obj) × List Int × Option Addr × Nat × List (Nat × Obj) × Bool × Bool) (fun gs => gs.1 ≤ t.pre.length ∧ (gs.1 = 0 ∨ (1 ≤ gs.1 ∧ gs.2.1 = plT t.P t.C q (gs.1 - 1) ∧ gs.2.2.2.2.2.1 = comT t.P t.C q (gs.1 - 1))) ∧ gs.2.2.2.2.2.2.2.2.2.1 = (List.range gs.1).any (fun s => dcd t.P t.C q s 1) ∧ gs.2.2.2.2.2.2.2.2.2.2 = (List.range gs.1).any (fun s => dcd t.P t.C q s 2) ∧ gs.2.1.length ≤ n ∧ gs.2.2.2.2.2.1.length ≤ n ∧ RowIs 3 1 gs.2.2.1 gs.2.1.length gs.2.2.2.1 (cells gs.2.1) gs.2.2.2.2.1 ∧ RowIs 3 1 gs.2.2.2.2.2.2.1 gs.2.2.2.2.2.1.length gs.2.2.2.2.2.2.2.1 (cells gs.2.2.2.2.2.1) gs.2.2.2.2.2.2.2.2.1) (fun gs => [(1, .pointer (some ⟨b1, 0, none⟩)), (2, .bool false), (3, .bool false), (4, .int .i64 n), (5, .int .i64 q), (6, .pointer (some ⟨b7, 0, none⟩)), (7, .slice gs.2.2.1 gs.2.1.length gs.2.2.2.1), (8, .slice gs.2.2.2.2.2.2.1 gs.2.2.2.2.2.1.length gs.2.2.2.2.2.2.2.1), (9, .int .i64 (gs.1 : Int))]) (fun gs => St w (gs.2.2.2.2.1 ++ (gs.2.2.2.2.2.2.2.2.1 ++ [(b7, Obj.cells #[.bool gs.2.2.2.2.2.2.2.2.2.1, .bool gs.2.2.2.2.2.2.2.2.2.2] 74 (0, 0)), (b1, Obj.cells t.cs 28 (0, 0))]))) (fun gs => t.pre.length - gs.1) (0, [], none, 0, [], [], none, 0, [], false, false) ?_ (by kernel_rfl) (fun w h => h) ?_)))))))))))))))))))))))
  ·
   try dsimp only
   exact ⟨Nat.zero_le _, .inl rfl, rfl, rfl, Nat.zero_le _, Nat.zero_le _, RowIs.nil, RowIs.nil⟩
  rintro ⟨r, pl, Ap, cp, Hp, cl, Ac, cc, Hc, o0, o1⟩ hI_
  obtain ⟨hr0, hst, ho0, ho1, hpn, hcn, hrow1, hrow2⟩ : r ≤ t.pre.length ∧ (r = 0 ∨ (1 ≤ r ∧ pl = plT t.P t.C q (r - 1) ∧ cl = comT t.P t.C q (r - 1))) ∧ o0 = (List.range r).any (fun s => dcd t.P t.C q s 1) ∧ o1 = (List.range r).any (fun s => dcd t.P t.C q s 2) ∧ pl.length ≤ n ∧ cl.length ≤ n ∧ RowIs 3 1 Ap pl.length cp (cells pl) Hp ∧ RowIs 3 1 Ac cl.length cc (cells cl) Hc := hI_
  refine W.seq (W.seq (W.rg od5 (T.pi 27 r (T.pu 28 (.pointer (some ⟨b1, 0, none⟩)) (T.ld false 29 (.slice t.A1 t.pre.length t.c1) 22 b1 0 (fun w h => St.cellM h (List.mem_append_right _ (List.mem_append_right _ mm1)) (by kernel_rfl)) (T.pi 30 ((t.pre.length : Nat) : Int) (T.pb 31 (decide ((r : Int) < ((t.pre.length : Nat) : Int))) (T.nil (QN.seq (W.cd (decide ((r : Int) < ((t.pre.length : Nat) : Int))) (fun h8 => ?_) (fun h8 => ?_)))))))))))
  ·
   have h8' := of_decide_eq_true h8
   have hl9 : r < t.pre.length := by omega
   refine W.skip (QN.seq (W.seq (W.block (W.seq (W.rg od1 (T.pi 10 3 (T.nil (QN.seq (W.seq (W.seq (W.rg od2 ?_)))))))))))
   have hrl : r < t.pre.length := by omega
   have hrc2 : r < t.com.length := by omega
   have hln := (hrp _ (List.getElem_mem hrl)).1
   have hlc := (hrc _ (List.getElem_mem hrc2)).1
   refine T.pi 34 r (T.pb 35 (decide (0 < (r : Int))) (T.nil (QN.seq (W.meet (β := Unit) (fun gs => [(1, .pointer (some ⟨b1, 0, none⟩)), (2, .bool false), (3, .bool false), (4, .int .i64 n), (5, .int .i64 q), (6, .pointer (some ⟨b7, 0, none⟩)), (7, .slice Ap pl.length cp), (8, .slice Ac cl.length cc), (9, .int .i64 r), (10, .int .i64 (canR t.P t.C q r)), (27, .int .i64 r), (28, .pointer (some ⟨b1, 0, none⟩)), (29, .slice t.A1 t.pre.length t.c1), (30, .int .i64 ((t.pre.length : Nat) : Int)), (31, .bool (decide ((r : Int) < ((t.pre.length : Nat) : Int)))), (34, .int .i64 r), (35, .bool (decide (0 < (r : Int))))]) (fun gs => St w (Hp ++ (Hc ++ [(b7, Obj.cells #[.bool o0, .bool o1] 74 (0, 0)), (b1, Obj.cells t.cs 28 (0, 0))]))) ?_ ?_))))
   ·
    refine W.cd (decide (0 < (r : Int))) (fun h10 => ?_) (fun h10 => ?_)
    ·
     have h10' := of_decide_eq_true h10
     refine W.seq (W.rg od1 (T.pi 10 0 (T.nil (QN.seq (W.seq (W.rg od1 (T.pi 11 1 (T.nil (QN.seq (W.block (W.loop (σ := Nat × Int) (fun gs => gs.1 ≤ 2 ∧ gs.2 = (([1, 2] : List Int).take gs.1).foldl (nxF cl pl q) 0) (fun gs => [(1, .pointer (some ⟨b1, 0, none⟩)), (2, .bool false), (3, .bool false), (4, .int .i64 n), (5, .int .i64 q), (6, .pointer (some ⟨b7, 0, none⟩)), (7, .slice Ap pl.length cp), (8, .slice Ac cl.length cc), (9, .int .i64 r), (10, .int .i64 gs.2), (11, .int .i64 ((gs.1 + 1 : Nat) : Int)), (27, .int .i64 r), (28, .pointer (some ⟨b1, 0, none⟩)), (29, .slice t.A1 t.pre.length t.c1), (30, .int .i64 ((t.pre.length : Nat) : Int)), (31, .bool (decide ((r : Int) < ((t.pre.length : Nat) : Int)))), (34, .int .i64 r), (35, .bool (decide (0 < (r : Int))))]) (fun gs => St w (Hp ++ (Hc ++ [(b7, Obj.cells #[.bool o0, .bool o1] 74 (0, 0)), (b1, Obj.cells t.cs 28 (0, 0))]))) (fun gs => 2 - gs.1) (0, 0) ?_ (by kernel_rfl) (fun w h => h) ?_)))))))))))
     ·
      try dsimp only
      exact ⟨Nat.zero_le _, rfl⟩
     rintro ⟨k, nx⟩ hI_
     obtain ⟨hk, hnx⟩ : k ≤ 2 ∧ nx = (([1, 2] : List Int).take k).foldl (nxF cl pl q) 0 := hI_
     refine W.seq (W.seq (W.rg od2 (T.pi 36 ((k + 1 : Nat) : Int) (T.pb 37 (decide (((k + 1 : Nat) : Int) ≤ 2)) (T.nil (QN.seq (W.cd (decide (((k + 1 : Nat) : Int) ≤ 2)) (fun h11 => ?_) (fun h11 => ?_))))))))
     ·
      have h11' := of_decide_eq_true h11
      refine W.skip (QN.seq (W.seq (W.block (W.seq (W.rg od24 (T.pu 40 (.slice Ac cl.length cc) (T.pi 41 ((k + 1 : Nat) : Int) (T.pi 42 (bits .or .i64 ((k + 1 : Nat) : Int) 4) (T.cp 43 41 #[.slice Ac cl.length cc, .int .i64 (bits .or .i64 ((k + 1 : Nat) : Int) 4)] (.int .i64 (countV cl (bits .or .i64 ((k + 1 : Nat) : Int) 4))) ent41 (fun w hw => rcount_c cl (bits .or .i64 ((k + 1 : Nat) : Int) 4) Ac cc w (by (unfold maxLen; omega)) (Arr.rd (show Arr (St _ (Hp ++ (Hc ++ [(b7, Obj.cells #[.bool o0, .bool o1] 74 (0, 0)), (b1, Obj.cells t.cs 28 (0, 0))]))) Ac cl from (Arr.row hrow2 rfl rfl (Hp ++ [(b7, Obj.cells #[.bool o0, .bool o1] 74 (0, 0)), (b1, Obj.cells t.cs 28 (0, 0))])).weak (fun w h => h.perm ((pm0.append_left Hp).trans (List.perm_append_comm_assoc _ _ _)))) hw)) tv2 (T.pi 44 q (T.pb 45 (decide (q ≤ (countV cl (bits .or .i64 ((k + 1 : Nat) : Int) 4)))) (T.pb 46 (decide (q ≤ (countV cl (bits .or .i64 ((k + 1 : Nat) : Int) 4)))) (T.bk [(7, false), (8, false), (9, false), (10, false)] [(11, false), (12, false), (13, false), (14, false), (15, false), (16, false), (17, false), (18, false), (19, false), (20, false), (21, false), (22, false), (23, false)] 6 true (decide (q ≤ (countV cl (bits .or .i64 ((k + 1 : Nat) : Int) 4)))) 46 50 (.bool (decide (0 < (countV cl ((k + 1 : Nat) : Int))))) (fun hg12 => ?_) ?_)))))))))))))
      ·
       have hg12_ := hg12
       have hg12' := of_decide_eq_true hg12
       refine T.pu 47 (.slice Ac cl.length cc) (T.pi 48 ((k + 1 : Nat) : Int) (T.cp 49 41 #[.slice Ac cl.length cc, .int .i64 ((k + 1 : Nat) : Int)] (.int .i64 (countV cl ((k + 1 : Nat) : Int))) ent41 (fun w hw => rcount_c cl ((k + 1 : Nat) : Int) Ac cc w (by (unfold maxLen; omega)) (Arr.rd (show Arr (St _ (Hp ++ (Hc ++ [(b7, Obj.cells #[.bool o0, .bool o1] 74 (0, 0)), (b1, Obj.cells t.cs 28 (0, 0))]))) Ac cl from (Arr.row hrow2 rfl rfl (Hp ++ [(b7, Obj.cells #[.bool o0, .bool o1] 74 (0, 0)), (b1, Obj.cells t.cs 28 (0, 0))])).weak (fun w h => h.perm ((pm0.append_left Hp).trans (List.perm_append_comm_assoc _ _ _)))) hw)) tv2 (T.pb 50 (decide (0 < (countV cl ((k + 1 : Nat) : Int)))) ?_)))
       exact T.blkEnd (by kernel_rfl) (fun w h => h)
      refine T.an 51 (decide (q ≤ (countV cl (bits .or .i64 ((k + 1 : Nat) : Int) 4)))) (decide (0 < (countV cl ((k + 1 : Nat) : Int)))) (T.pb 52 ((decide (q ≤ (countV cl (bits .or .i64 ((k + 1 : Nat) : Int) 4)))) && (decide (0 < (countV cl ((k + 1 : Nat) : Int))))) (T.bk [(13, false), (14, false), (15, false), (16, false), (17, false), (18, false), (19, false), (20, false), (21, false), (22, false)] [(23, false)] 12 false ((decide (q ≤ (countV cl (bits .or .i64 ((k + 1 : Nat) : Int) 4)))) && (decide (0 < (countV cl ((k + 1 : Nat) : Int))))) 52 62 (.bool ((decide (q ≤ (countV cl 4))) && (decide (0 < (countV pl ((k + 1 : Nat) : Int)))))) (fun hg13 => ?_) ?_))
      ·
       have hg13_ := hg13
       refine T.pu 53 (.slice Ac cl.length cc) (T.cp 54 41 #[.slice Ac cl.length cc, .int .i64 4] (.int .i64 (countV cl 4)) ent41 (fun w hw => rcount_c cl 4 Ac cc w (by (unfold maxLen; omega)) (Arr.rd (show Arr (St _ (Hp ++ (Hc ++ [(b7, Obj.cells #[.bool o0, .bool o1] 74 (0, 0)), (b1, Obj.cells t.cs 28 (0, 0))]))) Ac cl from (Arr.row hrow2 rfl rfl (Hp ++ [(b7, Obj.cells #[.bool o0, .bool o1] 74 (0, 0)), (b1, Obj.cells t.cs 28 (0, 0))])).weak (fun w h => h.perm ((pm0.append_left Hp).trans (List.perm_append_comm_assoc _ _ _)))) hw)) tv2 (T.pi 55 q (T.pb 56 (decide (q ≤ (countV cl 4))) (T.pb 57 (decide (q ≤ (countV cl 4))) (T.bk [(18, false), (19, false), (20, false), (21, false)] [(22, false)] 17 true (decide (q ≤ (countV cl 4))) 57 61 (.bool (decide (0 < (countV pl ((k + 1 : Nat) : Int))))) (fun hg14 => ?_) ?_)))))
       ·
        have hg14_ := hg14
        have hg14' := of_decide_eq_true hg14
        refine T.pu 58 (.slice Ap pl.length cp) (T.pi 59 ((k + 1 : Nat) : Int) (T.cp 60 41 #[.slice Ap pl.length cp, .int .i64 ((k + 1 : Nat) : Int)] (.int .i64 (countV pl ((k + 1 : Nat) : Int))) ent41 (fun w hw => rcount_c pl ((k + 1 : Nat) : Int) Ap cp w (by (unfold maxLen; omega)) (Arr.rd (Arr.row hrow1 rfl rfl _) hw)) tv2 (T.pb 61 (decide (0 < (countV pl ((k + 1 : Nat) : Int)))) ?_)))
        exact T.blkEnd (by kernel_rfl) (fun w h => h)
       refine T.an 62 (decide (q ≤ (countV cl 4))) (decide (0 < (countV pl ((k + 1 : Nat) : Int)))) ?_
       exact T.blkEnd (by kernel_rfl) (fun w h => h)
      refine T.oo 63 ((decide (q ≤ (countV cl (bits .or .i64 ((k + 1 : Nat) : Int) 4)))) && (decide (0 < (countV cl ((k + 1 : Nat) : Int))))) ((decide (q ≤ (countV cl 4))) && (decide (0 < (countV pl ((k + 1 : Nat) : Int))))) (T.nil (QN.seq (W.cd (((decide (q ≤ (countV cl (bits .or .i64 ((k + 1 : Nat) : Int) 4)))) && (decide (0 < (countV cl ((k + 1 : Nat) : Int))))) || ((decide (q ≤ (countV cl 4))) && (decide (0 < (countV pl ((k + 1 : Nat) : Int)))))) (fun h15 => ?_) (fun h15 => ?_))))
      ·
       refine W.rg od4 (T.pi 64 nx (T.pi 65 ((k + 1 : Nat) : Int) (T.pi 66 (bits .or .i64 nx ((k + 1 : Nat) : Int)) (T.pi 10 (bits .or .i64 nx ((k + 1 : Nat) : Int)) (T.nil (QN.blkNormal (QN.seq (W.rg od3 (T.pi 38 ((k + 1 : Nat) : Int) (T.pw 39 (((k + 1 : Nat) : Int) + 1) (T.pi 11 (((k + 1 : Nat) : Int) + 1) (T.nil (QN.back (k + 1, bits .or .i64 nx ((k + 1 : Nat) : Int)) ?_ ?_ (by kernel_rfl) (fun w h => h))))))))))))))
       ·
        try dsimp only
        exact ⟨by omega, nx12_yes (by omega) hnx h15⟩
       · show 2 - _ < 2 - _; omega
      ·
       have h15l := (Bool.or_eq_false_iff.1 h15).1
       have h15r := (Bool.or_eq_false_iff.1 h15).2
       refine W.skip (QN.blkNormal (QN.seq (W.rg od3 (T.pi 38 ((k + 1 : Nat) : Int) (T.pw 39 (((k + 1 : Nat) : Int) + 1) (T.pi 11 (((k + 1 : Nat) : Int) + 1) (T.nil (QN.back (k + 1, nx) ?_ ?_ (by kernel_rfl) (fun w h => h)))))))))
       ·
        try dsimp only
        exact ⟨by omega, nx12_no (by omega) hnx h15⟩
       · show 2 - _ < 2 - _; omega
     ·
      have h11' := of_decide_eq_false h11
      refine W.exit (QN.thenExit (QN.thenExit (QN.blkHit (QN.cast 10 (.int .i64 nx) (.int .i64 (canR t.P t.C q r)) (by kernel_rfl) (int_eq (can_yes hst (by omega) hnx (by omega))) ?_))))
      exact QN.meet () (by kernel_rfl) (fun w h => h)
    ·
     have h10' := of_decide_eq_false h10
     refine W.skip (QN.cast 10 (.int .i64 3) (.int .i64 (canR t.P t.C q r)) (by kernel_rfl) (int_eq (can_no (by omega))) ?_)
     exact QN.meet () (by kernel_rfl) (fun w h => h)
   intro u9
   show QN _ [(1, .pointer (some ⟨b1, 0, none⟩)), (2, .bool false), (3, .bool false), (4, .int .i64 n), (5, .int .i64 q), (6, .pointer (some ⟨b7, 0, none⟩)), (7, .slice Ap pl.length cp), (8, .slice Ac cl.length cc), (9, .int .i64 r), (10, .int .i64 (canR t.P t.C q r)), (27, .int .i64 r), (28, .pointer (some ⟨b1, 0, none⟩)), (29, .slice t.A1 t.pre.length t.c1), (30, .int .i64 ((t.pre.length : Nat) : Int)), (31, .bool (decide ((r : Int) < ((t.pre.length : Nat) : Int)))), (34, .int .i64 r), (35, .bool (decide (0 < (r : Int))))] (St w (Hp ++ (Hc ++ [(b7, Obj.cells #[.bool o0, .bool o1] 74 (0, 0)), (b1, Obj.cells t.cs 28 (0, 0))]))) _ _
   obtain ⟨ca, hca⟩ : ∃ ca : Int, ca = canR t.P t.C q r := ⟨_, rfl⟩
   refine QN.cast 10 (.int .i64 (canR t.P t.C q r)) (.int .i64 ca) (by kernel_rfl) (int_eq hca.symm) (QN.seq (W.seq (W.rg od3 (T.pi 67 n (T.make 68 45 3 8 (n : Int) n (0 : Int) (.int .i64 0) (List.replicate n (0 : Int)) rfl (by kernel_rfl) (fun w => by kernel_rfl) (by kernel_rfl) (by kernel_rfl) (by kernel_rfl) (by kernel_rfl) rfl (by omega) (by omega) (by omega) tv3 (fun b16 => ?_))))))
   have hrl17 : (List.replicate n (0 : Int) : List Int).length = n := List.length_replicate
   refine T.pu 12 (.slice (some ⟨b16, 0, none⟩) ((List.replicate n (0 : Int) : List Int).length) ((List.replicate n (0 : Int) : List Int).length)) (T.nil (QN.seq (W.seq (W.seq (W.rg od1 (T.pi 13 0 (T.nil (QN.seq (W.block (W.loop (σ := Nat × List Int) (fun gs => gs.1 ≤ n ∧ gs.2 = keptP (t.pre[r]'hrl).l ca gs.1) (fun gs => [(1, .pointer (some ⟨b1, 0, none⟩)), (2, .bool false), (3, .bool false), (4, .int .i64 n), (5, .int .i64 q), (6, .pointer (some ⟨b7, 0, none⟩)), (7, .slice Ap pl.length cp), (8, .slice Ac cl.length cc), (9, .int .i64 r), (10, .int .i64 ca), (12, .slice (some ⟨b16, 0, none⟩) (gs.2.length) (gs.2.length)), (13, .int .i64 (gs.1 : Int)), (27, .int .i64 r), (28, .pointer (some ⟨b1, 0, none⟩)), (29, .slice t.A1 t.pre.length t.c1), (30, .int .i64 ((t.pre.length : Nat) : Int)), (31, .bool (decide ((r : Int) < ((t.pre.length : Nat) : Int)))), (34, .int .i64 r), (35, .bool (decide (0 < (r : Int)))), (67, .int .i64 n), (68, .slice (some ⟨b16, 0, none⟩) ((List.replicate n (0 : Int) : List Int).length) ((List.replicate n (0 : Int) : List Int).length))]) (fun gs => St w ((b16, lstB 3 (gs.2 : List Int)) :: (Hp ++ (Hc ++ [(b7, Obj.cells #[.bool o0, .bool o1] 74 (0, 0)), (b1, Obj.cells t.cs 28 (0, 0))])))) (fun gs => n - gs.1) (0, (List.replicate n (0 : Int) : List Int)) ?_ (by kernel_rfl) (fun w h => h) ?_))))))))))
   ·
    try dsimp only
    exact ⟨Nat.zero_le _, by rw [← hln]; exact kept_zero _ _⟩
   rintro ⟨m, now⟩ hI_
   obtain ⟨hm0, hnow⟩ : m ≤ n ∧ now = keptP (t.pre[r]'hrl).l ca m := hI_
   have hnowl : now.length = n := by rw [hnow, keptP_len]; exact hln
   refine W.seq (W.seq (W.rg od3 (T.pi 69 m (T.pi 70 n (T.pb 71 (decide ((m : Int) < (n : Int))) (T.nil (QN.seq (W.cd (decide ((m : Int) < (n : Int))) (fun h18 => ?_) (fun h18 => ?_)))))))))
   ·
    have h18' := of_decide_eq_true h18
    refine W.skip (QN.seq (W.seq (W.block (W.rg od14 (T.pu 74 (.slice (some ⟨b16, 0, none⟩) (now.length) (now.length)) (T.pi 75 m (T.pu 76 (.pointer (some ⟨b1, 0, none⟩)) (T.ld false 77 (.slice t.A1 t.pre.length t.c1) 22 b1 0 (fun w h => St.cellM h (.tail _ (List.mem_append_right _ (List.mem_append_right _ mm1))) (by kernel_rfl)) (T.pi 78 r ?_)))))))))
    obtain ⟨b19, o20, hA21, hr22⟩ := (Rd.arr ht.a1 _) r hrl
    refine T.ix 79 22 45 1 t.A1 t.pre.length t.c1 (r : Int) r b19 o20 hA21 rfl (by omega) (T.ld false 80 (.slice (((t.pre)[r]'hrl).A) (((t.pre)[r]'hrl).l.length) (((t.pre)[r]'hrl).c)) 45 b19 (o20 + r * 1) (fun w h => cell_of_range (hr22 w h) 0 (by kernel_rfl)) (T.pi 81 m ?_))
    have hl27 : m < (((t.pre)[r]'hrl).l).length := by omega
    obtain ⟨b23, o24, hA25, hr26⟩ := (Rd.arr (ht.r1 _ (List.getElem_mem hrl)) _) m hl27
    refine T.ix 82 45 3 1 (((t.pre)[r]'hrl).A) (((t.pre)[r]'hrl).l.length) (((t.pre)[r]'hrl).c) (m : Int) m b23 o24 hA25 rfl (by omega) (T.ld false 83 (.int .i64 ((((t.pre)[r]'hrl).l)[m]'hl27)) 3 b23 (o24 + m * 1) (fun w h => cell_of_range (hr26 w h) 0 (by kernel_rfl)) (T.pi 84 ca (T.pi 85 (bits .and .i64 ((((t.pre)[r]'hrl).l)[m]'hl27) ca) ?_)))
    have hl32 : m < now.length := by omega
    refine T.ix 86 45 3 1 (some ⟨b16, 0, none⟩) (now.length) (now.length) (m : Int) m b16 0 rfl rfl (by omega) (T.setL 3 3 b16 (0 + m * 1) (bits .and .i64 ((((t.pre)[r]'hrl).l)[m]'hl27) ca) (.int .i64 (bits .and .i64 ((((t.pre)[r]'hrl).l)[m]'hl27) ca)) (now : List Int) (now.set m (bits .and .i64 ((((t.pre)[r]'hrl).l)[m]'hl27) ca)) m pm0 hl32 rfl (by kernel_rfl) (Nat.zero_add _) (by kernel_rfl) (by kernel_rfl) (by kernel_rfl) tv2 (T.nil (QN.blkNormal (QN.seq (W.rg od3 (T.pi 72 m (T.pw 73 ((m : Int) + 1) (T.pi 13 ((m : Int) + 1) (T.nil (QN.cast 12 (.slice (some ⟨b16, 0, none⟩) (now.length) (now.length)) (.slice (some ⟨b16, 0, none⟩) ((now.set m (bits .and .i64 ((((t.pre)[r]'hrl).l)[m]'hl27) ca)).length) ((now.set m (bits .and .i64 ((((t.pre)[r]'hrl).l)[m]'hl27) ca)).length)) (by kernel_rfl) (by rw [List.length_set]) (QN.back (m + 1, now.set m (bits .and .i64 ((((t.pre)[r]'hrl).l)[m]'hl27) ca)) ?_ ?_ (by kernel_rfl) (fun w h => h))))))))))))
    ·
     try dsimp only
     exact ⟨by omega, kept_step (by omega) hnow⟩
    · show n - _ < n - _; omega
   ·
    have h18' := of_decide_eq_false h18
    refine W.exit (QN.thenExit (QN.thenExit (QN.blkHit (QN.seq (W.seq (W.rg od1 (T.pi 10 0 (T.nil (QN.seq (W.seq (W.seq (W.rg od1 (T.pi 14 1 (T.nil (QN.seq (W.block ?_))))))))))))))))
    have hnowE : now = plT t.P t.C q r := now_eq hvf hrl (by rw [hnow, hca]; exact kept_fin rfl (by omega))
    refine W.loop (σ := Nat × Int) (fun gs => gs.1 ≤ 2 ∧ gs.2 = (([1, 2] : List Int).take gs.1).foldl (posF now q) 0) (fun gs => [(1, .pointer (some ⟨b1, 0, none⟩)), (2, .bool false), (3, .bool false), (4, .int .i64 n), (5, .int .i64 q), (6, .pointer (some ⟨b7, 0, none⟩)), (7, .slice Ap pl.length cp), (8, .slice Ac cl.length cc), (9, .int .i64 r), (10, .int .i64 gs.2), (12, .slice (some ⟨b16, 0, none⟩) (now.length) (now.length)), (13, .int .i64 m), (14, .int .i64 ((gs.1 + 1 : Nat) : Int)), (27, .int .i64 r), (28, .pointer (some ⟨b1, 0, none⟩)), (29, .slice t.A1 t.pre.length t.c1), (30, .int .i64 ((t.pre.length : Nat) : Int)), (31, .bool (decide ((r : Int) < ((t.pre.length : Nat) : Int)))), (34, .int .i64 r), (35, .bool (decide (0 < (r : Int)))), (67, .int .i64 n), (68, .slice (some ⟨b16, 0, none⟩) ((List.replicate n (0 : Int) : List Int).length) ((List.replicate n (0 : Int) : List Int).length)), (69, .int .i64 m), (70, .int .i64 n), (71, .bool (decide ((m : Int) < (n : Int))))]) (fun gs => St w ((b16, lstB 3 (now : List Int)) :: (Hp ++ (Hc ++ [(b7, Obj.cells #[.bool o0, .bool o1] 74 (0, 0)), (b1, Obj.cells t.cs 28 (0, 0))])))) (fun gs => 2 - gs.1) (0, 0) ?_ (by kernel_rfl) (fun w h => h) ?_
    ·
     try dsimp only
     exact ⟨Nat.zero_le _, rfl⟩
    rintro ⟨k2, po⟩ hI_
    obtain ⟨hk2, hpo⟩ : k2 ≤ 2 ∧ po = (([1, 2] : List Int).take k2).foldl (posF now q) 0 := hI_
    refine W.seq (W.seq (W.rg od2 (T.pi 87 ((k2 + 1 : Nat) : Int) (T.pb 88 (decide (((k2 + 1 : Nat) : Int) ≤ 2)) (T.nil (QN.seq (W.cd (decide (((k2 + 1 : Nat) : Int) ≤ 2)) (fun h33 => ?_) (fun h33 => ?_))))))))
    ·
     have h33' := of_decide_eq_true h33
     refine W.skip (QN.seq (W.seq (W.block (W.seq (W.rg od5 (T.pu 91 (.slice (some ⟨b16, 0, none⟩) (now.length) (now.length)) (T.pi 92 ((k2 + 1 : Nat) : Int) (T.cp 93 41 #[.slice (some ⟨b16, 0, none⟩) (now.length) (now.length), .int .i64 ((k2 + 1 : Nat) : Int)] (.int .i64 (countV now ((k2 + 1 : Nat) : Int))) ent41 (fun w hw => rcount_c now ((k2 + 1 : Nat) : Int) (some ⟨b16, 0, none⟩) (now.length) w (by (unfold maxLen; omega)) (Arr.rd (Arr.ofL (ty := 3) mm0) hw)) tv2 (T.pi 94 q (T.pb 95 (decide (q ≤ (countV now ((k2 + 1 : Nat) : Int)))) (T.nil (QN.seq (W.cd (decide (q ≤ (countV now ((k2 + 1 : Nat) : Int)))) (fun h34 => ?_) (fun h34 => ?_))))))))))))))
     ·
      have h34' := of_decide_eq_true h34
      refine W.rg od4 (T.pi 96 po (T.pi 97 ((k2 + 1 : Nat) : Int) (T.pi 98 (bits .or .i64 po ((k2 + 1 : Nat) : Int)) (T.pi 10 (bits .or .i64 po ((k2 + 1 : Nat) : Int)) (T.nil (QN.blkNormal (QN.seq (W.rg od3 (T.pi 89 ((k2 + 1 : Nat) : Int) (T.pw 90 (((k2 + 1 : Nat) : Int) + 1) (T.pi 14 (((k2 + 1 : Nat) : Int) + 1) (T.nil (QN.back (k2 + 1, bits .or .i64 po ((k2 + 1 : Nat) : Int)) ?_ ?_ (by kernel_rfl) (fun w h => h))))))))))))))
      ·
       try dsimp only
       exact ⟨by omega, po12_yes (by omega) hpo h34⟩
      · show 2 - _ < 2 - _; omega
     ·
      have h34' := of_decide_eq_false h34
      refine W.skip (QN.blkNormal (QN.seq (W.rg od3 (T.pi 89 ((k2 + 1 : Nat) : Int) (T.pw 90 (((k2 + 1 : Nat) : Int) + 1) (T.pi 14 (((k2 + 1 : Nat) : Int) + 1) (T.nil (QN.back (k2 + 1, po) ?_ ?_ (by kernel_rfl) (fun w h => h)))))))))
      ·
       try dsimp only
       exact ⟨by omega, po12_no (by omega) hpo h34⟩
      · show 2 - _ < 2 - _; omega
    ·
     have h33' := of_decide_eq_false h33
     refine W.exit (QN.thenExit (QN.thenExit (QN.blkHit (QN.seq (W.seq (W.seq (W.rg od3 (T.pu 99 (.slice (some ⟨b16, 0, none⟩) (now.length) (now.length)) (T.pi 100 q (T.cp 101 42 #[.slice (some ⟨b16, 0, none⟩) (now.length) (now.length), .int .i64 q] (.bool (bothV now q)) ent42 (fun w hw => rmix_c now q (some ⟨b16, 0, none⟩) (now.length) w (by (unfold maxLen; omega)) (Arr.rd (Arr.ofL (ty := 3) mm0) hw) (by omega)) tv2 (T.nil (QN.seq ?_))))))))))))
     have hpo0 : po = posL now q := by rw [hpo, take_end (l := ([1, 2] : List Int)) (by show 2 ≤ k2; omega)]; rfl
     refine W.meet (β := Unit) (fun gs => [(1, .pointer (some ⟨b1, 0, none⟩)), (2, .bool false), (3, .bool false), (4, .int .i64 n), (5, .int .i64 q), (6, .pointer (some ⟨b7, 0, none⟩)), (7, .slice Ap pl.length cp), (8, .slice Ac cl.length cc), (9, .int .i64 r), (10, .int .i64 (posT t.P t.C q r)), (12, .slice (some ⟨b16, 0, none⟩) (now.length) (now.length)), (13, .int .i64 m), (14, .int .i64 ((k2 + 1 : Nat) : Int)), (27, .int .i64 r), (28, .pointer (some ⟨b1, 0, none⟩)), (29, .slice t.A1 t.pre.length t.c1), (30, .int .i64 ((t.pre.length : Nat) : Int)), (31, .bool (decide ((r : Int) < ((t.pre.length : Nat) : Int)))), (34, .int .i64 r), (35, .bool (decide (0 < (r : Int)))), (67, .int .i64 n), (68, .slice (some ⟨b16, 0, none⟩) ((List.replicate n (0 : Int) : List Int).length) ((List.replicate n (0 : Int) : List Int).length)), (69, .int .i64 m), (70, .int .i64 n), (71, .bool (decide ((m : Int) < (n : Int)))), (87, .int .i64 ((k2 + 1 : Nat) : Int)), (88, .bool (decide (((k2 + 1 : Nat) : Int) ≤ 2))), (99, .slice (some ⟨b16, 0, none⟩) (now.length) (now.length)), (100, .int .i64 q), (101, .bool (bothV now q))]) (fun gs => St w ((b16, lstB 3 (now : List Int)) :: (Hp ++ (Hc ++ [(b7, Obj.cells #[.bool o0, .bool o1] 74 (0, 0)), (b1, Obj.cells t.cs 28 (0, 0))])))) ?_ ?_
     ·
      refine W.cd (bothV now q) (fun h35 => ?_) (fun h35 => ?_)
      ·
       refine W.rg od3 (T.pi 102 po (T.pi 103 (bits .or .i64 po 4) (T.pi 10 (bits .or .i64 po 4) (T.nil (QN.cast 10 (.int .i64 (bits .or .i64 po 4)) (.int .i64 (posT t.P t.C q r)) (by kernel_rfl) (int_eq (by rw [posB_yes hpo0 h35, hnowE]; rfl)) ?_)))))
       exact QN.meet () (by kernel_rfl) (fun w h => h)
      ·
       refine W.skip (QN.cast 10 (.int .i64 po) (.int .i64 (posT t.P t.C q r)) (by kernel_rfl) (int_eq (by rw [posB_no hpo0 h35, hnowE]; rfl)) ?_)
       exact QN.meet () (by kernel_rfl) (fun w h => h)
     intro u9
     show QN _ [(1, .pointer (some ⟨b1, 0, none⟩)), (2, .bool false), (3, .bool false), (4, .int .i64 n), (5, .int .i64 q), (6, .pointer (some ⟨b7, 0, none⟩)), (7, .slice Ap pl.length cp), (8, .slice Ac cl.length cc), (9, .int .i64 r), (10, .int .i64 (posT t.P t.C q r)), (12, .slice (some ⟨b16, 0, none⟩) (now.length) (now.length)), (13, .int .i64 m), (14, .int .i64 ((k2 + 1 : Nat) : Int)), (27, .int .i64 r), (28, .pointer (some ⟨b1, 0, none⟩)), (29, .slice t.A1 t.pre.length t.c1), (30, .int .i64 ((t.pre.length : Nat) : Int)), (31, .bool (decide ((r : Int) < ((t.pre.length : Nat) : Int)))), (34, .int .i64 r), (35, .bool (decide (0 < (r : Int)))), (67, .int .i64 n), (68, .slice (some ⟨b16, 0, none⟩) ((List.replicate n (0 : Int) : List Int).length) ((List.replicate n (0 : Int) : List Int).length)), (69, .int .i64 m), (70, .int .i64 n), (71, .bool (decide ((m : Int) < (n : Int)))), (87, .int .i64 ((k2 + 1 : Nat) : Int)), (88, .bool (decide (((k2 + 1 : Nat) : Int) ≤ 2))), (99, .slice (some ⟨b16, 0, none⟩) (now.length) (now.length)), (100, .int .i64 q), (101, .bool (bothV now q))] (St w ((b16, lstB 3 (now : List Int)) :: (Hp ++ (Hc ++ [(b7, Obj.cells #[.bool o0, .bool o1] 74 (0, 0)), (b1, Obj.cells t.cs 28 (0, 0))])))) _ _
     obtain ⟨cb, hcb⟩ : ∃ cb : Int, cb = posT t.P t.C q r := ⟨_, rfl⟩
     refine QN.cast 10 (.int .i64 (posT t.P t.C q r)) (.int .i64 cb) (by kernel_rfl) (int_eq hcb.symm) (QN.seq (W.seq (W.drawn (Ψ := St w ((b16, lstB 3 (now : List Int)) :: (Hp ++ (Hc ++ [(b7, Obj.cells #[.bool o0, .bool o1] 74 (0, 0)), (b1, Obj.cells t.cs 28 (0, 0))])))) (St w ((b16, lstB 3 (now : List Int)) :: (Hp ++ (Hc ++ [(b7, Obj.cells #[.bool o0, .bool o1] 74 (0, 0)), (b1, Obj.cells t.cs 28 (0, 0))])))) [(0, true), (1, true), (3, true), (2, false), (4, false)] hmx (by kernel_rfl) (NoPanic.then (NoPanic.inBlock (NoPanic.then (NoPanic.then (NoPanic.inBlock (NoPanic.then NoPanic.body)))))) (fun w h => h.drew) (fun w h => h) (T.pu 104 (.slice (some ⟨b16, 0, none⟩) (now.length) (now.length)) (T.pi 105 n (T.pu 7 (.slice (some ⟨b16, 0, none⟩) (now.length) (now.length)) (T.make 106 45 3 8 (n : Int) n (0 : Int) (.int .i64 0) (List.replicate n (0 : Int)) rfl (by kernel_rfl) (fun w => by kernel_rfl) (by kernel_rfl) (by kernel_rfl) (by kernel_rfl) (by kernel_rfl) rfl (by omega) (by omega) (by omega) (fun b36 => (fun w h => (h.perm (pm1.trans ((((pm0.cons _).trans List.perm_middle.symm).trans ((((pm0.cons _).trans List.perm_middle.symm).trans ((pm1.trans (pm1.cons _)).append_left Hc)).append_left Hp)).cons _))).part ((List.Sublist.append (List.Sublist.refl _) (List.Sublist.append (List.Sublist.refl _) ns2)).cons_cons _))) (fun b36 => ?_))))))))
     have hrl37 : (List.replicate n (0 : Int) : List Int).length = n := List.length_replicate
     refine T.pu 8 (.slice (some ⟨b36, 0, none⟩) ((List.replicate n (0 : Int) : List Int).length) ((List.replicate n (0 : Int) : List Int).length)) (T.nil (QN.seq (W.seq (W.seq (W.rg od1 (T.pi 15 0 (T.nil (QN.seq (W.block (W.loop (σ := Nat × List Int) (fun gs => gs.1 ≤ n ∧ gs.2 = keptP (t.com[r]'hrc2).l cb gs.1) (fun gs => [(1, .pointer (some ⟨b1, 0, none⟩)), (2, .bool false), (3, .bool false), (4, .int .i64 n), (5, .int .i64 q), (6, .pointer (some ⟨b7, 0, none⟩)), (7, .slice (some ⟨b16, 0, none⟩) (now.length) (now.length)), (8, .slice (some ⟨b36, 0, none⟩) (gs.2.length) (gs.2.length)), (9, .int .i64 r), (10, .int .i64 cb), (12, .slice (some ⟨b16, 0, none⟩) (now.length) (now.length)), (13, .int .i64 m), (14, .int .i64 ((k2 + 1 : Nat) : Int)), (15, .int .i64 (gs.1 : Int)), (27, .int .i64 r), (28, .pointer (some ⟨b1, 0, none⟩)), (29, .slice t.A1 t.pre.length t.c1), (30, .int .i64 ((t.pre.length : Nat) : Int)), (31, .bool (decide ((r : Int) < ((t.pre.length : Nat) : Int)))), (34, .int .i64 r), (35, .bool (decide (0 < (r : Int)))), (67, .int .i64 n), (68, .slice (some ⟨b16, 0, none⟩) ((List.replicate n (0 : Int) : List Int).length) ((List.replicate n (0 : Int) : List Int).length)), (69, .int .i64 m), (70, .int .i64 n), (71, .bool (decide ((m : Int) < (n : Int)))), (87, .int .i64 ((k2 + 1 : Nat) : Int)), (88, .bool (decide (((k2 + 1 : Nat) : Int) ≤ 2))), (99, .slice (some ⟨b16, 0, none⟩) (now.length) (now.length)), (100, .int .i64 q), (101, .bool (bothV now q)), (104, .slice (some ⟨b16, 0, none⟩) (now.length) (now.length)), (105, .int .i64 n), (106, .slice (some ⟨b36, 0, none⟩) ((List.replicate n (0 : Int) : List Int).length) ((List.replicate n (0 : Int) : List Int).length))]) (fun gs => St w ((b36, lstB 3 (gs.2 : List Int)) :: ((b16, lstB 3 (now : List Int)) :: (Hp ++ (Hc ++ [(b7, Obj.cells #[.bool o0, .bool o1] 74 (0, 0)), (b1, Obj.cells t.cs 28 (0, 0))]))))) (fun gs => n - gs.1) (0, (List.replicate n (0 : Int) : List Int)) ?_ (by kernel_rfl) (fun w h => h) ?_))))))))))
     ·
      try dsimp only
      exact ⟨Nat.zero_le _, by rw [← hlc]; exact kept_zero _ _⟩
     rintro ⟨m2, co⟩ hI_
     obtain ⟨hm20, hco⟩ : m2 ≤ n ∧ co = keptP (t.com[r]'hrc2).l cb m2 := hI_
     have hcol : co.length = n := by rw [hco, keptP_len]; exact hlc
     refine W.seq (W.seq (W.rg od3 (T.pi 107 m2 (T.pi 108 n (T.pb 109 (decide ((m2 : Int) < (n : Int))) (T.nil (QN.seq (W.cd (decide ((m2 : Int) < (n : Int))) (fun h38 => ?_) (fun h38 => ?_)))))))))
     ·
      have h38' := of_decide_eq_true h38
      refine W.skip (QN.seq (W.seq (W.block (W.rg od14 (T.pu 112 (.slice (some ⟨b36, 0, none⟩) (co.length) (co.length)) (T.pi 113 m2 (T.pu 114 (.pointer (some ⟨b1, 1, none⟩)) (T.ld false 115 (.slice t.A2 t.com.length t.c2) 22 b1 1 (fun w h => St.cellM h (.tail _ (.tail _ (List.mem_append_right _ (List.mem_append_right _ mm1)))) (by kernel_rfl)) (T.pi 116 r ?_)))))))))
      obtain ⟨b39, o40, hA41, hr42⟩ := (Rd.arr ht.a2 _) r hrc2
      refine T.ix 117 22 45 1 t.A2 t.com.length t.c2 (r : Int) r b39 o40 hA41 rfl (by omega) (T.ld false 118 (.slice (((t.com)[r]'hrc2).A) (((t.com)[r]'hrc2).l.length) (((t.com)[r]'hrc2).c)) 45 b39 (o40 + r * 1) (fun w h => cell_of_range (hr42 w h) 0 (by kernel_rfl)) (T.pi 119 m2 ?_))
      have hl47 : m2 < (((t.com)[r]'hrc2).l).length := by omega
      obtain ⟨b43, o44, hA45, hr46⟩ := (Rd.arr (ht.r2 _ (List.getElem_mem hrc2)) _) m2 hl47
      refine T.ix 120 45 3 1 (((t.com)[r]'hrc2).A) (((t.com)[r]'hrc2).l.length) (((t.com)[r]'hrc2).c) (m2 : Int) m2 b43 o44 hA45 rfl (by omega) (T.ld false 121 (.int .i64 ((((t.com)[r]'hrc2).l)[m2]'hl47)) 3 b43 (o44 + m2 * 1) (fun w h => cell_of_range (hr46 w h) 0 (by kernel_rfl)) (T.pi 122 cb (T.pi 123 (bits .and .i64 ((((t.com)[r]'hrc2).l)[m2]'hl47) cb) ?_)))
      have hl52 : m2 < co.length := by omega
      refine T.ix 124 45 3 1 (some ⟨b36, 0, none⟩) (co.length) (co.length) (m2 : Int) m2 b36 0 rfl rfl (by omega) (T.setL 3 3 b36 (0 + m2 * 1) (bits .and .i64 ((((t.com)[r]'hrc2).l)[m2]'hl47) cb) (.int .i64 (bits .and .i64 ((((t.com)[r]'hrc2).l)[m2]'hl47) cb)) (co : List Int) (co.set m2 (bits .and .i64 ((((t.com)[r]'hrc2).l)[m2]'hl47) cb)) m2 pm0 hl52 rfl (by kernel_rfl) (Nat.zero_add _) (by kernel_rfl) (by kernel_rfl) (by kernel_rfl) tv2 (T.nil (QN.blkNormal (QN.seq (W.rg od3 (T.pi 110 m2 (T.pw 111 ((m2 : Int) + 1) (T.pi 15 ((m2 : Int) + 1) (T.nil (QN.cast 8 (.slice (some ⟨b36, 0, none⟩) (co.length) (co.length)) (.slice (some ⟨b36, 0, none⟩) ((co.set m2 (bits .and .i64 ((((t.com)[r]'hrc2).l)[m2]'hl47) cb)).length) ((co.set m2 (bits .and .i64 ((((t.com)[r]'hrc2).l)[m2]'hl47) cb)).length)) (by kernel_rfl) (by rw [List.length_set]) (QN.back (m2 + 1, co.set m2 (bits .and .i64 ((((t.com)[r]'hrc2).l)[m2]'hl47) cb)) ?_ ?_ (by kernel_rfl) (fun w h => h))))))))))))
      ·
       try dsimp only
       exact ⟨by omega, kept_step (by omega) hco⟩
      · show n - _ < n - _; omega
     ·
      have h38' := of_decide_eq_false h38
      refine W.exit (QN.thenExit (QN.thenExit (QN.blkHit (QN.seq (W.seq (W.rg od10 ?_))))))
      have hcomE : co = comT t.P t.C q r := by rw [hco, hcb]; unfold comT; rw [C_at hrc2]; exact kept_fin rfl (by omega)
      refine T.pu 125 (.pointer (some ⟨b7, 0, none⟩)) (T.ld false 126 (.bool o0) 4 b7 0 (fun w h => St.cellM h (.tail _ (.tail _ (List.mem_append_right _ (List.mem_append_right _ mm0)))) (by kernel_rfl)) (T.pb 127 o0 (T.bk [(3, false), (4, false), (5, false), (6, false)] [(7, false), (8, false), (9, false)] 2 false o0 127 131 (.bool (decide (q ≤ (countV co 1)))) (fun hg53 => ?_) ?_)))
      ·
       have hg53_ := hg53
       refine T.pu 128 (.slice (some ⟨b36, 0, none⟩) (co.length) (co.length)) (T.cp 129 41 #[.slice (some ⟨b36, 0, none⟩) (co.length) (co.length), .int .i64 1] (.int .i64 (countV co 1)) ent41 (fun w hw => rcount_c co 1 (some ⟨b36, 0, none⟩) (co.length) w (by (unfold maxLen; omega)) (Arr.rd (Arr.ofL (ty := 3) mm0) hw)) tv2 (T.pi 130 q (T.pb 131 (decide (q ≤ (countV co 1))) ?_)))
       exact T.blkEnd (by kernel_rfl) (fun w h => h)
      refine T.oo 132 o0 (decide (q ≤ (countV co 1))) (T.pu 133 (.pointer (some ⟨b7, 0, none⟩)) (T.sp 4 b7 0 (.bool (o0 || (decide (q ≤ (countV co 1))))) #[.bool o0, .bool o1] #[.bool (o0 || (decide (q ≤ (countV co 1)))), .bool o1] 74 ((((((((pm0.append_left Hc).trans List.perm_middle).append_left Hp).trans List.perm_middle).cons _).trans (List.Perm.swap _ _ _)).cons _).trans (List.Perm.swap _ _ _)) tv2 (T.nil (QN.seq (W.rg od10 (T.pu 134 (.pointer (some ⟨b7, 1, none⟩)) (T.ld false 135 (.bool o1) 4 b7 1 (fun w h => St.cellM h mm0 (by kernel_rfl)) (T.pb 136 o1 (T.bk [(3, false), (4, false), (5, false), (6, false)] [(7, false), (8, false), (9, false)] 2 false o1 136 140 (.bool (decide (q ≤ (countV co 2)))) (fun hg54 => ?_) ?_)))))))))
      ·
       have hg54_ := hg54
       refine T.pu 137 (.slice (some ⟨b36, 0, none⟩) (co.length) (co.length)) (T.cp 138 41 #[.slice (some ⟨b36, 0, none⟩) (co.length) (co.length), .int .i64 2] (.int .i64 (countV co 2)) ent41 (fun w hw => rcount_c co 2 (some ⟨b36, 0, none⟩) (co.length) w (by (unfold maxLen; omega)) (Arr.rd (Arr.ofL (ty := 3) mm1) hw)) tv2 (T.pi 139 q (T.pb 140 (decide (q ≤ (countV co 2))) ?_)))
       exact T.blkEnd (by kernel_rfl) (fun w h => h)
      refine T.oo 141 o1 (decide (q ≤ (countV co 2))) (T.pu 142 (.pointer (some ⟨b7, 1, none⟩)) (T.sp 4 b7 1 (.bool (o1 || (decide (q ≤ (countV co 2))))) #[.bool (o0 || (decide (q ≤ (countV co 1)))), .bool o1] #[.bool (o0 || (decide (q ≤ (countV co 1)))), .bool (o1 || (decide (q ≤ (countV co 2))))] 74 pm0 tv2 (T.nil (QN.blkNormal (QN.seq (W.rg od3 (T.pi 32 r (T.pw 33 ((r : Int) + 1) (T.pi 9 ((r : Int) + 1) (T.nil (QN.back (r + 1, now, some ⟨b16, 0, none⟩, now.length, [(b16, lstB 3 (now : List Int))], co, some ⟨b36, 0, none⟩, co.length, [(b36, lstB 3 (co : List Int))], o0 || (decide (q ≤ (countV co 1))), o1 || (decide (q ≤ (countV co 2)))) ?_ ?_ (by kernel_rfl) (fun u h => (show St w ([(b16, lstB 3 (now : List Int))] ++ ([(b36, lstB 3 (co : List Int))] ++ [(b7, Obj.cells #[.bool (o0 || (decide (q ≤ (countV co 1)))), .bool (o1 || (decide (q ≤ (countV co 2))))] 74 (0, 0)), (b1, Obj.cells t.cs 28 (0, 0))])) u from ((h.perm (pm2.trans ((pm1.trans ((pm0.trans (((((pm0.append_left Hc).trans List.perm_middle).append_left Hp).trans List.perm_middle).cons _)).cons _)).cons _))).part ns4))))))))))))))
      ·
       try dsimp only
       exact ⟨by omega, .inr ⟨by omega, hnowE, hcomE⟩, rng_any ho0 hcomE, rng_any ho1 hcomE, by rw [hnowE]; exact Nat.le_of_eq (plT_rows hvf r (by omega)).1, by rw [hcomE]; exact Nat.le_of_eq (comT_rows hvf r (by omega)).1, RowIs.ofL _ rfl (by unfold maxLen; omega), RowIs.ofL _ rfl (by unfold maxLen; omega)⟩
      · show t.pre.length - _ < t.pre.length - _; omega
  ·
   have h8' := of_decide_eq_false h8
   refine W.exit (QN.thenExit (QN.thenExit (QN.blkHit (QN.seq (W.seq (W.drawn (Ψ := St w (Hp ++ (Hc ++ [(b7, Obj.cells #[.bool o0, .bool o1] 74 (0, 0)), (b1, Obj.cells t.cs 28 (0, 0))]))) (St w (Hp ++ (Hc ++ [(b7, Obj.cells #[.bool o0, .bool o1] 74 (0, 0)), (b1, Obj.cells t.cs 28 (0, 0))]))) [(0, true), (1, true), (2, true), (3, true), (4, false), (5, false)] hmx (by kernel_rfl) (NoPanic.then NoPanic.body) (fun w h => h.drew) (fun w h => h) (T.pu 143 (.pointer (some ⟨b7, 0, none⟩)) (T.ld true 144 (.bool o0) 4 b7 0 (fun w h => St.cellM h (List.mem_append_right _ (List.mem_append_right _ mm0)) (by kernel_rfl)) (T.pu 145 (.pointer (some ⟨b7, 1, none⟩)) (T.ld true 146 (.bool o1) 4 b7 1 (fun w h => St.cellM h (List.mem_append_right _ (List.mem_append_right _ mm0)) (by kernel_rfl)) (T.pb 2 o0 (T.pb 3 o1 (T.nil (QN.seq (W.ret (QN.done2 (.inl rfl) 2 3 (.bool o0) (.bool o1) rfl (by kernel_rfl) (by kernel_rfl) (fun w hw => ?_)))))))))))))))))
   exact ⟨by rw [rdec_yes hvv hp0 hn0 hq (by omega) ho0 ho1], hw.below⟩
end Go.Proofs.Ytphnfhonmbbddaa
