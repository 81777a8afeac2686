/- agreement: the voter's methods. -/
import Derived.Test.YtnjkbgcfpbbglaaGreatAgP
import Derived.Test.YtnjkbgcfpbbglaaGreatOt
namespace Go.Proofs.YtnjkbgcfpbbglaaGreat
open Go Go.RowKit
set_option linter.unusedVariables false

theorem rem_int {x y : Int} (h0 : 0 ≤ x) : Value.int .i64 (x.tmod y) = .int .i64 (x % y) := by rw [Int.tmod_eq_emod_of_nonneg h0]
/-- The voter in memory. -/
structure VtrAt (w : World) (q bm : Nat) (V : Vtr) (A : Option Addr) (c : Nat) : Prop where
  blk : w.heap[q]? = some (.cells (vtrCs V.m V.q V.s V.z V.p (.slice A V.all.length c) (.map (some bm))) 92 (0, 0))
  map : w.heap[bm]? = some (mapOf (ownMp V.z V.own))
  rd : Rd w A V.all
theorem VtrAt.below {w w' : World} {q bm : Nat} {V : Vtr} {A : Option Addr} {c : Nat} (h : VtrAt w q bm V A c) (hb : Below w.heap.size w w') : VtrAt w' q bm V A c :=
  ⟨(hb.block q (Array.getElem?_eq_some_iff.1 h.blk).1).trans h.blk, (hb.block bm (Array.getElem?_eq_some_iff.1 h.map).1).trans h.map, h.rd.below hb⟩
structure VtrOk (V : Vtr) : Prop where
  len : V.all.length ≤ 1000
  sg : ∀ v ∈ V.all, 0 ≤ v.signer ∧ v.signer < 10
  q0 : 0 ≤ V.q ∧ V.q ≤ 10
  wm : W64 V.m
  own : ∀ u ∈ V.own, W64 u.support
  ownl : V.own.length ≤ 1000
structure FitW (P : Program) (w : World) (kf : Nat) (lb : Array Value) (F : Vt → Bool) : Prop where
  ent : Enters P kf
  fits : ∀ (v : Vt) (w' : World), Below w.heap.size w w' → Ret P kf (#[.agg v.cs] ++ lb) w' (.bool (F v))
theorem vll_ne {x y : Vl} (h : (x.ch != y.ch) = true) : decide (x.ch < y.ch) = vlless x y := by
  have : x.ch ≠ y.ch := by simpa using h
  rw [vlless, keyV, keyV, lexLt_ne this]
theorem vll_eq {x y : Vl} (h : (x.ch != y.ch) = false) : hless x.nm y.nm = vlless x y := by
  have : x.ch = y.ch := by simpa using h
  rw [vlless, keyV, keyV, this, lexLt_eq]
  by_cases h3 : (x.nm.num : Int) = (y.nm.num : Int)
  · rw [h3, lexLt_eq]; simp [hless, lexLt, h3]
  · rw [lexLt_ne h3]; rfl
set_option maxRecDepth 100000 in
set_option maxHeartbeats 2000000 in
theorem of_c (v : Vt) (w : World) : Calls Tryz.prog 125 #[.agg v.cs] w (fun rr w' => rr = .returned (.agg (vlOf v).cs) ∧ Below w.heap.size w w') := by
 refine calls_W (n := 8) Tryz.func125 rfl [(0, .agg v.cs)] rfl ⟨by kernel_rfl, by kernel_rfl⟩ (W.weak (Ψ := St w []) (fun w' h => by rw [h]; exact St.start w) (W.seq (W.rg od2 (T.bx 1 47 (.agg v.cs) (v.cs) tv3 (fun b1 => T.al 2 133 Vl.zero.cs tv3 (fun b2 => T.nil (QN.seq (W.seq (W.rg od6 (T.pu 3 (.pointer (some ⟨b1, 3, none⟩)) (T.ld false 4 (.int .i64 v.choice) 3 b1 3 (fun w h => St.cellM h mm1 (by kernel_rfl)) (T.pu 5 (.pointer (some ⟨b1, 14, none⟩)) (T.lr false 6 v.val.cs 24 b1 14 (fun w h => St.rangeM h v.val.cs mm1 (by kernel_rfl)) (T.pu 7 (.agg (⟨v.choice, v.val⟩ : Vl).cs) (T.sp 133 b2 0 (.agg (⟨v.choice, v.val⟩ : Vl).cs) Vl.zero.cs (⟨v.choice, v.val⟩ : Vl).cs 133 pm0 tv2 (T.nil (QN.seq (W.ret (QN.doneC (.inl rfl) 2 133 b2 (⟨v.choice, v.val⟩ : Vl).cs _ rfl (by kernel_rfl) Tryz.underlying133 (by kernel_rfl) (by kernel_rfl) (fun w hw => St.rangeM hw (⟨v.choice, v.val⟩ : Vl).cs mm0 (by kernel_rfl)) (fun w hw => ⟨?_, hw.below⟩))))))))))))))))))))
 exact rfl
set_option maxRecDepth 100000 in
set_option maxHeartbeats 2000000 in
theorem vlless_c (x y : Vl) (w : World) : Calls Tryz.prog 179 #[.agg x.cs, .agg y.cs] w (fun rr w' => rr = .returned (.bool (vlless x y)) ∧ Below w.heap.size w w') := by
 refine calls_W (n := 20) Tryz.func179 rfl [(0, .agg x.cs), (1, .agg y.cs)] rfl ⟨by kernel_rfl, by kernel_rfl⟩ (W.weak (Ψ := St w []) (fun w' h => by rw [h]; exact St.start w) (W.seq (W.rg od3 (T.bx 2 133 (.agg x.cs) (x.cs) tv3 (fun b1 => T.bx 3 133 (.agg y.cs) (y.cs) tv3 (fun b2 => T.pb 4 false (T.nil (QN.seq (W.seq (W.seq (W.rg od5 (T.pu 5 (.pointer (some ⟨b1, 0, none⟩)) (T.ld false 6 (.int .i64 x.ch) 3 b1 0 (fun w h => St.cellM h mm1 (by kernel_rfl)) (T.pu 7 (.pointer (some ⟨b2, 0, none⟩)) (T.ld false 8 (.int .i64 y.ch) 3 b2 0 (fun w h => St.cellM h mm0 (by kernel_rfl)) (T.pb 9 (x.ch != y.ch) (T.nil (QN.seq (W.cd (x.ch != y.ch) (fun h3 => ?_) (fun h3 => ?_))))))))))))))))))))
 ·
  refine W.seq (W.rg od6 (T.pu 10 (.pointer (some ⟨b1, 0, none⟩)) (T.ld false 11 (.int .i64 x.ch) 3 b1 0 (fun w h => St.cellM h mm1 (by kernel_rfl)) (T.pu 12 (.pointer (some ⟨b2, 0, none⟩)) (T.ld false 13 (.int .i64 y.ch) 3 b2 0 (fun w h => St.cellM h mm0 (by kernel_rfl)) (T.pb 14 (decide (x.ch < y.ch)) (T.pb 4 (decide (x.ch < y.ch)) (T.nil (QN.seq (W.ret (QN.thenRet (QN.done (.inl rfl) 4 (.bool (decide (x.ch < y.ch))) rfl (by kernel_rfl) (fun w hw => ⟨?_, hw.below⟩)))))))))))))
  exact ret_bool (vll_ne h3)
 ·
  refine W.skip (QN.seq (W.seq (W.rg od6 (T.pu 15 (.pointer (some ⟨b1, 1, none⟩)) (T.lr false 16 x.nm.cs 24 b1 1 (fun w h => St.rangeM h x.nm.cs mm1 (by kernel_rfl)) (T.pu 17 (.pointer (some ⟨b2, 1, none⟩)) (T.lr false 18 y.nm.cs 24 b2 1 (fun w h => St.rangeM h y.nm.cs mm0 (by kernel_rfl)) (T.cp 19 93 #[.agg x.nm.cs, .agg y.nm.cs] (.bool (hless x.nm y.nm)) ent93 (fun w hw => hless_c x.nm y.nm w) tv2 (T.pb 4 (hless x.nm y.nm) (T.nil (QN.seq (W.ret (QN.done (.inl rfl) 4 (.bool (hless x.nm y.nm)) rfl (by kernel_rfl) (fun w hw => ⟨?_, hw.below⟩))))))))))))))
  exact ret_bool (vll_eq h3)
set_option maxRecDepth 100000 in
set_option maxHeartbeats 2000000 in
theorem vll_c (d : List Vl) (A : Option Addr) (c q5 i j : Nat) (w : World) (hi : i < d.length) (hj : j < d.length) (hd : d.length ≤ 1000) (hr : Rd w A d) (hb : w.cell? ⟨q5, 0, none⟩ = some (.slice A d.length c)) (hbl : q5 < w.heap.size) : Calls Tryz.prog 178 #[.int .i64 i, .int .i64 j, .pointer (some ⟨q5, 0, none⟩)] w (fun rr w' => rr = .returned (.bool (vlless d[i] d[j])) ∧ Below w.heap.size w w') := by
 refine calls_W (n := 15) Tryz.func178 rfl [(0, .int .i64 i), (1, .int .i64 j), (2, .pointer (some ⟨q5, 0, none⟩))] rfl ⟨by kernel_rfl, by kernel_rfl⟩ (W.weak (Ψ := St w []) (fun w' h => by rw [h]; exact St.start w) (W.seq (W.rg od1 (T.pb 5 false (T.nil (QN.seq (W.seq (W.drawn (Ψ := St w []) (St w []) [(0, true), (1, true), (2, true), (3, true), (4, true), (5, true), (6, true), (7, true), (8, false), (9, false)] hmx (by kernel_rfl) (NoPanic.then NoPanic.body) (fun w h => h.drew) (fun w h => h) (T.ld true 6 (.slice A d.length c) 134 q5 0 (fun w h => (h.below.cell (p := ⟨q5, 0, none⟩) hbl).trans hb) (T.pi 7 i ?_))))))))))
 have hl5 : i < d.length := by omega
 obtain ⟨b1, o2, hA3, hr4⟩ := (Rd.arr hr _) i hl5
 refine T.ix 8 134 133 9 A d.length c (i : Int) i b1 o2 hA3 rfl (by omega) (T.lr true 9 (d[i]'hl5).cs 133 b1 (o2 + i * 9) hr4 (T.ld true 10 (.slice A d.length c) 134 q5 0 (fun w h => (h.below.cell (p := ⟨q5, 0, none⟩) hbl).trans hb) (T.pi 11 j ?_)))
 have hl10 : j < d.length := by omega
 obtain ⟨b6, o7, hA8, hr9⟩ := (Rd.arr hr _) j hl10
 refine T.ix 12 134 133 9 A d.length c (j : Int) j b6 o7 hA8 rfl (by omega) (T.lr true 13 (d[j]'hl10).cs 133 b6 (o7 + j * 9) hr9 (T.cp 14 179 #[.agg (d[i]'hl5).cs, .agg (d[j]'hl10).cs] (.bool (vlless (d[i]'hl5) (d[j]'hl10))) ent179 (fun w hw => vlless_c _ _ w) (fun w h => h) (T.pb 5 (vlless (d[i]'hl5) (d[j]'hl10)) (T.nil (QN.seq (W.ret (QN.done (.inl rfl) 5 (.bool (vlless (d[i]'hl5) (d[j]'hl10))) rfl (by kernel_rfl) (fun w hw => ⟨?_, hw.below⟩))))))))
 exact rfl
theorem vl_less {all : List Vl} {A : Option Addr} {c q5 : Nat} {H0 : List (Nat × Obj)} (hmem : (q5, .cells #[.slice A all.length c] 134 (0, 0)) ∈ H0) (hle : all.length ≤ 1000) (d : List Vl) (w : World) (i j : Nat) (hi : i < d.length) (hj : j < d.length) (hd : d.length = all.length) (hr : Rd w A d) (hH : ∀ p ∈ H0, w.heap[p.1]? = some p.2) :
    Ret Tryz.prog 178 (#[.int .i64 (i : Int), .int .i64 (j : Int)] ++ #[.pointer (some ⟨q5, 0, none⟩)]) w (.bool (vlless d[i] d[j])) := by
  have h1 := hH _ hmem
  simp only at h1
  refine vll_c d A c q5 i j w hi hj (by omega) hr ?_ (Array.getElem?_eq_some_iff.1 h1).1
  rw [hd]
  simp [World.cell?, h1]
noncomputable def slT : TypeInfo := (Tryz.prog.info? 134).get (by kernel_rfl)
noncomputable def slE : TypeInfo := (Tryz.prog.info? 133).get (by kernel_rfl)
theorem slK (n : Nat) (h2 : 2 ≤ n) : Lib.swapperK n slE 25 = 9 := by
  have a : slE.hasPointers = false := by kernel_rfl
  have b : slE.bytes = 16 := by kernel_rfl
  have c : (n == 0) = false := by simp; omega
  have d : (n == 1) = false := by simp; omega
  simp [Lib.swapperK, a, b, c, d]
theorem sortVl : SortTy 134 133 (Cel.sz Vl) := ⟨slT, slE, 25, by kernel_rfl, by kernel_rfl, by kernel_rfl, by kernel_rfl, fun _ => by kernel_rfl, by kernel_rfl, fun _ => by kernel_rfl, .inl slK⟩
theorem vl_bk {k r : Int} {a : List Vt} {j : Nat} {mp : List (Vl × Int)} (hk : j < a.length) (h : mp = vlMp (a.take j) k r) : vlStep k r mp a[j] = vlMp (a.take (j + 1)) k r := by
  rw [List.take_succ_eq_append_getElem hk, vlMp_snoc, h]
theorem vl_yes {k r : Int} {v : Vt} {mp : List (Vl × Int)} (h : (((v.kind == k) && (v.round == r)) && (v.choice != 2)) = true) : vlStep k r mp v = upd mp (vlOf v) 1 := by
  have hb : vlP k r v = true := h
  unfold vlStep; rw [hb]; rfl
theorem vl_no {k r : Int} {v : Vt} {mp : List (Vl × Int)} (h : (((v.kind == k) && (v.round == r)) && (v.choice != 2)) = false) : vlStep k r mp v = mp := by
  have hb : vlP k r v = false := h
  unfold vlStep; rw [hb]; rfl
theorem vl_fin {a : List Vt} {k r : Int} {mp : List (Vl × Int)} {out so : List Vl} {sn : Array Nat} (hmp : mp = vlMp a k r) (hsn : Seen mp sn) (hall : ∀ k, k < mp.length → sn.contains k = true) (ho : out = pickB (fun _ => true) mp sn) (hp : so.Perm out) (ha : Asc vlless so) : so = valsL a k r := by
  subst hmp
  have h1 : so.Perm (valsL a k r) := by
    refine (hp.trans ?_).trans (isort_perm vlless _).symm
    rw [ho]
    have := pickB_all (g := fun _ => true) hsn hall
    rwa [List.filter_eq_self.2 (fun _ _ => rfl)] at this
  exact up_ext (asc_up ha) (swo_up vlless_swo _) h1 (fun x hx y hy => vlless_tot)
set_option maxRecDepth 100000 in
set_option maxHeartbeats 2000000 in
theorem signed_c (q bm : Nat) (V : Vtr) (A7 : Option Addr) (c7 : Nat) (k r : Int) (w : World) (hV : VtrAt w q bm V A7 c7) : Calls Tryz.prog 119 #[.pointer (some ⟨q, 0, none⟩), .int .i64 k, .int .i64 r] w (fun rr w' => rr = .returned (.bool (V.sg k r)) ∧ Below w.heap.size w w') := by
 refine calls_W (n := 16) Tryz.func119 rfl [(0, .pointer (some ⟨q, 0, none⟩)), (1, .int .i64 k), (2, .int .i64 r)] rfl ⟨by kernel_rfl, by kernel_rfl⟩ (W.weak (Ψ := St w []) (fun w' h => by rw [h]; exact St.start w) (W.seq (W.rg od1 (T.pb 6 false (T.nil (QN.seq (W.seq (W.rg od10 (T.pu 7 (.pointer (some ⟨q, 0, none⟩)) (T.pu 8 (.pointer (some ⟨q, 0, none⟩)) (T.pu 9 (.pointer (some ⟨q, 13, none⟩)) (T.ld false 10 (.map (some bm)) 90 q 13 (fun w h => St.extCell h hV.blk (by kernel_rfl)) (T.pi 11 k (T.pi 12 r (T.pu 13 (.agg (⟨k, r⟩ : P2).cs) (T.mapLookB 14 90 93 3 keyP2 (⟨k, r⟩ : P2) (ownMp V.z V.own) bm hV.map (by kernel_rfl) (fun w => by kernel_rfl) (by kernel_rfl) (fun w => by kernel_rfl) (T.pb 15 (decide (0 < (valOf (ownMp V.z V.own) (⟨k, r⟩ : P2)))) (T.pb 6 (decide (0 < (valOf (ownMp V.z V.own) (⟨k, r⟩ : P2)))) (T.nil (QN.seq (W.ret (QN.done (.inl rfl) 6 (.bool (decide (0 < (valOf (ownMp V.z V.own) (⟨k, r⟩ : P2))))) rfl (by kernel_rfl) (fun w hw => ⟨?_, hw.below⟩)))))))))))))))))))))))
 exact rfl
set_option maxRecDepth 100000 in
set_option maxHeartbeats 2000000 in
theorem vote_c (q bm : Nat) (V : Vtr) (A7 : Option Addr) (c7 : Nat) (k r : Int) (x : Vl) (t : Int) (w : World) (hV : VtrAt w q bm V A7 c7) : Calls Tryz.prog 120 #[.pointer (some ⟨q, 0, none⟩), .int .i64 k, .int .i64 r, .agg x.cs, .int .i64 t] w (fun rr w' => rr = .returned (.tuple #[.agg (V.mk' k r x t).cs, .bool true]) ∧ Below w.heap.size w w') := by
 refine calls_W (n := 32) Tryz.func120 rfl [(0, .pointer (some ⟨q, 0, none⟩)), (1, .int .i64 k), (2, .int .i64 r), (3, .agg x.cs), (4, .int .i64 t)] rfl ⟨by kernel_rfl, by kernel_rfl⟩ (W.weak (Ψ := St w []) (fun w' h => by rw [h]; exact St.start w) (W.seq (W.rg od3 (T.bx 8 133 (.agg x.cs) (x.cs) tv3 (fun b1 => T.al 10 47 Vt.zero.cs tv3 (fun b2 => T.pb 11 false (T.nil (QN.seq (W.seq (W.drawn (Ψ := St w [(b2, Obj.cells Vt.zero.cs 47 (0, 0)), (b1, Obj.cells x.cs 133 (0, 0))]) (St w [(b1, Obj.cells x.cs 133 (0, 0))]) [(0, true), (1, true), (2, true), (3, true), (4, true), (5, true), (6, true), (7, true), (8, true), (9, true), (10, true), (11, true), (12, true), (13, true), (14, true), (15, true), (16, true), (17, true), (18, true), (19, true), (20, false), (21, false)] hmx (by kernel_rfl) (NoPanic.then NoPanic.body) (fun w h => h.drew) (fun w h => (h.perm pm1).part ns1) (T.pi 12 k (T.pu 13 (.pointer (some ⟨q, 0, none⟩)) (T.pu 14 (.pointer (some ⟨q, 0, none⟩)) (T.pu 15 (.pointer (some ⟨q, 2, none⟩)) (T.ld true 16 (.int .i64 V.s) 3 q 2 (fun w h => St.extCell h hV.blk (by kernel_rfl)) (T.pi 17 r (T.pu 18 (.pointer (some ⟨b1, 0, none⟩)) (T.ld true 19 (.int .i64 x.ch) 3 b1 0 (fun w h => St.cellM h mm0 (by kernel_rfl)) (T.pu 20 (.pointer (some ⟨q, 0, none⟩)) (T.pu 21 (.pointer (some ⟨q, 0, none⟩)) (T.pu 22 (.pointer (some ⟨q, 3, none⟩)) (T.ld true 23 (.int .i64 V.z) 3 q 3 (fun w h => St.extCell h hV.blk (by kernel_rfl)) (T.pi 24 t (T.pu 25 (.pointer (some ⟨q, 0, none⟩)) (T.pu 26 (.pointer (some ⟨q, 0, none⟩)) (T.pu 27 (.pointer (some ⟨q, 4, none⟩)) (T.lr true 28 V.p.cs 24 q 4 (fun w h => St.extRange h V.p.cs hV.blk (by kernel_rfl)) (T.pu 29 (.pointer (some ⟨b1, 1, none⟩)) (T.lr true 30 x.nm.cs 24 b1 1 (fun w h => St.rangeM h x.nm.cs mm0 (by kernel_rfl)) (T.pu 31 (.agg (⟨k, V.s, r, x.ch, V.z, t, V.p, x.nm⟩ : Vt).cs) (T.sp 47 b2 0 (.agg (⟨k, V.s, r, x.ch, V.z, t, V.p, x.nm⟩ : Vt).cs) Vt.zero.cs (⟨k, V.s, r, x.ch, V.z, t, V.p, x.nm⟩ : Vt).cs 47 pm0 (fun w h => (h.perm pm1).part ns1) (T.pb 11 true (T.nil (QN.seq (W.ret (QN.doneC2 (.inl rfl) 10 11 47 b2 (⟨k, V.s, r, x.ch, V.z, t, V.p, x.nm⟩ : Vt).cs (.bool true) _ rfl (by kernel_rfl) (by kernel_rfl) Tryz.underlying47 (by kernel_rfl) (by kernel_rfl) (fun w hw => St.rangeM hw (⟨k, V.s, r, x.ch, V.z, t, V.p, x.nm⟩ : Vt).cs mm0 (by kernel_rfl)) (fun w hw => ⟨?_, hw.below⟩)))))))))))))))))))))))))))))))))))))
 exact rfl
set_option maxRecDepth 100000 in
set_option maxHeartbeats 2000000 in
theorem enough_c (q bm : Nat) (V : Vtr) (A7 : Option Addr) (c7 : Nat) (x : Int) (w : World) (hV : VtrAt w q bm V A7 c7) : Calls Tryz.prog 126 #[.pointer (some ⟨q, 0, none⟩), .int .i64 x] w (fun rr w' => rr = .returned (.bool (enB V x)) ∧ Below w.heap.size w w') := by
 have hz := size_le x
 refine calls_W (n := 12) Tryz.func126 rfl [(0, .pointer (some ⟨q, 0, none⟩)), (1, .int .i64 x)] rfl ⟨by kernel_rfl, by kernel_rfl⟩ (W.weak (Ψ := St w []) (fun w' h => by rw [h]; exact St.start w) (W.seq (W.rg od1 (T.pb 4 false (T.nil (QN.seq (W.seq (W.drawn (Ψ := St w []) (St w []) [(0, true), (2, true), (3, true), (4, true), (5, true), (1, false), (6, true), (7, false)] hmx (by kernel_rfl) (NoPanic.then NoPanic.body) (fun w h => h.drew) (fun w h => h) (T.pi 5 x (T.pu 7 (.pointer (some ⟨q, 0, none⟩)) (T.pu 8 (.pointer (some ⟨q, 0, none⟩)) (T.pu 9 (.pointer (some ⟨q, 1, none⟩)) (T.ld true 10 (.int .i64 V.q) 3 q 1 (fun w h => St.extCell h hV.blk (by kernel_rfl)) (T.cp 6 56 #[.int .i64 x] (.int .i64 (size x : Int)) ent56 (fun w hw => Ret.same (size_c _ w)) (fun w h => h) (T.pb 11 (decide (V.q ≤ (size x : Int))) (T.pb 4 (decide (V.q ≤ (size x : Int))) (T.nil (QN.seq (W.ret (QN.done (.inl rfl) 4 (.bool (decide (V.q ≤ (size x : Int)))) rfl (by kernel_rfl) (fun w hw => ⟨?_, hw.below⟩)))))))))))))))))))))
 exact rfl
set_option maxRecDepth 100000 in
set_option maxHeartbeats 2000000 in
theorem pc1_c (v : Vt) (x : Vl) (xb : Nat) (w : World) (hx : w.heap[xb]? = some (.cells x.cs 133 (0, 0))) : Calls Tryz.prog 124 #[.agg v.cs, .pointer (some ⟨xb, 0, none⟩)] w (fun rr w' => rr = .returned (.bool (isV x v)) ∧ Below w.heap.size w w') := by
 refine calls_W (n := 8) Tryz.func124 rfl [(0, .agg v.cs), (1, .pointer (some ⟨xb, 0, none⟩))] rfl ⟨by kernel_rfl, by kernel_rfl⟩ (W.weak (Ψ := St w []) (fun w' h => by rw [h]; exact St.start w) (W.seq (W.rg od2 (T.bx 2 47 (.agg v.cs) (v.cs) tv3 (fun b1 => T.pb 3 false (T.nil (QN.seq (W.seq (W.drawn (Ψ := St w [(b1, Obj.cells v.cs 47 (0, 0))]) (St w [(b1, Obj.cells v.cs 47 (0, 0))]) [(0, true), (2, true), (1, false), (3, true), (4, false)] hmx (by kernel_rfl) (NoPanic.then NoPanic.body) (fun w h => h.drew) (fun w h => h) (T.lr true 4 v.cs 47 b1 0 (fun w h => St.rangeM h v.cs mm0 (by kernel_rfl)) (T.lr true 6 x.cs 133 xb 0 (fun w h => St.extRange h x.cs hx (by kernel_rfl)) (T.cp 5 125 #[.agg v.cs] (.agg (vlOf v).cs) ent125 (fun w hw => of_c _ w) (fun w h => h) (T.eqq 7 ((vlOf v) == x) ((vlOf v) == x) false 133 (vlOf v).cs x.cs (by kernel_rfl) (by kernel_rfl) (by kernel_rfl) (by kernel_rfl) (fun w => eq_vl w (vlOf v) x) (T.pb 3 ((vlOf v) == x) (T.nil (QN.seq (W.ret (QN.done (.inl rfl) 3 (.bool ((vlOf v) == x)) rfl (by kernel_rfl) (fun w hw => ⟨?_, hw.below⟩)))))))))))))))))))
 exact rfl
set_option maxRecDepth 100000 in
set_option maxHeartbeats 2000000 in
theorem pv2_c (v : Vt) (x : Vl) (xb : Nat) (w : World) (hx : w.heap[xb]? = some (.cells x.cs 133 (0, 0))) : Calls Tryz.prog 129 #[.agg v.cs, .pointer (some ⟨xb, 0, none⟩)] w (fun rr w' => rr = .returned (.bool (isV x v)) ∧ Below w.heap.size w w') := by
 refine calls_W (n := 8) Tryz.func129 rfl [(0, .agg v.cs), (1, .pointer (some ⟨xb, 0, none⟩))] rfl ⟨by kernel_rfl, by kernel_rfl⟩ (W.weak (Ψ := St w []) (fun w' h => by rw [h]; exact St.start w) (W.seq (W.rg od2 (T.bx 2 47 (.agg v.cs) (v.cs) tv3 (fun b1 => T.pb 3 false (T.nil (QN.seq (W.seq (W.drawn (Ψ := St w [(b1, Obj.cells v.cs 47 (0, 0))]) (St w [(b1, Obj.cells v.cs 47 (0, 0))]) [(0, true), (2, true), (1, false), (3, true), (4, false)] hmx (by kernel_rfl) (NoPanic.then NoPanic.body) (fun w h => h.drew) (fun w h => h) (T.lr true 4 v.cs 47 b1 0 (fun w h => St.rangeM h v.cs mm0 (by kernel_rfl)) (T.lr true 6 x.cs 133 xb 0 (fun w h => St.extRange h x.cs hx (by kernel_rfl)) (T.cp 5 125 #[.agg v.cs] (.agg (vlOf v).cs) ent125 (fun w hw => of_c _ w) (fun w h => h) (T.eqq 7 ((vlOf v) == x) ((vlOf v) == x) false 133 (vlOf v).cs x.cs (by kernel_rfl) (by kernel_rfl) (by kernel_rfl) (by kernel_rfl) (fun w => eq_vl w (vlOf v) x) (T.pb 3 ((vlOf v) == x) (T.nil (QN.seq (W.ret (QN.done (.inl rfl) 3 (.bool ((vlOf v) == x)) rfl (by kernel_rfl) (fun w hw => ⟨?_, hw.below⟩)))))))))))))))))))
 exact rfl
set_option maxRecDepth 100000 in
set_option maxHeartbeats 2000000 in
theorem pc2_c (v : Vt) (w : World) : Calls Tryz.prog 127 #[.agg v.cs] w (fun rr w' => rr = .returned (.bool (anyV v)) ∧ Below w.heap.size w w') := by
 refine calls_W (n := 3) Tryz.func127 rfl [(0, .agg v.cs)] rfl ⟨by kernel_rfl, by kernel_rfl⟩ (W.weak (Ψ := St w []) (fun w' h => by rw [h]; exact St.start w) (W.seq (W.rg od2 (T.bx 1 47 (.agg v.cs) (v.cs) tv3 (fun b1 => T.pb 2 false (T.nil (QN.seq (W.seq (W.rg od1 (T.pb 2 true (T.nil (QN.seq (W.ret (QN.done (.inl rfl) 2 (.bool true) rfl (by kernel_rfl) (fun w hw => ⟨?_, hw.below⟩)))))))))))))))
 exact rfl
set_option maxRecDepth 100000 in
set_option maxHeartbeats 2000000 in
theorem pv1_c (v : Vt) (w : World) : Calls Tryz.prog 128 #[.agg v.cs] w (fun rr w' => rr = .returned (.bool (mixV v)) ∧ Below w.heap.size w w') := by
 refine calls_W (n := 6) Tryz.func128 rfl [(0, .agg v.cs)] rfl ⟨by kernel_rfl, by kernel_rfl⟩ (W.weak (Ψ := St w []) (fun w' h => by rw [h]; exact St.start w) (W.seq (W.rg od2 (T.bx 1 47 (.agg v.cs) (v.cs) tv3 (fun b1 => T.pb 2 false (T.nil (QN.seq (W.seq (W.rg od4 (T.pu 3 (.pointer (some ⟨b1, 3, none⟩)) (T.ld false 4 (.int .i64 v.choice) 3 b1 3 (fun w h => St.cellM h mm0 (by kernel_rfl)) (T.pb 5 (v.choice == 2) (T.pb 2 (v.choice == 2) (T.nil (QN.seq (W.ret (QN.done (.inl rfl) 2 (.bool (v.choice == 2)) rfl (by kernel_rfl) (fun w hw => ⟨?_, hw.below⟩))))))))))))))))))
 exact rfl
set_option maxRecDepth 100000 in
set_option maxHeartbeats 2000000 in
theorem who1_c {w00 : World} {H0 : List (Nat × Obj)} (v : Vt) (kb rb fb mb : Nat) (k r mk : Int) (kf : Nat) (lb : Array Value) (F : Vt → Bool) (w : World) (hsg : 0 ≤ v.signer ∧ v.signer < 10) (hfit : FitW Tryz.prog w00 kf lb F) (hst : St w00 ((mb, Obj.cells #[.int .i64 mk] 22 (0, 0)) :: ((kb, Obj.cells #[.int .i64 k] 3 (0, 0)) :: ((rb, Obj.cells #[.int .i64 r] 3 (0, 0)) :: ((fb, Obj.cells #[.func (.func kf) #[] lb] 56 (0, 0)) :: H0)))) w) : Calls Tryz.prog 180 #[.agg v.cs, .pointer (some ⟨kb, 0, none⟩), .pointer (some ⟨rb, 0, none⟩), .pointer (some ⟨fb, 0, none⟩), .pointer (some ⟨mb, 0, none⟩)] w (fun rr w' => rr = .returned (.tuple #[]) ∧ St w00 ((mb, .cells #[.int .i64 (bif whoP k r F v then bits .or .i64 mk (2 ^ v.signer.toNat) else mk)] 22 (0, 0)) :: ((kb, Obj.cells #[.int .i64 k] 3 (0, 0)) :: ((rb, Obj.cells #[.int .i64 r] 3 (0, 0)) :: ((fb, Obj.cells #[.func (.func kf) #[] lb] 56 (0, 0)) :: H0)))) w') := by
 refine calls_W (n := 26) Tryz.func180 rfl [(0, .agg v.cs), (1, .pointer (some ⟨kb, 0, none⟩)), (2, .pointer (some ⟨rb, 0, none⟩)), (3, .pointer (some ⟨fb, 0, none⟩)), (4, .pointer (some ⟨mb, 0, none⟩))] rfl ⟨by kernel_rfl, by kernel_rfl⟩ (W.weak (Ψ := St w00 ((mb, Obj.cells #[.int .i64 mk] 22 (0, 0)) :: ((kb, Obj.cells #[.int .i64 k] 3 (0, 0)) :: ((rb, Obj.cells #[.int .i64 r] 3 (0, 0)) :: ((fb, Obj.cells #[.func (.func kf) #[] lb] 56 (0, 0)) :: H0))))) (fun w' h => by rw [h]; exact hst) (W.seq (W.rg od1 (T.bx 5 47 (.agg v.cs) (v.cs) tv3 (fun b1 => T.nil (QN.seq (W.seq (W.rg od15 (T.pu 6 (.pointer (some ⟨b1, 0, none⟩)) (T.ld false 7 (.int .i64 v.kind) 3 b1 0 (fun w h => St.cellM h mm0 (by kernel_rfl)) (T.ld false 8 (.int .i64 k) 3 kb 0 (fun w h => St.cellM h mm2 (by kernel_rfl)) (T.pb 9 (v.kind == k) (T.pb 10 (v.kind == k) (T.bk [(5, false), (6, false), (7, false), (8, false)] [(9, false), (10, false), (11, false), (12, false), (13, false), (14, false)] 4 true (v.kind == k) 10 14 (.bool (v.round == r)) (fun hg2 => ?_) ?_))))))))))))))
 ·
  have hg2_ := hg2
  refine T.pu 11 (.pointer (some ⟨b1, 2, none⟩)) (T.ld false 12 (.int .i64 v.round) 3 b1 2 (fun w h => St.cellM h mm0 (by kernel_rfl)) (T.ld false 13 (.int .i64 r) 3 rb 0 (fun w h => St.cellM h mm3 (by kernel_rfl)) (T.pb 14 (v.round == r) ?_)))
  exact T.blkEnd (by kernel_rfl) (fun w h => h)
 refine T.an 15 (v.kind == k) (v.round == r) (T.pb 16 ((v.kind == k) && (v.round == r)) (T.bk [(11, false), (12, false), (13, false)] [(14, false)] 10 true ((v.kind == k) && (v.round == r)) 16 19 (.bool (F v)) (fun hg3 => ?_) ?_))
 ·
  have hg3_ := hg3
  have hg3l := (Bool.and_eq_true_iff.1 hg3).1
  have hg3r := (Bool.and_eq_true_iff.1 hg3).2
  refine T.ld false 17 (.func (.func kf) #[] lb) 56 fb 0 (fun w h => St.cellM h mm4 (by kernel_rfl)) (T.lr false 18 v.cs 47 b1 0 (fun w h => St.rangeM h v.cs mm0 (by kernel_rfl)) (T.cp 19 kf (#[.agg v.cs] ++ lb) (.bool (F v)) hfit.ent ?_ tv2 ?_))
  ·
   intro w hw
   have h0 := hw.below
   exact hfit.fits v w h0
  exact T.blkEnd (by kernel_rfl) (fun w h => h)
 refine T.an 20 ((v.kind == k) && (v.round == r)) (F v) (T.nil (QN.seq (W.cd (((v.kind == k) && (v.round == r)) && (F v)) (fun h4 => ?_) (fun h4 => ?_))))
 ·
  have h4l := (Bool.and_eq_true_iff.1 h4).1
  have h4r := (Bool.and_eq_true_iff.1 h4).2
  have h4ll := (Bool.and_eq_true_iff.1 h4l).1
  have h4lr := (Bool.and_eq_true_iff.1 h4l).2
  refine W.drawn (Ψ := St w00 ((b1, Obj.cells v.cs 47 (0, 0)) :: ((mb, Obj.cells #[.int .i64 mk] 22 (0, 0)) :: ((kb, Obj.cells #[.int .i64 k] 3 (0, 0)) :: ((rb, Obj.cells #[.int .i64 r] 3 (0, 0)) :: ((fb, Obj.cells #[.func (.func kf) #[] lb] 56 (0, 0)) :: H0)))))) (St w00 ((b1, Obj.cells v.cs 47 (0, 0)) :: ((kb, Obj.cells #[.int .i64 k] 3 (0, 0)) :: ((rb, Obj.cells #[.int .i64 r] 3 (0, 0)) :: ((fb, Obj.cells #[.func (.func kf) #[] lb] 56 (0, 0)) :: H0))))) [(1, true), (2, true), (3, true), (0, false), (4, true), (5, false)] hmx (by kernel_rfl) NoPanic.body (fun w h => h.drew) (fun w h => (h.perm (pm0.trans ((pm1.trans ((pm1.trans (pm1.cons _)).cons _)).cons _))).part ((((((List.Sublist.refl _).cons _).cons_cons _).cons_cons _).cons_cons _).cons_cons _)) (T.pu 22 (.pointer (some ⟨b1, 4, none⟩)) (T.ld true 23 (.int .i64 v.signer) 3 b1 4 (fun w h => St.cellM h mm0 (by kernel_rfl)) (T.shl 24 .i64 .i64 1 v.signer (.int .i64 (2 ^ v.signer.toNat)) (by kernel_rfl) (by kernel_rfl) (by omega) (shl_one (by omega) (by omega)) (T.ld false 21 (.int .i64 mk) 22 mb 0 (fun w h => St.cellM h mm1 (by kernel_rfl)) (T.pi 25 (bits .or .i64 mk (2 ^ v.signer.toNat)) (T.sp 22 mb 0 (.int .i64 (bits .or .i64 mk (2 ^ v.signer.toNat))) #[.int .i64 mk] #[.int .i64 (bits .or .i64 mk (2 ^ v.signer.toNat))] 22 pm1 (fun w h => (h.perm (pm1.trans ((pm1.trans ((pm1.trans (pm1.cons _)).cons _)).cons _))).part ((((((List.Sublist.refl _).cons _).cons_cons _).cons_cons _).cons_cons _).cons_cons _)) (T.nil (QN.done0 (.inr rfl) rfl (fun w hw => ?_)))))))))
  exact ⟨rfl, by have hb : whoP k r F v = _ := h4; rw [hb, cond_true]; exact ((hw.perm (pm0.trans ((pm1.trans ((pm1.trans (pm1.cons _)).cons _)).cons _))).part ((((((List.Sublist.refl _).cons _).cons_cons _).cons_cons _).cons_cons _).cons_cons _))⟩
 ·
  refine W.skip (QN.done0 (.inr rfl) rfl (fun w hw => ?_))
  exact ⟨rfl, by have hb : whoP k r F v = _ := h4; rw [hb, cond_false]; exact ((hw.perm (pm1.trans ((pm1.trans ((pm1.trans (pm1.cons _)).cons _)).cons _))).part ((((((List.Sublist.refl _).cons _).cons_cons _).cons_cons _).cons_cons _).cons_cons _))⟩
set_option maxRecDepth 100000 in
set_option maxHeartbeats 2000000 in
theorem who_c (q bm : Nat) (V : Vtr) (A7 : Option Addr) (c7 : Nat) (k r : Int) (kf : Nat) (lb : Array Value) (F : Vt → Bool) (w : World) (hV : VtrAt w q bm V A7 c7) (hO : VtrOk V) (hfit : FitW Tryz.prog w kf lb F) : Calls Tryz.prog 123 #[.pointer (some ⟨q, 0, none⟩), .int .i64 k, .int .i64 r, .func (.func kf) #[] lb] w (fun rr w' => rr = .returned (.int .i64 (whoM V.all k r F)) ∧ Below w.heap.size w w') := by
 have hla := hO.len
 refine calls_W (n := 28) Tryz.func123 rfl [(0, .pointer (some ⟨q, 0, none⟩)), (1, .int .i64 k), (2, .int .i64 r), (3, .func (.func kf) #[] lb)] rfl ⟨by kernel_rfl, by kernel_rfl⟩ (W.weak (Ψ := St w []) (fun w' h => by rw [h]; exact St.start w) (W.seq (W.rg od4 (T.bx 5 3 (.int .i64 k) (#[.int .i64 k]) tv3 (fun b1 => T.bx 6 3 (.int .i64 r) (#[.int .i64 r]) tv3 (fun b2 => T.bx 7 56 (.func (.func kf) #[] lb) (#[.func (.func kf) #[] lb]) tv3 (fun b3 => T.pi 8 0 (T.nil (QN.seq (W.seq (W.rg od1 (T.al 9 22 #[.int .i64 0] tv3 (fun b4 => T.nil (QN.seq (W.seq (W.rg od2 (T.pu 13 (.func (.func 180) #[] #[.pointer (some ⟨b1, 0, none⟩), .pointer (some ⟨b2, 0, none⟩), .pointer (some ⟨b3, 0, none⟩), .pointer (some ⟨b4, 0, none⟩)]) (T.pu 10 (.func (.func 180) #[] #[.pointer (some ⟨b1, 0, none⟩), .pointer (some ⟨b2, 0, none⟩), .pointer (some ⟨b3, 0, none⟩), .pointer (some ⟨b4, 0, none⟩)]) (T.nil (QN.seq (W.seq (W.seq (W.rg od6 (T.pu 14 (.pointer (some ⟨q, 0, none⟩)) (T.pu 15 (.pointer (some ⟨q, 0, none⟩)) (T.pu 16 (.pointer (some ⟨q, 12, none⟩)) (T.ld false 17 (.slice A7 V.all.length c7) 25 q 12 (fun w h => St.extCell h hV.blk (by kernel_rfl)) (T.pi 18 ((V.all.length : Nat) : Int) (T.pi 19 0 (T.nil (QN.seq (W.block (W.loop (σ := Nat × Int) (fun gs => gs.1 ≤ V.all.length ∧ gs.2 = whoM (V.all.take gs.1) k r F) (fun gs => [(8, .int .i64 0), (9, .pointer (some ⟨b4, 0, none⟩)), (10, .func (.func 180) #[] #[.pointer (some ⟨b1, 0, none⟩), .pointer (some ⟨b2, 0, none⟩), .pointer (some ⟨b3, 0, none⟩), .pointer (some ⟨b4, 0, none⟩)]), (17, .slice A7 V.all.length c7), (18, .int .i64 ((V.all.length : Nat) : Int)), (19, .int .i64 (gs.1 : Int))]) (fun gs => St w [(b4, Obj.cells #[.int .i64 gs.2] 22 (0, 0)), (b3, Obj.cells #[.func (.func kf) #[] lb] 56 (0, 0)), (b2, Obj.cells #[.int .i64 r] 3 (0, 0)), (b1, Obj.cells #[.int .i64 k] 3 (0, 0))]) (fun gs => V.all.length - gs.1) (0, 0) ?_ (by kernel_rfl) (fun w h => h) ?_)))))))))))))))))))))))))))))))))
 ·
  try dsimp only
  exact ⟨Nat.zero_le _, rfl⟩
 rintro ⟨j, mk⟩ hI_
 obtain ⟨hj, hmk⟩ : j ≤ V.all.length ∧ mk = whoM (V.all.take j) k r F := hI_
 refine W.seq (W.rg od1 (T.pb 20 (decide ((j : Int) < ((V.all.length : Nat) : Int))) (T.nil (QN.seq (W.seq (W.cd (decide ((j : Int) < ((V.all.length : Nat) : Int))) (fun h5 => ?_) (fun h5 => ?_)))))))
 ·
  have h5' := of_decide_eq_true h5
  have hl6 : j < V.all.length := by omega
  refine W.skip (QN.seq (W.seq (W.block (W.seq (W.rg od4 ?_)))))
  obtain ⟨b7, o8, hA9, hr10⟩ := (Rd.arr hV.rd _) j hl6
  refine T.ix 21 25 47 22 A7 V.all.length c7 (j : Int) j b7 o8 hA9 rfl (by omega) (T.lr false 22 ((V.all)[j]'hl6).cs 47 b7 (o8 + j * 22) hr10 (T.al 12 47 Vt.zero.cs tv3 (fun b11 => T.sp 47 b11 0 (.agg ((V.all)[j]'hl6).cs) Vt.zero.cs ((V.all)[j]'hl6).cs 47 pm0 tv2 (T.nil (QN.seq (W.rg od3 (T.pu 23 (.func (.func 180) #[] #[.pointer (some ⟨b1, 0, none⟩), .pointer (some ⟨b2, 0, none⟩), .pointer (some ⟨b3, 0, none⟩), .pointer (some ⟨b4, 0, none⟩)]) (T.lr false 24 ((V.all)[j]'hl6).cs 47 b11 0 (fun w h => St.rangeM h ((V.all)[j]'hl6).cs mm0 (by kernel_rfl)) (T.callW 25 180 #[.agg ((V.all)[j]'hl6).cs, .pointer (some ⟨b1, 0, none⟩), .pointer (some ⟨b2, 0, none⟩), .pointer (some ⟨b3, 0, none⟩), .pointer (some ⟨b4, 0, none⟩)] (.tuple #[]) (St w [(b4, Obj.cells #[.int .i64 (bif whoP k r F ((V.all)[j]'hl6) then bits .or .i64 mk (2 ^ ((V.all)[j]'hl6).signer.toNat) else mk)] 22 (0, 0)), (b1, Obj.cells #[.int .i64 k] 3 (0, 0)), (b2, Obj.cells #[.int .i64 r] 3 (0, 0)), (b3, Obj.cells #[.func (.func kf) #[] lb] 56 (0, 0)), (b11, Obj.cells ((V.all)[j]'hl6).cs 47 (0, 0))]) (by kernel_rfl) (by kernel_rfl) ent180 ?_ tv2 ?_)))))))))
  · exact fun w hw => who1_c (H0 := [(b11, Obj.cells ((V.all)[j]'hl6).cs 47 (0, 0))]) ((V.all)[j]'hl6) b1 b2 b3 b4 k r mk kf lb F w (hO.sg _ (List.getElem_mem _)) hfit (show St _ [(b4, Obj.cells #[.int .i64 mk] 22 (0, 0)), (b1, Obj.cells #[.int .i64 k] 3 (0, 0)), (b2, Obj.cells #[.int .i64 r] 3 (0, 0)), (b3, Obj.cells #[.func (.func kf) #[] lb] 56 (0, 0)), (b11, Obj.cells ((V.all)[j]'hl6).cs 47 (0, 0))] w from ((hw.perm (pm1.trans ((pm3.trans ((pm2.trans ((pm1.trans (pm0.cons _)).cons _)).cons _)).cons _))).part ns5))
  refine T.nil (QN.blkNormal (QN.seq (W.rg od2 (T.pw 26 ((j : Int) + 1) (T.pi 19 ((j : Int) + 1) (T.nil (QN.back (j + 1, bif whoP k r F ((V.all)[j]'hl6) then bits .or .i64 mk (2 ^ ((V.all)[j]'hl6).signer.toNat) else mk) ?_ ?_ (by kernel_rfl) (fun w h => (h.perm (pm0.trans ((pm2.trans ((pm1.trans (pm0.cons _)).cons _)).cons _))).part ns4))))))))
  ·
   try dsimp only
   exact ⟨by omega, whoM_step hmk (by omega)⟩
  · show V.all.length - _ < V.all.length - _; omega
 ·
  have h5' := of_decide_eq_false h5
  refine W.exit (QN.thenExit (QN.thenExit (QN.blkHit (QN.seq (W.seq (W.rg od2 (T.ld false 27 (.int .i64 mk) 22 b4 0 (fun w h => St.cellM h mm0 (by kernel_rfl)) (T.pi 8 mk (T.nil (QN.seq (W.ret (QN.done (.inl rfl) 8 (.int .i64 mk) rfl (by kernel_rfl) (fun w hw => ⟨?_, hw.below⟩)))))))))))))
  exact ret_int (by rw [hmk, take_end (by omega)])
set_option maxRecDepth 100000 in
set_option maxHeartbeats 2000000 in
theorem values_c (q bm : Nat) (V : Vtr) (A7 : Option Addr) (c7 : Nat) (k r : Int) (w : World) (hV : VtrAt w q bm V A7 c7) (hO : VtrOk V) : Calls Tryz.prog 122 #[.pointer (some ⟨q, 0, none⟩), .int .i64 k, .int .i64 r] w (fun rr w' => ∃ A c Hr, rr = .returned (.slice A (valsL V.all k r).length c) ∧ RowIs 133 9 A (valsL V.all k r).length c (cells (valsL V.all k r)) Hr ∧ St w Hr w') := by
 have hla := hO.len
 refine calls_W (n := 56) Tryz.func122 rfl [(0, .pointer (some ⟨q, 0, none⟩)), (1, .int .i64 k), (2, .int .i64 r)] rfl ⟨by kernel_rfl, by kernel_rfl⟩ (W.weak (Ψ := St w []) (fun w' h => by rw [h]; exact St.start w) (W.seq (W.rg od1 (T.pu 6 (.slice none 0 0) (T.nil (QN.seq (W.seq (W.rg od2 (T.mapNew (κ := Vl) 12 162 (by kernel_rfl) (fun w => by kernel_rfl) tv3 (fun b1 => T.pu 7 (.map (some b1)) (T.nil (QN.seq (W.seq (W.seq (W.rg od6 (T.pu 13 (.pointer (some ⟨q, 0, none⟩)) (T.pu 14 (.pointer (some ⟨q, 0, none⟩)) (T.pu 15 (.pointer (some ⟨q, 12, none⟩)) (T.ld false 16 (.slice A7 V.all.length c7) 25 q 12 (fun w h => St.extCell h hV.blk (by kernel_rfl)) (T.pi 17 ((V.all.length : Nat) : Int) (T.pi 18 0 (T.nil (QN.seq (W.block (W.loop (σ := Nat × List (Vl × Int)) (fun gs => gs.1 ≤ V.all.length ∧ gs.2 = vlMp (V.all.take gs.1) k r) (fun gs => [(1, .int .i64 k), (2, .int .i64 r), (6, .slice none 0 0), (7, .map (some b1)), (16, .slice A7 V.all.length c7), (17, .int .i64 ((V.all.length : Nat) : Int)), (18, .int .i64 (gs.1 : Int))]) (fun gs => St w [(b1, mapOf gs.2)]) (fun gs => V.all.length - gs.1) (0, ([] : List (Vl × Int))) ?_ (by kernel_rfl) (fun w h => h) ?_)))))))))))))))))))))))))
 ·
  try dsimp only
  exact ⟨Nat.zero_le _, rfl⟩
 rintro ⟨k2, mp⟩ hI_
 obtain ⟨hk2, hmp⟩ : k2 ≤ V.all.length ∧ mp = vlMp (V.all.take k2) k r := hI_
 refine W.seq (W.rg od1 (T.pb 19 (decide ((k2 : Int) < ((V.all.length : Nat) : Int))) (T.nil (QN.seq (W.seq (W.cd (decide ((k2 : Int) < ((V.all.length : Nat) : Int))) (fun h2 => ?_) (fun h2 => ?_)))))))
 ·
  have h2' := of_decide_eq_true h2
  have hl3 : k2 < V.all.length := by omega
  refine W.skip (QN.seq (W.seq (W.block (W.seq (W.rg od4 ?_)))))
  obtain ⟨b4, o5, hA6, hr7⟩ := (Rd.arr hV.rd _) k2 hl3
  refine T.ix 20 25 47 22 A7 V.all.length c7 (k2 : Int) k2 b4 o5 hA6 rfl (by omega) (T.lr false 21 ((V.all)[k2]'hl3).cs 47 b4 (o5 + k2 * 22) hr7 (T.al 9 47 Vt.zero.cs tv3 (fun b8 => T.sp 47 b8 0 (.agg ((V.all)[k2]'hl3).cs) Vt.zero.cs ((V.all)[k2]'hl3).cs 47 pm0 tv2 (T.nil (QN.seq (W.seq (W.rg od15 (T.pu 22 (.pointer (some ⟨b8, 0, none⟩)) (T.ld false 23 (.int .i64 (((V.all)[k2]'hl3).kind)) 3 b8 0 (fun w h => St.cellM h mm0 (by kernel_rfl)) (T.pi 24 k (T.pb 25 ((((V.all)[k2]'hl3).kind) == k) (T.pb 26 ((((V.all)[k2]'hl3).kind) == k) (T.bk [(5, false), (6, false), (7, false), (8, false)] [(9, false), (10, false), (11, false), (12, false), (13, false), (14, false)] 4 true ((((V.all)[k2]'hl3).kind) == k) 26 30 (.bool ((((V.all)[k2]'hl3).round) == r)) (fun hg9 => ?_) ?_)))))))))))))
  ·
   have hg9_ := hg9
   refine T.pu 27 (.pointer (some ⟨b8, 2, none⟩)) (T.ld false 28 (.int .i64 (((V.all)[k2]'hl3).round)) 3 b8 2 (fun w h => St.cellM h mm0 (by kernel_rfl)) (T.pi 29 r (T.pb 30 ((((V.all)[k2]'hl3).round) == r) ?_)))
   exact T.blkEnd (by kernel_rfl) (fun w h => h)
  refine T.an 31 ((((V.all)[k2]'hl3).kind) == k) ((((V.all)[k2]'hl3).round) == r) (T.pb 32 (((((V.all)[k2]'hl3).kind) == k) && ((((V.all)[k2]'hl3).round) == r)) (T.bk [(11, false), (12, false), (13, false)] [(14, false)] 10 true (((((V.all)[k2]'hl3).kind) == k) && ((((V.all)[k2]'hl3).round) == r)) 32 35 (.bool ((((V.all)[k2]'hl3).choice) != 2)) (fun hg10 => ?_) ?_))
  ·
   have hg10_ := hg10
   have hg10l := (Bool.and_eq_true_iff.1 hg10).1
   have hg10r := (Bool.and_eq_true_iff.1 hg10).2
   refine T.pu 33 (.pointer (some ⟨b8, 3, none⟩)) (T.ld false 34 (.int .i64 (((V.all)[k2]'hl3).choice)) 3 b8 3 (fun w h => St.cellM h mm0 (by kernel_rfl)) (T.pb 35 ((((V.all)[k2]'hl3).choice) != 2) ?_))
   exact T.blkEnd (by kernel_rfl) (fun w h => h)
  refine T.an 36 (((((V.all)[k2]'hl3).kind) == k) && ((((V.all)[k2]'hl3).round) == r)) ((((V.all)[k2]'hl3).choice) != 2) (T.nil (QN.seq (W.cd ((((((V.all)[k2]'hl3).kind) == k) && ((((V.all)[k2]'hl3).round) == r)) && ((((V.all)[k2]'hl3).choice) != 2)) (fun h11 => ?_) (fun h11 => ?_))))
  ·
   have h11l := (Bool.and_eq_true_iff.1 h11).1
   have h11r := (Bool.and_eq_true_iff.1 h11).2
   have h11ll := (Bool.and_eq_true_iff.1 h11l).1
   have h11lr := (Bool.and_eq_true_iff.1 h11l).2
   refine W.rg od4 (T.pu 37 (.map (some b1)) (T.lr false 38 ((V.all)[k2]'hl3).cs 47 b8 0 (fun w h => St.rangeM h ((V.all)[k2]'hl3).cs mm0 (by kernel_rfl)) (T.cp 39 125 #[.agg ((V.all)[k2]'hl3).cs] (.agg (vlOf ((V.all)[k2]'hl3)).cs) ent125 (fun w hw => of_c _ w) tv2 (T.mapUpd 162 133 3 keyVl (vlOf ((V.all)[k2]'hl3)) 1 mp b1 pm1 (by kernel_rfl) (fun w => by kernel_rfl) (by kernel_rfl) tv2 (T.nil (QN.blkNormal (QN.seq (W.rg od2 (T.pw 40 ((k2 : Int) + 1) (T.pi 18 ((k2 : Int) + 1) (T.nil (QN.back (k2 + 1, upd mp (vlOf ((V.all)[k2]'hl3)) 1) ?_ ?_ (by kernel_rfl) (fun w h => (h.perm pm0).part ns1)))))))))))))
   ·
    try dsimp only
    exact ⟨by omega, (vl_yes h11).symm.trans (vl_bk (by omega) hmp)⟩
   · show V.all.length - _ < V.all.length - _; omega
  ·
   refine W.skip (QN.blkNormal (QN.seq (W.rg od2 (T.pw 40 ((k2 : Int) + 1) (T.pi 18 ((k2 : Int) + 1) (T.nil (QN.back (k2 + 1, mp) ?_ ?_ (by kernel_rfl) (fun w h => (h.perm pm1).part ns1))))))))
   ·
    try dsimp only
    exact ⟨by omega, (vl_no h11).symm.trans (vl_bk (by omega) hmp)⟩
   · show V.all.length - _ < V.all.length - _; omega
 ·
  have h2' := of_decide_eq_false h2
  refine W.exit (QN.thenExit (QN.thenExit (QN.blkHit (QN.seq (W.seq (W.rg od1 (T.al 10 134 #[.slice none 0 0] tv3 (fun b12 => T.nil (QN.seq (W.seq (W.seq (W.rg od2 (T.pu 41 (.map (some b1)) (T.mapRange 42 162 133 3 mp b1 pm1 (by kernel_rfl) (fun w => by kernel_rfl) (by kernel_rfl) tv3 (fun it13 => T.nil (QN.seq (W.block ?_)))))))))))))))))
  have hmq : mp = vlMp V.all k r := by rw [hmp, List.take_of_length_le (by omega)]
  have hml : mp.length ≤ V.all.length := by rw [hmq]; exact vlMp_len _ _ _
  refine W.loop (σ := Array Nat × List Vl × Option Addr × Nat × List (Nat × Obj)) (fun gs => Seen mp gs.1 ∧ gs.2.1 = pickB (fun _ => true) mp gs.1 ∧ RowIs 133 9 gs.2.2.1 gs.2.1.length gs.2.2.2.1 (cells gs.2.1) gs.2.2.2.2) (fun gs => [(6, .slice none 0 0), (10, .pointer (some ⟨b12, 0, none⟩)), (42, .pointer (some ⟨it13, 0, none⟩))]) (fun gs => St w (gs.2.2.2.2 ++ [(it13, iterOf b1 mp.length gs.1), (b1, mapOf mp), (b12, Obj.cells #[.slice gs.2.2.1 gs.2.1.length gs.2.2.2.1] 134 (0, 0))])) (fun gs => mp.length - gs.1.size) (#[], [], none, 0, []) ?_ (by kernel_rfl) (fun w h => h) ?_
  ·
   try dsimp only
   exact ⟨⟨by simp, by simp⟩, rfl, RowIs.nil⟩
  rintro ⟨sn, out, A5, c5, Hr5⟩ hI_
  obtain ⟨hsn, hout, hrow5⟩ : Seen mp sn ∧ out = pickB (fun _ => true) mp sn ∧ RowIs 133 9 A5 out.length c5 (cells out) Hr5 := hI_
  have hol5 : out.length ≤ mp.length := by rw [hout]; exact pickB_len hsn
  refine W.seq (W.rg od2 (T.mapNext 43 0 mp b1 it13 sn (((pm0.append_left Hr5).trans List.perm_middle).trans (((pm0.append_left Hr5).trans List.perm_middle).cons _)) (by kernel_rfl) (fun w => by kernel_rfl) tv3 (fun hall17 => ?_) (fun k14 hlt15 hc16 => ?_)))
  ·
   refine T.pb 44 false (T.nil (QN.seq (W.seq (W.cd false (fun h18 => ?_) (fun h18 => ?_)))))
   · exact absurd h18 (by decide)
   ·
    refine W.exit (QN.thenExit (QN.thenExit (QN.blkHit (QN.seq (W.seq (W.rg od4 (T.ld false 51 (.slice A5 out.length c5) 134 b12 0 (fun w h => St.cellM h (.tail _ (.tail _ (List.mem_append_right _ mm0))) (by kernel_rfl)) (T.pu 52 (.iface 134 (.slice A5 out.length c5)) (T.pu 53 (.func (.func 178) #[] #[.pointer (some ⟨b12, 0, none⟩)]) (T.callG (β := List Vl × List (Nat × Obj)) 54 62 #[.iface 134 (.slice A5 out.length c5), .func (.func 178) #[] #[.pointer (some ⟨b12, 0, none⟩)]] (fun gs => .tuple #[]) (fun gs => St w (gs.2 ++ [(it13, iterOf b1 mp.length sn), (b1, mapOf mp), (b12, Obj.cells #[.slice A5 out.length c5] 134 (0, 0))])) (fun gs => gs.1.Perm out ∧ Asc vlless gs.1 ∧ RowIs 133 9 A5 out.length c5 (cells gs.1) gs.2) (by kernel_rfl) (by kernel_rfl) ent62 ?_ tv3 ?_))))))))))
    · exact fun w hw => sliceR_c (α := Vl) (H0 := [(it13, iterOf b1 mp.length sn), (b1, mapOf mp), (b12, Obj.cells #[.slice A5 out.length c5] 134 (0, 0))]) sortVl hrow5 (by omega) ent178 (vl_less mm2 (by omega)) vlless_swo w ((hw.perm (((((pm0.cons _).trans List.perm_middle.symm).cons _).trans List.perm_middle.symm).trans ((pm0.trans ((pm0.trans (pm0.cons _)).cons _)).append_left Hr5))).part (List.Sublist.append (List.Sublist.refl _) ns3))
    rintro ⟨so, Hg⟩ hp_
    have hp19 : so.Perm out ∧ Asc vlless so ∧ RowIs 133 9 A5 out.length c5 (cells so) Hg := hp_
    refine T.nil (QN.seq (W.seq (W.rg od2 (T.ld false 55 (.slice A5 out.length c5) 134 b12 0 (fun w h => St.cellM h (List.mem_append_right _ mm2) (by kernel_rfl)) (T.pu 6 (.slice A5 out.length c5) (T.nil (QN.seq (W.ret (QN.done (.inl rfl) 6 (.slice A5 out.length c5) rfl (by kernel_rfl) (fun w hw => ?_))))))))))
    exact (have hq := hp19; have e1 : so = valsL V.all k r := vl_fin hmq hsn hall17 hout hq.1 hq.2.1; have hsl : out.length = so.length := hq.1.length_eq.symm; by rw [← e1]; exact ⟨A5, c5, Hg, by rw [hsl], by rw [← hsl]; exact hq.2.2, hw.part (List.sublist_append_left _ _)⟩)
  ·
   refine T.pb 44 true (T.nil (QN.seq (W.seq (W.cd true (fun h20 => ?_) (fun h20 => ?_)))))
   ·
    refine W.skip (QN.seq (W.block (W.seq (W.rg od4 (T.mapEntry 45 mp b1 it13 k14 sn hlt15 (pm0.trans (pm0.cons _)) (by kernel_rfl) (fun w => by kernel_rfl) (T.pu 46 (.agg (((mp)[k14]'hlt15).1).cs) (T.al 11 133 Vl.zero.cs tv3 (fun b21 => T.sp 133 b21 0 (.agg (((mp)[k14]'hlt15).1).cs) Vl.zero.cs (((mp)[k14]'hlt15).1).cs 133 pm0 tv2 (T.nil (QN.seq (W.rg od5 (T.ld false 47 (.slice A5 out.length c5) 134 b12 0 (fun w h => St.cellM h (.tail _ (.tail _ (.tail _ (List.mem_append_right _ mm0)))) (by kernel_rfl)) (T.lr false 48 (((mp)[k14]'hlt15).1).cs 133 b21 0 (fun w h => St.rangeM h (((mp)[k14]'hlt15).1).cs mm0 (by kernel_rfl)) (T.lit 49 134 133 1 #[(0, .agg (((mp)[k14]'hlt15).1).cs)] (cells ([((mp)[k14]'hlt15).1] : List Vl)).toArray (by kernel_rfl) (by kernel_rfl) (by kernel_rfl) (by kernel_rfl) tv3 (fun b22 => T.appC 50 134 133 16 A5 c5 (out : List Vl) Hr5 b22 0 1 ([((mp)[k14]'hlt15).1] : List Vl) ((((((((pm0.cons _).trans List.perm_middle.symm).cons _).trans List.perm_middle.symm).cons _).trans List.perm_middle.symm).cons _).trans List.perm_middle.symm) (by kernel_rfl) (by kernel_rfl) (by kernel_rfl) (by kernel_rfl) hrow5 (fun w h => St.rangeM h (cells ([((mp)[k14]'hlt15).1] : List Vl)).toArray (List.mem_append_right _ mm0) (by kernel_rfl)) (by unfold maxLen; first | omega | (simp; omega)) (by first | omega | (simp; omega)) tv3 (fun A23 c24 Hr25 hrow26 => T.sp 134 b12 0 (.slice A23 ((out ++ ([((mp)[k14]'hlt15).1])).length) c24) #[.slice A5 out.length c5] #[.slice A23 ((out ++ ([((mp)[k14]'hlt15).1])).length) c24] 134 ((pm4.append_left Hr25).trans List.perm_middle) tv2 (T.nil (QN.blkNormal (QN.back (sn.push k14, out ++ ([((mp)[k14]'hlt15).1]), A23, c24, Hr25) ?_ ?_ (by kernel_rfl) (fun w h => (h.perm (((pm0.cons _).trans List.perm_middle.symm).trans ((pm3.trans ((pm3.trans (pm0.cons _)).cons _)).append_left Hr25))).part (List.Sublist.append (List.Sublist.refl _) ns3)))))))))))))))))))))
    ·
     try dsimp only
     exact ⟨(hsn.push hlt15 hc16).1, pickB_yes (g := fun _ => true) hlt15 hout rfl, hrow26⟩
    · show mp.length - (sn.push k14).size < mp.length - sn.size; have := (hsn.push hlt15 hc16).2; rw [Array.size_push]; omega
   · exact absurd h20 (by decide)
end Go.Proofs.YtnjkbgcfpbbglaaGreat
