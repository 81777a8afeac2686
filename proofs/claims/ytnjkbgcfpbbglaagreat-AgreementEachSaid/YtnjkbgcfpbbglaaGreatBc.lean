/- The proposal phase: proposals, echoes, certified values. -/
import Derived.Test.YtnjkbgcfpbbglaaGreatAcctS
namespace Go.Proofs.YtnjkbgcfpbbglaaGreat
open Go Go.RowKit
set_option linter.unusedVariables false

set_option maxRecDepth 100000 in
set_option maxHeartbeats 2000000 in
theorem bcl_c (d : List Nm) (A : Option Addr) (c q5 i j : Nat) (w : World) (hi : i < d.length) (hj : j < d.length) (hd : d.length ≤ 1000) (hr : Rd w A d) (hb : w.cell? ⟨q5, 0, none⟩ = some (.slice A d.length c)) (hbl : q5 < w.heap.size) : Calls Tryz.prog 92 #[.int .i64 i, .int .i64 j, .pointer (some ⟨q5, 0, none⟩)] w (fun rr w' => rr = .returned (.bool (hless d[i] d[j])) ∧ Below w.heap.size w w') := by
 refine calls_W (n := 15) Tryz.func92 rfl [(0, .int .i64 i), (1, .int .i64 j), (2, .pointer (some ⟨q5, 0, none⟩))] rfl ⟨by kernel_rfl, by kernel_rfl⟩ (W.weak (Ψ := St w []) (fun w' h => by rw [h]; exact St.start w) (W.seq (W.rg od1 (T.pb 5 false (T.nil (QN.seq (W.seq (W.drawn (Ψ := St w []) (St w []) [(0, true), (1, true), (2, true), (3, true), (4, true), (5, true), (6, true), (7, true), (8, false), (9, false)] hmx (by kernel_rfl) (NoPanic.then NoPanic.body) (fun w h => h.drew) (fun w h => h) (T.ld true 6 (.slice A d.length c) 28 q5 0 (fun w h => (h.below.cell (p := ⟨q5, 0, none⟩) hbl).trans hb) (T.pi 7 i ?_))))))))))
 have hl5 : i < d.length := by omega
 obtain ⟨b1, o2, hA3, hr4⟩ := (Rd.arr hr _) i hl5
 refine T.ix 8 28 24 8 A d.length c (i : Int) i b1 o2 hA3 rfl (by omega) (T.lr true 9 (d[i]'hl5).cs 24 b1 (o2 + i * 8) hr4 (T.ld true 10 (.slice A d.length c) 28 q5 0 (fun w h => (h.below.cell (p := ⟨q5, 0, none⟩) hbl).trans hb) (T.pi 11 j ?_)))
 have hl10 : j < d.length := by omega
 obtain ⟨b6, o7, hA8, hr9⟩ := (Rd.arr hr _) j hl10
 refine T.ix 12 28 24 8 A d.length c (j : Int) j b6 o7 hA8 rfl (by omega) (T.lr true 13 (d[j]'hl10).cs 24 b6 (o7 + j * 8) hr9 (T.cp 14 93 #[.agg (d[i]'hl5).cs, .agg (d[j]'hl10).cs] (.bool (hless (d[i]'hl5) (d[j]'hl10))) ent93 (fun w hw => hless_c (d[i]'hl5) (d[j]'hl10) w) (fun w h => h) (T.pb 5 (hless (d[i]'hl5) (d[j]'hl10)) (T.nil (QN.seq (W.ret (QN.done (.inl rfl) 5 (.bool (hless (d[i]'hl5) (d[j]'hl10))) rfl (by kernel_rfl) (fun w hw => ⟨?_, hw.below⟩))))))))
 exact rfl
instance inhNm : Inhabited Nm := ⟨Nm.zero⟩
theorem hless_swo : Sort.SWO hless := ⟨fun x => hless_self x, fun x y z h1 h2 => by unfold hless at *; simp only [decide_eq_true_eq] at *; omega, fun x y z h1 h2 => by unfold hless at *; simp only [decide_eq_false_iff_not] at *; omega⟩
theorem hless_tot {x y : Nm} (h1 : hless x y = false) (h2 : hless y x = false) : x = y := by
  unfold hless at *
  simp only [decide_eq_false_iff_not] at *
  exact Nm.num_inj (by omega)
theorem bc_less {all : List Nm} {A : Option Addr} {c q5 : Nat} {H0 : List (Nat × Obj)} (hmem : (q5, .cells #[.slice A all.length c] 28 (0, 0)) ∈ H0) (hle : all.length ≤ 1000) (d : List Nm) (w : World) (i j : Nat) (hi : i < d.length) (hj : j < d.length) (hd : d.length = all.length) (hr : Rd w A d) (hH : ∀ p ∈ H0, w.heap[p.1]? = some p.2) :
    Ret Tryz.prog 92 (#[.int .i64 (i : Int), .int .i64 (j : Int)] ++ #[.pointer (some ⟨q5, 0, none⟩)]) w (.bool (hless d[i] d[j])) := by
  have h1 := hH _ hmem
  simp only at h1
  refine bcl_c d A c q5 i j w hi hj (by omega) hr ?_ (Array.getElem?_eq_some_iff.1 h1).1
  rw [hd]
  simp [World.cell?, h1]
noncomputable def snT : TypeInfo := (Tryz.prog.info? 28).get (by kernel_rfl)
noncomputable def snE : TypeInfo := (Tryz.prog.info? 24).get (by kernel_rfl)
theorem snK (n : Nat) (h2 : 2 ≤ n) : Lib.swapperK n snE 17 = 5 := by
  have a : snE.hasPointers = false := by kernel_rfl
  have b : snE.bytes = 8 := by kernel_rfl
  have c : (n == 0) = false := by simp; omega
  have d : (n == 1) = false := by simp; omega
  simp [Lib.swapperK, a, b, c, d]
theorem sortNm : SortTy 28 24 (Cel.sz Nm) := ⟨snT, snE, 17, by kernel_rfl, by kernel_rfl, by kernel_rfl, by kernel_rfl, fun _ => by kernel_rfl, by kernel_rfl, fun _ => by kernel_rfl, .inr snK⟩
theorem keyNm : KeyTy Tryz.prog Nm 24 where
  eq := fun w a b => eq_nm w a b
  chk := fun b w a => by kernel_rfl
  und := .inr ⟨_, _, Tryz.underlying24⟩
  bits := fun a => by simp [Instr.sameBits, Cel.cs, Nm.cs]
/-- The accepted votes of a slot. -/
def slP (s : Int) (v : Vt) : Bool := v.slot == s
def bsV (m : Int) (p : Nm) (l : List Vt) (s : Int) : List Vt := accV m p (l.filter (slP s))
/-- Which value a vote of a kind is for. -/
def kOf (k : Int) (v : Vt) : Option Nm := if (v.kind == k) = true then some v.val else none
/-- The values other than none with at least q signers. -/
def pkP (q : Int) (y : Nm × Int) : Bool := (y.1 != Nm.zero) && (decide (q ≤ (size y.2 : Int)))
def pkV (q : Int) (mp : List (Nm × Int)) : List Nm := isort hless ((mp.filter (pkP q)).map (·.1))
def proV (m : Int) (p : Nm) (l : List Vt) (s : Int) : List Nm := pkV 1 (sgMap (kOf 1) (bsV m p l s))
def cerV (m : Int) (p : Nm) (l : List Vt) (s : Int) : List Nm := pkV (quorum (size m)) (sgMap (kOf 2) (bsV m p l s))
def echV (m : Int) (p : Nm) (l : List Vt) (s : Int) (x : Nm) : Int := valOf (sgMap (kOf 2) (bsV m p l s)) x
theorem bsV_len (m : Int) (p : Nm) (l : List Vt) (s : Int) : (bsV m p l s).length ≤ l.length := Nat.le_trans (accV_len _ _ _) (List.length_filter_le _ _)
theorem pkV_len (q : Int) (mp : List (Nm × Int)) : (pkV q mp).length ≤ mp.length := by
  unfold pkV
  rw [(isort_perm hless _).length_eq, List.length_map]
  exact List.length_filter_le _ _
theorem proV_len (m : Int) (p : Nm) (l : List Vt) (s : Int) : (proV m p l s).length ≤ l.length := Nat.le_trans (pkV_len _ _) (Nat.le_trans (sgMap_len _ _) (bsV_len _ _ _ _))
theorem cerV_len (m : Int) (p : Nm) (l : List Vt) (s : Int) : (cerV m p l s).length ≤ l.length := Nat.le_trans (pkV_len _ _) (Nat.le_trans (sgMap_len _ _) (bsV_len _ _ _ _))
def pickB {κ : Type} (g : κ × Int → Bool) (l : List (κ × Int)) (sn : Array Nat) : List κ := ((sn.toList.filterMap fun k => l[k]?).filter g).map (·.1)
theorem pickB_yes {κ : Type} {g : κ × Int → Bool} {l : List (κ × Int)} {sn : Array Nat} {k : Nat} {out : List κ} (hk : k < l.length) (h : out = pickB g l sn) (hq : g l[k] = true) : out ++ [l[k].1] = pickB g l (sn.push k) := by
  subst h; unfold pickB
  simp [Array.toList_push, List.filterMap_append, List.getElem?_eq_getElem hk, List.filter_append, hq]
theorem pickB_no {κ : Type} {g : κ × Int → Bool} {l : List (κ × Int)} {sn : Array Nat} {k : Nat} {out : List κ} (hk : k < l.length) (h : out = pickB g l sn) (hq : g l[k] = false) : out = pickB g l (sn.push k) := by
  subst h; unfold pickB
  simp [Array.toList_push, List.filterMap_append, List.getElem?_eq_getElem hk, List.filter_append, hq]
theorem pickB_len {κ : Type} {g : κ × Int → Bool} {l : List (κ × Int)} {sn : Array Nat} (h : Seen l sn) : (pickB g l sn).length ≤ l.length := by
  unfold pickB
  rw [List.length_map]
  exact Nat.le_trans (List.length_filter_le _ _) (Nat.le_trans (List.length_filterMap_le _ _) (nodup_len h.1 h.2))
theorem pickB_all {κ : Type} {g : κ × Int → Bool} {l : List (κ × Int)} {sn : Array Nat} (h : Seen l sn) (hall : ∀ k, k < l.length → sn.contains k = true) : (pickB g l sn).Perm ((l.filter g).map (·.1)) := by
  unfold pickB
  exact ((seen_perm l sn.toList h.1 h.2 (fun k hk => by simpa using hall k hk)).filter _).map _
theorem bc_fin {q : Int} {mp : List (Nm × Int)} {out so : List Nm} {sn : Array Nat} (hsn : Seen mp sn) (hall : ∀ k, k < mp.length → sn.contains k = true) (ho : out = pickB (pkP q) mp sn) (hp : so.Perm out) (ha : Asc hless so) : so = pkV q mp := by
  have h1 : so.Perm (pkV q mp) := by
    refine (hp.trans ?_).trans (isort_perm hless _).symm
    rw [ho]; exact pickB_all hsn hall
  exact up_ext (asc_up ha) (swo_up hless_swo _) h1 (fun x hx y hy => hless_tot)
theorem sgk_bk {k : Int} {a : List Vt} {j : Nat} {mp : List (Nm × Int)} (hk : j < a.length) (h : mp = sgMap (kOf k) (a.take j)) : sgStep (kOf k) mp a[j] = sgMap (kOf k) (a.take (j + 1)) := by
  rw [List.take_succ_eq_append_getElem hk, sgMap_snoc, h]
theorem sgk_yes {k : Int} {v : Vt} {mp : List (Nm × Int)} (h : (v.kind == k) = true) : sgStep (kOf k) mp v = upd mp v.val (bits .or .i64 (valOf mp v.val) (2 ^ v.signer.toNat)) := by
  unfold sgStep kOf; rw [if_pos h]
theorem sgk_no {k : Int} {v : Vt} {mp : List (Nm × Int)} (h : (v.kind == k) = false) : sgStep (kOf k) mp v = mp := by
  unfold sgStep kOf; rw [if_neg (by rw [h]; simp)]
set_option maxRecDepth 100000 in
set_option maxHeartbeats 2000000 in
theorem bslots_c (m : Int) (p : Nm) (l : List Vt) (s : Int) (A : Option Addr) (c : Nat) (w : World) (hm : W64 m) (hok : ∀ u ∈ l, W64 u.support) (hl : l.length ≤ 1000) (hr : Rd w A l) : Calls Tryz.prog 94 #[.int .i64 m, .agg p.cs, .slice A l.length c, .int .i64 s] w (fun r w' => ∃ A c Hr, r = .returned (.slice A (bsV m p l s).length c) ∧ RowIs 47 22 A (bsV m p l s).length c (cells (bsV m p l s)) Hr ∧ St w Hr w') := by
 refine calls_W (n := 31) Tryz.func94 rfl [(0, .int .i64 m), (1, .agg p.cs), (2, .slice A l.length c), (3, .int .i64 s)] rfl ⟨by kernel_rfl, by kernel_rfl⟩ (W.weak (Ψ := St w []) (fun w' h => by rw [h]; exact St.start w) (W.seq (W.rg od2 (T.bx 5 24 (.agg p.cs) (p.cs) tv3 (fun b1 => T.pu 8 (.slice none 0 0) (T.nil (QN.seq (W.seq (W.rg od1 (T.pu 9 (.slice none 0 0) (T.nil (QN.seq (W.seq (W.seq (W.rg od3 (T.pu 12 (.slice A l.length c) (T.pi 13 ((l.length : Nat) : Int) (T.pi 14 0 (T.nil (QN.seq (W.block (W.loop (σ := Nat × List Vt × Option Addr × Nat × List (Nat × Obj)) (fun gs => gs.1 ≤ l.length ∧ gs.2.1 = (l.take gs.1).filter (slP s) ∧ RowIs 47 22 gs.2.2.1 gs.2.1.length gs.2.2.2.1 (cells gs.2.1) gs.2.2.2.2) (fun gs => [(0, .int .i64 m), (3, .int .i64 s), (5, .pointer (some ⟨b1, 0, none⟩)), (8, .slice none 0 0), (9, .slice gs.2.2.1 gs.2.1.length gs.2.2.2.1), (12, .slice A l.length c), (13, .int .i64 ((l.length : Nat) : Int)), (14, .int .i64 (gs.1 : Int))]) (fun gs => St w (gs.2.2.2.2 ++ [(b1, Obj.cells p.cs 24 (0, 0))])) (fun gs => l.length - gs.1) (0, [], none, 0, []) ?_ (by kernel_rfl) (fun w h => h) ?_))))))))))))))))))))))
 ·
  try dsimp only
  exact ⟨Nat.zero_le _, rfl, RowIs.nil⟩
 rintro ⟨k, own, A9, c9, Hr9⟩ hI_
 obtain ⟨hk, hown, hrow9⟩ : k ≤ l.length ∧ own = (l.take k).filter (slP s) ∧ RowIs 47 22 A9 own.length c9 (cells own) Hr9 := hI_
 have hol : own.length ≤ k := by rw [hown]; exact Nat.le_trans (List.length_filter_le _ _) (List.length_take_le _ _)
 refine W.seq (W.rg od1 (T.pb 15 (decide ((k : Int) < ((l.length : Nat) : Int))) (T.nil (QN.seq (W.seq (W.cd (decide ((k : Int) < ((l.length : Nat) : Int))) (fun h2 => ?_) (fun h2 => ?_)))))))
 ·
  have h2' := of_decide_eq_true h2
  have hl3 : k < l.length := by omega
  refine W.skip (QN.seq (W.seq (W.block (W.seq (W.rg od4 ?_)))))
  obtain ⟨b4, o5, hA6, hr7⟩ := (Rd.arr hr _) k hl3
  refine T.ix 16 25 47 22 A l.length c (k : Int) k b4 o5 hA6 rfl (by omega) (T.lr false 17 (l[k]'hl3).cs 47 b4 (o5 + k * 22) hr7 (T.al 11 47 Vt.zero.cs tv3 (fun b8 => T.sp 47 b8 0 (.agg (l[k]'hl3).cs) Vt.zero.cs (l[k]'hl3).cs 47 pm0 tv2 (T.nil (QN.seq (W.seq (W.rg od4 (T.pu 18 (.pointer (some ⟨b8, 1, none⟩)) (T.ld false 19 (.int .i64 ((l[k]'hl3).slot)) 3 b8 1 (fun w h => St.cellM h mm0 (by kernel_rfl)) (T.pi 20 s (T.pb 21 (((l[k]'hl3).slot) == s) (T.nil (QN.seq (W.cd (((l[k]'hl3).slot) == s) (fun h9 => ?_) (fun h9 => ?_)))))))))))))))
  ·
   refine W.rg od5 (T.pu 22 (.slice A9 own.length c9) (T.lr false 23 (l[k]'hl3).cs 47 b8 0 (fun w h => St.rangeM h (l[k]'hl3).cs mm0 (by kernel_rfl)) (T.lit 24 25 47 1 #[(0, .agg (l[k]'hl3).cs)] (cells ([(l[k]'hl3)] : List Vt)).toArray (by kernel_rfl) (by kernel_rfl) (by kernel_rfl) (by kernel_rfl) tv3 (fun b10 => T.appC 25 25 47 64 A9 c9 (own : List Vt) Hr9 b10 0 1 ([(l[k]'hl3)] : List Vt) ((((pm0.cons _).trans List.perm_middle.symm).cons _).trans List.perm_middle.symm) (by kernel_rfl) (by kernel_rfl) (by kernel_rfl) (by kernel_rfl) hrow9 (fun w h => St.rangeM h (cells ([(l[k]'hl3)] : List Vt)).toArray (List.mem_append_right _ mm0) (by kernel_rfl)) (by unfold maxLen; first | omega | (simp; omega)) (by first | omega | (simp; omega)) tv3 (fun A11 c12 Hr13 hrow14 => T.pu 9 (.slice A11 ((own ++ ([(l[k]'hl3)])).length) c12) (T.nil (QN.blkNormal (QN.seq (W.rg od2 (T.pw 26 ((k : Int) + 1) (T.pi 14 ((k : Int) + 1) (T.nil (QN.back (k + 1, own ++ ([(l[k]'hl3)]), A11, c12, Hr13) ?_ ?_ (by kernel_rfl) (fun w h => (h.perm (pm0.trans (pm2.append_left Hr13))).part (List.Sublist.append (List.Sublist.refl _) ns1)))))))))))))))
   ·
    try dsimp only
    exact ⟨by omega, filt_yes (p := slP s) (by omega) hown h9, hrow14⟩
   · show l.length - _ < l.length - _; omega
  ·
   refine W.skip (QN.blkNormal (QN.seq (W.rg od2 (T.pw 26 ((k : Int) + 1) (T.pi 14 ((k : Int) + 1) (T.nil (QN.back (k + 1, own, A9, c9, Hr9) ?_ ?_ (by kernel_rfl) (fun w h => (h.perm (((pm0.cons _).trans List.perm_middle.symm).trans (pm1.append_left Hr9))).part (List.Sublist.append (List.Sublist.refl _) ns1)))))))))
   ·
    try dsimp only
    exact ⟨by omega, filt_no (p := slP s) (by omega) hown h9, hrow9⟩
   · show l.length - _ < l.length - _; omega
 ·
  have h2' := of_decide_eq_false h2
  refine W.exit (QN.thenExit (QN.thenExit (QN.blkHit (QN.seq (W.seq (W.rg od5 (T.pi 27 m (T.lr false 28 p.cs 24 b1 0 (fun w h => St.rangeM h p.cs (List.mem_append_right _ mm0) (by kernel_rfl)) (T.pu 29 (.slice A9 own.length c9) (T.callR 30 25 #[.int .i64 m, .agg p.cs, .slice A9 own.length c9] 47 22 (accV m p own).length (cells (accV m p own)) (by kernel_rfl) (by kernel_rfl) ent25 (fun w hw => accepted_c m p own A9 c9 w (by assumption) (fun u hu => hok u (List.mem_of_mem_take (List.mem_filter.1 (hown ▸ hu)).1)) (by first | omega | (simp; done) | (simp; omega)) (Arr.rd (Arr.row hrow9 rfl rfl _) hw)) tv3 (fun A15 c16 Hr17 hrow18 => T.pu 8 (.slice A15 ((accV m p own).length) c16) (T.nil (QN.seq (W.ret (QN.done (.inl rfl) 8 (.slice A15 ((accV m p own).length) c16) rfl (by kernel_rfl) (fun w hw => ?_))))))))))))))))
  exact (have hkl : k = l.length := (by omega); have hoq : own = l.filter (slP s) := (by rw [hown, hkl, List.take_length]); have e1 : accV m p own = bsV m p l s := (by rw [hoq]; rfl); by rw [← e1]; exact ⟨A15, c16, Hr17, rfl, hrow18, hw.part (List.sublist_append_left _ _)⟩)
set_option maxRecDepth 100000 in
set_option maxHeartbeats 2000000 in
theorem signers_c (m : Int) (p : Nm) (l : List Vt) (s kd : Int) (A : Option Addr) (c : Nat) (w : World) (hm : W64 m) (hok : ∀ u ∈ l, W64 u.support) (hl : l.length ≤ 1000) (hr : Rd w A l) : Calls Tryz.prog 52 #[.int .i64 m, .agg p.cs, .slice A l.length c, .int .i64 s, .int .i64 kd] w (fun r w' => ∃ b, r = .returned (.map (some b)) ∧ St w [(b, mapOf (sgMap (kOf kd) (bsV m p l s)))] w') := by
 refine calls_W (n := 41) Tryz.func52 rfl [(0, .int .i64 m), (1, .agg p.cs), (2, .slice A l.length c), (3, .int .i64 s), (4, .int .i64 kd)] rfl ⟨by kernel_rfl, by kernel_rfl⟩ (W.weak (Ψ := St w []) (fun w' h => by rw [h]; exact St.start w) (W.seq (W.rg od2 (T.bx 6 24 (.agg p.cs) (p.cs) tv3 (fun b1 => T.pu 10 (.map none) (T.nil (QN.seq (W.seq (W.rg od2 (T.mapNew (κ := Nm) 14 65 (by kernel_rfl) (fun w => by kernel_rfl) tv3 (fun b2 => T.pu 11 (.map (some b2)) (T.nil (QN.seq (W.seq (W.seq (W.rg od7 (T.pi 15 m (T.lr false 16 p.cs 24 b1 0 (fun w h => St.rangeM h p.cs mm1 (by kernel_rfl)) (T.pu 17 (.slice A l.length c) (T.pi 18 s (T.callR 19 94 #[.int .i64 m, .agg p.cs, .slice A l.length c, .int .i64 s] 47 22 (bsV m p l s).length (cells (bsV m p l s)) (by kernel_rfl) (by kernel_rfl) ent94 (fun w hw => bslots_c m p l s A c w (by assumption) hok (by first | omega | (simp; done) | (simp; omega)) (Arr.rd (Rd.arr hr _) hw)) tv3 (fun A3 c4 Hr5 hrow6 => T.pi 20 (((bsV m p l s).length : Nat) : Int) (T.pi 21 0 (T.nil (QN.seq (W.block ?_))))))))))))))))))))))))))
 have hac := bsV_len m p l s
 refine W.loop (σ := Nat × List (Nm × Int)) (fun gs => gs.1 ≤ (bsV m p l s).length ∧ gs.2 = sgMap (kOf kd) ((bsV m p l s).take gs.1)) (fun gs => [(4, .int .i64 kd), (10, .map none), (11, .map (some b2)), (19, .slice A3 ((bsV m p l s).length) c4), (20, .int .i64 (((bsV m p l s).length : Nat) : Int)), (21, .int .i64 (gs.1 : Int))]) (fun gs => St w (Hr5 ++ [(b2, mapOf gs.2), (b1, Obj.cells p.cs 24 (0, 0))])) (fun gs => (bsV m p l s).length - gs.1) (0, ([] : List (Nm × Int))) ?_ (by kernel_rfl) (fun w h => h) ?_
 ·
  try dsimp only
  exact ⟨Nat.zero_le _, rfl⟩
 rintro ⟨k2, mp⟩ hI_
 obtain ⟨hk2, hmp⟩ : k2 ≤ (bsV m p l s).length ∧ mp = sgMap (kOf kd) ((bsV m p l s).take k2) := hI_
 refine W.seq (W.rg od1 (T.pb 22 (decide ((k2 : Int) < (((bsV m p l s).length : Nat) : Int))) (T.nil (QN.seq (W.seq (W.cd (decide ((k2 : Int) < (((bsV m p l s).length : Nat) : Int))) (fun h7 => ?_) (fun h7 => ?_)))))))
 ·
  have h7' := of_decide_eq_true h7
  have hl8 : k2 < (bsV m p l s).length := by omega
  refine W.skip (QN.seq (W.seq (W.block (W.seq (W.rg od4 ?_)))))
  obtain ⟨b9, o10, hA11, hr12⟩ := (Arr.row hrow6 rfl rfl _) k2 hl8
  refine T.ix 23 25 47 22 A3 ((bsV m p l s).length) c4 (k2 : Int) k2 b9 o10 hA11 rfl (by omega) (T.lr false 24 ((bsV m p l s)[k2]'hl8).cs 47 b9 (o10 + k2 * 22) hr12 (T.al 13 47 Vt.zero.cs tv3 (fun b13 => T.sp 47 b13 0 (.agg ((bsV m p l s)[k2]'hl8).cs) Vt.zero.cs ((bsV m p l s)[k2]'hl8).cs 47 pm0 tv2 (T.nil (QN.seq (W.seq (W.rg od4 (T.pu 25 (.pointer (some ⟨b13, 0, none⟩)) (T.ld false 26 (.int .i64 (((bsV m p l s)[k2]'hl8).kind)) 3 b13 0 (fun w h => St.cellM h mm0 (by kernel_rfl)) (T.pi 27 kd (T.pb 28 ((((bsV m p l s)[k2]'hl8).kind) == kd) (T.nil (QN.seq (W.cd ((((bsV m p l s)[k2]'hl8).kind) == kd) (fun h14 => ?_) (fun h14 => ?_)))))))))))))))
  ·
   refine W.drawn2 (Ψ := St w ((b13, Obj.cells ((bsV m p l s)[k2]'hl8).cs 47 (0, 0)) :: (Hr5 ++ [(b2, mapOf mp), (b1, Obj.cells p.cs 24 (0, 0))]))) (St w ((b13, Obj.cells ((bsV m p l s)[k2]'hl8).cs 47 (0, 0)) :: (Hr5 ++ [(b1, Obj.cells p.cs 24 (0, 0))]))) [(0, true), (1, true), (2, true), (4, true), (5, true), (6, true)] 3 [(7, true), (8, false), (9, true), (10, false)] 8 [(9, true), (3, false), (7, true), (10, false)] hmx (by kernel_rfl) (NoPanic.inBlock (NoPanic.then (NoPanic.then (NoPanic.inBlock (NoPanic.then NoPanic.body))))) (fun w h => h.drew) (fun w h => (h.perm (pm0.trans ((pm0.trans (pm1.append_left Hr5)).cons _))).part ((List.Sublist.append (List.Sublist.refl _) ns1).cons_cons _)) (T.pu 29 (.map (some b2)) (T.pu 30 (.pointer (some ⟨b13, 14, none⟩)) (T.lr true 31 (((bsV m p l s)[k2]'hl8).val).cs 24 b13 14 (fun w h => St.rangeM h (((bsV m p l s)[k2]'hl8).val).cs mm0 (by kernel_rfl)) (T.pu 33 (.pointer (some ⟨b13, 4, none⟩)) (T.ld true 34 (.int .i64 (((bsV m p l s)[k2]'hl8).signer)) 3 b13 4 (fun w h => St.cellM h mm0 (by kernel_rfl)) ?_)))))
   have hsg := accV_sg (m := m) (p := p) (l := l.filter (slP s)) (List.getElem_mem (h := by omega) : (bsV m p l s)[k2] ∈ bsV m p l s)
   refine T.shl 35 .i64 .i64 1 (((bsV m p l s)[k2]'hl8).signer) (.int .i64 (2 ^ (((bsV m p l s)[k2]'hl8).signer).toNat)) (by kernel_rfl) (by kernel_rfl) (by omega) (shl_one (by omega) (by omega)) (T.split (fun w h => (h.perm (pm0.trans ((pm0.trans (pm1.append_left Hr5)).cons _))).part ((List.Sublist.append (List.Sublist.refl _) ns1).cons_cons _)) ?_ ?_)
   ·
    refine T.mapLook 32 65 24 22 keyNm (((bsV m p l s)[k2]'hl8).val) mp b2 (valOf mp (((bsV m p l s)[k2]'hl8).val)) ((((pm0.append_left Hr5).trans List.perm_middle).cons _).trans (List.Perm.swap _ _ _)) (by kernel_rfl) (fun w => by kernel_rfl) (by kernel_rfl) (fun w => by kernel_rfl) rfl (T.pi 36 (bits .or .i64 (valOf mp (((bsV m p l s)[k2]'hl8).val)) (2 ^ (((bsV m p l s)[k2]'hl8).signer).toNat)) (T.mapEnt 37 65 24 22 keyNm (((bsV m p l s)[k2]'hl8).val) mp b2 ((((pm0.append_left Hr5).trans List.perm_middle).cons _).trans (List.Perm.swap _ _ _)) (by kernel_rfl) (fun w => by kernel_rfl) (by kernel_rfl) (fun w => by kernel_rfl) (fun w h => (h.perm (pm1.trans ((((pm0.cons _).trans List.perm_middle.symm).trans (pm1.append_left Hr5)).cons _))).part ((List.Sublist.append (List.Sublist.refl _) ns1).cons_cons _)) (T.pi 38 ((entI mp (((bsV m p l s)[k2]'hl8).val) : Nat) : Int) (T.mapPut 65 (((bsV m p l s)[k2]'hl8).val) (bits .or .i64 (valOf mp (((bsV m p l s)[k2]'hl8).val)) (2 ^ (((bsV m p l s)[k2]'hl8).signer).toNat)) (entL mp (((bsV m p l s)[k2]'hl8).val)) (upd mp (((bsV m p l s)[k2]'hl8).val) (bits .or .i64 (valOf mp (((bsV m p l s)[k2]'hl8).val)) (2 ^ (((bsV m p l s)[k2]'hl8).signer).toNat))) b2 (entI mp (((bsV m p l s)[k2]'hl8).val)) pm0 (by kernel_rfl) (fun w => by kernel_rfl) look_lt look_key rfl (fun w h => (h.perm (pm1.trans ((((pm0.cons _).trans List.perm_middle.symm).trans (pm1.append_left Hr5)).cons _))).part ((List.Sublist.append (List.Sublist.refl _) ns1).cons_cons _)) (T.nil (QN.blkNormal (QN.seq (W.rg od2 (T.pw 39 ((k2 : Int) + 1) (T.pi 21 ((k2 : Int) + 1) (T.nil (QN.back (k2 + 1, upd mp (((bsV m p l s)[k2]'hl8).val) (bits .or .i64 (valOf mp (((bsV m p l s)[k2]'hl8).val)) (2 ^ (((bsV m p l s)[k2]'hl8).signer).toNat))) ?_ ?_ (by kernel_rfl) (fun w h => (h.perm (((((pm0.cons _).trans List.perm_middle.symm).cons _).trans List.perm_middle.symm).trans ((pm0.trans (pm1.cons _)).append_left Hr5))).part (List.Sublist.append (List.Sublist.refl _) ns2))))))))))))))
    ·
     try dsimp only
     exact ⟨by omega, (sgk_yes h14).symm.trans (sgk_bk (by omega) hmp)⟩
    · show (bsV m p l s).length - _ < (bsV m p l s).length - _; omega
   ·
    refine T.mapEnt 37 65 24 22 keyNm (((bsV m p l s)[k2]'hl8).val) mp b2 ((((pm0.append_left Hr5).trans List.perm_middle).cons _).trans (List.Perm.swap _ _ _)) (by kernel_rfl) (fun w => by kernel_rfl) (by kernel_rfl) (fun w => by kernel_rfl) (fun w h => (h.perm (pm1.trans ((((pm0.cons _).trans List.perm_middle.symm).trans (pm1.append_left Hr5)).cons _))).part ((List.Sublist.append (List.Sublist.refl _) ns1).cons_cons _)) (T.pi 38 ((entI mp (((bsV m p l s)[k2]'hl8).val) : Nat) : Int) (T.mapLook 32 65 24 22 keyNm (((bsV m p l s)[k2]'hl8).val) (entL mp (((bsV m p l s)[k2]'hl8).val)) b2 (valOf mp (((bsV m p l s)[k2]'hl8).val)) pm0 (by kernel_rfl) (fun w => by kernel_rfl) (by kernel_rfl) (fun w => by kernel_rfl) valOf_ent (T.pi 36 (bits .or .i64 (valOf mp (((bsV m p l s)[k2]'hl8).val)) (2 ^ (((bsV m p l s)[k2]'hl8).signer).toNat)) (T.mapPut 65 (((bsV m p l s)[k2]'hl8).val) (bits .or .i64 (valOf mp (((bsV m p l s)[k2]'hl8).val)) (2 ^ (((bsV m p l s)[k2]'hl8).signer).toNat)) (entL mp (((bsV m p l s)[k2]'hl8).val)) (upd mp (((bsV m p l s)[k2]'hl8).val) (bits .or .i64 (valOf mp (((bsV m p l s)[k2]'hl8).val)) (2 ^ (((bsV m p l s)[k2]'hl8).signer).toNat))) b2 (entI mp (((bsV m p l s)[k2]'hl8).val)) pm0 (by kernel_rfl) (fun w => by kernel_rfl) look_lt look_key rfl (fun w h => (h.perm (pm1.trans ((((pm0.cons _).trans List.perm_middle.symm).trans (pm1.append_left Hr5)).cons _))).part ((List.Sublist.append (List.Sublist.refl _) ns1).cons_cons _)) (T.nil (QN.blkNormal (QN.seq (W.rg od2 (T.pw 39 ((k2 : Int) + 1) (T.pi 21 ((k2 : Int) + 1) (T.nil (QN.back (k2 + 1, upd mp (((bsV m p l s)[k2]'hl8).val) (bits .or .i64 (valOf mp (((bsV m p l s)[k2]'hl8).val)) (2 ^ (((bsV m p l s)[k2]'hl8).signer).toNat))) ?_ ?_ (by kernel_rfl) (fun w h => (h.perm (((((pm0.cons _).trans List.perm_middle.symm).cons _).trans List.perm_middle.symm).trans ((pm0.trans (pm1.cons _)).append_left Hr5))).part (List.Sublist.append (List.Sublist.refl _) ns2))))))))))))))
    ·
     try dsimp only
     exact ⟨by omega, (sgk_yes h14).symm.trans (sgk_bk (by omega) hmp)⟩
    · show (bsV m p l s).length - _ < (bsV m p l s).length - _; omega
  ·
   refine W.skip (QN.blkNormal (QN.seq (W.rg od2 (T.pw 39 ((k2 : Int) + 1) (T.pi 21 ((k2 : Int) + 1) (T.nil (QN.back (k2 + 1, mp) ?_ ?_ (by kernel_rfl) (fun w h => (h.perm (((pm0.cons _).trans List.perm_middle.symm).trans ((pm1.trans (pm1.cons _)).append_left Hr5))).part (List.Sublist.append (List.Sublist.refl _) ns2)))))))))
   ·
    try dsimp only
    exact ⟨by omega, (sgk_no h14).symm.trans (sgk_bk (by omega) hmp)⟩
   · show (bsV m p l s).length - _ < (bsV m p l s).length - _; omega
 ·
  have h7' := of_decide_eq_false h7
  refine W.exit (QN.thenExit (QN.thenExit (QN.blkHit (QN.seq (W.seq (W.rg od2 (T.pu 40 (.map (some b2)) (T.pu 10 (.map (some b2)) (T.nil (QN.seq (W.ret (QN.done (.inl rfl) 10 (.map (some b2)) rfl (by kernel_rfl) (fun w hw => ?_)))))))))))))
  exact (have e1 : mp = sgMap (kOf kd) (bsV m p l s) := (by rw [hmp, List.take_of_length_le (by omega)]); by rw [← e1]; exact ⟨_, rfl, hw.part (ns1.trans (List.sublist_append_right _ _))⟩)
set_option maxRecDepth 100000 in
set_option maxHeartbeats 2000000 in
theorem bcasc_c {w00 : World} {H0 : List (Nat × Obj)} (b : Nat) (mp : List (Nm × Int)) (q : Int) (w : World) (hk : (mp.map (·.1)).Nodup) (hml : mp.length ≤ 1000) (hst : St w00 ((b, mapOf mp) :: H0) w) : Calls Tryz.prog 51 #[.map (some b), .int .i64 q] w (fun r w' => ∃ A c Hr, r = .returned (.slice A (pkV q mp).length c) ∧ RowIs 24 8 A (pkV q mp).length c (cells (pkV q mp)) Hr ∧ St w00 (Hr ++ H0) w') := by
 refine calls_W (n := 33) Tryz.func51 rfl [(0, .map (some b)), (1, .int .i64 q)] rfl ⟨by kernel_rfl, by kernel_rfl⟩ (W.weak (Ψ := St w00 ((b, mapOf mp) :: H0)) (fun w' h => by rw [h]; exact hst) (W.seq (W.rg od1 (T.pu 4 (.slice none 0 0) (T.nil (QN.seq (W.seq (W.rg od1 (T.al 5 28 #[.slice none 0 0] tv3 (fun b1 => T.nil (QN.seq (W.seq (W.seq (W.rg od2 (T.pu 8 (.map (some b)) (T.mapRange 9 65 24 22 mp b pm1 (by kernel_rfl) (fun w => by kernel_rfl) (by kernel_rfl) tv3 (fun it2 => T.nil (QN.seq (W.block (W.loop (σ := Array Nat × List Nm × Option Addr × Nat × List (Nat × Obj)) (fun gs => Seen mp gs.1 ∧ gs.2.1 = pickB (pkP q) mp gs.1 ∧ RowIs 24 8 gs.2.2.1 gs.2.1.length gs.2.2.2.1 (cells gs.2.1) gs.2.2.2.2) (fun gs => [(1, .int .i64 q), (4, .slice none 0 0), (5, .pointer (some ⟨b1, 0, none⟩)), (9, .pointer (some ⟨it2, 0, none⟩))]) (fun gs => St w00 (gs.2.2.2.2 ++ ((it2, iterOf b mp.length gs.1) :: ((b, mapOf mp) :: ((b1, Obj.cells #[.slice gs.2.2.1 gs.2.1.length gs.2.2.2.1] 28 (0, 0)) :: H0))))) (fun gs => mp.length - gs.1.size) (#[], [], none, 0, []) ?_ (by kernel_rfl) (fun w h => h) ?_))))))))))))))))))))
 ·
  try dsimp only
  exact ⟨⟨by simp, by simp⟩, rfl, RowIs.nil⟩
 rintro ⟨sn, out, A5, c5, Hr5⟩ hI_
 obtain ⟨hsn, hout, hrow5⟩ : Seen mp sn ∧ out = pickB (pkP q) mp sn ∧ RowIs 24 8 A5 out.length c5 (cells out) Hr5 := hI_
 have hol5 : out.length ≤ mp.length := by rw [hout]; exact pickB_len hsn
 refine W.seq (W.rg od2 (T.mapNext 10 0 mp b it2 sn (((pm0.append_left Hr5).trans List.perm_middle).trans (((pm0.append_left Hr5).trans List.perm_middle).cons _)) (by kernel_rfl) (fun w => by kernel_rfl) tv3 (fun hall6 => ?_) (fun k3 hlt4 hc5 => ?_)))
 ·
  refine T.pb 11 false (T.nil (QN.seq (W.seq (W.cd false (fun h7 => ?_) (fun h7 => ?_)))))
  · exact absurd h7 (by decide)
  ·
   refine W.exit (QN.thenExit (QN.thenExit (QN.blkHit (QN.seq (W.seq (W.rg od4 (T.ld false 28 (.slice A5 out.length c5) 28 b1 0 (fun w h => St.cellM h (.tail _ (.tail _ (List.mem_append_right _ mm0))) (by kernel_rfl)) (T.pu 29 (.iface 28 (.slice A5 out.length c5)) (T.pu 30 (.func (.func 92) #[] #[.pointer (some ⟨b1, 0, none⟩)]) (T.callG (β := List Nm × List (Nat × Obj)) 31 62 #[.iface 28 (.slice A5 out.length c5), .func (.func 92) #[] #[.pointer (some ⟨b1, 0, none⟩)]] (fun gs => .tuple #[]) (fun gs => St w00 (gs.2 ++ ((it2, iterOf b mp.length sn) :: ((b, mapOf mp) :: ((b1, Obj.cells #[.slice A5 out.length c5] 28 (0, 0)) :: H0))))) (fun gs => gs.1.Perm out ∧ Asc hless gs.1 ∧ RowIs 24 8 A5 out.length c5 (cells gs.1) gs.2) (by kernel_rfl) (by kernel_rfl) ent62 ?_ tv3 ?_))))))))))
   · exact fun w hw => sliceR_c (α := Nm) (H0 := ((it2, iterOf b mp.length sn) :: ((b, mapOf mp) :: ((b1, Obj.cells #[.slice A5 out.length c5] 28 (0, 0)) :: H0)))) sortNm hrow5 (by omega) ent92 (bc_less mm2 (by omega)) hless_swo w (hw.perm (((((pm0.cons _).trans List.perm_middle.symm).cons _).trans List.perm_middle.symm).trans ((pm0.trans ((pm0.trans (pm0.cons _)).cons _)).append_left Hr5)))
   rintro ⟨so, Hg⟩ hp_
   have hp8 : so.Perm out ∧ Asc hless so ∧ RowIs 24 8 A5 out.length c5 (cells so) Hg := hp_
   refine T.nil (QN.seq (W.seq (W.rg od2 (T.ld false 32 (.slice A5 out.length c5) 28 b1 0 (fun w h => St.cellM h (List.mem_append_right _ mm2) (by kernel_rfl)) (T.pu 4 (.slice A5 out.length c5) (T.nil (QN.seq (W.ret (QN.done (.inl rfl) 4 (.slice A5 out.length c5) rfl (by kernel_rfl) (fun w hw => ?_))))))))))
   exact (have hq := hp8; have e1 : so = pkV q mp := bc_fin hsn hall6 hout hq.1 hq.2.1; have hsl : out.length = so.length := hq.1.length_eq.symm; by rw [← e1]; exact ⟨A5, c5, Hg, by rw [hsl], by rw [← hsl]; exact hq.2.2, ((hw.perm pm0).part (List.Sublist.append (List.Sublist.refl _) ((((List.Sublist.refl _).cons _).cons _).cons _)))⟩)
 ·
  refine T.pb 11 true (T.nil (QN.seq (W.seq (W.cd true (fun h9 => ?_) (fun h9 => ?_)))))
  ·
   refine W.skip (QN.seq (W.block (W.seq (W.rg od6 (T.mapEntry 12 mp b it2 k3 sn hlt4 (pm0.trans (pm0.cons _)) (by kernel_rfl) (fun w => by kernel_rfl) (T.pu 13 (.agg (((mp)[k3]'hlt4).1).cs) (T.pi 14 (((mp)[k3]'hlt4).2) (T.al 6 24 Nm.zero.cs tv3 (fun b10 => T.sp 24 b10 0 (.agg (((mp)[k3]'hlt4).1).cs) Nm.zero.cs (((mp)[k3]'hlt4).1).cs 24 pm0 tv2 (T.pi 7 (((mp)[k3]'hlt4).2) (T.nil (QN.seq (W.seq (W.rg od9 (T.lr false 15 (((mp)[k3]'hlt4).1).cs 24 b10 0 (fun w h => St.rangeM h (((mp)[k3]'hlt4).1).cs mm0 (by kernel_rfl)) (T.pu 16 (.agg Nm.zero.cs) (T.eqq 17 ((((mp)[k3]'hlt4).1) != Nm.zero) ((((mp)[k3]'hlt4).1) == Nm.zero) true 24 (((mp)[k3]'hlt4).1).cs Nm.zero.cs (by kernel_rfl) (by kernel_rfl) (by kernel_rfl) (by kernel_rfl) (fun w => eq_nm w (((mp)[k3]'hlt4).1) Nm.zero) (T.pb 18 ((((mp)[k3]'hlt4).1) != Nm.zero) (T.bk [(4, false), (5, false), (6, false), (7, false)] [(8, false)] 3 true ((((mp)[k3]'hlt4).1) != Nm.zero) 18 22 (.bool (decide (q ≤ (size (((mp)[k3]'hlt4).2) : Int)))) (fun hg11 => ?_) ?_)))))))))))))))))))
   ·
    have hg11_ := hg11
    refine T.pi 19 (((mp)[k3]'hlt4).2) (T.cp 20 56 #[.int .i64 (((mp)[k3]'hlt4).2)] (.int .i64 (size (((mp)[k3]'hlt4).2) : Int)) ent56 (fun w hw => Ret.same (size_c _ w)) tv2 (T.pi 21 q (T.pb 22 (decide (q ≤ (size (((mp)[k3]'hlt4).2) : Int))) ?_)))
    exact T.blkEnd (by kernel_rfl) (fun w h => h)
   refine T.an 23 ((((mp)[k3]'hlt4).1) != Nm.zero) (decide (q ≤ (size (((mp)[k3]'hlt4).2) : Int))) (T.nil (QN.seq (W.cd (((((mp)[k3]'hlt4).1) != Nm.zero) && (decide (q ≤ (size (((mp)[k3]'hlt4).2) : Int)))) (fun h12 => ?_) (fun h12 => ?_))))
   ·
    have h12l := (Bool.and_eq_true_iff.1 h12).1
    have h12r := (Bool.and_eq_true_iff.1 h12).2
    have h12r' := of_decide_eq_true h12r
    refine W.rg od5 (T.ld false 24 (.slice A5 out.length c5) 28 b1 0 (fun w h => St.cellM h (.tail _ (.tail _ (.tail _ (List.mem_append_right _ mm0)))) (by kernel_rfl)) (T.lr false 25 (((mp)[k3]'hlt4).1).cs 24 b10 0 (fun w h => St.rangeM h (((mp)[k3]'hlt4).1).cs mm0 (by kernel_rfl)) (T.lit 26 28 24 1 #[(0, .agg (((mp)[k3]'hlt4).1).cs)] (cells ([((mp)[k3]'hlt4).1] : List Nm)).toArray (by kernel_rfl) (by kernel_rfl) (by kernel_rfl) (by kernel_rfl) tv3 (fun b13 => T.appC 27 28 24 8 A5 c5 (out : List Nm) Hr5 b13 0 1 ([((mp)[k3]'hlt4).1] : List Nm) ((((((((pm0.cons _).trans List.perm_middle.symm).cons _).trans List.perm_middle.symm).cons _).trans List.perm_middle.symm).cons _).trans List.perm_middle.symm) (by kernel_rfl) (by kernel_rfl) (by kernel_rfl) (by kernel_rfl) hrow5 (fun w h => St.rangeM h (cells ([((mp)[k3]'hlt4).1] : List Nm)).toArray (List.mem_append_right _ mm0) (by kernel_rfl)) (by unfold maxLen; first | omega | (simp; omega)) (by first | omega | (simp; omega)) tv3 (fun A14 c15 Hr16 hrow17 => T.sp 28 b1 0 (.slice A14 ((out ++ ([((mp)[k3]'hlt4).1])).length) c15) #[.slice A5 out.length c5] #[.slice A14 ((out ++ ([((mp)[k3]'hlt4).1])).length) c15] 28 ((pm4.append_left Hr16).trans List.perm_middle) tv2 (T.nil (QN.blkNormal (QN.back (sn.push k3, out ++ ([((mp)[k3]'hlt4).1]), A14, c15, Hr16) ?_ ?_ (by kernel_rfl) (fun w h => (h.perm (((pm0.cons _).trans List.perm_middle.symm).trans ((pm3.trans ((pm3.trans (pm0.cons _)).cons _)).append_left Hr16))).part (List.Sublist.append (List.Sublist.refl _) ((((((List.Sublist.refl _).cons _).cons _).cons_cons _).cons_cons _).cons_cons _)))))))))))
    ·
     try dsimp only
     exact ⟨(hsn.push hlt4 hc5).1, pickB_yes (g := pkP q) hlt4 hout h12, hrow17⟩
    · show mp.length - (sn.push k3).size < mp.length - sn.size; have := (hsn.push hlt4 hc5).2; rw [Array.size_push]; omega
   ·
    refine W.skip (QN.blkNormal (QN.back (sn.push k3, out, A5, c5, Hr5) ?_ ?_ (by kernel_rfl) (fun w h => (h.perm (((((((pm0.cons _).trans List.perm_middle.symm).cons _).trans List.perm_middle.symm).cons _).trans List.perm_middle.symm).trans ((pm1.trans ((pm1.trans (pm1.cons _)).cons _)).append_left Hr5))).part (List.Sublist.append (List.Sublist.refl _) (((((List.Sublist.refl _).cons _).cons_cons _).cons_cons _).cons_cons _)))))
    ·
     try dsimp only
     exact ⟨(hsn.push hlt4 hc5).1, pickB_no (g := pkP q) hlt4 hout h12, hrow5⟩
    · show mp.length - (sn.push k3).size < mp.length - sn.size; have := (hsn.push hlt4 hc5).2; rw [Array.size_push]; omega
  · exact absurd h9 (by decide)
set_option maxRecDepth 100000 in
set_option maxHeartbeats 2000000 in
theorem proposals_c (m : Int) (p : Nm) (l : List Vt) (s : Int) (A : Option Addr) (c : Nat) (w : World) (hm : W64 m) (hok : ∀ u ∈ l, W64 u.support) (hl : l.length ≤ 1000) (hr : Rd w A l) : Calls Tryz.prog 16 #[.int .i64 m, .agg p.cs, .slice A l.length c, .int .i64 s] w (fun r w' => ∃ A c Hr, r = .returned (.slice A (proV m p l s).length c) ∧ RowIs 24 8 A (proV m p l s).length c (cells (proV m p l s)) Hr ∧ St w Hr w') := by
 refine calls_W (n := 15) Tryz.func16 rfl [(0, .int .i64 m), (1, .agg p.cs), (2, .slice A l.length c), (3, .int .i64 s)] rfl ⟨by kernel_rfl, by kernel_rfl⟩ (W.weak (Ψ := St w []) (fun w' h => by rw [h]; exact St.start w) (W.seq (W.rg od2 (T.bx 5 24 (.agg p.cs) (p.cs) tv3 (fun b1 => T.pu 8 (.slice none 0 0) (T.nil (QN.seq (W.seq (W.rg od7 (T.pi 9 m (T.lr false 10 p.cs 24 b1 0 (fun w h => St.rangeM h p.cs mm0 (by kernel_rfl)) (T.pu 11 (.slice A l.length c) (T.pi 12 s (T.callG (β := Nat) 13 52 #[.int .i64 m, .agg p.cs, .slice A l.length c, .int .i64 s, .int .i64 1] (fun gs => .map (some gs)) (fun gs => St w [(gs, mapOf (sgMap (kOf 1) (bsV m p l s))), (b1, Obj.cells p.cs 24 (0, 0))]) (fun gs => True) (by kernel_rfl) (by kernel_rfl) ent52 ?_ tv3 ?_))))))))))))))
 · exact fun w hw => (signers_c m p l s 1 A c w (by assumption) hok (by first | omega | (simp; done) | (simp; omega)) (Arr.rd (Rd.arr hr _) hw)).mono fun r w' ⟨b, h1, h2⟩ => ⟨b, trivial, h1, hw.join h2⟩
 rintro bm2 hp_
 have hp3 : True := hp_
 refine T.callG (β := Option Addr × Nat × List (Nat × Obj)) 14 51 #[.map (some bm2), .int .i64 1] (fun gs => .slice gs.1 ((pkV 1 (sgMap (kOf 1) (bsV m p l s))).length) gs.2.1) (fun gs => St w (gs.2.2 ++ [(b1, Obj.cells p.cs 24 (0, 0))])) (fun gs => RowIs 24 8 gs.1 (pkV 1 (sgMap (kOf 1) (bsV m p l s))).length gs.2.1 (cells (pkV 1 (sgMap (kOf 1) (bsV m p l s)))) gs.2.2) (by kernel_rfl) (by kernel_rfl) ent51 ?_ tv3 ?_
 · exact fun w hw => (bcasc_c (H0 := [(b1, Obj.cells p.cs 24 (0, 0))]) bm2 (sgMap (kOf 1) (bsV m p l s)) 1 w (sgMap_keys _ _) (by have := sgMap_len (kOf 1) (bsV m p l s); have := bsV_len m p l s; omega) (show St _ [(bm2, mapOf (sgMap (kOf 1) (bsV m p l s))), (b1, Obj.cells p.cs 24 (0, 0))] w from hw)).mono fun r w' ⟨A, c, Hr, h1, h2, h3⟩ => ⟨(A, c, Hr), h2, h1, h3⟩
 rintro ⟨A4, c5, Hr6⟩ hp_
 have hp7 : RowIs 24 8 A4 (pkV 1 (sgMap (kOf 1) (bsV m p l s))).length c5 (cells (pkV 1 (sgMap (kOf 1) (bsV m p l s)))) Hr6 := hp_
 refine T.pu 8 (.slice A4 ((pkV 1 (sgMap (kOf 1) (bsV m p l s))).length) c5) (T.nil (QN.seq (W.ret (QN.done (.inl rfl) 8 (.slice A4 ((pkV 1 (sgMap (kOf 1) (bsV m p l s))).length) c5) rfl (by kernel_rfl) (fun w hw => ?_)))))
 exact ⟨A4, c5, Hr6, rfl, hp7, hw.part (List.sublist_append_left _ _)⟩
set_option maxRecDepth 100000 in
set_option maxHeartbeats 2000000 in
theorem certified_c (m : Int) (p : Nm) (l : List Vt) (s : Int) (A : Option Addr) (c : Nat) (w : World) (hm : W64 m) (hok : ∀ u ∈ l, W64 u.support) (hl : l.length ≤ 1000) (hr : Rd w A l) : Calls Tryz.prog 18 #[.int .i64 m, .agg p.cs, .slice A l.length c, .int .i64 s] w (fun r w' => ∃ A c Hr, r = .returned (.slice A (cerV m p l s).length c) ∧ RowIs 24 8 A (cerV m p l s).length c (cells (cerV m p l s)) Hr ∧ St w Hr w') := by
 have hz := size_le m
 refine calls_W (n := 18) Tryz.func18 rfl [(0, .int .i64 m), (1, .agg p.cs), (2, .slice A l.length c), (3, .int .i64 s)] rfl ⟨by kernel_rfl, by kernel_rfl⟩ (W.weak (Ψ := St w []) (fun w' h => by rw [h]; exact St.start w) (W.seq (W.rg od2 (T.bx 5 24 (.agg p.cs) (p.cs) tv3 (fun b1 => T.pu 8 (.slice none 0 0) (T.nil (QN.seq (W.seq (W.rg od10 (T.pi 9 m (T.lr false 10 p.cs 24 b1 0 (fun w h => St.rangeM h p.cs mm0 (by kernel_rfl)) (T.pu 11 (.slice A l.length c) (T.pi 12 s (T.callG (β := Nat) 13 52 #[.int .i64 m, .agg p.cs, .slice A l.length c, .int .i64 s, .int .i64 2] (fun gs => .map (some gs)) (fun gs => St w [(gs, mapOf (sgMap (kOf 2) (bsV m p l s))), (b1, Obj.cells p.cs 24 (0, 0))]) (fun gs => True) (by kernel_rfl) (by kernel_rfl) ent52 ?_ tv3 ?_))))))))))))))
 · exact fun w hw => (signers_c m p l s 2 A c w (by assumption) hok (by first | omega | (simp; done) | (simp; omega)) (Arr.rd (Rd.arr hr _) hw)).mono fun r w' ⟨b, h1, h2⟩ => ⟨b, trivial, h1, hw.join h2⟩
 rintro bm2 hp_
 have hp3 : True := hp_
 refine T.pi 14 m (T.cp 15 56 #[.int .i64 m] (.int .i64 (size m : Int)) ent56 (fun w hw => Ret.same (size_c _ w)) tv2 (T.cp 16 55 #[.int .i64 (size m : Int)] (.int .i64 (quorum (size m : Int))) ent55 (fun w hw => Ret.same (quorum_c _ w (by unfold W64; omega))) tv2 (T.callG (β := Option Addr × Nat × List (Nat × Obj)) 17 51 #[.map (some bm2), .int .i64 (quorum (size m : Int))] (fun gs => .slice gs.1 ((pkV (quorum (size m : Int)) (sgMap (kOf 2) (bsV m p l s))).length) gs.2.1) (fun gs => St w (gs.2.2 ++ [(b1, Obj.cells p.cs 24 (0, 0))])) (fun gs => RowIs 24 8 gs.1 (pkV (quorum (size m : Int)) (sgMap (kOf 2) (bsV m p l s))).length gs.2.1 (cells (pkV (quorum (size m : Int)) (sgMap (kOf 2) (bsV m p l s)))) gs.2.2) (by kernel_rfl) (by kernel_rfl) ent51 ?_ tv3 ?_)))
 · exact fun w hw => (bcasc_c (H0 := [(b1, Obj.cells p.cs 24 (0, 0))]) bm2 (sgMap (kOf 2) (bsV m p l s)) (quorum (size m : Int)) w (sgMap_keys _ _) (by have := sgMap_len (kOf 2) (bsV m p l s); have := bsV_len m p l s; omega) (show St _ [(bm2, mapOf (sgMap (kOf 2) (bsV m p l s))), (b1, Obj.cells p.cs 24 (0, 0))] w from hw)).mono fun r w' ⟨A, c, Hr, h1, h2, h3⟩ => ⟨(A, c, Hr), h2, h1, h3⟩
 rintro ⟨A4, c5, Hr6⟩ hp_
 have hp7 : RowIs 24 8 A4 (pkV (quorum (size m : Int)) (sgMap (kOf 2) (bsV m p l s))).length c5 (cells (pkV (quorum (size m : Int)) (sgMap (kOf 2) (bsV m p l s)))) Hr6 := hp_
 refine T.pu 8 (.slice A4 ((pkV (quorum (size m : Int)) (sgMap (kOf 2) (bsV m p l s))).length) c5) (T.nil (QN.seq (W.ret (QN.done (.inl rfl) 8 (.slice A4 ((pkV (quorum (size m : Int)) (sgMap (kOf 2) (bsV m p l s))).length) c5) rfl (by kernel_rfl) (fun w hw => ?_)))))
 exact ⟨A4, c5, Hr6, rfl, hp7, hw.part (List.sublist_append_left _ _)⟩
set_option maxRecDepth 100000 in
set_option maxHeartbeats 2000000 in
theorem echoers_c (m : Int) (p : Nm) (l : List Vt) (s : Int) (x : Nm) (A : Option Addr) (c : Nat) (w : World) (hm : W64 m) (hok : ∀ u ∈ l, W64 u.support) (hl : l.length ≤ 1000) (hr : Rd w A l) : Calls Tryz.prog 20 #[.int .i64 m, .agg p.cs, .slice A l.length c, .int .i64 s, .agg x.cs] w (fun rr w' => rr = .returned (.int .i64 (echV m p l s x)) ∧ Below w.heap.size w w') := by
 refine calls_W (n := 18) Tryz.func20 rfl [(0, .int .i64 m), (1, .agg p.cs), (2, .slice A l.length c), (3, .int .i64 s), (4, .agg x.cs)] rfl ⟨by kernel_rfl, by kernel_rfl⟩ (W.weak (Ψ := St w []) (fun w' h => by rw [h]; exact St.start w) (W.seq (W.rg od3 (T.bx 6 24 (.agg p.cs) (p.cs) tv3 (fun b1 => T.bx 9 24 (.agg x.cs) (x.cs) tv3 (fun b2 => T.pi 10 0 (T.nil (QN.seq (W.seq (W.drawn (Ψ := St w [(b2, Obj.cells x.cs 24 (0, 0)), (b1, Obj.cells p.cs 24 (0, 0))]) (St w [(b2, Obj.cells x.cs 24 (0, 0)), (b1, Obj.cells p.cs 24 (0, 0))]) [(0, true), (1, true), (2, true), (3, true), (5, true), (4, false), (6, false), (7, false)] hmx (by kernel_rfl) (NoPanic.then NoPanic.body) (fun w h => h.drew) (fun w h => h) (T.pi 11 m (T.lr true 12 p.cs 24 b1 0 (fun w h => St.rangeM h p.cs mm1 (by kernel_rfl)) (T.pu 13 (.slice A l.length c) (T.pi 14 s (T.lr true 16 x.cs 24 b2 0 (fun w h => St.rangeM h x.cs mm0 (by kernel_rfl)) (T.callG (β := Nat) 15 52 #[.int .i64 m, .agg p.cs, .slice A l.length c, .int .i64 s, .int .i64 2] (fun gs => .map (some gs)) (fun gs => St w [(gs, mapOf (sgMap (kOf 2) (bsV m p l s))), (b2, Obj.cells x.cs 24 (0, 0)), (b1, Obj.cells p.cs 24 (0, 0))]) (fun gs => True) (by kernel_rfl) (by kernel_rfl) ent52 ?_ (fun _ => (fun w h => (h.perm (pm1.trans (pm1.cons _))).part ns2)) ?_))))))))))))))))
 · exact fun w hw => (signers_c m p l s 2 A c w (by assumption) hok (by first | omega | (simp; done) | (simp; omega)) (Arr.rd (Rd.arr hr _) hw)).mono fun r w' ⟨b, h1, h2⟩ => ⟨b, trivial, h1, hw.join h2⟩
 rintro bm3 hp_
 have hp4 : True := hp_
 refine T.mapLook 17 65 24 22 keyNm x (sgMap (kOf 2) (bsV m p l s)) bm3 (valOf (sgMap (kOf 2) (bsV m p l s)) x) pm0 (by kernel_rfl) (fun w => by kernel_rfl) (by kernel_rfl) (fun w => by kernel_rfl) rfl (T.pi 10 (valOf (sgMap (kOf 2) (bsV m p l s)) x) (T.nil (QN.seq (W.ret (QN.done (.inl rfl) 10 (.int .i64 (valOf (sgMap (kOf 2) (bsV m p l s)) x)) rfl (by kernel_rfl) (fun w hw => ⟨?_, hw.below⟩))))))
 exact rfl
end Go.Proofs.YtnjkbgcfpbbglaaGreat
