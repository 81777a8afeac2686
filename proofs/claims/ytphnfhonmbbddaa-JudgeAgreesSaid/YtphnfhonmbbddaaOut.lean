/- The outcomes of a slot, and what is decided. -/
import Derived.Test.YtphnfhonmbbddaaGK
import Derived.Test.YtphnfhonmbbddaaGE
namespace Go.Proofs.Ytphnfhonmbbddaa
open Go Go.RowKit
set_option linter.unusedVariables false

def oless (x : Oc) (y : Oc) : Bool := bif (x.round != y.round) then (decide (x.round < y.round)) else (bif (x.choice != y.choice) then (decide (x.choice < y.choice)) else (hless x.val y.val))
set_option maxRecDepth 100000 in
set_option maxHeartbeats 2000000 in
theorem before_c (x : Oc) (y : Oc)  (w : World) : Calls Try.prog 54 #[.agg x.cs, .agg y.cs] w (fun rr w' => rr = .returned (.bool (oless x y)) ∧ Below w.heap.size w w') := by
 refine calls_W (n := 32) Try.func54 rfl [(0, .agg x.cs), (1, .agg y.cs)] rfl ⟨by kernel_rfl, by kernel_rfl⟩ (W.weak (Ψ := St w []) (fun w' h => by rw [h]; exact St.start w) (W.seq (W.rg od3 (T.bx 2 63 (.agg x.cs) (x.cs) tv3 (fun b1 => T.bx 3 63 (.agg y.cs) (y.cs) tv3 (fun b2 => T.pb 4 false (T.nil (QN.seq (W.seq (W.block (W.seq (W.rg od6 (T.pu 6 (.pointer (some ⟨b1, 1, none⟩)) (T.ld false 7 (.int .i64 x.round) 3 b1 1 (fun w h => St.cellM h mm1 (by kernel_rfl)) (T.pu 8 (.pointer (some ⟨b2, 1, none⟩)) (T.ld false 9 (.int .i64 y.round) 3 b2 1 (fun w h => St.cellM h mm0 (by kernel_rfl)) (T.pb 10 (x.round != y.round) (T.pb 5 (x.round != y.round) (T.nil (QN.seq (W.cd (x.round != y.round) (fun h3 => ?_) (fun h3 => ?_))))))))))))))))))))))
 ·
  refine W.seq (W.rg od6 (T.pu 11 (.pointer (some ⟨b1, 1, none⟩)) (T.ld false 12 (.int .i64 x.round) 3 b1 1 (fun w h => St.cellM h mm1 (by kernel_rfl)) (T.pu 13 (.pointer (some ⟨b2, 1, none⟩)) (T.ld false 14 (.int .i64 y.round) 3 b2 1 (fun w h => St.cellM h mm0 (by kernel_rfl)) (T.pb 15 (decide (x.round < y.round)) (T.pb 4 (decide (x.round < y.round)) (T.nil (QN.seq (W.ret (QN.blkRet (QN.thenRet (QN.done (.inl rfl) 4 (.bool (decide (x.round < y.round))) rfl (by kernel_rfl) (fun w hw => ⟨?_, hw.below⟩))))))))))))))
  exact congrArg (fun b => Ending.returned (.bool b)) (by simp only [oless, h3, cond_true])
 ·
  refine W.seq (W.rg od6 (T.pu 17 (.pointer (some ⟨b1, 2, none⟩)) (T.ld false 18 (.int .i64 x.choice) 3 b1 2 (fun w h => St.cellM h mm1 (by kernel_rfl)) (T.pu 19 (.pointer (some ⟨b2, 2, none⟩)) (T.ld false 20 (.int .i64 y.choice) 3 b2 2 (fun w h => St.cellM h mm0 (by kernel_rfl)) (T.pb 21 (x.choice != y.choice) (T.pb 16 (x.choice != y.choice) (T.nil (QN.seq (W.cd (x.choice != y.choice) (fun h4 => ?_) (fun h4 => ?_)))))))))))
  ·
   refine W.seq (W.rg od6 (T.pu 22 (.pointer (some ⟨b1, 2, none⟩)) (T.ld false 23 (.int .i64 x.choice) 3 b1 2 (fun w h => St.cellM h mm1 (by kernel_rfl)) (T.pu 24 (.pointer (some ⟨b2, 2, none⟩)) (T.ld false 25 (.int .i64 y.choice) 3 b2 2 (fun w h => St.cellM h mm0 (by kernel_rfl)) (T.pb 26 (decide (x.choice < y.choice)) (T.pb 4 (decide (x.choice < y.choice)) (T.nil (QN.seq (W.ret (QN.blkRet (QN.thenRet (QN.done (.inl rfl) 4 (.bool (decide (x.choice < y.choice))) rfl (by kernel_rfl) (fun w hw => ⟨?_, hw.below⟩))))))))))))))
   exact congrArg (fun b => Ending.returned (.bool b)) (by simp only [oless, h3, h4, cond_true, cond_false])
  ·
   refine W.skip (QN.blkNormal (QN.seq (W.seq (W.rg od6 (T.pu 27 (.pointer (some ⟨b1, 3, none⟩)) (T.lr false 28 x.val.cs 54 b1 3 (fun w h => St.rangeM h x.val.cs mm1 (by kernel_rfl)) (T.pu 29 (.pointer (some ⟨b2, 3, none⟩)) (T.lr false 30 y.val.cs 54 b2 3 (fun w h => St.rangeM h y.val.cs mm0 (by kernel_rfl)) (T.cp 31 74 #[.agg x.val.cs, .agg y.val.cs] (.bool (hless x.val y.val)) ent74 (fun w hw => hless_c x.val y.val w) tv2 (T.pb 4 (hless x.val y.val) (T.nil (QN.seq (W.ret (QN.done (.inl rfl) 4 (.bool (hless x.val y.val)) rfl (by kernel_rfl) (fun w hw => ⟨?_, hw.below⟩)))))))))))))))
   exact congrArg (fun b => Ending.returned (.bool b)) (by simp only [oless, h3, h4, cond_false])
set_option maxRecDepth 100000 in
set_option maxHeartbeats 2000000 in
theorem outl_c (d : List Oc) (A : Option Addr) (c q5 i j : Nat) (w : World) (hi : i < d.length) (hj : j < d.length) (hd : d.length ≤ 1000) (hr : Rd w A d) (hb : w.cell? ⟨q5, 0, none⟩ = some (.slice A d.length c)) (hbl : q5 < w.heap.size) : Calls Try.prog 53 #[.int .i64 i, .int .i64 j, .pointer (some ⟨q5, 0, none⟩)] w (fun rr w' => rr = .returned (.bool (oless d[i] d[j])) ∧ Below w.heap.size w w') := by
 refine calls_W (n := 15) Try.func53 rfl [(0, .int .i64 i), (1, .int .i64 j), (2, .pointer (some ⟨q5, 0, none⟩))] rfl ⟨by kernel_rfl, by kernel_rfl⟩ (W.weak (Ψ := St w []) (fun w' h => by rw [h]; exact St.start w) (W.seq (W.rg od1 (T.pb 5 false (T.nil (QN.seq (W.seq (W.drawn (Ψ := St w []) (St w []) [(0, true), (1, true), (2, true), (3, true), (4, true), (5, true), (6, true), (7, true), (8, false), (9, false)] hmx (by kernel_rfl) (NoPanic.then NoPanic.body) (fun w h => h.drew) (fun w h => h) (T.ld true 6 (.slice A d.length c) 57 q5 0 (fun w h => (h.below.cell (p := ⟨q5, 0, none⟩) hbl).trans hb) (T.pi 7 i ?_))))))))))
 have hl5 : i < d.length := by omega
 obtain ⟨b1, o2, hA3, hr4⟩ := (Rd.arr hr _) i hl5
 refine T.ix 8 57 63 11 A d.length c (i : Int) i b1 o2 hA3 rfl (by omega) (T.lr true 9 (d[i]'hl5).cs 63 b1 (o2 + i * 11) hr4 (T.ld true 10 (.slice A d.length c) 57 q5 0 (fun w h => (h.below.cell (p := ⟨q5, 0, none⟩) hbl).trans hb) (T.pi 11 j ?_)))
 have hl10 : j < d.length := by omega
 obtain ⟨b6, o7, hA8, hr9⟩ := (Rd.arr hr _) j hl10
 refine T.ix 12 57 63 11 A d.length c (j : Int) j b6 o7 hA8 rfl (by omega) (T.lr true 13 (d[j]'hl10).cs 63 b6 (o7 + j * 11) hr9 (T.cp 14 54 #[.agg (d[i]'hl5).cs, .agg (d[j]'hl10).cs] (.bool (oless (d[i]'hl5) (d[j]'hl10))) ent54 (fun w hw => before_c (d[i]'hl5) (d[j]'hl10) w) (fun w h => h) (T.pb 5 (oless (d[i]'hl5) (d[j]'hl10)) (T.nil (QN.seq (W.ret (QN.done (.inl rfl) 5 (.bool (oless (d[i]'hl5) (d[j]'hl10))) rfl (by kernel_rfl) (fun w hw => ⟨?_, hw.below⟩))))))))
 exact rfl
instance inhOc : Inhabited Oc := ⟨Oc.zero⟩
theorem lex_swo {α : Type} (k : α → List Int) (hl : ∀ x y, (k x).length = (k y).length) : Sort.SWO (fun x y => lexLt (k x) (k y)) where
  irrefl := fun x => lex_irr _
  trans := fun x y z => lex_trans _ _ _
  ntrans := fun x y z h1 h2 => by
    by_cases h3 : lexLt (k x) (k z) = true
    · exfalso
      by_cases h4 : lexLt (k y) (k x) = true
      · exact absurd (lex_trans _ _ _ h4 h3) (by simpa using h2)
      · have := lex_tot _ _ (hl x y) h1 (by simpa using h4)
        rw [this] at h3
        exact absurd h3 (by simpa using h2)
    · simpa using h3
def keyO (x : Oc) : List Int := [x.round, x.choice, (x.val.num : Int)]
theorem oless_lex (x y : Oc) : oless x y = lexLt (keyO x) (keyO y) := by
  unfold oless keyO
  by_cases h1 : x.round = y.round
  · have e1 : (x.round != y.round) = false := by simpa using h1
    rw [e1, cond_false, h1, lexLt_eq]
    by_cases h2 : x.choice = y.choice
    · have e2 : (x.choice != y.choice) = false := by simpa using h2
      rw [e2, cond_false, h2, lexLt_eq]
      by_cases h3 : (x.val.num : Int) = (y.val.num : Int)
      · rw [h3, lexLt_eq]; simp [hless, lexLt, h3]
      · rw [lexLt_ne h3]; rfl
    · have e2 : (x.choice != y.choice) = true := by simpa using h2
      rw [e2, cond_true, lexLt_ne h2]
  · have e1 : (x.round != y.round) = true := by simpa using h1
    rw [e1, cond_true, lexLt_ne h1]
theorem oless_swo : Sort.SWO oless := by
  have := lex_swo keyO (fun x y => by simp [keyO])
  rwa [show (fun x y => lexLt (keyO x) (keyO y)) = oless from funext fun x => funext fun y => (oless_lex x y).symm] at this
theorem oless_tot {x y : Oc} (hs : x.slot = y.slot) (h1 : oless x y = false) (h2 : oless y x = false) : x = y := by
  rw [oless_lex] at h1 h2
  have h := lex_tot (keyO x) (keyO y) (by simp [keyO]) h1 h2
  simp only [keyO, List.cons.injEq, and_true] at h
  have b2 : x.val = y.val := Nm.num_inj (by omega)
  cases x; cases y; simp_all
theorem out_less {all : List Oc} {A : Option Addr} {c q5 : Nat} {H0 : List (Nat × Obj)} (hmem : (q5, .cells #[.slice A all.length c] 57 (0, 0)) ∈ H0) (hle : all.length ≤ 1000) (d : List Oc) (w : World) (i j : Nat) (hi : i < d.length) (hj : j < d.length) (hd : d.length = all.length) (hr : Rd w A d) (hH : ∀ p ∈ H0, w.heap[p.1]? = some p.2) :
    Ret Try.prog 53 (#[.int .i64 (i : Int), .int .i64 (j : Int)] ++ #[.pointer (some ⟨q5, 0, none⟩)]) w (.bool (oless d[i] d[j])) := by
  have h1 := hH _ hmem
  simp only at h1
  refine outl_c d A c q5 i j w hi hj (by omega) hr ?_ (Array.getElem?_eq_some_iff.1 h1).1
  rw [hd]
  simp [World.cell?, h1]
noncomputable def soT : TypeInfo := (Try.prog.info? 57).get (by kernel_rfl)
noncomputable def soE : TypeInfo := (Try.prog.info? 63).get (by kernel_rfl)
theorem soK (n : Nat) (h2 : 2 ≤ n) : Lib.swapperK n soE 25 = 9 := by
  have a : soE.hasPointers = false := by kernel_rfl
  have b : soE.bytes = 32 := by kernel_rfl
  have c : (n == 0) = false := by simp; omega
  have d : (n == 1) = false := by simp; omega
  simp [Lib.swapperK, a, b, c, d]
theorem sortOc : SortTy 57 63 (Cel.sz Oc) := ⟨soT, soE, 25, by kernel_rfl, by kernel_rfl, by kernel_rfl, by kernel_rfl, fun _ => by kernel_rfl, by kernel_rfl, fun _ => by kernel_rfl, .inl soK⟩
theorem keyOc : KeyTy Try.prog Oc 63 where
  eq := fun w a b => eq_oc w a b
  chk := fun b w a => by kernel_rfl
  und := .inl ⟨_, Try.underlying63⟩
  bits := fun a => by simp [Instr.sameBits, Cel.cs, Oc.cs]
/-- The votes of a slot that can matter there. -/
def ownP (s : Int) (v : Vt) : Bool := (v.slot == s) && (decide (v.kind ≤ 4))
def ownF (s : Int) (l : List Vt) : List Vt := l.filter (ownP s)
def outV (m : Int) (p : Nm) (l : List Vt) (s : Int) : List Oc := sgOut oless (ocOf s) (quorum (size m)) (accV m p (ownF s l))
theorem ownF_len (s : Int) (l : List Vt) : (ownF s l).length ≤ l.length := List.length_filter_le _ _
theorem outV_len (m : Int) (p : Nm) (l : List Vt) (s : Int) : (outV m p l s).length ≤ l.length := Nat.le_trans sgOut_len (Nat.le_trans (accV_len _ _ _) (ownF_len _ _))
theorem accV_has {m : Int} {p : Nm} {l : List Vt} {v : Vt} (h : v ∈ accV m p l) : validB v = true ∧ v.kind ≤ 4 ∧ hasB m v.signer = true ∧ hasB m v.slot = true := by
  have := accV_allow h
  unfold allowB okB at this
  simp only [Bool.and_eq_true, Bool.not_eq_true', decide_eq_false_iff_not] at this
  exact ⟨this.1.1.1.1, by omega, this.1.1.2, this.1.2⟩
theorem accV_sg {m : Int} {p : Nm} {l : List Vt} {v : Vt} (h : v ∈ accV m p l) : 0 ≤ v.signer ∧ v.signer < 10 := hasB_lt (accV_has h).2.2.1
theorem sg_bk {s : Int} {a : List Vt} {k : Nat} {mp : List (Oc × Int)} (hk : k < a.length) (h : mp = sgMap (ocOf s) (a.take k)) : sgStep (ocOf s) mp a[k] = sgMap (ocOf s) (a.take (k + 1)) := by
  rw [List.take_succ_eq_append_getElem hk, sgMap_snoc, h]
theorem sg_yes {s : Int} {v : Vt} {mp : List (Oc × Int)} (h : ((v.kind == 4) && (v.choice != 2)) = true) : sgStep (ocOf s) mp v = upd mp (⟨s, v.round, v.choice, v.val⟩ : Oc) (bits .or .i64 (valOf mp (⟨s, v.round, v.choice, v.val⟩ : Oc)) (2 ^ v.signer.toNat)) := by
  unfold sgStep ocOf; rw [if_pos h]
theorem sg_no {s : Int} {v : Vt} {mp : List (Oc × Int)} (h : ((v.kind == 4) && (v.choice != 2)) = false) : sgStep (ocOf s) mp v = mp := by
  unfold sgStep ocOf; rw [if_neg (by rw [h]; simp)]
theorem nodup_len {l : List Nat} {n : Nat} (h : l.Nodup) (hlt : ∀ k ∈ l, k < n) : l.length ≤ n := by
  induction n generalizing l with
  | zero => cases l with
    | nil => simp
    | cons a l => exact absurd (hlt a (by simp)) (by omega)
  | succ n ih =>
    have := ih (l := l.erase n) (h.erase n) (fun k hk => by
      have h1 := (h.mem_erase_iff).1 hk
      have := hlt k h1.2
      have := h1.1
      omega)
    rw [List.length_erase] at this
    split at this <;> omega
/-- What has been seen of the map. -/
def Seen {κ : Type} (l : List κ) (sn : Array Nat) : Prop := sn.toList.Nodup ∧ ∀ k ∈ sn.toList, k < l.length
theorem Seen.push {κ : Type} {l : List κ} {sn : Array Nat} {k : Nat} (h : Seen l sn) (hk : k < l.length) (hc : sn.contains k = false) : Seen l (sn.push k) ∧ sn.size < l.length := by
  have hn : k ∉ sn.toList := fun hm => by
    have : sn.contains k = true := by simpa using hm
    rw [hc] at this; cases this
  have h1 : Seen l (sn.push k) := by
    unfold Seen at *
    rw [Array.toList_push]
    refine ⟨List.nodup_append.2 ⟨h.1, by simp, fun x hx y hy => ?_⟩, fun j hj => ?_⟩
    · simp only [List.mem_singleton] at hy; subst hy; intro e; subst e; exact hn hx
    · rcases List.mem_append.1 hj with hj | hj
      · exact h.2 j hj
      · simp only [List.mem_singleton] at hj; subst hj; exact hk
  have := nodup_len h1.1 h1.2
  rw [Array.toList_push, List.length_append] at this
  exact ⟨h1, by simp at this; omega⟩
def pickO {κ : Type} (q : Int) (l : List (κ × Int)) (sn : Array Nat) : List κ := ((sn.toList.filterMap fun k => l[k]?).filter fun y => decide (q ≤ (size y.2 : Int))).map (·.1)
theorem pick_yes {κ : Type} {q : Int} {l : List (κ × Int)} {sn : Array Nat} {k : Nat} {out : List κ} (hk : k < l.length) (h : out = pickO q l sn) (hq : (decide (q ≤ (size l[k].2 : Int))) = true) : out ++ [l[k].1] = pickO q l (sn.push k) := by
  subst h; unfold pickO
  simp [Array.toList_push, List.filterMap_append, List.getElem?_eq_getElem hk, List.filter_append, hq]
theorem pick_no {κ : Type} {q : Int} {l : List (κ × Int)} {sn : Array Nat} {k : Nat} {out : List κ} (hk : k < l.length) (h : out = pickO q l sn) (hq : (decide (q ≤ (size l[k].2 : Int))) = false) : out = pickO q l (sn.push k) := by
  subst h; unfold pickO
  have : ¬ q ≤ (size l[k].2 : Int) := by simpa using hq
  simp [Array.toList_push, List.filterMap_append, List.getElem?_eq_getElem hk, List.filter_append, this]
theorem pick_len {κ : Type} {q : Int} {l : List (κ × Int)} {sn : Array Nat} (h : Seen l sn) : (pickO q l sn).length ≤ l.length := by
  unfold pickO
  rw [List.length_map]
  exact Nat.le_trans (List.length_filter_le _ _) (Nat.le_trans (List.length_filterMap_le _ _) (nodup_len h.1 h.2))
theorem pick_all {κ : Type} {q : Int} {l : List (κ × Int)} {sn : Array Nat} (h : Seen l sn) (hall : ∀ k, k < l.length → sn.contains k = true) : (pickO q l sn).Perm ((l.filter fun y => decide (q ≤ (size y.2 : Int))).map (·.1)) := by
  unfold pickO
  exact ((seen_perm l sn.toList h.1 h.2 (fun k hk => by simpa using hall k hk)).filter _).map _
theorem asc_up {α : Type} [Cel α] [Inhabited α] {lt : α → α → Bool} {l : List α} (h : Asc lt l) : Up lt l := by
  unfold Up
  rw [List.pairwise_iff_getElem]
  exact fun i j hi hj hij => h i j hi hj hij
theorem swo_up {α : Type} {lt : α → α → Bool} (h : Sort.SWO lt) (l : List α) : Up lt (isort lt l) := isort_up h.irrefl h.ntrans (fun x y hxy => by
  by_cases h2 : lt y x = true
  · have := h.trans _ _ _ hxy h2
    rw [h.irrefl] at this; cases this
  · simpa using h2) l
theorem out_slot {m : Int} {p : Nm} {l : List Vt} {s : Int} {o : Oc} (h : o ∈ outV m p l s) : o.slot = s := by
  unfold outV at h
  rw [sgOut_mem] at h
  obtain ⟨⟨v, _, hv⟩, _⟩ := h
  unfold ocOf at hv
  split at hv
  · cases hv; rfl
  · cases hv
theorem out_fin {m : Int} {p : Nm} {l : List Vt} {s : Int} {mp : List (Oc × Int)} {out so : List Oc} {sn : Array Nat} (hmp : mp = sgMap (ocOf s) (accV m p (ownF s l))) (hsn : Seen mp sn) (hall : ∀ k, k < mp.length → sn.contains k = true) (ho : out = pickO (quorum (size m)) mp sn) (hp : so.Perm out) (ha : Asc oless so) : so = outV m p l s := by
  subst hmp
  have h1 : so.Perm (outV m p l s) := by
    refine (hp.trans ?_).trans (isort_perm oless _).symm
    rw [ho]; exact pick_all hsn hall
  refine up_ext (asc_up ha) (swo_up oless_swo _) h1 (fun x hx y hy => ?_)
  exact oless_tot ((out_slot (h1.subset hx)).trans (out_slot (h1.subset hy)).symm)
set_option maxRecDepth 100000 in
set_option maxHeartbeats 2000000 in
theorem outcomes_c (m : Int) (p : Nm) (l : List Vt) (s : Int) (A : Option Addr) (c : Nat) (w : World) (hm : W64 m) (hok : ∀ u ∈ l, W64 u.support) (hl : l.length ≤ 1000) (hr : Rd w A l) : Calls Try.prog 28 #[.int .i64 m, .agg p.cs, .slice A l.length c, .int .i64 s] w (fun r w' => ∃ A c Hr, r = .returned (.slice A (outV m p l s).length c) ∧ RowIs 63 11 A (outV m p l s).length c (cells (outV m p l s)) Hr ∧ St w Hr w') := by
 refine calls_W (n := 95) Try.func28 rfl [(0, .int .i64 m), (1, .agg p.cs), (2, .slice A l.length c), (3, .int .i64 s)] rfl ⟨by kernel_rfl, by kernel_rfl⟩ (W.weak (Ψ := St w []) (fun w' h => by rw [h]; exact St.start w) (W.seq (W.rg od2 (T.bx 5 54 (.agg p.cs) (p.cs) tv3 (fun b1 => T.pu 8 (.slice none 0 0) (T.nil (QN.seq (W.seq (W.rg od1 (T.pu 9 (.slice none 0 0) (T.nil (QN.seq (W.seq (W.seq (W.rg od3 (T.pu 18 (.slice A l.length c) (T.pi 19 ((l.length : Nat) : Int) (T.pi 20 0 (T.nil (QN.seq (W.block (W.loop (σ := Nat × List Vt × Option Addr × Nat × List (Nat × Obj)) (fun gs => gs.1 ≤ l.length ∧ gs.2.1 = (l.take gs.1).filter (ownP s) ∧ RowIs 68 22 gs.2.2.1 gs.2.1.length gs.2.2.2.1 (cells gs.2.1) gs.2.2.2.2) (fun gs => [(0, .int .i64 m), (3, .int .i64 s), (5, .pointer (some ⟨b1, 0, none⟩)), (8, .slice none 0 0), (9, .slice gs.2.2.1 gs.2.1.length gs.2.2.2.1), (18, .slice A l.length c), (19, .int .i64 ((l.length : Nat) : Int)), (20, .int .i64 (gs.1 : Int))]) (fun gs => St w (gs.2.2.2.2 ++ [(b1, Obj.cells p.cs 54 (0, 0))])) (fun gs => l.length - gs.1) (0, [], none, 0, []) ?_ (by kernel_rfl) (fun w h => h) ?_))))))))))))))))))))))
 ·
  try dsimp only
  exact ⟨Nat.zero_le _, rfl, RowIs.nil⟩
 rintro ⟨k, own, A9, c9, Hr9⟩ hI_
 obtain ⟨hk, hown, hrow9⟩ : k ≤ l.length ∧ own = (l.take k).filter (ownP s) ∧ RowIs 68 22 A9 own.length c9 (cells own) Hr9 := hI_
 have hol : own.length ≤ k := by rw [hown]; exact Nat.le_trans (List.length_filter_le _ _) (List.length_take_le _ _)
 refine W.seq (W.rg od1 (T.pb 21 (decide ((k : Int) < ((l.length : Nat) : Int))) (T.nil (QN.seq (W.seq (W.cd (decide ((k : Int) < ((l.length : Nat) : Int))) (fun h2 => ?_) (fun h2 => ?_)))))))
 ·
  have h2' := of_decide_eq_true h2
  have hl3 : k < l.length := by omega
  refine W.skip (QN.seq (W.seq (W.block (W.seq (W.rg od4 ?_)))))
  obtain ⟨b4, o5, hA6, hr7⟩ := (Rd.arr hr _) k hl3
  refine T.ix 22 55 68 22 A l.length c (k : Int) k b4 o5 hA6 rfl (by omega) (T.lr false 23 (l[k]'hl3).cs 68 b4 (o5 + k * 22) hr7 (T.al 11 68 Vt.zero.cs tv3 (fun b8 => T.sp 68 b8 0 (.agg (l[k]'hl3).cs) Vt.zero.cs (l[k]'hl3).cs 68 pm0 tv2 (T.nil (QN.seq (W.seq (W.rg od9 (T.pu 24 (.pointer (some ⟨b8, 1, none⟩)) (T.ld false 25 (.int .i64 ((l[k]'hl3).slot)) 3 b8 1 (fun w h => St.cellM h mm0 (by kernel_rfl)) (T.pi 26 s (T.pb 27 (((l[k]'hl3).slot) == s) (T.pb 28 (((l[k]'hl3).slot) == s) (T.bk [(5, false), (6, false), (7, false)] [(8, false)] 4 true (((l[k]'hl3).slot) == s) 28 31 (.bool (decide (((l[k]'hl3).kind) ≤ 4))) (fun hg9 => ?_) ?_)))))))))))))
  ·
   have hg9_ := hg9
   refine T.pu 29 (.pointer (some ⟨b8, 0, none⟩)) (T.ld false 30 (.int .i64 ((l[k]'hl3).kind)) 3 b8 0 (fun w h => St.cellM h mm0 (by kernel_rfl)) (T.pb 31 (decide (((l[k]'hl3).kind) ≤ 4)) ?_))
   exact T.blkEnd (by kernel_rfl) (fun w h => h)
  refine T.an 32 (((l[k]'hl3).slot) == s) (decide (((l[k]'hl3).kind) ≤ 4)) (T.nil (QN.seq (W.cd ((((l[k]'hl3).slot) == s) && (decide (((l[k]'hl3).kind) ≤ 4))) (fun h10 => ?_) (fun h10 => ?_))))
  ·
   have h10l := (Bool.and_eq_true_iff.1 h10).1
   have h10r := (Bool.and_eq_true_iff.1 h10).2
   have h10r' := of_decide_eq_true h10r
   refine W.rg od5 (T.pu 33 (.slice A9 own.length c9) (T.lr false 34 (l[k]'hl3).cs 68 b8 0 (fun w h => St.rangeM h (l[k]'hl3).cs mm0 (by kernel_rfl)) (T.lit 35 55 68 1 #[(0, .agg (l[k]'hl3).cs)] (cells ([(l[k]'hl3)] : List Vt)).toArray (by kernel_rfl) (by kernel_rfl) (by kernel_rfl) (by kernel_rfl) tv3 (fun b11 => T.appC 36 55 68 64 A9 c9 (own : List Vt) Hr9 b11 0 1 ([(l[k]'hl3)] : List Vt) ((((pm0.cons _).trans List.perm_middle.symm).cons _).trans List.perm_middle.symm) (by kernel_rfl) (by kernel_rfl) (by kernel_rfl) (by kernel_rfl) hrow9 (fun w h => St.rangeM h (cells ([(l[k]'hl3)] : List Vt)).toArray (List.mem_append_right _ mm0) (by kernel_rfl)) (by unfold maxLen; first | omega | (simp; omega)) (by first | omega | (simp; omega)) tv3 (fun A12 c13 Hr14 hrow15 => T.pu 9 (.slice A12 ((own ++ ([(l[k]'hl3)])).length) c13) (T.nil (QN.blkNormal (QN.seq (W.rg od2 (T.pw 37 ((k : Int) + 1) (T.pi 20 ((k : Int) + 1) (T.nil (QN.back (k + 1, own ++ ([(l[k]'hl3)]), A12, c13, Hr14) ?_ ?_ (by kernel_rfl) (fun w h => (h.perm (pm0.trans (pm2.append_left Hr14))).part (List.Sublist.append (List.Sublist.refl _) ns1)))))))))))))))
   ·
    try dsimp only
    exact ⟨by omega, filt_yes (p := ownP s) (by omega) hown h10, hrow15⟩
   · show l.length - _ < l.length - _; omega
  ·
   refine W.skip (QN.blkNormal (QN.seq (W.rg od2 (T.pw 37 ((k : Int) + 1) (T.pi 20 ((k : Int) + 1) (T.nil (QN.back (k + 1, own, A9, c9, Hr9) ?_ ?_ (by kernel_rfl) (fun w h => (h.perm (((pm0.cons _).trans List.perm_middle.symm).trans (pm1.append_left Hr9))).part (List.Sublist.append (List.Sublist.refl _) ns1)))))))))
   ·
    try dsimp only
    exact ⟨by omega, filt_no (p := ownP s) (by omega) hown h10, hrow9⟩
   · show l.length - _ < l.length - _; omega
 ·
  have h2' := of_decide_eq_false h2
  refine W.exit (QN.thenExit (QN.thenExit (QN.blkHit (QN.seq (W.seq (W.rg od2 (T.mapNew (κ := Oc) 38 87 (by kernel_rfl) (fun w => by kernel_rfl) tv3 (fun b16 => T.pu 12 (.map (some b16)) (T.nil (QN.seq (W.seq (W.seq (W.rg od6 (T.pi 39 m (T.lr false 40 p.cs 54 b1 0 (fun w h => St.rangeM h p.cs (.tail _ (List.mem_append_right _ mm0)) (by kernel_rfl)) (T.pu 41 (.slice A9 own.length c9) (T.callR 42 29 #[.int .i64 m, .agg p.cs, .slice A9 own.length c9] 68 22 (accV m p own).length (cells (accV m p own)) (by kernel_rfl) (by kernel_rfl) ent29 (fun w hw => accepted_c m p own A9 c9 w (by assumption) (fun u hu => hok u (List.mem_of_mem_take (List.mem_filter.1 (hown ▸ hu)).1)) (by first | omega | (simp; done) | (simp; omega)) (Arr.rd (show Arr (St _ ((b16, mapOf ([] : List (Oc × Int))) :: (Hr9 ++ [(b1, Obj.cells p.cs 54 (0, 0))]))) A9 own from (Arr.row hrow9 rfl rfl [(b16, mapOf ([] : List (Oc × Int))), (b1, Obj.cells p.cs 54 (0, 0))]).weak (fun w h => h.perm ((pm0.cons _).trans List.perm_middle.symm))) hw)) tv3 (fun A17 c18 Hr19 hrow20 => T.pi 43 (((accV m p own).length : Nat) : Int) (T.pi 44 0 (T.nil (QN.seq (W.block ?_))))))))))))))))))))))
  have hac := accV_len m p own
  refine W.loop (σ := Nat × List (Oc × Int)) (fun gs => gs.1 ≤ (accV m p own).length ∧ gs.2 = sgMap (ocOf s) ((accV m p own).take gs.1)) (fun gs => [(0, .int .i64 m), (3, .int .i64 s), (8, .slice none 0 0), (12, .map (some b16)), (42, .slice A17 ((accV m p own).length) c18), (43, .int .i64 (((accV m p own).length : Nat) : Int)), (44, .int .i64 (gs.1 : Int))]) (fun gs => St w (Hr19 ++ ((b16, mapOf gs.2) :: (Hr9 ++ [(b1, Obj.cells p.cs 54 (0, 0))])))) (fun gs => (accV m p own).length - gs.1) (0, ([] : List (Oc × Int))) ?_ (by kernel_rfl) (fun w h => h) ?_
  ·
   try dsimp only
   exact ⟨Nat.zero_le _, rfl⟩
  rintro ⟨k2, mp⟩ hI_
  obtain ⟨hk2, hmp⟩ : k2 ≤ (accV m p own).length ∧ mp = sgMap (ocOf s) ((accV m p own).take k2) := hI_
  refine W.seq (W.rg od1 (T.pb 45 (decide ((k2 : Int) < (((accV m p own).length : Nat) : Int))) (T.nil (QN.seq (W.seq (W.cd (decide ((k2 : Int) < (((accV m p own).length : Nat) : Int))) (fun h21 => ?_) (fun h21 => ?_)))))))
  ·
   have h21' := of_decide_eq_true h21
   have hl22 : k2 < (accV m p own).length := by omega
   refine W.skip (QN.seq (W.seq (W.block (W.seq (W.rg od4 ?_)))))
   obtain ⟨b23, o24, hA25, hr26⟩ := (Arr.row hrow20 rfl rfl _) k2 hl22
   refine T.ix 46 55 68 22 A17 ((accV m p own).length) c18 (k2 : Int) k2 b23 o24 hA25 rfl (by omega) (T.lr false 47 ((accV m p own)[k2]'hl22).cs 68 b23 (o24 + k2 * 22) hr26 (T.al 14 68 Vt.zero.cs tv3 (fun b27 => T.sp 68 b27 0 (.agg ((accV m p own)[k2]'hl22).cs) Vt.zero.cs ((accV m p own)[k2]'hl22).cs 68 pm0 tv2 (T.nil (QN.seq (W.seq (W.rg od8 (T.pu 48 (.pointer (some ⟨b27, 0, none⟩)) (T.ld false 49 (.int .i64 (((accV m p own)[k2]'hl22).kind)) 3 b27 0 (fun w h => St.cellM h mm0 (by kernel_rfl)) (T.pb 50 ((((accV m p own)[k2]'hl22).kind) == 4) (T.pb 51 ((((accV m p own)[k2]'hl22).kind) == 4) (T.bk [(4, false), (5, false), (6, false)] [(7, false)] 3 true ((((accV m p own)[k2]'hl22).kind) == 4) 51 54 (.bool ((((accV m p own)[k2]'hl22).choice) != 2)) (fun hg28 => ?_) ?_))))))))))))
   ·
    have hg28_ := hg28
    refine T.pu 52 (.pointer (some ⟨b27, 3, none⟩)) (T.ld false 53 (.int .i64 (((accV m p own)[k2]'hl22).choice)) 3 b27 3 (fun w h => St.cellM h mm0 (by kernel_rfl)) (T.pb 54 ((((accV m p own)[k2]'hl22).choice) != 2) ?_))
    exact T.blkEnd (by kernel_rfl) (fun w h => h)
   refine T.an 55 ((((accV m p own)[k2]'hl22).kind) == 4) ((((accV m p own)[k2]'hl22).choice) != 2) (T.nil (QN.seq (W.cd (((((accV m p own)[k2]'hl22).kind) == 4) && ((((accV m p own)[k2]'hl22).choice) != 2)) (fun h29 => ?_) (fun h29 => ?_))))
   ·
    have h29l := (Bool.and_eq_true_iff.1 h29).1
    have h29r := (Bool.and_eq_true_iff.1 h29).2
    refine W.drawn2 (Ψ := St w ((b27, Obj.cells ((accV m p own)[k2]'hl22).cs 68 (0, 0)) :: (Hr19 ++ ((b16, mapOf mp) :: (Hr9 ++ [(b1, Obj.cells p.cs 54 (0, 0))]))))) (St w ((b27, Obj.cells ((accV m p own)[k2]'hl22).cs 68 (0, 0)) :: (Hr19 ++ (Hr9 ++ [(b1, Obj.cells p.cs 54 (0, 0))])))) [(0, true), (1, true), (2, true), (3, true), (4, true), (5, true), (6, true), (7, true), (8, true), (10, true), (11, true), (12, true)] 9 [(13, true), (14, false), (15, true), (16, false)] 14 [(15, true), (9, false), (13, true), (16, false)] hmx (by kernel_rfl) (NoPanic.inBlock (NoPanic.then (NoPanic.then (NoPanic.inBlock (NoPanic.then NoPanic.body))))) (fun w h => h.drew) (fun w h => (h.perm (pm0.trans ((pm0.trans ((((pm0.cons _).trans List.perm_middle.symm).trans (pm1.append_left Hr9)).append_left Hr19)).cons _))).part ((List.Sublist.append (List.Sublist.refl _) (List.Sublist.append (List.Sublist.refl _) ns1)).cons_cons _)) (T.pu 56 (.map (some b16)) (T.pi 57 s (T.pu 58 (.pointer (some ⟨b27, 2, none⟩)) (T.ld true 59 (.int .i64 (((accV m p own)[k2]'hl22).round)) 3 b27 2 (fun w h => St.cellM h mm0 (by kernel_rfl)) (T.pu 60 (.pointer (some ⟨b27, 3, none⟩)) (T.ld true 61 (.int .i64 (((accV m p own)[k2]'hl22).choice)) 3 b27 3 (fun w h => St.cellM h mm0 (by kernel_rfl)) (T.pu 62 (.pointer (some ⟨b27, 14, none⟩)) (T.lr true 63 (((accV m p own)[k2]'hl22).val).cs 54 b27 14 (fun w h => St.rangeM h (((accV m p own)[k2]'hl22).val).cs mm0 (by kernel_rfl)) (T.pu 64 (.agg (⟨s, ((accV m p own)[k2]'hl22).round, ((accV m p own)[k2]'hl22).choice, ((accV m p own)[k2]'hl22).val⟩ : Oc).cs) (T.pu 66 (.pointer (some ⟨b27, 4, none⟩)) (T.ld true 67 (.int .i64 (((accV m p own)[k2]'hl22).signer)) 3 b27 4 (fun w h => St.cellM h mm0 (by kernel_rfl)) ?_)))))))))))
    have hsg := accV_sg (m := m) (p := p) (l := own) (List.getElem_mem (h := by omega) : (accV m p own)[k2] ∈ accV m p own)
    refine T.shl 68 .i64 .i64 1 (((accV m p own)[k2]'hl22).signer) (.int .i64 (2 ^ (((accV m p own)[k2]'hl22).signer).toNat)) (by kernel_rfl) (by kernel_rfl) (by omega) (shl_one (by omega) (by omega)) (T.split (fun w h => (h.perm (pm0.trans ((pm0.trans ((((pm0.cons _).trans List.perm_middle.symm).trans (pm1.append_left Hr9)).append_left Hr19)).cons _))).part ((List.Sublist.append (List.Sublist.refl _) (List.Sublist.append (List.Sublist.refl _) ns1)).cons_cons _)) ?_ ?_)
    ·
     refine T.mapLook 65 87 63 32 keyOc (⟨s, ((accV m p own)[k2]'hl22).round, ((accV m p own)[k2]'hl22).choice, ((accV m p own)[k2]'hl22).val⟩ : Oc) mp b16 (valOf mp (⟨s, ((accV m p own)[k2]'hl22).round, ((accV m p own)[k2]'hl22).choice, ((accV m p own)[k2]'hl22).val⟩ : Oc)) ((((pm0.append_left Hr19).trans List.perm_middle).cons _).trans (List.Perm.swap _ _ _)) (by kernel_rfl) (fun w => by kernel_rfl) (by kernel_rfl) (fun w => by kernel_rfl) rfl (T.pi 69 (bits .or .i64 (valOf mp (⟨s, ((accV m p own)[k2]'hl22).round, ((accV m p own)[k2]'hl22).choice, ((accV m p own)[k2]'hl22).val⟩ : Oc)) (2 ^ (((accV m p own)[k2]'hl22).signer).toNat)) (T.mapEnt 70 87 63 32 keyOc (⟨s, ((accV m p own)[k2]'hl22).round, ((accV m p own)[k2]'hl22).choice, ((accV m p own)[k2]'hl22).val⟩ : Oc) mp b16 ((((pm0.append_left Hr19).trans List.perm_middle).cons _).trans (List.Perm.swap _ _ _)) (by kernel_rfl) (fun w => by kernel_rfl) (by kernel_rfl) (fun w => by kernel_rfl) (fun w h => (h.perm (pm1.trans ((((pm0.cons _).trans List.perm_middle.symm).trans ((((pm0.cons _).trans List.perm_middle.symm).trans (pm1.append_left Hr9)).append_left Hr19)).cons _))).part ((List.Sublist.append (List.Sublist.refl _) (List.Sublist.append (List.Sublist.refl _) ns1)).cons_cons _)) (T.pi 71 ((entI mp (⟨s, ((accV m p own)[k2]'hl22).round, ((accV m p own)[k2]'hl22).choice, ((accV m p own)[k2]'hl22).val⟩ : Oc) : Nat) : Int) (T.mapPut 87 (⟨s, ((accV m p own)[k2]'hl22).round, ((accV m p own)[k2]'hl22).choice, ((accV m p own)[k2]'hl22).val⟩ : Oc) (bits .or .i64 (valOf mp (⟨s, ((accV m p own)[k2]'hl22).round, ((accV m p own)[k2]'hl22).choice, ((accV m p own)[k2]'hl22).val⟩ : Oc)) (2 ^ (((accV m p own)[k2]'hl22).signer).toNat)) (entL mp (⟨s, ((accV m p own)[k2]'hl22).round, ((accV m p own)[k2]'hl22).choice, ((accV m p own)[k2]'hl22).val⟩ : Oc)) (upd mp (⟨s, ((accV m p own)[k2]'hl22).round, ((accV m p own)[k2]'hl22).choice, ((accV m p own)[k2]'hl22).val⟩ : Oc) (bits .or .i64 (valOf mp (⟨s, ((accV m p own)[k2]'hl22).round, ((accV m p own)[k2]'hl22).choice, ((accV m p own)[k2]'hl22).val⟩ : Oc)) (2 ^ (((accV m p own)[k2]'hl22).signer).toNat))) b16 (entI mp (⟨s, ((accV m p own)[k2]'hl22).round, ((accV m p own)[k2]'hl22).choice, ((accV m p own)[k2]'hl22).val⟩ : Oc)) pm0 (by kernel_rfl) (fun w => by kernel_rfl) look_lt look_key rfl (fun w h => (h.perm (pm1.trans ((((pm0.cons _).trans List.perm_middle.symm).trans ((((pm0.cons _).trans List.perm_middle.symm).trans (pm1.append_left Hr9)).append_left Hr19)).cons _))).part ((List.Sublist.append (List.Sublist.refl _) (List.Sublist.append (List.Sublist.refl _) ns1)).cons_cons _)) (T.nil (QN.blkNormal (QN.seq (W.rg od2 (T.pw 72 ((k2 : Int) + 1) (T.pi 44 ((k2 : Int) + 1) (T.nil (QN.back (k2 + 1, upd mp (⟨s, ((accV m p own)[k2]'hl22).round, ((accV m p own)[k2]'hl22).choice, ((accV m p own)[k2]'hl22).val⟩ : Oc) (bits .or .i64 (valOf mp (⟨s, ((accV m p own)[k2]'hl22).round, ((accV m p own)[k2]'hl22).choice, ((accV m p own)[k2]'hl22).val⟩ : Oc)) (2 ^ (((accV m p own)[k2]'hl22).signer).toNat))) ?_ ?_ (by kernel_rfl) (fun w h => (h.perm (((((pm0.cons _).trans List.perm_middle.symm).cons _).trans List.perm_middle.symm).trans ((pm0.trans ((((pm0.cons _).trans List.perm_middle.symm).trans (pm1.append_left Hr9)).cons _)).append_left Hr19))).part (List.Sublist.append (List.Sublist.refl _) ((List.Sublist.append (List.Sublist.refl _) ns1).cons_cons _)))))))))))))))
     ·
      try dsimp only
      exact ⟨by omega, (sg_yes h29).symm.trans (sg_bk (by omega) hmp)⟩
     · show (accV m p own).length - _ < (accV m p own).length - _; omega
    ·
     refine T.mapEnt 70 87 63 32 keyOc (⟨s, ((accV m p own)[k2]'hl22).round, ((accV m p own)[k2]'hl22).choice, ((accV m p own)[k2]'hl22).val⟩ : Oc) mp b16 ((((pm0.append_left Hr19).trans List.perm_middle).cons _).trans (List.Perm.swap _ _ _)) (by kernel_rfl) (fun w => by kernel_rfl) (by kernel_rfl) (fun w => by kernel_rfl) (fun w h => (h.perm (pm1.trans ((((pm0.cons _).trans List.perm_middle.symm).trans ((((pm0.cons _).trans List.perm_middle.symm).trans (pm1.append_left Hr9)).append_left Hr19)).cons _))).part ((List.Sublist.append (List.Sublist.refl _) (List.Sublist.append (List.Sublist.refl _) ns1)).cons_cons _)) (T.pi 71 ((entI mp (⟨s, ((accV m p own)[k2]'hl22).round, ((accV m p own)[k2]'hl22).choice, ((accV m p own)[k2]'hl22).val⟩ : Oc) : Nat) : Int) (T.mapLook 65 87 63 32 keyOc (⟨s, ((accV m p own)[k2]'hl22).round, ((accV m p own)[k2]'hl22).choice, ((accV m p own)[k2]'hl22).val⟩ : Oc) (entL mp (⟨s, ((accV m p own)[k2]'hl22).round, ((accV m p own)[k2]'hl22).choice, ((accV m p own)[k2]'hl22).val⟩ : Oc)) b16 (valOf mp (⟨s, ((accV m p own)[k2]'hl22).round, ((accV m p own)[k2]'hl22).choice, ((accV m p own)[k2]'hl22).val⟩ : Oc)) pm0 (by kernel_rfl) (fun w => by kernel_rfl) (by kernel_rfl) (fun w => by kernel_rfl) valOf_ent (T.pi 69 (bits .or .i64 (valOf mp (⟨s, ((accV m p own)[k2]'hl22).round, ((accV m p own)[k2]'hl22).choice, ((accV m p own)[k2]'hl22).val⟩ : Oc)) (2 ^ (((accV m p own)[k2]'hl22).signer).toNat)) (T.mapPut 87 (⟨s, ((accV m p own)[k2]'hl22).round, ((accV m p own)[k2]'hl22).choice, ((accV m p own)[k2]'hl22).val⟩ : Oc) (bits .or .i64 (valOf mp (⟨s, ((accV m p own)[k2]'hl22).round, ((accV m p own)[k2]'hl22).choice, ((accV m p own)[k2]'hl22).val⟩ : Oc)) (2 ^ (((accV m p own)[k2]'hl22).signer).toNat)) (entL mp (⟨s, ((accV m p own)[k2]'hl22).round, ((accV m p own)[k2]'hl22).choice, ((accV m p own)[k2]'hl22).val⟩ : Oc)) (upd mp (⟨s, ((accV m p own)[k2]'hl22).round, ((accV m p own)[k2]'hl22).choice, ((accV m p own)[k2]'hl22).val⟩ : Oc) (bits .or .i64 (valOf mp (⟨s, ((accV m p own)[k2]'hl22).round, ((accV m p own)[k2]'hl22).choice, ((accV m p own)[k2]'hl22).val⟩ : Oc)) (2 ^ (((accV m p own)[k2]'hl22).signer).toNat))) b16 (entI mp (⟨s, ((accV m p own)[k2]'hl22).round, ((accV m p own)[k2]'hl22).choice, ((accV m p own)[k2]'hl22).val⟩ : Oc)) pm0 (by kernel_rfl) (fun w => by kernel_rfl) look_lt look_key rfl (fun w h => (h.perm (pm1.trans ((((pm0.cons _).trans List.perm_middle.symm).trans ((((pm0.cons _).trans List.perm_middle.symm).trans (pm1.append_left Hr9)).append_left Hr19)).cons _))).part ((List.Sublist.append (List.Sublist.refl _) (List.Sublist.append (List.Sublist.refl _) ns1)).cons_cons _)) (T.nil (QN.blkNormal (QN.seq (W.rg od2 (T.pw 72 ((k2 : Int) + 1) (T.pi 44 ((k2 : Int) + 1) (T.nil (QN.back (k2 + 1, upd mp (⟨s, ((accV m p own)[k2]'hl22).round, ((accV m p own)[k2]'hl22).choice, ((accV m p own)[k2]'hl22).val⟩ : Oc) (bits .or .i64 (valOf mp (⟨s, ((accV m p own)[k2]'hl22).round, ((accV m p own)[k2]'hl22).choice, ((accV m p own)[k2]'hl22).val⟩ : Oc)) (2 ^ (((accV m p own)[k2]'hl22).signer).toNat))) ?_ ?_ (by kernel_rfl) (fun w h => (h.perm (((((pm0.cons _).trans List.perm_middle.symm).cons _).trans List.perm_middle.symm).trans ((pm0.trans ((((pm0.cons _).trans List.perm_middle.symm).trans (pm1.append_left Hr9)).cons _)).append_left Hr19))).part (List.Sublist.append (List.Sublist.refl _) ((List.Sublist.append (List.Sublist.refl _) ns1).cons_cons _)))))))))))))))
     ·
      try dsimp only
      exact ⟨by omega, (sg_yes h29).symm.trans (sg_bk (by omega) hmp)⟩
     · show (accV m p own).length - _ < (accV m p own).length - _; omega
   ·
    refine W.skip (QN.blkNormal (QN.seq (W.rg od2 (T.pw 72 ((k2 : Int) + 1) (T.pi 44 ((k2 : Int) + 1) (T.nil (QN.back (k2 + 1, mp) ?_ ?_ (by kernel_rfl) (fun w h => (h.perm (((pm0.cons _).trans List.perm_middle.symm).trans ((pm1.trans ((((pm0.cons _).trans List.perm_middle.symm).trans (pm1.append_left Hr9)).cons _)).append_left Hr19))).part (List.Sublist.append (List.Sublist.refl _) ((List.Sublist.append (List.Sublist.refl _) ns1).cons_cons _))))))))))
    ·
     try dsimp only
     exact ⟨by omega, (sg_no h29).symm.trans (sg_bk (by omega) hmp)⟩
    · show (accV m p own).length - _ < (accV m p own).length - _; omega
  ·
   have h21' := of_decide_eq_false h21
   refine W.exit (QN.thenExit (QN.thenExit (QN.blkHit (QN.seq (W.seq (W.rg od1 (T.al 15 57 #[.slice none 0 0] tv3 (fun b30 => T.nil (QN.seq (W.seq (W.seq (W.rg od2 (T.pu 73 (.map (some b16)) (T.mapRange 74 87 63 32 mp b16 ((((pm0.append_left Hr19).trans List.perm_middle).cons _).trans (List.Perm.swap _ _ _)) (by kernel_rfl) (fun w => by kernel_rfl) (by kernel_rfl) tv3 (fun it31 => T.nil (QN.seq (W.block ?_)))))))))))))))))
   have hmq : mp = sgMap (ocOf s) (accV m p own) := by rw [hmp, List.take_of_length_le (by omega)]
   have hml : mp.length ≤ (accV m p own).length := by rw [hmq]; exact sgMap_len _ _
   have hz := size_le m
   refine W.loop (σ := Array Nat × List Oc × Option Addr × Nat × List (Nat × Obj)) (fun gs => Seen mp gs.1 ∧ gs.2.1 = pickO (quorum (size m)) mp gs.1 ∧ RowIs 63 11 gs.2.2.1 gs.2.1.length gs.2.2.2.1 (cells gs.2.1) gs.2.2.2.2) (fun gs => [(0, .int .i64 m), (8, .slice none 0 0), (15, .pointer (some ⟨b30, 0, none⟩)), (74, .pointer (some ⟨it31, 0, none⟩))]) (fun gs => St w (gs.2.2.2.2 ++ ((it31, iterOf b16 mp.length gs.1) :: ((b16, mapOf mp) :: ((b30, Obj.cells #[.slice gs.2.2.1 gs.2.1.length gs.2.2.2.1] 57 (0, 0)) :: (Hr19 ++ (Hr9 ++ [(b1, Obj.cells p.cs 54 (0, 0))]))))))) (fun gs => mp.length - gs.1.size) (#[], [], none, 0, []) ?_ (by kernel_rfl) (fun w h => h) ?_
   ·
    try dsimp only
    exact ⟨⟨by simp, by simp⟩, rfl, RowIs.nil⟩
   rintro ⟨sn, out, A5, c5, Hr5⟩ hI_
   obtain ⟨hsn, hout, hrow5⟩ : Seen mp sn ∧ out = pickO (quorum (size m)) mp sn ∧ RowIs 63 11 A5 out.length c5 (cells out) Hr5 := hI_
   have hol5 : out.length ≤ mp.length := by rw [hout]; exact pick_len hsn
   refine W.seq (W.rg od2 (T.mapNext 75 0 mp b16 it31 sn (((pm0.append_left Hr5).trans List.perm_middle).trans (((pm0.append_left Hr5).trans List.perm_middle).cons _)) (by kernel_rfl) (fun w => by kernel_rfl) tv3 (fun hall35 => ?_) (fun k32 hlt33 hc34 => ?_)))
   ·
    refine T.pb 76 false (T.nil (QN.seq (W.seq (W.cd false (fun h36 => ?_) (fun h36 => ?_)))))
    · exact absurd h36 (by decide)
    ·
     refine W.exit (QN.thenExit (QN.thenExit (QN.blkHit (QN.seq (W.seq (W.rg od4 (T.ld false 90 (.slice A5 out.length c5) 57 b30 0 (fun w h => St.cellM h (.tail _ (.tail _ (List.mem_append_right _ mm0))) (by kernel_rfl)) (T.pu 91 (.iface 57 (.slice A5 out.length c5)) (T.pu 92 (.func (.func 53) #[] #[.pointer (some ⟨b30, 0, none⟩)]) (T.callG (β := List Oc × List (Nat × Obj)) 93 52 #[.iface 57 (.slice A5 out.length c5), .func (.func 53) #[] #[.pointer (some ⟨b30, 0, none⟩)]] (fun gs => .tuple #[]) (fun gs => St w (gs.2 ++ ((it31, iterOf b16 mp.length sn) :: ((b16, mapOf mp) :: ((b30, Obj.cells #[.slice A5 out.length c5] 57 (0, 0)) :: (Hr19 ++ (Hr9 ++ [(b1, Obj.cells p.cs 54 (0, 0))]))))))) (fun gs => gs.1.Perm out ∧ Asc oless gs.1 ∧ RowIs 63 11 A5 out.length c5 (cells gs.1) gs.2) (by kernel_rfl) (by kernel_rfl) ent52 ?_ tv3 ?_))))))))))
     · exact fun w hw => sliceR_c (α := Oc) (H0 := ((it31, iterOf b16 mp.length sn) :: ((b16, mapOf mp) :: ((b30, Obj.cells #[.slice A5 out.length c5] 57 (0, 0)) :: (Hr19 ++ (Hr9 ++ [(b1, Obj.cells p.cs 54 (0, 0))])))))) sortOc hrow5 (by omega) ent53 (out_less mm2 (by omega)) oless_swo w ((hw.perm (((((pm0.cons _).trans List.perm_middle.symm).cons _).trans List.perm_middle.symm).trans ((pm0.trans ((pm0.trans ((pm0.trans ((pm0.trans ((pm0.trans (pm0.append_left Hr9)).append_left Hr19)).cons _)).cons _)).cons _)).append_left Hr5))).part (List.Sublist.append (List.Sublist.refl _) ((((List.Sublist.append (List.Sublist.refl _) (List.Sublist.append (List.Sublist.refl _) ns1)).cons_cons _).cons_cons _).cons_cons _)))
     rintro ⟨so, Hg⟩ hp_
     have hp37 : so.Perm out ∧ Asc oless so ∧ RowIs 63 11 A5 out.length c5 (cells so) Hg := hp_
     refine T.nil (QN.seq (W.seq (W.rg od2 (T.ld false 94 (.slice A5 out.length c5) 57 b30 0 (fun w h => St.cellM h (List.mem_append_right _ mm2) (by kernel_rfl)) (T.pu 8 (.slice A5 out.length c5) (T.nil (QN.seq (W.ret (QN.done (.inl rfl) 8 (.slice A5 out.length c5) rfl (by kernel_rfl) (fun w hw => ?_))))))))))
     exact (have hq := hp37; have hkl : k = l.length := (by omega); have hoq : own = ownF s l := (by rw [hown, hkl, List.take_length]; rfl); have e1 : so = outV m p l s := out_fin (by rw [hmq, hoq]) hsn hall35 hout hq.1 hq.2.1; have hsl : out.length = so.length := hq.1.length_eq.symm; by rw [← e1]; exact ⟨A5, c5, Hg, by rw [hsl], by rw [← hsl]; exact hq.2.2, hw.part (List.sublist_append_left _ _)⟩)
   ·
    refine T.pb 76 true (T.nil (QN.seq (W.seq (W.cd true (fun h38 => ?_) (fun h38 => ?_)))))
    ·
     refine W.skip (QN.seq (W.block (W.seq (W.rg od6 (T.mapEntry 77 mp b16 it31 k32 sn hlt33 (pm0.trans (pm0.cons _)) (by kernel_rfl) (fun w => by kernel_rfl) (T.pu 78 (.agg (((mp)[k32]'hlt33).1).cs) (T.pi 79 (((mp)[k32]'hlt33).2) (T.al 16 63 Oc.zero.cs tv3 (fun b39 => T.sp 63 b39 0 (.agg (((mp)[k32]'hlt33).1).cs) Oc.zero.cs (((mp)[k32]'hlt33).1).cs 63 pm0 tv2 (T.pi 17 (((mp)[k32]'hlt33).2) (T.nil (QN.seq (W.seq (W.rg od6 (T.pi 80 (((mp)[k32]'hlt33).2) (T.cp 81 25 #[.int .i64 (((mp)[k32]'hlt33).2)] (.int .i64 (size (((mp)[k32]'hlt33).2) : Int)) ent25 (fun w hw => Ret.same (size_c _ w)) tv2 (T.pi 82 m (T.cp 83 25 #[.int .i64 m] (.int .i64 (size m : Int)) ent25 (fun w hw => Ret.same (size_c _ w)) tv2 (T.cp 84 24 #[.int .i64 (size m : Int)] (.int .i64 (quorum (size m : Int))) ent24 (fun w hw => Ret.same (quorum_c _ w (by unfold W64; omega))) tv2 (T.pb 85 (decide ((quorum (size m : Int)) ≤ (size (((mp)[k32]'hlt33).2) : Int))) (T.nil (QN.seq (W.cd (decide ((quorum (size m : Int)) ≤ (size (((mp)[k32]'hlt33).2) : Int))) (fun h40 => ?_) (fun h40 => ?_))))))))))))))))))))))))
     ·
      have h40' := of_decide_eq_true h40
      refine W.rg od5 (T.ld false 86 (.slice A5 out.length c5) 57 b30 0 (fun w h => St.cellM h (.tail _ (.tail _ (.tail _ (List.mem_append_right _ mm0)))) (by kernel_rfl)) (T.lr false 87 (((mp)[k32]'hlt33).1).cs 63 b39 0 (fun w h => St.rangeM h (((mp)[k32]'hlt33).1).cs mm0 (by kernel_rfl)) (T.lit 88 57 63 1 #[(0, .agg (((mp)[k32]'hlt33).1).cs)] (cells ([((mp)[k32]'hlt33).1] : List Oc)).toArray (by kernel_rfl) (by kernel_rfl) (by kernel_rfl) (by kernel_rfl) tv3 (fun b41 => T.appC 89 57 63 32 A5 c5 (out : List Oc) Hr5 b41 0 1 ([((mp)[k32]'hlt33).1] : List Oc) ((((((((pm0.cons _).trans List.perm_middle.symm).cons _).trans List.perm_middle.symm).cons _).trans List.perm_middle.symm).cons _).trans List.perm_middle.symm) (by kernel_rfl) (by kernel_rfl) (by kernel_rfl) (by kernel_rfl) hrow5 (fun w h => St.rangeM h (cells ([((mp)[k32]'hlt33).1] : List Oc)).toArray (List.mem_append_right _ mm0) (by kernel_rfl)) (by unfold maxLen; first | omega | (simp; omega)) (by first | omega | (simp; omega)) tv3 (fun A42 c43 Hr44 hrow45 => T.sp 57 b30 0 (.slice A42 ((out ++ ([((mp)[k32]'hlt33).1])).length) c43) #[.slice A5 out.length c5] #[.slice A42 ((out ++ ([((mp)[k32]'hlt33).1])).length) c43] 57 ((pm4.append_left Hr44).trans List.perm_middle) tv2 (T.nil (QN.blkNormal (QN.back (sn.push k32, out ++ ([((mp)[k32]'hlt33).1]), A42, c43, Hr44) ?_ ?_ (by kernel_rfl) (fun w h => (h.perm (((pm0.cons _).trans List.perm_middle.symm).trans ((pm3.trans ((pm3.trans ((pm0.trans ((((((pm0.cons _).trans List.perm_middle.symm).cons _).trans List.perm_middle.symm).trans ((((((pm0.cons _).trans List.perm_middle.symm).cons _).trans List.perm_middle.symm).trans (pm2.append_left Hr9)).append_left Hr19)).cons _)).cons _)).cons _)).append_left Hr44))).part (List.Sublist.append (List.Sublist.refl _) ((((List.Sublist.append (List.Sublist.refl _) (List.Sublist.append (List.Sublist.refl _) ns1)).cons_cons _).cons_cons _).cons_cons _)))))))))))
      ·
       try dsimp only
       exact ⟨(hsn.push hlt33 hc34).1, pick_yes hlt33 hout h40, hrow45⟩
      · show mp.length - (sn.push k32).size < mp.length - sn.size; have := (hsn.push hlt33 hc34).2; rw [Array.size_push]; omega
     ·
      have h40' := of_decide_eq_false h40
      refine W.skip (QN.blkNormal (QN.back (sn.push k32, out, A5, c5, Hr5) ?_ ?_ (by kernel_rfl) (fun w h => (h.perm (((((((pm0.cons _).trans List.perm_middle.symm).cons _).trans List.perm_middle.symm).cons _).trans List.perm_middle.symm).trans ((pm1.trans ((pm1.trans ((pm1.trans ((((pm0.cons _).trans List.perm_middle.symm).trans ((((pm0.cons _).trans List.perm_middle.symm).trans (pm1.append_left Hr9)).append_left Hr19)).cons _)).cons _)).cons _)).append_left Hr5))).part (List.Sublist.append (List.Sublist.refl _) ((((List.Sublist.append (List.Sublist.refl _) (List.Sublist.append (List.Sublist.refl _) ns1)).cons_cons _).cons_cons _).cons_cons _)))))
      ·
       try dsimp only
       exact ⟨(hsn.push hlt33 hc34).1, pick_no hlt33 hout h40, hrow5⟩
      · show mp.length - (sn.push k32).size < mp.length - sn.size; have := (hsn.push hlt33 hc34).2; rw [Array.size_push]; omega
    · exact absurd h38 (by decide)
def decB (m : Int) (p : Nm) (l : List Vt) (o : Oc) : Bool := (outV m p l o.slot).any (fun x => x == o)
set_option maxRecDepth 100000 in
set_option maxHeartbeats 2000000 in
theorem decided_c (m : Int) (p : Nm) (l : List Vt) (o : Oc) (A : Option Addr) (c : Nat) (w : World) (hm : W64 m) (hok : ∀ u ∈ l, W64 u.support) (hl : l.length ≤ 1000) (hr : Rd w A l) : Calls Try.prog 57 #[.int .i64 m, .agg p.cs, .slice A l.length c, .agg o.cs] w (fun rr w' => rr = .returned (.bool (decB m p l o)) ∧ Below w.heap.size w w') := by
 have hol := outV_len m p l o.slot
 refine calls_W (n := 26) Try.func57 rfl [(0, .int .i64 m), (1, .agg p.cs), (2, .slice A l.length c), (3, .agg o.cs)] rfl ⟨by kernel_rfl, by kernel_rfl⟩ (W.weak (Ψ := St w []) (fun w' h => by rw [h]; exact St.start w) (W.seq (W.rg od3 (T.bx 5 54 (.agg p.cs) (p.cs) tv3 (fun b1 => T.bx 7 63 (.agg o.cs) (o.cs) tv3 (fun b2 => T.pb 8 false (T.nil (QN.seq (W.seq (W.seq (W.rg od8 (T.pi 11 m (T.lr false 12 p.cs 54 b1 0 (fun w h => St.rangeM h p.cs mm1 (by kernel_rfl)) (T.pu 13 (.slice A l.length c) (T.pu 14 (.pointer (some ⟨b2, 0, none⟩)) (T.ld false 15 (.int .i64 o.slot) 3 b2 0 (fun w h => St.cellM h mm0 (by kernel_rfl)) (T.callR 16 28 #[.int .i64 m, .agg p.cs, .slice A l.length c, .int .i64 o.slot] 63 11 (outV m p l o.slot).length (cells (outV m p l o.slot)) (by kernel_rfl) (by kernel_rfl) ent28 (fun w hw => outcomes_c m p l o.slot A c w (by assumption) hok (by first | omega | (simp; done) | (simp; omega)) (Arr.rd (Rd.arr hr _) hw)) tv3 (fun A3 c4 Hr5 hrow6 => T.pi 17 (((outV m p l o.slot).length : Nat) : Int) (T.pi 18 0 (T.nil (QN.seq (W.block (W.loop (σ := Nat) (fun gs => gs ≤ (outV m p l o.slot).length ∧ ((outV m p l o.slot).take gs).any (fun x => x == o) = false) (fun gs => [(7, .pointer (some ⟨b2, 0, none⟩)), (16, .slice A3 ((outV m p l o.slot).length) c4), (17, .int .i64 (((outV m p l o.slot).length : Nat) : Int)), (18, .int .i64 gs)]) (fun gs => St w (Hr5 ++ [(b2, Obj.cells o.cs 63 (0, 0)), (b1, Obj.cells p.cs 54 (0, 0))])) (fun gs => (outV m p l o.slot).length - gs) 0 ?_ (by kernel_rfl) (fun w h => h) ?_)))))))))))))))))))))))
 ·
  try dsimp only
  exact ⟨Nat.zero_le _, any_zero _ _⟩
 rintro j hI_
 obtain ⟨hj, hany⟩ : j ≤ (outV m p l o.slot).length ∧ ((outV m p l o.slot).take j).any (fun x => x == o) = false := hI_
 refine W.seq (W.rg od1 (T.pb 19 (decide ((j : Int) < (((outV m p l o.slot).length : Nat) : Int))) (T.nil (QN.seq (W.seq (W.cd (decide ((j : Int) < (((outV m p l o.slot).length : Nat) : Int))) (fun h7 => ?_) (fun h7 => ?_)))))))
 ·
  have h7' := of_decide_eq_true h7
  have hl8 : j < (outV m p l o.slot).length := by omega
  refine W.skip (QN.seq (W.seq (W.block (W.seq (W.rg od4 ?_)))))
  obtain ⟨b9, o10, hA11, hr12⟩ := (Arr.row hrow6 rfl rfl _) j hl8
  refine T.ix 20 57 63 11 A3 ((outV m p l o.slot).length) c4 (j : Int) j b9 o10 hA11 rfl (by omega) (T.lr false 21 ((outV m p l o.slot)[j]'hl8).cs 63 b9 (o10 + j * 11) hr12 (T.al 10 63 Oc.zero.cs tv3 (fun b13 => T.sp 63 b13 0 (.agg ((outV m p l o.slot)[j]'hl8).cs) Oc.zero.cs ((outV m p l o.slot)[j]'hl8).cs 63 pm0 tv2 (T.nil (QN.seq (W.seq (W.rg od3 (T.lr false 22 ((outV m p l o.slot)[j]'hl8).cs 63 b13 0 (fun w h => St.rangeM h ((outV m p l o.slot)[j]'hl8).cs mm0 (by kernel_rfl)) (T.lr false 23 o.cs 63 b2 0 (fun w h => St.rangeM h o.cs (.tail _ (List.mem_append_right _ mm0)) (by kernel_rfl)) (T.eqq 24 (((outV m p l o.slot)[j]'hl8) == o) (((outV m p l o.slot)[j]'hl8) == o) false 63 ((outV m p l o.slot)[j]'hl8).cs o.cs (by kernel_rfl) (by kernel_rfl) (by kernel_rfl) (by kernel_rfl) (fun w => eq_oc w ((outV m p l o.slot)[j]'hl8) o) (T.nil (QN.seq (W.cd (((outV m p l o.slot)[j]'hl8) == o) (fun h14 => ?_) (fun h14 => ?_))))))))))))))
  ·
   refine W.seq (W.rg od1 (T.pb 8 true (T.nil (QN.seq (W.ret (QN.blkRet (QN.thenRet (QN.thenRet (QN.blkRet (QN.thenRet (QN.done (.inl rfl) 8 (.bool true) rfl (by kernel_rfl) (fun w hw => ⟨?_, hw.below⟩))))))))))))
   exact ret_bool (any_hit (p := fun x => x == o) (by omega) h14).symm
  ·
   refine W.skip (QN.blkNormal (QN.seq (W.rg od2 (T.pw 25 ((j : Int) + 1) (T.pi 18 ((j : Int) + 1) (T.nil (QN.back (j + 1) ?_ ?_ (by kernel_rfl) (fun w h => (h.perm (((pm0.cons _).trans List.perm_middle.symm).trans ((pm1.trans (pm1.cons _)).append_left Hr5))).part (List.Sublist.append (List.Sublist.refl _) ns2)))))))))
   ·
    try dsimp only
    exact ⟨by omega, any_step hany (by omega) h14⟩
   · show (outV m p l o.slot).length - (j + 1) < (outV m p l o.slot).length - j; omega
 ·
  have h7' := of_decide_eq_false h7
  refine W.exit (QN.thenExit (QN.thenExit (QN.blkHit (QN.seq (W.seq (W.rg od1 (T.pb 8 false (T.nil (QN.seq (W.ret (QN.done (.inl rfl) 8 (.bool false) rfl (by kernel_rfl) (fun w hw => ⟨?_, hw.below⟩))))))))))))
  exact ret_bool (any_end hany (by omega)).symm
theorem take_bkG {α : Type} {a b : List α} {j : Nat} (ha : j < a.length) (hb : j < b.length) (h : a.take j = b.take j) (he : a[j] = b[j]) : a.take (j + 1) = b.take (j + 1) := by
  rw [List.take_succ_eq_append_getElem ha, List.take_succ_eq_append_getElem hb, h, he]
section
variable {α : Type} [DecidableEq α] {a b : List α} {j : Nat}
theorem sameG_ne (h : ((a.length : Int) != (b.length : Int)) = true) : false = (a == b) := by
  have e : ¬ a = b := fun e => by subst e; simp at h
  simpa using e
theorem sameG_el {ha : j < a.length} {hb : j < b.length} (h : (a[j] != b[j]) = true) : false = (a == b) := by
  have e : ¬ a = b := fun e => by subst e; simp at h
  simpa using e
end
theorem lenG {α : Type} {a b : List α} (h : ((a.length : Int) != (b.length : Int)) = false) : a.length = b.length := by
  simp only [bne_eq_false_iff_eq] at h; omega
end Go.Proofs.Ytphnfhonmbbddaa
