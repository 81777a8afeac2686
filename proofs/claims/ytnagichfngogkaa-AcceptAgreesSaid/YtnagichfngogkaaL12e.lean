/- The walks of AcceptAccounts and AcceptAgrees. -/
import Derived.Test.YtnagichfngogkaaAcct
import Derived.Test.YtnagichfngogkaaPair
namespace Go.Proofs.Ytnagichfngogkaa
open Go Go.RowKit
set_option linter.unusedVariables false

def tornP (m : Int) (p : Nm) (u z : Vt) : Bool := (((u.signer == z.signer) && (u.par == p)) && (confB u z)) && (hasB m u.signer)
theorem tornP_sg {m : Int} {p : Nm} (u z : Vt) (h : tornP m p u z = true) : 0 ≤ u.signer ∧ u.signer < 10 := by
  unfold tornP at h
  rw [Bool.and_eq_true] at h
  exact hasB_lt h.2
theorem torn_size {m : Int} {p : Nm} {a b : List Vt} {X : Int} (h : Torn m p a b X) : size X ≤ size (pairM (tornP m p) a b) := by
  refine size_mono fun i hi hm => ?_
  obtain ⟨g0, u, hu, z, hz, e1, e2, e3, e4⟩ := h i hi hm
  rw [mb_pairM tornP_sg _ _ _ hi, List.any_eq_true]
  refine ⟨u, hu, List.any_eq_true.2 ⟨z, hz, ?_⟩⟩
  unfold tornP
  have e5 : hasB m u.signer = true := by rw [e1, hasB_nat _ _ hi]; exact g0
  rw [e4, e5, e1, e2, e3]
  simp
def unO (x y : Oc) : Bool := (x.choice != y.choice) || (x.val != y.val)
theorem un_step {Y : List Oc} {x : Oc} {ub ub2 : Bool} {k : Nat} (h : ub2 = (ub || (Y.take k).any (unO x))) (hk : k < Y.length) : ((ub2 || (x.choice != Y[k].choice)) || (x.val != Y[k].val)) = (ub || (Y.take (k + 1)).any (unO x)) := by
  rw [← any_snoc hk, h]; simp [unO, Bool.or_assoc]
theorem un_ne {x y : Oc} (h : unO x y = true) : ¬ (x.choice = y.choice ∧ x.val = y.val) := by
  rintro ⟨h1, h2⟩
  unfold unO at h
  rw [h1, h2] at h; simp at h
theorem accounts_w {m : Int} {p : Nm} {s : Int} {l l' : List Vt} {ub : Bool} (h : ub = true) (hu : ub = (outV m p l s).any (fun o => (outV m p l' s).any (unO o))) :
    (((decide ((2 * quorum (size m)) - (size m : Int) ≤ (size (pairM (tornP m p) (accV m p l) (accV m p l')) : Int))) && (decide (third (size m) ≤ (size (pairM (tornP m p) (accV m p l) (accV m p l')) : Int)))) && true) = true := by
  rw [hu, List.any_eq_true] at h
  obtain ⟨x, hx, h⟩ := h
  obtain ⟨y, hy, h⟩ := List.any_eq_true.1 h
  obtain ⟨X, h1, h2⟩ := accounts hx hy (un_ne h)
  have h3 := torn_size (h2.mono acc_own acc_own)
  have ht := third_le (size m)
  simp only [Bool.and_true, Bool.and_eq_true, decide_eq_true_eq]
  omega
theorem agrees_w {m : Int} {p : Nm} {s : Int} {l : List Vt} {j : Nat} {hj : j < (outV m p l s).length} {h0 : 0 < (outV m p l s).length} (h : (decide (third (size m) ≤ (size (pairM (tornP m p) l l) : Int))) = false) (hu : (((outV m p l s)[j].choice != (outV m p l s)[0].choice) || ((outV m p l s)[j].val != (outV m p l s)[0].val)) = true) : False := by
  obtain ⟨X, h1, h2⟩ := accounts (List.getElem_mem hj) (List.getElem_mem h0) (un_ne hu)
  have h3 := torn_size (h2.mono (fun u hu => (accV_mem (acc_own u hu)).1) (fun u hu => (accV_mem (acc_own u hu)).1))
  have ht := third_le (size m)
  simp only [decide_eq_false_iff_not] at h
  omega
set_option maxRecDepth 100000 in
set_option maxHeartbeats 2000000 in
theorem torn_c (m : Int) (p : Nm) (a b : List Vt) (A : Option Addr) (c : Nat) (A2 : Option Addr) (c2 : Nat) (w : World) (hm : W64 m) (hl : a.length ≤ 1000) (hl2 : b.length ≤ 1000) (hr : Rd w A a) (hr2 : Rd w A2 b) : Calls Try.prog 22 #[.int .i64 (m), .agg (p).cs, .slice A (a.length) c, .slice A2 (b.length) c2] w (fun rr w' => rr = .returned (.int .i64 (pairM (tornP m p) a b)) ∧ Below w.heap.size w w') := by
  refine calls_W (n := 74) Try.func22 rfl [(0, .int .i64 (m)), (1, .agg (p).cs), (2, .slice A (a.length) c), (3, .slice A2 (b.length) c2)] rfl ⟨by kernel_rfl, by kernel_rfl⟩ ?_
  refine W.weak (Ψ := St w []) (fun w' h => by rw [h]; exact St.start w) ?_
  refine W.seq ?_
  refine W.region [(0, false), (1, false)] (by kernel_rfl) ?_
  refine T.box 5 24 (.agg (p).cs) ((p).cs) (by kernel_rfl) (by kernel_rfl) (by kernel_rfl) (fun _ _ _ => trivial) (fun b1 => ?_)
  refine T.pure 8 (.int .i64 (0)) (by kernel_rfl) (fun w => by kernel_rfl) ?_
  refine T.nil ?_
  refine QN.seq ?_
  refine W.seq ?_
  refine W.region [(0, false)] (by kernel_rfl) ?_
  refine T.pure 9 (.int .i64 (0)) (by kernel_rfl) (fun w => by kernel_rfl) ?_
  refine T.nil ?_
  refine QN.seq ?_
  refine W.seq ?_
  refine W.seq ?_
  refine W.region [(0, false)] (by kernel_rfl) ?_
  refine T.pure 10 (.int .i64 (0)) (by kernel_rfl) (fun w => by kernel_rfl) ?_
  refine T.nil ?_
  refine QN.seq ?_
  refine W.block ?_
  refine W.loop (σ := Nat × Int) (fun gs => gs.1 ≤ (a).length ∧ gs.2 = pairM (tornP m p) ((a).take gs.1) (b)) (fun gs => [(0, .int .i64 (m)), (2, .slice A (a.length) c), (3, .slice A2 (b.length) c2), (5, .pointer (some ⟨b1, 0, none⟩)), (8, .int .i64 (0)), (9, .int .i64 (gs.2)), (10, .int .i64 ((gs.1 : Int)))]) (fun gs => St w [(b1, Obj.cells (p).cs 24 (0, 0))]) (fun gs => (a).length - gs.1) (0, 0) ?_ (by kernel_rfl) (fun w h => h) ?_
  · show 0 ≤ (a).length ∧ 0 = pairM (tornP m p) ((a).take 0) (b)
    exact ⟨Nat.zero_le _, rfl⟩
  rintro ⟨j, mk⟩ hI_
  obtain ⟨hj, hmk⟩ : j ≤ (a).length ∧ mk = pairM (tornP m p) ((a).take j) (b) := hI_
  show W _ _ [(0, .int .i64 (m)), (2, .slice A (a.length) c), (3, .slice A2 (b.length) c2), (5, .pointer (some ⟨b1, 0, none⟩)), (8, .int .i64 (0)), (9, .int .i64 (mk)), (10, .int .i64 ((j : Int)))] (St w [(b1, Obj.cells (p).cs 24 (0, 0))]) _ _
  refine W.seq ?_
  refine W.seq ?_
  refine W.region [(0, false), (1, false), (2, false), (3, false)] (by kernel_rfl) ?_
  refine T.pure 12 (.int .i64 ((j : Int))) (by kernel_rfl) (fun w => by kernel_rfl) ?_
  refine T.pure 13 (.slice A (a.length) c) (by kernel_rfl) (fun w => by kernel_rfl) ?_
  refine T.pure 14 (.int .i64 (((a.length : Nat) : Int))) (by kernel_rfl) (fun w => by kernel_rfl) ?_
  refine T.pure 15 (.bool (decide ((j : Int) < ((a.length : Nat) : Int)))) (by kernel_rfl) (fun w => by kernel_rfl) ?_
  refine T.nil ?_
  refine QN.seq ?_
  refine W.cond (decide ((j : Int) < ((a.length : Nat) : Int))) (by kernel_rfl) (fun h2 => ?_) (fun h2 => ?_)
  · skip
    have h2' := of_decide_eq_true h2
    have hl3 : j < (a).length := by omega
    refine W.skip ?_
    refine QN.seq ?_
    refine W.seq ?_
    refine W.block ?_
    refine W.seq ?_
    refine W.region [(0, false)] (by kernel_rfl) ?_
    refine T.pure 11 (.int .i64 (0)) (by kernel_rfl) (fun w => by kernel_rfl) ?_
    refine T.nil ?_
    refine QN.seq ?_
    refine W.block ?_
    refine W.loop (σ := Nat × Int) (fun gs => gs.1 ≤ (b).length ∧ gs.2 = pairI (tornP m p) (a[j]'hl3) ((b).take gs.1) mk) (fun gs => [(0, .int .i64 (m)), (2, .slice A (a.length) c), (3, .slice A2 (b.length) c2), (5, .pointer (some ⟨b1, 0, none⟩)), (8, .int .i64 (0)), (9, .int .i64 (gs.2)), (10, .int .i64 ((j : Int))), (11, .int .i64 ((gs.1 : Int))), (12, .int .i64 ((j : Int))), (13, .slice A (a.length) c), (14, .int .i64 (((a.length : Nat) : Int))), (15, .bool (decide ((j : Int) < ((a.length : Nat) : Int))))]) (fun gs => St w [(b1, Obj.cells (p).cs 24 (0, 0))]) (fun gs => (b).length - gs.1) (0, mk) ?_ (by kernel_rfl) (fun w h => h) ?_
    · show 0 ≤ (b).length ∧ mk = pairI (tornP m p) (a[j]'hl3) ((b).take 0) mk
      exact ⟨Nat.zero_le _, rfl⟩
    rintro ⟨k2, mk2⟩ hI_
    obtain ⟨hk2, hmk2⟩ : k2 ≤ (b).length ∧ mk2 = pairI (tornP m p) (a[j]'hl3) ((b).take k2) mk := hI_
    show W _ _ [(0, .int .i64 (m)), (2, .slice A (a.length) c), (3, .slice A2 (b.length) c2), (5, .pointer (some ⟨b1, 0, none⟩)), (8, .int .i64 (0)), (9, .int .i64 (mk2)), (10, .int .i64 ((j : Int))), (11, .int .i64 ((k2 : Int))), (12, .int .i64 ((j : Int))), (13, .slice A (a.length) c), (14, .int .i64 (((a.length : Nat) : Int))), (15, .bool (decide ((j : Int) < ((a.length : Nat) : Int))))] (St w [(b1, Obj.cells (p).cs 24 (0, 0))]) _ _
    refine W.seq ?_
    refine W.seq ?_
    refine W.region [(0, false), (1, false), (2, false), (3, false)] (by kernel_rfl) ?_
    refine T.pure 18 (.int .i64 ((k2 : Int))) (by kernel_rfl) (fun w => by kernel_rfl) ?_
    refine T.pure 19 (.slice A2 (b.length) c2) (by kernel_rfl) (fun w => by kernel_rfl) ?_
    refine T.pure 20 (.int .i64 (((b.length : Nat) : Int))) (by kernel_rfl) (fun w => by kernel_rfl) ?_
    refine T.pure 21 (.bool (decide ((k2 : Int) < ((b.length : Nat) : Int)))) (by kernel_rfl) (fun w => by kernel_rfl) ?_
    refine T.nil ?_
    refine QN.seq ?_
    refine W.cond (decide ((k2 : Int) < ((b.length : Nat) : Int))) (by kernel_rfl) (fun h4 => ?_) (fun h4 => ?_)
    · skip
      have h4' := of_decide_eq_true h4
      have hl5 : k2 < (b).length := by omega
      refine W.skip ?_
      refine QN.seq ?_
      refine W.seq ?_
      refine W.block ?_
      refine W.seq ?_
      refine W.drawn (Ψ := St w [(b1, Obj.cells (p).cs 24 (0, 0))]) (St w [(b1, Obj.cells (p).cs 24 (0, 0))]) [(0, true), (1, true), (2, true), (3, true), (4, true), (5, true), (6, true), (7, true), (8, true), (9, true), (10, true), (11, true), (12, true), (13, true), (14, true), (15, true), (16, true), (17, true), (18, true), (19, true), (20, true), (21, true), (22, true), (23, true), (24, true), (25, true), (26, true), (27, true), (28, true), (29, false), (30, true), (31, true), (32, true), (33, true), (34, true), (35, true), (36, true), (37, true), (38, false), (39, true)] hmx (by kernel_rfl) (NoPanic.then (NoPanic.inBlock (NoPanic.then (NoPanic.then (NoPanic.inBlock (NoPanic.inBlock (NoPanic.then (NoPanic.then (NoPanic.inBlock (NoPanic.then (NoPanic.body))))))))))) (fun w h => h.drew) (fun w h => h) ?_
      refine T.pure 24 (.slice A (a.length) c) (by kernel_rfl) (fun w => by kernel_rfl) ?_
      refine T.pure 25 (.int .i64 ((j : Int))) (by kernel_rfl) (fun w => by kernel_rfl) ?_
      obtain ⟨b6, o7, hA8, hr9⟩ := (Rd.arr hr _) j hl3
      refine T.index 26 25 43 22 A (a.length) c ((j : Int)) (j) b6 o7 (by kernel_rfl) (by kernel_rfl) (by kernel_rfl) (by kernel_rfl) hA8 (rfl) (by omega) ?_
      refine T.pure 27 (.pointer (some ⟨b6, o7 + j * 22 + 4, none⟩)) (by kernel_rfl) (fun w => by kernel_rfl) ?_
      refine T.load true 28 (.int .i64 (((a[j]'hl3)).signer)) 3 b6 (o7 + j * 22 + 4) (by kernel_rfl) (by kernel_rfl) (by kernel_rfl) (fun w h => cell_of_range (hr9 w h) 4 (by kernel_rfl)) ?_
      refine T.pure 29 (.slice A2 (b.length) c2) (by kernel_rfl) (fun w => by kernel_rfl) ?_
      refine T.pure 30 (.int .i64 ((k2 : Int))) (by kernel_rfl) (fun w => by kernel_rfl) ?_
      obtain ⟨b10, o11, hA12, hr13⟩ := (Rd.arr hr2 _) k2 hl5
      refine T.index 31 25 43 22 A2 (b.length) c2 ((k2 : Int)) (k2) b10 o11 (by kernel_rfl) (by kernel_rfl) (by kernel_rfl) (by kernel_rfl) hA12 (rfl) (by omega) ?_
      refine T.pure 32 (.pointer (some ⟨b10, o11 + k2 * 22 + 4, none⟩)) (by kernel_rfl) (fun w => by kernel_rfl) ?_
      refine T.load true 33 (.int .i64 (((b[k2]'hl5)).signer)) 3 b10 (o11 + k2 * 22 + 4) (by kernel_rfl) (by kernel_rfl) (by kernel_rfl) (fun w h => cell_of_range (hr13 w h) 4 (by kernel_rfl)) ?_
      refine T.pure 34 (.bool ((((a[j]'hl3)).signer) == (((b[k2]'hl5)).signer))) (by kernel_rfl) (fun w => by kernel_rfl) ?_
      refine T.pure 35 (.bool ((((a[j]'hl3)).signer) == (((b[k2]'hl5)).signer))) (by kernel_rfl) (fun w => by kernel_rfl) ?_
      refine T.blk [(12, true), (13, true), (14, true), (15, true), (16, true), (17, true), (18, true)] [(19, true), (20, true), (21, true), (22, true), (23, true), (24, true), (25, true), (26, true), (27, true), (28, true), (29, false), (30, true), (31, true), (32, true), (33, true), (34, true), (35, true), (36, true), (37, true), (38, false), (39, true)] 11 true ((((a[j]'hl3)).signer) == (((b[k2]'hl5)).signer)) 35 42 (.bool ((((a[j]'hl3)).par) == p)) (by kernel_rfl) (by kernel_rfl) (by kernel_rfl) (fun hg14 => ?_) ?_
      · have hg14_ := hg14
        refine T.pure 36 (.slice A (a.length) c) (by kernel_rfl) (fun w => by kernel_rfl) ?_
        refine T.pure 37 (.int .i64 ((j : Int))) (by kernel_rfl) (fun w => by kernel_rfl) ?_
        obtain ⟨b15, o16, hA17, hr18⟩ := (Rd.arr hr _) j hl3
        refine T.index 38 25 43 22 A (a.length) c ((j : Int)) (j) b15 o16 (by kernel_rfl) (by kernel_rfl) (by kernel_rfl) (by kernel_rfl) hA17 (rfl) (by omega) ?_
        refine T.pure 39 (.pointer (some ⟨b15, o16 + j * 22 + 6, none⟩)) (by kernel_rfl) (fun w => by kernel_rfl) ?_
        refine T.loadR true 40 (((a[j]'hl3)).par).cs 24 b15 (o16 + j * 22 + 6) (by kernel_rfl) (by kernel_rfl) (by kernel_rfl) (by kernel_rfl) (fun w h => range_of_range (hr18 w h) 6 (((a[j]'hl3)).par).cs (by kernel_rfl)) ?_
        refine T.loadR true 41 (p).cs 24 b1 0 (by kernel_rfl) (by kernel_rfl) (by kernel_rfl) (by kernel_rfl) (fun w h => St.rangeM h (p).cs (.head _) (by kernel_rfl)) ?_
        refine T.eqq 42 ((((a[j]'hl3)).par) == p) ((((a[j]'hl3)).par) == p) false 24 (((a[j]'hl3)).par).cs (p).cs (by kernel_rfl) (by kernel_rfl) (by kernel_rfl) (by kernel_rfl) (fun w => eq_nm w (((a[j]'hl3)).par) p) ?_
        exact T.blkEnd (by kernel_rfl) (fun w h => h)
      refine T.and 43 ((((a[j]'hl3)).signer) == (((b[k2]'hl5)).signer)) ((((a[j]'hl3)).par) == p) (by kernel_rfl) (by kernel_rfl) ?_
      refine T.pure 44 (.bool (((((a[j]'hl3)).signer) == (((b[k2]'hl5)).signer)) && ((((a[j]'hl3)).par) == p))) (by kernel_rfl) (fun w => by kernel_rfl) ?_
      refine T.blk [(21, true), (22, true), (23, true), (24, true), (25, true), (26, true), (27, true), (28, true), (29, false)] [(30, true), (31, true), (32, true), (33, true), (34, true), (35, true), (36, true), (37, true), (38, false), (39, true)] 20 true (((((a[j]'hl3)).signer) == (((b[k2]'hl5)).signer)) && ((((a[j]'hl3)).par) == p)) 44 53 (.bool (confB (a[j]'hl3) (b[k2]'hl5))) (by kernel_rfl) (by kernel_rfl) (by kernel_rfl) (fun hg19 => ?_) ?_
      · have hg19_ := hg19
        have hg19l := (Bool.and_eq_true_iff.1 hg19).1
        have hg19r := (Bool.and_eq_true_iff.1 hg19).2
        refine T.pure 45 (.slice A (a.length) c) (by kernel_rfl) (fun w => by kernel_rfl) ?_
        refine T.pure 46 (.int .i64 ((j : Int))) (by kernel_rfl) (fun w => by kernel_rfl) ?_
        obtain ⟨b20, o21, hA22, hr23⟩ := (Rd.arr hr _) j hl3
        refine T.index 47 25 43 22 A (a.length) c ((j : Int)) (j) b20 o21 (by kernel_rfl) (by kernel_rfl) (by kernel_rfl) (by kernel_rfl) hA22 (rfl) (by omega) ?_
        refine T.loadR true 48 ((a[j]'hl3)).cs 43 b20 (o21 + j * 22) (by kernel_rfl) (by kernel_rfl) (by kernel_rfl) (by kernel_rfl) hr23 ?_
        refine T.pure 49 (.slice A2 (b.length) c2) (by kernel_rfl) (fun w => by kernel_rfl) ?_
        refine T.pure 50 (.int .i64 ((k2 : Int))) (by kernel_rfl) (fun w => by kernel_rfl) ?_
        obtain ⟨b24, o25, hA26, hr27⟩ := (Rd.arr hr2 _) k2 hl5
        refine T.index 51 25 43 22 A2 (b.length) c2 ((k2 : Int)) (k2) b24 o25 (by kernel_rfl) (by kernel_rfl) (by kernel_rfl) (by kernel_rfl) hA26 (rfl) (by omega) ?_
        refine T.loadR true 52 ((b[k2]'hl5)).cs 43 b24 (o25 + k2 * 22) (by kernel_rfl) (by kernel_rfl) (by kernel_rfl) (by kernel_rfl) hr27 ?_
        refine T.callP 53 25 #[.agg ((a[j]'hl3)).cs, .agg ((b[k2]'hl5)).cs] (.bool (confB (a[j]'hl3) (b[k2]'hl5))) (by kernel_rfl) (by kernel_rfl) ent25 (fun w hw => conflict_c _ _ w) (fun w h => h) ?_
        exact T.blkEnd (by kernel_rfl) (fun w h => h)
      refine T.and 54 (((((a[j]'hl3)).signer) == (((b[k2]'hl5)).signer)) && ((((a[j]'hl3)).par) == p)) (confB (a[j]'hl3) (b[k2]'hl5)) (by kernel_rfl) (by kernel_rfl) ?_
      refine T.pure 55 (.bool ((((((a[j]'hl3)).signer) == (((b[k2]'hl5)).signer)) && ((((a[j]'hl3)).par) == p)) && (confB (a[j]'hl3) (b[k2]'hl5)))) (by kernel_rfl) (fun w => by kernel_rfl) ?_
      refine T.blk [(32, true), (33, true), (34, true), (35, true), (36, true), (37, true), (38, false)] [(39, true)] 31 true ((((((a[j]'hl3)).signer) == (((b[k2]'hl5)).signer)) && ((((a[j]'hl3)).par) == p)) && (confB (a[j]'hl3) (b[k2]'hl5))) 55 62 (.bool (hasB m (((a[j]'hl3)).signer))) (by kernel_rfl) (by kernel_rfl) (by kernel_rfl) (fun hg28 => ?_) ?_
      · have hg28_ := hg28
        have hg28l := (Bool.and_eq_true_iff.1 hg28).1
        have hg28r := (Bool.and_eq_true_iff.1 hg28).2
        have hg28ll := (Bool.and_eq_true_iff.1 hg28l).1
        have hg28lr := (Bool.and_eq_true_iff.1 hg28l).2
        refine T.pure 56 (.int .i64 (m)) (by kernel_rfl) (fun w => by kernel_rfl) ?_
        refine T.pure 57 (.slice A (a.length) c) (by kernel_rfl) (fun w => by kernel_rfl) ?_
        refine T.pure 58 (.int .i64 ((j : Int))) (by kernel_rfl) (fun w => by kernel_rfl) ?_
        obtain ⟨b29, o30, hA31, hr32⟩ := (Rd.arr hr _) j hl3
        refine T.index 59 25 43 22 A (a.length) c ((j : Int)) (j) b29 o30 (by kernel_rfl) (by kernel_rfl) (by kernel_rfl) (by kernel_rfl) hA31 (rfl) (by omega) ?_
        refine T.pure 60 (.pointer (some ⟨b29, o30 + j * 22 + 4, none⟩)) (by kernel_rfl) (fun w => by kernel_rfl) ?_
        refine T.load true 61 (.int .i64 (((a[j]'hl3)).signer)) 3 b29 (o30 + j * 22 + 4) (by kernel_rfl) (by kernel_rfl) (by kernel_rfl) (fun w h => cell_of_range (hr32 w h) 4 (by kernel_rfl)) ?_
        refine T.callP 62 41 #[.int .i64 (m), .int .i64 (((a[j]'hl3)).signer)] (.bool (hasB m (((a[j]'hl3)).signer))) (by kernel_rfl) (by kernel_rfl) ent41 (fun w hw => Ret.same (has_c _ _ w (by first | assumption | exact w64_and _ _ | exact w64_or _ _ | exact w64_andNot _ _ | (unfold W64; omega)))) (fun w h => h) ?_
        exact T.blkEnd (by kernel_rfl) (fun w h => h)
      refine T.and 63 ((((((a[j]'hl3)).signer) == (((b[k2]'hl5)).signer)) && ((((a[j]'hl3)).par) == p)) && (confB (a[j]'hl3) (b[k2]'hl5))) (hasB m (((a[j]'hl3)).signer)) (by kernel_rfl) (by kernel_rfl) ?_
      refine T.nil ?_
      refine QN.seq ?_
      refine W.cond (((((((a[j]'hl3)).signer) == (((b[k2]'hl5)).signer)) && ((((a[j]'hl3)).par) == p)) && (confB (a[j]'hl3) (b[k2]'hl5))) && (hasB m (((a[j]'hl3)).signer))) (by kernel_rfl) (fun h33 => ?_) (fun h33 => ?_)
      · skip
        have h33l := (Bool.and_eq_true_iff.1 h33).1
        have h33r := (Bool.and_eq_true_iff.1 h33).2
        have h33ll := (Bool.and_eq_true_iff.1 h33l).1
        have h33lr := (Bool.and_eq_true_iff.1 h33l).2
        have h33lll := (Bool.and_eq_true_iff.1 h33ll).1
        have h33llr := (Bool.and_eq_true_iff.1 h33ll).2
        have h33rb := hasB_lt h33r
        refine W.region [(0, false), (1, false), (2, false), (3, false), (4, false), (5, false), (6, false), (7, false), (8, false), (9, false)] (by kernel_rfl) ?_
        refine T.pure 64 (.int .i64 (mk2)) (by kernel_rfl) (fun w => by kernel_rfl) ?_
        refine T.pure 65 (.slice A (a.length) c) (by kernel_rfl) (fun w => by kernel_rfl) ?_
        refine T.pure 66 (.int .i64 ((j : Int))) (by kernel_rfl) (fun w => by kernel_rfl) ?_
        obtain ⟨b34, o35, hA36, hr37⟩ := (Rd.arr hr _) j hl3
        refine T.index 67 25 43 22 A (a.length) c ((j : Int)) (j) b34 o35 (by kernel_rfl) (by kernel_rfl) (by kernel_rfl) (by kernel_rfl) hA36 (rfl) (by omega) ?_
        refine T.pure 68 (.pointer (some ⟨b34, o35 + j * 22 + 4, none⟩)) (by kernel_rfl) (fun w => by kernel_rfl) ?_
        refine T.load false 69 (.int .i64 (((a[j]'hl3)).signer)) 3 b34 (o35 + j * 22 + 4) (by kernel_rfl) (by kernel_rfl) (by kernel_rfl) (fun w h => cell_of_range (hr37 w h) 4 (by kernel_rfl)) ?_
        refine T.pureE 70 (.int .u64 (IntKind.u64.wrap (((a[j]'hl3)).signer))) (.int .u64 (((a[j]'hl3)).signer)) (by kernel_rfl) (fun w => by kernel_rfl) (wrapu_int (by omega) (by omega)) ?_
        refine T.shl 71 .i64 .u64 1 (((a[j]'hl3)).signer) (.int .i64 (2 ^ (((a[j]'hl3)).signer).toNat)) (by kernel_rfl) (by kernel_rfl) (by omega) (shl_one (by omega) (by omega)) ?_
        refine T.pure 72 (.int .i64 (bits .or .i64 mk2 (2 ^ (((a[j]'hl3)).signer).toNat))) (by kernel_rfl) (fun w => by kernel_rfl) ?_
        refine T.pure 9 (.int .i64 (bits .or .i64 mk2 (2 ^ (((a[j]'hl3)).signer).toNat))) (by kernel_rfl) (fun w => by kernel_rfl) ?_
        refine T.nil ?_
        refine QN.blkNormal ?_
        refine QN.seq ?_
        refine W.region [(0, false), (1, false), (2, false)] (by kernel_rfl) ?_
        refine T.pure 22 (.int .i64 ((k2 : Int))) (by kernel_rfl) (fun w => by kernel_rfl) ?_
        refine T.pureE 23 (.int .i64 (IntKind.i64.wrap ((k2 : Int) + 1))) (.int .i64 ((k2 : Int) + 1)) (by kernel_rfl) (fun w => by kernel_rfl) (wrap_int (by omega) (by omega)) ?_
        refine T.pure 11 (.int .i64 ((k2 : Int) + 1)) (by kernel_rfl) (fun w => by kernel_rfl) ?_
        refine T.nil ?_
        refine QN.back (k2 + 1, bits .or .i64 mk2 (2 ^ (((a[j]'hl3)).signer).toNat)) ?_ ?_ (by kernel_rfl) (fun w h => h)
        · show (k2 + 1) ≤ (b).length ∧ (bits .or .i64 mk2 (2 ^ (((a[j]'hl3)).signer).toNat)) = pairI (tornP m p) (a[j]'hl3) ((b).take (k2 + 1)) mk
          refine ⟨by omega, ?_⟩; rw [← pairI_step hmk2 (by omega)]; have hb : (tornP m p) (a[j]'hl3) _ = _ := h33; rw [hb]; all_goals rfl
        · show (b).length - (k2 + 1) < (b).length - k2; omega
      · skip
        refine W.skip ?_
        refine QN.blkNormal ?_
        refine QN.seq ?_
        refine W.region [(0, false), (1, false), (2, false)] (by kernel_rfl) ?_
        refine T.pure 22 (.int .i64 ((k2 : Int))) (by kernel_rfl) (fun w => by kernel_rfl) ?_
        refine T.pureE 23 (.int .i64 (IntKind.i64.wrap ((k2 : Int) + 1))) (.int .i64 ((k2 : Int) + 1)) (by kernel_rfl) (fun w => by kernel_rfl) (wrap_int (by omega) (by omega)) ?_
        refine T.pure 11 (.int .i64 ((k2 : Int) + 1)) (by kernel_rfl) (fun w => by kernel_rfl) ?_
        refine T.nil ?_
        refine QN.back (k2 + 1, mk2) ?_ ?_ (by kernel_rfl) (fun w h => h)
        · show (k2 + 1) ≤ (b).length ∧ mk2 = pairI (tornP m p) (a[j]'hl3) ((b).take (k2 + 1)) mk
          refine ⟨by omega, ?_⟩; rw [← pairI_step hmk2 (by omega)]; have hb : (tornP m p) (a[j]'hl3) _ = _ := h33; rw [hb]; all_goals rfl
        · show (b).length - (k2 + 1) < (b).length - k2; omega
    · skip
      have h4' := of_decide_eq_false h4
      refine W.exit ?_
      refine QN.thenExit ?_
      refine QN.thenExit ?_
      refine QN.blkHit ?_
      refine QN.blkNormal ?_
      refine QN.seq ?_
      refine W.region [(0, false), (1, false), (2, false)] (by kernel_rfl) ?_
      refine T.pure 16 (.int .i64 ((j : Int))) (by kernel_rfl) (fun w => by kernel_rfl) ?_
      refine T.pureE 17 (.int .i64 (IntKind.i64.wrap ((j : Int) + 1))) (.int .i64 ((j : Int) + 1)) (by kernel_rfl) (fun w => by kernel_rfl) (wrap_int (by omega) (by omega)) ?_
      refine T.pure 10 (.int .i64 ((j : Int) + 1)) (by kernel_rfl) (fun w => by kernel_rfl) ?_
      refine T.nil ?_
      refine QN.back (j + 1, mk2) ?_ ?_ (by kernel_rfl) (fun w h => h)
      · show (j + 1) ≤ (a).length ∧ mk2 = pairM (tornP m p) ((a).take (j + 1)) (b)
        refine ⟨by omega, ?_⟩; rw [← pairM_step hmk (by omega), hmk2, take_end (l := b) (by omega)]
      · show (a).length - (j + 1) < (a).length - j; omega
  · skip
    have h2' := of_decide_eq_false h2
    refine W.exit ?_
    refine QN.thenExit ?_
    refine QN.thenExit ?_
    refine QN.blkHit ?_
    refine QN.seq ?_
    refine W.seq ?_
    refine W.region [(0, false), (1, false)] (by kernel_rfl) ?_
    refine T.pure 73 (.int .i64 (mk)) (by kernel_rfl) (fun w => by kernel_rfl) ?_
    refine T.pure 8 (.int .i64 (mk)) (by kernel_rfl) (fun w => by kernel_rfl) ?_
    refine T.nil ?_
    refine QN.seq ?_
    refine W.ret ?_
    refine QN.done (.inl rfl) 8 (.int .i64 (mk)) rfl (by kernel_rfl) (fun w hw => ⟨?_, hw.below⟩)
    exact ret_int (by rw [hmk, take_end (by omega)])
set_option maxRecDepth 100000 in
set_option maxHeartbeats 2000000 in
theorem AcceptAccounts_c (m : Int) (p : Nm) (a b : List Vt) (s : Int) (A B : Option Addr) (c d : Nat) (w : World) (hm : W64 m) (hok : ∀ u ∈ a, u.Ok) (hok2 : ∀ u ∈ b, u.Ok) (h1 : a.length ≤ c) (h2 : c ≤ maxLen) (hr : Rd w A a) (h3 : b.length ≤ d) (h4 : d ≤ maxLen) (hrb : Rd w B b) : Calls Try.prog 5 #[.int .i64 (m), .agg (p).cs, .slice A (a.length) c, .slice B (b.length) d, .int .i64 (s)] w (fun rr w' => rr = .returned (.bool (true)) ∧ Below w.heap.size w w') := by
  have ht : (a.take 250).length ≤ 250 := List.length_take_le _ _
  have ht2 : (b.take 250).length ≤ 250 := List.length_take_le _ _
  have hz := size_le m
  have hq := quorum_bd _ hz
  refine calls_W (n := 104) Try.func5 rfl [(0, .int .i64 (m)), (1, .agg (p).cs), (2, .slice A (a.length) c), (3, .slice B (b.length) d), (4, .int .i64 (s))] rfl ⟨by kernel_rfl, by kernel_rfl⟩ ?_
  refine W.weak (Ψ := St w []) (fun w' h => by rw [h]; exact St.start w) ?_
  refine W.seq ?_
  refine W.region [(0, false), (1, false)] (by kernel_rfl) ?_
  refine T.box 6 24 (.agg (p).cs) ((p).cs) (by kernel_rfl) (by kernel_rfl) (by kernel_rfl) (fun _ _ _ => trivial) (fun b1 => ?_)
  refine T.pure 10 (.bool (false)) (by kernel_rfl) (fun w => by kernel_rfl) ?_
  refine T.nil ?_
  refine QN.seq ?_
  refine W.seq ?_
  refine W.region [(0, false), (1, false), (2, false), (3, false), (4, false), (5, false)] (by kernel_rfl) ?_
  refine T.pure 18 (.slice A (a.length) c) (by kernel_rfl) (fun w => by kernel_rfl) ?_
  refine T.callP 19 19 #[.slice A (a.length) c] (.slice A ((a.take 250).length) c) (by kernel_rfl) (by kernel_rfl) ent19 (fun w hw => cut12_c a A c w h1 h2 (Arr.rd (Rd.arr hr _) hw)) (fun _ _ => trivial) ?_
  refine T.pure 20 (.slice B (b.length) d) (by kernel_rfl) (fun w => by kernel_rfl) ?_
  refine T.callP 21 19 #[.slice B (b.length) d] (.slice B ((b.take 250).length) d) (by kernel_rfl) (by kernel_rfl) ent19 (fun w hw => cut12_c b B d w h3 h4 (Arr.rd (Rd.arr hrb _) hw)) (fun _ _ => trivial) ?_
  refine T.pure 2 (.slice A ((a.take 250).length) c) (by kernel_rfl) (fun w => by kernel_rfl) ?_
  refine T.pure 3 (.slice B ((b.take 250).length) d) (by kernel_rfl) (fun w => by kernel_rfl) ?_
  refine T.nil ?_
  refine QN.seq ?_
  refine W.seq ?_
  refine W.drawn (Ψ := St w [(b1, Obj.cells (p).cs 24 (0, 0))]) (St w [(b1, Obj.cells (p).cs 24 (0, 0))]) [(0, true), (1, true), (2, true), (3, true), (5, true), (6, true), (7, true), (8, true), (4, false), (9, false), (10, false), (11, false)] hmx (by kernel_rfl) (NoPanic.then (NoPanic.body)) (fun w h => h.drew) (fun w h => h) ?_
  refine T.pure 22 (.int .i64 (m)) (by kernel_rfl) (fun w => by kernel_rfl) ?_
  refine T.loadR true 23 (p).cs 24 b1 0 (by kernel_rfl) (by kernel_rfl) (by kernel_rfl) (by kernel_rfl) (fun w h => St.rangeM h (p).cs (.head _) (by kernel_rfl)) ?_
  refine T.pure 24 (.slice A ((a.take 250).length) c) (by kernel_rfl) (fun w => by kernel_rfl) ?_
  refine T.pure 25 (.int .i64 (s)) (by kernel_rfl) (fun w => by kernel_rfl) ?_
  refine T.pure 27 (.int .i64 (m)) (by kernel_rfl) (fun w => by kernel_rfl) ?_
  refine T.loadR true 28 (p).cs 24 b1 0 (by kernel_rfl) (by kernel_rfl) (by kernel_rfl) (by kernel_rfl) (fun w h => St.rangeM h (p).cs (.head _) (by kernel_rfl)) ?_
  refine T.pure 29 (.slice B ((b.take 250).length) d) (by kernel_rfl) (fun w => by kernel_rfl) ?_
  refine T.pure 30 (.int .i64 (s)) (by kernel_rfl) (fun w => by kernel_rfl) ?_
  refine T.callR 26 20 #[.int .i64 (m), .agg (p).cs, .slice A ((a.take 250).length) c, .int .i64 (s)] 39 11 (outV m p (a.take 250) s).length (cells (outV m p (a.take 250) s)) (by kernel_rfl) (by kernel_rfl) ent20 (fun w hw => outcomes_c m p (a.take 250) s A c w (by first | assumption | exact w64_and _ _ | exact w64_or _ _ | exact w64_andNot _ _ | (unfold W64; omega)) (fun u hu => (hok u (List.mem_of_mem_take hu)).support) (by first | omega | (simp; done) | (simp; omega)) (Arr.rd ((Rd.arr hr _).take _) hw)) (fun Hr4 => (fun w h => (h.perm (((List.Perm.refl _).append_left Hr4).trans List.perm_middle)).part ((List.nil_sublist _).cons_cons _))) (fun A2 c3 Hr4 hrow5 => ?_)
  refine T.callR 31 20 #[.int .i64 (m), .agg (p).cs, .slice B ((b.take 250).length) d, .int .i64 (s)] 39 11 (outV m p (b.take 250) s).length (cells (outV m p (b.take 250) s)) (by kernel_rfl) (by kernel_rfl) ent20 (fun w hw => outcomes_c m p (b.take 250) s B d w (by first | assumption | exact w64_and _ _ | exact w64_or _ _ | exact w64_andNot _ _ | (unfold W64; omega)) (fun u hu => (hok2 u (List.mem_of_mem_take hu)).support) (by first | omega | (simp; done) | (simp; omega)) (Arr.rd ((Rd.arr hrb _).take _) hw)) (fun Hr8 => (fun w h => (h.perm (((((List.Perm.refl _).append_left Hr4).trans List.perm_middle).append_left Hr8).trans List.perm_middle)).part ((List.nil_sublist _).cons_cons _))) (fun A6 c7 Hr8 hrow9 => ?_)
  refine T.pure 11 (.slice A2 ((outV m p (a.take 250) s).length) c3) (by kernel_rfl) (fun w => by kernel_rfl) ?_
  refine T.pure 12 (.slice A6 ((outV m p (b.take 250) s).length) c7) (by kernel_rfl) (fun w => by kernel_rfl) ?_
  refine T.nil ?_
  refine QN.seq ?_
  refine W.seq ?_
  refine W.region [(0, false)] (by kernel_rfl) ?_
  refine T.pure 13 (.bool (false)) (by kernel_rfl) (fun w => by kernel_rfl) ?_
  refine T.nil ?_
  refine QN.seq ?_
  refine W.seq ?_
  refine W.seq ?_
  refine W.region [(0, false)] (by kernel_rfl) ?_
  refine T.pure 14 (.int .i64 (0)) (by kernel_rfl) (fun w => by kernel_rfl) ?_
  refine T.nil ?_
  refine QN.seq ?_
  refine W.block ?_
  have hx1 := outV_len m p (a.take 250) s
  have hy1 := outV_len m p (b.take 250) s
  have ha1 := accV_len m p (a.take 250)
  have hb1 := accV_len m p (b.take 250)
  refine W.loop (σ := Nat × Bool) (fun gs => gs.1 ≤ (outV m p (a.take 250) s).length ∧ gs.2 = ((outV m p (a.take 250) s).take gs.1).any (fun o => (outV m p (b.take 250) s).any (unO o))) (fun gs => [(0, .int .i64 (m)), (2, .slice A ((a.take 250).length) c), (3, .slice B ((b.take 250).length) d), (6, .pointer (some ⟨b1, 0, none⟩)), (10, .bool (false)), (11, .slice A2 ((outV m p (a.take 250) s).length) c3), (12, .slice A6 ((outV m p (b.take 250) s).length) c7), (13, .bool (gs.2)), (14, .int .i64 ((gs.1 : Int)))]) (fun gs => St w (Hr8 ++ (Hr4 ++ [(b1, Obj.cells (p).cs 24 (0, 0))]))) (fun gs => (outV m p (a.take 250) s).length - gs.1) (0, false) ?_ (by kernel_rfl) (fun w h => h) ?_
  · show 0 ≤ (outV m p (a.take 250) s).length ∧ false = ((outV m p (a.take 250) s).take 0).any (fun o => (outV m p (b.take 250) s).any (unO o))
    exact ⟨Nat.zero_le _, rfl⟩
  rintro ⟨j, ub⟩ hI_
  obtain ⟨hj, hub⟩ : j ≤ (outV m p (a.take 250) s).length ∧ ub = ((outV m p (a.take 250) s).take j).any (fun o => (outV m p (b.take 250) s).any (unO o)) := hI_
  show W _ _ [(0, .int .i64 (m)), (2, .slice A ((a.take 250).length) c), (3, .slice B ((b.take 250).length) d), (6, .pointer (some ⟨b1, 0, none⟩)), (10, .bool (false)), (11, .slice A2 ((outV m p (a.take 250) s).length) c3), (12, .slice A6 ((outV m p (b.take 250) s).length) c7), (13, .bool (ub)), (14, .int .i64 ((j : Int)))] (St w (Hr8 ++ (Hr4 ++ [(b1, Obj.cells (p).cs 24 (0, 0))]))) _ _
  refine W.seq ?_
  refine W.seq ?_
  refine W.region [(0, false), (1, false), (2, false), (3, false)] (by kernel_rfl) ?_
  refine T.pure 32 (.int .i64 ((j : Int))) (by kernel_rfl) (fun w => by kernel_rfl) ?_
  refine T.pure 33 (.slice A2 ((outV m p (a.take 250) s).length) c3) (by kernel_rfl) (fun w => by kernel_rfl) ?_
  refine T.pure 34 (.int .i64 ((((outV m p (a.take 250) s).length : Nat) : Int))) (by kernel_rfl) (fun w => by kernel_rfl) ?_
  refine T.pure 35 (.bool (decide ((j : Int) < (((outV m p (a.take 250) s).length : Nat) : Int)))) (by kernel_rfl) (fun w => by kernel_rfl) ?_
  refine T.nil ?_
  refine QN.seq ?_
  refine W.cond (decide ((j : Int) < (((outV m p (a.take 250) s).length : Nat) : Int))) (by kernel_rfl) (fun h10 => ?_) (fun h10 => ?_)
  · skip
    have h10' := of_decide_eq_true h10
    have hl11 : j < (outV m p (a.take 250) s).length := by omega
    refine W.skip ?_
    refine QN.seq ?_
    refine W.seq ?_
    refine W.block ?_
    refine W.seq ?_
    refine W.region [(0, false)] (by kernel_rfl) ?_
    refine T.pure 15 (.int .i64 (0)) (by kernel_rfl) (fun w => by kernel_rfl) ?_
    refine T.nil ?_
    refine QN.seq ?_
    refine W.block ?_
    refine W.loop (σ := Nat × Bool) (fun gs => gs.1 ≤ (outV m p (b.take 250) s).length ∧ gs.2 = (ub || ((outV m p (b.take 250) s).take gs.1).any (unO ((outV m p (a.take 250) s)[j]'hl11)))) (fun gs => [(0, .int .i64 (m)), (2, .slice A ((a.take 250).length) c), (3, .slice B ((b.take 250).length) d), (6, .pointer (some ⟨b1, 0, none⟩)), (10, .bool (false)), (11, .slice A2 ((outV m p (a.take 250) s).length) c3), (12, .slice A6 ((outV m p (b.take 250) s).length) c7), (13, .bool (gs.2)), (14, .int .i64 ((j : Int))), (15, .int .i64 ((gs.1 : Int))), (32, .int .i64 ((j : Int))), (33, .slice A2 ((outV m p (a.take 250) s).length) c3), (34, .int .i64 ((((outV m p (a.take 250) s).length : Nat) : Int))), (35, .bool (decide ((j : Int) < (((outV m p (a.take 250) s).length : Nat) : Int))))]) (fun gs => St w (Hr8 ++ (Hr4 ++ [(b1, Obj.cells (p).cs 24 (0, 0))]))) (fun gs => (outV m p (b.take 250) s).length - gs.1) (0, ub) ?_ (by kernel_rfl) (fun w h => h) ?_
    · show 0 ≤ (outV m p (b.take 250) s).length ∧ ub = (ub || ((outV m p (b.take 250) s).take 0).any (unO ((outV m p (a.take 250) s)[j]'hl11)))
      exact ⟨Nat.zero_le _, by simp⟩
    rintro ⟨k2, ub2⟩ hI_
    obtain ⟨hk2, hub2⟩ : k2 ≤ (outV m p (b.take 250) s).length ∧ ub2 = (ub || ((outV m p (b.take 250) s).take k2).any (unO ((outV m p (a.take 250) s)[j]'hl11))) := hI_
    show W _ _ [(0, .int .i64 (m)), (2, .slice A ((a.take 250).length) c), (3, .slice B ((b.take 250).length) d), (6, .pointer (some ⟨b1, 0, none⟩)), (10, .bool (false)), (11, .slice A2 ((outV m p (a.take 250) s).length) c3), (12, .slice A6 ((outV m p (b.take 250) s).length) c7), (13, .bool (ub2)), (14, .int .i64 ((j : Int))), (15, .int .i64 ((k2 : Int))), (32, .int .i64 ((j : Int))), (33, .slice A2 ((outV m p (a.take 250) s).length) c3), (34, .int .i64 ((((outV m p (a.take 250) s).length : Nat) : Int))), (35, .bool (decide ((j : Int) < (((outV m p (a.take 250) s).length : Nat) : Int))))] (St w (Hr8 ++ (Hr4 ++ [(b1, Obj.cells (p).cs 24 (0, 0))]))) _ _
    refine W.seq ?_
    refine W.seq ?_
    refine W.region [(0, false), (1, false), (2, false), (3, false)] (by kernel_rfl) ?_
    refine T.pure 38 (.int .i64 ((k2 : Int))) (by kernel_rfl) (fun w => by kernel_rfl) ?_
    refine T.pure 39 (.slice A6 ((outV m p (b.take 250) s).length) c7) (by kernel_rfl) (fun w => by kernel_rfl) ?_
    refine T.pure 40 (.int .i64 ((((outV m p (b.take 250) s).length : Nat) : Int))) (by kernel_rfl) (fun w => by kernel_rfl) ?_
    refine T.pure 41 (.bool (decide ((k2 : Int) < (((outV m p (b.take 250) s).length : Nat) : Int)))) (by kernel_rfl) (fun w => by kernel_rfl) ?_
    refine T.nil ?_
    refine QN.seq ?_
    refine W.cond (decide ((k2 : Int) < (((outV m p (b.take 250) s).length : Nat) : Int))) (by kernel_rfl) (fun h12 => ?_) (fun h12 => ?_)
    · skip
      have h12' := of_decide_eq_true h12
      have hl13 : k2 < (outV m p (b.take 250) s).length := by omega
      refine W.skip ?_
      refine QN.seq ?_
      refine W.seq ?_
      refine W.block ?_
      refine W.drawn (Ψ := St w (Hr8 ++ (Hr4 ++ [(b1, Obj.cells (p).cs 24 (0, 0))]))) (St w (Hr8 ++ (Hr4 ++ [(b1, Obj.cells (p).cs 24 (0, 0))]))) [(0, true), (1, true), (2, true), (3, true), (4, true), (5, true), (6, true), (7, true), (8, true), (9, true), (10, true), (11, true), (12, true), (13, true), (14, true), (15, true), (16, true), (17, true), (18, true), (19, true), (20, true), (21, true), (22, true), (23, true), (24, true), (25, true), (26, true), (27, false)] hmx (by kernel_rfl) (NoPanic.inBlock (NoPanic.then (NoPanic.then (NoPanic.inBlock (NoPanic.inBlock (NoPanic.then (NoPanic.then (NoPanic.inBlock (NoPanic.then (NoPanic.body)))))))))) (fun w h => h.drew) (fun w h => h) ?_
      refine T.pure 44 (.bool (ub2)) (by kernel_rfl) (fun w => by kernel_rfl) ?_
      refine T.pure 45 (.bool (ub2)) (by kernel_rfl) (fun w => by kernel_rfl) ?_
      refine T.blk [(2, true), (3, true), (4, true), (5, true), (6, true), (7, true), (8, true), (9, true), (10, true), (11, true), (12, true)] [(13, true), (14, true), (15, true), (16, true), (17, true), (18, true), (19, true), (20, true), (21, true), (22, true), (23, true), (24, true), (25, true), (26, true), (27, false)] 1 false (ub2) 45 56 (.bool (((((outV m p (a.take 250) s)[j]'hl11)).choice) != ((((outV m p (b.take 250) s)[k2]'hl13)).choice))) (by kernel_rfl) (by kernel_rfl) (by kernel_rfl) (fun hg14 => ?_) ?_
      · have hg14_ := hg14
        refine T.pure 46 (.slice A2 ((outV m p (a.take 250) s).length) c3) (by kernel_rfl) (fun w => by kernel_rfl) ?_
        refine T.pure 47 (.int .i64 ((j : Int))) (by kernel_rfl) (fun w => by kernel_rfl) ?_
        obtain ⟨b15, o16, hA17, hr18⟩ := ((show Arr (St _ (Hr8 ++ (Hr4 ++ [(b1, Obj.cells (p).cs 24 (0, 0))]))) A2 (outV m p (a.take 250) s) from (Arr.row hrow5 (rfl) (rfl) (Hr8 ++ [(b1, Obj.cells (p).cs 24 (0, 0))])).weak (fun w h => h.perm (((List.Perm.refl _).append_left Hr8).trans (List.perm_append_comm_assoc _ _ _))))) j hl11
        refine T.index 48 36 39 11 A2 ((outV m p (a.take 250) s).length) c3 ((j : Int)) (j) b15 o16 (by kernel_rfl) (by kernel_rfl) (by kernel_rfl) (by kernel_rfl) hA17 (rfl) (by omega) ?_
        refine T.pure 49 (.pointer (some ⟨b15, o16 + j * 11 + 2, none⟩)) (by kernel_rfl) (fun w => by kernel_rfl) ?_
        refine T.load true 50 (.int .i64 ((((outV m p (a.take 250) s)[j]'hl11)).choice)) 3 b15 (o16 + j * 11 + 2) (by kernel_rfl) (by kernel_rfl) (by kernel_rfl) (fun w h => cell_of_range (hr18 w h) 2 (by kernel_rfl)) ?_
        refine T.pure 51 (.slice A6 ((outV m p (b.take 250) s).length) c7) (by kernel_rfl) (fun w => by kernel_rfl) ?_
        refine T.pure 52 (.int .i64 ((k2 : Int))) (by kernel_rfl) (fun w => by kernel_rfl) ?_
        obtain ⟨b19, o20, hA21, hr22⟩ := (Arr.row hrow9 (rfl) (rfl) _) k2 hl13
        refine T.index 53 36 39 11 A6 ((outV m p (b.take 250) s).length) c7 ((k2 : Int)) (k2) b19 o20 (by kernel_rfl) (by kernel_rfl) (by kernel_rfl) (by kernel_rfl) hA21 (rfl) (by omega) ?_
        refine T.pure 54 (.pointer (some ⟨b19, o20 + k2 * 11 + 2, none⟩)) (by kernel_rfl) (fun w => by kernel_rfl) ?_
        refine T.load true 55 (.int .i64 ((((outV m p (b.take 250) s)[k2]'hl13)).choice)) 3 b19 (o20 + k2 * 11 + 2) (by kernel_rfl) (by kernel_rfl) (by kernel_rfl) (fun w h => cell_of_range (hr22 w h) 2 (by kernel_rfl)) ?_
        refine T.pure 56 (.bool (((((outV m p (a.take 250) s)[j]'hl11)).choice) != ((((outV m p (b.take 250) s)[k2]'hl13)).choice))) (by kernel_rfl) (fun w => by kernel_rfl) ?_
        exact T.blkEnd (by kernel_rfl) (fun w h => h)
      refine T.or 57 (ub2) (((((outV m p (a.take 250) s)[j]'hl11)).choice) != ((((outV m p (b.take 250) s)[k2]'hl13)).choice)) (by kernel_rfl) (by kernel_rfl) ?_
      refine T.pure 58 (.bool (ub2 || (((((outV m p (a.take 250) s)[j]'hl11)).choice) != ((((outV m p (b.take 250) s)[k2]'hl13)).choice)))) (by kernel_rfl) (fun w => by kernel_rfl) ?_
      refine T.blk [(15, true), (16, true), (17, true), (18, true), (19, true), (20, true), (21, true), (22, true), (23, true), (24, true), (25, true)] [(26, true), (27, false)] 14 false (ub2 || (((((outV m p (a.take 250) s)[j]'hl11)).choice) != ((((outV m p (b.take 250) s)[k2]'hl13)).choice))) 58 69 (.bool (((((outV m p (a.take 250) s)[j]'hl11)).val) != ((((outV m p (b.take 250) s)[k2]'hl13)).val))) (by kernel_rfl) (by kernel_rfl) (by kernel_rfl) (fun hg23 => ?_) ?_
      · have hg23_ := hg23
        have hg23l := (Bool.or_eq_false_iff.1 hg23).1
        have hg23r := (Bool.or_eq_false_iff.1 hg23).2
        refine T.pure 59 (.slice A2 ((outV m p (a.take 250) s).length) c3) (by kernel_rfl) (fun w => by kernel_rfl) ?_
        refine T.pure 60 (.int .i64 ((j : Int))) (by kernel_rfl) (fun w => by kernel_rfl) ?_
        obtain ⟨b24, o25, hA26, hr27⟩ := ((show Arr (St _ (Hr8 ++ (Hr4 ++ [(b1, Obj.cells (p).cs 24 (0, 0))]))) A2 (outV m p (a.take 250) s) from (Arr.row hrow5 (rfl) (rfl) (Hr8 ++ [(b1, Obj.cells (p).cs 24 (0, 0))])).weak (fun w h => h.perm (((List.Perm.refl _).append_left Hr8).trans (List.perm_append_comm_assoc _ _ _))))) j hl11
        refine T.index 61 36 39 11 A2 ((outV m p (a.take 250) s).length) c3 ((j : Int)) (j) b24 o25 (by kernel_rfl) (by kernel_rfl) (by kernel_rfl) (by kernel_rfl) hA26 (rfl) (by omega) ?_
        refine T.pure 62 (.pointer (some ⟨b24, o25 + j * 11 + 3, none⟩)) (by kernel_rfl) (fun w => by kernel_rfl) ?_
        refine T.loadR true 63 ((((outV m p (a.take 250) s)[j]'hl11)).val).cs 24 b24 (o25 + j * 11 + 3) (by kernel_rfl) (by kernel_rfl) (by kernel_rfl) (by kernel_rfl) (fun w h => range_of_range (hr27 w h) 3 ((((outV m p (a.take 250) s)[j]'hl11)).val).cs (by kernel_rfl)) ?_
        refine T.pure 64 (.slice A6 ((outV m p (b.take 250) s).length) c7) (by kernel_rfl) (fun w => by kernel_rfl) ?_
        refine T.pure 65 (.int .i64 ((k2 : Int))) (by kernel_rfl) (fun w => by kernel_rfl) ?_
        obtain ⟨b28, o29, hA30, hr31⟩ := (Arr.row hrow9 (rfl) (rfl) _) k2 hl13
        refine T.index 66 36 39 11 A6 ((outV m p (b.take 250) s).length) c7 ((k2 : Int)) (k2) b28 o29 (by kernel_rfl) (by kernel_rfl) (by kernel_rfl) (by kernel_rfl) hA30 (rfl) (by omega) ?_
        refine T.pure 67 (.pointer (some ⟨b28, o29 + k2 * 11 + 3, none⟩)) (by kernel_rfl) (fun w => by kernel_rfl) ?_
        refine T.loadR true 68 ((((outV m p (b.take 250) s)[k2]'hl13)).val).cs 24 b28 (o29 + k2 * 11 + 3) (by kernel_rfl) (by kernel_rfl) (by kernel_rfl) (by kernel_rfl) (fun w h => range_of_range (hr31 w h) 3 ((((outV m p (b.take 250) s)[k2]'hl13)).val).cs (by kernel_rfl)) ?_
        refine T.eqq 69 (((((outV m p (a.take 250) s)[j]'hl11)).val) != ((((outV m p (b.take 250) s)[k2]'hl13)).val)) (((((outV m p (a.take 250) s)[j]'hl11)).val) == ((((outV m p (b.take 250) s)[k2]'hl13)).val)) true 24 ((((outV m p (a.take 250) s)[j]'hl11)).val).cs ((((outV m p (b.take 250) s)[k2]'hl13)).val).cs (by kernel_rfl) (by kernel_rfl) (by kernel_rfl) (by kernel_rfl) (fun w => eq_nm w ((((outV m p (a.take 250) s)[j]'hl11)).val) ((((outV m p (b.take 250) s)[k2]'hl13)).val)) ?_
        exact T.blkEnd (by kernel_rfl) (fun w h => h)
      refine T.or 70 (ub2 || (((((outV m p (a.take 250) s)[j]'hl11)).choice) != ((((outV m p (b.take 250) s)[k2]'hl13)).choice))) (((((outV m p (a.take 250) s)[j]'hl11)).val) != ((((outV m p (b.take 250) s)[k2]'hl13)).val)) (by kernel_rfl) (by kernel_rfl) ?_
      refine T.pure 13 (.bool ((ub2 || (((((outV m p (a.take 250) s)[j]'hl11)).choice) != ((((outV m p (b.take 250) s)[k2]'hl13)).choice))) || (((((outV m p (a.take 250) s)[j]'hl11)).val) != ((((outV m p (b.take 250) s)[k2]'hl13)).val)))) (by kernel_rfl) (fun w => by kernel_rfl) ?_
      refine T.nil ?_
      refine QN.blkNormal ?_
      refine QN.seq ?_
      refine W.region [(0, false), (1, false), (2, false)] (by kernel_rfl) ?_
      refine T.pure 42 (.int .i64 ((k2 : Int))) (by kernel_rfl) (fun w => by kernel_rfl) ?_
      refine T.pureE 43 (.int .i64 (IntKind.i64.wrap ((k2 : Int) + 1))) (.int .i64 ((k2 : Int) + 1)) (by kernel_rfl) (fun w => by kernel_rfl) (wrap_int (by omega) (by omega)) ?_
      refine T.pure 15 (.int .i64 ((k2 : Int) + 1)) (by kernel_rfl) (fun w => by kernel_rfl) ?_
      refine T.nil ?_
      refine QN.back (k2 + 1, (ub2 || (((((outV m p (a.take 250) s)[j]'hl11)).choice) != ((((outV m p (b.take 250) s)[k2]'hl13)).choice))) || (((((outV m p (a.take 250) s)[j]'hl11)).val) != ((((outV m p (b.take 250) s)[k2]'hl13)).val))) ?_ ?_ (by kernel_rfl) (fun w h => h)
      · show (k2 + 1) ≤ (outV m p (b.take 250) s).length ∧ ((ub2 || (((((outV m p (a.take 250) s)[j]'hl11)).choice) != ((((outV m p (b.take 250) s)[k2]'hl13)).choice))) || (((((outV m p (a.take 250) s)[j]'hl11)).val) != ((((outV m p (b.take 250) s)[k2]'hl13)).val))) = (ub || ((outV m p (b.take 250) s).take (k2 + 1)).any (unO ((outV m p (a.take 250) s)[j]'hl11)))
        exact ⟨by omega, un_step hub2 (by omega)⟩
      · show (outV m p (b.take 250) s).length - (k2 + 1) < (outV m p (b.take 250) s).length - k2; omega
    · skip
      have h12' := of_decide_eq_false h12
      refine W.exit ?_
      refine QN.thenExit ?_
      refine QN.thenExit ?_
      refine QN.blkHit ?_
      refine QN.blkNormal ?_
      refine QN.seq ?_
      refine W.region [(0, false), (1, false), (2, false)] (by kernel_rfl) ?_
      refine T.pure 36 (.int .i64 ((j : Int))) (by kernel_rfl) (fun w => by kernel_rfl) ?_
      refine T.pureE 37 (.int .i64 (IntKind.i64.wrap ((j : Int) + 1))) (.int .i64 ((j : Int) + 1)) (by kernel_rfl) (fun w => by kernel_rfl) (wrap_int (by omega) (by omega)) ?_
      refine T.pure 14 (.int .i64 ((j : Int) + 1)) (by kernel_rfl) (fun w => by kernel_rfl) ?_
      refine T.nil ?_
      refine QN.back (j + 1, ub2) ?_ ?_ (by kernel_rfl) (fun w h => h)
      · show (j + 1) ≤ (outV m p (a.take 250) s).length ∧ ub2 = ((outV m p (a.take 250) s).take (j + 1)).any (fun o => (outV m p (b.take 250) s).any (unO o))
        refine ⟨by omega, ?_⟩; rw [hub2, take_end (l := outV m p (b.take 250) s) (by omega), hub]; exact any_snoc (p := fun o => (outV m p (b.take 250) s).any (unO o)) (by omega)
      · show (outV m p (a.take 250) s).length - (j + 1) < (outV m p (a.take 250) s).length - j; omega
  · skip
    have h10' := of_decide_eq_false h10
    refine W.exit ?_
    refine QN.thenExit ?_
    refine QN.thenExit ?_
    refine QN.blkHit ?_
    refine QN.seq ?_
    refine W.seq ?_
    refine W.seq ?_
    refine W.region [(0, false), (1, false)] (by kernel_rfl) ?_
    refine T.pure 71 (.bool (ub)) (by kernel_rfl) (fun w => by kernel_rfl) ?_
    refine T.pure 72 (.bool (!ub)) (by kernel_rfl) (fun w => by kernel_rfl) ?_
    refine T.nil ?_
    refine QN.seq ?_
    refine W.cond (!ub) (by kernel_rfl) (fun h32 => ?_) (fun h32 => ?_)
    · skip
      have h32n := not_eq_true h32
      refine W.seq ?_
      refine W.region [(0, false), (1, false)] (by kernel_rfl) ?_
      refine T.callP 73 21 #[] (.bool (true)) (by kernel_rfl) (by kernel_rfl) ent21 (fun w hw => awake_c w) (fun _ _ => trivial) ?_
      refine T.pure 10 (.bool (true)) (by kernel_rfl) (fun w => by kernel_rfl) ?_
      refine T.nil ?_
      refine QN.seq ?_
      refine W.ret ?_
      refine QN.thenRet ?_
      refine QN.done (.inl rfl) 10 (.bool (true)) rfl (by kernel_rfl) (fun w hw => ⟨?_, hw.below⟩)
      exact rfl
    · skip
      have h32n := not_eq_false h32
      refine W.skip ?_
      refine QN.seq ?_
      refine W.seq ?_
      refine W.region [(0, false), (1, false), (2, false)] (by kernel_rfl) ?_
      refine T.pure 74 (.int .i64 (m)) (by kernel_rfl) (fun w => by kernel_rfl) ?_
      refine T.callP 75 13 #[.int .i64 (m)] (.int .i64 ((size m : Int))) (by kernel_rfl) (by kernel_rfl) ent13 (fun w hw => Ret.same (size_c _ w)) (fun _ _ => trivial) ?_
      refine T.pure 16 (.int .i64 ((size m : Int))) (by kernel_rfl) (fun w => by kernel_rfl) ?_
      refine T.nil ?_
      refine QN.seq ?_
      refine W.seq ?_
      refine W.drawn (Ψ := St w (Hr8 ++ (Hr4 ++ [(b1, Obj.cells (p).cs 24 (0, 0))]))) (St w (Hr8 ++ (Hr4 ++ [(b1, Obj.cells (p).cs 24 (0, 0))]))) [(0, true), (1, true), (2, true), (3, true), (4, true), (6, true), (7, true), (8, true), (5, false), (9, false), (10, false), (11, false), (12, false)] hmx (by kernel_rfl) (NoPanic.then (NoPanic.body)) (fun w h => h.drew) (fun w h => h) ?_
      refine T.pure 76 (.int .i64 (m)) (by kernel_rfl) (fun w => by kernel_rfl) ?_
      refine T.loadR true 77 (p).cs 24 b1 0 (by kernel_rfl) (by kernel_rfl) (by kernel_rfl) (by kernel_rfl) (fun w h => St.rangeM h (p).cs (List.mem_append_right _ (List.mem_append_right _ (.head _))) (by kernel_rfl)) ?_
      refine T.pure 78 (.int .i64 (m)) (by kernel_rfl) (fun w => by kernel_rfl) ?_
      refine T.loadR true 79 (p).cs 24 b1 0 (by kernel_rfl) (by kernel_rfl) (by kernel_rfl) (by kernel_rfl) (fun w h => St.rangeM h (p).cs (List.mem_append_right _ (List.mem_append_right _ (.head _))) (by kernel_rfl)) ?_
      refine T.pure 80 (.slice A ((a.take 250).length) c) (by kernel_rfl) (fun w => by kernel_rfl) ?_
      refine T.pure 82 (.int .i64 (m)) (by kernel_rfl) (fun w => by kernel_rfl) ?_
      refine T.loadR true 83 (p).cs 24 b1 0 (by kernel_rfl) (by kernel_rfl) (by kernel_rfl) (by kernel_rfl) (fun w h => St.rangeM h (p).cs (List.mem_append_right _ (List.mem_append_right _ (.head _))) (by kernel_rfl)) ?_
      refine T.pure 84 (.slice B ((b.take 250).length) d) (by kernel_rfl) (fun w => by kernel_rfl) ?_
      refine T.callR 81 23 #[.int .i64 (m), .agg (p).cs, .slice A ((a.take 250).length) c] 43 22 (accV m p (a.take 250)).length (cells (accV m p (a.take 250))) (by kernel_rfl) (by kernel_rfl) ent23 (fun w hw => accepted_c m p (a.take 250) A c w (by first | assumption | exact w64_and _ _ | exact w64_or _ _ | exact w64_andNot _ _ | (unfold W64; omega)) (fun u hu => (hok u (List.mem_of_mem_take hu)).support) (by first | omega | (simp; done) | (simp; omega)) (Arr.rd ((Rd.arr hr _).take _) hw)) (fun Hr35 => (fun w h => (h.perm ((((List.Perm.refl _).append_left Hr35).trans (List.perm_append_comm_assoc _ _ _)).trans (((((List.Perm.refl _).append_left Hr35).trans (List.perm_append_comm_assoc _ _ _)).trans ((((List.Perm.refl _).append_left Hr35).trans List.perm_middle).append_left Hr4)).append_left Hr8))).part (List.Sublist.append (List.Sublist.refl _) (List.Sublist.append (List.Sublist.refl _) ((List.nil_sublist _).cons_cons _))))) (fun A33 c34 Hr35 hrow36 => ?_)
      refine T.callR 85 23 #[.int .i64 (m), .agg (p).cs, .slice B ((b.take 250).length) d] 43 22 (accV m p (b.take 250)).length (cells (accV m p (b.take 250))) (by kernel_rfl) (by kernel_rfl) ent23 (fun w hw => accepted_c m p (b.take 250) B d w (by first | assumption | exact w64_and _ _ | exact w64_or _ _ | exact w64_andNot _ _ | (unfold W64; omega)) (fun u hu => (hok2 u (List.mem_of_mem_take hu)).support) (by first | omega | (simp; done) | (simp; omega)) (Arr.rd ((Rd.arr hrb _).take _) hw)) (fun Hr39 => (fun w h => (h.perm ((((((List.Perm.refl _).append_left Hr35).trans (List.perm_append_comm_assoc _ _ _)).append_left Hr39).trans (List.perm_append_comm_assoc _ _ _)).trans (((((((List.Perm.refl _).append_left Hr35).trans (List.perm_append_comm_assoc _ _ _)).append_left Hr39).trans (List.perm_append_comm_assoc _ _ _)).trans ((((((List.Perm.refl _).append_left Hr35).trans List.perm_middle).append_left Hr39).trans List.perm_middle).append_left Hr4)).append_left Hr8))).part (List.Sublist.append (List.Sublist.refl _) (List.Sublist.append (List.Sublist.refl _) ((List.nil_sublist _).cons_cons _))))) (fun A37 c38 Hr39 hrow40 => ?_)
      refine T.callP 86 22 #[.int .i64 (m), .agg (p).cs, .slice A33 ((accV m p (a.take 250)).length) c34, .slice A37 ((accV m p (b.take 250)).length) c38] (.int .i64 (pairM (tornP m p) (accV m p (a.take 250)) (accV m p (b.take 250)))) (by kernel_rfl) (by kernel_rfl) ent22 (fun w hw => torn_c m p (accV m p (a.take 250)) (accV m p (b.take 250)) A33 c34 A37 c38 w (by first | assumption | exact w64_and _ _ | exact w64_or _ _ | exact w64_andNot _ _ | (unfold W64; omega)) (by first | omega | (simp; done) | (simp; omega)) (by first | omega | (simp; done) | (simp; omega)) (Arr.rd ((show Arr (St _ (Hr39 ++ (Hr35 ++ (Hr8 ++ (Hr4 ++ [(b1, Obj.cells (p).cs 24 (0, 0))]))))) A33 (accV m p (a.take 250)) from (Arr.row hrow36 (rfl) (rfl) (Hr39 ++ (Hr8 ++ (Hr4 ++ [(b1, Obj.cells (p).cs 24 (0, 0))])))).weak (fun w h => h.perm (((List.Perm.refl _).append_left Hr39).trans (List.perm_append_comm_assoc _ _ _))))) hw) (Arr.rd (Arr.row hrow40 (rfl) (rfl) _) hw)) (fun w h => (h.perm ((((((List.Perm.refl _).append_left Hr35).trans (List.perm_append_comm_assoc _ _ _)).append_left Hr39).trans (List.perm_append_comm_assoc _ _ _)).trans (((((((List.Perm.refl _).append_left Hr35).trans (List.perm_append_comm_assoc _ _ _)).append_left Hr39).trans (List.perm_append_comm_assoc _ _ _)).trans ((((((List.Perm.refl _).append_left Hr35).trans List.perm_middle).append_left Hr39).trans List.perm_middle).append_left Hr4)).append_left Hr8))).part (List.Sublist.append (List.Sublist.refl _) (List.Sublist.append (List.Sublist.refl _) ((List.nil_sublist _).cons_cons _)))) ?_
      refine T.callP 87 13 #[.int .i64 (pairM (tornP m p) (accV m p (a.take 250)) (accV m p (b.take 250)))] (.int .i64 ((size (pairM (tornP m p) (accV m p (a.take 250)) (accV m p (b.take 250))) : Int))) (by kernel_rfl) (by kernel_rfl) ent13 (fun w hw => Ret.same (size_c _ w)) (fun w h => (h.perm ((((((List.Perm.refl _).append_left Hr35).trans (List.perm_append_comm_assoc _ _ _)).append_left Hr39).trans (List.perm_append_comm_assoc _ _ _)).trans (((((((List.Perm.refl _).append_left Hr35).trans (List.perm_append_comm_assoc _ _ _)).append_left Hr39).trans (List.perm_append_comm_assoc _ _ _)).trans ((((((List.Perm.refl _).append_left Hr35).trans List.perm_middle).append_left Hr39).trans List.perm_middle).append_left Hr4)).append_left Hr8))).part (List.Sublist.append (List.Sublist.refl _) (List.Sublist.append (List.Sublist.refl _) ((List.nil_sublist _).cons_cons _)))) ?_
      refine T.pure 17 (.int .i64 ((size (pairM (tornP m p) (accV m p (a.take 250)) (accV m p (b.take 250))) : Int))) (by kernel_rfl) (fun w => by kernel_rfl) ?_
      refine T.nil ?_
      refine QN.seq ?_
      refine W.seq ?_
      refine W.region [(0, false), (1, false), (2, false), (3, false), (4, false), (5, false), (6, false), (7, false), (8, false), (9, false), (10, false), (11, false), (12, false), (13, false), (14, false), (15, false), (16, false)] (by kernel_rfl) ?_
      refine T.pure 88 (.int .i64 ((size (pairM (tornP m p) (accV m p (a.take 250)) (accV m p (b.take 250))) : Int))) (by kernel_rfl) (fun w => by kernel_rfl) ?_
      refine T.pure 89 (.int .i64 ((size m : Int))) (by kernel_rfl) (fun w => by kernel_rfl) ?_
      refine T.callP 90 15 #[.int .i64 ((size m : Int))] (.int .i64 (quorum (size m : Int))) (by kernel_rfl) (by kernel_rfl) ent15 (fun w hw => Ret.same (quorum_c _ w (by unfold W64; omega))) (fun _ _ => trivial) ?_
      refine T.pureE 91 (.int .i64 (IntKind.i64.wrap (2 * (quorum (size m : Int))))) (.int .i64 (2 * (quorum (size m : Int)))) (by kernel_rfl) (fun w => by kernel_rfl) (wrap_int (by omega) (by omega)) ?_
      refine T.pure 92 (.int .i64 ((size m : Int))) (by kernel_rfl) (fun w => by kernel_rfl) ?_
      refine T.pureE 93 (.int .i64 (IntKind.i64.wrap ((2 * (quorum (size m : Int))) - (size m : Int)))) (.int .i64 ((2 * (quorum (size m : Int))) - (size m : Int))) (by kernel_rfl) (fun w => by kernel_rfl) (wrap_int (by omega) (by omega)) ?_
      refine T.pure 94 (.bool (decide (((2 * (quorum (size m : Int))) - (size m : Int)) ≤ (size (pairM (tornP m p) (accV m p (a.take 250)) (accV m p (b.take 250))) : Int)))) (by kernel_rfl) (fun w => by kernel_rfl) ?_
      refine T.pure 95 (.bool (decide (((2 * (quorum (size m : Int))) - (size m : Int)) ≤ (size (pairM (tornP m p) (accV m p (a.take 250)) (accV m p (b.take 250))) : Int)))) (by kernel_rfl) (fun w => by kernel_rfl) ?_
      refine T.blk [(8, false), (9, false), (10, false), (11, false)] [(12, false), (13, false), (14, false), (15, false), (16, false)] 7 true (decide (((2 * (quorum (size m : Int))) - (size m : Int)) ≤ (size (pairM (tornP m p) (accV m p (a.take 250)) (accV m p (b.take 250))) : Int))) 95 99 (.bool (decide ((third (size m : Int)) ≤ (size (pairM (tornP m p) (accV m p (a.take 250)) (accV m p (b.take 250))) : Int)))) (by kernel_rfl) (by kernel_rfl) (by kernel_rfl) (fun hg41 => ?_) ?_
      · have hg41_ := hg41
        have hg41' := of_decide_eq_true hg41
        refine T.pure 96 (.int .i64 ((size (pairM (tornP m p) (accV m p (a.take 250)) (accV m p (b.take 250))) : Int))) (by kernel_rfl) (fun w => by kernel_rfl) ?_
        refine T.pure 97 (.int .i64 ((size m : Int))) (by kernel_rfl) (fun w => by kernel_rfl) ?_
        refine T.callP 98 24 #[.int .i64 ((size m : Int))] (.int .i64 (third (size m : Int))) (by kernel_rfl) (by kernel_rfl) ent24 (fun w hw => Ret.same (third_c _ w (by unfold W64; omega))) (fun _ _ => trivial) ?_
        refine T.pure 99 (.bool (decide ((third (size m : Int)) ≤ (size (pairM (tornP m p) (accV m p (a.take 250)) (accV m p (b.take 250))) : Int)))) (by kernel_rfl) (fun w => by kernel_rfl) ?_
        exact T.blkEnd (by kernel_rfl) (fun w h => h)
      refine T.and 100 (decide (((2 * (quorum (size m : Int))) - (size m : Int)) ≤ (size (pairM (tornP m p) (accV m p (a.take 250)) (accV m p (b.take 250))) : Int))) (decide ((third (size m : Int)) ≤ (size (pairM (tornP m p) (accV m p (a.take 250)) (accV m p (b.take 250))) : Int))) (by kernel_rfl) (by kernel_rfl) ?_
      refine T.pure 101 (.bool ((decide (((2 * (quorum (size m : Int))) - (size m : Int)) ≤ (size (pairM (tornP m p) (accV m p (a.take 250)) (accV m p (b.take 250))) : Int))) && (decide ((third (size m : Int)) ≤ (size (pairM (tornP m p) (accV m p (a.take 250)) (accV m p (b.take 250))) : Int))))) (by kernel_rfl) (fun w => by kernel_rfl) ?_
      refine T.blk [(14, false)] [(15, false), (16, false)] 13 true ((decide (((2 * (quorum (size m : Int))) - (size m : Int)) ≤ (size (pairM (tornP m p) (accV m p (a.take 250)) (accV m p (b.take 250))) : Int))) && (decide ((third (size m : Int)) ≤ (size (pairM (tornP m p) (accV m p (a.take 250)) (accV m p (b.take 250))) : Int)))) 101 102 (.bool (true)) (by kernel_rfl) (by kernel_rfl) (by kernel_rfl) (fun hg42 => ?_) ?_
      · have hg42_ := hg42
        have hg42l := (Bool.and_eq_true_iff.1 hg42).1
        have hg42r := (Bool.and_eq_true_iff.1 hg42).2
        have hg42l' := of_decide_eq_true hg42l
        have hg42r' := of_decide_eq_true hg42r
        refine T.callP 102 21 #[] (.bool (true)) (by kernel_rfl) (by kernel_rfl) ent21 (fun w hw => awake_c w) (fun _ _ => trivial) ?_
        exact T.blkEnd (by kernel_rfl) (fun w h => h)
      refine T.and 103 ((decide (((2 * (quorum (size m : Int))) - (size m : Int)) ≤ (size (pairM (tornP m p) (accV m p (a.take 250)) (accV m p (b.take 250))) : Int))) && (decide ((third (size m : Int)) ≤ (size (pairM (tornP m p) (accV m p (a.take 250)) (accV m p (b.take 250))) : Int)))) (true) (by kernel_rfl) (by kernel_rfl) ?_
      refine T.pure 10 (.bool (((decide (((2 * (quorum (size m : Int))) - (size m : Int)) ≤ (size (pairM (tornP m p) (accV m p (a.take 250)) (accV m p (b.take 250))) : Int))) && (decide ((third (size m : Int)) ≤ (size (pairM (tornP m p) (accV m p (a.take 250)) (accV m p (b.take 250))) : Int)))) && true)) (by kernel_rfl) (fun w => by kernel_rfl) ?_
      refine T.nil ?_
      refine QN.seq ?_
      refine W.ret ?_
      refine QN.done (.inl rfl) 10 (.bool (((decide (((2 * (quorum (size m : Int))) - (size m : Int)) ≤ (size (pairM (tornP m p) (accV m p (a.take 250)) (accV m p (b.take 250))) : Int))) && (decide ((third (size m : Int)) ≤ (size (pairM (tornP m p) (accV m p (a.take 250)) (accV m p (b.take 250))) : Int)))) && true)) rfl (by kernel_rfl) (fun w hw => ⟨?_, hw.below⟩)
      exact ret_bool (accounts_w (not_eq_false h32) (by rw [hub, take_end (by omega)]))
theorem AcceptAccounts_w (w : World) (a0 : Int) (v1 : Value) (x1 : Nm) (v2 : Value) (x2 : List Vt) (v3 : Value) (x3 : List Vt) (a4 : Int) (h0 : W64 a0) (h1 : v1 = .agg x1.cs) (h2 : VS w v2 x2) (h3 : VS w v3 x3) (h4 : W64 a4) : Calls Try.prog 5 #[.int .i64 a0, v1, v2, v3, .int .i64 a4] w fun e w' => e = .returned (.bool true) ∧ Below w.heap.size w w' := by
  obtain rfl := h1
  obtain ⟨A2, c2, rfl, l2, m2, r2, k2⟩ := h2
  obtain ⟨A3, c3, rfl, l3, m3, r3, k3⟩ := h3
  exact AcceptAccounts_c _ _ _ _ _ _ _ _ _ w h0 k2 k3 l2 m2 r2.rd l3 m3 r3.rd
set_option maxRecDepth 100000 in
set_option maxHeartbeats 2000000 in
theorem AcceptAgrees_c (m : Int) (p : Nm) (a : List Vt) (s : Int) (A : Option Addr) (c : Nat) (w : World) (hm : W64 m) (hok : ∀ u ∈ a, u.Ok) (h1 : a.length ≤ c) (h2 : c ≤ maxLen) (hr : Rd w A a) : Calls Try.prog 6 #[.int .i64 (m), .agg (p).cs, .slice A (a.length) c, .int .i64 (s)] w (fun rr w' => rr = .returned (.bool (true)) ∧ Below w.heap.size w w') := by
  have ht : (a.take 250).length ≤ 250 := List.length_take_le _ _
  have hz := size_le m
  refine calls_W (n := 58) Try.func6 rfl [(0, .int .i64 (m)), (1, .agg (p).cs), (2, .slice A (a.length) c), (3, .int .i64 (s))] rfl ⟨by kernel_rfl, by kernel_rfl⟩ ?_
  refine W.weak (Ψ := St w []) (fun w' h => by rw [h]; exact St.start w) ?_
  refine W.seq ?_
  refine W.region [(0, false), (1, false)] (by kernel_rfl) ?_
  refine T.box 5 24 (.agg (p).cs) ((p).cs) (by kernel_rfl) (by kernel_rfl) (by kernel_rfl) (fun _ _ _ => trivial) (fun b1 => ?_)
  refine T.pure 8 (.bool (false)) (by kernel_rfl) (fun w => by kernel_rfl) ?_
  refine T.nil ?_
  refine QN.seq ?_
  refine W.seq ?_
  refine W.region [(0, false), (1, false), (2, false)] (by kernel_rfl) ?_
  refine T.pure 11 (.slice A (a.length) c) (by kernel_rfl) (fun w => by kernel_rfl) ?_
  refine T.callP 12 19 #[.slice A (a.length) c] (.slice A ((a.take 250).length) c) (by kernel_rfl) (by kernel_rfl) ent19 (fun w hw => cut12_c a A c w h1 h2 (Arr.rd (Rd.arr hr _) hw)) (fun _ _ => trivial) ?_
  refine T.pure 2 (.slice A ((a.take 250).length) c) (by kernel_rfl) (fun w => by kernel_rfl) ?_
  refine T.nil ?_
  refine QN.seq ?_
  refine W.seq ?_
  refine W.seq ?_
  refine W.region [(0, false), (1, false), (2, false), (3, false), (4, false), (5, false), (6, false), (7, false), (8, false), (9, false)] (by kernel_rfl) ?_
  refine T.pure 13 (.int .i64 (m)) (by kernel_rfl) (fun w => by kernel_rfl) ?_
  refine T.loadR false 14 (p).cs 24 b1 0 (by kernel_rfl) (by kernel_rfl) (by kernel_rfl) (by kernel_rfl) (fun w h => St.rangeM h (p).cs (.head _) (by kernel_rfl)) ?_
  refine T.pure 15 (.slice A ((a.take 250).length) c) (by kernel_rfl) (fun w => by kernel_rfl) ?_
  refine T.pure 16 (.slice A ((a.take 250).length) c) (by kernel_rfl) (fun w => by kernel_rfl) ?_
  refine T.callP 17 22 #[.int .i64 (m), .agg (p).cs, .slice A ((a.take 250).length) c, .slice A ((a.take 250).length) c] (.int .i64 (pairM (tornP m p) (a.take 250) (a.take 250))) (by kernel_rfl) (by kernel_rfl) ent22 (fun w hw => torn_c m p (a.take 250) (a.take 250) A c A c w (by first | assumption | exact w64_and _ _ | exact w64_or _ _ | exact w64_andNot _ _ | (unfold W64; omega)) (by first | omega | (simp; done) | (simp; omega)) (by first | omega | (simp; done) | (simp; omega)) (Arr.rd ((Rd.arr hr _).take _) hw) (Arr.rd ((Rd.arr hr _).take _) hw)) (fun _ _ => trivial) ?_
  refine T.callP 18 13 #[.int .i64 (pairM (tornP m p) (a.take 250) (a.take 250))] (.int .i64 ((size (pairM (tornP m p) (a.take 250) (a.take 250)) : Int))) (by kernel_rfl) (by kernel_rfl) ent13 (fun w hw => Ret.same (size_c _ w)) (fun _ _ => trivial) ?_
  refine T.pure 19 (.int .i64 (m)) (by kernel_rfl) (fun w => by kernel_rfl) ?_
  refine T.callP 20 13 #[.int .i64 (m)] (.int .i64 ((size m : Int))) (by kernel_rfl) (by kernel_rfl) ent13 (fun w hw => Ret.same (size_c _ w)) (fun _ _ => trivial) ?_
  refine T.callP 21 24 #[.int .i64 ((size m : Int))] (.int .i64 (third (size m : Int))) (by kernel_rfl) (by kernel_rfl) ent24 (fun w hw => Ret.same (third_c _ w (by unfold W64; omega))) (fun _ _ => trivial) ?_
  refine T.pure 22 (.bool (decide ((third (size m : Int)) ≤ (size (pairM (tornP m p) (a.take 250) (a.take 250)) : Int)))) (by kernel_rfl) (fun w => by kernel_rfl) ?_
  refine T.nil ?_
  refine QN.seq ?_
  refine W.cond (decide ((third (size m : Int)) ≤ (size (pairM (tornP m p) (a.take 250) (a.take 250)) : Int))) (by kernel_rfl) (fun h2 => ?_) (fun h2 => ?_)
  · skip
    have h2' := of_decide_eq_true h2
    refine W.seq ?_
    refine W.region [(0, false), (1, false)] (by kernel_rfl) ?_
    refine T.callP 23 21 #[] (.bool (true)) (by kernel_rfl) (by kernel_rfl) ent21 (fun w hw => awake_c w) (fun _ _ => trivial) ?_
    refine T.pure 8 (.bool (true)) (by kernel_rfl) (fun w => by kernel_rfl) ?_
    refine T.nil ?_
    refine QN.seq ?_
    refine W.ret ?_
    refine QN.thenRet ?_
    refine QN.done (.inl rfl) 8 (.bool (true)) rfl (by kernel_rfl) (fun w hw => ⟨?_, hw.below⟩)
    exact rfl
  · skip
    have h2' := of_decide_eq_false h2
    refine W.skip ?_
    refine QN.seq ?_
    refine W.seq ?_
    refine W.region [(0, false), (1, false), (2, false), (3, false), (4, false), (5, false)] (by kernel_rfl) ?_
    refine T.pure 24 (.int .i64 (m)) (by kernel_rfl) (fun w => by kernel_rfl) ?_
    refine T.loadR false 25 (p).cs 24 b1 0 (by kernel_rfl) (by kernel_rfl) (by kernel_rfl) (by kernel_rfl) (fun w h => St.rangeM h (p).cs (.head _) (by kernel_rfl)) ?_
    refine T.pure 26 (.slice A ((a.take 250).length) c) (by kernel_rfl) (fun w => by kernel_rfl) ?_
    refine T.pure 27 (.int .i64 (s)) (by kernel_rfl) (fun w => by kernel_rfl) ?_
    refine T.callR 28 20 #[.int .i64 (m), .agg (p).cs, .slice A ((a.take 250).length) c, .int .i64 (s)] 39 11 (outV m p (a.take 250) s).length (cells (outV m p (a.take 250) s)) (by kernel_rfl) (by kernel_rfl) ent20 (fun w hw => outcomes_c m p (a.take 250) s A c w (by first | assumption | exact w64_and _ _ | exact w64_or _ _ | exact w64_andNot _ _ | (unfold W64; omega)) (fun u hu => (hok u (List.mem_of_mem_take hu)).support) (by first | omega | (simp; done) | (simp; omega)) (Arr.rd ((Rd.arr hr _).take _) hw)) (fun _ _ _ => trivial) (fun A3 c4 Hr5 hrow6 => ?_)
    refine T.pure 9 (.slice A3 ((outV m p (a.take 250) s).length) c4) (by kernel_rfl) (fun w => by kernel_rfl) ?_
    refine T.nil ?_
    refine QN.seq ?_
    refine W.seq ?_
    refine W.seq ?_
    refine W.region [(0, false)] (by kernel_rfl) ?_
    refine T.pure 10 (.int .i64 (1)) (by kernel_rfl) (fun w => by kernel_rfl) ?_
    refine T.nil ?_
    refine QN.seq ?_
    refine W.block ?_
    have hx1 := outV_len m p (a.take 250) s
    refine W.loop (σ := Nat) (fun gs => 1 ≤ gs) (fun gs => [(9, .slice A3 ((outV m p (a.take 250) s).length) c4), (10, .int .i64 ((gs : Int)))]) (fun gs => St w (Hr5 ++ [(b1, Obj.cells (p).cs 24 (0, 0))])) (fun gs => (outV m p (a.take 250) s).length - gs) (1) ?_ (by kernel_rfl) (fun w h => h) ?_
    · show 1 ≤ 1
      exact Nat.le_refl _
    rintro j hI_
    obtain hj : 1 ≤ j := hI_
    show W _ _ [(9, .slice A3 ((outV m p (a.take 250) s).length) c4), (10, .int .i64 ((j : Int)))] (St w (Hr5 ++ [(b1, Obj.cells (p).cs 24 (0, 0))])) _ _
    refine W.seq ?_
    refine W.seq ?_
    refine W.region [(0, false), (1, false), (2, false), (3, false)] (by kernel_rfl) ?_
    refine T.pure 29 (.int .i64 ((j : Int))) (by kernel_rfl) (fun w => by kernel_rfl) ?_
    refine T.pure 30 (.slice A3 ((outV m p (a.take 250) s).length) c4) (by kernel_rfl) (fun w => by kernel_rfl) ?_
    refine T.pure 31 (.int .i64 ((((outV m p (a.take 250) s).length : Nat) : Int))) (by kernel_rfl) (fun w => by kernel_rfl) ?_
    refine T.pure 32 (.bool (decide ((j : Int) < (((outV m p (a.take 250) s).length : Nat) : Int)))) (by kernel_rfl) (fun w => by kernel_rfl) ?_
    refine T.nil ?_
    refine QN.seq ?_
    refine W.cond (decide ((j : Int) < (((outV m p (a.take 250) s).length : Nat) : Int))) (by kernel_rfl) (fun h7 => ?_) (fun h7 => ?_)
    · skip
      have h7' := of_decide_eq_true h7
      have hl8 : j < (outV m p (a.take 250) s).length := by omega
      refine W.skip ?_
      refine QN.seq ?_
      refine W.seq ?_
      refine W.block ?_
      refine W.seq ?_
      refine W.drawn (Ψ := St w (Hr5 ++ [(b1, Obj.cells (p).cs 24 (0, 0))])) (St w (Hr5 ++ [(b1, Obj.cells (p).cs 24 (0, 0))])) [(0, true), (1, true), (2, true), (3, true), (4, true), (5, true), (6, true), (7, true), (8, true), (9, true), (10, true), (11, true), (12, true), (13, true), (14, true), (15, true), (16, true), (17, true), (18, true), (19, true), (20, true), (21, true)] hmx (by kernel_rfl) (NoPanic.then (NoPanic.inBlock (NoPanic.then (NoPanic.then (NoPanic.inBlock (NoPanic.then (NoPanic.body))))))) (fun w h => h.drew) (fun w h => h) ?_
      refine T.pure 35 (.slice A3 ((outV m p (a.take 250) s).length) c4) (by kernel_rfl) (fun w => by kernel_rfl) ?_
      refine T.pure 36 (.int .i64 ((j : Int))) (by kernel_rfl) (fun w => by kernel_rfl) ?_
      obtain ⟨b9, o10, hA11, hr12⟩ := (Arr.row hrow6 (rfl) (rfl) _) j hl8
      refine T.index 37 36 39 11 A3 ((outV m p (a.take 250) s).length) c4 ((j : Int)) (j) b9 o10 (by kernel_rfl) (by kernel_rfl) (by kernel_rfl) (by kernel_rfl) hA11 (rfl) (by omega) ?_
      refine T.pure 38 (.pointer (some ⟨b9, o10 + j * 11 + 2, none⟩)) (by kernel_rfl) (fun w => by kernel_rfl) ?_
      refine T.load true 39 (.int .i64 ((((outV m p (a.take 250) s)[j]'hl8)).choice)) 3 b9 (o10 + j * 11 + 2) (by kernel_rfl) (by kernel_rfl) (by kernel_rfl) (fun w h => cell_of_range (hr12 w h) 2 (by kernel_rfl)) ?_
      refine T.pure 40 (.slice A3 ((outV m p (a.take 250) s).length) c4) (by kernel_rfl) (fun w => by kernel_rfl) ?_
      have hl17 : 0 < (outV m p (a.take 250) s).length := by omega
      obtain ⟨b13, o14, hA15, hr16⟩ := (Arr.row hrow6 (rfl) (rfl) _) 0 hl17
      refine T.index 41 36 39 11 A3 ((outV m p (a.take 250) s).length) c4 (0) (0) b13 o14 (by kernel_rfl) (by kernel_rfl) (by kernel_rfl) (by kernel_rfl) hA15 (by omega) (by omega) ?_
      refine T.pure 42 (.pointer (some ⟨b13, o14 + 0 * 11 + 2, none⟩)) (by kernel_rfl) (fun w => by kernel_rfl) ?_
      refine T.load true 43 (.int .i64 ((((outV m p (a.take 250) s)[0]'hl17)).choice)) 3 b13 (o14 + 0 * 11 + 2) (by kernel_rfl) (by kernel_rfl) (by kernel_rfl) (fun w h => cell_of_range (hr16 w h) 2 (by kernel_rfl)) ?_
      refine T.pure 44 (.bool (((((outV m p (a.take 250) s)[j]'hl8)).choice) != ((((outV m p (a.take 250) s)[0]'hl17)).choice))) (by kernel_rfl) (fun w => by kernel_rfl) ?_
      refine T.pure 45 (.bool (((((outV m p (a.take 250) s)[j]'hl8)).choice) != ((((outV m p (a.take 250) s)[0]'hl17)).choice))) (by kernel_rfl) (fun w => by kernel_rfl) ?_
      refine T.blk [(11, true), (12, true), (13, true), (14, true), (15, true), (16, true), (17, true), (18, true), (19, true), (20, true)] [(21, true)] 10 false (((((outV m p (a.take 250) s)[j]'hl8)).choice) != ((((outV m p (a.take 250) s)[0]'hl17)).choice)) 45 55 (.bool (((((outV m p (a.take 250) s)[j]'hl8)).val) != ((((outV m p (a.take 250) s)[0]'hl17)).val))) (by kernel_rfl) (by kernel_rfl) (by kernel_rfl) (fun hg18 => ?_) ?_
      · have hg18_ := hg18
        refine T.pure 46 (.slice A3 ((outV m p (a.take 250) s).length) c4) (by kernel_rfl) (fun w => by kernel_rfl) ?_
        refine T.pure 47 (.int .i64 ((j : Int))) (by kernel_rfl) (fun w => by kernel_rfl) ?_
        obtain ⟨b19, o20, hA21, hr22⟩ := (Arr.row hrow6 (rfl) (rfl) _) j hl8
        refine T.index 48 36 39 11 A3 ((outV m p (a.take 250) s).length) c4 ((j : Int)) (j) b19 o20 (by kernel_rfl) (by kernel_rfl) (by kernel_rfl) (by kernel_rfl) hA21 (rfl) (by omega) ?_
        refine T.pure 49 (.pointer (some ⟨b19, o20 + j * 11 + 3, none⟩)) (by kernel_rfl) (fun w => by kernel_rfl) ?_
        refine T.loadR true 50 ((((outV m p (a.take 250) s)[j]'hl8)).val).cs 24 b19 (o20 + j * 11 + 3) (by kernel_rfl) (by kernel_rfl) (by kernel_rfl) (by kernel_rfl) (fun w h => range_of_range (hr22 w h) 3 ((((outV m p (a.take 250) s)[j]'hl8)).val).cs (by kernel_rfl)) ?_
        refine T.pure 51 (.slice A3 ((outV m p (a.take 250) s).length) c4) (by kernel_rfl) (fun w => by kernel_rfl) ?_
        obtain ⟨b23, o24, hA25, hr26⟩ := (Arr.row hrow6 (rfl) (rfl) _) 0 hl17
        refine T.index 52 36 39 11 A3 ((outV m p (a.take 250) s).length) c4 (0) (0) b23 o24 (by kernel_rfl) (by kernel_rfl) (by kernel_rfl) (by kernel_rfl) hA25 (by omega) (by omega) ?_
        refine T.pure 53 (.pointer (some ⟨b23, o24 + 0 * 11 + 3, none⟩)) (by kernel_rfl) (fun w => by kernel_rfl) ?_
        refine T.loadR true 54 ((((outV m p (a.take 250) s)[0]'hl17)).val).cs 24 b23 (o24 + 0 * 11 + 3) (by kernel_rfl) (by kernel_rfl) (by kernel_rfl) (by kernel_rfl) (fun w h => range_of_range (hr26 w h) 3 ((((outV m p (a.take 250) s)[0]'hl17)).val).cs (by kernel_rfl)) ?_
        refine T.eqq 55 (((((outV m p (a.take 250) s)[j]'hl8)).val) != ((((outV m p (a.take 250) s)[0]'hl17)).val)) (((((outV m p (a.take 250) s)[j]'hl8)).val) == ((((outV m p (a.take 250) s)[0]'hl17)).val)) true 24 ((((outV m p (a.take 250) s)[j]'hl8)).val).cs ((((outV m p (a.take 250) s)[0]'hl17)).val).cs (by kernel_rfl) (by kernel_rfl) (by kernel_rfl) (by kernel_rfl) (fun w => eq_nm w ((((outV m p (a.take 250) s)[j]'hl8)).val) ((((outV m p (a.take 250) s)[0]'hl17)).val)) ?_
        exact T.blkEnd (by kernel_rfl) (fun w h => h)
      refine T.or 56 (((((outV m p (a.take 250) s)[j]'hl8)).choice) != ((((outV m p (a.take 250) s)[0]'hl17)).choice)) (((((outV m p (a.take 250) s)[j]'hl8)).val) != ((((outV m p (a.take 250) s)[0]'hl17)).val)) (by kernel_rfl) (by kernel_rfl) ?_
      refine T.nil ?_
      refine QN.seq ?_
      refine W.cond ((((((outV m p (a.take 250) s)[j]'hl8)).choice) != ((((outV m p (a.take 250) s)[0]'hl17)).choice)) || (((((outV m p (a.take 250) s)[j]'hl8)).val) != ((((outV m p (a.take 250) s)[0]'hl17)).val))) (by kernel_rfl) (fun h27 => ?_) (fun h27 => ?_)
      · skip
        refine W.seq ?_
        refine W.region [(0, false)] (by kernel_rfl) ?_
        refine T.pure 8 (.bool (false)) (by kernel_rfl) (fun w => by kernel_rfl) ?_
        refine T.nil ?_
        refine QN.seq ?_
        refine W.ret ?_
        refine QN.blkRet ?_
        refine QN.thenRet ?_
        refine QN.thenRet ?_
        refine QN.blkRet ?_
        refine QN.thenRet ?_
        refine QN.done (.inl rfl) 8 (.bool (false)) rfl (by kernel_rfl) (fun w hw => ⟨?_, hw.below⟩)
        exact (agrees_w h2 h27).elim
      · skip
        have h27l := (Bool.or_eq_false_iff.1 h27).1
        have h27r := (Bool.or_eq_false_iff.1 h27).2
        refine W.skip ?_
        refine QN.blkNormal ?_
        refine QN.seq ?_
        refine W.region [(0, false), (1, false), (2, false)] (by kernel_rfl) ?_
        refine T.pure 33 (.int .i64 ((j : Int))) (by kernel_rfl) (fun w => by kernel_rfl) ?_
        refine T.pureE 34 (.int .i64 (IntKind.i64.wrap ((j : Int) + 1))) (.int .i64 ((j : Int) + 1)) (by kernel_rfl) (fun w => by kernel_rfl) (wrap_int (by omega) (by omega)) ?_
        refine T.pure 10 (.int .i64 ((j : Int) + 1)) (by kernel_rfl) (fun w => by kernel_rfl) ?_
        refine T.nil ?_
        refine QN.back (j + 1) ?_ ?_ (by kernel_rfl) (fun w h => h)
        · show 1 ≤ (j + 1)
          omega
        · show (outV m p (a.take 250) s).length - (j + 1) < (outV m p (a.take 250) s).length - j; omega
    · skip
      have h7' := of_decide_eq_false h7
      refine W.exit ?_
      refine QN.thenExit ?_
      refine QN.thenExit ?_
      refine QN.blkHit ?_
      refine QN.seq ?_
      refine W.seq ?_
      refine W.region [(0, false), (1, false)] (by kernel_rfl) ?_
      refine T.callP 57 21 #[] (.bool (true)) (by kernel_rfl) (by kernel_rfl) ent21 (fun w hw => awake_c w) (fun _ _ => trivial) ?_
      refine T.pure 8 (.bool (true)) (by kernel_rfl) (fun w => by kernel_rfl) ?_
      refine T.nil ?_
      refine QN.seq ?_
      refine W.ret ?_
      refine QN.done (.inl rfl) 8 (.bool (true)) rfl (by kernel_rfl) (fun w hw => ⟨?_, hw.below⟩)
      exact rfl
theorem AcceptAgrees_w (w : World) (a0 : Int) (v1 : Value) (x1 : Nm) (v2 : Value) (x2 : List Vt) (a3 : Int) (h0 : W64 a0) (h1 : v1 = .agg x1.cs) (h2 : VS w v2 x2) (h3 : W64 a3) : Calls Try.prog 6 #[.int .i64 a0, v1, v2, .int .i64 a3] w fun e w' => e = .returned (.bool true) ∧ Below w.heap.size w w' := by
  obtain rfl := h1
  obtain ⟨A2, c2, rfl, l2, m2, r2, k2⟩ := h2
  exact AcceptAgrees_c _ _ _ _ _ _ w h0 k2 l2 m2 r2.rd
end Go.Proofs.Ytnagichfngogkaa
