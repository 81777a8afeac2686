/- The walks of AcceptApart and AcceptGrows. -/
import Derived.Test.YthhgdkodhokefaaOut
import Derived.Test.YthhgdkodhokefaaPlainM
import Derived.Test.YthhgdkodhokefaaOpenN
namespace Go.Proofs.Ythhgdkodhokefaa
open Go Go.RowKit
set_option linter.unusedVariables false

theorem take_allcut12_c {α : Type} {l : List α} (h : ¬ (250 : Int) < (l.length : Int)) : (l.take 250).length = l.length := by simp; omega
set_option maxRecDepth 100000 in
set_option maxHeartbeats 2000000 in
theorem cut12_c (l : List Vt) (A : Option Addr) (c : Nat) (w : World) (h1 : l.length ≤ c) (h2 : c ≤ maxLen) (hr : Rd w A l) : Calls Try.prog 39 #[.slice A (l.length) c] w (fun rr w' => rr = .returned (.slice A ((l.take 250).length) c) ∧ Below w.heap.size w w') := by
  refine calls_W (n := 9) Try.func39 rfl [(0, .slice A (l.length) c)] rfl ⟨by kernel_rfl, by kernel_rfl⟩ ?_
  refine W.weak (Ψ := St w []) (fun w' h => by rw [h]; exact St.start w) ?_
  refine W.seq ?_
  refine W.region [(0, false)] (by kernel_rfl) ?_
  refine T.pure 2 (.slice none (0) 0) (by kernel_rfl) (fun w => by kernel_rfl) ?_
  refine T.nil ?_
  refine QN.seq ?_
  refine W.seq ?_
  refine W.seq ?_
  refine W.region [(0, false), (1, false), (2, false)] (by kernel_rfl) ?_
  refine T.pure 3 (.slice A (l.length) c) (by kernel_rfl) (fun w => by kernel_rfl) ?_
  refine T.pure 4 (.int .i64 (((l.length : Nat) : Int))) (by kernel_rfl) (fun w => by kernel_rfl) ?_
  refine T.pure 5 (.bool (decide (250 < ((l.length : Nat) : Int)))) (by kernel_rfl) (fun w => by kernel_rfl) ?_
  refine T.nil ?_
  refine QN.seq ?_
  refine W.cond (decide (250 < ((l.length : Nat) : Int))) (by kernel_rfl) (fun h1 => ?_) (fun h1 => ?_)
  · skip
    have h1' := of_decide_eq_true h1
    refine W.seq ?_
    refine W.region [(0, false), (1, false), (2, false)] (by kernel_rfl) ?_
    refine T.pure 6 (.slice A (l.length) c) (by kernel_rfl) (fun w => by kernel_rfl) ?_
    have hsl2 : (l.take 250).length = 250 := by simp; omega
    refine T.sliceTo 7 27 26 A (l.length) c (250) ((l.take 250).length) (by kernel_rfl) (by kernel_rfl) (by kernel_rfl) (by kernel_rfl) (by omega) (by omega) ?_
    refine T.pure 2 (.slice A ((l.take 250).length) c) (by kernel_rfl) (fun w => by kernel_rfl) ?_
    refine T.nil ?_
    refine QN.seq ?_
    refine W.ret ?_
    refine QN.thenRet ?_
    refine QN.done (.inl rfl) 2 (.slice A ((l.take 250).length) c) rfl (by kernel_rfl) (fun w hw => ⟨?_, hw.below⟩)
    exact rfl
  · skip
    have h1' := of_decide_eq_false h1
    refine W.skip ?_
    refine QN.seq ?_
    refine W.seq ?_
    refine W.region [(0, false), (1, false)] (by kernel_rfl) ?_
    refine T.pure 8 (.slice A (l.length) c) (by kernel_rfl) (fun w => by kernel_rfl) ?_
    refine T.pure 2 (.slice A (l.length) c) (by kernel_rfl) (fun w => by kernel_rfl) ?_
    refine T.nil ?_
    refine QN.seq ?_
    refine W.ret ?_
    refine QN.done (.inl rfl) 2 (.slice A (l.length) c) rfl (by kernel_rfl) (fun w hw => ⟨?_, hw.below⟩)
    exact congrArg (fun n => Ending.returned (.slice A n c)) (take_allcut12_c (by omega)).symm
def apP (s : Int) (p : Nm) (v : Vt) : Bool := ((v.slot == s) && (v.par == p)) && (decide (v.kind ≤ 4))
theorem accV_congr {m : Int} {p : Nm} {l l' : List Vt} (h : ascV p l = ascV p l') : accV m p l = accV m p l' := by unfold accV; rw [h]
theorem apart (m : Int) (p : Nm) (s : Int) (l : List Vt) : outV m p (l.filter (apP s p)) s = outV m p l s := by
  unfold outV
  rw [accV_congr (l' := ownF s l)]
  unfold ascV ownF
  rw [List.filter_filter, List.filter_filter, List.filter_filter]
  congr 1
  refine List.filter_congr fun x _ => ?_
  unfold ownP apP
  cases x.par == p <;> cases x.slot == s <;> cases decide (x.kind ≤ 4) <;> rfl
theorem ascV_ext {p : Nm} {l l' : List Vt} (h : ∀ u, u ∈ l ↔ u ∈ l') : ascV p l = ascV p l' := strict_ext (ascV_strict _ _) (ascV_strict _ _) fun x => by rw [ascV_mem, ascV_mem, h x]
theorem accV_mono {m : Int} {p : Nm} {l l' : List Vt} (hs : ∀ u ∈ l, u ∈ l') : ∀ v ∈ accV m p l, v ∈ accV m p l' := by
  have hb := accV_built m p l
  have key : ∀ n, ∀ v ∈ (accV m p l).take n, v ∈ accV m p l' := by
    intro n
    induction n with
    | zero => intro v hv; simp at hv
    | succ n ih =>
      intro v hv
      by_cases hn : n < (accV m p l).length
      · rw [List.take_succ_eq_append_getElem hn, List.mem_append] at hv
        rcases hv with hv | hv
        · exact ih v hv
        · simp only [List.mem_singleton] at hv
          have ha : allowB m v ((accV m p l).take n) = true := hb _ v ((accV m p l).drop (n + 1)) (by rw [hv]; simp)
          have hv2 : v ∈ accV m p l := by rw [hv]; exact List.getElem_mem _
          have hm := accV_mem hv2
          by_cases hin : v ∈ accV m p l'
          · exact hin
          · have h1 := accV_closed (m := m) (hs v hm.1) hm.2 hin
            rw [allowB_mono ih ha] at h1; cases h1
      · rw [List.take_of_length_le (by omega)] at hv ih
        exact ih v hv
  intro v hv
  exact key (accV m p l).length v (by rw [List.take_length]; exact hv)
theorem sgMask_mono {κ : Type} [Cel κ] [DecidableEq κ] {f : Vt → Option κ} {a b : List Vt} {o : κ} (ha : ∀ v ∈ a, 0 ≤ v.signer ∧ v.signer < 10) (hb : ∀ v ∈ b, 0 ≤ v.signer ∧ v.signer < 10) (h : ∀ v ∈ a, v ∈ b) : size (sgMask f a o) ≤ size (sgMask f b o) := by
  refine size_mono fun i hi hm => ?_
  rw [mb_sgMask f _ o ha i hi, List.any_eq_true] at hm
  rw [mb_sgMask f _ o hb i hi, List.any_eq_true]
  obtain ⟨v, h1, h2⟩ := hm
  exact ⟨v, h v h1, h2⟩
theorem outV_mem {m : Int} {p : Nm} {l : List Vt} {s : Int} {o : Oc} : o ∈ outV m p l s ↔ (∃ v ∈ accV m p (ownF s l), ocOf s v = some o) ∧ quorum (size m) ≤ (size (sgMask (ocOf s) (accV m p (ownF s l)) o) : Int) := sgOut_mem
theorem outV_mono {m : Int} {p : Nm} {l l' : List Vt} {s : Int} (hs : ∀ u ∈ l, u ∈ l') {o : Oc} (h : o ∈ outV m p l s) : o ∈ outV m p l' s := by
  have hsub : ∀ v ∈ accV m p (ownF s l), v ∈ accV m p (ownF s l') := accV_mono fun u hu => by
    unfold ownF at *
    rw [List.mem_filter] at *
    exact ⟨hs u hu.1, hu.2⟩
  rw [outV_mem] at *
  obtain ⟨⟨v, h1, h2⟩, h3⟩ := h
  have := sgMask_mono (f := ocOf s) (o := o) (fun v hv => accV_sg hv) (fun v hv => accV_sg hv) hsub
  exact ⟨⟨v, hsub v h1, h2⟩, by omega⟩
theorem decB_iff {m : Int} {p : Nm} {l : List Vt} {o : Oc} : decB m p l o = true ↔ o ∈ outV m p l o.slot := by
  unfold decB
  rw [List.any_eq_true]
  exact ⟨fun ⟨x, h1, h2⟩ => by rw [beq_iff_eq] at h2; exact h2 ▸ h1, fun h => ⟨o, h, by simp⟩⟩
theorem grow1 {m : Int} {p : Nm} {l l' : List Vt} {j : Nat} {hj : j < (accV m p l).length} (hs : ∀ u ∈ l, u ∈ l') (h : (!((accV m p l').any (fun x => x == (accV m p l)[j]))) = true) : False := by
  have : (accV m p l').any (fun x => x == (accV m p l)[j]) = true := List.any_eq_true.2 ⟨_, accV_mono hs _ (List.getElem_mem hj), by simp⟩
  rw [this] at h; cases h
theorem grow2 {m : Int} {p : Nm} {l l' : List Vt} {s : Int} {j : Nat} {hj : j < (outV m p l s).length} (hs : ∀ u ∈ l, u ∈ l') (h : ((!(decB m p l' (outV m p l s)[j])) || ((outV m p l s)[j].slot != s)) = true) : False := by
  have h1 := List.getElem_mem hj
  have h2 := out_slot h1
  have h3 : decB m p l' (outV m p l s)[j] = true := by
    rw [decB_iff, h2]; exact outV_mono hs h1
  rw [h3, h2] at h; simp at h
theorem grow3 {m : Int} {p : Nm} {l l' : List Vt} (h : ∀ u, u ∈ l ↔ u ∈ l') : accV m p l = accV m p l' := accV_congr (ascV_ext h)
set_option maxRecDepth 100000 in
set_option maxHeartbeats 2000000 in
theorem AcceptApart_c (m : Int) (p : Nm) (a : List Vt) (s : Int) (A : Option Addr) (c : Nat) (w : World) (hm : W64 m) (hok : ∀ u ∈ a, u.Ok) (h1 : a.length ≤ c) (h2 : c ≤ maxLen) (hr : Rd w A a) : Calls Try.prog 12 #[.int .i64 (m), .agg (p).cs, .slice A (a.length) c, .int .i64 (s)] w (fun rr w' => rr = .returned (.bool (true)) ∧ Below w.heap.size w w') := by
  have ht : (a.take 250).length ≤ 250 := List.length_take_le _ _
  refine calls_W (n := 64) Try.func12 rfl [(0, .int .i64 (m)), (1, .agg (p).cs), (2, .slice A (a.length) c), (3, .int .i64 (s))] rfl ⟨by kernel_rfl, by kernel_rfl⟩ ?_
  refine W.weak (Ψ := St w []) (fun w' h => by rw [h]; exact St.start w) ?_
  refine W.seq ?_
  refine W.region [(0, false), (1, false)] (by kernel_rfl) ?_
  refine T.box 5 24 (.agg (p).cs) ((p).cs) (by kernel_rfl) (by kernel_rfl) (by kernel_rfl) (fun _ _ _ => trivial) (fun b1 => ?_)
  refine T.pure 8 (.bool (false)) (by kernel_rfl) (fun w => by kernel_rfl) ?_
  refine T.nil ?_
  refine QN.seq ?_
  refine W.seq ?_
  refine W.region [(0, false), (1, false), (2, false)] (by kernel_rfl) ?_
  refine T.pure 11 (.slice A (a.length) c) (by kernel_rfl) (fun w => by kernel_rfl) ?_
  refine T.callP 12 39 #[.slice A (a.length) c] (.slice A ((a.take 250).length) c) (by kernel_rfl) (by kernel_rfl) ent39 (fun w hw => cut12_c a A c w h1 h2 (Arr.rd (Rd.arr hr _) hw)) (fun _ _ => trivial) ?_
  refine T.pure 2 (.slice A ((a.take 250).length) c) (by kernel_rfl) (fun w => by kernel_rfl) ?_
  refine T.nil ?_
  refine QN.seq ?_
  refine W.seq ?_
  refine W.region [(0, false)] (by kernel_rfl) ?_
  refine T.pure 9 (.slice none (0) 0) (by kernel_rfl) (fun w => by kernel_rfl) ?_
  refine T.nil ?_
  refine QN.seq ?_
  refine W.seq ?_
  refine W.seq ?_
  refine W.region [(0, false)] (by kernel_rfl) ?_
  refine T.pure 10 (.int .i64 (0)) (by kernel_rfl) (fun w => by kernel_rfl) ?_
  refine T.nil ?_
  refine QN.seq ?_
  refine W.block ?_
  refine W.loop (σ := Nat × List Vt × Option Addr × Nat × List (Nat × Obj)) (fun gs => gs.1 ≤ (a.take 250).length ∧ gs.2.1 = ((a.take 250).take gs.1).filter (apP s p) ∧ RowIs 26 22 gs.2.2.1 gs.2.1.length gs.2.2.2.1 (cells gs.2.1) gs.2.2.2.2) (fun gs => [(0, .int .i64 (m)), (2, .slice A ((a.take 250).length) c), (3, .int .i64 (s)), (5, .pointer (some ⟨b1, 0, none⟩)), (8, .bool (false)), (9, .slice gs.2.2.1 (gs.2.1.length) gs.2.2.2.1), (10, .int .i64 ((gs.1 : Int)))]) (fun gs => St w (gs.2.2.2.2 ++ [(b1, Obj.cells (p).cs 24 (0, 0))])) (fun gs => (a.take 250).length - gs.1) (0, [], none, 0, []) ?_ (by kernel_rfl) (fun w h => h) ?_
  · show 0 ≤ (a.take 250).length ∧ ([]) = ((a.take 250).take 0).filter (apP s p) ∧ RowIs 26 22 none ([]).length 0 (cells ([])) ([])
    exact ⟨Nat.zero_le _, rfl, RowIs.nil⟩
  rintro ⟨k, own, A9, c9, Hr9⟩ hI_
  obtain ⟨hk, hown, hrow9⟩ : k ≤ (a.take 250).length ∧ own = ((a.take 250).take k).filter (apP s p) ∧ RowIs 26 22 A9 own.length c9 (cells own) Hr9 := hI_
  have hol : own.length ≤ k := by rw [hown]; exact Nat.le_trans (List.length_filter_le _ _) (List.length_take_le _ _)
  show W _ _ [(0, .int .i64 (m)), (2, .slice A ((a.take 250).length) c), (3, .int .i64 (s)), (5, .pointer (some ⟨b1, 0, none⟩)), (8, .bool (false)), (9, .slice A9 (own.length) c9), (10, .int .i64 ((k : Int)))] (St w (Hr9 ++ [(b1, Obj.cells (p).cs 24 (0, 0))])) _ _
  refine W.seq ?_
  refine W.seq ?_
  refine W.region [(0, false), (1, false), (2, false), (3, false)] (by kernel_rfl) ?_
  refine T.pure 13 (.int .i64 ((k : Int))) (by kernel_rfl) (fun w => by kernel_rfl) ?_
  refine T.pure 14 (.slice A ((a.take 250).length) c) (by kernel_rfl) (fun w => by kernel_rfl) ?_
  refine T.pure 15 (.int .i64 ((((a.take 250).length : Nat) : Int))) (by kernel_rfl) (fun w => by kernel_rfl) ?_
  refine T.pure 16 (.bool (decide ((k : Int) < (((a.take 250).length : Nat) : Int)))) (by kernel_rfl) (fun w => by kernel_rfl) ?_
  refine T.nil ?_
  refine QN.seq ?_
  refine W.cond (decide ((k : Int) < (((a.take 250).length : Nat) : Int))) (by kernel_rfl) (fun h2 => ?_) (fun h2 => ?_)
  · skip
    have h2' := of_decide_eq_true h2
    have hl3 : k < (a.take 250).length := by omega
    refine W.skip ?_
    refine QN.seq ?_
    refine W.seq ?_
    refine W.block ?_
    refine W.seq ?_
    refine W.drawn (Ψ := St w (Hr9 ++ [(b1, Obj.cells (p).cs 24 (0, 0))])) (St w (Hr9 ++ [(b1, Obj.cells (p).cs 24 (0, 0))])) [(0, true), (1, true), (2, true), (3, true), (4, true), (5, true), (6, true), (7, true), (8, true), (9, true), (10, true), (11, true), (12, true), (13, true), (14, true), (15, true), (16, true), (17, true), (18, true), (19, true), (20, true), (21, true), (22, true), (23, true)] hmx (by kernel_rfl) (NoPanic.then (NoPanic.inBlock (NoPanic.then (NoPanic.then (NoPanic.inBlock (NoPanic.then (NoPanic.body))))))) (fun w h => h.drew) (fun w h => h) ?_
    refine T.pure 19 (.slice A ((a.take 250).length) c) (by kernel_rfl) (fun w => by kernel_rfl) ?_
    refine T.pure 20 (.int .i64 ((k : Int))) (by kernel_rfl) (fun w => by kernel_rfl) ?_
    obtain ⟨b4, o5, hA6, hr7⟩ := ((Rd.arr hr _).take _) k hl3
    refine T.index 21 27 26 22 A ((a.take 250).length) c ((k : Int)) (k) b4 o5 (by kernel_rfl) (by kernel_rfl) (by kernel_rfl) (by kernel_rfl) hA6 (rfl) (by omega) ?_
    refine T.pure 22 (.pointer (some ⟨b4, o5 + k * 22 + 1, none⟩)) (by kernel_rfl) (fun w => by kernel_rfl) ?_
    refine T.load true 23 (.int .i64 ((((a.take 250)[k]'hl3)).slot)) 3 b4 (o5 + k * 22 + 1) (by kernel_rfl) (by kernel_rfl) (by kernel_rfl) (fun w h => cell_of_range (hr7 w h) 1 (by kernel_rfl)) ?_
    refine T.pure 24 (.int .i64 (s)) (by kernel_rfl) (fun w => by kernel_rfl) ?_
    refine T.pure 25 (.bool (((((a.take 250)[k]'hl3)).slot) == s)) (by kernel_rfl) (fun w => by kernel_rfl) ?_
    refine T.pure 26 (.bool (((((a.take 250)[k]'hl3)).slot) == s)) (by kernel_rfl) (fun w => by kernel_rfl) ?_
    refine T.blk [(8, true), (9, true), (10, true), (11, true), (12, true), (13, true), (14, true)] [(15, true), (16, true), (17, true), (18, true), (19, true), (20, true), (21, true), (22, true), (23, true)] 7 true (((((a.take 250)[k]'hl3)).slot) == s) 26 33 (.bool (((((a.take 250)[k]'hl3)).par) == p)) (by kernel_rfl) (by kernel_rfl) (by kernel_rfl) (fun hg8 => ?_) ?_
    · have hg8_ := hg8
      refine T.pure 27 (.slice A ((a.take 250).length) c) (by kernel_rfl) (fun w => by kernel_rfl) ?_
      refine T.pure 28 (.int .i64 ((k : Int))) (by kernel_rfl) (fun w => by kernel_rfl) ?_
      obtain ⟨b9, o10, hA11, hr12⟩ := ((Rd.arr hr _).take _) k hl3
      refine T.index 29 27 26 22 A ((a.take 250).length) c ((k : Int)) (k) b9 o10 (by kernel_rfl) (by kernel_rfl) (by kernel_rfl) (by kernel_rfl) hA11 (rfl) (by omega) ?_
      refine T.pure 30 (.pointer (some ⟨b9, o10 + k * 22 + 6, none⟩)) (by kernel_rfl) (fun w => by kernel_rfl) ?_
      refine T.loadR true 31 ((((a.take 250)[k]'hl3)).par).cs 24 b9 (o10 + k * 22 + 6) (by kernel_rfl) (by kernel_rfl) (by kernel_rfl) (by kernel_rfl) (fun w h => range_of_range (hr12 w h) 6 ((((a.take 250)[k]'hl3)).par).cs (by kernel_rfl)) ?_
      refine T.loadR true 32 (p).cs 24 b1 0 (by kernel_rfl) (by kernel_rfl) (by kernel_rfl) (by kernel_rfl) (fun w h => St.rangeM h (p).cs (List.mem_append_right _ (.head _)) (by kernel_rfl)) ?_
      refine T.eqq 33 (((((a.take 250)[k]'hl3)).par) == p) (((((a.take 250)[k]'hl3)).par) == p) false 24 ((((a.take 250)[k]'hl3)).par).cs (p).cs (by kernel_rfl) (by kernel_rfl) (by kernel_rfl) (by kernel_rfl) (fun w => eq_nm w ((((a.take 250)[k]'hl3)).par) p) ?_
      exact T.blkEnd (by kernel_rfl) (fun w h => h)
    refine T.and 34 (((((a.take 250)[k]'hl3)).slot) == s) (((((a.take 250)[k]'hl3)).par) == p) (by kernel_rfl) (by kernel_rfl) ?_
    refine T.pure 35 (.bool ((((((a.take 250)[k]'hl3)).slot) == s) && (((((a.take 250)[k]'hl3)).par) == p))) (by kernel_rfl) (fun w => by kernel_rfl) ?_
    refine T.blk [(17, true), (18, true), (19, true), (20, true), (21, true), (22, true)] [(23, true)] 16 true ((((((a.take 250)[k]'hl3)).slot) == s) && (((((a.take 250)[k]'hl3)).par) == p)) 35 41 (.bool (decide (((((a.take 250)[k]'hl3)).kind) ≤ 4))) (by kernel_rfl) (by kernel_rfl) (by kernel_rfl) (fun hg13 => ?_) ?_
    · have hg13_ := hg13
      have hg13l := (Bool.and_eq_true_iff.1 hg13).1
      have hg13r := (Bool.and_eq_true_iff.1 hg13).2
      refine T.pure 36 (.slice A ((a.take 250).length) c) (by kernel_rfl) (fun w => by kernel_rfl) ?_
      refine T.pure 37 (.int .i64 ((k : Int))) (by kernel_rfl) (fun w => by kernel_rfl) ?_
      obtain ⟨b14, o15, hA16, hr17⟩ := ((Rd.arr hr _).take _) k hl3
      refine T.index 38 27 26 22 A ((a.take 250).length) c ((k : Int)) (k) b14 o15 (by kernel_rfl) (by kernel_rfl) (by kernel_rfl) (by kernel_rfl) hA16 (rfl) (by omega) ?_
      refine T.pure 39 (.pointer (some ⟨b14, o15 + k * 22, none⟩)) (by kernel_rfl) (fun w => by kernel_rfl) ?_
      refine T.load true 40 (.int .i64 ((((a.take 250)[k]'hl3)).kind)) 3 b14 (o15 + k * 22) (by kernel_rfl) (by kernel_rfl) (by kernel_rfl) (fun w h => cell_of_range (hr17 w h) 0 (by kernel_rfl)) ?_
      refine T.pure 41 (.bool (decide (((((a.take 250)[k]'hl3)).kind) ≤ 4))) (by kernel_rfl) (fun w => by kernel_rfl) ?_
      exact T.blkEnd (by kernel_rfl) (fun w h => h)
    refine T.and 42 ((((((a.take 250)[k]'hl3)).slot) == s) && (((((a.take 250)[k]'hl3)).par) == p)) (decide (((((a.take 250)[k]'hl3)).kind) ≤ 4)) (by kernel_rfl) (by kernel_rfl) ?_
    refine T.nil ?_
    refine QN.seq ?_
    refine W.cond (((((((a.take 250)[k]'hl3)).slot) == s) && (((((a.take 250)[k]'hl3)).par) == p)) && (decide (((((a.take 250)[k]'hl3)).kind) ≤ 4))) (by kernel_rfl) (fun h18 => ?_) (fun h18 => ?_)
    · skip
      have h18l := (Bool.and_eq_true_iff.1 h18).1
      have h18r := (Bool.and_eq_true_iff.1 h18).2
      have h18ll := (Bool.and_eq_true_iff.1 h18l).1
      have h18lr := (Bool.and_eq_true_iff.1 h18l).2
      have h18r' := of_decide_eq_true h18r
      refine W.region [(0, false), (1, false), (2, false), (3, false), (4, false), (5, false), (6, false), (7, false)] (by kernel_rfl) ?_
      refine T.pure 43 (.slice A9 (own.length) c9) (by kernel_rfl) (fun w => by kernel_rfl) ?_
      refine T.pure 44 (.slice A ((a.take 250).length) c) (by kernel_rfl) (fun w => by kernel_rfl) ?_
      refine T.pure 45 (.int .i64 ((k : Int))) (by kernel_rfl) (fun w => by kernel_rfl) ?_
      obtain ⟨b19, o20, hA21, hr22⟩ := ((Rd.arr hr _).take _) k hl3
      refine T.index 46 27 26 22 A ((a.take 250).length) c ((k : Int)) (k) b19 o20 (by kernel_rfl) (by kernel_rfl) (by kernel_rfl) (by kernel_rfl) hA21 (rfl) (by omega) ?_
      refine T.loadR false 47 (((a.take 250)[k]'hl3)).cs 26 b19 (o20 + k * 22) (by kernel_rfl) (by kernel_rfl) (by kernel_rfl) (by kernel_rfl) hr22 ?_
      refine T.lit 48 27 26 1 #[(0, .agg (((a.take 250)[k]'hl3)).cs)] (cells ([((a.take 250)[k]'hl3)] : List Vt)).toArray (by kernel_rfl) (by kernel_rfl) (by kernel_rfl) (by kernel_rfl) (fun _ _ _ => trivial) (fun b23 => ?_)
      refine T.appC 49 27 26 64 A9 c9 (own : List Vt) Hr9 b23 0 1 ([((a.take 250)[k]'hl3)] : List Vt) (((List.Perm.refl _).cons _).trans List.perm_middle.symm) (by kernel_rfl) (by kernel_rfl) (by kernel_rfl) (by kernel_rfl) hrow9 (fun w h => St.rangeM h (cells ([((a.take 250)[k]'hl3)] : List Vt)).toArray (List.mem_append_right _ (.head _)) (by kernel_rfl)) (by unfold maxLen; first | omega | (simp; omega)) (by first | omega | (simp; omega)) (fun _ _ _ => trivial) (fun A24 c25 Hr26 hrow27 => ?_)
      refine T.pure 9 (.slice A24 ((own ++ ([((a.take 250)[k]'hl3)])).length) c25) (by kernel_rfl) (fun w => by kernel_rfl) ?_
      refine T.nil ?_
      refine QN.blkNormal ?_
      refine QN.seq ?_
      refine W.region [(0, false), (1, false), (2, false)] (by kernel_rfl) ?_
      refine T.pure 17 (.int .i64 ((k : Int))) (by kernel_rfl) (fun w => by kernel_rfl) ?_
      refine T.pureE 18 (.int .i64 (IntKind.i64.wrap ((k : Int) + 1))) (.int .i64 ((k : Int) + 1)) (by kernel_rfl) (fun w => by kernel_rfl) (wrap_int (by omega) (by omega)) ?_
      refine T.pure 10 (.int .i64 ((k : Int) + 1)) (by kernel_rfl) (fun w => by kernel_rfl) ?_
      refine T.nil ?_
      refine QN.back (k + 1, own ++ ([((a.take 250)[k]'hl3)]), A24, c25, Hr26) ?_ ?_ (by kernel_rfl) (fun w h => (h.perm ((List.Perm.refl _).trans ((((List.Perm.refl _).cons _).trans (List.Perm.swap _ _ _)).append_left Hr26))).part (List.Sublist.append (List.Sublist.refl _) ((List.nil_sublist _).cons_cons _)))
      · show (k + 1) ≤ (a.take 250).length ∧ (own ++ ([((a.take 250)[k]'hl3)])) = ((a.take 250).take (k + 1)).filter (apP s p) ∧ RowIs 26 22 A24 (own ++ ([((a.take 250)[k]'hl3)])).length c25 (cells (own ++ ([((a.take 250)[k]'hl3)]))) Hr26
        exact ⟨by omega, filt_yes (p := apP s p) (by omega) hown h18, hrow27⟩
      · show (a.take 250).length - _ < (a.take 250).length - _; omega
    · skip
      refine W.skip ?_
      refine QN.blkNormal ?_
      refine QN.seq ?_
      refine W.region [(0, false), (1, false), (2, false)] (by kernel_rfl) ?_
      refine T.pure 17 (.int .i64 ((k : Int))) (by kernel_rfl) (fun w => by kernel_rfl) ?_
      refine T.pureE 18 (.int .i64 (IntKind.i64.wrap ((k : Int) + 1))) (.int .i64 ((k : Int) + 1)) (by kernel_rfl) (fun w => by kernel_rfl) (wrap_int (by omega) (by omega)) ?_
      refine T.pure 10 (.int .i64 ((k : Int) + 1)) (by kernel_rfl) (fun w => by kernel_rfl) ?_
      refine T.nil ?_
      refine QN.back (k + 1, own, A9, c9, Hr9) ?_ ?_ (by kernel_rfl) (fun w h => h)
      · show (k + 1) ≤ (a.take 250).length ∧ own = ((a.take 250).take (k + 1)).filter (apP s p) ∧ RowIs 26 22 A9 own.length c9 (cells own) Hr9
        exact ⟨by omega, filt_no (p := apP s p) (by omega) hown h18, hrow9⟩
      · show (a.take 250).length - _ < (a.take 250).length - _; omega
  · skip
    have h2' := of_decide_eq_false h2
    refine W.exit ?_
    refine QN.thenExit ?_
    refine QN.thenExit ?_
    refine QN.blkHit ?_
    refine QN.seq ?_
    refine W.seq ?_
    refine W.drawn (Ψ := St w (Hr9 ++ [(b1, Obj.cells (p).cs 24 (0, 0))])) (St w (Hr9 ++ [(b1, Obj.cells (p).cs 24 (0, 0))])) [(0, true), (1, true), (2, true), (3, true), (5, true), (6, true), (7, true), (8, true), (4, false), (9, false), (10, false), (11, true), (12, false), (13, true), (14, false)] hmx (by kernel_rfl) (NoPanic.then (NoPanic.body)) (fun w h => h.drew) (fun w h => h) ?_
    refine T.pure 50 (.int .i64 (m)) (by kernel_rfl) (fun w => by kernel_rfl) ?_
    refine T.loadR true 51 (p).cs 24 b1 0 (by kernel_rfl) (by kernel_rfl) (by kernel_rfl) (by kernel_rfl) (fun w h => St.rangeM h (p).cs (List.mem_append_right _ (.head _)) (by kernel_rfl)) ?_
    refine T.pure 52 (.slice A9 (own.length) c9) (by kernel_rfl) (fun w => by kernel_rfl) ?_
    refine T.pure 53 (.int .i64 (s)) (by kernel_rfl) (fun w => by kernel_rfl) ?_
    refine T.pure 55 (.int .i64 (m)) (by kernel_rfl) (fun w => by kernel_rfl) ?_
    refine T.loadR true 56 (p).cs 24 b1 0 (by kernel_rfl) (by kernel_rfl) (by kernel_rfl) (by kernel_rfl) (fun w h => St.rangeM h (p).cs (List.mem_append_right _ (.head _)) (by kernel_rfl)) ?_
    refine T.pure 57 (.slice A ((a.take 250).length) c) (by kernel_rfl) (fun w => by kernel_rfl) ?_
    refine T.pure 58 (.int .i64 (s)) (by kernel_rfl) (fun w => by kernel_rfl) ?_
    refine T.callR 54 41 #[.int .i64 (m), .agg (p).cs, .slice A9 (own.length) c9, .int .i64 (s)] 75 11 (outV m p own s).length (cells (outV m p own s)) (by kernel_rfl) (by kernel_rfl) ent41 (fun w hw => outcomes_c m p own s A9 c9 w (by first | assumption | exact w64_and _ _ | exact w64_or _ _ | exact w64_andNot _ _ | (unfold W64; omega)) (fun u hu => (hok u (List.mem_of_mem_take (List.mem_of_mem_take (List.mem_filter.1 (hown ▸ hu)).1))).support) (by first | omega | (simp; done) | (simp; omega)) (Arr.rd (Arr.row hrow9 (rfl) (rfl) _) hw)) (fun Hr30 => (fun w h => (h.perm ((((List.Perm.refl _).append_left Hr30).trans (List.perm_append_comm_assoc _ _ _)).trans ((((List.Perm.refl _).append_left Hr30).trans List.perm_middle).append_left Hr9))).part (List.Sublist.append (List.Sublist.refl _) ((List.nil_sublist _).cons_cons _)))) (fun A28 c29 Hr30 hrow31 => ?_)
    refine T.callR 59 41 #[.int .i64 (m), .agg (p).cs, .slice A ((a.take 250).length) c, .int .i64 (s)] 75 11 (outV m p (a.take 250) s).length (cells (outV m p (a.take 250) s)) (by kernel_rfl) (by kernel_rfl) ent41 (fun w hw => outcomes_c m p (a.take 250) s A c w (by first | assumption | exact w64_and _ _ | exact w64_or _ _ | exact w64_andNot _ _ | (unfold W64; omega)) (fun u hu => (hok u (List.mem_of_mem_take hu)).support) (by first | omega | (simp; done) | (simp; omega)) (Arr.rd ((Rd.arr hr _).take _) hw)) (fun Hr34 => (fun w h => (h.perm ((((((List.Perm.refl _).append_left Hr30).trans (List.perm_append_comm_assoc _ _ _)).append_left Hr34).trans (List.perm_append_comm_assoc _ _ _)).trans ((((((List.Perm.refl _).append_left Hr30).trans List.perm_middle).append_left Hr34).trans List.perm_middle).append_left Hr9))).part (List.Sublist.append (List.Sublist.refl _) ((List.nil_sublist _).cons_cons _)))) (fun A32 c33 Hr34 hrow35 => ?_)
    have ho1 := outV_len m p own s
    have ho2 := outV_len m p (a.take 250) s
    refine T.callP 60 40 #[.slice A28 ((outV m p own s).length) c29, .slice A32 ((outV m p (a.take 250) s).length) c33] (.bool ((outV m p own s) == (outV m p (a.take 250) s))) (by kernel_rfl) (by kernel_rfl) ent40 (fun w hw => sameo_c (outV m p own s) (outV m p (a.take 250) s) A28 c29 A32 c33 w (by first | omega | (simp; done) | (simp; omega)) (by first | omega | (simp; done) | (simp; omega)) (Arr.rd ((show Arr (St _ (Hr34 ++ (Hr30 ++ (Hr9 ++ [(b1, Obj.cells (p).cs 24 (0, 0))])))) A28 (outV m p own s) from (Arr.row hrow31 (rfl) (rfl) (Hr34 ++ (Hr9 ++ [(b1, Obj.cells (p).cs 24 (0, 0))]))).weak (fun w h => h.perm (((List.Perm.refl _).append_left Hr34).trans (List.perm_append_comm_assoc _ _ _))))) hw) (Arr.rd (Arr.row hrow35 (rfl) (rfl) _) hw)) (fun w h => (h.perm ((((((List.Perm.refl _).append_left Hr30).trans (List.perm_append_comm_assoc _ _ _)).append_left Hr34).trans (List.perm_append_comm_assoc _ _ _)).trans ((((((List.Perm.refl _).append_left Hr30).trans List.perm_middle).append_left Hr34).trans List.perm_middle).append_left Hr9))).part (List.Sublist.append (List.Sublist.refl _) ((List.nil_sublist _).cons_cons _))) ?_
    refine T.pure 61 (.bool ((outV m p own s) == (outV m p (a.take 250) s))) (by kernel_rfl) (fun w => by kernel_rfl) ?_
    refine T.blk [(12, false)] [(13, true), (14, false)] 11 true ((outV m p own s) == (outV m p (a.take 250) s)) 61 62 (.bool (true)) (by kernel_rfl) (by kernel_rfl) (by kernel_rfl) (fun hg36 => ?_) ?_
    · have hg36_ := hg36
      refine T.callP 62 38 #[] (.bool (true)) (by kernel_rfl) (by kernel_rfl) ent38 (fun w hw => awake_c w) (fun w h => (h.perm ((((((List.Perm.refl _).append_left Hr30).trans (List.perm_append_comm_assoc _ _ _)).append_left Hr34).trans (List.perm_append_comm_assoc _ _ _)).trans ((((((List.Perm.refl _).append_left Hr30).trans List.perm_middle).append_left Hr34).trans List.perm_middle).append_left Hr9))).part (List.Sublist.append (List.Sublist.refl _) ((List.nil_sublist _).cons_cons _))) ?_
      exact T.blkEnd (by kernel_rfl) (fun w h => h)
    refine T.and 63 ((outV m p own s) == (outV m p (a.take 250) s)) (true) (by kernel_rfl) (by kernel_rfl) ?_
    refine T.pure 8 (.bool (((outV m p own s) == (outV m p (a.take 250) s)) && true)) (by kernel_rfl) (fun w => by kernel_rfl) ?_
    refine T.nil ?_
    refine QN.seq ?_
    refine W.ret ?_
    refine QN.done (.inl rfl) 8 (.bool (((outV m p own s) == (outV m p (a.take 250) s)) && true)) rfl (by kernel_rfl) (fun w hw => ⟨?_, hw.below⟩)
    exact ret_bool (by rw [hown, show ((a.take 250).take k) = a.take 250 from List.take_of_length_le (by omega), apart]; simp)
theorem AcceptApart_w (w : World) (a0 : Int) (v1 : Value) (x1 : Nm) (v2 : Value) (x2 : List Vt) (a3 : Int) (h0 : W64 a0) (h1 : v1 = .agg x1.cs) (h2 : VS w v2 x2) (h3 : W64 a3) : Calls Try.prog 12 #[.int .i64 a0, v1, v2, .int .i64 a3] w fun e w' => e = .returned (.bool true) ∧ Below w.heap.size w w' := by
  obtain rfl := h1
  obtain ⟨A2, c2, rfl, l2, m2, r2, k2⟩ := h2
  exact AcceptApart_c _ _ _ _ _ _ w h0 k2 l2 m2 r2.rd
set_option maxRecDepth 100000 in
set_option maxHeartbeats 2000000 in
theorem AcceptGrows_c (m : Int) (p : Nm) (a b : List Vt) (s : Int) (A B : Option Addr) (c d : Nat) (w : World) (hm : W64 m) (hok : ∀ u ∈ a, u.Ok) (hok2 : ∀ u ∈ b, u.Ok) (h1 : a.length ≤ c) (h2 : c ≤ maxLen) (hr : Rd w A a) (h3 : b.length ≤ d) (h4 : d ≤ maxLen) (hrb : Rd w B b) : Calls Try.prog 13 #[.int .i64 (m), .agg (p).cs, .slice A (a.length) c, .slice B (b.length) d, .int .i64 (s)] w (fun rr w' => rr = .returned (.bool (true)) ∧ Below w.heap.size w w') := by
  have ht : (a.take 250).length ≤ 250 := List.length_take_le _ _
  have ht2 : (b.take 250).length ≤ 250 := List.length_take_le _ _
  refine calls_W (n := 91) Try.func13 rfl [(0, .int .i64 (m)), (1, .agg (p).cs), (2, .slice A (a.length) c), (3, .slice B (b.length) d), (4, .int .i64 (s))] rfl ⟨by kernel_rfl, by kernel_rfl⟩ ?_
  refine W.weak (Ψ := St w []) (fun w' h => by rw [h]; exact St.start w) ?_
  refine W.seq ?_
  refine W.region [(0, false), (1, false)] (by kernel_rfl) ?_
  refine T.box 6 24 (.agg (p).cs) ((p).cs) (by kernel_rfl) (by kernel_rfl) (by kernel_rfl) (fun _ _ _ => trivial) (fun b1 => ?_)
  refine T.pure 10 (.bool (false)) (by kernel_rfl) (fun w => by kernel_rfl) ?_
  refine T.nil ?_
  refine QN.seq ?_
  refine W.seq ?_
  refine W.region [(0, false), (1, false), (2, false), (3, false), (4, false), (5, false)] (by kernel_rfl) ?_
  refine T.pure 17 (.slice A (a.length) c) (by kernel_rfl) (fun w => by kernel_rfl) ?_
  refine T.callP 18 39 #[.slice A (a.length) c] (.slice A ((a.take 250).length) c) (by kernel_rfl) (by kernel_rfl) ent39 (fun w hw => cut12_c a A c w h1 h2 (Arr.rd (Rd.arr hr _) hw)) (fun _ _ => trivial) ?_
  refine T.pure 19 (.slice B (b.length) d) (by kernel_rfl) (fun w => by kernel_rfl) ?_
  refine T.callP 20 39 #[.slice B (b.length) d] (.slice B ((b.take 250).length) d) (by kernel_rfl) (by kernel_rfl) ent39 (fun w hw => cut12_c b B d w h3 h4 (Arr.rd (Rd.arr hrb _) hw)) (fun _ _ => trivial) ?_
  refine T.pure 2 (.slice A ((a.take 250).length) c) (by kernel_rfl) (fun w => by kernel_rfl) ?_
  refine T.pure 3 (.slice B ((b.take 250).length) d) (by kernel_rfl) (fun w => by kernel_rfl) ?_
  refine T.nil ?_
  refine QN.seq ?_
  refine W.seq ?_
  refine W.region [(0, false), (1, false), (2, false), (3, false), (4, false), (5, false), (6, false), (7, false)] (by kernel_rfl) ?_
  refine T.lit0 21 27 26 (by kernel_rfl) (by kernel_rfl) (by kernel_rfl) (by kernel_rfl) (fun _ _ _ => trivial) (fun b2 => ?_)
  refine T.pure 22 (.slice B ((b.take 250).length) d) (by kernel_rfl) (fun w => by kernel_rfl) ?_
  refine T.appD 23 27 26 64 (some ⟨b2, 0, none⟩) 0 ([] : List Vt) [(b2, Obj.cells #[] 26 (0, 0))] B d (b.take 250 : List Vt) (List.Perm.refl _) (by kernel_rfl) (by kernel_rfl) (by kernel_rfl) (by kernel_rfl) (RowIs.row b2 0 0 #[] [] (Nat.le_refl _) (Nat.zero_le _) rfl rfl rfl) ((Rd.arr hrb _).take _) (by unfold maxLen; first | omega | (simp; omega)) (by first | omega | (simp; omega)) (fun _ _ _ => trivial) (fun A3 c4 Hr5 hrow6 => ?_)
  refine T.pure 24 (.slice A ((a.take 250).length) c) (by kernel_rfl) (fun w => by kernel_rfl) ?_
  refine T.appD 25 27 26 64 A3 c4 (([] : List Vt) ++ (b.take 250) : List Vt) Hr5 A c (a.take 250 : List Vt) (List.Perm.refl _) (by kernel_rfl) (by kernel_rfl) (by kernel_rfl) (by kernel_rfl) hrow6 ((Rd.arr hr _).take _) (by unfold maxLen; first | omega | (simp; omega)) (by first | omega | (simp; omega)) (fun _ _ _ => trivial) (fun A7 c8 Hr9 hrow10 => ?_)
  refine T.pure 26 (.slice B ((b.take 250).length) d) (by kernel_rfl) (fun w => by kernel_rfl) ?_
  refine T.appD 27 27 26 64 A7 c8 ((([] : List Vt) ++ (b.take 250)) ++ (a.take 250) : List Vt) Hr9 B d (b.take 250 : List Vt) (List.Perm.refl _) (by kernel_rfl) (by kernel_rfl) (by kernel_rfl) (by kernel_rfl) hrow10 ((Rd.arr hrb _).take _) (by unfold maxLen; first | omega | (simp; omega)) (by first | omega | (simp; omega)) (fun _ _ _ => trivial) (fun A11 c12 Hr13 hrow14 => ?_)
  refine T.pure 11 (.slice A11 ((((([] : List Vt) ++ (b.take 250)) ++ (a.take 250)) ++ (b.take 250)).length) c12) (by kernel_rfl) (fun w => by kernel_rfl) ?_
  refine T.nil ?_
  refine QN.seq ?_
  refine W.seq ?_
  refine W.drawn (Ψ := St w (Hr13 ++ [(b1, Obj.cells (p).cs 24 (0, 0))])) (St w (Hr13 ++ [(b1, Obj.cells (p).cs 24 (0, 0))])) [(0, true), (1, true), (2, true), (4, true), (5, true), (6, true), (3, false), (7, false), (8, false), (9, false)] hmx (by kernel_rfl) (NoPanic.then (NoPanic.body)) (fun w h => h.drew) (fun w h => h) ?_
  refine T.pure 28 (.int .i64 (m)) (by kernel_rfl) (fun w => by kernel_rfl) ?_
  refine T.loadR true 29 (p).cs 24 b1 0 (by kernel_rfl) (by kernel_rfl) (by kernel_rfl) (by kernel_rfl) (fun w h => St.rangeM h (p).cs (List.mem_append_right _ (.head _)) (by kernel_rfl)) ?_
  refine T.pure 30 (.slice A ((a.take 250).length) c) (by kernel_rfl) (fun w => by kernel_rfl) ?_
  refine T.pure 32 (.int .i64 (m)) (by kernel_rfl) (fun w => by kernel_rfl) ?_
  refine T.loadR true 33 (p).cs 24 b1 0 (by kernel_rfl) (by kernel_rfl) (by kernel_rfl) (by kernel_rfl) (fun w h => St.rangeM h (p).cs (List.mem_append_right _ (.head _)) (by kernel_rfl)) ?_
  refine T.pure 34 (.slice A11 ((((([] : List Vt) ++ (b.take 250)) ++ (a.take 250)) ++ (b.take 250)).length) c12) (by kernel_rfl) (fun w => by kernel_rfl) ?_
  refine T.callR 31 34 #[.int .i64 (m), .agg (p).cs, .slice A ((a.take 250).length) c] 26 22 (accV m p (a.take 250)).length (cells (accV m p (a.take 250))) (by kernel_rfl) (by kernel_rfl) ent34 (fun w hw => accepted_c m p (a.take 250) A c w (by first | assumption | exact w64_and _ _ | exact w64_or _ _ | exact w64_andNot _ _ | (unfold W64; omega)) (fun u hu => (hok u (List.mem_of_mem_take hu)).support) (by first | omega | (simp only [List.length_append, List.length_nil]; omega) | (have := accV_len m p ([]); simp only [List.length_append, List.length_nil] at *; omega)) (Arr.rd ((Rd.arr hr _).take _) hw)) (fun Hr17 => (fun w h => (h.perm ((((List.Perm.refl _).append_left Hr17).trans (List.perm_append_comm_assoc _ _ _)).trans ((((List.Perm.refl _).append_left Hr17).trans List.perm_middle).append_left Hr13))).part (List.Sublist.append (List.Sublist.refl _) ((List.nil_sublist _).cons_cons _)))) (fun A15 c16 Hr17 hrow18 => ?_)
  refine T.callR 35 34 #[.int .i64 (m), .agg (p).cs, .slice A11 ((((([] : List Vt) ++ (b.take 250)) ++ (a.take 250)) ++ (b.take 250)).length) c12] 26 22 (accV m p (((([] : List Vt) ++ (b.take 250)) ++ (a.take 250)) ++ (b.take 250))).length (cells (accV m p (((([] : List Vt) ++ (b.take 250)) ++ (a.take 250)) ++ (b.take 250)))) (by kernel_rfl) (by kernel_rfl) ent34 (fun w hw => accepted_c m p (((([] : List Vt) ++ (b.take 250)) ++ (a.take 250)) ++ (b.take 250)) A11 c12 w (by first | assumption | exact w64_and _ _ | exact w64_or _ _ | exact w64_andNot _ _ | (unfold W64; omega)) (fun u hu => by simp only [List.mem_append, List.not_mem_nil, false_or, or_assoc] at hu; rcases hu with hu | hu | hu <;> first | exact (hok u (List.mem_of_mem_take hu)).support | exact (hok2 u (List.mem_of_mem_take hu)).support) (by first | omega | (simp only [List.length_append, List.length_nil]; omega) | (have := accV_len m p ([]); simp only [List.length_append, List.length_nil] at *; omega)) (Arr.rd ((show Arr (St _ (Hr17 ++ (Hr13 ++ [(b1, Obj.cells (p).cs 24 (0, 0))]))) A11 (((([] : List Vt) ++ (b.take 250)) ++ (a.take 250)) ++ (b.take 250)) from (Arr.row hrow14 (rfl) (rfl) (Hr17 ++ [(b1, Obj.cells (p).cs 24 (0, 0))])).weak (fun w h => h.perm (((List.Perm.refl _).append_left Hr17).trans (List.perm_append_comm_assoc _ _ _))))) hw)) (fun Hr21 => (fun w h => (h.perm ((((((List.Perm.refl _).append_left Hr17).trans (List.perm_append_comm_assoc _ _ _)).append_left Hr21).trans (List.perm_append_comm_assoc _ _ _)).trans ((((((List.Perm.refl _).append_left Hr17).trans List.perm_middle).append_left Hr21).trans List.perm_middle).append_left Hr13))).part (List.Sublist.append (List.Sublist.refl _) ((List.nil_sublist _).cons_cons _)))) (fun A19 c20 Hr21 hrow22 => ?_)
  refine T.pure 12 (.slice A15 ((accV m p (a.take 250)).length) c16) (by kernel_rfl) (fun w => by kernel_rfl) ?_
  refine T.pure 13 (.slice A19 ((accV m p (((([] : List Vt) ++ (b.take 250)) ++ (a.take 250)) ++ (b.take 250))).length) c20) (by kernel_rfl) (fun w => by kernel_rfl) ?_
  refine T.nil ?_
  refine QN.seq ?_
  refine W.seq ?_
  refine W.seq ?_
  refine W.region [(0, false)] (by kernel_rfl) ?_
  refine T.pure 14 (.int .i64 (0)) (by kernel_rfl) (fun w => by kernel_rfl) ?_
  refine T.nil ?_
  refine QN.seq ?_
  refine W.block ?_
  have hl1 := accV_len m p (a.take 250)
  have hl2 := accV_len m p (((([] : List Vt) ++ (b.take 250)) ++ (a.take 250)) ++ (b.take 250))
  have hl3 : (((([] : List Vt) ++ (b.take 250)) ++ (a.take 250)) ++ (b.take 250)).length ≤ 750 := by simp only [List.length_append, List.length_nil]; omega
  refine W.loop (σ := Nat) (fun gs => gs ≤ (accV m p (a.take 250)).length) (fun gs => [(0, .int .i64 (m)), (2, .slice A ((a.take 250).length) c), (3, .slice B ((b.take 250).length) d), (4, .int .i64 (s)), (6, .pointer (some ⟨b1, 0, none⟩)), (11, .slice A11 ((((([] : List Vt) ++ (b.take 250)) ++ (a.take 250)) ++ (b.take 250)).length) c12), (12, .slice A15 ((accV m p (a.take 250)).length) c16), (13, .slice A19 ((accV m p (((([] : List Vt) ++ (b.take 250)) ++ (a.take 250)) ++ (b.take 250))).length) c20), (14, .int .i64 ((gs : Int)))]) (fun gs => St w (Hr21 ++ (Hr17 ++ (Hr13 ++ [(b1, Obj.cells (p).cs 24 (0, 0))])))) (fun gs => (accV m p (a.take 250)).length - gs) (0) ?_ (by kernel_rfl) (fun w h => h) ?_
  · show 0 ≤ (accV m p (a.take 250)).length
    exact Nat.zero_le _
  rintro j hI_
  obtain hj : j ≤ (accV m p (a.take 250)).length := hI_
  show W _ _ [(0, .int .i64 (m)), (2, .slice A ((a.take 250).length) c), (3, .slice B ((b.take 250).length) d), (4, .int .i64 (s)), (6, .pointer (some ⟨b1, 0, none⟩)), (11, .slice A11 ((((([] : List Vt) ++ (b.take 250)) ++ (a.take 250)) ++ (b.take 250)).length) c12), (12, .slice A15 ((accV m p (a.take 250)).length) c16), (13, .slice A19 ((accV m p (((([] : List Vt) ++ (b.take 250)) ++ (a.take 250)) ++ (b.take 250))).length) c20), (14, .int .i64 ((j : Int)))] (St w (Hr21 ++ (Hr17 ++ (Hr13 ++ [(b1, Obj.cells (p).cs 24 (0, 0))])))) _ _
  refine W.seq ?_
  refine W.seq ?_
  refine W.region [(0, false), (1, false), (2, false), (3, false)] (by kernel_rfl) ?_
  refine T.pure 36 (.int .i64 ((j : Int))) (by kernel_rfl) (fun w => by kernel_rfl) ?_
  refine T.pure 37 (.slice A15 ((accV m p (a.take 250)).length) c16) (by kernel_rfl) (fun w => by kernel_rfl) ?_
  refine T.pure 38 (.int .i64 ((((accV m p (a.take 250)).length : Nat) : Int))) (by kernel_rfl) (fun w => by kernel_rfl) ?_
  refine T.pure 39 (.bool (decide ((j : Int) < (((accV m p (a.take 250)).length : Nat) : Int)))) (by kernel_rfl) (fun w => by kernel_rfl) ?_
  refine T.nil ?_
  refine QN.seq ?_
  refine W.cond (decide ((j : Int) < (((accV m p (a.take 250)).length : Nat) : Int))) (by kernel_rfl) (fun h23 => ?_) (fun h23 => ?_)
  · skip
    have h23' := of_decide_eq_true h23
    have hl24 : j < (accV m p (a.take 250)).length := by omega
    refine W.skip ?_
    refine QN.seq ?_
    refine W.seq ?_
    refine W.block ?_
    refine W.seq ?_
    refine W.region [(0, false), (1, false), (2, false), (3, false), (4, false), (5, false), (6, false)] (by kernel_rfl) ?_
    refine T.pure 42 (.slice A19 ((accV m p (((([] : List Vt) ++ (b.take 250)) ++ (a.take 250)) ++ (b.take 250))).length) c20) (by kernel_rfl) (fun w => by kernel_rfl) ?_
    refine T.pure 43 (.slice A15 ((accV m p (a.take 250)).length) c16) (by kernel_rfl) (fun w => by kernel_rfl) ?_
    refine T.pure 44 (.int .i64 ((j : Int))) (by kernel_rfl) (fun w => by kernel_rfl) ?_
    obtain ⟨b25, o26, hA27, hr28⟩ := ((show Arr (St _ (Hr21 ++ (Hr17 ++ (Hr13 ++ [(b1, Obj.cells (p).cs 24 (0, 0))])))) A15 (accV m p (a.take 250)) from (Arr.row hrow18 (rfl) (rfl) (Hr21 ++ (Hr13 ++ [(b1, Obj.cells (p).cs 24 (0, 0))]))).weak (fun w h => h.perm (((List.Perm.refl _).append_left Hr21).trans (List.perm_append_comm_assoc _ _ _))))) j hl24
    refine T.index 45 27 26 22 A15 ((accV m p (a.take 250)).length) c16 ((j : Int)) (j) b25 o26 (by kernel_rfl) (by kernel_rfl) (by kernel_rfl) (by kernel_rfl) hA27 (rfl) (by omega) ?_
    refine T.loadR false 46 (((accV m p (a.take 250))[j]'hl24)).cs 26 b25 (o26 + j * 22) (by kernel_rfl) (by kernel_rfl) (by kernel_rfl) (by kernel_rfl) hr28 ?_
    refine T.callP 47 35 #[.slice A19 ((accV m p (((([] : List Vt) ++ (b.take 250)) ++ (a.take 250)) ++ (b.take 250))).length) c20, .agg (((accV m p (a.take 250))[j]'hl24)).cs] (.bool ((accV m p (((([] : List Vt) ++ (b.take 250)) ++ (a.take 250)) ++ (b.take 250))).any (fun x => x == ((accV m p (a.take 250))[j]'hl24)))) (by kernel_rfl) (by kernel_rfl) ent35 (fun w hw => has12_c (accV m p (((([] : List Vt) ++ (b.take 250)) ++ (a.take 250)) ++ (b.take 250))) ((accV m p (a.take 250))[j]'hl24) A19 c20 w (by first | omega | (simp only [List.length_append, List.length_nil]; omega) | (have := accV_len m p ((((([] : List Vt) ++ (b.take 250)) ++ (a.take 250)) ++ (b.take 250))); simp only [List.length_append, List.length_nil] at *; omega)) (Arr.rd (Arr.row hrow22 (rfl) (rfl) _) hw)) (fun _ _ => trivial) ?_
    refine T.pure 48 (.bool (!((accV m p (((([] : List Vt) ++ (b.take 250)) ++ (a.take 250)) ++ (b.take 250))).any (fun x => x == ((accV m p (a.take 250))[j]'hl24))))) (by kernel_rfl) (fun w => by kernel_rfl) ?_
    refine T.nil ?_
    refine QN.seq ?_
    refine W.cond (!((accV m p (((([] : List Vt) ++ (b.take 250)) ++ (a.take 250)) ++ (b.take 250))).any (fun x => x == ((accV m p (a.take 250))[j]'hl24)))) (by kernel_rfl) (fun h29 => ?_) (fun h29 => ?_)
    · skip
      have h29n := not_eq_true h29
      refine W.seq ?_
      refine W.region [(0, false)] (by kernel_rfl) ?_
      refine T.pure 10 (.bool (false)) (by kernel_rfl) (fun w => by kernel_rfl) ?_
      refine T.nil ?_
      refine QN.seq ?_
      refine W.ret ?_
      refine QN.blkRet ?_
      refine QN.thenRet ?_
      refine QN.thenRet ?_
      refine QN.blkRet ?_
      refine QN.thenRet ?_
      refine QN.done (.inl rfl) 10 (.bool (false)) rfl (by kernel_rfl) (fun w hw => ⟨?_, hw.below⟩)
      exact (grow1 (by intro u hu; simp [hu]) h29).elim
    · skip
      have h29n := not_eq_false h29
      refine W.skip ?_
      refine QN.blkNormal ?_
      refine QN.seq ?_
      refine W.region [(0, false), (1, false), (2, false)] (by kernel_rfl) ?_
      refine T.pure 40 (.int .i64 ((j : Int))) (by kernel_rfl) (fun w => by kernel_rfl) ?_
      refine T.pureE 41 (.int .i64 (IntKind.i64.wrap ((j : Int) + 1))) (.int .i64 ((j : Int) + 1)) (by kernel_rfl) (fun w => by kernel_rfl) (wrap_int (by omega) (by omega)) ?_
      refine T.pure 14 (.int .i64 ((j : Int) + 1)) (by kernel_rfl) (fun w => by kernel_rfl) ?_
      refine T.nil ?_
      refine QN.back (j + 1) ?_ ?_ (by kernel_rfl) (fun w h => h)
      · show (j + 1) ≤ (accV m p (a.take 250)).length
        omega
      · show (accV m p (a.take 250)).length - (j + 1) < (accV m p (a.take 250)).length - j; omega
  · skip
    have h23' := of_decide_eq_false h23
    refine W.exit ?_
    refine QN.thenExit ?_
    refine QN.thenExit ?_
    refine QN.blkHit ?_
    refine QN.seq ?_
    refine W.seq ?_
    refine W.region [(0, false), (1, false), (2, false), (3, false), (4, false), (5, false)] (by kernel_rfl) ?_
    refine T.pure 49 (.int .i64 (m)) (by kernel_rfl) (fun w => by kernel_rfl) ?_
    refine T.loadR false 50 (p).cs 24 b1 0 (by kernel_rfl) (by kernel_rfl) (by kernel_rfl) (by kernel_rfl) (fun w h => St.rangeM h (p).cs (List.mem_append_right _ (List.mem_append_right _ (List.mem_append_right _ (.head _)))) (by kernel_rfl)) ?_
    refine T.pure 51 (.slice A ((a.take 250).length) c) (by kernel_rfl) (fun w => by kernel_rfl) ?_
    refine T.pure 52 (.int .i64 (s)) (by kernel_rfl) (fun w => by kernel_rfl) ?_
    refine T.callR 53 41 #[.int .i64 (m), .agg (p).cs, .slice A ((a.take 250).length) c, .int .i64 (s)] 75 11 (outV m p (a.take 250) s).length (cells (outV m p (a.take 250) s)) (by kernel_rfl) (by kernel_rfl) ent41 (fun w hw => outcomes_c m p (a.take 250) s A c w (by first | assumption | exact w64_and _ _ | exact w64_or _ _ | exact w64_andNot _ _ | (unfold W64; omega)) (fun u hu => (hok u (List.mem_of_mem_take hu)).support) (by first | omega | (simp only [List.length_append, List.length_nil]; omega) | (have := accV_len m p ([]); simp only [List.length_append, List.length_nil] at *; omega)) (Arr.rd ((Rd.arr hr _).take _) hw)) (fun _ _ _ => trivial) (fun A30 c31 Hr32 hrow33 => ?_)
    refine T.pure 15 (.slice A30 ((outV m p (a.take 250) s).length) c31) (by kernel_rfl) (fun w => by kernel_rfl) ?_
    refine T.nil ?_
    refine QN.seq ?_
    refine W.seq ?_
    refine W.seq ?_
    refine W.region [(0, false)] (by kernel_rfl) ?_
    refine T.pure 16 (.int .i64 (0)) (by kernel_rfl) (fun w => by kernel_rfl) ?_
    refine T.nil ?_
    refine QN.seq ?_
    refine W.block ?_
    have hl4 := outV_len m p (a.take 250) s
    refine W.loop (σ := Nat) (fun gs => gs ≤ (outV m p (a.take 250) s).length) (fun gs => [(0, .int .i64 (m)), (2, .slice A ((a.take 250).length) c), (3, .slice B ((b.take 250).length) d), (4, .int .i64 (s)), (6, .pointer (some ⟨b1, 0, none⟩)), (11, .slice A11 ((((([] : List Vt) ++ (b.take 250)) ++ (a.take 250)) ++ (b.take 250)).length) c12), (13, .slice A19 ((accV m p (((([] : List Vt) ++ (b.take 250)) ++ (a.take 250)) ++ (b.take 250))).length) c20), (15, .slice A30 ((outV m p (a.take 250) s).length) c31), (16, .int .i64 ((gs : Int)))]) (fun gs => St w (Hr32 ++ (Hr21 ++ (Hr17 ++ (Hr13 ++ [(b1, Obj.cells (p).cs 24 (0, 0))]))))) (fun gs => (outV m p (a.take 250) s).length - gs) (0) ?_ (by kernel_rfl) (fun w h => h) ?_
    · show 0 ≤ (outV m p (a.take 250) s).length
      exact Nat.zero_le _
    rintro k hI_
    obtain hk : k ≤ (outV m p (a.take 250) s).length := hI_
    show W _ _ [(0, .int .i64 (m)), (2, .slice A ((a.take 250).length) c), (3, .slice B ((b.take 250).length) d), (4, .int .i64 (s)), (6, .pointer (some ⟨b1, 0, none⟩)), (11, .slice A11 ((((([] : List Vt) ++ (b.take 250)) ++ (a.take 250)) ++ (b.take 250)).length) c12), (13, .slice A19 ((accV m p (((([] : List Vt) ++ (b.take 250)) ++ (a.take 250)) ++ (b.take 250))).length) c20), (15, .slice A30 ((outV m p (a.take 250) s).length) c31), (16, .int .i64 ((k : Int)))] (St w (Hr32 ++ (Hr21 ++ (Hr17 ++ (Hr13 ++ [(b1, Obj.cells (p).cs 24 (0, 0))]))))) _ _
    refine W.seq ?_
    refine W.seq ?_
    refine W.region [(0, false), (1, false), (2, false), (3, false)] (by kernel_rfl) ?_
    refine T.pure 54 (.int .i64 ((k : Int))) (by kernel_rfl) (fun w => by kernel_rfl) ?_
    refine T.pure 55 (.slice A30 ((outV m p (a.take 250) s).length) c31) (by kernel_rfl) (fun w => by kernel_rfl) ?_
    refine T.pure 56 (.int .i64 ((((outV m p (a.take 250) s).length : Nat) : Int))) (by kernel_rfl) (fun w => by kernel_rfl) ?_
    refine T.pure 57 (.bool (decide ((k : Int) < (((outV m p (a.take 250) s).length : Nat) : Int)))) (by kernel_rfl) (fun w => by kernel_rfl) ?_
    refine T.nil ?_
    refine QN.seq ?_
    refine W.cond (decide ((k : Int) < (((outV m p (a.take 250) s).length : Nat) : Int))) (by kernel_rfl) (fun h34 => ?_) (fun h34 => ?_)
    · skip
      have h34' := of_decide_eq_true h34
      have hl35 : k < (outV m p (a.take 250) s).length := by omega
      refine W.skip ?_
      refine QN.seq ?_
      refine W.seq ?_
      refine W.block ?_
      refine W.seq ?_
      refine W.drawn (Ψ := St w (Hr32 ++ (Hr21 ++ (Hr17 ++ (Hr13 ++ [(b1, Obj.cells (p).cs 24 (0, 0))]))))) (St w (Hr32 ++ (Hr21 ++ (Hr17 ++ (Hr13 ++ [(b1, Obj.cells (p).cs 24 (0, 0))]))))) [(0, true), (1, true), (2, true), (3, true), (4, true), (5, true), (6, true), (7, false), (8, true), (9, true), (10, true), (11, true), (12, true), (13, true), (14, true), (15, true), (16, true), (17, true)] hmx (by kernel_rfl) (NoPanic.then (NoPanic.inBlock (NoPanic.then (NoPanic.then (NoPanic.inBlock (NoPanic.then (NoPanic.body))))))) (fun w h => h.drew) (fun w h => h) ?_
      refine T.pure 60 (.int .i64 (m)) (by kernel_rfl) (fun w => by kernel_rfl) ?_
      refine T.loadR true 61 (p).cs 24 b1 0 (by kernel_rfl) (by kernel_rfl) (by kernel_rfl) (by kernel_rfl) (fun w h => St.rangeM h (p).cs (List.mem_append_right _ (List.mem_append_right _ (List.mem_append_right _ (List.mem_append_right _ (.head _))))) (by kernel_rfl)) ?_
      refine T.pure 62 (.slice A11 ((((([] : List Vt) ++ (b.take 250)) ++ (a.take 250)) ++ (b.take 250)).length) c12) (by kernel_rfl) (fun w => by kernel_rfl) ?_
      refine T.pure 63 (.slice A30 ((outV m p (a.take 250) s).length) c31) (by kernel_rfl) (fun w => by kernel_rfl) ?_
      refine T.pure 64 (.int .i64 ((k : Int))) (by kernel_rfl) (fun w => by kernel_rfl) ?_
      obtain ⟨b36, o37, hA38, hr39⟩ := (Arr.row hrow33 (rfl) (rfl) _) k hl35
      refine T.index 65 70 75 11 A30 ((outV m p (a.take 250) s).length) c31 ((k : Int)) (k) b36 o37 (by kernel_rfl) (by kernel_rfl) (by kernel_rfl) (by kernel_rfl) hA38 (rfl) (by omega) ?_
      refine T.loadR true 66 (((outV m p (a.take 250) s)[k]'hl35)).cs 75 b36 (o37 + k * 11) (by kernel_rfl) (by kernel_rfl) (by kernel_rfl) (by kernel_rfl) hr39 ?_
      refine T.callP 67 42 #[.int .i64 (m), .agg (p).cs, .slice A11 ((((([] : List Vt) ++ (b.take 250)) ++ (a.take 250)) ++ (b.take 250)).length) c12, .agg (((outV m p (a.take 250) s)[k]'hl35)).cs] (.bool (decB m p (((([] : List Vt) ++ (b.take 250)) ++ (a.take 250)) ++ (b.take 250)) ((outV m p (a.take 250) s)[k]'hl35))) (by kernel_rfl) (by kernel_rfl) ent42 (fun w hw => decided_c m p (((([] : List Vt) ++ (b.take 250)) ++ (a.take 250)) ++ (b.take 250)) ((outV m p (a.take 250) s)[k]'hl35) A11 c12 w (by first | assumption | exact w64_and _ _ | exact w64_or _ _ | exact w64_andNot _ _ | (unfold W64; omega)) (fun u hu => by simp only [List.mem_append, List.not_mem_nil, false_or, or_assoc] at hu; rcases hu with hu | hu | hu <;> first | exact (hok u (List.mem_of_mem_take hu)).support | exact (hok2 u (List.mem_of_mem_take hu)).support) (by first | omega | (simp only [List.length_append, List.length_nil]; omega) | (have := accV_len m p ([]); simp only [List.length_append, List.length_nil] at *; omega)) (Arr.rd ((show Arr (St _ (Hr32 ++ (Hr21 ++ (Hr17 ++ (Hr13 ++ [(b1, Obj.cells (p).cs 24 (0, 0))]))))) A11 (((([] : List Vt) ++ (b.take 250)) ++ (a.take 250)) ++ (b.take 250)) from (Arr.row hrow14 (rfl) (rfl) (Hr32 ++ (Hr21 ++ (Hr17 ++ [(b1, Obj.cells (p).cs 24 (0, 0))])))).weak (fun w h => h.perm (((((((List.Perm.refl _).append_left Hr17).trans (List.perm_append_comm_assoc _ _ _)).append_left Hr21).trans (List.perm_append_comm_assoc _ _ _)).append_left Hr32).trans (List.perm_append_comm_assoc _ _ _))))) hw)) (fun w h => h) ?_
      refine T.pure 68 (.bool (!(decB m p (((([] : List Vt) ++ (b.take 250)) ++ (a.take 250)) ++ (b.take 250)) ((outV m p (a.take 250) s)[k]'hl35)))) (by kernel_rfl) (fun w => by kernel_rfl) ?_
      refine T.pure 69 (.bool (!(decB m p (((([] : List Vt) ++ (b.take 250)) ++ (a.take 250)) ++ (b.take 250)) ((outV m p (a.take 250) s)[k]'hl35)))) (by kernel_rfl) (fun w => by kernel_rfl) ?_
      refine T.blk [(10, true), (11, true), (12, true), (13, true), (14, true), (15, true), (16, true)] [(17, true)] 9 false (!(decB m p (((([] : List Vt) ++ (b.take 250)) ++ (a.take 250)) ++ (b.take 250)) ((outV m p (a.take 250) s)[k]'hl35))) 69 76 (.bool (((((outV m p (a.take 250) s)[k]'hl35)).slot) != s)) (by kernel_rfl) (by kernel_rfl) (by kernel_rfl) (fun hg40 => ?_) ?_
      · have hg40_ := hg40
        have hg40n := not_eq_false hg40
        refine T.pure 70 (.slice A30 ((outV m p (a.take 250) s).length) c31) (by kernel_rfl) (fun w => by kernel_rfl) ?_
        refine T.pure 71 (.int .i64 ((k : Int))) (by kernel_rfl) (fun w => by kernel_rfl) ?_
        obtain ⟨b41, o42, hA43, hr44⟩ := (Arr.row hrow33 (rfl) (rfl) _) k hl35
        refine T.index 72 70 75 11 A30 ((outV m p (a.take 250) s).length) c31 ((k : Int)) (k) b41 o42 (by kernel_rfl) (by kernel_rfl) (by kernel_rfl) (by kernel_rfl) hA43 (rfl) (by omega) ?_
        refine T.pure 73 (.pointer (some ⟨b41, o42 + k * 11, none⟩)) (by kernel_rfl) (fun w => by kernel_rfl) ?_
        refine T.load true 74 (.int .i64 ((((outV m p (a.take 250) s)[k]'hl35)).slot)) 3 b41 (o42 + k * 11) (by kernel_rfl) (by kernel_rfl) (by kernel_rfl) (fun w h => cell_of_range (hr44 w h) 0 (by kernel_rfl)) ?_
        refine T.pure 75 (.int .i64 (s)) (by kernel_rfl) (fun w => by kernel_rfl) ?_
        refine T.pure 76 (.bool (((((outV m p (a.take 250) s)[k]'hl35)).slot) != s)) (by kernel_rfl) (fun w => by kernel_rfl) ?_
        exact T.blkEnd (by kernel_rfl) (fun w h => h)
      refine T.or 77 (!(decB m p (((([] : List Vt) ++ (b.take 250)) ++ (a.take 250)) ++ (b.take 250)) ((outV m p (a.take 250) s)[k]'hl35))) (((((outV m p (a.take 250) s)[k]'hl35)).slot) != s) (by kernel_rfl) (by kernel_rfl) ?_
      refine T.nil ?_
      refine QN.seq ?_
      refine W.cond ((!(decB m p (((([] : List Vt) ++ (b.take 250)) ++ (a.take 250)) ++ (b.take 250)) ((outV m p (a.take 250) s)[k]'hl35))) || (((((outV m p (a.take 250) s)[k]'hl35)).slot) != s)) (by kernel_rfl) (fun h45 => ?_) (fun h45 => ?_)
      · skip
        refine W.seq ?_
        refine W.region [(0, false)] (by kernel_rfl) ?_
        refine T.pure 10 (.bool (false)) (by kernel_rfl) (fun w => by kernel_rfl) ?_
        refine T.nil ?_
        refine QN.seq ?_
        refine W.ret ?_
        refine QN.blkRet ?_
        refine QN.thenRet ?_
        refine QN.thenRet ?_
        refine QN.blkRet ?_
        refine QN.thenRet ?_
        refine QN.done (.inl rfl) 10 (.bool (false)) rfl (by kernel_rfl) (fun w hw => ⟨?_, hw.below⟩)
        exact (grow2 (by intro u hu; simp [hu]) h45).elim
      · skip
        have h45l := (Bool.or_eq_false_iff.1 h45).1
        have h45r := (Bool.or_eq_false_iff.1 h45).2
        have h45ln := not_eq_false h45l
        refine W.skip ?_
        refine QN.blkNormal ?_
        refine QN.seq ?_
        refine W.region [(0, false), (1, false), (2, false)] (by kernel_rfl) ?_
        refine T.pure 58 (.int .i64 ((k : Int))) (by kernel_rfl) (fun w => by kernel_rfl) ?_
        refine T.pureE 59 (.int .i64 (IntKind.i64.wrap ((k : Int) + 1))) (.int .i64 ((k : Int) + 1)) (by kernel_rfl) (fun w => by kernel_rfl) (wrap_int (by omega) (by omega)) ?_
        refine T.pure 16 (.int .i64 ((k : Int) + 1)) (by kernel_rfl) (fun w => by kernel_rfl) ?_
        refine T.nil ?_
        refine QN.back (k + 1) ?_ ?_ (by kernel_rfl) (fun w h => h)
        · show (k + 1) ≤ (outV m p (a.take 250) s).length
          omega
        · show (outV m p (a.take 250) s).length - (k + 1) < (outV m p (a.take 250) s).length - k; omega
    · skip
      have h34' := of_decide_eq_false h34
      refine W.exit ?_
      refine QN.thenExit ?_
      refine QN.thenExit ?_
      refine QN.blkHit ?_
      refine QN.seq ?_
      refine W.seq ?_
      refine W.drawn (Ψ := St w (Hr32 ++ (Hr21 ++ (Hr17 ++ (Hr13 ++ [(b1, Obj.cells (p).cs 24 (0, 0))]))))) (St w (Hr32 ++ (Hr21 ++ (Hr17 ++ (Hr13 ++ [(b1, Obj.cells (p).cs 24 (0, 0))]))))) [(0, true), (1, true), (3, true), (5, true), (8, true), (2, false), (4, false), (6, false), (7, false), (9, false), (10, true), (11, false), (12, true), (13, false)] hmx (by kernel_rfl) (NoPanic.then (NoPanic.body)) (fun w h => h.drew) (fun w h => h) ?_
      refine T.pure 78 (.int .i64 (m)) (by kernel_rfl) (fun w => by kernel_rfl) ?_
      refine T.loadR true 79 (p).cs 24 b1 0 (by kernel_rfl) (by kernel_rfl) (by kernel_rfl) (by kernel_rfl) (fun w h => St.rangeM h (p).cs (List.mem_append_right _ (List.mem_append_right _ (List.mem_append_right _ (List.mem_append_right _ (.head _))))) (by kernel_rfl)) ?_
      refine T.pure 81 (.slice A ((a.take 250).length) c) (by kernel_rfl) (fun w => by kernel_rfl) ?_
      refine T.pure 83 (.slice B ((b.take 250).length) d) (by kernel_rfl) (fun w => by kernel_rfl) ?_
      refine T.pure 86 (.slice A19 ((accV m p (((([] : List Vt) ++ (b.take 250)) ++ (a.take 250)) ++ (b.take 250))).length) c20) (by kernel_rfl) (fun w => by kernel_rfl) ?_
      refine T.lit0 80 27 26 (by kernel_rfl) (by kernel_rfl) (by kernel_rfl) (by kernel_rfl) (fun b46 => (fun w h => (h.perm ((((List.Perm.refl _).cons _).trans List.perm_middle.symm).trans (((((List.Perm.refl _).cons _).trans List.perm_middle.symm).trans (((((List.Perm.refl _).cons _).trans List.perm_middle.symm).trans (((((List.Perm.refl _).cons _).trans List.perm_middle.symm).trans ((((List.Perm.refl _).cons _).trans (List.Perm.swap _ _ _)).append_left Hr13)).append_left Hr17)).append_left Hr21)).append_left Hr32))).part (List.Sublist.append (List.Sublist.refl _) (List.Sublist.append (List.Sublist.refl _) (List.Sublist.append (List.Sublist.refl _) (List.Sublist.append (List.Sublist.refl _) ((List.nil_sublist _).cons_cons _))))))) (fun b46 => ?_)
      refine T.appD 82 27 26 64 (some ⟨b46, 0, none⟩) 0 ([] : List Vt) [(b46, Obj.cells #[] 26 (0, 0))] A c (a.take 250 : List Vt) (List.Perm.refl _) (by kernel_rfl) (by kernel_rfl) (by kernel_rfl) (by kernel_rfl) (RowIs.row b46 0 0 #[] [] (Nat.le_refl _) (Nat.zero_le _) rfl rfl rfl) ((Rd.arr hr _).take _) (by unfold maxLen; first | omega | (simp; omega)) (by first | omega | (simp; omega)) (fun Hr49 => (fun w h => (h.perm ((((List.Perm.refl _).append_left Hr49).trans (List.perm_append_comm_assoc _ _ _)).trans (((((List.Perm.refl _).append_left Hr49).trans (List.perm_append_comm_assoc _ _ _)).trans (((((List.Perm.refl _).append_left Hr49).trans (List.perm_append_comm_assoc _ _ _)).trans (((((List.Perm.refl _).append_left Hr49).trans (List.perm_append_comm_assoc _ _ _)).trans ((((List.Perm.refl _).append_left Hr49).trans List.perm_middle).append_left Hr13)).append_left Hr17)).append_left Hr21)).append_left Hr32))).part (List.Sublist.append (List.Sublist.refl _) (List.Sublist.append (List.Sublist.refl _) (List.Sublist.append (List.Sublist.refl _) (List.Sublist.append (List.Sublist.refl _) ((List.nil_sublist _).cons_cons _))))))) (fun A47 c48 Hr49 hrow50 => ?_)
      refine T.appD 84 27 26 64 A47 c48 (([] : List Vt) ++ (a.take 250) : List Vt) Hr49 B d (b.take 250 : List Vt) (List.Perm.refl _) (by kernel_rfl) (by kernel_rfl) (by kernel_rfl) (by kernel_rfl) hrow50 ((Rd.arr hrb _).take _) (by unfold maxLen; first | omega | (simp; omega)) (by first | omega | (simp; omega)) (fun Hr53 => (fun w h => (h.perm ((((List.Perm.refl _).append_left Hr53).trans (List.perm_append_comm_assoc _ _ _)).trans (((((List.Perm.refl _).append_left Hr53).trans (List.perm_append_comm_assoc _ _ _)).trans (((((List.Perm.refl _).append_left Hr53).trans (List.perm_append_comm_assoc _ _ _)).trans (((((List.Perm.refl _).append_left Hr53).trans (List.perm_append_comm_assoc _ _ _)).trans ((((List.Perm.refl _).append_left Hr53).trans List.perm_middle).append_left Hr13)).append_left Hr17)).append_left Hr21)).append_left Hr32))).part (List.Sublist.append (List.Sublist.refl _) (List.Sublist.append (List.Sublist.refl _) (List.Sublist.append (List.Sublist.refl _) (List.Sublist.append (List.Sublist.refl _) ((List.nil_sublist _).cons_cons _))))))) (fun A51 c52 Hr53 hrow54 => ?_)
      refine T.callR 85 34 #[.int .i64 (m), .agg (p).cs, .slice A51 (((([] : List Vt) ++ (a.take 250)) ++ (b.take 250)).length) c52] 26 22 (accV m p ((([] : List Vt) ++ (a.take 250)) ++ (b.take 250))).length (cells (accV m p ((([] : List Vt) ++ (a.take 250)) ++ (b.take 250)))) (by kernel_rfl) (by kernel_rfl) ent34 (fun w hw => accepted_c m p ((([] : List Vt) ++ (a.take 250)) ++ (b.take 250)) A51 c52 w (by first | assumption | exact w64_and _ _ | exact w64_or _ _ | exact w64_andNot _ _ | (unfold W64; omega)) (fun u hu => by simp only [List.mem_append, List.not_mem_nil, false_or] at hu; rcases hu with hu | hu <;> first | exact (hok u (List.mem_of_mem_take hu)).support | exact (hok2 u (List.mem_of_mem_take hu)).support) (by first | omega | (simp only [List.length_append, List.length_nil]; omega) | (have := accV_len m p ([]); simp only [List.length_append, List.length_nil] at *; omega)) (Arr.rd (Arr.row hrow54 (rfl) (rfl) _) hw)) (fun Hr57 => (fun w h => (h.perm ((((((List.Perm.refl _).append_left Hr53).trans (List.perm_append_comm_assoc _ _ _)).append_left Hr57).trans (List.perm_append_comm_assoc _ _ _)).trans (((((((List.Perm.refl _).append_left Hr53).trans (List.perm_append_comm_assoc _ _ _)).append_left Hr57).trans (List.perm_append_comm_assoc _ _ _)).trans (((((((List.Perm.refl _).append_left Hr53).trans (List.perm_append_comm_assoc _ _ _)).append_left Hr57).trans (List.perm_append_comm_assoc _ _ _)).trans (((((((List.Perm.refl _).append_left Hr53).trans (List.perm_append_comm_assoc _ _ _)).append_left Hr57).trans (List.perm_append_comm_assoc _ _ _)).trans ((((((List.Perm.refl _).append_left Hr53).trans List.perm_middle).append_left Hr57).trans List.perm_middle).append_left Hr13)).append_left Hr17)).append_left Hr21)).append_left Hr32))).part (List.Sublist.append (List.Sublist.refl _) (List.Sublist.append (List.Sublist.refl _) (List.Sublist.append (List.Sublist.refl _) (List.Sublist.append (List.Sublist.refl _) ((List.nil_sublist _).cons_cons _))))))) (fun A55 c56 Hr57 hrow58 => ?_)
      refine T.callP 87 37 #[.slice A55 ((accV m p ((([] : List Vt) ++ (a.take 250)) ++ (b.take 250))).length) c56, .slice A19 ((accV m p (((([] : List Vt) ++ (b.take 250)) ++ (a.take 250)) ++ (b.take 250))).length) c20] (.bool ((accV m p ((([] : List Vt) ++ (a.take 250)) ++ (b.take 250))) == (accV m p (((([] : List Vt) ++ (b.take 250)) ++ (a.take 250)) ++ (b.take 250))))) (by kernel_rfl) (by kernel_rfl) ent37 (fun w hw => same12_c (accV m p ((([] : List Vt) ++ (a.take 250)) ++ (b.take 250))) (accV m p (((([] : List Vt) ++ (b.take 250)) ++ (a.take 250)) ++ (b.take 250))) A55 c56 A19 c20 w (by first | omega | (simp only [List.length_append, List.length_nil]; omega) | (have := accV_len m p (((([] : List Vt) ++ (a.take 250)) ++ (b.take 250))); simp only [List.length_append, List.length_nil] at *; omega)) (by first | omega | (simp only [List.length_append, List.length_nil]; omega) | (have := accV_len m p ((((([] : List Vt) ++ (b.take 250)) ++ (a.take 250)) ++ (b.take 250))); simp only [List.length_append, List.length_nil] at *; omega)) (Arr.rd (Arr.row hrow58 (rfl) (rfl) _) hw) (Arr.rd ((show Arr (St _ (Hr57 ++ (Hr53 ++ (Hr32 ++ (Hr21 ++ (Hr17 ++ (Hr13 ++ [(b1, Obj.cells (p).cs 24 (0, 0))]))))))) A19 (accV m p (((([] : List Vt) ++ (b.take 250)) ++ (a.take 250)) ++ (b.take 250))) from (Arr.row hrow22 (rfl) (rfl) (Hr57 ++ (Hr53 ++ (Hr32 ++ (Hr17 ++ (Hr13 ++ [(b1, Obj.cells (p).cs 24 (0, 0))])))))).weak (fun w h => h.perm (((((((List.Perm.refl _).append_left Hr32).trans (List.perm_append_comm_assoc _ _ _)).append_left Hr53).trans (List.perm_append_comm_assoc _ _ _)).append_left Hr57).trans (List.perm_append_comm_assoc _ _ _))))) hw)) (fun w h => (h.perm ((((((List.Perm.refl _).append_left Hr53).trans (List.perm_append_comm_assoc _ _ _)).append_left Hr57).trans (List.perm_append_comm_assoc _ _ _)).trans (((((((List.Perm.refl _).append_left Hr53).trans (List.perm_append_comm_assoc _ _ _)).append_left Hr57).trans (List.perm_append_comm_assoc _ _ _)).trans (((((((List.Perm.refl _).append_left Hr53).trans (List.perm_append_comm_assoc _ _ _)).append_left Hr57).trans (List.perm_append_comm_assoc _ _ _)).trans (((((((List.Perm.refl _).append_left Hr53).trans (List.perm_append_comm_assoc _ _ _)).append_left Hr57).trans (List.perm_append_comm_assoc _ _ _)).trans ((((((List.Perm.refl _).append_left Hr53).trans List.perm_middle).append_left Hr57).trans List.perm_middle).append_left Hr13)).append_left Hr17)).append_left Hr21)).append_left Hr32))).part (List.Sublist.append (List.Sublist.refl _) (List.Sublist.append (List.Sublist.refl _) (List.Sublist.append (List.Sublist.refl _) (List.Sublist.append (List.Sublist.refl _) ((List.nil_sublist _).cons_cons _)))))) ?_
      refine T.pure 88 (.bool ((accV m p ((([] : List Vt) ++ (a.take 250)) ++ (b.take 250))) == (accV m p (((([] : List Vt) ++ (b.take 250)) ++ (a.take 250)) ++ (b.take 250))))) (by kernel_rfl) (fun w => by kernel_rfl) ?_
      refine T.blk [(11, false)] [(12, true), (13, false)] 10 true ((accV m p ((([] : List Vt) ++ (a.take 250)) ++ (b.take 250))) == (accV m p (((([] : List Vt) ++ (b.take 250)) ++ (a.take 250)) ++ (b.take 250)))) 88 89 (.bool (true)) (by kernel_rfl) (by kernel_rfl) (by kernel_rfl) (fun hg59 => ?_) ?_
      · have hg59_ := hg59
        refine T.callP 89 38 #[] (.bool (true)) (by kernel_rfl) (by kernel_rfl) ent38 (fun w hw => awake_c w) (fun w h => (h.perm ((((((List.Perm.refl _).append_left Hr53).trans (List.perm_append_comm_assoc _ _ _)).append_left Hr57).trans (List.perm_append_comm_assoc _ _ _)).trans (((((((List.Perm.refl _).append_left Hr53).trans (List.perm_append_comm_assoc _ _ _)).append_left Hr57).trans (List.perm_append_comm_assoc _ _ _)).trans (((((((List.Perm.refl _).append_left Hr53).trans (List.perm_append_comm_assoc _ _ _)).append_left Hr57).trans (List.perm_append_comm_assoc _ _ _)).trans (((((((List.Perm.refl _).append_left Hr53).trans (List.perm_append_comm_assoc _ _ _)).append_left Hr57).trans (List.perm_append_comm_assoc _ _ _)).trans ((((((List.Perm.refl _).append_left Hr53).trans List.perm_middle).append_left Hr57).trans List.perm_middle).append_left Hr13)).append_left Hr17)).append_left Hr21)).append_left Hr32))).part (List.Sublist.append (List.Sublist.refl _) (List.Sublist.append (List.Sublist.refl _) (List.Sublist.append (List.Sublist.refl _) (List.Sublist.append (List.Sublist.refl _) ((List.nil_sublist _).cons_cons _)))))) ?_
        exact T.blkEnd (by kernel_rfl) (fun w h => h)
      refine T.and 90 ((accV m p ((([] : List Vt) ++ (a.take 250)) ++ (b.take 250))) == (accV m p (((([] : List Vt) ++ (b.take 250)) ++ (a.take 250)) ++ (b.take 250)))) (true) (by kernel_rfl) (by kernel_rfl) ?_
      refine T.pure 10 (.bool (((accV m p ((([] : List Vt) ++ (a.take 250)) ++ (b.take 250))) == (accV m p (((([] : List Vt) ++ (b.take 250)) ++ (a.take 250)) ++ (b.take 250)))) && true)) (by kernel_rfl) (fun w => by kernel_rfl) ?_
      refine T.nil ?_
      refine QN.seq ?_
      refine W.ret ?_
      refine QN.done (.inl rfl) 10 (.bool (((accV m p ((([] : List Vt) ++ (a.take 250)) ++ (b.take 250))) == (accV m p (((([] : List Vt) ++ (b.take 250)) ++ (a.take 250)) ++ (b.take 250)))) && true)) rfl (by kernel_rfl) (fun w hw => ⟨?_, hw.below⟩)
      exact ret_bool (by rw [grow3 (l' := ((([] : List Vt) ++ (b.take 250)) ++ (a.take 250)) ++ (b.take 250)) (by intro u; simp only [List.mem_append, List.not_mem_nil, false_or]; constructor <;> (intro h; rcases h with h | h <;> first | (rcases h with h | h <;> simp [h]) | simp [h]))]; simp)
theorem AcceptGrows_w (w : World) (a0 : Int) (v1 : Value) (x1 : Nm) (v2 : Value) (x2 : List Vt) (v3 : Value) (x3 : List Vt) (a4 : Int) (h0 : W64 a0) (h1 : v1 = .agg x1.cs) (h2 : VS w v2 x2) (h3 : VS w v3 x3) (h4 : W64 a4) : Calls Try.prog 13 #[.int .i64 a0, v1, v2, v3, .int .i64 a4] w fun e w' => e = .returned (.bool true) ∧ Below w.heap.size w w' := by
  obtain rfl := h1
  obtain ⟨A2, c2, rfl, l2, m2, r2, k2⟩ := h2
  obtain ⟨A3, c3, rfl, l3, m3, r3, k3⟩ := h3
  exact AcceptGrows_c _ _ _ _ _ _ _ _ _ w h0 k2 k3 l2 m2 r2.rd l3 m3 r3.rd
end Go.Proofs.Ythhgdkodhokefaa
