/- Law 13: its helpers. -/
import Derived.Test.YtphnfhonmbbddaaGreatCe2
import Derived.Test.YtphnfhonmbbddaaGreatGJ
import Derived.Test.YtphnfhonmbbddaaGreatOpenO
namespace Go.Proofs.YtphnfhonmbbddaaGreat
open Go Go.RowKit
set_option linter.unusedVariables false

theorem take_bk13 {a b : List Vt} {j : Nat} (ha : j < a.length) (hb : j < b.length) (h : a.take j = b.take j) (he : a[j] = b[j]) : a.take (j + 1) = b.take (j + 1) := by
  rw [List.take_succ_eq_append_getElem ha, List.take_succ_eq_append_getElem hb, h, he]
theorem same_ne13 {a b : List Vt} (h : ((a.length : Int) != (b.length : Int)) = true) : false = (a == b) := by
  have e : ¬ a = b := fun e => by subst e; simp at h
  simpa using e
theorem same_el13 {a b : List Vt} {j : Nat} {ha : j < a.length} {hb : j < b.length} (h : (a[j] != b[j]) = true) : false = (a == b) := by
  have e : ¬ a = b := fun e => by subst e; simp at h
  simpa using e
theorem same_len13 {a b : List Vt} (h : ((a.length : Int) != (b.length : Int)) = false) : a.length = b.length := by
  simp only [bne_eq_false_iff_eq] at h; omega
theorem Arr.lit {α : Type} [Cel α] {l : List α} {b : Nat} {ty : TypeId} {w0 : World} {H : List (Nat × Obj)} (hm : (b, .cells (cells l).toArray ty (0, 0)) ∈ H) : Arr (St w0 H) (some ⟨b, 0, none⟩) l := fun j hj => ⟨b, 0, rfl, fun w hw t u hu => by
  have ht : t < Cel.sz α := by rw [← Cel.size l[j]]; simpa using (List.getElem?_eq_some_iff.1 hu).1
  refine hw.cellM (off := 0 + j * Cel.sz α + t) hm ?_
  rw [List.getElem?_toArray, Nat.zero_add, cells_get l j t hj ht]
  simpa using hu⟩
abbrev awA : Vt := (⟨3, 0, 1, 0, 0, 0, Nm.zero, Nm.zero⟩ : Vt)
abbrev awB : Vt := (⟨4, 0, 1, 0, 0, 1, Nm.zero, Nm.zero⟩ : Vt)
abbrev awO : Oc := (⟨0, 1, 0, Nm.zero⟩ : Oc)
theorem aw_cl : clV 1 Nm.zero [(⟨3, 0, 1, 0, 0, 0, Nm.zero, Nm.zero⟩ : Vt), (⟨4, 0, 1, 0, 0, 1, Nm.zero, Nm.zero⟩ : Vt)] (⟨0, 1, 0, Nm.zero⟩ : Oc) = [(⟨3, 0, 1, 0, 0, 0, Nm.zero, Nm.zero⟩ : Vt), (⟨4, 0, 1, 0, 0, 1, Nm.zero, Nm.zero⟩ : Vt)] := by
  have h1 : decB 1 Nm.zero [awA, awB] awO = true := by decide +kernel
  have h2 : slV 1 Nm.zero [awA, awB] 0 = [awA, awB] := by decide +kernel
  have h3 : staL 1 [awA, awB] awO = [awB] := by decide +kernel
  have h4 : needL 1 [awA, awB] awB = [awA] := by decide +kernel
  have hb : Clo (needL 1 [awA, awB]) (staL 1 [awA, awB] awO) awB := .start (by rw [h3]; simp)
  have ha : Clo (needL 1 [awA, awB]) (staL 1 [awA, awB] awO) awA := .step hb (by rw [h4]; simp)
  have h5 : cloL 1 [awA, awB] awO = [awA, awB] := by
    have hs : ∀ v ∈ [awA, awB], v ∈ cloL 1 [awA, awB] awO := fun v hv => by
      simp only [List.mem_cons, List.not_mem_nil, or_false] at hv
      rcases hv with rfl | rfl
      · exact clo_mem.2 ha
      · exact clo_mem.2 hb
    unfold cloL at hs ⊢
    rw [List.filter_eq_self]
    intro v hv
    exact (List.mem_filter.1 (hs v hv)).2
  show clV 1 Nm.zero [awA, awB] awO = [awA, awB]
  unfold clV
  rw [h1, cond_true, h2]; exact h5
theorem aw_okl : ∀ u ∈ [(⟨3, 0, 1, 0, 0, 0, Nm.zero, Nm.zero⟩ : Vt), (⟨4, 0, 1, 0, 0, 1, Nm.zero, Nm.zero⟩ : Vt)], W64 u.support := by
  intro u hu
  simp only [List.mem_cons, List.not_mem_nil, or_false] at hu
  rcases hu with rfl | rfl <;> (unfold W64; decide)
theorem aw_ok : ∀ u ∈ clV 1 Nm.zero [(⟨3, 0, 1, 0, 0, 0, Nm.zero, Nm.zero⟩ : Vt), (⟨4, 0, 1, 0, 0, 1, Nm.zero, Nm.zero⟩ : Vt)] (⟨0, 1, 0, Nm.zero⟩ : Oc), W64 u.support := by
  rw [aw_cl]; exact aw_okl
set_option maxRecDepth 100000 in
set_option maxHeartbeats 2000000 in
theorem same13_c (a b : List Vt) (A : Option Addr) (c : Nat) (A2 : Option Addr) (c2 : Nat) (w : World) (hl : a.length ≤ 1000) (hl2 : b.length ≤ 1000) (hr : Rd w A a) (hr2 : Rd w A2 b) : Calls Tryz.prog 8 #[.slice A a.length c, .slice A2 b.length c2] w (fun rr w' => rr = .returned (.bool (a == b)) ∧ Below w.heap.size w w') := by
 refine calls_W (n := 26) Tryz.func8 rfl [(0, .slice A a.length c), (1, .slice A2 b.length c2)] rfl ⟨by kernel_rfl, by kernel_rfl⟩ (W.weak (Ψ := St w []) (fun w' h => by rw [h]; exact St.start w) (W.seq (W.rg od1 (T.pb 4 false (T.nil (QN.seq (W.seq (W.seq (W.rg od5 (T.pu 6 (.slice A a.length c) (T.pi 7 ((a.length : Nat) : Int) (T.pu 8 (.slice A2 b.length c2) (T.pi 9 ((b.length : Nat) : Int) (T.pb 10 (((a.length : Nat) : Int) != ((b.length : Nat) : Int)) (T.nil (QN.seq (W.cd (((a.length : Nat) : Int) != ((b.length : Nat) : Int)) (fun h1 => ?_) (fun h1 => ?_))))))))))))))))))
 ·
  refine W.seq (W.rg od1 (T.pb 4 false (T.nil (QN.seq (W.ret (QN.thenRet (QN.done (.inl rfl) 4 (.bool false) rfl (by kernel_rfl) (fun w hw => ⟨?_, hw.below⟩))))))))
  exact ret_bool (same_ne13 h1)
 ·
  refine W.skip (QN.seq (W.seq (W.seq (W.rg od1 (T.pi 5 0 (T.nil (QN.seq (W.block ?_))))))))
  have hab := same_len13 h1
  refine W.loop (σ := Nat) (fun gs => gs ≤ a.length ∧ a.take gs = b.take gs) (fun gs => [(0, .slice A a.length c), (1, .slice A2 b.length c2), (5, .int .i64 gs)]) (fun gs => St w []) (fun gs => a.length - gs) 0 ?_ (by kernel_rfl) (fun w h => h) ?_
  ·
   try dsimp only
   exact ⟨Nat.zero_le _, rfl⟩
  rintro j hI_
  obtain ⟨hj, htk⟩ : j ≤ a.length ∧ a.take j = b.take j := hI_
  refine W.seq (W.seq (W.rg od4 (T.pi 11 j (T.pu 12 (.slice A a.length c) (T.pi 13 ((a.length : Nat) : Int) (T.pb 14 (decide ((j : Int) < ((a.length : Nat) : Int))) (T.nil (QN.seq (W.cd (decide ((j : Int) < ((a.length : Nat) : Int))) (fun h2 => ?_) (fun h2 => ?_))))))))))
  ·
   have h2' := of_decide_eq_true h2
   have hl3 : j < a.length := by omega
   refine W.skip (QN.seq (W.seq (W.block (W.seq (W.drawn (Ψ := St w []) (St w []) [(0, true), (1, true), (2, true), (3, true), (4, true), (5, true), (6, true), (7, true), (8, true)] hmx (by kernel_rfl) (NoPanic.then (NoPanic.inBlock (NoPanic.then (NoPanic.then (NoPanic.inBlock (NoPanic.then NoPanic.body)))))) (fun w h => h.drew) (fun w h => h) (T.pu 17 (.slice A a.length c) (T.pi 18 j ?_)))))))
   obtain ⟨b4, o5, hA6, hr7⟩ := (Rd.arr hr _) j hl3
   refine T.ix 19 25 43 22 A a.length c (j : Int) j b4 o5 hA6 rfl (by omega) (T.lr true 20 (a[j]'hl3).cs 43 b4 (o5 + j * 22) hr7 (T.pu 21 (.slice A2 b.length c2) (T.pi 22 j ?_)))
   have hl12 : j < b.length := by omega
   obtain ⟨b8, o9, hA10, hr11⟩ := (Rd.arr hr2 _) j hl12
   refine T.ix 23 25 43 22 A2 b.length c2 (j : Int) j b8 o9 hA10 rfl (by omega) (T.lr true 24 (b[j]'hl12).cs 43 b8 (o9 + j * 22) hr11 (T.eqq 25 ((a[j]'hl3) != (b[j]'hl12)) ((a[j]'hl3) == (b[j]'hl12)) true 43 (a[j]'hl3).cs (b[j]'hl12).cs (by kernel_rfl) (by kernel_rfl) (by kernel_rfl) (by kernel_rfl) (fun w => eq_vt w (a[j]'hl3) (b[j]'hl12)) (T.nil (QN.seq (W.cd ((a[j]'hl3) != (b[j]'hl12)) (fun h13 => ?_) (fun h13 => ?_))))))
   ·
    refine W.seq (W.rg od1 (T.pb 4 false (T.nil (QN.seq (W.ret (QN.blkRet (QN.thenRet (QN.thenRet (QN.blkRet (QN.thenRet (QN.done (.inl rfl) 4 (.bool false) rfl (by kernel_rfl) (fun w hw => ⟨?_, hw.below⟩))))))))))))
    exact ret_bool (same_el13 h13)
   ·
    refine W.skip (QN.blkNormal (QN.seq (W.rg od3 (T.pi 15 j (T.pw 16 ((j : Int) + 1) (T.pi 5 ((j : Int) + 1) (T.nil (QN.back (j + 1) ?_ ?_ (by kernel_rfl) (fun w h => h)))))))))
    ·
     try dsimp only
     exact ⟨by omega, take_bk13 (by omega) (by omega) htk (by simpa using h13)⟩
    · show a.length - (j + 1) < a.length - j; omega
  ·
   have h2' := of_decide_eq_false h2
   refine W.exit (QN.thenExit (QN.thenExit (QN.blkHit (QN.seq (W.seq (W.rg od1 (T.pb 4 true (T.nil (QN.seq (W.ret (QN.done (.inl rfl) 4 (.bool true) rfl (by kernel_rfl) (fun w hw => ⟨?_, hw.below⟩))))))))))))
   exact ret_bool (by have e1 : a = b := (by rw [List.take_of_length_le (by omega), List.take_of_length_le (by omega)] at htk; exact htk); simp [e1])
theorem take_allcut13_c {α : Type} {l : List α} (h : ¬ (250 : Int) < (l.length : Int)) : (l.take 250).length = l.length := by simp; omega
set_option maxRecDepth 100000 in
set_option maxHeartbeats 2000000 in
theorem cut13_c (l : List Vt) (A : Option Addr) (c : Nat) (w : World) (h1 : l.length ≤ c) (h2 : c ≤ maxLen) (hr : Rd w A l) : Calls Tryz.prog 5 #[.slice A l.length c] w (fun rr w' => rr = .returned (.slice A ((l.take 250).length) c) ∧ Below w.heap.size w w') := by
 refine calls_W (n := 9) Tryz.func5 rfl [(0, .slice A l.length c)] rfl ⟨by kernel_rfl, by kernel_rfl⟩ (W.weak (Ψ := St w []) (fun w' h => by rw [h]; exact St.start w) (W.seq (W.rg od1 (T.pu 2 (.slice none 0 0) (T.nil (QN.seq (W.seq (W.seq (W.rg od3 (T.pu 3 (.slice A l.length c) (T.pi 4 ((l.length : Nat) : Int) (T.pb 5 (decide (250 < ((l.length : Nat) : Int))) (T.nil (QN.seq (W.cd (decide (250 < ((l.length : Nat) : Int))) (fun h1 => ?_) (fun h1 => ?_))))))))))))))))
 ·
  have h1' := of_decide_eq_true h1
  refine W.seq (W.rg od3 (T.pu 6 (.slice A l.length c) ?_))
  have hsl2 : (l.take 250).length = 250 := by first | (simp; done) | (simp; omega)
  refine T.sliceTo 7 25 43 A l.length c 250 ((l.take 250).length) (by kernel_rfl) (by kernel_rfl) (by kernel_rfl) (by kernel_rfl) (by omega) (by omega) (T.pu 2 (.slice A ((l.take 250).length) c) (T.nil (QN.seq (W.ret (QN.thenRet (QN.done (.inl rfl) 2 (.slice A ((l.take 250).length) c) rfl (by kernel_rfl) (fun w hw => ⟨?_, hw.below⟩)))))))
  exact rfl
 ·
  have h1' := of_decide_eq_false h1
  refine W.skip (QN.seq (W.seq (W.rg od2 (T.pu 8 (.slice A l.length c) (T.pu 2 (.slice A l.length c) (T.nil (QN.seq (W.ret (QN.done (.inl rfl) 2 (.slice A l.length c) rfl (by kernel_rfl) (fun w hw => ⟨?_, hw.below⟩))))))))))
  exact congrArg (fun n => Ending.returned (.slice A n c)) (take_allcut13_c (by omega)).symm
set_option maxRecDepth 100000 in
set_option maxHeartbeats 2000000 in
theorem awake13_c (w : World) : Calls Tryz.prog 11 #[] w (fun rr w' => rr = .returned (.bool true) ∧ Below w.heap.size w w') := by
 refine calls_W (n := 38) Tryz.func11 rfl [] rfl ⟨by kernel_rfl, by kernel_rfl⟩ (W.weak (Ψ := St w []) (fun w' h => by rw [h]; exact St.start w) (W.seq (W.rg od1 (T.pb 0 false (T.nil (QN.seq (W.seq (W.rg od3 (T.pu 6 (.agg (⟨3, 0, 1, 0, 0, 0, Nm.zero, Nm.zero⟩ : Vt).cs) (T.al 1 43 Vt.zero.cs tv3 (fun b1 => T.sp 43 b1 0 (.agg (⟨3, 0, 1, 0, 0, 0, Nm.zero, Nm.zero⟩ : Vt).cs) Vt.zero.cs (⟨3, 0, 1, 0, 0, 0, Nm.zero, Nm.zero⟩ : Vt).cs 43 pm0 tv2 (T.nil (QN.seq (W.seq (W.rg od3 (T.pu 7 (.agg (⟨4, 0, 1, 0, 0, 1, Nm.zero, Nm.zero⟩ : Vt).cs) (T.al 2 43 Vt.zero.cs tv3 (fun b2 => T.sp 43 b2 0 (.agg (⟨4, 0, 1, 0, 0, 1, Nm.zero, Nm.zero⟩ : Vt).cs) Vt.zero.cs (⟨4, 0, 1, 0, 0, 1, Nm.zero, Nm.zero⟩ : Vt).cs 43 pm0 tv2 (T.nil (QN.seq (W.seq (W.rg od3 (T.pu 8 (.agg (⟨0, 1, 0, Nm.zero⟩ : Oc).cs) (T.al 3 27 Oc.zero.cs tv3 (fun b3 => T.sp 27 b3 0 (.agg (⟨0, 1, 0, Nm.zero⟩ : Oc).cs) Oc.zero.cs (⟨0, 1, 0, Nm.zero⟩ : Oc).cs 27 pm0 tv2 (T.nil (QN.seq (W.seq (W.rg od11 (T.pu 10 (.agg Nm.zero.cs) (T.lr false 11 (⟨3, 0, 1, 0, 0, 0, Nm.zero, Nm.zero⟩ : Vt).cs 43 b1 0 (fun w h => St.rangeM h (⟨3, 0, 1, 0, 0, 0, Nm.zero, Nm.zero⟩ : Vt).cs mm2 (by kernel_rfl)) (T.lr false 12 (⟨4, 0, 1, 0, 0, 1, Nm.zero, Nm.zero⟩ : Vt).cs 43 b2 0 (fun w h => St.rangeM h (⟨4, 0, 1, 0, 0, 1, Nm.zero, Nm.zero⟩ : Vt).cs mm1 (by kernel_rfl)) (T.lit 13 25 43 2 #[(0, .agg (⟨3, 0, 1, 0, 0, 0, Nm.zero, Nm.zero⟩ : Vt).cs), (1, .agg (⟨4, 0, 1, 0, 0, 1, Nm.zero, Nm.zero⟩ : Vt).cs)] (cells ([(⟨3, 0, 1, 0, 0, 0, Nm.zero, Nm.zero⟩ : Vt), (⟨4, 0, 1, 0, 0, 1, Nm.zero, Nm.zero⟩ : Vt)] : List Vt)).toArray (by kernel_rfl) (by kernel_rfl) (by kernel_rfl) (by kernel_rfl) tv3 (fun b4 => T.lr false 14 (⟨0, 1, 0, Nm.zero⟩ : Oc).cs 27 b3 0 (fun w h => St.rangeM h (⟨0, 1, 0, Nm.zero⟩ : Oc).cs mm1 (by kernel_rfl)) (T.callG (β := Option Addr × Nat × List (Nat × Obj)) 15 6 #[.int .i64 1, .agg Nm.zero.cs, .slice (some ⟨b4, 0, none⟩) 2 2, .agg (⟨0, 1, 0, Nm.zero⟩ : Oc).cs] (fun gs => .tuple #[.slice gs.1 ((clV 1 Nm.zero ([(⟨3, 0, 1, 0, 0, 0, Nm.zero, Nm.zero⟩ : Vt), (⟨4, 0, 1, 0, 0, 1, Nm.zero, Nm.zero⟩ : Vt)]) (⟨0, 1, 0, Nm.zero⟩ : Oc)).length) gs.2.1, .bool (decB 1 Nm.zero ([(⟨3, 0, 1, 0, 0, 0, Nm.zero, Nm.zero⟩ : Vt), (⟨4, 0, 1, 0, 0, 1, Nm.zero, Nm.zero⟩ : Vt)]) (⟨0, 1, 0, Nm.zero⟩ : Oc))]) (fun gs => St w (gs.2.2 ++ [(b4, Obj.cells (cells ([(⟨3, 0, 1, 0, 0, 0, Nm.zero, Nm.zero⟩ : Vt), (⟨4, 0, 1, 0, 0, 1, Nm.zero, Nm.zero⟩ : Vt)] : List Vt)).toArray 43 (0, 0)), (b3, Obj.cells (⟨0, 1, 0, Nm.zero⟩ : Oc).cs 27 (0, 0)), (b2, Obj.cells (⟨4, 0, 1, 0, 0, 1, Nm.zero, Nm.zero⟩ : Vt).cs 43 (0, 0)), (b1, Obj.cells (⟨3, 0, 1, 0, 0, 0, Nm.zero, Nm.zero⟩ : Vt).cs 43 (0, 0))])) (fun gs => RowIs 43 22 gs.1 (clV 1 Nm.zero ([(⟨3, 0, 1, 0, 0, 0, Nm.zero, Nm.zero⟩ : Vt), (⟨4, 0, 1, 0, 0, 1, Nm.zero, Nm.zero⟩ : Vt)]) (⟨0, 1, 0, Nm.zero⟩ : Oc)).length gs.2.1 (cells (clV 1 Nm.zero ([(⟨3, 0, 1, 0, 0, 0, Nm.zero, Nm.zero⟩ : Vt), (⟨4, 0, 1, 0, 0, 1, Nm.zero, Nm.zero⟩ : Vt)]) (⟨0, 1, 0, Nm.zero⟩ : Oc))) gs.2.2) (by kernel_rfl) (by kernel_rfl) ent6 ?_ tv3 ?_)))))))))))))))))))))))))))))))))))
 · exact fun w hw => (closure_c 1 Nm.zero ([(⟨3, 0, 1, 0, 0, 0, Nm.zero, Nm.zero⟩ : Vt), (⟨4, 0, 1, 0, 0, 1, Nm.zero, Nm.zero⟩ : Vt)]) (⟨0, 1, 0, Nm.zero⟩ : Oc) (some ⟨b4, 0, none⟩) 2 w (by first | assumption | exact w64_and _ _ | exact w64_or _ _ | exact w64_andNot _ _ | (unfold W64; omega)) aw_okl (by first | omega | (simp; done) | (simp; omega)) (Arr.rd (Arr.lit mm0) hw)).mono fun r w' ⟨A, c, Hr, h1, h2, h3⟩ => ⟨(A, c, Hr), h2, h1, hw.join h3⟩
 rintro ⟨A5, c6, Hr7⟩ hp_
 have hp8 : RowIs 43 22 A5 (clV 1 Nm.zero ([(⟨3, 0, 1, 0, 0, 0, Nm.zero, Nm.zero⟩ : Vt), (⟨4, 0, 1, 0, 0, 1, Nm.zero, Nm.zero⟩ : Vt)]) (⟨0, 1, 0, Nm.zero⟩ : Oc)).length c6 (cells (clV 1 Nm.zero ([(⟨3, 0, 1, 0, 0, 0, Nm.zero, Nm.zero⟩ : Vt), (⟨4, 0, 1, 0, 0, 1, Nm.zero, Nm.zero⟩ : Vt)]) (⟨0, 1, 0, Nm.zero⟩ : Oc))) Hr7 := hp_
 refine T.pu 9 (.tuple #[.slice A5 ((clV 1 Nm.zero ([(⟨3, 0, 1, 0, 0, 0, Nm.zero, Nm.zero⟩ : Vt), (⟨4, 0, 1, 0, 0, 1, Nm.zero, Nm.zero⟩ : Vt)]) (⟨0, 1, 0, Nm.zero⟩ : Oc)).length) c6, .bool (decB 1 Nm.zero ([(⟨3, 0, 1, 0, 0, 0, Nm.zero, Nm.zero⟩ : Vt), (⟨4, 0, 1, 0, 0, 1, Nm.zero, Nm.zero⟩ : Vt)]) (⟨0, 1, 0, Nm.zero⟩ : Oc))]) (T.pu 16 (.slice A5 ((clV 1 Nm.zero ([(⟨3, 0, 1, 0, 0, 0, Nm.zero, Nm.zero⟩ : Vt), (⟨4, 0, 1, 0, 0, 1, Nm.zero, Nm.zero⟩ : Vt)]) (⟨0, 1, 0, Nm.zero⟩ : Oc)).length) c6) (T.pb 17 (decB 1 Nm.zero ([(⟨3, 0, 1, 0, 0, 0, Nm.zero, Nm.zero⟩ : Vt), (⟨4, 0, 1, 0, 0, 1, Nm.zero, Nm.zero⟩ : Vt)]) (⟨0, 1, 0, Nm.zero⟩ : Oc)) (T.pu 4 (.slice A5 ((clV 1 Nm.zero ([(⟨3, 0, 1, 0, 0, 0, Nm.zero, Nm.zero⟩ : Vt), (⟨4, 0, 1, 0, 0, 1, Nm.zero, Nm.zero⟩ : Vt)]) (⟨0, 1, 0, Nm.zero⟩ : Oc)).length) c6) (T.pb 5 (decB 1 Nm.zero ([(⟨3, 0, 1, 0, 0, 0, Nm.zero, Nm.zero⟩ : Vt), (⟨4, 0, 1, 0, 0, 1, Nm.zero, Nm.zero⟩ : Vt)]) (⟨0, 1, 0, Nm.zero⟩ : Oc)) (T.nil (QN.seq (W.seq (W.drawn (Ψ := St w (Hr7 ++ [(b4, Obj.cells (cells ([(⟨3, 0, 1, 0, 0, 0, Nm.zero, Nm.zero⟩ : Vt), (⟨4, 0, 1, 0, 0, 1, Nm.zero, Nm.zero⟩ : Vt)] : List Vt)).toArray 43 (0, 0)), (b3, Obj.cells (⟨0, 1, 0, Nm.zero⟩ : Oc).cs 27 (0, 0)), (b2, Obj.cells (⟨4, 0, 1, 0, 0, 1, Nm.zero, Nm.zero⟩ : Vt).cs 43 (0, 0)), (b1, Obj.cells (⟨3, 0, 1, 0, 0, 0, Nm.zero, Nm.zero⟩ : Vt).cs 43 (0, 0))])) (St w (Hr7 ++ [(b4, Obj.cells (cells ([(⟨3, 0, 1, 0, 0, 0, Nm.zero, Nm.zero⟩ : Vt), (⟨4, 0, 1, 0, 0, 1, Nm.zero, Nm.zero⟩ : Vt)] : List Vt)).toArray 43 (0, 0)), (b3, Obj.cells (⟨0, 1, 0, Nm.zero⟩ : Oc).cs 27 (0, 0)), (b2, Obj.cells (⟨4, 0, 1, 0, 0, 1, Nm.zero, Nm.zero⟩ : Vt).cs 43 (0, 0)), (b1, Obj.cells (⟨3, 0, 1, 0, 0, 0, Nm.zero, Nm.zero⟩ : Vt).cs 43 (0, 0))])) [(0, true), (1, true), (2, true), (3, true), (4, true), (5, true), (6, true), (7, true), (8, true), (9, true), (10, false), (11, true), (12, true), (13, true), (14, true), (15, true), (16, true), (17, false), (18, true), (19, true), (20, false)] hmx (by kernel_rfl) (NoPanic.then NoPanic.body) (fun w h => h.drew) (fun w h => h) (T.pb 18 (decB 1 Nm.zero ([(⟨3, 0, 1, 0, 0, 0, Nm.zero, Nm.zero⟩ : Vt), (⟨4, 0, 1, 0, 0, 1, Nm.zero, Nm.zero⟩ : Vt)]) (⟨0, 1, 0, Nm.zero⟩ : Oc)) (T.pb 19 (decB 1 Nm.zero ([(⟨3, 0, 1, 0, 0, 0, Nm.zero, Nm.zero⟩ : Vt), (⟨4, 0, 1, 0, 0, 1, Nm.zero, Nm.zero⟩ : Vt)]) (⟨0, 1, 0, Nm.zero⟩ : Oc)) (T.bk [(2, true), (3, true), (4, true)] [(5, true), (6, true), (7, true), (8, true), (9, true), (10, false), (11, true), (12, true), (13, true), (14, true), (15, true), (16, true), (17, false), (18, true), (19, true), (20, false)] 1 true (decB 1 Nm.zero ([(⟨3, 0, 1, 0, 0, 0, Nm.zero, Nm.zero⟩ : Vt), (⟨4, 0, 1, 0, 0, 1, Nm.zero, Nm.zero⟩ : Vt)]) (⟨0, 1, 0, Nm.zero⟩ : Oc)) 19 22 (.bool ((((clV 1 Nm.zero ([(⟨3, 0, 1, 0, 0, 0, Nm.zero, Nm.zero⟩ : Vt), (⟨4, 0, 1, 0, 0, 1, Nm.zero, Nm.zero⟩ : Vt)]) (⟨0, 1, 0, Nm.zero⟩ : Oc)).length : Nat) : Int) == 2)) (fun hg9 => ?_) ?_)))))))))))
 ·
  have hg9_ := hg9
  refine T.pu 20 (.slice A5 ((clV 1 Nm.zero ([(⟨3, 0, 1, 0, 0, 0, Nm.zero, Nm.zero⟩ : Vt), (⟨4, 0, 1, 0, 0, 1, Nm.zero, Nm.zero⟩ : Vt)]) (⟨0, 1, 0, Nm.zero⟩ : Oc)).length) c6) (T.pi 21 (((clV 1 Nm.zero ([(⟨3, 0, 1, 0, 0, 0, Nm.zero, Nm.zero⟩ : Vt), (⟨4, 0, 1, 0, 0, 1, Nm.zero, Nm.zero⟩ : Vt)]) (⟨0, 1, 0, Nm.zero⟩ : Oc)).length : Nat) : Int) (T.pb 22 ((((clV 1 Nm.zero ([(⟨3, 0, 1, 0, 0, 0, Nm.zero, Nm.zero⟩ : Vt), (⟨4, 0, 1, 0, 0, 1, Nm.zero, Nm.zero⟩ : Vt)]) (⟨0, 1, 0, Nm.zero⟩ : Oc)).length : Nat) : Int) == 2) ?_))
  exact T.blkEnd (by kernel_rfl) (fun w h => h)
 refine T.an 23 (decB 1 Nm.zero ([(⟨3, 0, 1, 0, 0, 0, Nm.zero, Nm.zero⟩ : Vt), (⟨4, 0, 1, 0, 0, 1, Nm.zero, Nm.zero⟩ : Vt)]) (⟨0, 1, 0, Nm.zero⟩ : Oc)) ((((clV 1 Nm.zero ([(⟨3, 0, 1, 0, 0, 0, Nm.zero, Nm.zero⟩ : Vt), (⟨4, 0, 1, 0, 0, 1, Nm.zero, Nm.zero⟩ : Vt)]) (⟨0, 1, 0, Nm.zero⟩ : Oc)).length : Nat) : Int) == 2) (T.pb 24 ((decB 1 Nm.zero ([(⟨3, 0, 1, 0, 0, 0, Nm.zero, Nm.zero⟩ : Vt), (⟨4, 0, 1, 0, 0, 1, Nm.zero, Nm.zero⟩ : Vt)]) (⟨0, 1, 0, Nm.zero⟩ : Oc)) && ((((clV 1 Nm.zero ([(⟨3, 0, 1, 0, 0, 0, Nm.zero, Nm.zero⟩ : Vt), (⟨4, 0, 1, 0, 0, 1, Nm.zero, Nm.zero⟩ : Vt)]) (⟨0, 1, 0, Nm.zero⟩ : Oc)).length : Nat) : Int) == 2)) (T.bk [(7, true), (8, true), (9, true), (10, false)] [(11, true), (12, true), (13, true), (14, true), (15, true), (16, true), (17, false), (18, true), (19, true), (20, false)] 6 true ((decB 1 Nm.zero ([(⟨3, 0, 1, 0, 0, 0, Nm.zero, Nm.zero⟩ : Vt), (⟨4, 0, 1, 0, 0, 1, Nm.zero, Nm.zero⟩ : Vt)]) (⟨0, 1, 0, Nm.zero⟩ : Oc)) && ((((clV 1 Nm.zero ([(⟨3, 0, 1, 0, 0, 0, Nm.zero, Nm.zero⟩ : Vt), (⟨4, 0, 1, 0, 0, 1, Nm.zero, Nm.zero⟩ : Vt)]) (⟨0, 1, 0, Nm.zero⟩ : Oc)).length : Nat) : Int) == 2)) 24 28 (.bool (decB 1 Nm.zero (clV 1 Nm.zero ([(⟨3, 0, 1, 0, 0, 0, Nm.zero, Nm.zero⟩ : Vt), (⟨4, 0, 1, 0, 0, 1, Nm.zero, Nm.zero⟩ : Vt)]) (⟨0, 1, 0, Nm.zero⟩ : Oc)) (⟨0, 1, 0, Nm.zero⟩ : Oc))) (fun hg10 => ?_) ?_))
 ·
  have hg10_ := hg10
  have hg10l := (Bool.and_eq_true_iff.1 hg10).1
  have hg10r := (Bool.and_eq_true_iff.1 hg10).2
  have hg10r' := eq_of_beq hg10r
  refine T.pu 25 (.agg Nm.zero.cs) (T.pu 26 (.slice A5 ((clV 1 Nm.zero ([(⟨3, 0, 1, 0, 0, 0, Nm.zero, Nm.zero⟩ : Vt), (⟨4, 0, 1, 0, 0, 1, Nm.zero, Nm.zero⟩ : Vt)]) (⟨0, 1, 0, Nm.zero⟩ : Oc)).length) c6) (T.lr true 27 (⟨0, 1, 0, Nm.zero⟩ : Oc).cs 27 b3 0 (fun w h => St.rangeM h (⟨0, 1, 0, Nm.zero⟩ : Oc).cs (List.mem_append_right _ mm1) (by kernel_rfl)) (T.cp 28 9 #[.int .i64 1, .agg Nm.zero.cs, .slice A5 ((clV 1 Nm.zero ([(⟨3, 0, 1, 0, 0, 0, Nm.zero, Nm.zero⟩ : Vt), (⟨4, 0, 1, 0, 0, 1, Nm.zero, Nm.zero⟩ : Vt)]) (⟨0, 1, 0, Nm.zero⟩ : Oc)).length) c6, .agg (⟨0, 1, 0, Nm.zero⟩ : Oc).cs] (.bool (decB 1 Nm.zero (clV 1 Nm.zero ([(⟨3, 0, 1, 0, 0, 0, Nm.zero, Nm.zero⟩ : Vt), (⟨4, 0, 1, 0, 0, 1, Nm.zero, Nm.zero⟩ : Vt)]) (⟨0, 1, 0, Nm.zero⟩ : Oc)) (⟨0, 1, 0, Nm.zero⟩ : Oc))) ent9 (fun w hw => check_c 1 Nm.zero (clV 1 Nm.zero ([(⟨3, 0, 1, 0, 0, 0, Nm.zero, Nm.zero⟩ : Vt), (⟨4, 0, 1, 0, 0, 1, Nm.zero, Nm.zero⟩ : Vt)]) (⟨0, 1, 0, Nm.zero⟩ : Oc)) (⟨0, 1, 0, Nm.zero⟩ : Oc) A5 c6 w (by first | assumption | exact w64_and _ _ | exact w64_or _ _ | exact w64_andNot _ _ | (unfold W64; omega)) aw_ok (by first | (simp; done) | (rw [aw_cl]; simp) | (rw [List.length_take, aw_cl]; simp)) (Arr.rd (Arr.row hp8 rfl rfl _) hw)) (fun w h => h) ?_)))
  exact T.blkEnd (by kernel_rfl) (fun w h => h)
 refine T.an 29 ((decB 1 Nm.zero ([(⟨3, 0, 1, 0, 0, 0, Nm.zero, Nm.zero⟩ : Vt), (⟨4, 0, 1, 0, 0, 1, Nm.zero, Nm.zero⟩ : Vt)]) (⟨0, 1, 0, Nm.zero⟩ : Oc)) && ((((clV 1 Nm.zero ([(⟨3, 0, 1, 0, 0, 0, Nm.zero, Nm.zero⟩ : Vt), (⟨4, 0, 1, 0, 0, 1, Nm.zero, Nm.zero⟩ : Vt)]) (⟨0, 1, 0, Nm.zero⟩ : Oc)).length : Nat) : Int) == 2)) (decB 1 Nm.zero (clV 1 Nm.zero ([(⟨3, 0, 1, 0, 0, 0, Nm.zero, Nm.zero⟩ : Vt), (⟨4, 0, 1, 0, 0, 1, Nm.zero, Nm.zero⟩ : Vt)]) (⟨0, 1, 0, Nm.zero⟩ : Oc)) (⟨0, 1, 0, Nm.zero⟩ : Oc)) (T.pb 30 (((decB 1 Nm.zero ([(⟨3, 0, 1, 0, 0, 0, Nm.zero, Nm.zero⟩ : Vt), (⟨4, 0, 1, 0, 0, 1, Nm.zero, Nm.zero⟩ : Vt)]) (⟨0, 1, 0, Nm.zero⟩ : Oc)) && ((((clV 1 Nm.zero ([(⟨3, 0, 1, 0, 0, 0, Nm.zero, Nm.zero⟩ : Vt), (⟨4, 0, 1, 0, 0, 1, Nm.zero, Nm.zero⟩ : Vt)]) (⟨0, 1, 0, Nm.zero⟩ : Oc)).length : Nat) : Int) == 2)) && (decB 1 Nm.zero (clV 1 Nm.zero ([(⟨3, 0, 1, 0, 0, 0, Nm.zero, Nm.zero⟩ : Vt), (⟨4, 0, 1, 0, 0, 1, Nm.zero, Nm.zero⟩ : Vt)]) (⟨0, 1, 0, Nm.zero⟩ : Oc)) (⟨0, 1, 0, Nm.zero⟩ : Oc))) (T.bk [(13, true), (14, true), (15, true), (16, true), (17, false), (18, true)] [(19, true), (20, false)] 12 true (((decB 1 Nm.zero ([(⟨3, 0, 1, 0, 0, 0, Nm.zero, Nm.zero⟩ : Vt), (⟨4, 0, 1, 0, 0, 1, Nm.zero, Nm.zero⟩ : Vt)]) (⟨0, 1, 0, Nm.zero⟩ : Oc)) && ((((clV 1 Nm.zero ([(⟨3, 0, 1, 0, 0, 0, Nm.zero, Nm.zero⟩ : Vt), (⟨4, 0, 1, 0, 0, 1, Nm.zero, Nm.zero⟩ : Vt)]) (⟨0, 1, 0, Nm.zero⟩ : Oc)).length : Nat) : Int) == 2)) && (decB 1 Nm.zero (clV 1 Nm.zero ([(⟨3, 0, 1, 0, 0, 0, Nm.zero, Nm.zero⟩ : Vt), (⟨4, 0, 1, 0, 0, 1, Nm.zero, Nm.zero⟩ : Vt)]) (⟨0, 1, 0, Nm.zero⟩ : Oc)) (⟨0, 1, 0, Nm.zero⟩ : Oc))) 30 36 (.bool (!(decB 1 Nm.zero ((clV 1 Nm.zero ([(⟨3, 0, 1, 0, 0, 0, Nm.zero, Nm.zero⟩ : Vt), (⟨4, 0, 1, 0, 0, 1, Nm.zero, Nm.zero⟩ : Vt)]) (⟨0, 1, 0, Nm.zero⟩ : Oc)).take 1) (⟨0, 1, 0, Nm.zero⟩ : Oc)))) (fun hg11 => ?_) ?_))
 ·
  have hg11_ := hg11
  have hg11l := (Bool.and_eq_true_iff.1 hg11).1
  have hg11r := (Bool.and_eq_true_iff.1 hg11).2
  have hg11ll := (Bool.and_eq_true_iff.1 hg11l).1
  have hg11lr := (Bool.and_eq_true_iff.1 hg11l).2
  have hg11lr' := eq_of_beq hg11lr
  refine T.pu 31 (.agg Nm.zero.cs) (T.pu 32 (.slice A5 ((clV 1 Nm.zero ([(⟨3, 0, 1, 0, 0, 0, Nm.zero, Nm.zero⟩ : Vt), (⟨4, 0, 1, 0, 0, 1, Nm.zero, Nm.zero⟩ : Vt)]) (⟨0, 1, 0, Nm.zero⟩ : Oc)).length) c6) ?_)
  have hcl : (clV 1 Nm.zero ([(⟨3, 0, 1, 0, 0, 0, Nm.zero, Nm.zero⟩ : Vt), (⟨4, 0, 1, 0, 0, 1, Nm.zero, Nm.zero⟩ : Vt)]) (⟨0, 1, 0, Nm.zero⟩ : Oc)).length = 2 := by rw [aw_cl]; rfl
  have hcap := RowIs.cap hp8
  have hsl12 : ((clV 1 Nm.zero ([(⟨3, 0, 1, 0, 0, 0, Nm.zero, Nm.zero⟩ : Vt), (⟨4, 0, 1, 0, 0, 1, Nm.zero, Nm.zero⟩ : Vt)]) (⟨0, 1, 0, Nm.zero⟩ : Oc)).take 1).length = 1 := by first | (simp; done) | (simp; omega)
  refine T.sliceTo 33 25 43 A5 ((clV 1 Nm.zero ([(⟨3, 0, 1, 0, 0, 0, Nm.zero, Nm.zero⟩ : Vt), (⟨4, 0, 1, 0, 0, 1, Nm.zero, Nm.zero⟩ : Vt)]) (⟨0, 1, 0, Nm.zero⟩ : Oc)).length) c6 1 (((clV 1 Nm.zero ([(⟨3, 0, 1, 0, 0, 0, Nm.zero, Nm.zero⟩ : Vt), (⟨4, 0, 1, 0, 0, 1, Nm.zero, Nm.zero⟩ : Vt)]) (⟨0, 1, 0, Nm.zero⟩ : Oc)).take 1).length) (by kernel_rfl) (by kernel_rfl) (by kernel_rfl) (by kernel_rfl) (by omega) (by omega) (T.lr true 34 (⟨0, 1, 0, Nm.zero⟩ : Oc).cs 27 b3 0 (fun w h => St.rangeM h (⟨0, 1, 0, Nm.zero⟩ : Oc).cs (List.mem_append_right _ mm1) (by kernel_rfl)) (T.cp 35 9 #[.int .i64 1, .agg Nm.zero.cs, .slice A5 (((clV 1 Nm.zero ([(⟨3, 0, 1, 0, 0, 0, Nm.zero, Nm.zero⟩ : Vt), (⟨4, 0, 1, 0, 0, 1, Nm.zero, Nm.zero⟩ : Vt)]) (⟨0, 1, 0, Nm.zero⟩ : Oc)).take 1).length) c6, .agg (⟨0, 1, 0, Nm.zero⟩ : Oc).cs] (.bool (decB 1 Nm.zero ((clV 1 Nm.zero ([(⟨3, 0, 1, 0, 0, 0, Nm.zero, Nm.zero⟩ : Vt), (⟨4, 0, 1, 0, 0, 1, Nm.zero, Nm.zero⟩ : Vt)]) (⟨0, 1, 0, Nm.zero⟩ : Oc)).take 1) (⟨0, 1, 0, Nm.zero⟩ : Oc))) ent9 (fun w hw => check_c 1 Nm.zero ((clV 1 Nm.zero ([(⟨3, 0, 1, 0, 0, 0, Nm.zero, Nm.zero⟩ : Vt), (⟨4, 0, 1, 0, 0, 1, Nm.zero, Nm.zero⟩ : Vt)]) (⟨0, 1, 0, Nm.zero⟩ : Oc)).take 1) (⟨0, 1, 0, Nm.zero⟩ : Oc) A5 c6 w (by first | assumption | exact w64_and _ _ | exact w64_or _ _ | exact w64_andNot _ _ | (unfold W64; omega)) (fun u hu => aw_ok u (List.mem_of_mem_take hu)) (by first | (simp; done) | (rw [aw_cl]; simp) | (rw [List.length_take, aw_cl]; simp)) (Arr.rd ((Arr.row hp8 rfl rfl _).take _) hw)) (fun w h => h) (T.pb 36 (!(decB 1 Nm.zero ((clV 1 Nm.zero ([(⟨3, 0, 1, 0, 0, 0, Nm.zero, Nm.zero⟩ : Vt), (⟨4, 0, 1, 0, 0, 1, Nm.zero, Nm.zero⟩ : Vt)]) (⟨0, 1, 0, Nm.zero⟩ : Oc)).take 1) (⟨0, 1, 0, Nm.zero⟩ : Oc))) ?_)))
  exact T.blkEnd (by kernel_rfl) (fun w h => h)
 refine T.an 37 (((decB 1 Nm.zero ([(⟨3, 0, 1, 0, 0, 0, Nm.zero, Nm.zero⟩ : Vt), (⟨4, 0, 1, 0, 0, 1, Nm.zero, Nm.zero⟩ : Vt)]) (⟨0, 1, 0, Nm.zero⟩ : Oc)) && ((((clV 1 Nm.zero ([(⟨3, 0, 1, 0, 0, 0, Nm.zero, Nm.zero⟩ : Vt), (⟨4, 0, 1, 0, 0, 1, Nm.zero, Nm.zero⟩ : Vt)]) (⟨0, 1, 0, Nm.zero⟩ : Oc)).length : Nat) : Int) == 2)) && (decB 1 Nm.zero (clV 1 Nm.zero ([(⟨3, 0, 1, 0, 0, 0, Nm.zero, Nm.zero⟩ : Vt), (⟨4, 0, 1, 0, 0, 1, Nm.zero, Nm.zero⟩ : Vt)]) (⟨0, 1, 0, Nm.zero⟩ : Oc)) (⟨0, 1, 0, Nm.zero⟩ : Oc))) (!(decB 1 Nm.zero ((clV 1 Nm.zero ([(⟨3, 0, 1, 0, 0, 0, Nm.zero, Nm.zero⟩ : Vt), (⟨4, 0, 1, 0, 0, 1, Nm.zero, Nm.zero⟩ : Vt)]) (⟨0, 1, 0, Nm.zero⟩ : Oc)).take 1) (⟨0, 1, 0, Nm.zero⟩ : Oc))) (T.pb 0 ((((decB 1 Nm.zero ([(⟨3, 0, 1, 0, 0, 0, Nm.zero, Nm.zero⟩ : Vt), (⟨4, 0, 1, 0, 0, 1, Nm.zero, Nm.zero⟩ : Vt)]) (⟨0, 1, 0, Nm.zero⟩ : Oc)) && ((((clV 1 Nm.zero ([(⟨3, 0, 1, 0, 0, 0, Nm.zero, Nm.zero⟩ : Vt), (⟨4, 0, 1, 0, 0, 1, Nm.zero, Nm.zero⟩ : Vt)]) (⟨0, 1, 0, Nm.zero⟩ : Oc)).length : Nat) : Int) == 2)) && (decB 1 Nm.zero (clV 1 Nm.zero ([(⟨3, 0, 1, 0, 0, 0, Nm.zero, Nm.zero⟩ : Vt), (⟨4, 0, 1, 0, 0, 1, Nm.zero, Nm.zero⟩ : Vt)]) (⟨0, 1, 0, Nm.zero⟩ : Oc)) (⟨0, 1, 0, Nm.zero⟩ : Oc))) && (!(decB 1 Nm.zero ((clV 1 Nm.zero ([(⟨3, 0, 1, 0, 0, 0, Nm.zero, Nm.zero⟩ : Vt), (⟨4, 0, 1, 0, 0, 1, Nm.zero, Nm.zero⟩ : Vt)]) (⟨0, 1, 0, Nm.zero⟩ : Oc)).take 1) (⟨0, 1, 0, Nm.zero⟩ : Oc)))) (T.nil (QN.seq (W.ret (QN.done (.inl rfl) 0 (.bool ((((decB 1 Nm.zero ([(⟨3, 0, 1, 0, 0, 0, Nm.zero, Nm.zero⟩ : Vt), (⟨4, 0, 1, 0, 0, 1, Nm.zero, Nm.zero⟩ : Vt)]) (⟨0, 1, 0, Nm.zero⟩ : Oc)) && ((((clV 1 Nm.zero ([(⟨3, 0, 1, 0, 0, 0, Nm.zero, Nm.zero⟩ : Vt), (⟨4, 0, 1, 0, 0, 1, Nm.zero, Nm.zero⟩ : Vt)]) (⟨0, 1, 0, Nm.zero⟩ : Oc)).length : Nat) : Int) == 2)) && (decB 1 Nm.zero (clV 1 Nm.zero ([(⟨3, 0, 1, 0, 0, 0, Nm.zero, Nm.zero⟩ : Vt), (⟨4, 0, 1, 0, 0, 1, Nm.zero, Nm.zero⟩ : Vt)]) (⟨0, 1, 0, Nm.zero⟩ : Oc)) (⟨0, 1, 0, Nm.zero⟩ : Oc))) && (!(decB 1 Nm.zero ((clV 1 Nm.zero ([(⟨3, 0, 1, 0, 0, 0, Nm.zero, Nm.zero⟩ : Vt), (⟨4, 0, 1, 0, 0, 1, Nm.zero, Nm.zero⟩ : Vt)]) (⟨0, 1, 0, Nm.zero⟩ : Oc)).take 1) (⟨0, 1, 0, Nm.zero⟩ : Oc))))) rfl (by kernel_rfl) (fun w hw => ⟨?_, hw.below⟩))))))
 exact ret_bool (by rw [aw_cl]; decide +kernel)
end Go.Proofs.YtphnfhonmbbddaaGreat
