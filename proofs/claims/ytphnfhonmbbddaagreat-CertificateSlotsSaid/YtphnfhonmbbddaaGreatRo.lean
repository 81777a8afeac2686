/- The reference: OutcomesOf, Outcomes, Decided. -/
import Derived.Test.YtphnfhonmbbddaaGreatRs
namespace Go.Proofs.YtphnfhonmbbddaaGreat
open Go Go.RowKit
set_option linter.unusedVariables false

def ocP (m : Int) (a : List Vt) (r c : Int) (x : Nm) : Bool := decide (quorum (size m) ≤ (size (whoM a 4 r (isV ⟨c, x⟩)) : Int))
def ocI (m : Int) (a : List Vt) (s r c : Int) (l : List Nm) : List Oc := (l.filter (ocP m a r c)).map (fun x => ⟨s, r, c, x⟩)
def upC (m : Int) (a : List Vt) (s r : Int) (n : Nat) : List Oc := (List.range n).flatMap (fun c : Nat => ocI m a s r (c : Int) (nvL a 4 r (c : Int)))
def upR (m : Int) (a : List Vt) (s : Int) (n : Nat) : List Oc := (List.range n).flatMap (fun i : Nat => upC m a s ((i : Int) + 1) 2)
/-- The outcomes as the reference lists them. -/
def ocL (m : Int) (a : List Vt) (s : Int) : List Oc := upR m a s 12
theorem rng_step {α : Type} {f : Nat → List α} {k : Nat} : (List.range (k + 1)).flatMap f = (List.range k).flatMap f ++ f k := by
  rw [List.range_succ, List.flatMap_append]; simp
section
variable {m : Int} {a : List Vt} {s : Int}
theorem ocC_step {B : List Oc} {r : Int} {cc i : Nat} (hi : (nvL a 4 r (cc : Int)).length ≤ i) : (B ++ upC m a s r cc) ++ ocI m a s r (cc : Int) ((nvL a 4 r (cc : Int)).take i) = B ++ upC m a s r (cc + 1) := by
  rw [List.take_of_length_le hi, List.append_assoc]; unfold upC; rw [rng_step]
theorem ocR_step {r cc : Nat} (hc : cc = 2) (hr : 1 ≤ r) : upR m a s (r - 1) ++ upC m a s (r : Int) cc = upR m a s (r + 1 - 1) := by
  subst hc
  have e : r + 1 - 1 = (r - 1) + 1 := by omega
  have e2 : (((r - 1 : Nat) : Int) + 1) = (r : Int) := by omega
  unfold upR
  rw [e, rng_step, e2]
theorem ocI_yes {B out : List Oc} {r c : Int} {V : List Nm} {i : Nat} (hi : i < V.length) (ho : out = B ++ ocI m a s r c (V.take i)) (h : (decide (quorum (size m) ≤ (size (whoM a 4 r (isV ⟨c, V[i]⟩)) : Int))) = true) : out ++ [(⟨s, r, c, V[i]⟩ : Oc)] = B ++ ocI m a s r c (V.take (i + 1)) := by
  have h' : ocP m a r c V[i] = true := h
  rw [ho, List.append_assoc]
  unfold ocI
  rw [List.take_succ_eq_append_getElem hi, List.filter_append, List.map_append, List.filter_cons, if_pos h', List.filter_nil]; rfl
theorem ocI_no {B out : List Oc} {r c : Int} {V : List Nm} {i : Nat} (hi : i < V.length) (ho : out = B ++ ocI m a s r c (V.take i)) (h : (decide (quorum (size m) ≤ (size (whoM a 4 r (isV ⟨c, V[i]⟩)) : Int))) = false) : out = B ++ ocI m a s r c (V.take (i + 1)) := by
  have h' : ocP m a r c V[i] = false := h
  rw [ho]
  unfold ocI
  rw [List.take_succ_eq_append_getElem hi, List.filter_append, List.map_append, List.filter_cons, if_neg (by rw [h']; simp), List.filter_nil, List.map_nil, List.append_nil]
theorem ocL_mem {o : Oc} : o ∈ ocL m a s ↔ o.slot = s ∧ 1 ≤ o.round ∧ o.round ≤ 12 ∧ (o.choice = 0 ∨ o.choice = 1) ∧ o.val ∈ nvL a 4 o.round o.choice ∧ ocP m a o.round o.choice o.val = true := by
  unfold ocL upR upC ocI
  simp only [List.mem_flatMap, List.mem_range, List.mem_map, List.mem_filter]
  constructor
  · rintro ⟨i, hi, c, hc, x, ⟨h1, h2⟩, rfl⟩
    refine ⟨rfl, by show 1 ≤ (i : Int) + 1; omega, by show (i : Int) + 1 ≤ 12; omega, ?_, h1, h2⟩
    show (c : Int) = 0 ∨ (c : Int) = 1
    omega
  · rintro ⟨h1, h2, h3, h4, h5, h6⟩
    refine ⟨(o.round - 1).toNat, by omega, o.choice.toNat, by omega, o.val, ?_, ?_⟩
    · have e1 : (((o.round - 1).toNat : Int) + 1) = o.round := by omega
      have e2 : ((o.choice.toNat : Nat) : Int) = o.choice := by omega
      rw [e1, e2]; exact ⟨h5, h6⟩
    · have e1 : (((o.round - 1).toNat : Int) + 1) = o.round := by omega
      have e2 : ((o.choice.toNat : Nat) : Int) = o.choice := by omega
      rw [e1, e2, ← h1]
def SO (l : List Oc) : Prop := l.Pairwise fun x y => oless x y = true
theorem oless_r {x y : Oc} (h : x.round < y.round) : oless x y = true := by
  rw [oless_lex]; unfold keyO; rw [lexLt_ne (by omega)]; simpa using h
theorem oless_c {x y : Oc} (h : x.round = y.round) (h2 : x.choice < y.choice) : oless x y = true := by
  rw [oless_lex]; unfold keyO; rw [h, lexLt_eq, lexLt_ne (by omega)]; simpa using h2
theorem oless_v {x y : Oc} (h : x.round = y.round) (h2 : x.choice = y.choice) (h3 : hless x.val y.val = true) : oless x y = true := by
  unfold hless at h3
  rw [decide_eq_true_eq] at h3
  rw [oless_lex]; unfold keyO; rw [h, h2, lexLt_eq, lexLt_eq, lexLt_ne (by omega)]; simpa using h3
theorem ocI_mem {r c : Int} {l : List Nm} {o : Oc} (h : o ∈ ocI m a s r c l) : o.round = r ∧ o.choice = c := by
  unfold ocI at h
  obtain ⟨x, _, rfl⟩ := List.mem_map.1 h
  exact ⟨rfl, rfl⟩
theorem upC_mem {r : Int} {n : Nat} {o : Oc} (h : o ∈ upC m a s r n) : o.round = r := by
  unfold upC at h
  obtain ⟨c, _, h⟩ := List.mem_flatMap.1 h
  exact (ocI_mem h).1
theorem ocL_so : SO (ocL m a s) := by
  unfold SO ocL upR
  rw [List.pairwise_flatMap]
  refine ⟨fun i _ => ?_, ?_⟩
  · unfold upC
    rw [List.pairwise_flatMap]
    refine ⟨fun c _ => ?_, ?_⟩
    · unfold ocI
      rw [List.pairwise_map]
      refine List.Pairwise.imp ?_ ((nvL_sn a 4 ((i : Int) + 1) (c : Int)).filter _)
      intro x y h
      exact oless_v rfl rfl h
    · refine List.Pairwise.imp ?_ (List.pairwise_lt_range (n := 2))
      intro c d hcd x hx y hy
      have h1 := ocI_mem hx
      have h2 := ocI_mem hy
      exact oless_c (h1.1.trans h2.1.symm) (by rw [h1.2, h2.2]; omega)
  · refine List.Pairwise.imp ?_ (List.pairwise_lt_range (n := 12))
    intro i j hij x hx y hy
    have h1 := upC_mem hx
    have h2 := upC_mem hy
    exact oless_r (by rw [h1, h2]; omega)
theorem sgMask_who {κ : Type} [Cel κ] [DecidableEq κ] {f : Vt → Option κ} {o : κ} {k r : Int} {F : Vt → Bool} (a : List Vt) (h : ∀ v ∈ a, f v = some o ↔ whoP k r F v = true) : sgMask f a o = whoM a k r F := by
  refine snocI (p := fun a => (∀ v ∈ a, f v = some o ↔ whoP k r F v = true) → sgMask f a o = whoM a k r F) (fun _ => rfl) (fun a v ih => fun h => ?_) a h
  have ih' := ih fun u hu => h u (by simp [hu])
  have hv := h v (by simp)
  rw [sgMask_snoc, whoM_snoc, ih']
  cases hw : whoP k r F v with
  | true => rw [if_pos (hv.2 hw)]; rfl
  | false => rw [if_neg (fun e => by rw [hv.1 e] at hw; cases hw)]; rfl
theorem oless_irr (x : Oc) : oless x x = false := oless_swo.irrefl x
theorem so_nodup {l : List Oc} (h : SO l) : l.Nodup := List.Pairwise.imp (fun {x y} hxy e => by subst e; rw [oless_irr] at hxy; cases hxy) h
theorem so_up {l : List Oc} (h : SO l) : Up oless l := List.Pairwise.imp (fun {x y} hxy => by
  cases hc : oless y x with
  | false => rfl
  | true => have := oless_swo.trans _ _ _ hxy hc; rw [oless_irr] at this; cases this) h
end
theorem out_eq (m : Int) (p : Nm) (l : List Vt) (s : Int) : ocL m (slV m p l s) s = outV m p l s := by
  have hmem : ∀ o, o ∈ ocL m (slV m p l s) s ↔ o ∈ outV m p l s := by
    intro o
    rw [ocL_mem, outV_mem, accV_ownF]
    have hA : ∀ v ∈ slV m p l s, validB v = true := fun v hv => (accV_has (List.mem_filter.1 hv).1).1
    constructor
    · rintro ⟨h1, h2, h3, h4, h5, h6⟩
      obtain ⟨u, hu, u1, u2⟩ := (nvL_mem _ _ _ _ _).1 h5
      unfold nvP at u1
      simp only [Bool.and_eq_true, beq_iff_eq] at u1
      have ho : o = ⟨s, o.round, o.choice, o.val⟩ := by cases o; simp_all
      refine ⟨⟨u, hu, ?_⟩, ?_⟩
      · unfold ocOf
        rw [if_pos (by simp [u1.1.1, u1.2]; omega), u1.1.2, u1.2, u2, ← ho]
      · rw [sgMask_who (k := 4) (r := o.round) (F := isV ⟨o.choice, o.val⟩)]
        · unfold ocP at h6; simpa using h6
        · intro v hv
          unfold ocOf whoP
          rw [isV_eq]
          constructor
          · intro e
            split at e
            · rename_i hc
              simp only [Bool.and_eq_true, beq_iff_eq, bne_iff_ne] at hc
              have e := Option.some.inj e
              rw [← e]; simp [hc.1]
            · cases e
          · intro e
            simp only [Bool.and_eq_true, beq_iff_eq] at e
            rw [if_pos (by simp [e.1.1, e.2.1]; omega), e.1.2, e.2.1, e.2.2, ← ho]
    · rintro ⟨⟨v, hv, e⟩, hq⟩
      obtain ⟨v1, v2, rfl⟩ := ocOf_some e
      have hval := hA v hv
      have hr : 1 ≤ v.round ∧ v.round ≤ 12 ∧ (v.choice = 0 ∨ v.choice = 1) := by
        have hx := hval
        unfold validB restB btw at hx
        simp [v1] at hx
        omega
      refine ⟨rfl, hr.1, hr.2.1, hr.2.2, (nvL_mem _ _ _ _ _).2 ⟨v, hv, by simp [nvP, v1], rfl⟩, ?_⟩
      rw [sgMask_who (k := 4) (r := v.round) (F := isV ⟨v.choice, v.val⟩)] at hq
      · unfold ocP; simpa using hq
      · intro u hu
        unfold ocOf whoP
        rw [isV_eq]
        constructor
        · intro e
          split at e
          · rename_i hc
            simp only [Bool.and_eq_true, beq_iff_eq, bne_iff_ne] at hc
            have e := Option.some.inj e
            simp only [Oc.mk.injEq, true_and] at e
            simp [hc.1, e.1, e.2.1, e.2.2]
          · cases e
        · intro e
          simp only [Bool.and_eq_true, beq_iff_eq] at e
          rw [if_pos (by simp [e.1.1, e.2.1, v2]), e.1.2, e.2.1, e.2.2]
  refine up_ext (so_up ocL_so) (swo_up oless_swo _) ?_ (fun x hx y hy h1 h2 => oless_tot ?_ h1 h2)
  · exact (List.perm_ext_iff_of_nodup (so_nodup ocL_so) sgOut_nodup).2 hmem
  · rw [(ocL_mem.1 hx).1, (ocL_mem.1 hy).1]
set_option maxRecDepth 100000 in
set_option maxHeartbeats 2000000 in
theorem routof_c (m : Int) (a : List Vt) (s : Int) (A : Option Addr) (c : Nat) (w : World) (hm : W64 m) (hsg : ∀ u ∈ a, 0 ≤ u.signer ∧ u.signer < 10) (ha : a.length ≤ 1000) (hr : Rd w A a) : Calls Tryz.prog 34 #[.int .i64 m, .slice A a.length c, .int .i64 s] w (fun rr w' => ∃ A c Hr, rr = .returned (.slice A (ocL m a s).length c) ∧ RowIs 27 11 A (ocL m a s).length c (cells (ocL m a s)) Hr ∧ St w Hr w') := by
 have hz := size_le m
 have hqb := quorum_bd _ hz
 refine calls_W (n := 57) Tryz.func34 rfl [(0, .int .i64 m), (1, .slice A a.length c), (2, .int .i64 s)] rfl ⟨by kernel_rfl, by kernel_rfl⟩ (W.weak (Ψ := St w []) (fun w' h => by rw [h]; exact St.start w) (W.seq (W.rg od1 (T.pu 6 (.slice none 0 0) (T.nil (QN.seq (W.seq (W.rg od1 (T.pu 7 (.slice none 0 0) (T.nil (QN.seq (W.seq (W.rg od4 (T.pi 13 m (T.cp 14 30 #[.int .i64 m] (.int .i64 (size m : Int)) ent30 (fun w hw => rsize_c _ (by assumption) w) tv2 (T.cp 15 29 #[.int .i64 (size m : Int)] (.int .i64 (quorum (size m : Int))) ent29 (fun w hw => Ret.same (rquorum_c _ w (by unfold W64; omega))) tv2 (T.pi 8 (quorum (size m : Int)) (T.nil (QN.seq (W.seq (W.seq (W.rg od1 (T.pi 9 1 (T.nil (QN.seq (W.block (W.loop (σ := Nat × List Oc × Option Addr × Nat × List (Nat × Obj)) (fun gs => 1 ≤ gs.1 ∧ gs.1 ≤ 13 ∧ gs.2.1 = upR m a s (gs.1 - 1) ∧ gs.2.1.length ≤ 2000 * (gs.1 - 1) ∧ RowIs 27 11 gs.2.2.1 gs.2.1.length gs.2.2.2.1 (cells gs.2.1) gs.2.2.2.2) (fun gs => [(1, .slice A a.length c), (2, .int .i64 s), (6, .slice none 0 0), (7, .slice gs.2.2.1 gs.2.1.length gs.2.2.2.1), (8, .int .i64 (quorum (size m : Int))), (9, .int .i64 (gs.1 : Int))]) (fun gs => St w (gs.2.2.2.2 ++ [])) (fun gs => 13 - gs.1) (1, [], none, 0, []) ?_ (by kernel_rfl) (fun w h => h) ?_)))))))))))))))))))))))))))
 ·
  try dsimp only
  exact ⟨by omega, by omega, rfl, by simp, RowIs.nil⟩
 rintro ⟨r, out, A7, c7, Hr7⟩ hI_
 obtain ⟨hr1, hr2, hout, hol, hrow7⟩ : 1 ≤ r ∧ r ≤ 13 ∧ out = upR m a s (r - 1) ∧ out.length ≤ 2000 * (r - 1) ∧ RowIs 27 11 A7 out.length c7 (cells out) Hr7 := hI_
 refine W.seq (W.seq (W.rg od2 (T.pi 16 r (T.pb 17 (decide ((r : Int) ≤ 12)) (T.nil (QN.seq (W.cd (decide ((r : Int) ≤ 12)) (fun h1 => ?_) (fun h1 => ?_))))))))
 ·
  have h1' := of_decide_eq_true h1
  refine W.skip (QN.seq (W.seq (W.block (W.seq (W.rg od1 (T.pi 10 0 (T.nil (QN.seq (W.block (W.loop (σ := Nat × List Oc × Option Addr × Nat × List (Nat × Obj)) (fun gs => gs.1 ≤ 2 ∧ gs.2.1 = upR m a s (r - 1) ++ upC m a s (r : Int) gs.1 ∧ gs.2.1.length ≤ 2000 * (r - 1) + 1000 * gs.1 ∧ RowIs 27 11 gs.2.2.1 gs.2.1.length gs.2.2.2.1 (cells gs.2.1) gs.2.2.2.2) (fun gs => [(1, .slice A a.length c), (2, .int .i64 s), (6, .slice none 0 0), (7, .slice gs.2.2.1 gs.2.1.length gs.2.2.2.1), (8, .int .i64 (quorum (size m : Int))), (9, .int .i64 r), (10, .int .i64 (gs.1 : Int)), (16, .int .i64 r), (17, .bool (decide ((r : Int) ≤ 12)))]) (fun gs => St w (gs.2.2.2.2 ++ [])) (fun gs => 2 - gs.1) (0, out, A7, c7, Hr7) ?_ (by kernel_rfl) (fun w h => h) ?_))))))))))
  ·
   try dsimp only
   exact ⟨by omega, by rw [hout]; exact (List.append_nil _).symm, by omega, hrow7⟩
  rintro ⟨cc, out, A7, c7, Hr7⟩ hI_
  obtain ⟨hc2, hout, hol, hrow7⟩ : cc ≤ 2 ∧ out = upR m a s (r - 1) ++ upC m a s (r : Int) cc ∧ out.length ≤ 2000 * (r - 1) + 1000 * cc ∧ RowIs 27 11 A7 out.length c7 (cells out) Hr7 := hI_
  refine W.seq (W.seq (W.rg od2 (T.pi 20 cc (T.pb 21 (decide ((cc : Int) ≤ 1)) (T.nil (QN.seq (W.cd (decide ((cc : Int) ≤ 1)) (fun h2 => ?_) (fun h2 => ?_))))))))
  ·
   have h2' := of_decide_eq_true h2
   refine W.skip (QN.seq (W.seq (W.block (W.seq (W.rg od5 (T.pu 24 (.slice A a.length c) (T.pi 25 r (T.pi 26 cc (T.callR 27 58 #[.slice A a.length c, .int .i64 4, .int .i64 r, .int .i64 cc] 24 8 (nvL a 4 (r : Int) (cc : Int)).length (cells (nvL a 4 (r : Int) (cc : Int))) (by kernel_rfl) (by kernel_rfl) ent58 (fun w hw => rvalues_c a 4 (r : Int) (cc : Int) A c w (by first | omega | (simp; done) | (simp; omega)) (Arr.rd (Rd.arr hr _) hw)) tv3 (fun A3 c4 Hr5 hrow6 => T.pu 11 (.slice A3 ((nvL a 4 (r : Int) (cc : Int)).length) c4) (T.nil (QN.seq (W.seq (W.rg od1 (T.pi 12 0 (T.nil (QN.seq (W.block ?_))))))))))))))))))
   have hvl := nvL_len a 4 (r : Int) (cc : Int)
   refine W.loop (σ := Nat × List Oc × Option Addr × Nat × List (Nat × Obj)) (fun gs => gs.1 ≤ (nvL a 4 (r : Int) (cc : Int)).length ∧ gs.2.1 = (upR m a s (r - 1) ++ upC m a s (r : Int) cc) ++ ocI m a s (r : Int) (cc : Int) ((nvL a 4 (r : Int) (cc : Int)).take gs.1) ∧ gs.2.1.length ≤ 2000 * (r - 1) + 1000 * cc + gs.1 ∧ RowIs 27 11 gs.2.2.1 gs.2.1.length gs.2.2.2.1 (cells gs.2.1) gs.2.2.2.2) (fun gs => [(1, .slice A a.length c), (2, .int .i64 s), (6, .slice none 0 0), (7, .slice gs.2.2.1 gs.2.1.length gs.2.2.2.1), (8, .int .i64 (quorum (size m : Int))), (9, .int .i64 r), (10, .int .i64 cc), (11, .slice A3 ((nvL a 4 (r : Int) (cc : Int)).length) c4), (12, .int .i64 (gs.1 : Int)), (16, .int .i64 r), (17, .bool (decide ((r : Int) ≤ 12))), (20, .int .i64 cc), (21, .bool (decide ((cc : Int) ≤ 1))), (24, .slice A a.length c), (25, .int .i64 r), (26, .int .i64 cc), (27, .slice A3 ((nvL a 4 (r : Int) (cc : Int)).length) c4)]) (fun gs => St w (Hr5 ++ (gs.2.2.2.2 ++ []))) (fun gs => (nvL a 4 (r : Int) (cc : Int)).length - gs.1) (0, out, A7, c7, Hr7) ?_ (by kernel_rfl) (fun w h => h) ?_
   ·
    try dsimp only
    exact ⟨Nat.zero_le _, by rw [hout]; exact (List.append_nil _).symm, by omega, hrow7⟩
   rintro ⟨i, out, A7, c7, Hr7⟩ hI_
   obtain ⟨hi, hout, hol, hrow7⟩ : i ≤ (nvL a 4 (r : Int) (cc : Int)).length ∧ out = (upR m a s (r - 1) ++ upC m a s (r : Int) cc) ++ ocI m a s (r : Int) (cc : Int) ((nvL a 4 (r : Int) (cc : Int)).take i) ∧ out.length ≤ 2000 * (r - 1) + 1000 * cc + i ∧ RowIs 27 11 A7 out.length c7 (cells out) Hr7 := hI_
   refine W.seq (W.seq (W.rg od4 (T.pi 28 i (T.pu 29 (.slice A3 ((nvL a 4 (r : Int) (cc : Int)).length) c4) (T.pi 30 (((nvL a 4 (r : Int) (cc : Int)).length : Nat) : Int) (T.pb 31 (decide ((i : Int) < (((nvL a 4 (r : Int) (cc : Int)).length : Nat) : Int))) (T.nil (QN.seq (W.cd (decide ((i : Int) < (((nvL a 4 (r : Int) (cc : Int)).length : Nat) : Int))) (fun h7 => ?_) (fun h7 => ?_))))))))))
   ·
    have h7' := of_decide_eq_true h7
    have hl8 : i < (nvL a 4 (r : Int) (cc : Int)).length := by omega
    refine W.skip (QN.seq (W.seq (W.block (W.seq (W.rg od11 (T.pu 34 (.slice A a.length c) (T.pi 35 r (T.pi 36 cc (T.pu 37 (.slice A3 ((nvL a 4 (r : Int) (cc : Int)).length) c4) (T.pi 38 i ?_))))))))))
    obtain ⟨b9, o10, hA11, hr12⟩ := (Arr.row hrow6 rfl rfl _) i hl8
    refine T.ix 39 85 24 8 A3 ((nvL a 4 (r : Int) (cc : Int)).length) c4 (i : Int) i b9 o10 hA11 rfl (by omega) (T.lr false 40 ((nvL a 4 (r : Int) (cc : Int))[i]'hl8).cs 24 b9 (o10 + i * 8) hr12 (T.cp 41 28 #[.slice A a.length c, .int .i64 4, .int .i64 r, .int .i64 cc, .agg ((nvL a 4 (r : Int) (cc : Int))[i]'hl8).cs] (.int .i64 (whoM a 4 (r : Int) (isV ⟨(cc : Int), ((nvL a 4 (r : Int) (cc : Int))[i]'hl8)⟩))) ent28 (fun w hw => rwho_c a 4 (r : Int) (cc : Int) ((nvL a 4 (r : Int) (cc : Int))[i]'hl8) A c w hsg (by first | omega | (simp; done) | (simp; omega)) (Arr.rd (Rd.arr hr _) hw)) tv2 (T.cp 42 30 #[.int .i64 (whoM a 4 (r : Int) (isV ⟨(cc : Int), ((nvL a 4 (r : Int) (cc : Int))[i]'hl8)⟩))] (.int .i64 (size (whoM a 4 (r : Int) (isV ⟨(cc : Int), ((nvL a 4 (r : Int) (cc : Int))[i]'hl8)⟩)) : Int)) ent30 (fun w hw => rsize_c _ (w64_rwho _ _ _ _) w) tv2 (T.pi 43 (quorum (size m : Int)) (T.pb 44 (decide ((quorum (size m : Int)) ≤ (size (whoM a 4 (r : Int) (isV ⟨(cc : Int), ((nvL a 4 (r : Int) (cc : Int))[i]'hl8)⟩)) : Int))) (T.nil (QN.seq (W.cd (decide ((quorum (size m : Int)) ≤ (size (whoM a 4 (r : Int) (isV ⟨(cc : Int), ((nvL a 4 (r : Int) (cc : Int))[i]'hl8)⟩)) : Int))) (fun h13 => ?_) (fun h13 => ?_)))))))))
    ·
     have h13' := of_decide_eq_true h13
     refine W.rg od12 (T.pu 45 (.slice A7 out.length c7) (T.pi 46 s (T.pi 47 r (T.pi 48 cc (T.pu 49 (.slice A3 ((nvL a 4 (r : Int) (cc : Int)).length) c4) (T.pi 50 i ?_))))))
     obtain ⟨b14, o15, hA16, hr17⟩ := (Arr.row hrow6 rfl rfl _) i hl8
     refine T.ix 51 85 24 8 A3 ((nvL a 4 (r : Int) (cc : Int)).length) c4 (i : Int) i b14 o15 hA16 rfl (by omega) (T.lr false 52 ((nvL a 4 (r : Int) (cc : Int))[i]'hl8).cs 24 b14 (o15 + i * 8) hr17 (T.pu 53 (.agg (⟨s, (r : Int), (cc : Int), ((nvL a 4 (r : Int) (cc : Int))[i]'hl8)⟩ : Oc).cs) (T.lit 54 34 27 1 #[(0, .agg (⟨s, (r : Int), (cc : Int), ((nvL a 4 (r : Int) (cc : Int))[i]'hl8)⟩ : Oc).cs)] (cells ([(⟨s, (r : Int), (cc : Int), ((nvL a 4 (r : Int) (cc : Int))[i]'hl8)⟩ : Oc)] : List Oc)).toArray (by kernel_rfl) (by kernel_rfl) (by kernel_rfl) (by kernel_rfl) tv3 (fun b18 => T.appC 55 34 27 32 A7 c7 (out : List Oc) Hr7 b18 0 1 ([(⟨s, (r : Int), (cc : Int), ((nvL a 4 (r : Int) (cc : Int))[i]'hl8)⟩ : Oc)] : List Oc) ((((pm0.append_left Hr5).trans (List.perm_append_comm_assoc _ _ _)).cons _).trans List.perm_middle.symm) (by kernel_rfl) (by kernel_rfl) (by kernel_rfl) (by kernel_rfl) hrow7 (fun w h => St.rangeM h (cells ([(⟨s, (r : Int), (cc : Int), ((nvL a 4 (r : Int) (cc : Int))[i]'hl8)⟩ : Oc)] : List Oc)).toArray (List.mem_append_right _ mm0) (by kernel_rfl)) (by unfold maxLen; first | omega | (simp; omega)) (by first | omega | (simp; omega)) tv3 (fun A19 c20 Hr21 hrow22 => T.pu 7 (.slice A19 ((out ++ ([(⟨s, (r : Int), (cc : Int), ((nvL a 4 (r : Int) (cc : Int))[i]'hl8)⟩ : Oc)])).length) c20) (T.nil (QN.blkNormal (QN.seq (W.rg od3 (T.pi 32 i (T.pw 33 ((i : Int) + 1) (T.pi 12 ((i : Int) + 1) (T.nil (QN.back (i + 1, out ++ ([(⟨s, (r : Int), (cc : Int), ((nvL a 4 (r : Int) (cc : Int))[i]'hl8)⟩ : Oc)]), A19, c20, Hr21) ?_ ?_ (by kernel_rfl) (fun w h => (h.perm (((((pm0.cons _).trans List.perm_middle.symm).append_left Hr21).trans (List.perm_append_comm_assoc _ _ _)).trans (pm0.append_left Hr5))).part (List.Sublist.append (List.Sublist.refl _) (List.Sublist.append (List.Sublist.refl _) (List.nil_sublist _))))))))))))))))))
     ·
      try dsimp only
      exact ⟨by omega, ocI_yes (by omega) hout h13, by rw [List.length_append, List.length_singleton]; omega, hrow22⟩
     · show (nvL a 4 (r : Int) (cc : Int)).length - _ < (nvL a 4 (r : Int) (cc : Int)).length - _; omega
    ·
     have h13' := of_decide_eq_false h13
     refine W.skip (QN.blkNormal (QN.seq (W.rg od3 (T.pi 32 i (T.pw 33 ((i : Int) + 1) (T.pi 12 ((i : Int) + 1) (T.nil (QN.back (i + 1, out, A7, c7, Hr7) ?_ ?_ (by kernel_rfl) (fun w h => h)))))))))
     ·
      try dsimp only
      exact ⟨by omega, ocI_no (by omega) hout h13, by omega, hrow7⟩
     · show (nvL a 4 (r : Int) (cc : Int)).length - _ < (nvL a 4 (r : Int) (cc : Int)).length - _; omega
   ·
    have h7' := of_decide_eq_false h7
    refine W.exit (QN.thenExit (QN.thenExit (QN.blkHit (QN.blkNormal (QN.seq (W.rg od3 (T.pi 22 cc (T.pw 23 ((cc : Int) + 1) (T.pi 10 ((cc : Int) + 1) (T.nil (QN.back (cc + 1, out, A7, c7, Hr7) ?_ ?_ (by kernel_rfl) (fun w h => (h.perm ((pm0.append_left Hr5).trans (List.perm_append_comm_assoc _ _ _))).part (List.Sublist.append (List.Sublist.refl _) (List.nil_sublist _))))))))))))))
    ·
     try dsimp only
     exact ⟨by omega, by rw [hout]; exact ocC_step (by omega), by omega, hrow7⟩
    · show 2 - _ < 2 - _; omega
  ·
   have h2' := of_decide_eq_false h2
   refine W.exit (QN.thenExit (QN.thenExit (QN.blkHit (QN.blkNormal (QN.seq (W.rg od3 (T.pi 18 r (T.pw 19 ((r : Int) + 1) (T.pi 9 ((r : Int) + 1) (T.nil (QN.back (r + 1, out, A7, c7, Hr7) ?_ ?_ (by kernel_rfl) (fun w h => h))))))))))))
   ·
    try dsimp only
    exact ⟨by omega, by omega, by rw [hout]; exact ocR_step (by omega) (by omega), by omega, hrow7⟩
   · show 13 - _ < 13 - _; omega
 ·
  have h1' := of_decide_eq_false h1
  refine W.exit (QN.thenExit (QN.thenExit (QN.blkHit (QN.seq (W.seq (W.rg od2 (T.pu 56 (.slice A7 out.length c7) (T.pu 6 (.slice A7 out.length c7) (T.nil (QN.seq (W.ret (QN.done (.inl rfl) 6 (.slice A7 out.length c7) rfl (by kernel_rfl) (fun w hw => ?_)))))))))))))
  exact (have e1 : out = ocL m a s := (by rw [hout, show r - 1 = 12 by omega]; rfl); by rw [← e1]; exact ⟨A7, c7, Hr7, rfl, hrow7, hw.part (List.sublist_append_left _ _)⟩)
set_option maxRecDepth 100000 in
set_option maxHeartbeats 2000000 in
theorem routcomes_c (m : Int) (p : Nm) (l : List Vt) (s : Int) (A : Option Addr) (c : Nat) (w : World) (hm : W64 m) (hok : ∀ u ∈ l, W64 u.support) (hl : l.length ≤ 1000) (hr : Rd w A l) : Calls Tryz.prog 12 #[.int .i64 m, .agg p.cs, .slice A l.length c, .int .i64 s] w (fun rr w' => ∃ A c Hr, rr = .returned (.slice A (outV m p l s).length c) ∧ RowIs 27 11 A (outV m p l s).length c (cells (outV m p l s)) Hr ∧ St w Hr w') := by
 have hal := accV_len m p l
 have hsl := slV_len m p l s
 unfold slV at hsl
 refine calls_W (n := 18) Tryz.func12 rfl [(0, .int .i64 m), (1, .agg p.cs), (2, .slice A l.length c), (3, .int .i64 s)] rfl ⟨by kernel_rfl, by kernel_rfl⟩ (W.weak (Ψ := St w []) (fun w' h => by rw [h]; exact St.start w) (W.seq (W.rg od2 (T.bx 5 24 (.agg p.cs) (p.cs) tv3 (fun b1 => T.pu 8 (.slice none 0 0) (T.nil (QN.seq (W.seq (W.rg od10 (T.pi 9 m (T.pi 10 m (T.lr false 11 p.cs 24 b1 0 (fun w h => St.rangeM h p.cs mm0 (by kernel_rfl)) (T.pu 12 (.slice A l.length c) (T.callR 13 25 #[.int .i64 m, .agg p.cs, .slice A l.length c] 43 22 (accV m p l).length (cells (accV m p l)) (by kernel_rfl) (by kernel_rfl) ent25 (fun w hw => raccepted_c m p l A c w (by assumption) hok (by first | omega | (simp; done) | (simp; omega)) (Arr.rd (Rd.arr hr _) hw)) tv3 (fun A2 c3 Hr4 hrow5 => T.pi 14 s (T.callR 15 24 #[.slice A2 ((accV m p l).length) c3, .int .i64 s] 43 22 ((accV m p l).filter (slP s)).length (cells ((accV m p l).filter (slP s))) (by kernel_rfl) (by kernel_rfl) ent24 (fun w hw => rslot_c (accV m p l) s A2 c3 w (by first | omega | (simp; done) | (simp; omega)) (Arr.rd (Arr.row hrow5 rfl rfl _) hw)) tv3 (fun A6 c7 Hr8 hrow9 => T.pi 16 s (T.callR 17 34 #[.int .i64 m, .slice A6 (((accV m p l).filter (slP s)).length) c7, .int .i64 s] 27 11 (ocL m ((accV m p l).filter (slP s)) s).length (cells (ocL m ((accV m p l).filter (slP s)) s)) (by kernel_rfl) (by kernel_rfl) ent34 (fun w hw => routof_c m ((accV m p l).filter (slP s)) s A6 c7 w (by assumption) slV_sg (by first | omega | (simp; done) | (simp; omega)) (Arr.rd (Arr.row hrow9 rfl rfl _) hw)) tv3 (fun A10 c11 Hr12 hrow13 => T.pu 8 (.slice A10 ((ocL m ((accV m p l).filter (slP s)) s).length) c11) (T.nil (QN.seq (W.ret (QN.done (.inl rfl) 8 (.slice A10 ((ocL m ((accV m p l).filter (slP s)) s).length) c11) rfl (by kernel_rfl) (fun w hw => ?_))))))))))))))))))))))))
 exact (have e1 : ocL m ((accV m p l).filter (slP s)) s = outV m p l s := out_eq m p l s; by rw [← e1]; exact ⟨A10, c11, Hr12, rfl, hrow13, hw.part (List.sublist_append_left _ _)⟩)
set_option maxRecDepth 100000 in
set_option maxHeartbeats 2000000 in
theorem rdecided_c (m : Int) (p : Nm) (l : List Vt) (o : Oc) (A : Option Addr) (c : Nat) (w : World) (hm : W64 m) (hok : ∀ u ∈ l, W64 u.support) (hl : l.length ≤ 1000) (hr : Rd w A l) : Calls Tryz.prog 10 #[.int .i64 m, .agg p.cs, .slice A l.length c, .agg o.cs] w (fun rr w' => rr = .returned (.bool (decB m p l o)) ∧ Below w.heap.size w w') := by
 have hov := outV_len m p l o.slot
 refine calls_W (n := 29) Tryz.func10 rfl [(0, .int .i64 m), (1, .agg p.cs), (2, .slice A l.length c), (3, .agg o.cs)] rfl ⟨by kernel_rfl, by kernel_rfl⟩ (W.weak (Ψ := St w []) (fun w' h => by rw [h]; exact St.start w) (W.seq (W.rg od3 (T.bx 5 24 (.agg p.cs) (p.cs) tv3 (fun b1 => T.bx 7 27 (.agg o.cs) (o.cs) tv3 (fun b2 => T.pb 8 false (T.nil (QN.seq (W.seq (W.rg od7 (T.pi 11 m (T.lr false 12 p.cs 24 b1 0 (fun w h => St.rangeM h p.cs mm1 (by kernel_rfl)) (T.pu 13 (.slice A l.length c) (T.pu 14 (.pointer (some ⟨b2, 0, none⟩)) (T.ld false 15 (.int .i64 o.slot) 3 b2 0 (fun w h => St.cellM h mm0 (by kernel_rfl)) (T.callR 16 12 #[.int .i64 m, .agg p.cs, .slice A l.length c, .int .i64 o.slot] 27 11 (outV m p l o.slot).length (cells (outV m p l o.slot)) (by kernel_rfl) (by kernel_rfl) ent12 (fun w hw => routcomes_c m p l o.slot A c w (by assumption) hok (by first | omega | (simp; done) | (simp; omega)) (Arr.rd (Rd.arr hr _) hw)) tv3 (fun A3 c4 Hr5 hrow6 => T.pu 9 (.slice A3 ((outV m p l o.slot).length) c4) (T.nil (QN.seq (W.seq (W.seq (W.rg od1 (T.pi 10 0 (T.nil (QN.seq (W.block (W.loop (σ := Nat) (fun gs => gs ≤ (outV m p l o.slot).length ∧ ((outV m p l o.slot).take gs).any (fun x => x == o) = false) (fun gs => [(7, .pointer (some ⟨b2, 0, none⟩)), (9, .slice A3 ((outV m p l o.slot).length) c4), (10, .int .i64 gs)]) (fun gs => St w (Hr5 ++ [(b2, Obj.cells o.cs 27 (0, 0)), (b1, Obj.cells p.cs 24 (0, 0))])) (fun gs => (outV m p l o.slot).length - gs) 0 ?_ (by kernel_rfl) (fun w h => h) ?_)))))))))))))))))))))))))))
 ·
  try dsimp only
  exact ⟨Nat.zero_le _, any_zero _ _⟩
 rintro j hI_
 obtain ⟨hj, hany⟩ : j ≤ (outV m p l o.slot).length ∧ ((outV m p l o.slot).take j).any (fun x => x == o) = false := hI_
 refine W.seq (W.seq (W.rg od4 (T.pi 17 j (T.pu 18 (.slice A3 ((outV m p l o.slot).length) c4) (T.pi 19 (((outV m p l o.slot).length : Nat) : Int) (T.pb 20 (decide ((j : Int) < (((outV m p l o.slot).length : Nat) : Int))) (T.nil (QN.seq (W.cd (decide ((j : Int) < (((outV m p l o.slot).length : Nat) : Int))) (fun h7 => ?_) (fun h7 => ?_))))))))))
 ·
  have h7' := of_decide_eq_true h7
  have hl8 : j < (outV m p l o.slot).length := by omega
  refine W.skip (QN.seq (W.seq (W.block (W.seq (W.drawn (Ψ := St w (Hr5 ++ [(b2, Obj.cells o.cs 27 (0, 0)), (b1, Obj.cells p.cs 24 (0, 0))])) (St w (Hr5 ++ [(b2, Obj.cells o.cs 27 (0, 0)), (b1, Obj.cells p.cs 24 (0, 0))])) [(0, true), (1, true), (2, true), (3, true), (4, true), (5, true)] hmx (by kernel_rfl) (NoPanic.then (NoPanic.inBlock (NoPanic.then (NoPanic.then (NoPanic.inBlock (NoPanic.then NoPanic.body)))))) (fun w h => h.drew) (fun w h => h) (T.pu 23 (.slice A3 ((outV m p l o.slot).length) c4) (T.pi 24 j ?_)))))))
  obtain ⟨b9, o10, hA11, hr12⟩ := (Arr.row hrow6 rfl rfl _) j hl8
  refine T.ix 25 34 27 11 A3 ((outV m p l o.slot).length) c4 (j : Int) j b9 o10 hA11 rfl (by omega) (T.lr true 26 ((outV m p l o.slot)[j]'hl8).cs 27 b9 (o10 + j * 11) hr12 (T.lr true 27 o.cs 27 b2 0 (fun w h => St.rangeM h o.cs (List.mem_append_right _ mm0) (by kernel_rfl)) (T.eqq 28 (((outV m p l o.slot)[j]'hl8) == o) (((outV m p l o.slot)[j]'hl8) == o) false 27 ((outV m p l o.slot)[j]'hl8).cs o.cs (by kernel_rfl) (by kernel_rfl) (by kernel_rfl) (by kernel_rfl) (fun w => eq_oc w ((outV m p l o.slot)[j]'hl8) o) (T.nil (QN.seq (W.cd (((outV m p l o.slot)[j]'hl8) == o) (fun h13 => ?_) (fun h13 => ?_)))))))
  ·
   refine W.seq (W.rg od1 (T.pb 8 true (T.nil (QN.seq (W.ret (QN.blkRet (QN.thenRet (QN.thenRet (QN.blkRet (QN.thenRet (QN.done (.inl rfl) 8 (.bool true) rfl (by kernel_rfl) (fun w hw => ⟨?_, hw.below⟩))))))))))))
   exact ret_bool (any_hit (p := fun x => x == o) (by omega) h13).symm
  ·
   refine W.skip (QN.blkNormal (QN.seq (W.rg od3 (T.pi 21 j (T.pw 22 ((j : Int) + 1) (T.pi 10 ((j : Int) + 1) (T.nil (QN.back (j + 1) ?_ ?_ (by kernel_rfl) (fun w h => h)))))))))
   ·
    try dsimp only
    exact ⟨by omega, any_step hany (by omega) h13⟩
   · show (outV m p l o.slot).length - (j + 1) < (outV m p l o.slot).length - j; omega
 ·
  have h7' := of_decide_eq_false h7
  refine W.exit (QN.thenExit (QN.thenExit (QN.blkHit (QN.seq (W.seq (W.rg od1 (T.pb 8 false (T.nil (QN.seq (W.ret (QN.done (.inl rfl) 8 (.bool false) rfl (by kernel_rfl) (fun w hw => ⟨?_, hw.below⟩))))))))))))
  exact ret_bool (any_end hany (by omega)).symm
end Go.Proofs.YtphnfhonmbbddaaGreat
