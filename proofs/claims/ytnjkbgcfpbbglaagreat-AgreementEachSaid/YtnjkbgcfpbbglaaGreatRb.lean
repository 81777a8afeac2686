/- The reference: Proposals, Echoers, Certified. -/
import Derived.Test.YtnjkbgcfpbbglaaGreatRs
namespace Go.Proofs.YtnjkbgcfpbbglaaGreat
open Go Go.RowKit
set_option linter.unusedVariables false

def ceP (m : Int) (a : List Vt) (x : Nm) : Bool := decide (quorum (size m) ≤ (size (whoM a 2 0 (isV ⟨1, x⟩)) : Int))
def ceL (m : Int) (a : List Vt) : List Nm := (nvL a 2 0 1).filter (ceP m a)
theorem filtN_yes {p : Nm → Bool} {l all : List Nm} {j : Nat} (hj : j < l.length) (h : all = (l.take j).filter p) (hp : p l[j] = true) : all ++ [l[j]] = (l.take (j + 1)).filter p := by
  rw [List.take_succ_eq_append_getElem hj, List.filter_append, ← h]; simp [hp]
theorem filtN_no {p : Nm → Bool} {l all : List Nm} {j : Nat} (hj : j < l.length) (h : all = (l.take j).filter p) (hp : p l[j] = false) : all = (l.take (j + 1)).filter p := by
  rw [List.take_succ_eq_append_getElem hj, List.filter_append, ← h]; simp [hp]
theorem sgMask_whoB {κ : Type} [Cel κ] [DecidableEq κ] {f : Vt → Option κ} {o : κ} {k r : Int} {F : Vt → Bool} (a : List Vt) (h : ∀ v ∈ a, f v = some o ↔ whoP k r F v = true) : sgMask f a o = whoM a k r F := by
  refine snocI (p := fun a => (∀ v ∈ a, f v = some o ↔ whoP k r F v = true) → sgMask f a o = whoM a k r F) (fun _ => rfl) (fun a v ih => fun h => ?_) a h
  have ih' := ih fun u hu => h u (by simp [hu])
  have hv := h v (by simp)
  rw [sgMask_snoc, whoM_snoc, ih']
  cases hw : whoP k r F v with
  | true => rw [if_pos (hv.2 hw)]; rfl
  | false => rw [if_neg (fun e => by rw [hv.1 e] at hw; cases hw)]; rfl
theorem low_rc {u : Vt} (h : validB u = true) (hk : u.kind = 1 ∨ u.kind = 2) : u.round = 0 ∧ u.choice = 1 := by
  unfold validB restB btw at h
  rcases hk with hk | hk <;> simp [hk] at h <;> omega
theorem low_val {u : Vt} (h : validB u = true) (hk : u.kind = 1 ∨ u.kind = 2) : u.val ≠ Nm.zero := by
  have hc := (low_rc h hk).2
  intro e
  unfold validB at h
  simp [hc, e] at h
theorem ech_eq (m : Int) (p : Nm) (l : List Vt) (s : Int) (x : Nm) : whoM ((accV m p l).filter (slP s)) 2 0 (isV ⟨1, x⟩) = echV m p l s x := by
  have e0 : (accV m p l).filter (slP s) = bsV m p l s := accV_slot m p l s
  unfold echV
  rw [e0, sgMap_val]
  refine (sgMask_whoB _ fun v hv => ?_).symm
  have hval := ((accB m p s l).ok v hv).1
  rw [kOf_some]
  unfold whoP
  rw [isV_eq]
  constructor
  · rintro ⟨h1, h2⟩
    have := low_rc hval (.inr h1)
    simp [h1, h2, this.1, this.2]
  · intro h
    simp only [Bool.and_eq_true, beq_iff_eq] at h
    exact ⟨h.1.1, h.2.2⟩
theorem pk_sn {q : Int} {mp : List (Nm × Int)} (h : (mp.map (·.1)).Nodup) : SN (pkV q mp) := List.pairwise_iff_getElem.2 fun i j hi hj hij => pk_asc h hi hj hij
theorem pro_eq (m : Int) (p : Nm) (l : List Vt) (s : Int) : nvL ((accV m p l).filter (slP s)) 1 0 1 = proV m p l s := by
  have e0 : (accV m p l).filter (slP s) = bsV m p l s := accV_slot m p l s
  rw [e0]
  refine sn_ext (nvL_sn _ _ _ _) (pk_sn (sgMap_keys _ _)) fun x => ?_
  rw [nvL_mem, pro_mem]
  constructor
  · rintro ⟨u, hu, h1, h2⟩
    have hval := ((accB m p s l).ok u hu).1
    unfold nvP at h1
    simp only [Bool.and_eq_true, beq_iff_eq] at h1
    exact ⟨⟨u, hu, h1.1.1, h2⟩, h2 ▸ low_val hval (.inl h1.1.1)⟩
  · rintro ⟨⟨u, hu, h1, h2⟩, _⟩
    have hval := ((accB m p s l).ok u hu).1
    have := low_rc hval (.inl h1)
    exact ⟨u, hu, by simp [nvP, h1, this.1, this.2], h2⟩
theorem cer_eq (m : Int) (p : Nm) (l : List Vt) (s : Int) : ceL m ((accV m p l).filter (slP s)) = cerV m p l s := by
  unfold ceL
  refine sn_ext ((nvL_sn _ _ _ _).filter _) (pk_sn (sgMap_keys _ _)) fun x => ?_
  have he := ech_eq m p l s x
  have e0 : (accV m p l).filter (slP s) = bsV m p l s := accV_slot m p l s
  rw [List.mem_filter, nvL_mem, cer_mem]
  unfold ceP
  rw [he, decide_eq_true_eq, e0]
  constructor
  · rintro ⟨⟨u, hu, h1, h2⟩, hq⟩
    have hval := ((accB m p s l).ok u hu).1
    unfold nvP at h1
    simp only [Bool.and_eq_true, beq_iff_eq] at h1
    exact ⟨⟨u, hu, h1.1.1, h2⟩, h2 ▸ low_val hval (.inr h1.1.1), hq⟩
  · rintro ⟨⟨u, hu, h1, h2⟩, _, hq⟩
    have hval := ((accB m p s l).ok u hu).1
    have := low_rc hval (.inr h1)
    exact ⟨⟨u, hu, by simp [nvP, h1, this.1, this.2], h2⟩, hq⟩
set_option maxRecDepth 100000 in
set_option maxHeartbeats 2000000 in
theorem rcert_c (m : Int) (a : List Vt) (A : Option Addr) (c : Nat) (w : World) (hm : W64 m) (hsg : ∀ u ∈ a, 0 ≤ u.signer ∧ u.signer < 10) (ha : a.length ≤ 1000) (hr : Rd w A a) : Calls Tryz.prog 57 #[.int .i64 m, .slice A a.length c] w (fun rr w' => ∃ A c Hr, rr = .returned (.slice A (ceL m a).length c) ∧ RowIs 24 8 A (ceL m a).length c (cells (ceL m a)) Hr ∧ St w Hr w') := by
 have hz := size_le m
 refine calls_W (n := 35) Tryz.func57 rfl [(0, .int .i64 m), (1, .slice A a.length c)] rfl ⟨by kernel_rfl, by kernel_rfl⟩ (W.weak (Ψ := St w []) (fun w' h => by rw [h]; exact St.start w) (W.seq (W.rg od1 (T.pu 4 (.slice none 0 0) (T.nil (QN.seq (W.seq (W.rg od1 (T.pu 5 (.slice none 0 0) (T.nil (QN.seq (W.seq (W.rg od3 (T.pu 8 (.slice A a.length c) (T.callR 9 53 #[.slice A a.length c, .int .i64 2, .int .i64 0, .int .i64 1] 24 8 (nvL a 2 0 1).length (cells (nvL a 2 0 1)) (by kernel_rfl) (by kernel_rfl) ent53 (fun w hw => rvalues_c a 2 0 1 A c w (by first | omega | (simp; done) | (simp; omega)) (Arr.rd (Rd.arr hr _) hw)) tv3 (fun A1 c2 Hr3 hrow4 => T.pu 6 (.slice A1 ((nvL a 2 0 1).length) c2) (T.nil (QN.seq (W.seq (W.seq (W.rg od1 (T.pi 7 0 (T.nil (QN.seq (W.block ?_)))))))))))))))))))))))))
 have hvl := nvL_len a 2 0 1
 refine W.loop (σ := Nat × List Nm × Option Addr × Nat × List (Nat × Obj)) (fun gs => gs.1 ≤ (nvL a 2 0 1).length ∧ gs.2.1 = ((nvL a 2 0 1).take gs.1).filter (ceP m a) ∧ RowIs 24 8 gs.2.2.1 gs.2.1.length gs.2.2.2.1 (cells gs.2.1) gs.2.2.2.2) (fun gs => [(0, .int .i64 m), (1, .slice A a.length c), (4, .slice none 0 0), (5, .slice gs.2.2.1 gs.2.1.length gs.2.2.2.1), (6, .slice A1 ((nvL a 2 0 1).length) c2), (7, .int .i64 (gs.1 : Int))]) (fun gs => St w (gs.2.2.2.2 ++ (Hr3 ++ []))) (fun gs => (nvL a 2 0 1).length - gs.1) (0, [], none, 0, []) ?_ (by kernel_rfl) (fun w h => h) ?_
 ·
  try dsimp only
  exact ⟨Nat.zero_le _, rfl, RowIs.nil⟩
 rintro ⟨i, out, A7, c7, Hr7⟩ hI_
 obtain ⟨hi, hout, hrow7⟩ : i ≤ (nvL a 2 0 1).length ∧ out = ((nvL a 2 0 1).take i).filter (ceP m a) ∧ RowIs 24 8 A7 out.length c7 (cells out) Hr7 := hI_
 have hol : out.length ≤ i := by rw [hout]; exact Nat.le_trans (List.length_filter_le _ _) (List.length_take_le _ _)
 refine W.seq (W.seq (W.rg od4 (T.pi 10 i (T.pu 11 (.slice A1 ((nvL a 2 0 1).length) c2) (T.pi 12 (((nvL a 2 0 1).length : Nat) : Int) (T.pb 13 (decide ((i : Int) < (((nvL a 2 0 1).length : Nat) : Int))) (T.nil (QN.seq (W.cd (decide ((i : Int) < (((nvL a 2 0 1).length : Nat) : Int))) (fun h5 => ?_) (fun h5 => ?_))))))))))
 ·
  have h5' := of_decide_eq_true h5
  have hl6 : i < (nvL a 2 0 1).length := by omega
  refine W.skip (QN.seq (W.seq (W.block (W.seq (W.rg od11 (T.pu 16 (.slice A a.length c) (T.pu 17 (.slice A1 ((nvL a 2 0 1).length) c2) (T.pi 18 i ?_))))))))
  obtain ⟨b7, o8, hA9, hr10⟩ := (show Arr (St _ (Hr7 ++ (Hr3 ++ []))) A1 (nvL a 2 0 1) from (Arr.row hrow4 rfl rfl (Hr7 ++ [])).weak (fun w h => h.perm ((pm0.append_left Hr7).trans (List.perm_append_comm_assoc _ _ _)))) i hl6
  refine T.ix 19 28 24 8 A1 ((nvL a 2 0 1).length) c2 (i : Int) i b7 o8 hA9 rfl (by omega) (T.lr false 20 ((nvL a 2 0 1)[i]'hl6).cs 24 b7 (o8 + i * 8) hr10 (T.cp 21 58 #[.slice A a.length c, .int .i64 2, .int .i64 0, .int .i64 1, .agg ((nvL a 2 0 1)[i]'hl6).cs] (.int .i64 (whoM a 2 0 (isV ⟨1, ((nvL a 2 0 1)[i]'hl6)⟩))) ent58 (fun w hw => rwho_c a 2 0 1 ((nvL a 2 0 1)[i]'hl6) A c w hsg (by first | omega | (simp; done) | (simp; omega)) (Arr.rd (Rd.arr hr _) hw)) tv2 (T.cp 22 74 #[.int .i64 (whoM a 2 0 (isV ⟨1, ((nvL a 2 0 1)[i]'hl6)⟩))] (.int .i64 (size (whoM a 2 0 (isV ⟨1, ((nvL a 2 0 1)[i]'hl6)⟩)) : Int)) ent74 (fun w hw => rsize_c _ (w64_rwho _ _ _ _) w) tv2 (T.pi 23 m (T.cp 24 74 #[.int .i64 m] (.int .i64 (size m : Int)) ent74 (fun w hw => rsize_c _ (by assumption) w) tv2 (T.cp 25 73 #[.int .i64 (size m : Int)] (.int .i64 (quorum (size m : Int))) ent73 (fun w hw => Ret.same (rquorum_c _ w (by unfold W64; omega))) tv2 (T.pb 26 (decide ((quorum (size m : Int)) ≤ (size (whoM a 2 0 (isV ⟨1, ((nvL a 2 0 1)[i]'hl6)⟩)) : Int))) (T.nil (QN.seq (W.cd (decide ((quorum (size m : Int)) ≤ (size (whoM a 2 0 (isV ⟨1, ((nvL a 2 0 1)[i]'hl6)⟩)) : Int))) (fun h11 => ?_) (fun h11 => ?_)))))))))))
  ·
   have h11' := of_decide_eq_true h11
   refine W.rg od8 (T.pu 27 (.slice A7 out.length c7) (T.pu 28 (.slice A1 ((nvL a 2 0 1).length) c2) (T.pi 29 i ?_)))
   obtain ⟨b12, o13, hA14, hr15⟩ := (show Arr (St _ (Hr7 ++ (Hr3 ++ []))) A1 (nvL a 2 0 1) from (Arr.row hrow4 rfl rfl (Hr7 ++ [])).weak (fun w h => h.perm ((pm0.append_left Hr7).trans (List.perm_append_comm_assoc _ _ _)))) i hl6
   refine T.ix 30 28 24 8 A1 ((nvL a 2 0 1).length) c2 (i : Int) i b12 o13 hA14 rfl (by omega) (T.lr false 31 ((nvL a 2 0 1)[i]'hl6).cs 24 b12 (o13 + i * 8) hr15 (T.lit 32 28 24 1 #[(0, .agg ((nvL a 2 0 1)[i]'hl6).cs)] (cells ([((nvL a 2 0 1)[i]'hl6)] : List Nm)).toArray (by kernel_rfl) (by kernel_rfl) (by kernel_rfl) (by kernel_rfl) tv3 (fun b16 => T.appC 33 28 24 8 A7 c7 (out : List Nm) Hr7 b16 0 1 ([((nvL a 2 0 1)[i]'hl6)] : List Nm) ((pm0.cons _).trans List.perm_middle.symm) (by kernel_rfl) (by kernel_rfl) (by kernel_rfl) (by kernel_rfl) hrow7 (fun w h => St.rangeM h (cells ([((nvL a 2 0 1)[i]'hl6)] : List Nm)).toArray (List.mem_append_right _ mm0) (by kernel_rfl)) (by unfold maxLen; first | omega | (simp; omega)) (by first | omega | (simp; omega)) tv3 (fun A17 c18 Hr19 hrow20 => T.pu 5 (.slice A17 ((out ++ ([((nvL a 2 0 1)[i]'hl6)])).length) c18) (T.nil (QN.blkNormal (QN.seq (W.rg od3 (T.pi 14 i (T.pw 15 ((i : Int) + 1) (T.pi 7 ((i : Int) + 1) (T.nil (QN.back (i + 1, out ++ ([((nvL a 2 0 1)[i]'hl6)]), A17, c18, Hr19) ?_ ?_ (by kernel_rfl) (fun w h => (h.perm (pm0.trans (((pm0.cons _).trans List.perm_middle.symm).append_left Hr19))).part (List.Sublist.append (List.Sublist.refl _) (List.Sublist.append (List.Sublist.refl _) (List.nil_sublist _)))))))))))))))))
   ·
    try dsimp only
    exact ⟨by omega, filtN_yes (p := ceP m a) (by omega) hout h11, hrow20⟩
   · show (nvL a 2 0 1).length - _ < (nvL a 2 0 1).length - _; omega
  ·
   have h11' := of_decide_eq_false h11
   refine W.skip (QN.blkNormal (QN.seq (W.rg od3 (T.pi 14 i (T.pw 15 ((i : Int) + 1) (T.pi 7 ((i : Int) + 1) (T.nil (QN.back (i + 1, out, A7, c7, Hr7) ?_ ?_ (by kernel_rfl) (fun w h => h)))))))))
   ·
    try dsimp only
    exact ⟨by omega, filtN_no (p := ceP m a) (by omega) hout h11, hrow7⟩
   · show (nvL a 2 0 1).length - _ < (nvL a 2 0 1).length - _; omega
 ·
  have h5' := of_decide_eq_false h5
  refine W.exit (QN.thenExit (QN.thenExit (QN.blkHit (QN.seq (W.seq (W.rg od2 (T.pu 34 (.slice A7 out.length c7) (T.pu 4 (.slice A7 out.length c7) (T.nil (QN.seq (W.ret (QN.done (.inl rfl) 4 (.slice A7 out.length c7) rfl (by kernel_rfl) (fun w hw => ?_)))))))))))))
  exact (have e1 : out = ceL m a := (by rw [hout, take_end (by omega)]; rfl); by rw [← e1]; exact ⟨A7, c7, Hr7, rfl, hrow7, hw.part (List.sublist_append_left _ _)⟩)
set_option maxRecDepth 100000 in
set_option maxHeartbeats 2000000 in
theorem rproposals_c (m : Int) (p : Nm) (l : List Vt) (s : Int) (A : Option Addr) (c : Nat) (w : World) (hm : W64 m) (hok : ∀ u ∈ l, W64 u.support) (hl : l.length ≤ 1000) (hr : Rd w A l) : Calls Tryz.prog 17 #[.int .i64 m, .agg p.cs, .slice A l.length c, .int .i64 s] w (fun rr w' => ∃ A c Hr, rr = .returned (.slice A (proV m p l s).length c) ∧ RowIs 24 8 A (proV m p l s).length c (cells (proV m p l s)) Hr ∧ St w Hr w') := by
 have hal := accV_len m p l
 have hsl := slV_len m p l s
 unfold slV at hsl
 refine calls_W (n := 16) Tryz.func17 rfl [(0, .int .i64 m), (1, .agg p.cs), (2, .slice A l.length c), (3, .int .i64 s)] rfl ⟨by kernel_rfl, by kernel_rfl⟩ (W.weak (Ψ := St w []) (fun w' h => by rw [h]; exact St.start w) (W.seq (W.rg od2 (T.bx 5 24 (.agg p.cs) (p.cs) tv3 (fun b1 => T.pu 8 (.slice none 0 0) (T.nil (QN.seq (W.seq (W.rg od8 (T.pi 9 m (T.lr false 10 p.cs 24 b1 0 (fun w h => St.rangeM h p.cs mm0 (by kernel_rfl)) (T.pu 11 (.slice A l.length c) (T.callR 12 26 #[.int .i64 m, .agg p.cs, .slice A l.length c] 47 22 (accV m p l).length (cells (accV m p l)) (by kernel_rfl) (by kernel_rfl) ent26 (fun w hw => raccepted_c m p l A c w (by assumption) hok (by first | omega | (simp; done) | (simp; omega)) (Arr.rd (Rd.arr hr _) hw)) tv3 (fun A2 c3 Hr4 hrow5 => T.pi 13 s (T.callR 14 54 #[.slice A2 ((accV m p l).length) c3, .int .i64 s] 47 22 ((accV m p l).filter (slP s)).length (cells ((accV m p l).filter (slP s))) (by kernel_rfl) (by kernel_rfl) ent54 (fun w hw => rslot_c (accV m p l) s A2 c3 w (by first | omega | (simp; done) | (simp; omega)) (Arr.rd (Arr.row hrow5 rfl rfl _) hw)) tv3 (fun A6 c7 Hr8 hrow9 => T.callR 15 53 #[.slice A6 (((accV m p l).filter (slP s)).length) c7, .int .i64 1, .int .i64 0, .int .i64 1] 24 8 (nvL ((accV m p l).filter (slP s)) 1 0 1).length (cells (nvL ((accV m p l).filter (slP s)) 1 0 1)) (by kernel_rfl) (by kernel_rfl) ent53 (fun w hw => rvalues_c ((accV m p l).filter (slP s)) 1 0 1 A6 c7 w (by first | omega | (simp; done) | (simp; omega)) (Arr.rd (Arr.row hrow9 rfl rfl _) hw)) tv3 (fun A10 c11 Hr12 hrow13 => T.pu 8 (.slice A10 ((nvL ((accV m p l).filter (slP s)) 1 0 1).length) c11) (T.nil (QN.seq (W.ret (QN.done (.inl rfl) 8 (.slice A10 ((nvL ((accV m p l).filter (slP s)) 1 0 1).length) c11) rfl (by kernel_rfl) (fun w hw => ?_))))))))))))))))))))))
 exact (have e1 : nvL ((accV m p l).filter (slP s)) 1 0 1 = proV m p l s := pro_eq m p l s; by rw [← e1]; exact ⟨A10, c11, Hr12, rfl, hrow13, hw.part (List.sublist_append_left _ _)⟩)
set_option maxRecDepth 100000 in
set_option maxHeartbeats 2000000 in
theorem rcertified_c (m : Int) (p : Nm) (l : List Vt) (s : Int) (A : Option Addr) (c : Nat) (w : World) (hm : W64 m) (hok : ∀ u ∈ l, W64 u.support) (hl : l.length ≤ 1000) (hr : Rd w A l) : Calls Tryz.prog 19 #[.int .i64 m, .agg p.cs, .slice A l.length c, .int .i64 s] w (fun rr w' => ∃ A c Hr, rr = .returned (.slice A (cerV m p l s).length c) ∧ RowIs 24 8 A (cerV m p l s).length c (cells (cerV m p l s)) Hr ∧ St w Hr w') := by
 have hal := accV_len m p l
 have hsl := slV_len m p l s
 unfold slV at hsl
 refine calls_W (n := 17) Tryz.func19 rfl [(0, .int .i64 m), (1, .agg p.cs), (2, .slice A l.length c), (3, .int .i64 s)] rfl ⟨by kernel_rfl, by kernel_rfl⟩ (W.weak (Ψ := St w []) (fun w' h => by rw [h]; exact St.start w) (W.seq (W.rg od2 (T.bx 5 24 (.agg p.cs) (p.cs) tv3 (fun b1 => T.pu 8 (.slice none 0 0) (T.nil (QN.seq (W.seq (W.rg od9 (T.pi 9 m (T.pi 10 m (T.lr false 11 p.cs 24 b1 0 (fun w h => St.rangeM h p.cs mm0 (by kernel_rfl)) (T.pu 12 (.slice A l.length c) (T.callR 13 26 #[.int .i64 m, .agg p.cs, .slice A l.length c] 47 22 (accV m p l).length (cells (accV m p l)) (by kernel_rfl) (by kernel_rfl) ent26 (fun w hw => raccepted_c m p l A c w (by assumption) hok (by first | omega | (simp; done) | (simp; omega)) (Arr.rd (Rd.arr hr _) hw)) tv3 (fun A2 c3 Hr4 hrow5 => T.pi 14 s (T.callR 15 54 #[.slice A2 ((accV m p l).length) c3, .int .i64 s] 47 22 ((accV m p l).filter (slP s)).length (cells ((accV m p l).filter (slP s))) (by kernel_rfl) (by kernel_rfl) ent54 (fun w hw => rslot_c (accV m p l) s A2 c3 w (by first | omega | (simp; done) | (simp; omega)) (Arr.rd (Arr.row hrow5 rfl rfl _) hw)) tv3 (fun A6 c7 Hr8 hrow9 => T.callR 16 57 #[.int .i64 m, .slice A6 (((accV m p l).filter (slP s)).length) c7] 24 8 (ceL m ((accV m p l).filter (slP s))).length (cells (ceL m ((accV m p l).filter (slP s)))) (by kernel_rfl) (by kernel_rfl) ent57 (fun w hw => rcert_c m ((accV m p l).filter (slP s)) A6 c7 w (by assumption) slV_sg (by first | omega | (simp; done) | (simp; omega)) (Arr.rd (Arr.row hrow9 rfl rfl _) hw)) tv3 (fun A10 c11 Hr12 hrow13 => T.pu 8 (.slice A10 ((ceL m ((accV m p l).filter (slP s))).length) c11) (T.nil (QN.seq (W.ret (QN.done (.inl rfl) 8 (.slice A10 ((ceL m ((accV m p l).filter (slP s))).length) c11) rfl (by kernel_rfl) (fun w hw => ?_)))))))))))))))))))))))
 exact (have e1 : ceL m ((accV m p l).filter (slP s)) = cerV m p l s := cer_eq m p l s; by rw [← e1]; exact ⟨A10, c11, Hr12, rfl, hrow13, hw.part (List.sublist_append_left _ _)⟩)
set_option maxRecDepth 100000 in
set_option maxHeartbeats 2000000 in
theorem rechoers_c (m : Int) (p : Nm) (l : List Vt) (s : Int) (x : Nm) (A : Option Addr) (c : Nat) (w : World) (hm : W64 m) (hok : ∀ u ∈ l, W64 u.support) (hl : l.length ≤ 1000) (hr : Rd w A l) : Calls Tryz.prog 21 #[.int .i64 m, .agg p.cs, .slice A l.length c, .int .i64 s, .agg x.cs] w (fun rr w' => rr = .returned (.int .i64 (echV m p l s x)) ∧ Below w.heap.size w w') := by
 have hal := accV_len m p l
 have hsl := slV_len m p l s
 unfold slV at hsl
 refine calls_W (n := 19) Tryz.func21 rfl [(0, .int .i64 m), (1, .agg p.cs), (2, .slice A l.length c), (3, .int .i64 s), (4, .agg x.cs)] rfl ⟨by kernel_rfl, by kernel_rfl⟩ (W.weak (Ψ := St w []) (fun w' h => by rw [h]; exact St.start w) (W.seq (W.rg od3 (T.bx 6 24 (.agg p.cs) (p.cs) tv3 (fun b1 => T.bx 9 24 (.agg x.cs) (x.cs) tv3 (fun b2 => T.pi 10 0 (T.nil (QN.seq (W.seq (W.drawn (Ψ := St w [(b2, Obj.cells x.cs 24 (0, 0)), (b1, Obj.cells p.cs 24 (0, 0))]) (St w [(b2, Obj.cells x.cs 24 (0, 0)), (b1, Obj.cells p.cs 24 (0, 0))]) [(0, true), (1, true), (2, true), (4, true), (6, true), (3, false), (5, false), (7, false), (8, false)] hmx (by kernel_rfl) (NoPanic.then NoPanic.body) (fun w h => h.drew) (fun w h => h) (T.pi 11 m (T.lr true 12 p.cs 24 b1 0 (fun w h => St.rangeM h p.cs mm1 (by kernel_rfl)) (T.pu 13 (.slice A l.length c) (T.pi 15 s (T.lr true 17 x.cs 24 b2 0 (fun w h => St.rangeM h x.cs mm0 (by kernel_rfl)) (T.callR 14 26 #[.int .i64 m, .agg p.cs, .slice A l.length c] 47 22 (accV m p l).length (cells (accV m p l)) (by kernel_rfl) (by kernel_rfl) ent26 (fun w hw => raccepted_c m p l A c w (by assumption) hok (by first | omega | (simp; done) | (simp; omega)) (Arr.rd (Rd.arr hr _) hw)) (fun Hr5 => (fun w h => (h.perm (((pm0.append_left Hr5).trans List.perm_middle).trans (((pm0.append_left Hr5).trans List.perm_middle).cons _))).part ns2)) (fun A3 c4 Hr5 hrow6 => T.callR 16 54 #[.slice A3 ((accV m p l).length) c4, .int .i64 s] 47 22 ((accV m p l).filter (slP s)).length (cells ((accV m p l).filter (slP s))) (by kernel_rfl) (by kernel_rfl) ent54 (fun w hw => rslot_c (accV m p l) s A3 c4 w (by first | omega | (simp; done) | (simp; omega)) (Arr.rd (Arr.row hrow6 rfl rfl _) hw)) (fun Hr9 => (fun w h => (h.perm (((((pm0.append_left Hr5).trans List.perm_middle).append_left Hr9).trans List.perm_middle).trans (((((pm0.append_left Hr5).trans List.perm_middle).append_left Hr9).trans List.perm_middle).cons _))).part ns2)) (fun A7 c8 Hr9 hrow10 => T.cp 18 58 #[.slice A7 (((accV m p l).filter (slP s)).length) c8, .int .i64 2, .int .i64 0, .int .i64 1, .agg x.cs] (.int .i64 (whoM ((accV m p l).filter (slP s)) 2 0 (isV ⟨1, x⟩))) ent58 (fun w hw => rwho_c ((accV m p l).filter (slP s)) 2 0 1 x A7 c8 w slV_sg (by first | omega | (simp; done) | (simp; omega)) (Arr.rd (Arr.row hrow10 rfl rfl _) hw)) (fun w h => (h.perm (((((pm0.append_left Hr5).trans List.perm_middle).append_left Hr9).trans List.perm_middle).trans (((((pm0.append_left Hr5).trans List.perm_middle).append_left Hr9).trans List.perm_middle).cons _))).part ns2) (T.pi 10 (whoM ((accV m p l).filter (slP s)) 2 0 (isV ⟨1, x⟩)) (T.nil (QN.seq (W.ret (QN.done (.inl rfl) 10 (.int .i64 (whoM ((accV m p l).filter (slP s)) 2 0 (isV ⟨1, x⟩))) rfl (by kernel_rfl) (fun w hw => ⟨?_, hw.below⟩))))))))))))))))))))))))
 exact ret_int (ech_eq m p l s x)
end Go.Proofs.YtnjkbgcfpbbglaaGreat
