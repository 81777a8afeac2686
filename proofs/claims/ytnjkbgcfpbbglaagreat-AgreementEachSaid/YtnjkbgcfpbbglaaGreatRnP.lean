/- Plain facts: what the reference votes next is what the program votes next. -/
import Derived.Test.YtnjkbgcfpbbglaaGreatRo
import Derived.Test.YtnjkbgcfpbbglaaGreatRb
import Derived.Test.YtnjkbgcfpbbglaaGreatAg3
namespace Go.Proofs.YtnjkbgcfpbbglaaGreat
open Go Go.RowKit
set_option linter.unusedVariables false

/-- A value as the reference carries it. -/
def vlVt (x : Vl) : Vt := ⟨0, 0, 0, x.ch, 0, 0, Nm.zero, x.nm⟩
def rkI (c : Int) (l : List Nm) : List Vt := l.map (fun x => (⟨0, 0, 0, c, 0, 0, Nm.zero, x⟩ : Vt))
def rkC (a : List Vt) (k r : Int) (n : Nat) : List Vt := (List.range n).flatMap (fun c : Nat => rkI (c : Int) (nvL a k r (c : Int)))
def rkL (a : List Vt) (k r : Int) : List Vt := rkC a k r 2
theorem rkC_step {a : List Vt} {k r : Int} {cc i : Nat} (hi : (nvL a k r (cc : Int)).length ≤ i) : rkC a k r cc ++ rkI (cc : Int) ((nvL a k r (cc : Int)).take i) = rkC a k r (cc + 1) := by
  rw [List.take_of_length_le hi]; unfold rkC; rw [rng_step]
theorem rkI_step {B out : List Vt} {c : Int} {V : List Nm} {i : Nat} (hi : i < V.length) (ho : out = B ++ rkI c (V.take i)) : out ++ [(⟨0, 0, 0, c, 0, 0, Nm.zero, V[i]⟩ : Vt)] = B ++ rkI c (V.take (i + 1)) := by
  rw [ho, List.append_assoc]
  unfold rkI
  rw [List.take_succ_eq_append_getElem hi, List.map_append]; rfl
theorem rkL_mem {a : List Vt} {k r : Int} {v : Vt} : v ∈ rkL a k r ↔ ∃ x : Vl, v = vlVt x ∧ (x.ch = 0 ∨ x.ch = 1) ∧ x.nm ∈ nvL a k r x.ch := by
  unfold rkL rkC rkI
  simp only [List.mem_flatMap, List.mem_range, List.mem_map]
  constructor
  · rintro ⟨c, hc, x, hx, rfl⟩
    exact ⟨⟨(c : Int), x⟩, rfl, by show (c : Int) = 0 ∨ (c : Int) = 1; omega, hx⟩
  · rintro ⟨x, rfl, h1, h2⟩
    have e : ((x.ch.toNat : Nat) : Int) = x.ch := by omega
    exact ⟨x.ch.toNat, by omega, x.nm, by rw [e]; exact h2, by unfold vlVt; rw [e]⟩
def vOf (v : Vt) : Vl := ⟨v.choice, v.val⟩
theorem vOf_vlVt (x : Vl) : vOf (vlVt x) = x := rfl
theorem vll_ch {x y : Vl} (h : x.ch < y.ch) : vlless x y = true := by
  unfold vlless keyV; rw [lexLt_ne (by omega)]; simpa using h
theorem vll_nm {x y : Vl} (h : x.ch = y.ch) (h2 : hless x.nm y.nm = true) : vlless x y = true := by
  unfold hless at h2
  rw [decide_eq_true_eq] at h2
  unfold vlless keyV; rw [h, lexLt_eq, lexLt_ne (by omega)]; simpa using h2
theorem rkL_pw (a : List Vt) (k r : Int) : (rkL a k r).Pairwise (fun x y => vlless (vOf x) (vOf y) = true) := by
  unfold rkL rkC
  rw [List.pairwise_flatMap]
  refine ⟨fun c _ => ?_, ?_⟩
  · unfold rkI
    rw [List.pairwise_map]
    refine List.Pairwise.imp ?_ (nvL_sn a k r (c : Int))
    intro x y h
    exact vll_nm rfl h
  · refine List.Pairwise.imp ?_ (List.pairwise_lt_range (n := 2))
    intro c d hcd x hx y hy
    unfold rkI at hx hy
    obtain ⟨x1, _, rfl⟩ := List.mem_map.1 hx
    obtain ⟨y1, _, rfl⟩ := List.mem_map.1 hy
    exact vll_ch (show (c : Int) < (d : Int) by omega)
theorem vlless_irr (x : Vl) : vlless x x = false := vlless_swo.irrefl x
theorem rk_eq {a : List Vt} {k r : Int} (hA : ∀ u ∈ a, u.kind = k → u.choice ≠ 2 → u.choice = 0 ∨ u.choice = 1) : rkL a k r = (valsL a k r).map vlVt := by
  have e1 : (rkL a k r).map vOf = valsL a k r := by
    have hp : ((rkL a k r).map vOf).Pairwise (fun x y => vlless x y = true) := by rw [List.pairwise_map]; exact rkL_pw a k r
    have hup : Up vlless ((rkL a k r).map vOf) := List.Pairwise.imp (fun {x y} hxy => by
      cases hc : vlless y x with
      | false => rfl
      | true => have := vlless_swo.trans _ _ _ hxy hc; rw [vlless_irr] at this; cases this) hp
    have hnd : ((rkL a k r).map vOf).Nodup := List.Pairwise.imp (fun {x y} hxy e => by subst e; rw [vlless_irr] at hxy; cases hxy) hp
    refine up_ext hup (swo_up vlless_swo _) ((List.perm_ext_iff_of_nodup hnd (valsL_nodup a k r)).2 fun x => ?_) (fun x _ y _ => vlless_tot)
    rw [List.mem_map, valsL_mem]
    constructor
    · rintro ⟨v, hv, rfl⟩
      obtain ⟨y, rfl, h1, h2⟩ := rkL_mem.1 hv
      obtain ⟨u, hu, h3, h4⟩ := (nvL_mem _ _ _ _ _).1 h2
      unfold nvP at h3
      simp only [Bool.and_eq_true, beq_iff_eq] at h3
      refine ⟨u, hu, ?_, ?_⟩
      · unfold vlP; simp [h3.1.1, h3.1.2]; omega
      · unfold vlOf vOf vlVt; rw [h3.2, h4]
    · rintro ⟨u, hu, h1, rfl⟩
      unfold vlP at h1
      simp only [Bool.and_eq_true, beq_iff_eq, bne_iff_ne] at h1
      exact ⟨vlVt (vlOf u), rkL_mem.2 ⟨vlOf u, rfl, hA u hu h1.1.1 h1.2, (nvL_mem _ _ _ _ _).2 ⟨u, hu, by simp [nvP, vlOf, h1.1.1, h1.1.2], rfl⟩⟩, rfl⟩
  rw [← e1, List.map_map]
  conv => lhs; rw [← List.map_id (rkL a k r)]
  refine List.map_congr_left fun v hv => ?_
  obtain ⟨x, rfl, _⟩ := rkL_mem.1 hv
  rfl
theorem rk_len {a : List Vt} {k r : Int} : (rkL a k r).length ≤ 2 * a.length := by
  have h : rkL a k r = (rkI 0 (nvL a k r 0)) ++ (rkI 1 (nvL a k r 1)) := by
    unfold rkL rkC; simp [List.range_succ]
  rw [h, List.length_append]
  unfold rkI
  rw [List.length_map, List.length_map]
  have h1 := nvL_len a k r 0
  have h2 := nvL_len a k r 1
  omega
def rw1 (a : List Vt) (k r : Int) (v : Vt) : Int := whoM a k r (isV ⟨v.choice, v.val⟩)
def precR (a : List Vt) (q r : Int) : Option Vt :=
  match (rkL a 3 r).find? (fun v => decide (q ≤ (size (rw1 a 3 r v) : Int))) with
  | some v => some ⟨4, 0, r, v.choice, 0, lowest (rw1 a 3 r v) q, Nm.zero, v.val⟩
  | none => bif decide (q ≤ (size (whoM a 3 r anyV) : Int)) then some ⟨4, 0, r, 2, 0, lowest (whoM a 3 r anyV) q, Nm.zero, Nm.zero⟩ else none
def mxM (a : List Vt) (r : Int) : Int := whoM a 4 r (isV ⟨2, Nm.zero⟩)
def carR (a : List Vt) (r : Int) : Option Vt := match rkL a 3 r with
  | [] => none
  | [x] => some x
  | x :: y :: _ => bif (((r + 1) % 2 == 1) && (x.choice == 0)) then some y else some x
def prevR (a : List Vt) (q r : Int) : Option Vt :=
  match (rkL a 4 r).find? (fun v => decide (q ≤ (size (bits .or .i64 (rw1 a 4 r v) (mxM a r)) : Int))) with
  | some v => some ⟨3, 0, r + 1, v.choice, 0, bits .or .i64 (lowest (rw1 a 4 r v) 1) (lowest (bits .andNot .i64 (bits .or .i64 (rw1 a 4 r v) (mxM a r)) (lowest (rw1 a 4 r v) 1)) (q - 1)), Nm.zero, v.val⟩
  | none => bif decide (q ≤ (size (mxM a r) : Int)) then (carR a r).map (fun v => ⟨3, 0, r + 1, v.choice, 0, lowest (mxM a r) q, Nm.zero, v.val⟩) else none
def rEcho (O : Int → Int → Bool) (a : List Vt) (held : List Nm) : Option Vt := bif O 2 0 then none else ((nvL a 1 0 1).find? (fun n => held.any (fun h => h == n))).map (fun n => ⟨2, 0, 0, 1, 0, 0, Nm.zero, n⟩)
def rFirst (O : Int → Int → Bool) (m : Int) (a : List Vt) (wt : Bool) : Option Vt := bif O 3 1 then none else
  match ceL m a with
  | c :: _ => some ⟨3, 0, 1, 1, 0, lowest (whoM a 2 0 (isV ⟨1, c⟩)) (quorum (size m)), Nm.zero, c⟩
  | [] => bif wt then some ⟨3, 0, 1, 0, 0, 0, Nm.zero, Nm.zero⟩ else none
def rPc (O : Int → Int → Bool) (a : List Vt) (q r : Int) : Option Vt := bif (O 3 r && !(O 4 r)) then precR a q r else none
def rPv (O : Int → Int → Bool) (a : List Vt) (q r : Int) : Option Vt := bif ((decide (r < 12) && O 4 r) && !(O 3 (r + 1))) then prevR a q r else none
def rRound (O : Int → Int → Bool) (a : List Vt) (q r : Int) : Option Vt := (rPc O a q r).or (rPv O a q r)
def rRounds (O : Int → Int → Bool) (a : List Vt) (q : Int) : Option Vt := (List.range 12).findSome? (fun i : Nat => rRound O a q ((i : Int) + 1))
def nextR (O : Int → Int → Bool) (m : Int) (a : List Vt) (held : List Nm) (wt : Bool) : Option Vt := ((rEcho O a held).or (rFirst O m a wt)).or (rRounds O a (quorum (size m)))
/-- Whose vote it is. -/
def setV (p : Nm) (s z : Int) (v : Vt) : Vt := ⟨v.kind, s, v.round, v.choice, z, v.support, p, v.val⟩
def owB (l : List Vt) (p : Nm) (s z k r : Int) : Bool := l.any (fun u => (((((u.signer == z) && (u.par == p)) && (u.slot == s)) && (u.kind == k)) && (u.round == r)) && (validB u))
theorem own_eq (l : List Vt) (p : Nm) (s z k r : Int) : owB l p s z k r = sgnB z (l.filter (spP s p)) k r := by
  rw [Bool.eq_iff_iff, sgnB_iff]
  unfold owB
  rw [List.any_eq_true]
  simp only [Bool.and_eq_true, beq_iff_eq]
  constructor
  · rintro ⟨u, hu, ⟨⟨⟨⟨h1, h2⟩, h3⟩, h4⟩, h5⟩, h6⟩
    exact ⟨u, List.mem_filter.2 ⟨hu, by simp [spP, h2, h3]⟩, h1, h6, h4, h5⟩
  · rintro ⟨u, hu, h1, h6, h4, h5⟩
    obtain ⟨hu, h⟩ := List.mem_filter.1 hu
    simp [spP] at h
    exact ⟨u, hu, ⟨⟨⟨⟨h1, h.2⟩, h.1⟩, h4⟩, h5⟩, h6⟩
theorem accV_sp (m : Int) (p : Nm) (l : List Vt) (s : Int) : accV m p (l.filter (spP s p)) = slV m p l s := by
  rw [← accV_part (q := spP s p) (fun v u hv hc => by
    have h1 := cnt_slot hc
    unfold cntB at hc
    simp only [Bool.and_eq_true, beq_iff_eq] at hc
    unfold spP at *
    simp only [Bool.and_eq_true, beq_iff_eq] at *
    exact ⟨h1.1.trans hv.1, hc.1.1.1.2.trans hv.2⟩)]
  refine List.filter_congr fun v hv => ?_
  have := (accV_mem hv).2
  simp [spP, slP, this]
section
variable {m : Int} {p : Nm} {l : List Vt} {s z : Int} {held : List Nm} {wt : Bool}
theorem sp_sl : ((accV m p (l.filter (spP s p))).filter (slP s)) = accV m p (l.filter (spP s p)) := by
  rw [List.filter_eq_self]
  intro v hv
  have := (List.mem_filter.1 (accV_mem hv).1).2
  simp [spP] at this
  simp [slP, this.1]
theorem isV_any : ∀ u : Vt, anyV u = true := fun _ => rfl
theorem mix_eq {a : List Vt} {r : Int} (hA : ∀ u ∈ a, validB u = true) : whoM a 4 r mixV = mxM a r := by
  unfold mxM
  refine snocI (p := fun a => (∀ u ∈ a, validB u = true) → whoM a 4 r mixV = whoM a 4 r (isV ⟨2, Nm.zero⟩)) (fun _ => rfl) (fun a v ih => fun h => ?_) a hA
  have ih' := ih fun u hu => h u (by simp [hu])
  have hv := h v (by simp)
  have e : whoP 4 r mixV v = whoP 4 r (isV ⟨2, Nm.zero⟩) v := by
    unfold whoP
    rw [isV_eq]
    unfold mixV
    by_cases hc : v.choice = 2
    · have hz : v.val = Nm.zero := by
        unfold validB at hv
        simp [hc] at hv
        exact hv.1.1.2
      simp [hc, hz]
    · have e2 : (v.choice == 2) = false := by simpa using hc
      rw [e2]; simp
  rw [whoM_snoc, whoM_snoc, ih', e]
theorem prec_rel {V : Vtr} {r : Int} (hk : ∀ u ∈ V.all, validB u = true) : precN V r = bif (!(V.sg 3 r)) || V.sg 4 r then none else (precR V.all V.q r).map (setV V.p V.s V.z) := by
  have hr := rk_eq (a := V.all) (k := 3) (r := r) (fun u hu h1 h2 => by
    have := hk u hu
    unfold validB restB btw at this
    simp [h1] at this
    omega)
  unfold precN precR
  cases ((!(V.sg 3 r)) || V.sg 4 r) with
  | true => rfl
  | false =>
    rw [cond_false, cond_false, hr, List.find?_map]
    show (match (valsL V.all 3 r).find? (fun x => decide (V.q ≤ (size (whoM V.all 3 r (isV x)) : Int))) with | some x => _ | none => _) = Option.map _ (match ((valsL V.all 3 r).find? (fun x => decide (V.q ≤ (size (whoM V.all 3 r (isV x)) : Int)))).map vlVt with | some v => _ | none => _)
    cases (valsL V.all 3 r).find? (fun x => decide (V.q ≤ (size (whoM V.all 3 r (isV x)) : Int))) with
    | some x => rfl
    | none =>
      show (bif decide (V.q ≤ (size (whoM V.all 3 r anyV) : Int)) then _ else _) = Option.map _ (bif decide (V.q ≤ (size (whoM V.all 3 r anyV) : Int)) then _ else _)
      cases decide (V.q ≤ (size (whoM V.all 3 r anyV) : Int)) <;> rfl
theorem car_rel {V : Vtr} {r : Int} (hk : ∀ u ∈ V.all, validB u = true) : carR V.all r = (carN V r).map vlVt := by
  have hr := rk_eq (a := V.all) (k := 3) (r := r) (fun u hu h1 h2 => by
    have := hk u hu
    unfold validB restB btw at this
    simp [h1] at this
    omega)
  unfold carR carN
  rw [hr]
  cases valsL V.all 3 r with
  | nil => rfl
  | cons x t => cases t with
    | nil => rfl
    | cons y t =>
      show (bif (((r + 1) % 2 == 1) && ((vlVt x).choice == 0)) then _ else _) = Option.map _ (bif (((r + 1) % 2 == 1) && (x.ch == 0)) then _ else _)
      have e : (vlVt x).choice = x.ch := rfl
      rw [e]
      cases (((r + 1) % 2 == 1) && (x.ch == 0)) <;> rfl
theorem prev_rel {V : Vtr} {r : Int} (hk : ∀ u ∈ V.all, validB u = true) : prevN V r = bif (!(V.sg 4 r)) || V.sg 3 (r + 1) then none else (prevR V.all V.q r).map (setV V.p V.s V.z) := by
  have hr := rk_eq (a := V.all) (k := 4) (r := r) (fun u hu h1 h2 => by
    have := hk u hu
    unfold validB restB btw at this
    simp [h1] at this
    omega)
  have hm : mixM V r = mxM V.all r := mix_eq hk
  unfold prevN prevR
  cases ((!(V.sg 4 r)) || V.sg 3 (r + 1)) with
  | true => rfl
  | false =>
    rw [cond_false, cond_false, hr, List.find?_map, car_rel hk, ← hm]
    show (match (valsL V.all 4 r).find? (fun x => decide (V.q ≤ (size (adM V r x) : Int))) with | some x => _ | none => _) = Option.map _ (match ((valsL V.all 4 r).find? (fun x => decide (V.q ≤ (size (adM V r x) : Int)))).map vlVt with | some v => _ | none => _)
    cases (valsL V.all 4 r).find? (fun x => decide (V.q ≤ (size (adM V r x) : Int))) with
    | some x => rfl
    | none =>
      show (bif decide (V.q ≤ (size (mixM V r) : Int)) then _ else _) = Option.map _ (bif decide (V.q ≤ (size (mixM V r) : Int)) then _ else _)
      cases decide (V.q ≤ (size (mixM V r) : Int)) with
      | false => rfl
      | true => cases carN V r <;> rfl
theorem echo_rel {O : Int → Int → Bool} {V : Vtr} (hO : ∀ k r, V.sg k r = O k r) (hb : nvL V.all 1 0 1 = proV V.m V.p V.own V.s) : echoN V held = (rEcho O V.all held).map (setV V.p V.s V.z) := by
  unfold echoN rEcho
  rw [hO, hb]
  cases O 2 0 with
  | true => rfl
  | false =>
    rw [cond_false, cond_false, Option.map_map]; rfl
theorem first_rel {O : Int → Int → Bool} {V : Vtr} (hO : ∀ k r, V.sg k r = O k r) (hq : V.q = quorum (size V.m)) (hc : ceL V.m V.all = cerV V.m V.p V.own V.s) (he : ∀ c, whoM V.all 2 0 (isV ⟨1, c⟩) = echV V.m V.p V.own V.s c) : firstN V wt = (rFirst O V.m V.all wt).map (setV V.p V.s V.z) := by
  unfold firstN rFirst
  rw [hO, hc]
  cases O 3 1 with
  | true => rfl
  | false =>
    rw [cond_false, cond_false]
    cases cerV V.m V.p V.own V.s with
    | nil => cases wt <;> rfl
    | cons c t =>
      show some _ = some _
      rw [he c, ← hq]; rfl
theorem rounds_rel {O : Int → Int → Bool} {V : Vtr} (hO : ∀ k r, V.sg k r = O k r) (hk : ∀ u ∈ V.all, validB u = true) : roundsN V = (rRounds O V.all V.q).map (setV V.p V.s V.z) := by
  unfold roundsN rRounds
  have key : ∀ r : Int, roundN V r = (rRound O V.all V.q r).map (setV V.p V.s V.z) := by
    intro r
    unfold roundN rRound rPc rPv
    rw [prec_rel hk, prev_rel hk, hO, hO, hO]
    cases decide (r < 12) <;> cases O 3 r <;> cases O 4 r <;> cases O 3 (r + 1) <;> simp
  have hl : ∀ (is : List Nat), is.findSome? (fun i : Nat => roundN V ((i : Int) + 1)) = (is.findSome? (fun i : Nat => rRound O V.all V.q ((i : Int) + 1))).map (setV V.p V.s V.z) := by
    intro is
    induction is with
    | nil => rfl
    | cons i is ih =>
      rw [List.findSome?_cons, List.findSome?_cons, key]
      cases rRound O V.all V.q ((i : Int) + 1) with
      | some v => rfl
      | none => exact ih
  exact hl _
/-- The reference's Next is the program's. -/
theorem next_rel : nextN m p l s z held wt = bif ((!(hasB m z)) || (!(hasB m s))) || decide (0 < ((((ocL m ((accV m p l).filter (slP s)) s).length : Nat)) : Int)) then none else (nextR (owB l p s z) m ((accV m p l).filter (slP s)) held wt).map (setV p s z) := by
  have ho : ocL m ((accV m p l).filter (slP s)) s = outV m p l s := out_eq m p l s
  have ha : (accV m p l).filter (slP s) = accV m p (l.filter (spP s p)) := (accV_sp m p l s).symm
  have hO : ∀ k r, (mkVtr m p l s z).sg k r = owB l p s z k r := fun k r => (own_eq l p s z k r).symm
  have hk : ∀ u ∈ (mkVtr m p l s z).all, validB u = true := fun u hu => (accV_has hu).1
  have h1 : echoN (mkVtr m p l s z) held = (rEcho (owB l p s z) (accV m p (l.filter (spP s p))) held).map (setV p s z) := echo_rel hO (by
    have := pro_eq m p (l.filter (spP s p)) s
    rw [sp_sl] at this; exact this)
  have h2 : firstN (mkVtr m p l s z) wt = (rFirst (owB l p s z) m (accV m p (l.filter (spP s p))) wt).map (setV p s z) := first_rel hO rfl (by
    have := cer_eq m p (l.filter (spP s p)) s
    rw [sp_sl] at this; exact this) (fun c => by
    have := ech_eq m p (l.filter (spP s p)) s c
    rw [sp_sl] at this; exact this)
  have h3 : roundsN (mkVtr m p l s z) = (rRounds (owB l p s z) (accV m p (l.filter (spP s p))) (quorum (size m))).map (setV p s z) := rounds_rel hO hk
  unfold nextN nextR
  rw [h1, h2, h3, ho, ha]
  cases (((!(hasB m z)) || (!(hasB m s))) || decide (0 < ((((outV m p l s).length : Nat)) : Int))) with
  | true => rfl
  | false =>
    rw [cond_false, cond_false]
    cases rEcho (owB l p s z) (accV m p (l.filter (spP s p))) held <;> cases rFirst (owB l p s z) m (accV m p (l.filter (spP s p))) wt <;> simp
end
section
variable {a : List Vt} {q r : Int}
theorem rprec_hit {j : Nat} (ha : ((rkL a 3 r).take j).any (fun v => decide (q ≤ (size (rw1 a 3 r v) : Int))) = false) (hj : j < (rkL a 3 r).length) (hp : (decide (q ≤ (size (rw1 a 3 r (rkL a 3 r)[j]) : Int))) = true) : precR a q r = some ⟨4, 0, r, (rkL a 3 r)[j].choice, 0, lowest (rw1 a 3 r (rkL a 3 r)[j]) q, Nm.zero, (rkL a 3 r)[j].val⟩ := by
  unfold precR; rw [find_hit ha hj hp]
theorem rprec_mix (ha : (rkL a 3 r).any (fun v => decide (q ≤ (size (rw1 a 3 r v) : Int))) = false) (hp : (decide (q ≤ (size (whoM a 3 r anyV) : Int))) = true) : precR a q r = some ⟨4, 0, r, 2, 0, lowest (whoM a 3 r anyV) q, Nm.zero, Nm.zero⟩ := by
  unfold precR; rw [find_no ha, hp]; rfl
theorem rprec_none (ha : (rkL a 3 r).any (fun v => decide (q ≤ (size (rw1 a 3 r v) : Int))) = false) (hp : (decide (q ≤ (size (whoM a 3 r anyV) : Int))) = false) : precR a q r = none := by
  unfold precR; rw [find_no ha, hp]; rfl
theorem rprev_hit {j : Nat} (ha : ((rkL a 4 r).take j).any (fun v => decide (q ≤ (size (bits .or .i64 (rw1 a 4 r v) (mxM a r)) : Int))) = false) (hj : j < (rkL a 4 r).length) (hp : (decide (q ≤ (size (bits .or .i64 (rw1 a 4 r (rkL a 4 r)[j]) (mxM a r)) : Int))) = true) : prevR a q r = some ⟨3, 0, r + 1, (rkL a 4 r)[j].choice, 0, bits .or .i64 (lowest (rw1 a 4 r (rkL a 4 r)[j]) 1) (lowest (bits .andNot .i64 (bits .or .i64 (rw1 a 4 r (rkL a 4 r)[j]) (mxM a r)) (lowest (rw1 a 4 r (rkL a 4 r)[j]) 1)) (q - 1)), Nm.zero, (rkL a 4 r)[j].val⟩ := by
  unfold prevR; rw [find_hit ha hj hp]
theorem rprev_few (ha : (rkL a 4 r).any (fun v => decide (q ≤ (size (bits .or .i64 (rw1 a 4 r v) (mxM a r)) : Int))) = false) (hp : (decide ((size (mxM a r) : Int) < q)) = true) : prevR a q r = none := by
  have e : decide (q ≤ (size (mxM a r) : Int)) = false := by simp at hp ⊢; omega
  unfold prevR; rw [find_no ha, e]; rfl
theorem rprev_ge (hp : (decide ((size (mxM a r) : Int) < q)) = false) : decide (q ≤ (size (mxM a r) : Int)) = true := by simp at hp ⊢; omega
theorem rprev_nc (ha : (rkL a 4 r).any (fun v => decide (q ≤ (size (bits .or .i64 (rw1 a 4 r v) (mxM a r)) : Int))) = false) (hp : (decide ((size (mxM a r) : Int) < q)) = false) (hc : (((((rkL a 3 r).length : Nat)) : Int) == 0) = true) : prevR a q r = none := by
  unfold prevR; rw [find_no ha, rprev_ge hp]
  have : rkL a 3 r = [] := len0 (by simpa using hc)
  unfold carR
  rw [this]; rfl
theorem rprev_car {h0 : 0 < (rkL a 3 r).length} {v : Vt} (ha : (rkL a 4 r).any (fun v => decide (q ≤ (size (bits .or .i64 (rw1 a 4 r v) (mxM a r)) : Int))) = false) (hp : (decide ((size (mxM a r) : Int) < q)) = false) (hv : carR a r = some v) : prevR a q r = some ⟨3, 0, r + 1, v.choice, 0, lowest (mxM a r) q, Nm.zero, v.val⟩ := by
  unfold prevR; rw [find_no ha, rprev_ge hp, hv]; rfl
theorem rcar_two {h0 : 0 < (rkL a 3 r).length} {h1 : 1 < (rkL a 3 r).length} (h : ((((r + 1) % 2 == 1) && ((rkL a 3 r)[0].choice == 0)) && (decide (1 < ((((rkL a 3 r).length : Nat)) : Int)))) = true) : carR a r = some (rkL a 3 r)[1] := by
  unfold carR
  revert h h0 h1
  cases rkL a 3 r with
  | nil => intro h0; simp at h0
  | cons x l => cases l with
    | nil => intro _ h1; simp at h1
    | cons y l =>
      intro _ _ h
      rw [Bool.and_eq_true] at h
      have h2 : (((r + 1) % 2 == 1) && (x.choice == 0)) = true := h.1
      simp only [h2]; rfl
theorem rcar_one {h0 : 0 < (rkL a 3 r).length} (h : ((((r + 1) % 2 == 1) && ((rkL a 3 r)[0].choice == 0)) && (decide (1 < ((((rkL a 3 r).length : Nat)) : Int)))) = false) : carR a r = some (rkL a 3 r)[0] := by
  unfold carR
  revert h h0
  cases rkL a 3 r with
  | nil => intro h0; simp at h0
  | cons x l => cases l with
    | nil => intro _ _; rfl
    | cons y l =>
      intro _ h
      have h1 : (decide (1 < ((((x :: y :: l).length : Nat)) : Int))) = true := by simp; omega
      rw [h1, Bool.and_true] at h
      have h2 : (((r + 1) % 2 == 1) && (x.choice == 0)) = false := h
      simp only [h2]; rfl
variable {O : Int → Int → Bool} {held : List Nm} {m : Int} {wt : Bool}
theorem recho_no (h : (!(O 2 0)) = false) : rEcho O a held = none := by unfold rEcho; rw [not_eq_false h]; rfl
theorem recho_hit {j : Nat} (h : (!(O 2 0)) = true) (ha : ((nvL a 1 0 1).take j).any (fun n => held.any (fun h => h == n)) = false) (hj : j < (nvL a 1 0 1).length) (hp : held.any (fun h => h == (nvL a 1 0 1)[j]) = true) : rEcho O a held = some ⟨2, 0, 0, 1, 0, 0, Nm.zero, (nvL a 1 0 1)[j]⟩ := by
  unfold rEcho; rw [not_eq_true h, cond_false, find_hit ha hj hp]; rfl
theorem recho_none (h : (!(O 2 0)) = true) (ha : (nvL a 1 0 1).any (fun n => held.any (fun h => h == n)) = false) : rEcho O a held = none := by
  unfold rEcho; rw [not_eq_true h, cond_false, find_no ha]; rfl
theorem rfirst_no (h : (!(O 3 1)) = false) : rFirst O m a wt = none := by unfold rFirst; rw [not_eq_false h]; rfl
theorem rfirst_yes (h : (!(O 3 1)) = true) (h0 : 0 < (ceL m a).length) : rFirst O m a wt = some ⟨3, 0, 1, 1, 0, lowest (whoM a 2 0 (isV ⟨1, (ceL m a)[0]⟩)) (quorum (size m)), Nm.zero, (ceL m a)[0]⟩ := by
  unfold rFirst; rw [not_eq_true h, cond_false]
  revert h0
  cases ceL m a with
  | nil => intro h0; simp at h0
  | cons c l => intro _; rfl
theorem nil_of {α : Type} {l : List α} (h : (decide (0 < (((l.length : Nat)) : Int))) = false) : l = [] := by
  cases l with
  | nil => rfl
  | cons c l => simp at h
theorem rfirst_wait (h : (!(O 3 1)) = true) (h0 : (decide (0 < ((((ceL m a).length : Nat)) : Int))) = false) (hw : wt = false) : rFirst O m a wt = none := by
  unfold rFirst; rw [not_eq_true h, cond_false, nil_of h0, hw]; rfl
theorem rfirst_ex (h : (!(O 3 1)) = true) (h0 : (decide (0 < ((((ceL m a).length : Nat)) : Int))) = false) (hw : wt = true) : rFirst O m a wt = some ⟨3, 0, 1, 0, 0, 0, Nm.zero, Nm.zero⟩ := by
  unfold rFirst; rw [not_eq_true h, cond_false, nil_of h0, hw]; rfl
theorem rpc_no (h : ((O 3 r) && (!(O 4 r))) = false) : rPc O a q r = none := by unfold rPc; rw [h]; rfl
theorem rpc_is (h : ((O 3 r) && (!(O 4 r))) = true) : rPc O a q r = precR a q r := by unfold rPc; rw [h]; rfl
theorem rpv_no (h : (((decide (r < 12)) && (O 4 r)) && (!(O 3 (r + 1)))) = false) : rPv O a q r = none := by unfold rPv; rw [h]; rfl
theorem rpv_is (h : (((decide (r < 12)) && (O 4 r)) && (!(O 3 (r + 1)))) = true) : rPv O a q r = prevR a q r := by unfold rPv; rw [h]; rfl
theorem none_of {α : Type} {o : Option α} (h : o.isSome = false) : o = none := by simpa using h
theorem rround_none {i : Nat} (h : ∀ j : Nat, 1 ≤ j → j < i → rRound O a q (j : Int) = none) (h1 : rPc O a q (i : Int) = none) (h2 : rPv O a q (i : Int) = none) : ∀ j : Nat, 1 ≤ j → j < i + 1 → rRound O a q (j : Int) = none := fun j hj hlt => by
  by_cases e : j < i
  · exact h j hj e
  · obtain rfl : j = i := by omega
    unfold rRound; rw [h1, h2]; rfl
theorem rrounds_hit {i : Nat} {v : Vt} (h : ∀ j : Nat, 1 ≤ j → j < i → rRound O a q (j : Int) = none) (hi : 1 ≤ i) (hi2 : i ≤ 12) (hv : rRound O a q (i : Int) = some v) : rRounds O a q = some v := by
  unfold rRounds
  rw [List.findSome?_eq_some_iff]
  refine ⟨List.range (i - 1), i - 1, (List.range' i (12 - i)), ?_, ?_, ?_⟩
  · rw [List.range_eq_range', List.range_eq_range']
    have e1 : (12 : Nat) = (i - 1) + (1 + (12 - i)) := by omega
    conv => lhs; rw [e1, ← List.range'_append]
    rw [Nat.add_comm 1 (12 - i), List.range'_succ]
    simp
    omega
  · have e : (((i - 1 : Nat) : Int) + 1) = (i : Int) := by omega
    rw [e]; exact hv
  · intro j hj
    have hj' : j < i - 1 := by simpa using hj
    have e : ((j : Int) + 1) = (((j + 1 : Nat)) : Int) := by omega
    rw [e]; exact h (j + 1) (by omega) (by omega)
theorem rrounds_end {i : Nat} (h : ∀ j : Nat, 1 ≤ j → j < i → rRound O a q (j : Int) = none) (hi : 13 ≤ i) : rRounds O a q = none := by
  unfold rRounds
  rw [List.findSome?_eq_none_iff]
  intro j hj
  have hj' : j < 12 := by simpa using hj
  have e : ((j : Int) + 1) = (((j + 1 : Nat)) : Int) := by omega
  rw [e]; exact h (j + 1) (by omega) (by omega)
theorem nx_echo {v : Vt} (h : rEcho O a held = some v) : nextR O m a held wt = some v := by unfold nextR; rw [h]; rfl
theorem nx_first {v : Vt} (h0 : rEcho O a held = none) (h : rFirst O m a wt = some v) : nextR O m a held wt = some v := by unfold nextR; rw [h0, h]; rfl
theorem nx_rounds {o : Option Vt} (h0 : rEcho O a held = none) (h1 : rFirst O m a wt = none) (h : rRounds O a (quorum (size m)) = o) : nextR O m a held wt = o := by unfold nextR; rw [h0, h1, h]; rfl
theorem rnd_pc {v : Vt} {i : Int} (h : rPc O a q i = some v) : rRound O a q i = some v := by unfold rRound; rw [h]; rfl
theorem rnd_pv {v : Vt} {i : Int} (h0 : rPc O a q i = none) (h : rPv O a q i = some v) : rRound O a q i = some v := by unfold rRound; rw [h0, h]; rfl
end
end Go.Proofs.YtnjkbgcfpbbglaaGreat
