/- Regions that draw their order and store behind everything that comes before: the condition on the world ends at the first store. No program in sight. -/
import Derived.Test.YtphnfhonmbbddaaOt
namespace Go.Proofs.Ytphnfhonmbbddaa
open Go Go.RowKit
set_option linter.unusedVariables false
/-- The operation b comes up behind k. -/
def waits (ops : Array Oper) (b k : Nat) : Bool := !(Nat.beq k b) && (match ops[b]? with | some o => o.after.any (fun e => Region.binds .any e && Nat.beq e.on k) | none => false)
section
variable {P : Program} {ops : Array Oper} {Q : Exit → Act → World → Prop} {S : World → Prop} {n : Nat} {e : Env} {Φ Ψ : World → Prop} {b : Nat} {rest : List (Nat × Bool)}
/-- What is taken first comes up ahead of b; what is carried out is not b. -/
def pOk (ops : Array Oper) (b : Nat) (p : Nat × Bool) : Bool := bif p.2 then waits ops b p.1 else !(Nat.beq p.1 b)
theorem ne_of_pOk {k : Nat} (h : (!(Nat.beq k b)) = true) : k ≠ b := fun hk => by subst hk; simp at h
/-- Whatever order is picked, with S behind every operation as long as b has not come up. -/
def AnyL (P : Program) (ops : Array Oper) (Q : Exit → Act → World → Prop) (S : World → Prop) (b : Nat) : Nat → Array Bool → Act → World → Prop
  | 0, l, a, w => Region.ready .any ops l = [] ∧ Q .normal a w
  | f + 1, l, a, w => (Region.ready .any ops l = [] → Q .normal a w) ∧ ∀ i ∈ Region.ready .any ops l, wpOp P ops Q i (fun a' w' => ((l.setIfInBounds i true).getD b true = false → S w') ∧ AnyL P ops Q S b f (l.setIfInBounds i true) a' w') a w
theorem any_of_L : ∀ (f : Nat) (l : Array Bool) (a : Act) (w : World), AnyL P ops Q S b f l a w → wpAny P .any ops Q f l a w
  | 0, _, _, _, h => h
  | f + 1, _, _, _, h => ⟨h.1, fun i hi => wpOp_mono (fun a' w' h' => any_of_L f _ a' w' h'.2) (h.2 i hi)⟩
theorem L_of_held : ∀ (f : Nat) (l : Array Bool) (a : Act) (w : World), l.getD b true = true → wpAnyH P .any ops Q (fun _ => True) f l a w → AnyL P ops Q S b f l a w
  | 0, _, _, _, _, h => h
  | f + 1, l, _, _, hb, h => ⟨h.1, fun i hi => wpOp_mono (fun a' w' h' => by
      have h2 : (l.setIfInBounds i true).getD b true = true := by
        by_cases hib : i = b
        · subst hib
          cases hx : (l.setIfInBounds i true).getD i true with
          | true => rfl
          | false =>
            exfalso
            rw [Array.getD_eq_getD_getElem?, Array.getElem?_setIfInBounds] at hx
            simp only [if_true] at hx
            split at hx <;> simp at hx
        · rw [getD_set_ne true hib]; exact hb
      exact ⟨fun h3 => (by rw [h2] at h3; cases h3), L_of_held f _ a' w' h2 h'.2⟩) (h.2 i hi)⟩
theorem waits_spec {k : Nat} (h : waits ops b k = true) : k ≠ b ∧ ∀ l, b ∈ Region.ready .any ops l → l.getD k false = true := by
  unfold waits at h
  rw [Bool.and_eq_true] at h
  refine ⟨fun hk => ?_, fun l hb => ?_⟩
  · subst hk; simp at h
  · obtain ⟨_, o, ho, hall⟩ := mem_ready.1 hb
    have h2 := h.2
    rw [ho] at h2
    obtain ⟨e, he, h3⟩ := Array.any_eq_true'.1 h2
    rw [Bool.and_eq_true] at h3
    have := hall e he h3.1
    rwa [Nat.eq_of_beq_eq_true h3.2] at this
theorem AnyL_first {i : Nat} {oi : Oper} {v : Value} (hi : ops[i]? = some oi) (hsel : ∀ (j : Nat) (o : Oper) cs b, ops[j]? = some o → o.op ≠ .select cs b)
    (hQ : ∀ c a w, Q (.panic c) (a.put oi.dst v) w → Q (.panic c) a w) (hwt : waits ops b i = true) :
    ∀ (f : Nat) (l : Array Bool) (a : Act) (w : World), l.getD b true = false →
      (∀ j oj, ops[j]? = some oj → j ≠ i → l.getD j true = false → (∀ e ∈ oj.after, Region.binds .any e = true → e.on ≠ i) → oi.apart ops oj = true) →
      i ∈ Region.ready .any ops l → YieldsIf P ops S oi v a → S w → AnyL P ops Q S b f (l.setIfInBounds i true) (a.put oi.dst v) w → AnyL P ops Q S b (f + 1) l a w := by
  obtain ⟨hib, hwb⟩ := waits_spec hwt
  have un : ∀ {l : Array Bool}, i ∈ Region.ready .any ops l → l.getD i false = true → False := fun {l} hr h1 => by
    have h0 := (mem_ready.1 hr).1
    rcases Nat.lt_or_ge i l.size with h' | h'
    · simp [h'] at h0 h1; rw [h0] at h1; cases h1
    · simp [Array.getElem?_eq_none h'] at h1
  intro f
  induction f with
  | zero =>
    intro l a w hb _ hr hy hS H
    refine ⟨fun h => (by rw [h] at hr; cases hr), fun j hj => ?_⟩
    by_cases hji : j = i
    · subst hji; exact hy.wpOp hi hS ⟨fun _ => hS, H⟩
    · have := ready_mono hj hji
      rw [H.1] at this
      cases this
  | succ f ih =>
    intro l a w hb hfree hr hy hS H
    refine ⟨fun h => (by rw [h] at hr; cases hr), fun j hj => ?_⟩
    by_cases hji : j = i
    · subst hji; exact hy.wpOp hi hS ⟨fun _ => hS, H⟩
    · have hjb : j ≠ b := fun hjb => un hr (hwb l (hjb ▸ hj))
      have h1 := H.2 j (ready_mono hj hji)
      obtain ⟨hjun, oj, hoj, hall⟩ := mem_ready.1 hj
      have hnot : ∀ e ∈ oj.after, Region.binds .any e = true → e.on ≠ i := fun e he hb heq => un hr (heq ▸ hall e he hb)
      have h2 := wpOp_putIf hoj (hfree j oj hoj hji hjun hnot) (fun cs b => hsel i oi cs b hi) (fun cs b => hsel j oj cs b hoj) hQ hy h1
      have hb2 : (l.setIfInBounds j true).getD b true = false := by rw [getD_set_ne true hjb]; exact hb
      have hfree' : ∀ k ok, ops[k]? = some ok → k ≠ i → (l.setIfInBounds j true).getD k true = false →
          (∀ e ∈ ok.after, Region.binds .any e = true → e.on ≠ i) → oi.apart ops ok = true := fun k ok hk hki hun hno => by
        refine hfree k ok hk hki ?_ hno
        by_cases hjk : j = k
        · subst hjk; exact hjun
        · rw [getD_set_ne true hjk] at hun; exact hun
      refine wpOp_mono (fun a' w' h3 => ?_) h2
      have hS' : S w' := h3.2.1 (by rw [getD_set_ne true hjb, getD_set_ne true hib]; exact hb)
      refine ⟨fun _ => hS', ih (l.setIfInBounds j true) a' w' hb2 hfree' (ready_mono hr (Ne.symm hji)) h3.1 hS' ?_⟩
      rw [Array.setIfInBounds_comm _ _ hji]
      exact h3.2.2
theorem anyL_pre (hs : Region.noSelect ops = true) (hQ : ∀ (d : Option Tmp) (v : Value) c a w, Q (.panic c) (Act.put a d v) w → Q (.panic c) a w) {K : Act → World → Prop} {len : Nat} {l' : Array Bool} (hK : ∀ a w, l'.getD b true = false → S w → K a w → AnyL P ops Q S b len l' a w) :
    ∀ (pre : List (Nat × Bool)) (l : Array Bool) (a : Act) (w : World), okPre ops pre l = some l' → (pre.all (pOk ops b)) = true → l.getD b true = false → S w → runOrd P ops (Exit.then K Q) S pre a w → AnyL P ops Q S b (pre.length + len) l a w
  | [], l, a, w, hok, hwt, hb, hS, h => by
    simp only [okPre, Option.some.injEq] at hok
    subst hok
    rw [List.length_nil, Nat.zero_add]
    exact hK a w hb hS h
  | (k, true) :: rest, l, a, w, hok, hwt, hb, hS, h => by
    unfold okPre at hok
    rw [List.all_cons, Bool.and_eq_true] at hwt
    cases hc : (Region.free .any ops l k && (Region.ready .any ops l).contains k && ops[k]?.isSome) with
    | false => rw [hc] at hok; cases hok
    | true =>
      rw [hc, cond_true] at hok
      simp only [Bool.and_eq_true] at hc
      obtain ⟨⟨h1, h2⟩, h3⟩ := hc
      obtain ⟨o, ho⟩ := Option.isSome_iff_exists.1 h3
      obtain ⟨v, hy, hr⟩ := h o ho
      rw [show ((k, true) :: rest).length + len = (rest.length + len) + 1 by simp; omega]
      have hwk : waits ops b k = true := hwt.1
      have hkb := (waits_spec hwk).1
      exact AnyL_first ho (Region.noSelect_spec hs) (fun c a w => hQ _ _ c a w) hwk _ l a w hb (Region.free_spec ho h1) (by simpa using h2) hy hS (anyL_pre hs hQ hK rest _ _ w hok hwt.2 (by rw [getD_set_ne true hkb]; exact hb) hS hr)
  | (k, false) :: rest, l, a, w, hok, hwt, hb, hS, h => by
    unfold okPre at hok
    rw [List.all_cons, Bool.and_eq_true] at hwt
    cases hc : ((Region.ready .any ops l == [k]) && ops[k]?.isSome) with
    | false => rw [hc] at hok; cases hok
    | true =>
      rw [hc, cond_true] at hok
      simp only [Bool.and_eq_true] at hc
      obtain ⟨h1, h3⟩ := hc
      obtain ⟨o, ho⟩ := Option.isSome_iff_exists.1 h3
      rw [show ((k, false) :: rest).length + len = (rest.length + len) + 1 by simp; omega]
      have h1' : Region.ready .any ops l = [k] := by simpa using h1
      have hkb := ne_of_pOk (b := b) (k := k) hwt.1
      refine ⟨fun h0 => (by rw [h1'] at h0; cases h0), fun i' hi' => ?_⟩
      rw [h1'] at hi'
      simp only [List.mem_singleton] at hi'
      subst hi'
      have hw := h o ho
      rw [then_then] at hw
      exact wpOp_mono (fun a' w' hk => ⟨fun _ => hk.1, anyL_pre hs hQ hK rest _ a' w' hok hwt.2 (by rw [getD_set_ne true hkb]; exact hb) hk.1 hk.2⟩) (wpOp_of_run (rest := rest) ho hw)
/-- A tree of orders up to b, then the rest in its one order. -/
def okTB (ops : Array Oper) (b : Nat) (tl : List (Nat × Bool)) : OT → Array Bool → Bool
  | .leaf pre, l => (pre.all (pOk ops b)) && (match okPre ops pre l with | some l => (Region.ready .any ops l == [b]) && okOrd ops tl l | none => false)
  | .node pre i A j B, l => (pre.all (pOk ops b)) && (match okPre ops pre l with
    | some l => (Region.ready .any ops l == [i, j]) && ops[i]?.isSome && ops[j]?.isSome && (A.len == B.len) && okTB ops b tl A (l.setIfInBounds i true) && okTB ops b tl B (l.setIfInBounds j true) && !(Nat.beq i b) && !(Nat.beq j b)
    | none => false)
abbrev QB (P : Program) (ops : Array Oper) (Q : Exit → Act → World → Prop) (tl : List (Nat × Bool)) : Exit → Act → World → Prop := Exit.then (fun a w => runOrd P ops Q (fun _ => True) tl a w) Q
theorem anyL_RT {tl : List (Nat × Bool)} (htl : tl.head? = some (b, false)) (hs : Region.noSelect ops = true) (hQ : ∀ (d : Option Tmp) (v : Value) c a w, Q (.panic c) (Act.put a d v) w → Q (.panic c) a w) :
    ∀ (t : OT) (l : Array Bool) (a : Act) (w : World), okTB ops b tl t l = true → l.getD b true = false → S w → RT P ops (QB P ops Q tl) S t a w → AnyL P ops Q S b (t.len + tl.length) l a w
  | .leaf pre, l, a, w, hok, hb, hS, h => by
    unfold okTB at hok
    rw [Bool.and_eq_true] at hok
    obtain ⟨hwt, hok⟩ := hok
    cases hp : okPre ops pre l with
    | none => rw [hp] at hok; cases hok
    | some l' =>
      rw [hp] at hok
      simp only [Bool.and_eq_true] at hok
      refine anyL_pre (P := P) (S := S) (len := tl.length) hs hQ (fun a w hb2 _ hk => ?_) pre l a w hp hwt hb hS h
      obtain ⟨tl', rfl⟩ : ∃ tl', tl = (b, false) :: tl' := by cases tl with | nil => cases htl | cons p r => exact ⟨r, by rw [List.head?_cons, Option.some.injEq] at htl; rw [htl]⟩
      have hr : Region.ready .any ops l' = [b] := by simpa using hok.1
      have hH := anyH_of_run (S := fun _ => True) hs hQ ((b, false) :: tl') l' a w hok.2 trivial hk
      rw [List.length_cons] at hH ⊢
      refine ⟨hH.1, fun i hi => ?_⟩
      refine wpOp_mono (fun a' w' h' => ?_) (hH.2 i hi)
      rw [hr] at hi
      simp only [List.mem_singleton] at hi
      subst hi
      have hset : (l'.setIfInBounds i true).getD i true = true := by
        rw [Array.getD_eq_getD_getElem?, Array.getElem?_setIfInBounds]
        simp only [if_true]
        split <;> rfl
      exact ⟨fun h3 => (by rw [hset] at h3; cases h3), L_of_held _ _ a' w' hset h'.2⟩
  | .node pre i A j B, l, a, w, hok, hb, hS, h => by
    unfold okTB at hok
    rw [Bool.and_eq_true] at hok
    obtain ⟨hwt, hok⟩ := hok
    cases hp : okPre ops pre l with
    | none => rw [hp] at hok; cases hok
    | some l' =>
      rw [hp] at hok
      simp only [Bool.and_eq_true, beq_iff_eq] at hok
      obtain ⟨⟨⟨⟨⟨⟨⟨h1, h2⟩, h3⟩, hl⟩, h4⟩, h5⟩, hwi⟩, hwj⟩ := hok
      obtain ⟨oi, hoi⟩ := Option.isSome_iff_exists.1 h2
      obtain ⟨oj, hoj⟩ := Option.isSome_iff_exists.1 h3
      have hn : (OT.node pre i A j B).len + tl.length = pre.length + (1 + (A.len + tl.length)) := by show pre.length + (1 + A.len) + tl.length = _; omega
      rw [hn]
      have h9 : runOrd P ops (Exit.then (fun a w => RunI P ops (QB P ops Q tl) S i (RT P ops (QB P ops Q tl) S A) a w ∧ RunI P ops (QB P ops Q tl) S j (RT P ops (QB P ops Q tl) S B) a w) (QB P ops Q tl)) S pre a w := h
      rw [then_then] at h9
      refine anyL_pre (P := P) (S := S) (len := 1 + (A.len + tl.length)) hs hQ (fun a w hb2 hS hk => ?_) pre l a w hp hwt hb hS h9
      rw [Nat.add_comm]
      refine ⟨fun h0 => (by rw [h1] at h0; cases h0), fun k hk' => ?_⟩
      rw [h1] at hk'
      simp only [List.mem_cons, List.not_mem_nil, or_false] at hk'
      rcases hk' with rfl | rfl
      · have hkk := hk.1 oi hoi
        rw [then_then] at hkk
        exact wpOp_mono (fun a' w' hx => ⟨fun _ => hx.1, anyL_RT htl hs hQ A _ a' w' h4 (by rw [getD_set_ne true (ne_of_pOk hwi)]; exact hb2) hx.1 hx.2⟩) (wpOp_of_run (rest := []) hoi hkk)
      · have hkk := hk.2 oj hoj
        rw [then_then] at hkk
        refine wpOp_mono (fun a' w' hx => ⟨fun _ => hx.1, ?_⟩) (wpOp_of_run (rest := []) hoj hkk)
        rw [hl]
        exact anyL_RT htl hs hQ B _ a' w' h5 (by rw [getD_set_ne true (ne_of_pOk hwj)]; exact hb2) hx.1 hx.2
theorem W.drawnB {id : Nat} {ops : Array Oper} (S : World → Prop) (t : OT) (b : Nat) (tl : List (Nat × Bool)) (htl : tl.head? = some (b, false)) (hm : P.follows .mixedOrders = true) (hB : (Region.noSelect ops && okTB ops b tl t (Array.replicate ops.size false) && (t.len + tl.length == ops.size)) = true) (hb : (Array.replicate ops.size false).getD b true = false) (hQ : NoPanic Q)
    (hd : ∀ w, Φ w → Ψ { w with drawn := w.drawn + 1 }) (hS : ∀ w, Ψ w → S w) (h : TT P ops (QB P ops Q tl) S n t e Ψ) : W P n e Φ (.region id ops true) Q := fun a w ha hw => by
  simp only [Bool.and_eq_true, beq_iff_eq] at hB
  obtain ⟨⟨h1, h2⟩, h3⟩ := hB
  refine wp_region_any hm (any_of_L (S := S) (b := b) _ _ _ _ ?_)
  have := anyL_RT (P := P) (S := S) htl h1 hQ t _ a _ h2 hb (hS _ (hd w hw)) (h a _ ha (hd w hw) (hS _ (hd w hw)))
  rw [h3] at this
  exact this
/-- At the first store. -/
theorem T.bar {tl : List (Nat × Bool)} (h : T P ops Q (fun _ => True) n tl e Φ) : T P ops (QB P ops Q tl) S n [] e Φ := fun a w ha hw _ => h a w ha hw trivial
/-- Quotients and rests of numbers that are not 0. -/
def dvAt (ops : Array Oper) (e : Env) (i : Nat) : Option (Bool × Value × Value) := match (ops[i]?).map Oper.op with
  | some (Op.binOp .quo _ x y _) => some (true, e.ev x, e.ev y)
  | some (Op.binOp .rem _ x y _) => some (false, e.ev x, e.ev y)
  | _ => none
theorem T.quo {i : Nat} {m : Bool} (d : Nat) (k : IntKind) (x y : Int) (v : Value) (hk : okAt ops n e i d = true) (hs : dvAt ops e i = some (true, .int k x, .int k y)) (h0 : y ≠ 0) (hv : Value.int k (k.wrap (x.tdiv y)) = v) (h : T P ops Q S n rest ((d, v) :: e) Φ) : T P ops Q S n ((i, m) :: rest) e Φ := by
  refine T.pure d _ hk (fun w => ?_) h
  unfold dvAt at hs
  unfold runAt
  cases ho : ops[i]? with
  | none => rw [ho] at hs; cases hs
  | some o =>
    rw [ho] at hs
    simp only [Option.map_some] at hs
    split at hs
    · rename_i t' a b ty heq
      simp only [Option.some.injEq, Prod.mk.injEq, true_and] at hs
      unfold execOp
      simp only [Option.some.inj heq, hs.1, hs.2]
      simp [eqGuard, binOp, Op.intDiv, h0, hv]
    · simp at hs
    · cases hs
theorem T.rem {i : Nat} {m : Bool} (d : Nat) (k : IntKind) (x y : Int) (v : Value) (hk : okAt ops n e i d = true) (hs : dvAt ops e i = some (false, .int k x, .int k y)) (h0 : y ≠ 0) (hv : Value.int k (x.tmod y) = v) (h : T P ops Q S n rest ((d, v) :: e) Φ) : T P ops Q S n ((i, m) :: rest) e Φ := by
  refine T.pure d _ hk (fun w => ?_) h
  unfold dvAt at hs
  unfold runAt
  cases ho : ops[i]? with
  | none => rw [ho] at hs; cases hs
  | some o =>
    rw [ho] at hs
    simp only [Option.map_some] at hs
    split at hs
    · simp at hs
    · rename_i t' a b ty heq
      simp only [Option.some.injEq, Prod.mk.injEq, true_and] at hs
      unfold execOp
      simp only [Option.some.inj heq, hs.1, hs.2]
      simp [eqGuard, binOp, Op.intDiv, h0, hv]
    · cases hs
end
end Go.Proofs.Ytphnfhonmbbddaa
