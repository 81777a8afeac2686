/- Regions that draw their order, with operations that are ready together: a tree of orders. Ways that meet again. No program in sight. -/
import Derived.Test.YtphnfhonmbbddaaGE
namespace Go.Proofs.Ytphnfhonmbbddaa
open Go Go.RowKit
set_option linter.unusedVariables false
inductive OT where
  | leaf (pre : List (Nat × Bool))
  | node (pre : List (Nat × Bool)) (i : Nat) (A : OT) (j : Nat) (B : OT)
def OT.len : OT → Nat
  | .leaf pre => pre.length
  | .node pre _ A _ _ => pre.length + (1 + A.len)
section
variable {P : Program} {ops : Array Oper} {Q : Exit → Act → World → Prop} {S : World → Prop} {n : Nat} {e : Env} {Φ Ψ : World → Prop}
def RunI (P : Program) (ops : Array Oper) (Q : Exit → Act → World → Prop) (S : World → Prop) (i : Nat) (K : Act → World → Prop) (a : Act) (w : World) : Prop :=
  ∀ o, ops[i]? = some o → wpList P ops (Exit.then (fun a' w' => S w' ∧ K a' w') Q) [o] a w
def RT (P : Program) (ops : Array Oper) (Q : Exit → Act → World → Prop) (S : World → Prop) : OT → Act → World → Prop
  | .leaf pre => fun a w => runOrd P ops Q S pre a w
  | .node pre i A j B => fun a w => runOrd P ops (Exit.then (fun a w => RunI P ops Q S i (RT P ops Q S A) a w ∧ RunI P ops Q S j (RT P ops Q S B) a w) Q) S pre a w
def okPre (ops : Array Oper) : List (Nat × Bool) → Array Bool → Option (Array Bool)
  | [], listed => some listed
  | (k, true) :: r, listed => bif Region.free .any ops listed k && (Region.ready .any ops listed).contains k && ops[k]?.isSome then okPre ops r (listed.setIfInBounds k true) else none
  | (k, false) :: r, listed => bif (Region.ready .any ops listed == [k]) && ops[k]?.isSome then okPre ops r (listed.setIfInBounds k true) else none
def okT (ops : Array Oper) : OT → Array Bool → Bool
  | .leaf pre, listed => match okPre ops pre listed with | some l => (Region.ready .any ops l).isEmpty | none => false
  | .node pre i A j B, listed => match okPre ops pre listed with
    | some l => (Region.ready .any ops l == [i, j]) && ops[i]?.isSome && ops[j]?.isSome && (A.len == B.len) && okT ops A (l.setIfInBounds i true) && okT ops B (l.setIfInBounds j true)
    | none => false
theorem then_then {X K : Act → World → Prop} : Exit.then X (Exit.then K Q) = Exit.then X Q := by
  funext x a w; cases x <;> rfl
theorem then_self : Exit.then (fun a w => Q .normal a w) Q = Q := by
  funext x a w; cases x <;> rfl
theorem anyH_pre (hs : Region.noSelect ops = true) (hQ : ∀ (d : Option Tmp) (v : Value) c a w, Q (.panic c) (Act.put a d v) w → Q (.panic c) a w) {K : Act → World → Prop} {len : Nat} {listed' : Array Bool} (hK : ∀ a w, S w → K a w → wpAnyH P .any ops Q S len listed' a w) :
    ∀ (pre : List (Nat × Bool)) (listed : Array Bool) (a : Act) (w : World), okPre ops pre listed = some listed' → S w → runOrd P ops (Exit.then K Q) S pre a w → wpAnyH P .any ops Q S (pre.length + len) listed a w
  | [], listed, a, w, hok, hS, h => by
    simp only [okPre, Option.some.injEq] at hok
    subst hok
    rw [List.length_nil, Nat.zero_add]
    exact hK a w hS h
  | (k, true) :: rest, listed, a, w, hok, hS, h => by
    unfold okPre at hok
    cases hc : (Region.free .any ops listed k && (Region.ready .any ops listed).contains k && ops[k]?.isSome) with
    | false => rw [hc] at hok; cases hok
    | true =>
      rw [hc, cond_true] at hok
      simp only [Bool.and_eq_true] at hc
      obtain ⟨⟨h1, h2⟩, h3⟩ := hc
      obtain ⟨o, ho⟩ := Option.isSome_iff_exists.1 h3
      obtain ⟨v, hy, hr⟩ := h o ho
      rw [show ((k, true) :: rest).length + len = (rest.length + len) + 1 by simp; omega]
      exact wpAnyH_take ho hs h1 h2 (fun c a w => hQ _ _ c a w) hy hS (anyH_pre hs hQ hK rest _ _ w hok hS hr)
  | (k, false) :: rest, listed, a, w, hok, hS, h => by
    unfold okPre at hok
    cases hc : ((Region.ready .any ops listed == [k]) && ops[k]?.isSome) with
    | false => rw [hc] at hok; cases hok
    | true =>
      rw [hc, cond_true] at hok
      simp only [Bool.and_eq_true] at hc
      obtain ⟨h1, h3⟩ := hc
      obtain ⟨o, ho⟩ := Option.isSome_iff_exists.1 h3
      rw [show ((k, false) :: rest).length + len = (rest.length + len) + 1 by simp; omega]
      refine wpAnyH_all (rs := [k]) (by simpa using h1) (by simp) ?_
      intro i' hi'
      simp only [List.mem_singleton] at hi'
      subst hi'
      have hw := h o ho
      rw [then_then] at hw
      exact wpOp_mono (fun a' w' hk => ⟨hk.1, anyH_pre hs hQ hK rest _ a' w' hok hk.1 hk.2⟩) (wpOp_of_run (rest := rest) ho hw)
theorem anyH_RT (hs : Region.noSelect ops = true) (hQ : ∀ (d : Option Tmp) (v : Value) c a w, Q (.panic c) (Act.put a d v) w → Q (.panic c) a w) :
    ∀ (t : OT) (listed : Array Bool) (a : Act) (w : World), okT ops t listed = true → S w → RT P ops Q S t a w → wpAnyH P .any ops Q S t.len listed a w
  | .leaf pre, listed, a, w, hok, hS, h => by
    unfold okT at hok
    cases hp : okPre ops pre listed with
    | none => rw [hp] at hok; cases hok
    | some l =>
      rw [hp] at hok
      have hr : Region.ready .any ops l = [] := by simpa using hok
      have h' : runOrd P ops (Exit.then (fun a w => Q .normal a w) Q) S pre a w := by rw [then_self]; exact h
      have := anyH_pre (P := P) (S := S) (len := 0) hs hQ (fun a w _ hk => wpAnyH_done hr hk 0) pre listed a w hp hS h'
      exact this
  | .node pre i A j B, listed, a, w, hok, hS, h => by
    unfold okT at hok
    cases hp : okPre ops pre listed with
    | none => rw [hp] at hok; cases hok
    | some l =>
      rw [hp] at hok
      simp only [Bool.and_eq_true, beq_iff_eq] at hok
      obtain ⟨⟨⟨⟨⟨h1, h2⟩, h3⟩, hl⟩, h4⟩, h5⟩ := hok
      obtain ⟨oi, hoi⟩ := Option.isSome_iff_exists.1 h2
      obtain ⟨oj, hoj⟩ := Option.isSome_iff_exists.1 h3
      refine anyH_pre (P := P) (S := S) (len := 1 + A.len) hs hQ (fun a w hS hk => ?_) pre listed a w hp hS h
      rw [Nat.add_comm]
      refine wpAnyH_all (rs := [i, j]) h1 (by simp) ?_
      intro k hk'
      simp only [List.mem_cons, List.not_mem_nil, or_false] at hk'
      rcases hk' with rfl | rfl
      · exact wpOp_mono (fun a' w' hx => ⟨hx.1, anyH_RT hs hQ A _ a' w' h4 hx.1 hx.2⟩) (wpOp_of_run (rest := []) hoi (hk.1 oi hoi))
      · refine wpOp_mono (fun a' w' hx => ⟨hx.1, ?_⟩) (wpOp_of_run (rest := []) hoj (hk.2 oj hoj))
        rw [hl]
        exact anyH_RT hs hQ B _ a' w' h5 hx.1 hx.2
/-- What is walked behind the operations that come first in a tree. -/
def TT (P : Program) (ops : Array Oper) (Q : Exit → Act → World → Prop) (S : World → Prop) (n : Nat) (t : OT) (e : Env) (Φ : World → Prop) : Prop := ∀ a w, Fr n e a → Φ w → S w → RT P ops Q S t a w
theorem W.drawnT {id : Nat} {ops : Array Oper} (S : World → Prop) (t : OT) (hm : P.follows .mixedOrders = true) (hB : (Region.noSelect ops && okT ops t (Array.replicate ops.size false) && (t.len == ops.size)) = true) (hQ : NoPanic Q)
    (hd : ∀ w, Φ w → Ψ { w with drawn := w.drawn + 1 }) (hS : ∀ w, Ψ w → S w) (h : TT P ops Q S n t e Ψ) : W P n e Φ (.region id ops true) Q := fun a w ha hw => by
  simp only [Bool.and_eq_true, beq_iff_eq] at hB
  obtain ⟨⟨h1, h2⟩, h3⟩ := hB
  refine wp_region_held (S := S) hm ?_
  have := anyH_RT (P := P) (S := S) h1 hQ t _ a _ h2 (hS _ (hd w hw)) (h a _ ha (hd w hw) (hS _ (hd w hw)))
  rw [h3] at this
  exact this
theorem TT.leaf {pre : List (Nat × Bool)} (h : T P ops Q S n pre e Φ) : TT P ops Q S n (.leaf pre) e Φ := h
theorem TT.node {pre : List (Nat × Bool)} {i j : Nat} {A B : OT} (h : T P ops (Exit.then (fun a w => RunI P ops Q S i (RT P ops Q S A) a w ∧ RunI P ops Q S j (RT P ops Q S B) a w) Q) S n pre e Φ) : TT P ops Q S n (.node pre i A j B) e Φ := h
/-- One of the two that are ready, then the tree behind it. -/
def TI (P : Program) (ops : Array Oper) (Q : Exit → Act → World → Prop) (S : World → Prop) (n : Nat) (i : Nat) (t : OT) (e : Env) (Φ : World → Prop) : Prop := ∀ a w, Fr n e a → Φ w → S w → RunI P ops Q S i (RT P ops Q S t) a w
theorem T.fork {i j : Nat} {A B : OT} (hS : ∀ w, Φ w → S w) (hA : TI P ops Q S n i A e Φ) (hB : TI P ops Q S n j B e Φ) : T P ops (Exit.then (fun a w => RunI P ops Q S i (RT P ops Q S A) a w ∧ RunI P ops Q S j (RT P ops Q S B) a w) Q) S n [] e Φ :=
  fun a w ha hw _ => (⟨hA a w ha hw (hS w hw), hB a w ha hw (hS w hw)⟩ : _ ∧ _)
theorem TI.leaf {i : Nat} {pre : List (Nat × Bool)} (h : T P ops Q S n ((i, false) :: pre) e Φ) : TI P ops Q S n i (.leaf pre) e Φ := h
theorem TI.node {i k j : Nat} {pre : List (Nat × Bool)} {A B : OT} (h : T P ops (Exit.then (fun a w => RunI P ops Q S k (RT P ops Q S A) a w ∧ RunI P ops Q S j (RT P ops Q S B) a w) Q) S n ((i, false) :: pre) e Φ) : TI P ops Q S n i (.node pre k A j B) e Φ := fun a w ha hw hS o ho => by
  have := h a w ha hw hS o ho
  rw [then_then] at this
  exact this
end
end Go.Proofs.Ytphnfhonmbbddaa
