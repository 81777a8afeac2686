/- A small logic over the walk: frames by the slots that matter, memory by the blocks that are owned; one rule for each kind of operation. No program in sight. -/
import Derived.Deep.MidRow
import Derived.Below
import Derived.Laws.AppendOwn
import Derived.Shelf.Abstract
import Derived.Test.YthhgdkodhokefaaOrder
namespace Go.Proofs.Ythhgdkodhokefaa
open Go Go.RowKit
set_option linter.unusedVariables false

abbrev Env := List (Nat × Value)
def Env.get : Env → Nat → Option Value
  | [], _ => none
  | (k, v) :: r, i => bif Nat.beq k i then some v else Env.get r i
theorem Env.get_cons (k : Nat) (v : Value) (r : Env) (i : Nat) : Env.get ((k, v) :: r) i = if k = i then some v else Env.get r i := by
  show (bif Nat.beq k i then some v else Env.get r i) = _
  by_cases h : k = i
  · subst h; simp [Nat.beq_refl]
  · have : Nat.beq k i = false := by
      cases hb : Nat.beq k i with
      | false => rfl
      | true => exact absurd (Nat.eq_of_beq_eq_true hb) h
    rw [this, if_neg h]; rfl
/-- The slots that matter. -/
structure Fr (n : Nat) (e : Env) (a : Act) : Prop where
  size : a.tmps.size = n
  defers : a.defers = []
  at_ : ∀ i v, e.get i = some v → a.tmps[i]? = some v
def Env.op (e : Env) : Operand → Option Value
  | .tmp t => e.get t
  | .const v => some v
  | .global g => some (.pointer (some ⟨g, 0, none⟩))
  | .func f => some (.func (.func f) #[] #[])
def Env.ev (e : Env) (x : Operand) : Value := (e.op x).getD undef
theorem Fr.eval {n : Nat} {e : Env} {a : Act} (h : Fr n e a) {x : Operand} {v : Value} (hx : e.op x = some v) : a.eval x = v := by
  cases x with
  | tmp t =>
    have := h.at_ t v hx
    simp [Act.eval, Array.getD_eq_getD_getElem?, this]
  | const u => exact Option.some.inj hx
  | global g => exact Option.some.inj hx
  | func f => exact Option.some.inj hx
theorem Fr.put {n : Nat} {e : Env} {a : Act} (h : Fr n e a) {d : Nat} (hd : d < n) (v : Value) : Fr n ((d, v) :: e) (a.put (some d) v) := by
  refine ⟨by simp [Act.put, h.size], h.defers, fun i u hu => ?_⟩
  rw [Env.get_cons] at hu
  simp only [Act.put]
  by_cases hi : d = i
  · rw [if_pos hi] at hu
    subst hi
    rw [Array.getElem?_setIfInBounds]
    simp [h.size, hd]
    exact Option.some.inj hu
  · rw [if_neg hi] at hu
    rw [Array.getElem?_setIfInBounds]
    simp [hi]
    exact h.at_ i u hu
theorem Fr.put_undef {n : Nat} {e : Env} {a : Act} (h : Fr n e a) {d : Nat} (hd : e.get d = none) : Fr n e (a.put (some d) undef) := by
  refine ⟨by simp [Act.put, h.size], h.defers, fun i u hu => ?_⟩
  simp only [Act.put]
  have hi : d ≠ i := fun hi => by subst hi; rw [hd] at hu; cases hu
  rw [Array.getElem?_setIfInBounds]
  simp [hi]
  exact h.at_ i u hu
/-- A part of the slots. -/
theorem Env.get_mem {e : Env} {i : Nat} {v : Value} (h : e.get i = some v) : (i, v) ∈ e := by
  induction e with
  | nil => cases h
  | cons p r ih =>
    obtain ⟨k, u⟩ := p
    rw [Env.get_cons] at h
    by_cases hk : k = i
    · rw [if_pos hk] at h
      subst hk
      rw [← Option.some.inj h]; simp
    · rw [if_neg hk] at h
      exact List.mem_cons_of_mem _ (ih h)
theorem Fr.sub {n : Nat} {e e' : Env} {a : Act} (h : Fr n e a) (hs : e'.map (fun p => e.get p.1) = e'.map (fun p => e'.get p.1)) : Fr n e' a := by
  refine ⟨h.size, h.defers, fun i v hv => h.at_ i v ?_⟩
  have hm := Env.get_mem hv
  have := List.map_inj_left.1 hs (i, v) hm
  exact this.trans hv
/-- Is the operation there, wanted, with slot d, and are its operands known? -/
def guardOk (ops : Array Oper) (e : Env) (o : Oper) : Bool :=
  match o.guard with
  | none => true
  | some (j, want) =>
    match (ops[j]?).bind (·.dst) with
    | none => false
    | some d => match e.get d with
      | some (.bool b) => b == want
      | _ => false
theorem wanted_of {ops : Array Oper} {n : Nat} {e : Env} {a : Act} {o : Oper} (h : Fr n e a) (hg : guardOk ops e o = true) : Region.wanted o (yielded ops a.tmps) = true := by
  unfold guardOk at hg
  unfold Region.wanted yielded
  cases hgd : o.guard with
  | none => rfl
  | some p =>
    obtain ⟨j, want⟩ := p
    rw [hgd] at hg
    simp only at hg ⊢
    cases hd : (ops[j]?).bind (·.dst) with
    | none => rw [hd] at hg; cases hg
    | some d =>
      rw [hd] at hg
      simp only at hg
      cases hv : e.get d with
      | none => rw [hv] at hg; cases hg
      | some v =>
        rw [hv] at hg
        cases v with
        | bool b =>
          simp only at hg
          have := h.at_ d _ hv
          simp only [Option.bind_some, this]
          simpa using hg
        | _ => cases hg
def noSel : Op → Bool
  | .select _ _ => false
  | _ => true
def known (e : Env) (o : Oper) : Bool := noSel o.op && o.op.operands.toList.all (fun x => (e.op x).isSome)
theorem exec_known {n : Nat} {e : Env} {a : Act} {o : Oper} (h : Fr n e a) (hk : known e o = true) : execOp a.eval o = execOp e.ev o := by
  unfold known at hk
  rw [Bool.and_eq_true] at hk
  refine execOp_congr o (fun cs b he => ?_) (fun x hx => ?_)
  · rw [he] at hk; exact absurd hk.1 (by simp [noSel])
  · have := List.all_eq_true.1 hk.2 x (by simpa using hx)
    obtain ⟨v, hv⟩ := Option.isSome_iff_exists.1 this
    rw [h.eval hv, Env.ev, hv]; rfl
def okAt (ops : Array Oper) (n : Nat) (e : Env) (i d : Nat) : Bool :=
  match ops[i]? with
  | none => false
  | some o => (match o.dst with | some d' => Nat.beq d d' && Nat.ble (d + 1) n | none => false) && guardOk ops e o && known e o
/-- The same for an operation without a slot. -/
def okAt0 (ops : Array Oper) (e : Env) (i : Nat) : Bool :=
  match ops[i]? with
  | none => false
  | some o => (match o.dst with | some _ => false | none => true) && guardOk ops e o && known e o
def runAt (P : Program) (ops : Array Oper) (e : Env) (i : Nat) (w : World) : Result Next :=
  match ops[i]? with
  | some o => (execOp e.ev o).run P w
  | none => .halt (.stuck "") w
theorem runAt_some {P : Program} {ops : Array Oper} {e : Env} {i : Nat} {w : World} {o : Oper} (h : ops[i]? = some o) : runAt P ops e i w = (execOp e.ev o).run P w := by
  unfold runAt; rw [h]
theorem okAt_out {ops : Array Oper} {n : Nat} {e : Env} {i d : Nat} (h : okAt ops n e i d = true) : ∃ o, ops[i]? = some o ∧ o.dst = some d ∧ d < n ∧ guardOk ops e o = true ∧ known e o = true := by
  unfold okAt at h
  cases ho : ops[i]? with
  | none => rw [ho] at h; cases h
  | some o =>
    rw [ho] at h
    simp only [Bool.and_eq_true] at h
    obtain ⟨⟨h1, h2⟩, h3⟩ := h
    cases hd : o.dst with
    | none => rw [hd] at h1; cases h1
    | some d' =>
      rw [hd] at h1
      simp only [Bool.and_eq_true] at h1
      have e1 := Nat.eq_of_beq_eq_true h1.1
      have e2 := Nat.le_of_ble_eq_true h1.2
      exact ⟨o, rfl, by rw [hd, e1], by omega, h2, h3⟩
theorem okAt0_out {ops : Array Oper} {e : Env} {i : Nat} (h : okAt0 ops e i = true) : ∃ o, ops[i]? = some o ∧ o.dst = none ∧ guardOk ops e o = true ∧ known e o = true := by
  unfold okAt0 at h
  cases ho : ops[i]? with
  | none => rw [ho] at h; cases h
  | some o =>
    rw [ho] at h
    simp only [Bool.and_eq_true] at h
    obtain ⟨⟨h1, h2⟩, h3⟩ := h
    cases hd : o.dst with
    | none => exact ⟨o, rfl, hd, h2, h3⟩
    | some d' => rw [hd] at h1; cases h1
/-- What is met at an exit. -/
def QN (n : Nat) (e : Env) (Φ : World → Prop) (Q : Exit → Act → World → Prop) (x : Exit) : Prop := ∀ a w, Fr n e a → Φ w → Q x a w
/-- A walk through code. -/
def W (P : Program) (n : Nat) (e : Env) (Φ : World → Prop) (c : Code) (Q : Exit → Act → World → Prop) : Prop := ∀ a w, Fr n e a → Φ w → c.wp P Q a w
/-- A walk through a region. -/
def T (P : Program) (ops : Array Oper) (Q : Exit → Act → World → Prop) (S : World → Prop) (n : Nat) (ord : List (Nat × Bool)) (e : Env) (Φ : World → Prop) : Prop :=
  ∀ a w, Fr n e a → Φ w → S w → runOrd P ops Q S ord a w
section
variable {P : Program} {ops : Array Oper} {Q : Exit → Act → World → Prop} {S : World → Prop} {n : Nat} {rest : List (Nat × Bool)} {e : Env} {Φ Ψ : World → Prop}
theorem T.nil (h : QN n e Φ Q .normal) : T P ops Q S n [] e Φ := fun a w ha hw _ => h a w ha hw
theorem T.weak {ord : List (Nat × Bool)} (hs : ∀ w, Φ w → Ψ w) (h : T P ops Q S n ord e Ψ) : T P ops Q S n ord e Φ := fun a w ha hw hS => h a w ha (hs w hw) hS
theorem T.sub {ord : List (Nat × Bool)} (e' : Env) (hs : e'.map (fun p => e.get p.1) = e'.map (fun p => e'.get p.1)) (h : T P ops Q S n ord e' Φ) : T P ops Q S n ord e Φ := fun a w ha hw hS => h a w (ha.sub hs) hw hS
/-- An operation that only yields a value. -/
theorem T.val {i : Nat} (m : Bool) (d : Nat) (v : Value) (hk : okAt ops n e i d = true) (hv : ∀ w, (bif m then S w else Φ w) → runAt P ops e i w = .ok (.value v) w) (h : T P ops Q S n rest ((d, v) :: e) Φ) :
    T P ops Q S n ((i, m) :: rest) e Φ := by
  obtain ⟨o, ho, hd, hdn, hg, hkn⟩ := okAt_out hk
  intro a w ha hw hS
  have hrun : ∀ w, (bif m then S w else Φ w) → (execOp a.eval o).run P w = .ok (.value v) w := fun w hw => by
    have := hv w hw
    rw [runAt_some ho] at this
    rw [exec_known ha hkn]; exact this
  have hwd := wanted_of (ops := ops) ha hg
  have hput : Fr n ((d, v) :: e) (a.put o.dst v) := by rw [hd]; exact ha.put hdn v
  cases m with
  | true => exact runOrd_take ho v (yields_run hwd fun w hw => hrun w hw) (h _ _ hput hw hS)
  | false =>
    refine runOrd_run ho ?_
    unfold wpList
    rw [if_pos hwd]
    refine .inl ?_
    unfold Oper.wp
    rw [hrun w hw]
    exact ⟨hS, h _ _ hput hw hS⟩
theorem T.pure {i : Nat} {m : Bool} (d : Nat) (v : Value) (hk : okAt ops n e i d = true) (hv : ∀ w, runAt P ops e i w = .ok (.value v) w) (h : T P ops Q S n rest ((d, v) :: e) Φ) :
    T P ops Q S n ((i, m) :: rest) e Φ := T.val m d v hk (fun w _ => hv w) h
/-- An operation that works on the world and yields a value. -/
theorem T.eff {β : Type} {i : Nat} (d : Nat) (V : β → Value) (Ψ : β → World → Prop) (hk : okAt ops n e i d = true) (hv : ∀ w, Φ w → ∃ x w', runAt P ops e i w = .ok (.value (V x)) w' ∧ Ψ x w') (hS : ∀ x w, Ψ x w → S w)
    (h : ∀ x, T P ops Q S n rest ((d, V x) :: e) (Ψ x)) : T P ops Q S n ((i, false) :: rest) e Φ := by
  obtain ⟨o, ho, hd, hdn, hg, hkn⟩ := okAt_out hk
  intro a w ha hw _
  obtain ⟨x, w', hr, hΨ⟩ := hv w hw
  refine runOrd_run ho ?_
  unfold wpList
  rw [if_pos (wanted_of ha hg)]
  refine .inl ?_
  unfold Oper.wp
  rw [runAt_some ho] at hr
  rw [exec_known ha hkn, hr]
  exact ⟨hS x w' hΨ, h x _ _ (by rw [hd]; exact ha.put hdn _) hΨ (hS x w' hΨ)⟩
/-- An operation that works on the world and yields nothing. -/
theorem T.effs {i : Nat} (Ψ : World → Prop) (hk : okAt0 ops e i = true) (hv : ∀ w, Φ w → ∃ w', runAt P ops e i w = .ok .skip w' ∧ Ψ w') (hS : ∀ w, Ψ w → S w)
    (h : T P ops Q S n rest e Ψ) : T P ops Q S n ((i, false) :: rest) e Φ := by
  obtain ⟨o, ho, hd, hg, hkn⟩ := okAt0_out hk
  intro a w ha hw _
  obtain ⟨w', hr, hΨ⟩ := hv w hw
  refine runOrd_run ho ?_
  unfold wpList
  rw [if_pos (wanted_of ha hg)]
  refine .inl ?_
  unfold Oper.wp
  rw [runAt_some ho] at hr
  rw [exec_known ha hkn, hr]
  exact ⟨hS w' hΨ, h _ _ (by rw [hd]; exact ha) hΨ (hS w' hΨ)⟩
/-- A call of a function of the program. -/
theorem T.call {β : Type} {i : Nat} (d : Nat) (f : FuncId) (args : Array Value) (V : β → Value) (Ψ : β → World → Prop) (hk : okAt ops n e i d = true) (hv : ∀ w, runAt P ops e i w = .ok (.enter f args) w)
    (hc : ∀ w, Φ w → Calls P f args w fun r w' => ∃ x, r = .returned (V x) ∧ Ψ x w') (hS : ∀ x w, Ψ x w → S w)
    (h : ∀ x, T P ops Q S n rest ((d, V x) :: e) (Ψ x)) : T P ops Q S n ((i, false) :: rest) e Φ := by
  obtain ⟨o, ho, hd, hdn, hg, hkn⟩ := okAt_out hk
  intro a w ha hw _
  have hr := hv w
  refine runOrd_run ho ?_
  unfold wpList
  rw [if_pos (wanted_of ha hg)]
  refine .inl ?_
  unfold Oper.wp
  rw [runAt_some ho] at hr
  rw [exec_known ha hkn, hr]
  refine (hc w hw).mono ?_
  rintro r w' ⟨x, rfl, hΨ⟩
  exact ⟨hS x w' hΨ, h x _ _ (by rw [hd]; exact ha.put hdn _) hΨ (hS x w' hΨ)⟩
/-- A guarded run of operations. -/
def gv (c : Bool) (v : Value) : Value := bif c then v else undef
def blkOk (ops : Array Oper) (n : Nat) (e : Env) (j : Nat) (want : Bool) : List (Nat × Bool) → List Nat → Option (List Nat)
  | [], D => some D
  | (i, _) :: r, D =>
    match ops[i]? with
    | none => none
    | some o => match o.dst, o.guard with
      | some d, some (j', w') =>
        bif Nat.ble (d + 1) n && (e.get d).isNone && ((Nat.beq j' j && (w' == want)) || (match (ops[j']?).bind (·.dst) with | some d' => D.any (Nat.beq d') | none => false)) then blkOk ops n e j want r (d :: D) else none
      | _, _ => none
theorem runOrd_app (S : World → Prop) : ∀ (blk rest : List (Nat × Bool)) (a : Act) (w : World), runOrd P ops (Exit.then (fun a w => runOrd P ops Q S rest a w) Q) S blk a w → runOrd P ops Q S (blk ++ rest) a w
  | [], rest, a, w, h => h
  | (i, true) :: r, rest, a, w, h => fun o ho => by
    obtain ⟨v, hy, hr⟩ := h o ho
    exact ⟨v, hy, runOrd_app S r rest _ w hr⟩
  | (i, false) :: r, rest, a, w, h => fun o ho => by
    have hh := h o ho
    unfold wpList at hh ⊢
    split
    · rename_i hwd
      rw [if_pos hwd] at hh
      rcases hh with hh | ⟨h1, h2⟩
      · refine .inl ?_
        unfold Oper.wp at hh ⊢
        rw [upon_then, upon_then] at hh
        rw [upon_then]
        exact Oper.wp_mono (K := wpList P ops (Exit.then (fun a' w' => S w' ∧ runOrd P ops (Exit.then (fun a w => runOrd P ops Q S rest a w) Q) S r a' w') (Exit.then (fun a w => runOrd P ops Q S rest a w) Q)) []) (fun a' w' hk => (⟨hk.1, runOrd_app S r rest a' w' hk.2⟩ : S w' ∧ runOrd P ops Q S (r ++ rest) a' w')) hh
      · refine .inr ⟨h1, ?_⟩
        obtain ⟨a', w', h3⟩ := h2
        exact ⟨a', w', h3⟩
    · rename_i hwd
      rw [if_neg hwd] at hh
      exact (⟨hh.1, runOrd_app S r rest _ w hh.2⟩ : S w ∧ runOrd P ops Q S (r ++ rest) _ w)
theorem runOrd_not {j : Nat} {want b : Bool} {dj : Nat} (hdj : (ops[j]?).bind (·.dst) = some dj) (hj : e.get dj = some (.bool b)) (hb : b ≠ want) (K : Act → World → Prop) :
    ∀ (blk : List (Nat × Bool)) (D D' : List Nat) (a : Act) (w : World), blkOk ops n e j want blk D = some D' → Fr n e a → (∀ k ∈ D, k < n → a.tmps[k]? = some undef) → S w →
      (∀ a', Fr n e a' → (∀ k ∈ D', k < n → a'.tmps[k]? = some undef) → K a' w) → runOrd P ops (Exit.then K Q) S blk a w
  | [], D, D', a, w, hk, ha, hD, hS, h => by
    simp only [blkOk, Option.some.injEq] at hk
    subst hk
    exact h a ha hD
  | (i, m) :: r, D, D', a, w, hk, ha, hD, hS, h => by
    unfold blkOk at hk
    cases ho : ops[i]? with
    | none => rw [ho] at hk; cases hk
    | some o =>
      rw [ho] at hk
      simp only at hk
      cases hd : o.dst with
      | none => rw [hd] at hk; cases hk
      | some d =>
        cases hg : o.guard with
        | none => rw [hd, hg] at hk; cases hk
        | some p =>
          obtain ⟨j', w'⟩ := p
          rw [hd, hg] at hk
          simp only at hk
          cases hc : (Nat.ble (d + 1) n && (e.get d).isNone && ((Nat.beq j' j && (w' == want)) || (match (ops[j']?).bind (·.dst) with | some d' => D.any (Nat.beq d') | none => false))) with
          | false => rw [hc] at hk; cases hk
          | true =>
            rw [hc] at hk
            simp only [cond_true] at hk
            simp only [Bool.and_eq_true, Bool.or_eq_true] at hc
            obtain ⟨⟨c1, c2⟩, c3⟩ := hc
            have hdn : d < n := Nat.le_of_ble_eq_true c1
            have hnone : e.get d = none := by simpa using c2
            have hwd : Region.wanted o (yielded ops a.tmps) = false := by
              unfold Region.wanted yielded
              rw [hg]
              simp only
              rcases c3 with ⟨c3, c4⟩ | c3
              · have e1 := Nat.eq_of_beq_eq_true c3
                subst e1
                have e2 : w' = want := by simpa using c4
                subst e2
                rw [hdj]
                have := ha.at_ dj _ hj
                simp only [Option.bind_some, this]
                simpa using hb
              · cases hd' : (ops[j']?).bind (·.dst) with
                | none => rw [hd'] at c3; cases c3
                | some d' =>
                  rw [hd'] at c3
                  simp only at c3
                  obtain ⟨k, hk1, hk2⟩ := List.any_eq_true.1 c3
                  have e1 := Nat.eq_of_beq_eq_true hk2
                  subst e1
                  by_cases hlt : d' < n
                  · have := hD d' hk1 hlt
                    simp only [Option.bind_some, this, undef]
                    rfl
                  · have : a.tmps[d']? = none := Array.getElem?_eq_none (by rw [ha.size]; exact Nat.le_of_not_lt hlt)
                    simp only [Option.bind_some, this]
                    rfl
            have hF := ha.put_undef hnone
            have hD2 : ∀ k ∈ d :: D, k < n → (a.put (some d) undef).tmps[k]? = some undef := by
              intro k hk' hkn
              simp only [Act.put]
              rw [Array.getElem?_setIfInBounds]
              by_cases hkd : d = k
              · subst hkd; simp [ha.size, hdn]
              · simp only [hkd, if_false]
                rcases List.mem_cons.1 hk' with h1 | h1
                · exact absurd h1.symm hkd
                · exact hD k h1 hkn
            have hnext := runOrd_not hdj hj hb K r (d :: D) D' (a.put (some d) undef) w hk hF hD2 hS h
            cases m with
            | true => exact runOrd_take ho undef (yields_not hwd) (by rw [hd]; exact hnext)
            | false =>
              refine runOrd_run ho ?_
              unfold wpList
              rw [if_neg (by rw [hwd]; simp), hd]
              exact ⟨hS, hnext⟩
def blkHas (r : Option (List Nat)) (d : Nat) (n : Nat) : Bool := match r with | some D => D.any (Nat.beq d) && Nat.ble (d + 1) n | none => false
/-- The rule: under the guard the run yields x in slot d; behind it slot d holds x, or nothing. -/
theorem T.blk (blk rest : List (Nat × Bool)) (j : Nat) (want b : Bool) (dj d : Nat) (x : Value) (hdj : (ops[j]?).bind (·.dst) = some dj) (hj : e.get dj = some (.bool b)) (hk : blkHas (blkOk ops n e j want blk []) d n = true)
    (ht : b = want → T P ops (Exit.then (fun a w => Fr n ((d, x) :: (dj, .bool want) :: e) a ∧ Φ w ∧ S w) Q) S n blk ((dj, .bool want) :: e) Φ)
    (h : T P ops Q S n rest ((d, gv (b == want) x) :: e) Φ) : T P ops Q S n (blk ++ rest) e Φ := by
  intro a w ha hw hS
  refine runOrd_app S blk rest a w ?_
  by_cases hb : b = want
  · subst hb
    have hF : Fr n ((dj, .bool b) :: e) a := ⟨ha.size, ha.defers, fun i v hv => by
      rw [Env.get_cons] at hv
      by_cases hi : dj = i
      · subst hi; rw [if_pos rfl] at hv; rw [← hv]; exact (ha.at_ dj _ hj).trans rfl
      · rw [if_neg hi] at hv; exact ha.at_ i v hv⟩
    have h1 := ht rfl a w hF hw hS
    have e1 : (gv (b == b) x) = x := by simp [gv]
    rw [e1] at h
    have : ∀ (l : List (Nat × Bool)) (a : Act) (w : World), runOrd P ops (Exit.then (fun a w => Fr n ((d, x) :: (dj, .bool b) :: e) a ∧ Φ w ∧ S w) Q) S l a w → runOrd P ops (Exit.then (fun a w => runOrd P ops Q S rest a w) Q) S l a w := by
      intro l
      induction l with
      | nil =>
        intro a w hh
        have hh' : Fr n ((d, x) :: (dj, .bool b) :: e) a ∧ Φ w ∧ S w := hh
        refine h a w ⟨hh'.1.size, hh'.1.defers, fun i v hv => hh'.1.at_ i v ?_⟩ hh'.2.1 hh'.2.2
        rw [Env.get_cons] at hv ⊢
        by_cases hi : d = i
        · rw [if_pos hi] at hv ⊢; exact hv
        · rw [if_neg hi] at hv ⊢
          rw [Env.get_cons]
          by_cases hi2 : dj = i
          · rw [if_pos hi2]; subst hi2; rw [hj] at hv; exact hv
          · rw [if_neg hi2]; exact hv
      | cons p r ih =>
        obtain ⟨i, m⟩ := p
        intro a w hh
        cases m with
        | true => exact fun o ho => by obtain ⟨v, hy, hr⟩ := hh o ho; exact ⟨v, hy, ih _ _ hr⟩
        | false => exact fun o ho => by
                    have h0 := hh o ho
                    unfold wpList at h0 ⊢
                    split
                    · rename_i hwd
                      rw [if_pos hwd] at h0
                      rcases h0 with h0 | ⟨h1, h2⟩
                      · refine .inl ?_
                        unfold Oper.wp at h0 ⊢
                        rw [upon_then, upon_then] at h0 ⊢
                        exact Oper.wp_mono (K := wpList P ops (Exit.then (fun a' w' => S w' ∧ runOrd P ops (Exit.then (fun a w => Fr n ((d, x) :: (dj, .bool b) :: e) a ∧ Φ w ∧ S w) Q) S r a' w') (Exit.then (fun a w => Fr n ((d, x) :: (dj, .bool b) :: e) a ∧ Φ w ∧ S w) Q)) []) (fun a' w' hk => (⟨hk.1, ih a' w' hk.2⟩ : S w' ∧ _)) h0
                      · exact .inr ⟨h1, h2⟩
                    · rename_i hwd
                      rw [if_neg hwd] at h0
                      exact (⟨h0.1, ih _ w h0.2⟩ : S w ∧ _)
    exact this blk a w h1
  · cases hD' : blkOk ops n e j want blk [] with
    | none => rw [hD'] at hk; cases hk
    | some D' =>
      rw [hD'] at hk
      simp only [blkHas, Bool.and_eq_true] at hk
      obtain ⟨hk1, hk2⟩ := hk
      obtain ⟨k, hk3, hk4⟩ := List.any_eq_true.1 hk1
      have e1 := Nat.eq_of_beq_eq_true hk4
      subst e1
      have hdn : d < n := Nat.le_of_ble_eq_true hk2
      refine runOrd_not hdj hj hb _ blk [] D' a w hD' ha (fun k hk => by cases hk) hS fun a' ha' hD => ?_
      have e2 : gv (b == want) x = undef := by
        have : (b == want) = false := by simpa using hb
        rw [this]; rfl
      rw [e2] at h
      refine h a' w ⟨ha'.size, ha'.defers, fun i v hv => ?_⟩ hw hS
      rw [Env.get_cons] at hv
      by_cases hi : d = i
      · rw [if_pos hi] at hv; subst hi; rw [← hv]; exact hD d hk3 hdn
      · rw [if_neg hi] at hv; exact ha'.at_ i v hv
/-- The end of a guarded run. -/
theorem T.blkEnd {e0 : Env} {Φ0 : World → Prop} {d : Nat} {x : Value} (hs : ((d, x) :: e0).map (fun p => e.get p.1) = ((d, x) :: e0).map (fun p => Env.get ((d, x) :: e0) p.1)) (hΦ : ∀ w, Φ w → Φ0 w) : T P ops (Exit.then (fun a w => Fr n ((d, x) :: e0) a ∧ Φ0 w ∧ S w) Q) S n [] e Φ :=
  fun a w ha hw hS => (⟨ha.sub hs, hΦ w hw, hS⟩ : Fr n ((d, x) :: e0) a ∧ Φ0 w ∧ S w)
/-- a && b, a || b: the two ways meet again. -/
theorem run_pick_and {c : Operand} {x : Operand} (o : Oper) (ho : o.op = .pick c x (.const (.bool false))) (b y : Bool) (hc : e.op c = some (.bool b)) (hx : e.op x = some (gv (b == true) (.bool y))) (w : World) :
    (execOp e.ev o).run P w = .ok (.value (.bool (b && y))) w := by
  unfold execOp
  simp only [ho, Env.ev, hc, hx]
  cases b <;> rfl
theorem run_pick_or {c : Operand} {x : Operand} (o : Oper) (ho : o.op = .pick c (.const (.bool true)) x) (b y : Bool) (hc : e.op c = some (.bool b)) (hx : e.op x = some (gv (b == false) (.bool y))) (w : World) :
    (execOp e.ev o).run P w = .ok (.value (.bool (b || y))) w := by
  unfold execOp
  simp only [ho, Env.ev, hc, hx]
  cases b <;> rfl
def pickAnd (ops : Array Oper) (e : Env) (i : Nat) : Option (Option Value × Option Value) :=
  match (ops[i]?).map Oper.op with
  | some (Op.pick c x (Operand.const (Value.bool false))) => some (e.op c, e.op x)
  | _ => none
def pickOr (ops : Array Oper) (e : Env) (i : Nat) : Option (Option Value × Option Value) :=
  match (ops[i]?).map Oper.op with
  | some (Op.pick c (Operand.const (Value.bool true)) x) => some (e.op c, e.op x)
  | _ => none
theorem T.and {i : Nat} {m : Bool} (d : Nat) (b y : Bool) (hk : okAt ops n e i d = true) (hp : pickAnd ops e i = some (some (.bool b), some (gv (b == true) (.bool y)))) (h : T P ops Q S n rest ((d, .bool (b && y)) :: e) Φ) : T P ops Q S n ((i, m) :: rest) e Φ := by
  refine T.pure d _ hk (fun w => ?_) h
  unfold pickAnd at hp
  unfold runAt
  cases ho : ops[i]? with
  | none => rw [ho] at hp; cases hp
  | some o =>
    rw [ho] at hp
    simp only [Option.map_some] at hp ⊢
    split at hp
    · rename_i c x heq
      simp only [Option.some.injEq, Prod.mk.injEq] at hp
      exact run_pick_and o (Option.some.inj heq) b y hp.1 hp.2 w
    · cases hp
theorem T.or {i : Nat} {m : Bool} (d : Nat) (b y : Bool) (hk : okAt ops n e i d = true) (hp : pickOr ops e i = some (some (.bool b), some (gv (b == false) (.bool y)))) (h : T P ops Q S n rest ((d, .bool (b || y)) :: e) Φ) : T P ops Q S n ((i, m) :: rest) e Φ := by
  refine T.pure d _ hk (fun w => ?_) h
  unfold pickOr at hp
  unfold runAt
  cases ho : ops[i]? with
  | none => rw [ho] at hp; cases hp
  | some o =>
    rw [ho] at hp
    simp only [Option.map_some] at hp ⊢
    split at hp
    · rename_i c x heq
      simp only [Option.some.injEq, Prod.mk.injEq] at hp
      exact run_pick_or o (Option.some.inj heq) b y hp.1 hp.2 w
    · cases hp
end
end Go.Proofs.Ythhgdkodhokefaa
