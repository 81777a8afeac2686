/- A region that draws its order, walked in one order: operations that yield their value in every world that meets S are taken first; the others are carried out where they alone are ready. -/
import Derived.OrdersHeld
import Derived.Tactics
import Derived.Deep.MidRow
import Derived.Below
import Derived.Laws.AppendOwn
import Derived.Shelf.Abstract
import Derived.Maps.AppendAt
import Derived.Great.BuildSlice
import Derived.Laws.Bits64
import Derived.Laws.StructEq
import Derived.Sort.AssemblyPlain
import Derived.StillTail
import Derived.Lib.ReflectliteSwap
import Derived.Laws.CopyRow
import Derived.Scope
namespace Go.Proofs.Ytphnfhonmbbddaa
open Go
set_option linter.unusedVariables false

section
variable {P : Program} {ops : Array Oper} {Q : Exit → Act → World → Prop} {S : World → Prop}
/-- The walk in one order. -/
def runOrd (P : Program) (ops : Array Oper) (Q : Exit → Act → World → Prop) (S : World → Prop) : List (Nat × Bool) → Act → World → Prop
  | [], a, w => Q .normal a w
  | (i, true) :: rest, a, w => ∀ o, ops[i]? = some o → ∃ v, YieldsIf P ops S o v a ∧ runOrd P ops Q S rest (a.put o.dst v) w
  | (i, false) :: rest, a, w => ∀ o, ops[i]? = some o → wpList P ops (Exit.then (fun a' w' => S w' ∧ runOrd P ops Q S rest a' w') Q) [o] a w
/-- May the order be walked so? -/
def okOrd (ops : Array Oper) : List (Nat × Bool) → Array Bool → Bool
  | [], listed => (Region.ready .any ops listed).isEmpty
  | (i, true) :: rest, listed => Region.free .any ops listed i && (Region.ready .any ops listed).contains i && ops[i]?.isSome && okOrd ops rest (listed.setIfInBounds i true)
  | (i, false) :: rest, listed => (Region.ready .any ops listed == [i]) && ops[i]?.isSome && okOrd ops rest (listed.setIfInBounds i true)
theorem upon_then (o : Oper) (a : Act) (next K : Act → World → Prop) (r : Result Next) : o.upon P a next (Exit.then K Q) r = o.upon P a next Q r := by
  cases r with
  | ok n w' => cases n <;> rfl
  | halt h w' => cases h <;> rfl
theorem anyH_of_run (hs : Region.noSelect ops = true) (hQ : ∀ (d : Option Tmp) (v : Value) c a w, Q (.panic c) (Act.put a d v) w → Q (.panic c) a w) :
    ∀ (ord : List (Nat × Bool)) (listed : Array Bool) (a : Act) (w : World), okOrd ops ord listed = true → S w → runOrd P ops Q S ord a w → wpAnyH P .any ops Q S ord.length listed a w
  | [], listed, a, w, hok, hS, h => by
    simp only [okOrd, List.isEmpty_iff] at hok
    exact wpAnyH_done hok h _
  | (i, true) :: rest, listed, a, w, hok, hS, h => by
    simp only [okOrd, Bool.and_eq_true] at hok
    obtain ⟨⟨⟨h1, h2⟩, h3⟩, h4⟩ := hok
    obtain ⟨o, ho⟩ := Option.isSome_iff_exists.1 h3
    obtain ⟨v, hy, hr⟩ := h o ho
    exact wpAnyH_take ho hs h1 h2 (fun c a w => hQ _ _ c a w) hy hS (anyH_of_run hs hQ rest _ _ w h4 hS hr)
  | (i, false) :: rest, listed, a, w, hok, hS, h => by
    simp only [okOrd, Bool.and_eq_true] at hok
    obtain ⟨⟨h1, h3⟩, h4⟩ := hok
    obtain ⟨o, ho⟩ := Option.isSome_iff_exists.1 h3
    refine wpAnyH_all (rs := [i]) (by simpa using h1) (by simp) ?_
    intro i' hi'
    simp only [List.mem_singleton] at hi'
    subst hi'
    have hw := h o ho
    unfold wpOp
    simp only [ho]
    unfold wpList at hw
    split
    · rename_i hwd
      rw [if_pos hwd] at hw
      rcases hw with hw | ⟨hw1, hw2⟩
      · refine .inl ?_
        unfold Oper.wp at hw ⊢
        rw [upon_then] at hw
        refine Oper.wp_mono (K := wpList P ops (Exit.then (fun a' w' => S w' ∧ runOrd P ops Q S rest a' w') Q) []) (fun a' w' hk => ?_) hw
        have hk' : S w' ∧ runOrd P ops Q S rest a' w' := hk
        exact ⟨hk'.1, anyH_of_run hs hQ rest _ a' w' h4 hk'.1 hk'.2⟩
      · exact .inr ⟨hw1, hw2⟩
    · rename_i hwd
      rw [if_neg hwd] at hw
      have hk' : S w ∧ runOrd P ops Q S rest (a.put o.dst undef) w := hw
      exact ⟨hk'.1, anyH_of_run hs hQ rest _ _ w h4 hk'.1 hk'.2⟩
theorem runOrd_take {i : Nat} {rest : List (Nat × Bool)} {o : Oper} {a : Act} {w : World} (ho : ops[i]? = some o) (v : Value) (hy : YieldsIf P ops S o v a) (h : runOrd P ops Q S rest (a.put o.dst v) w) : runOrd P ops Q S ((i, true) :: rest) a w := fun o' ho' => by
  rw [ho] at ho'
  cases ho'
  exact ⟨v, hy, h⟩
theorem runOrd_run {i : Nat} {rest : List (Nat × Bool)} {o : Oper} {a : Act} {w : World} (ho : ops[i]? = some o) (h : wpList P ops (Exit.then (fun a' w' => S w' ∧ runOrd P ops Q S rest a' w') Q) [o] a w) : runOrd P ops Q S ((i, false) :: rest) a w := fun o' ho' => by
  rw [ho] at ho'
  cases ho'
  exact h
theorem yields_run {o : Oper} {v : Value} {a : Act} (hw : Region.wanted o (yielded ops a.tmps) = true) (hv : ∀ w, S w → (execOp a.eval o).run P w = .ok (.value v) w) : YieldsIf P ops S o v a := .inl ⟨hw, hv⟩
theorem yields_not {o : Oper} {a : Act} (hw : Region.wanted o (yielded ops a.tmps) = false) : YieldsIf P ops S o undef a := .inr ⟨hw, rfl⟩
/-- The law. -/
theorem wp_region_order {id : Nat} {a : Act} {w : World} (S : World → Prop) (ord : List (Nat × Bool)) (hm : P.follows .mixedOrders = true) (hB : (Region.noSelect ops && okOrd ops ord (Array.replicate ops.size false) && (ord.length == ops.size)) = true)
    (hQ : ∀ (d : Option Tmp) (v : Value) c a w, Q (.panic c) (Act.put a d v) w → Q (.panic c) a w) (hS : S { w with drawn := w.drawn + 1 })
    (h : runOrd P ops Q S ord a { w with drawn := w.drawn + 1 }) : (Code.region id ops true).wp P Q a w := by
  simp only [Bool.and_eq_true, beq_iff_eq] at hB
  obtain ⟨⟨h1, h2⟩, h3⟩ := hB
  refine wp_region_held (S := S) hm ?_
  rw [← h3]
  rw [h3]
  have := anyH_of_run (P := P) (S := S) h1 hQ ord _ a _ h2 hS h
  rw [h3] at this
  exact this
end
end Go.Proofs.Ytphnfhonmbbddaa

/- A small logic over the walk: frames by the slots that matter, memory by the blocks that are owned; one rule for each kind of operation. No program in sight. -/
namespace Go.Proofs.Ytphnfhonmbbddaa
open Go Go.RowKit
set_option linter.unusedVariables false

abbrev Env := List (Nat × Value)
def Env.get : Env → Nat → Option Value
  | [], _ => none
  | (k, v) :: r, i => bif Nat.beq k i then some v else Env.get r i
theorem Env.get_cons (k : Nat) (v : Value) (r : Env) (i : Nat) : Env.get ((k, v) :: r) i = if k = i then some v else Env.get r i := by
  show (bif Nat.beq k i then some v else Env.get r i) = _
  by_cases h : k = i
  · subst h; simp [Nat.beq_refl]
  · have : Nat.beq k i = false := by
      cases hb : Nat.beq k i with
      | false => rfl
      | true => exact absurd (Nat.eq_of_beq_eq_true hb) h
    rw [this, if_neg h]; rfl
/-- The slots that matter. -/
structure Fr (n : Nat) (e : Env) (a : Act) : Prop where
  size : a.tmps.size = n
  defers : a.defers = []
  at_ : ∀ i v, e.get i = some v → a.tmps[i]? = some v
def Env.op (e : Env) : Operand → Option Value
  | .tmp t => e.get t
  | .const v => some v
  | .global g => some (.pointer (some ⟨g, 0, none⟩))
  | .func f => some (.func (.func f) #[] #[])
def Env.ev (e : Env) (x : Operand) : Value := (e.op x).getD undef
theorem Fr.eval {n : Nat} {e : Env} {a : Act} (h : Fr n e a) {x : Operand} {v : Value} (hx : e.op x = some v) : a.eval x = v := by
  cases x with
  | tmp t =>
    have := h.at_ t v hx
    simp [Act.eval, Array.getD_eq_getD_getElem?, this]
  | const u => exact Option.some.inj hx
  | global g => exact Option.some.inj hx
  | func f => exact Option.some.inj hx
theorem Fr.put {n : Nat} {e : Env} {a : Act} (h : Fr n e a) {d : Nat} (hd : d < n) (v : Value) : Fr n ((d, v) :: e) (a.put (some d) v) := by
  refine ⟨by simp [Act.put, h.size], h.defers, fun i u hu => ?_⟩
  rw [Env.get_cons] at hu
  simp only [Act.put]
  by_cases hi : d = i
  · rw [if_pos hi] at hu
    subst hi
    rw [Array.getElem?_setIfInBounds]
    simp [h.size, hd]
    exact Option.some.inj hu
  · rw [if_neg hi] at hu
    rw [Array.getElem?_setIfInBounds]
    simp [hi]
    exact h.at_ i u hu
theorem Fr.put_undef {n : Nat} {e : Env} {a : Act} (h : Fr n e a) {d : Nat} (hd : e.get d = none) : Fr n e (a.put (some d) undef) := by
  refine ⟨by simp [Act.put, h.size], h.defers, fun i u hu => ?_⟩
  simp only [Act.put]
  have hi : d ≠ i := fun hi => by subst hi; rw [hd] at hu; cases hu
  rw [Array.getElem?_setIfInBounds]
  simp [hi]
  exact h.at_ i u hu
/-- A part of the slots. -/
theorem Env.get_mem {e : Env} {i : Nat} {v : Value} (h : e.get i = some v) : (i, v) ∈ e := by
  induction e with
  | nil => cases h
  | cons p r ih =>
    obtain ⟨k, u⟩ := p
    rw [Env.get_cons] at h
    by_cases hk : k = i
    · rw [if_pos hk] at h
      subst hk
      rw [← Option.some.inj h]; simp
    · rw [if_neg hk] at h
      exact List.mem_cons_of_mem _ (ih h)
theorem Fr.sub {n : Nat} {e e' : Env} {a : Act} (h : Fr n e a) (hs : e'.map (fun p => e.get p.1) = e'.map (fun p => e'.get p.1)) : Fr n e' a := by
  refine ⟨h.size, h.defers, fun i v hv => h.at_ i v ?_⟩
  have hm := Env.get_mem hv
  have := List.map_inj_left.1 hs (i, v) hm
  exact this.trans hv
/-- Is the operation there, wanted, with slot d, and are its operands known? -/
def guardOk (ops : Array Oper) (e : Env) (o : Oper) : Bool :=
  match o.guard with
  | none => true
  | some (j, want) =>
    match (ops[j]?).bind (·.dst) with
    | none => false
    | some d => match e.get d with
      | some (.bool b) => b == want
      | _ => false
theorem wanted_of {ops : Array Oper} {n : Nat} {e : Env} {a : Act} {o : Oper} (h : Fr n e a) (hg : guardOk ops e o = true) : Region.wanted o (yielded ops a.tmps) = true := by
  unfold guardOk at hg
  unfold Region.wanted yielded
  cases hgd : o.guard with
  | none => rfl
  | some p =>
    obtain ⟨j, want⟩ := p
    rw [hgd] at hg
    simp only at hg ⊢
    cases hd : (ops[j]?).bind (·.dst) with
    | none => rw [hd] at hg; cases hg
    | some d =>
      rw [hd] at hg
      simp only at hg
      cases hv : e.get d with
      | none => rw [hv] at hg; cases hg
      | some v =>
        rw [hv] at hg
        cases v with
        | bool b =>
          simp only at hg
          have := h.at_ d _ hv
          simp only [Option.bind_some, this]
          simpa using hg
        | _ => cases hg
def noSel : Op → Bool
  | .select _ _ => false
  | _ => true
def known (e : Env) (o : Oper) : Bool := noSel o.op && o.op.operands.toList.all (fun x => (e.op x).isSome)
theorem exec_known {n : Nat} {e : Env} {a : Act} {o : Oper} (h : Fr n e a) (hk : known e o = true) : execOp a.eval o = execOp e.ev o := by
  unfold known at hk
  rw [Bool.and_eq_true] at hk
  refine execOp_congr o (fun cs b he => ?_) (fun x hx => ?_)
  · rw [he] at hk; exact absurd hk.1 (by simp [noSel])
  · have := List.all_eq_true.1 hk.2 x (by simpa using hx)
    obtain ⟨v, hv⟩ := Option.isSome_iff_exists.1 this
    rw [h.eval hv, Env.ev, hv]; rfl
def okAt (ops : Array Oper) (n : Nat) (e : Env) (i d : Nat) : Bool :=
  match ops[i]? with
  | none => false
  | some o => (match o.dst with | some d' => Nat.beq d d' && Nat.ble (d + 1) n | none => false) && guardOk ops e o && known e o
/-- The same for an operation without a slot. -/
def okAt0 (ops : Array Oper) (e : Env) (i : Nat) : Bool :=
  match ops[i]? with
  | none => false
  | some o => (match o.dst with | some _ => false | none => true) && guardOk ops e o && known e o
def runAt (P : Program) (ops : Array Oper) (e : Env) (i : Nat) (w : World) : Result Next :=
  match ops[i]? with
  | some o => (execOp e.ev o).run P w
  | none => .halt (.stuck "") w
theorem runAt_some {P : Program} {ops : Array Oper} {e : Env} {i : Nat} {w : World} {o : Oper} (h : ops[i]? = some o) : runAt P ops e i w = (execOp e.ev o).run P w := by
  unfold runAt; rw [h]
theorem okAt_out {ops : Array Oper} {n : Nat} {e : Env} {i d : Nat} (h : okAt ops n e i d = true) : ∃ o, ops[i]? = some o ∧ o.dst = some d ∧ d < n ∧ guardOk ops e o = true ∧ known e o = true := by
  unfold okAt at h
  cases ho : ops[i]? with
  | none => rw [ho] at h; cases h
  | some o =>
    rw [ho] at h
    simp only [Bool.and_eq_true] at h
    obtain ⟨⟨h1, h2⟩, h3⟩ := h
    cases hd : o.dst with
    | none => rw [hd] at h1; cases h1
    | some d' =>
      rw [hd] at h1
      simp only [Bool.and_eq_true] at h1
      have e1 := Nat.eq_of_beq_eq_true h1.1
      have e2 := Nat.le_of_ble_eq_true h1.2
      exact ⟨o, rfl, by rw [hd, e1], by omega, h2, h3⟩
theorem okAt0_out {ops : Array Oper} {e : Env} {i : Nat} (h : okAt0 ops e i = true) : ∃ o, ops[i]? = some o ∧ o.dst = none ∧ guardOk ops e o = true ∧ known e o = true := by
  unfold okAt0 at h
  cases ho : ops[i]? with
  | none => rw [ho] at h; cases h
  | some o =>
    rw [ho] at h
    simp only [Bool.and_eq_true] at h
    obtain ⟨⟨h1, h2⟩, h3⟩ := h
    cases hd : o.dst with
    | none => exact ⟨o, rfl, hd, h2, h3⟩
    | some d' => rw [hd] at h1; cases h1
/-- What is met at an exit. -/
def QN (n : Nat) (e : Env) (Φ : World → Prop) (Q : Exit → Act → World → Prop) (x : Exit) : Prop := ∀ a w, Fr n e a → Φ w → Q x a w
/-- A walk through code. -/
def W (P : Program) (n : Nat) (e : Env) (Φ : World → Prop) (c : Code) (Q : Exit → Act → World → Prop) : Prop := ∀ a w, Fr n e a → Φ w → c.wp P Q a w
/-- A walk through a region. -/
def T (P : Program) (ops : Array Oper) (Q : Exit → Act → World → Prop) (S : World → Prop) (n : Nat) (ord : List (Nat × Bool)) (e : Env) (Φ : World → Prop) : Prop :=
  ∀ a w, Fr n e a → Φ w → S w → runOrd P ops Q S ord a w
section
variable {P : Program} {ops : Array Oper} {Q : Exit → Act → World → Prop} {S : World → Prop} {n : Nat} {rest : List (Nat × Bool)} {e : Env} {Φ Ψ : World → Prop}
theorem T.nil (h : QN n e Φ Q .normal) : T P ops Q S n [] e Φ := fun a w ha hw _ => h a w ha hw
theorem T.weak {ord : List (Nat × Bool)} (hs : ∀ w, Φ w → Ψ w) (h : T P ops Q S n ord e Ψ) : T P ops Q S n ord e Φ := fun a w ha hw hS => h a w ha (hs w hw) hS
theorem T.sub {ord : List (Nat × Bool)} (e' : Env) (hs : e'.map (fun p => e.get p.1) = e'.map (fun p => e'.get p.1)) (h : T P ops Q S n ord e' Φ) : T P ops Q S n ord e Φ := fun a w ha hw hS => h a w (ha.sub hs) hw hS
/-- An operation that only yields a value. -/
theorem T.val {i : Nat} (m : Bool) (d : Nat) (v : Value) (hk : okAt ops n e i d = true) (hv : ∀ w, (bif m then S w else Φ w) → runAt P ops e i w = .ok (.value v) w) (h : T P ops Q S n rest ((d, v) :: e) Φ) :
    T P ops Q S n ((i, m) :: rest) e Φ := by
  obtain ⟨o, ho, hd, hdn, hg, hkn⟩ := okAt_out hk
  intro a w ha hw hS
  have hrun : ∀ w, (bif m then S w else Φ w) → (execOp a.eval o).run P w = .ok (.value v) w := fun w hw => by
    have := hv w hw
    rw [runAt_some ho] at this
    rw [exec_known ha hkn]; exact this
  have hwd := wanted_of (ops := ops) ha hg
  have hput : Fr n ((d, v) :: e) (a.put o.dst v) := by rw [hd]; exact ha.put hdn v
  cases m with
  | true => exact runOrd_take ho v (yields_run hwd fun w hw => hrun w hw) (h _ _ hput hw hS)
  | false =>
    refine runOrd_run ho ?_
    unfold wpList
    rw [if_pos hwd]
    refine .inl ?_
    unfold Oper.wp
    rw [hrun w hw]
    exact ⟨hS, h _ _ hput hw hS⟩
theorem T.pure {i : Nat} {m : Bool} (d : Nat) (v : Value) (hk : okAt ops n e i d = true) (hv : ∀ w, runAt P ops e i w = .ok (.value v) w) (h : T P ops Q S n rest ((d, v) :: e) Φ) :
    T P ops Q S n ((i, m) :: rest) e Φ := T.val m d v hk (fun w _ => hv w) h
/-- An operation that works on the world and yields a value. -/
theorem T.eff {β : Type} {i : Nat} (d : Nat) (V : β → Value) (Ψ : β → World → Prop) (hk : okAt ops n e i d = true) (hv : ∀ w, Φ w → ∃ x w', runAt P ops e i w = .ok (.value (V x)) w' ∧ Ψ x w') (hS : ∀ x w, Ψ x w → S w)
    (h : ∀ x, T P ops Q S n rest ((d, V x) :: e) (Ψ x)) : T P ops Q S n ((i, false) :: rest) e Φ := by
  obtain ⟨o, ho, hd, hdn, hg, hkn⟩ := okAt_out hk
  intro a w ha hw _
  obtain ⟨x, w', hr, hΨ⟩ := hv w hw
  refine runOrd_run ho ?_
  unfold wpList
  rw [if_pos (wanted_of ha hg)]
  refine .inl ?_
  unfold Oper.wp
  rw [runAt_some ho] at hr
  rw [exec_known ha hkn, hr]
  exact ⟨hS x w' hΨ, h x _ _ (by rw [hd]; exact ha.put hdn _) hΨ (hS x w' hΨ)⟩
/-- An operation that works on the world and yields nothing. -/
theorem T.effs {i : Nat} (Ψ : World → Prop) (hk : okAt0 ops e i = true) (hv : ∀ w, Φ w → ∃ w', runAt P ops e i w = .ok .skip w' ∧ Ψ w') (hS : ∀ w, Ψ w → S w)
    (h : T P ops Q S n rest e Ψ) : T P ops Q S n ((i, false) :: rest) e Φ := by
  obtain ⟨o, ho, hd, hg, hkn⟩ := okAt0_out hk
  intro a w ha hw _
  obtain ⟨w', hr, hΨ⟩ := hv w hw
  refine runOrd_run ho ?_
  unfold wpList
  rw [if_pos (wanted_of ha hg)]
  refine .inl ?_
  unfold Oper.wp
  rw [runAt_some ho] at hr
  rw [exec_known ha hkn, hr]
  exact ⟨hS w' hΨ, h _ _ (by rw [hd]; exact ha) hΨ (hS w' hΨ)⟩
/-- A call of a function of the program. -/
theorem T.call {β : Type} {i : Nat} (d : Nat) (f : FuncId) (args : Array Value) (V : β → Value) (Ψ : β → World → Prop) (hk : okAt ops n e i d = true) (hv : ∀ w, runAt P ops e i w = .ok (.enter f args) w)
    (hc : ∀ w, Φ w → Calls P f args w fun r w' => ∃ x, r = .returned (V x) ∧ Ψ x w') (hS : ∀ x w, Ψ x w → S w)
    (h : ∀ x, T P ops Q S n rest ((d, V x) :: e) (Ψ x)) : T P ops Q S n ((i, false) :: rest) e Φ := by
  obtain ⟨o, ho, hd, hdn, hg, hkn⟩ := okAt_out hk
  intro a w ha hw _
  have hr := hv w
  refine runOrd_run ho ?_
  unfold wpList
  rw [if_pos (wanted_of ha hg)]
  refine .inl ?_
  unfold Oper.wp
  rw [runAt_some ho] at hr
  rw [exec_known ha hkn, hr]
  refine (hc w hw).mono ?_
  rintro r w' ⟨x, rfl, hΨ⟩
  exact ⟨hS x w' hΨ, h x _ _ (by rw [hd]; exact ha.put hdn _) hΨ (hS x w' hΨ)⟩
/-- A guarded run of operations. -/
def gv (c : Bool) (v : Value) : Value := bif c then v else undef
def blkOk (ops : Array Oper) (n : Nat) (e : Env) (j : Nat) (want : Bool) : List (Nat × Bool) → List Nat → Option (List Nat)
  | [], D => some D
  | (i, _) :: r, D =>
    match ops[i]? with
    | none => none
    | some o => match o.dst, o.guard with
      | some d, some (j', w') =>
        bif Nat.ble (d + 1) n && (e.get d).isNone && ((Nat.beq j' j && (w' == want)) || (match (ops[j']?).bind (·.dst) with | some d' => D.any (Nat.beq d') | none => false)) then blkOk ops n e j want r (d :: D) else none
      | _, _ => none
theorem runOrd_app (S : World → Prop) : ∀ (blk rest : List (Nat × Bool)) (a : Act) (w : World), runOrd P ops (Exit.then (fun a w => runOrd P ops Q S rest a w) Q) S blk a w → runOrd P ops Q S (blk ++ rest) a w
  | [], rest, a, w, h => h
  | (i, true) :: r, rest, a, w, h => fun o ho => by
    obtain ⟨v, hy, hr⟩ := h o ho
    exact ⟨v, hy, runOrd_app S r rest _ w hr⟩
  | (i, false) :: r, rest, a, w, h => fun o ho => by
    have hh := h o ho
    unfold wpList at hh ⊢
    split
    · rename_i hwd
      rw [if_pos hwd] at hh
      rcases hh with hh | ⟨h1, h2⟩
      · refine .inl ?_
        unfold Oper.wp at hh ⊢
        rw [upon_then, upon_then] at hh
        rw [upon_then]
        exact Oper.wp_mono (K := wpList P ops (Exit.then (fun a' w' => S w' ∧ runOrd P ops (Exit.then (fun a w => runOrd P ops Q S rest a w) Q) S r a' w') (Exit.then (fun a w => runOrd P ops Q S rest a w) Q)) []) (fun a' w' hk => (⟨hk.1, runOrd_app S r rest a' w' hk.2⟩ : S w' ∧ runOrd P ops Q S (r ++ rest) a' w')) hh
      · refine .inr ⟨h1, ?_⟩
        obtain ⟨a', w', h3⟩ := h2
        exact ⟨a', w', h3⟩
    · rename_i hwd
      rw [if_neg hwd] at hh
      exact (⟨hh.1, runOrd_app S r rest _ w hh.2⟩ : S w ∧ runOrd P ops Q S (r ++ rest) _ w)
theorem runOrd_not {j : Nat} {want b : Bool} {dj : Nat} (hdj : (ops[j]?).bind (·.dst) = some dj) (hj : e.get dj = some (.bool b)) (hb : b ≠ want) (K : Act → World → Prop) :
    ∀ (blk : List (Nat × Bool)) (D D' : List Nat) (a : Act) (w : World), blkOk ops n e j want blk D = some D' → Fr n e a → (∀ k ∈ D, k < n → a.tmps[k]? = some undef) → S w →
      (∀ a', Fr n e a' → (∀ k ∈ D', k < n → a'.tmps[k]? = some undef) → K a' w) → runOrd P ops (Exit.then K Q) S blk a w
  | [], D, D', a, w, hk, ha, hD, hS, h => by
    simp only [blkOk, Option.some.injEq] at hk
    subst hk
    exact h a ha hD
  | (i, m) :: r, D, D', a, w, hk, ha, hD, hS, h => by
    unfold blkOk at hk
    cases ho : ops[i]? with
    | none => rw [ho] at hk; cases hk
    | some o =>
      rw [ho] at hk
      simp only at hk
      cases hd : o.dst with
      | none => rw [hd] at hk; cases hk
      | some d =>
        cases hg : o.guard with
        | none => rw [hd, hg] at hk; cases hk
        | some p =>
          obtain ⟨j', w'⟩ := p
          rw [hd, hg] at hk
          simp only at hk
          cases hc : (Nat.ble (d + 1) n && (e.get d).isNone && ((Nat.beq j' j && (w' == want)) || (match (ops[j']?).bind (·.dst) with | some d' => D.any (Nat.beq d') | none => false))) with
          | false => rw [hc] at hk; cases hk
          | true =>
            rw [hc] at hk
            simp only [cond_true] at hk
            simp only [Bool.and_eq_true, Bool.or_eq_true] at hc
            obtain ⟨⟨c1, c2⟩, c3⟩ := hc
            have hdn : d < n := Nat.le_of_ble_eq_true c1
            have hnone : e.get d = none := by simpa using c2
            have hwd : Region.wanted o (yielded ops a.tmps) = false := by
              unfold Region.wanted yielded
              rw [hg]
              simp only
              rcases c3 with ⟨c3, c4⟩ | c3
              · have e1 := Nat.eq_of_beq_eq_true c3
                subst e1
                have e2 : w' = want := by simpa using c4
                subst e2
                rw [hdj]
                have := ha.at_ dj _ hj
                simp only [Option.bind_some, this]
                simpa using hb
              · cases hd' : (ops[j']?).bind (·.dst) with
                | none => rw [hd'] at c3; cases c3
                | some d' =>
                  rw [hd'] at c3
                  simp only at c3
                  obtain ⟨k, hk1, hk2⟩ := List.any_eq_true.1 c3
                  have e1 := Nat.eq_of_beq_eq_true hk2
                  subst e1
                  by_cases hlt : d' < n
                  · have := hD d' hk1 hlt
                    simp only [Option.bind_some, this, undef]
                    rfl
                  · have : a.tmps[d']? = none := Array.getElem?_eq_none (by rw [ha.size]; exact Nat.le_of_not_lt hlt)
                    simp only [Option.bind_some, this]
                    rfl
            have hF := ha.put_undef hnone
            have hD2 : ∀ k ∈ d :: D, k < n → (a.put (some d) undef).tmps[k]? = some undef := by
              intro k hk' hkn
              simp only [Act.put]
              rw [Array.getElem?_setIfInBounds]
              by_cases hkd : d = k
              · subst hkd; simp [ha.size, hdn]
              · simp only [hkd, if_false]
                rcases List.mem_cons.1 hk' with h1 | h1
                · exact absurd h1.symm hkd
                · exact hD k h1 hkn
            have hnext := runOrd_not hdj hj hb K r (d :: D) D' (a.put (some d) undef) w hk hF hD2 hS h
            cases m with
            | true => exact runOrd_take ho undef (yields_not hwd) (by rw [hd]; exact hnext)
            | false =>
              refine runOrd_run ho ?_
              unfold wpList
              rw [if_neg (by rw [hwd]; simp), hd]
              exact ⟨hS, hnext⟩
def blkHas (r : Option (List Nat)) (d : Nat) (n : Nat) : Bool := match r with | some D => D.any (Nat.beq d) && Nat.ble (d + 1) n | none => false
/-- The rule: under the guard the run yields x in slot d; behind it slot d holds x, or nothing. -/
theorem T.blk (blk rest : List (Nat × Bool)) (j : Nat) (want b : Bool) (dj d : Nat) (x : Value) (hdj : (ops[j]?).bind (·.dst) = some dj) (hj : e.get dj = some (.bool b)) (hk : blkHas (blkOk ops n e j want blk []) d n = true)
    (ht : b = want → T P ops (Exit.then (fun a w => Fr n ((d, x) :: (dj, .bool want) :: e) a ∧ Φ w ∧ S w) Q) S n blk ((dj, .bool want) :: e) Φ)
    (h : T P ops Q S n rest ((d, gv (b == want) x) :: e) Φ) : T P ops Q S n (blk ++ rest) e Φ := by
  intro a w ha hw hS
  refine runOrd_app S blk rest a w ?_
  by_cases hb : b = want
  · subst hb
    have hF : Fr n ((dj, .bool b) :: e) a := ⟨ha.size, ha.defers, fun i v hv => by
      rw [Env.get_cons] at hv
      by_cases hi : dj = i
      · subst hi; rw [if_pos rfl] at hv; rw [← hv]; exact (ha.at_ dj _ hj).trans rfl
      · rw [if_neg hi] at hv; exact ha.at_ i v hv⟩
    have h1 := ht rfl a w hF hw hS
    have e1 : (gv (b == b) x) = x := by simp [gv]
    rw [e1] at h
    have : ∀ (l : List (Nat × Bool)) (a : Act) (w : World), runOrd P ops (Exit.then (fun a w => Fr n ((d, x) :: (dj, .bool b) :: e) a ∧ Φ w ∧ S w) Q) S l a w → runOrd P ops (Exit.then (fun a w => runOrd P ops Q S rest a w) Q) S l a w := by
      intro l
      induction l with
      | nil =>
        intro a w hh
        have hh' : Fr n ((d, x) :: (dj, .bool b) :: e) a ∧ Φ w ∧ S w := hh
        refine h a w ⟨hh'.1.size, hh'.1.defers, fun i v hv => hh'.1.at_ i v ?_⟩ hh'.2.1 hh'.2.2
        rw [Env.get_cons] at hv ⊢
        by_cases hi : d = i
        · rw [if_pos hi] at hv ⊢; exact hv
        · rw [if_neg hi] at hv ⊢
          rw [Env.get_cons]
          by_cases hi2 : dj = i
          · rw [if_pos hi2]; subst hi2; rw [hj] at hv; exact hv
          · rw [if_neg hi2]; exact hv
      | cons p r ih =>
        obtain ⟨i, m⟩ := p
        intro a w hh
        cases m with
        | true => exact fun o ho => by obtain ⟨v, hy, hr⟩ := hh o ho; exact ⟨v, hy, ih _ _ hr⟩
        | false => exact fun o ho => by
                    have h0 := hh o ho
                    unfold wpList at h0 ⊢
                    split
                    · rename_i hwd
                      rw [if_pos hwd] at h0
                      rcases h0 with h0 | ⟨h1, h2⟩
                      · refine .inl ?_
                        unfold Oper.wp at h0 ⊢
                        rw [upon_then, upon_then] at h0 ⊢
                        exact Oper.wp_mono (K := wpList P ops (Exit.then (fun a' w' => S w' ∧ runOrd P ops (Exit.then (fun a w => Fr n ((d, x) :: (dj, .bool b) :: e) a ∧ Φ w ∧ S w) Q) S r a' w') (Exit.then (fun a w => Fr n ((d, x) :: (dj, .bool b) :: e) a ∧ Φ w ∧ S w) Q)) []) (fun a' w' hk => (⟨hk.1, ih a' w' hk.2⟩ : S w' ∧ _)) h0
                      · exact .inr ⟨h1, h2⟩
                    · rename_i hwd
                      rw [if_neg hwd] at h0
                      exact (⟨h0.1, ih _ w h0.2⟩ : S w ∧ _)
    exact this blk a w h1
  · cases hD' : blkOk ops n e j want blk [] with
    | none => rw [hD'] at hk; cases hk
    | some D' =>
      rw [hD'] at hk
      simp only [blkHas, Bool.and_eq_true] at hk
      obtain ⟨hk1, hk2⟩ := hk
      obtain ⟨k, hk3, hk4⟩ := List.any_eq_true.1 hk1
      have e1 := Nat.eq_of_beq_eq_true hk4
      subst e1
      have hdn : d < n := Nat.le_of_ble_eq_true hk2
      refine runOrd_not hdj hj hb _ blk [] D' a w hD' ha (fun k hk => by cases hk) hS fun a' ha' hD => ?_
      have e2 : gv (b == want) x = undef := by
        have : (b == want) = false := by simpa using hb
        rw [this]; rfl
      rw [e2] at h
      refine h a' w ⟨ha'.size, ha'.defers, fun i v hv => ?_⟩ hw hS
      rw [Env.get_cons] at hv
      by_cases hi : d = i
      · rw [if_pos hi] at hv; subst hi; rw [← hv]; exact hD d hk3 hdn
      · rw [if_neg hi] at hv; exact ha'.at_ i v hv
/-- The end of a guarded run. -/
theorem T.blkEnd {e0 : Env} {Φ0 : World → Prop} {d : Nat} {x : Value} (hs : ((d, x) :: e0).map (fun p => e.get p.1) = ((d, x) :: e0).map (fun p => Env.get ((d, x) :: e0) p.1)) (hΦ : ∀ w, Φ w → Φ0 w) : T P ops (Exit.then (fun a w => Fr n ((d, x) :: e0) a ∧ Φ0 w ∧ S w) Q) S n [] e Φ :=
  fun a w ha hw hS => (⟨ha.sub hs, hΦ w hw, hS⟩ : Fr n ((d, x) :: e0) a ∧ Φ0 w ∧ S w)
/-- a && b, a || b: the two ways meet again. -/
theorem run_pick_and {c : Operand} {x : Operand} (o : Oper) (ho : o.op = .pick c x (.const (.bool false))) (b y : Bool) (hc : e.op c = some (.bool b)) (hx : e.op x = some (gv (b == true) (.bool y))) (w : World) :
    (execOp e.ev o).run P w = .ok (.value (.bool (b && y))) w := by
  unfold execOp
  simp only [ho, Env.ev, hc, hx]
  cases b <;> rfl
theorem run_pick_or {c : Operand} {x : Operand} (o : Oper) (ho : o.op = .pick c (.const (.bool true)) x) (b y : Bool) (hc : e.op c = some (.bool b)) (hx : e.op x = some (gv (b == false) (.bool y))) (w : World) :
    (execOp e.ev o).run P w = .ok (.value (.bool (b || y))) w := by
  unfold execOp
  simp only [ho, Env.ev, hc, hx]
  cases b <;> rfl
def pickAnd (ops : Array Oper) (e : Env) (i : Nat) : Option (Option Value × Option Value) :=
  match (ops[i]?).map Oper.op with
  | some (Op.pick c x (Operand.const (Value.bool false))) => some (e.op c, e.op x)
  | _ => none
def pickOr (ops : Array Oper) (e : Env) (i : Nat) : Option (Option Value × Option Value) :=
  match (ops[i]?).map Oper.op with
  | some (Op.pick c (Operand.const (Value.bool true)) x) => some (e.op c, e.op x)
  | _ => none
theorem T.and {i : Nat} {m : Bool} (d : Nat) (b y : Bool) (hk : okAt ops n e i d = true) (hp : pickAnd ops e i = some (some (.bool b), some (gv (b == true) (.bool y)))) (h : T P ops Q S n rest ((d, .bool (b && y)) :: e) Φ) : T P ops Q S n ((i, m) :: rest) e Φ := by
  refine T.pure d _ hk (fun w => ?_) h
  unfold pickAnd at hp
  unfold runAt
  cases ho : ops[i]? with
  | none => rw [ho] at hp; cases hp
  | some o =>
    rw [ho] at hp
    simp only [Option.map_some] at hp ⊢
    split at hp
    · rename_i c x heq
      simp only [Option.some.injEq, Prod.mk.injEq] at hp
      exact run_pick_and o (Option.some.inj heq) b y hp.1 hp.2 w
    · cases hp
theorem T.or {i : Nat} {m : Bool} (d : Nat) (b y : Bool) (hk : okAt ops n e i d = true) (hp : pickOr ops e i = some (some (.bool b), some (gv (b == false) (.bool y)))) (h : T P ops Q S n rest ((d, .bool (b || y)) :: e) Φ) : T P ops Q S n ((i, m) :: rest) e Φ := by
  refine T.pure d _ hk (fun w => ?_) h
  unfold pickOr at hp
  unfold runAt
  cases ho : ops[i]? with
  | none => rw [ho] at hp; cases hp
  | some o =>
    rw [ho] at hp
    simp only [Option.map_some] at hp ⊢
    split at hp
    · rename_i c x heq
      simp only [Option.some.injEq, Prod.mk.injEq] at hp
      exact run_pick_or o (Option.some.inj heq) b y hp.1 hp.2 w
    · cases hp
end
end Go.Proofs.Ytphnfhonmbbddaa

/- The logic, continued: code, loops, returns; owned memory. No program in sight. -/
namespace Go.Proofs.Ytphnfhonmbbddaa
open Go Go.RowKit
set_option linter.unusedVariables false

section
variable {P : Program} {Q : Exit → Act → World → Prop} {n : Nat} {e : Env} {Φ Ψ : World → Prop} {c x y : Code}
theorem W.weak (hs : ∀ w, Φ w → Ψ w) (h : W P n e Ψ c Q) : W P n e Φ c Q := fun a w ha hw => h a w ha (hs w hw)
theorem W.sub (e' : Env) (hs : e'.map (fun p => e.get p.1) = e'.map (fun p => e'.get p.1)) (h : W P n e' Φ c Q) : W P n e Φ c Q := fun a w ha hw => h a w (ha.sub hs) hw
theorem W.seq (h : W P n e Φ x (Exit.then (y.wp P Q) Q)) : W P n e Φ (.seq x y) Q := fun a w ha hw => wp_seq (h a w ha hw)
theorem W.skip (h : QN n e Φ Q .normal) : W P n e Φ .skip Q := fun a w ha hw => wp_skip (h a w ha hw)
theorem W.exit {id : Nat} (h : QN n e Φ Q (.exit id)) : W P n e Φ (.exit id) Q := fun a w ha hw => wp_exit (h a w ha hw)
theorem W.ret (h : QN n e Φ Q .ret) : W P n e Φ .ret Q := fun a w ha hw => wp_ret (h a w ha hw)
theorem W.block {id : Nat} (h : W P n e Φ c (Exit.inBlock id Q)) : W P n e Φ (.block id c) Q := fun a w ha hw => wp_block (h a w ha hw)
theorem W.cond {o : Operand} (b : Bool) (hb : e.op o = some (.bool b)) (ht : b = true → W P n e Φ x Q) (hf : b = false → W P n e Φ y Q) : W P n e Φ (.cond o x y) Q := fun a w ha hw =>
  wp_cond_split (ha.eval hb) (fun h => ht h a w ha hw) (fun h => hf h a w ha hw)
/-- The slot's value under another spelling. -/
theorem W.cast (k : Nat) (u v : Value) (hk : e.get k = some u) (he : u = v) (h : W P n ((k, v) :: e) Φ c Q) : W P n e Φ c Q := fun a w ha hw =>
  h a w ⟨ha.size, ha.defers, fun i z hz => by
    rw [Env.get_cons] at hz
    by_cases hi : k = i
    · rw [if_pos hi] at hz; subst hi; rw [← hz, ← he]; exact ha.at_ k _ hk
    · rw [if_neg hi] at hz; exact ha.at_ i z hz⟩ hw
theorem QN.cast {z : Exit} (k : Nat) (u v : Value) (hk : e.get k = some u) (he : u = v) (h : QN n ((k, v) :: e) Φ Q z) : QN n e Φ Q z := fun a w ha hw =>
  h a w ⟨ha.size, ha.defers, fun i z hz => by
    rw [Env.get_cons] at hz
    by_cases hi : k = i
    · rw [if_pos hi] at hz; subst hi; rw [← hz, ← he]; exact ha.at_ k _ hk
    · rw [if_neg hi] at hz; exact ha.at_ i z hz⟩ hw
theorem QN.weak {z : Exit} (hs : ∀ w, Φ w → Ψ w) (h : QN n e Ψ Q z) : QN n e Φ Q z := fun a w ha hw => h a w ha (hs w hw)
theorem QN.sub {z : Exit} (e' : Env) (hs : e'.map (fun p => e.get p.1) = e'.map (fun p => e'.get p.1)) (h : QN n e' Φ Q z) : QN n e Φ Q z := fun a w ha hw => h a w (ha.sub hs) hw
/-- A plain region: its operations in the order of the text. -/
def plainOrd : Nat → List (Nat × Bool) → List (Nat × Bool)
  | 0, l => l
  | k + 1, l => plainOrd k ((k, false) :: l)
theorem wpOps_of_run {ops : Array Oper} : ∀ (l : List Nat) (a : Act) (w : World), (∀ i ∈ l, i < ops.size) → runOrd P ops Q (fun _ => True) (l.map fun i => (i, false)) a w → wpOps P ops Q l a w
  | [], a, w, _, h => h
  | i :: r, a, w, hl, h => by
    have hi : i < ops.size := hl i (by simp)
    have ho : ops[i]? = some ops[i] := Array.getElem?_eq_getElem hi
    have hh := h _ ho
    unfold wpOps
    rw [ho]
    simp only
    unfold wpList at hh
    split
    · rename_i hwd
      rw [if_pos hwd] at hh
      rcases hh with hh | hh
      · refine .inl ?_
        unfold Oper.wp at hh ⊢
        rw [upon_then] at hh
        exact Oper.wp_mono (K := wpList P ops (Exit.then (fun a' w' => True ∧ runOrd P ops Q (fun _ => True) (r.map fun i => (i, false)) a' w') Q) []) (fun a' w' hk => wpOps_of_run r a' w' (fun i hi => hl i (by simp [hi])) hk.2) hh
      · exact .inr ⟨hh.1, hh.2⟩
    · rename_i hwd
      rw [if_neg hwd] at hh
      exact wpOps_of_run r _ w (fun i hi => hl i (by simp [hi])) hh.2
theorem plainOrd_eq (k : Nat) : ∀ l, plainOrd k l = (List.range k).map (fun i => (i, false)) ++ l := by
  induction k with
  | zero => intro l; rfl
  | succ k ih => intro l; rw [plainOrd, ih, List.range_succ, List.map_append]; simp
theorem W.region {id : Nat} {ops : Array Oper} (ord : List (Nat × Bool)) (ho : plainOrd ops.size [] = ord) (h : T P ops Q (fun _ => True) n ord e Φ) : W P n e Φ (.region id ops false) Q := fun a w ha hw => by
  refine wp_region (wpOps_of_run _ a w (fun i hi => by simpa using hi) ?_)
  have := h a w ha hw trivial
  rw [← ho, plainOrd_eq] at this
  simpa using this
/-- Does no exit of these kinds look at the frame of a panic? -/
def NoPanic (Q : Exit → Act → World → Prop) : Prop := ∀ (d : Option Tmp) (v : Value) c a w, Q (.panic c) (Act.put a d v) w → Q (.panic c) a w
theorem NoPanic.then {K : Act → World → Prop} (h : NoPanic Q) : NoPanic (Exit.then K Q) := h
theorem NoPanic.inBlock {id : Nat} (h : NoPanic Q) : NoPanic (Exit.inBlock id Q) := h
theorem NoPanic.body {fn : Func} {R : Ending → World → Prop} : NoPanic (bodyPost P fn R) := fun d v c a w h => by cases d <;> exact h
/-- A region that draws its order. -/
theorem W.drawn {id : Nat} {ops : Array Oper} (S : World → Prop) (ord : List (Nat × Bool)) (hm : P.follows .mixedOrders = true) (hB : (Region.noSelect ops && okOrd ops ord (Array.replicate ops.size false) && (ord.length == ops.size)) = true) (hQ : NoPanic Q)
    (hd : ∀ w, Φ w → Ψ { w with drawn := w.drawn + 1 }) (hS : ∀ w, Ψ w → S w) (h : T P ops Q S n ord e Ψ) : W P n e Φ (.region id ops true) Q := fun a w ha hw =>
  wp_region_order S ord hm hB hQ (hS _ (hd w hw)) (h a _ ha (hd w hw) (hS _ (hd w hw)))
/-- What goes on behind an exit. -/
theorem QN.then_ {z : Act → World → Prop} (h : ∀ a w, Fr n e a → Φ w → z a w) : QN n e Φ (Exit.then z Q) .normal := h
theorem QN.seq (h : W P n e Φ y Q) : QN n e Φ (Exit.then (y.wp P Q) Q) .normal := h
theorem QN.thenExit {K : Act → World → Prop} {id : Nat} (h : QN n e Φ Q (.exit id)) : QN n e Φ (Exit.then K Q) (.exit id) := h
theorem QN.thenRet {K : Act → World → Prop} (h : QN n e Φ Q .ret) : QN n e Φ (Exit.then K Q) .ret := h
theorem QN.blkHit {id : Nat} (h : QN n e Φ Q .normal) : QN n e Φ (Exit.inBlock id Q) (.exit id) := fun a w ha hw => by
  show (if id = id then _ else _); rw [if_pos rfl]; exact h a w ha hw
theorem QN.blkMiss {id id' : Nat} (hne : id' ≠ id) (h : QN n e Φ Q (.exit id')) : QN n e Φ (Exit.inBlock id Q) (.exit id') := fun a w ha hw => by
  show (if id' = id then _ else _); rw [if_neg hne]; exact h a w ha hw
theorem QN.blkNormal {id : Nat} (h : QN n e Φ Q .normal) : QN n e Φ (Exit.inBlock id Q) .normal := h
theorem QN.blkRet {id : Nat} (h : QN n e Φ Q .ret) : QN n e Φ (Exit.inBlock id Q) .ret := h
theorem least_of (p : Nat → Prop) (h : ∃ m, p m) : ∃ m, p m ∧ ∀ k, p k → m ≤ k := by
  obtain ⟨m, hm⟩ := h
  induction m using Nat.strongRecOn with
  | _ m ih =>
    by_cases hk : ∃ k, k < m ∧ p k
    · obtain ⟨k, h1, h2⟩ := hk
      exact ih k h1 h2
    · exact ⟨m, hm, fun k hp => Nat.le_of_not_lt fun hlt => hk ⟨k, hlt, hp⟩⟩
/-- A loop: s is what the round knows. -/
theorem W.loop {σ : Type} (I : σ → Prop) (E : σ → Env) (F : σ → World → Prop) (μ : σ → Nat) (s0 : σ) (hI : I s0) (hE : (E s0).map (fun p => e.get p.1) = (E s0).map (fun p => (E s0).get p.1)) (hF : ∀ w, Φ w → F s0 w)
    (round : ∀ s, I s → W P n (E s) (F s) c (Exit.then (fun a' w' => ∃ s', I s' ∧ μ s' < μ s ∧ Fr n (E s') a' ∧ F s' w') Q)) : W P n e Φ (.loop c) Q := by
  intro a w ha hw
  classical
  let ok : Nat → Act → World → Prop := fun m a w => ∃ s, μ s = m ∧ I s ∧ Fr n (E s) a ∧ F s w
  let least : Act → World → Nat := fun a w => if h : ∃ m, ok m a w then Classical.choose (least_of _ h) else 0
  refine wp_loop (fun a w => ∃ m, ok m a w) least ⟨_, s0, rfl, hI, ha.sub hE, hF w hw⟩ ?_
  intro a w hI'
  have hl : ok (least a w) a w := by
    show ok (if h : ∃ m, ok m a w then Classical.choose (least_of _ h) else 0) a w
    rw [dif_pos hI']; exact (Classical.choose_spec (least_of _ hI')).1
  obtain ⟨s, hs, hIs, hEs, hFs⟩ := hl
  refine wp_mono (round s hIs a w hEs hFs) ?_
  intro x a' w' h
  cases x with
  | normal =>
    obtain ⟨s', h1, h2, h3, h4⟩ := h
    refine ⟨⟨_, s', rfl, h1, h3, h4⟩, ?_⟩
    have hex : ∃ m, ok m a' w' := ⟨_, s', rfl, h1, h3, h4⟩
    have : least a' w' ≤ μ s' := by
      show (if h : ∃ m, ok m a' w' then Classical.choose (least_of _ h) else 0) ≤ _
      rw [dif_pos hex]; exact (Classical.choose_spec (least_of _ hex)).2 _ ⟨s', rfl, h1, h3, h4⟩
    rw [hs] at h2
    exact Nat.lt_of_le_of_lt this h2
  | exit id => exact h
  | goto l => exact h
  | ret => exact h
  | panic ch => exact h
  | outgrown => exact h
theorem QN.back {σ : Type} {I : σ → Prop} {E : σ → Env} {F : σ → World → Prop} {μ : σ → Nat} {m : Nat} (s' : σ) (hI : I s') (hμ : μ s' < m) (hE : (E s').map (fun p => e.get p.1) = (E s').map (fun p => (E s').get p.1)) (hF : ∀ w, Φ w → F s' w) :
    QN n e Φ (Exit.then (fun a' w' => ∃ s', I s' ∧ μ s' < m ∧ Fr n (E s') a' ∧ F s' w') Q) .normal := fun a w ha hw => ⟨s', hI, hμ, ha.sub hE, hF w hw⟩
/-- A function. -/
theorem calls_W {f : FuncId} {fn : Func} {c : Code} {args : Array Value} {w : World} {R : Ending → World → Prop} (hf : P.funcs[f]? = some fn) (hb : fn.body = some c) (e : Env) (hn : fn.ntmps = n)
    (he : (Array.toList (args ++ Array.replicate (fn.ntmps - args.size) undef)).length = n ∧ e.map (fun p => (args ++ Array.replicate (fn.ntmps - args.size) undef)[p.1]?) = e.map (fun p => some p.2)) (h : W P n e (fun w' => w' = w) c (bodyPost P fn R)) : Calls P f args w R := by
  refine calls_of_wp hf hb (h _ _ ⟨by simpa using he.1, rfl, fun i v hv => ?_⟩ rfl)
  exact List.map_inj_left.1 he.2 (i, v) (Env.get_mem hv)
theorem QN.done {fn : Func} {R : Ending → World → Prop} {z : Exit} (hz : z = .ret ∨ z = .normal) (t : Nat) (v : Value) (hr : fn.results = #[.tmp t]) (ht : e.get t = some v) (hR : ∀ w, Φ w → R (.returned v) w) : QN n e Φ (bodyPost P fn R) z := fun a w ha hw => by
  have h1 : (results fn a.tmps).run P w = .ok v w := by
    rw [results_tmp hr, Array.getD_eq_getD_getElem?, ha.at_ t v ht]; rfl
  rcases hz with rfl | rfl <;> exact ⟨ha.defers, v, h1, hR w hw⟩
theorem QN.done0 {fn : Func} {R : Ending → World → Prop} {z : Exit} (hz : z = .ret ∨ z = .normal) (hr : fn.results = #[]) (hR : ∀ w, Φ w → R (.returned (.tuple #[])) w) : QN n e Φ (bodyPost P fn R) z := fun a w ha hw => by
  rcases hz with rfl | rfl <;> exact ⟨ha.defers, _, results_none hr _ _ _, hR w hw⟩
theorem QN.done2 {fn : Func} {R : Ending → World → Prop} {z : Exit} (hz : z = .ret ∨ z = .normal) (t u : Nat) (v v' : Value) (hr : fn.results = #[.tmp t, .tmp u]) (ht : e.get t = some v) (hu : e.get u = some v') (hR : ∀ w, Φ w → R (.returned (.tuple #[v, v'])) w) : QN n e Φ (bodyPost P fn R) z := fun a w ha hw => by
  have h1 : (results fn a.tmps).run P w = .ok (.tuple #[v, v']) w := by
    rw [results_tmp2 hr, Array.getD_eq_getD_getElem?, ha.at_ t v ht, Array.getD_eq_getD_getElem?, ha.at_ u v' hu]; rfl
  rcases hz with rfl | rfl <;> exact ⟨ha.defers, _, h1, hR w hw⟩
/-- A struct result out of a variable, and a second one. -/
theorem QN.doneC2 {fn : Func} {R : Ending → World → Prop} {z : Exit} (hz : z = .ret ∨ z = .normal) (t u : Nat) (ty : TypeId) (b : Nat) (cs : Array Value) (v' : Value) (d : TypeDesc) (hr : fn.results = #[.cell t ty, .tmp u]) (ht : e.get t = some (.pointer (some ⟨b, 0, none⟩))) (hu : e.get u = some v')
    (hun : P.underlying ty = some d) (hd : d.isRow = true) (hi : (P.info? ty).map (·.size) = some cs.size) (hc : ∀ w, Φ w → w.rangeAt b 0 cs.toList) (hR : ∀ w, Φ w → R (.returned (.tuple #[.agg cs, v'])) w) : QN n e Φ (bodyPost P fn R) z := fun a w ha hw => by
  have hl := run_loadVar_mid (P := P) w b 0 ty cs.toList d (hc w hw) hun hd (by rw [hi]; simp)
  have h1 : (results fn a.tmps).run P w = .ok (.tuple #[.agg cs, v']) w := by
    simp [results, hr, Array.getD_eq_getD_getElem?, ha.at_ t _ ht, ha.at_ u _ hu, asAddr, hl]
  rcases hz with rfl | rfl <;> exact ⟨ha.defers, _, h1, hR w hw⟩
theorem QN.doneC {fn : Func} {R : Ending → World → Prop} {z : Exit} (hz : z = .ret ∨ z = .normal) (t : Nat) (ty : TypeId) (b : Nat) (cs : Array Value) (d : TypeDesc) (hr : fn.results = #[.cell t ty]) (ht : e.get t = some (.pointer (some ⟨b, 0, none⟩)))
    (hun : P.underlying ty = some d) (hd : d.isRow = true) (hi : (P.info? ty).map (·.size) = some cs.size) (hc : ∀ w, Φ w → w.rangeAt b 0 cs.toList) (hR : ∀ w, Φ w → R (.returned (.agg cs)) w) : QN n e Φ (bodyPost P fn R) z := fun a w ha hw => by
  have hl := run_loadVar_mid (P := P) w b 0 ty cs.toList d (hc w hw) hun hd (by rw [hi]; simp)
  have h1 : (results fn a.tmps).run P w = .ok (.agg cs) w := by
    simp [results, hr, Array.getD_eq_getD_getElem?, ha.at_ t _ ht, asAddr, hl]
  rcases hz with rfl | rfl <;> exact ⟨ha.defers, _, h1, hR w hw⟩
end
/-- What the call owns: blocks with what they hold; below, all is as it was. -/
structure St (w0 : World) (H : List (Nat × Obj)) (w : World) : Prop where
  below : Below w0.heap.size w0 w
  nodup : (H.map (·.1)).Nodup
  has : ∀ p ∈ H, w0.heap.size ≤ p.1 ∧ w.heap[p.1]? = some p.2
section
variable {w0 w w' : World} {H H' : List (Nat × Obj)}
theorem St.start (w : World) : St w [] w := ⟨Below.refl _ _, List.nodup_nil, fun p hp => by cases hp⟩
theorem St.drew (h : St w0 H w) : St w0 H { w with drawn := w.drawn + 1 } := ⟨h.below.drew, h.nodup, h.has⟩
theorem St.blw (h : St w0 H w) (hb : Below w.heap.size w w') : St w0 H w' :=
  ⟨h.below.trans (hb.mono h.below.size), h.nodup, fun p hp => ⟨(h.has p hp).1, (hb.block p.1 (Array.getElem?_eq_some_iff.1 (h.has p hp).2).1).trans (h.has p hp).2⟩⟩
theorem St.alloc (h : St w0 H w) (o : Obj) : St w0 ((w.heap.size, o) :: H) (w.alloc o) := by
  refine ⟨h.below.alloc h.below.size o, ?_, fun p hp => ?_⟩
  · rw [List.map_cons, List.nodup_cons]
    refine ⟨fun hm => ?_, h.nodup⟩
    obtain ⟨p, hp, he⟩ := List.mem_map.1 hm
    have := (Array.getElem?_eq_some_iff.1 (h.has p hp).2).1
    omega
  · rcases List.mem_cons.1 hp with rfl | hp
    · exact ⟨h.below.size, heap_alloc_new w o⟩
    · exact ⟨(h.has p hp).1, (Below.heap_alloc w o p.1 (Array.getElem?_eq_some_iff.1 (h.has p hp).2).1).trans (h.has p hp).2⟩
theorem St.perm (h : St w0 H w) (hp : H.Perm H') : St w0 H' w := ⟨h.below, (hp.map (·.1)).nodup h.nodup, fun p hm => h.has p (hp.symm.subset hm)⟩
theorem St.part (h : St w0 H w) (hs : H'.Sublist H) : St w0 H' w := ⟨h.below, (hs.map (·.1)).nodup h.nodup, fun p hm => h.has p (hs.subset hm)⟩
theorem St.obj (h : St w0 H w) {k : Nat} {b : Nat} {o : Obj} (hk : H[k]? = some (b, o)) : w.heap[b]? = some o := (h.has (b, o) (List.mem_of_getElem? hk)).2
theorem St.cell (h : St w0 H w) (k : Nat) {b off : Nat} {c : Array Value} {t : TypeId} {f : Nat × Nat} {v : Value} (hk : H[k]? = some (b, .cells c t f)) (hv : c[off]? = some v) : w.cell? ⟨b, off, none⟩ = some v := by
  rw [cell_of_row _ _ _ _ _ _ (h.obj hk)]; exact hv
theorem St.range (h : St w0 H w) (k : Nat) {b off : Nat} {c : Array Value} {t : TypeId} {f : Nat × Nat} (cs : Array Value) (hk : H[k]? = some (b, .cells c t f)) (hv : (c.toList.drop off).take cs.size = cs.toList) : w.rangeAt b off cs.toList := fun j v hj => by
  have hj' : j < cs.size := by have := (List.getElem?_eq_some_iff.1 hj).1; simpa using this
  rw [← hv, List.getElem?_take, if_pos hj', List.getElem?_drop] at hj
  exact h.cell k hk (by simpa using hj)
theorem St.lt (h : St w0 H w) {k : Nat} {b : Nat} {o : Obj} (hk : H[k]? = some (b, o)) : b < w.heap.size := (Array.getElem?_eq_some_iff.1 (h.obj hk)).1
/-- A call that began in w, and owns Hr at its end. -/
theorem St.join {Hr : List (Nat × Obj)} (h : St w0 H w) (hr : St w Hr w') : St w0 (Hr ++ H) w' := by
  refine ⟨h.below.trans (hr.below.mono h.below.size), ?_, fun p hp => ?_⟩
  · rw [List.map_append, List.nodup_append]
    refine ⟨hr.nodup, h.nodup, fun a ha b hb hab => ?_⟩
    obtain ⟨p, hp, rfl⟩ := List.mem_map.1 ha
    obtain ⟨q, hq, rfl⟩ := List.mem_map.1 hb
    have h1 := (hr.has p hp).1
    have h2 := (Array.getElem?_eq_some_iff.1 (h.has q hq).2).1
    omega
  · rcases List.mem_append.1 hp with hp | hp
    · exact ⟨Nat.le_trans h.below.size (hr.has p hp).1, (hr.has p hp).2⟩
    · exact ⟨(h.has p hp).1, (hr.below.block p.1 (Array.getElem?_eq_some_iff.1 (h.has p hp).2).1).trans (h.has p hp).2⟩
/-- One block is written anew. -/
theorem St.write {H1 H2 : List (Nat × Obj)} {b : Nat} {c c' : Array Value} {t : TypeId} {f : Nat × Nat} (h : St w0 (H1 ++ (b, .cells c t f) :: H2) w) : St w0 (H1 ++ (b, .cells c' t f) :: H2) (w.setRow b c') := by
  have hb := h.has (b, .cells c t f) (by simp)
  have hnd := h.nodup
  refine ⟨h.below.trans ⟨rfl, rfl, rfl, by simp [World.setRow], fun k hk => setRow_other w b k c' (by have := hb.1; simp only at this; omega)⟩, by simpa using hnd, fun p hp => ?_⟩
  have hne : ∀ q ∈ H1 ++ H2, q.1 ≠ b := by
    intro q hq he
    rw [List.map_append, List.map_cons, List.nodup_append] at hnd
    obtain ⟨_, n2, n3⟩ := hnd
    rw [List.nodup_cons] at n2
    rcases List.mem_append.1 hq with hq | hq
    · exact n3 q.1 (List.mem_map_of_mem hq) b (by simp) he
    · exact n2.1 (by simp only; rw [← he]; exact List.mem_map_of_mem (f := (·.1)) hq)
  have hold : ∀ q ∈ H1 ++ H2, w0.heap.size ≤ q.1 ∧ (w.setRow b c').heap[q.1]? = some q.2 := fun q hq => by
    have hq' := h.has q (by rcases List.mem_append.1 hq with hq | hq <;> simp [hq])
    exact ⟨hq'.1, (setRow_other w b q.1 c' (hne q hq)).trans hq'.2⟩
  rcases List.mem_append.1 hp with hp | hp
  · exact hold p (by simp [hp])
  · rcases List.mem_cons.1 hp with rfl | hp
    · exact ⟨hb.1, setRow_heap w b c c' t f hb.2⟩
    · exact hold p (by simp [hp])
end
/-- A slice that the call owns. -/
inductive RowIs (ty : TypeId) (sz : Nat) : Option Addr → Nat → Nat → List Value → List (Nat × Obj) → Prop
  | nil : RowIs ty sz none 0 0 [] []
  | row (g cap n : Nat) (cur : Array Value) (xs : List Value) (h1 : n ≤ cap) (h2 : cap ≤ maxLen) (h3 : cur.size = cap * sz) (h4 : cur.toList.take (n * sz) = xs) (h5 : xs.length = n * sz) : RowIs ty sz (some ⟨g, 0, none⟩) n cap xs [(g, .cells cur ty (0, 0))]
section
variable {w0 w w' : World} {H Hr : List (Nat × Obj)} {ty : TypeId} {sz : Nat} {A : Option Addr} {n c : Nat} {xs : List Value}
theorem RowIs.owns (h : RowIs ty sz A n c xs Hr) (hs : St w0 (Hr ++ H) w) : w.ownsRow w0.heap.size ty sz (.slice A n c) n xs := by
  cases h with
  | nil => exact World.ownsRow_nil _ _ _ _
  | row g _ _ cur _ h1 h2 h3 h4 h5 =>
    have := hs.has (g, .cells cur ty (0, 0)) (by simp)
    exact ⟨h5, .inr ⟨g, _, cur, rfl, this.1, this.2, h1, h2, h3, h4⟩⟩
theorem RowIs.of_owns {base : Nat} {v : Value} (h : w.ownsRow base ty sz v n xs) : ∃ A c Hr, v = .slice A n c ∧ RowIs ty sz A n c xs Hr ∧ (∀ p ∈ Hr, base ≤ p.1 ∧ w.heap[p.1]? = some p.2 ∧ v.ownBlock = some p.1) ∧ (Hr.map (·.1)).Nodup := by
  rcases h.2 with ⟨hv, hn⟩ | ⟨g, cap, cur, hv, h1, h2, h3, h4, h5, h6⟩
  · subst hn
    have : xs = [] := List.eq_nil_of_length_eq_zero (by simpa using h.1)
    subst this
    exact ⟨none, 0, [], hv, .nil, (fun p hp => by cases hp), List.nodup_nil⟩
  · exact ⟨_, _, _, hv, .row g cap n cur xs h3 h4 h5 h6 h.1, (fun p hp => by simp at hp; subst hp; exact ⟨h1, h2, by rw [hv]; rfl⟩), by simp⟩
/-- An append to a row that is owned. -/
theorem run_append_row {P : Program} (t tt e : TypeId) (i : TypeInfo) (z : Value) (bytes : Nat) (ht : P.underlying t = some (.slice ty)) (hi : P.info? ty = some i) (hz : i.zero = some z) (hsize : i.size = sz) (hby : i.bytes = bytes) (hzs : z.cells.size = sz) (hsz : 0 < sz)
    (hrow : RowIs ty sz A n c xs Hr) (hs : St w0 (Hr ++ H) w) (a : Addr) (m k : Nat) (news : List Value) (hl : news.length = m * sz) (hnews : ∀ j u, news[j]? = some u → w.cell? (a.add j) = some u) (h1 : ∀ u ∈ news, u.oneCell' = true)
    (h63 : n + m ≤ maxLen) (hbytes : (n + m) * bytes ≤ 140737488355328) :
    ∃ A' c' Hr' w', (Builtin.append_ #[t, t] tt #[.slice A n c, .slice (some a) m k]).run P w = .ok (.slice A' (n + m) c') w' ∧ RowIs ty sz A' (n + m) c' (xs ++ news) Hr' ∧ St w0 (Hr' ++ H) w' := by
  obtain ⟨v', w', hr, hown, hgrow, _, hat⟩ := run_append_own_at (P := P) w w0.heap.size t tt ty i z sz bytes ht hi hz hsize hby hzs hsz (.slice A n c) n xs (hrow.owns hs) a m k news hl hnews h1 h63 hbytes hs.below.size
  obtain ⟨A', c', Hr', rfl, hrow', hH, hnd⟩ := RowIs.of_owns hown
  have hold : ∀ q ∈ H, some q.1 ≠ (Value.slice A n c).ownBlock ∧ q.1 < w.heap.size := fun q hq => by
    have hq' := hs.has q (by simp [hq])
    refine ⟨fun he => ?_, (Array.getElem?_eq_some_iff.1 hq'.2).1⟩
    cases hrow with
    | nil => cases he
    | row g _ _ cur _ =>
      have hnd' := hs.nodup
      simp only [List.map_cons, List.cons_append, List.nil_append, List.nodup_cons] at hnd'
      have e1 : q.1 = g := by simpa [Value.ownBlock] using he
      exact hnd'.1 (by rw [← e1]; exact List.mem_map_of_mem hq)
  refine ⟨A', c', Hr', w', hr, hrow', ?_, ?_, ?_⟩
  · refine hs.below.grown hgrow hs.below.size (fun k hk => ?_)
    exact ((hrow.owns hs).lt k hk).1
  · rw [List.map_append, List.nodup_append]
    refine ⟨hnd, ?_, ?_⟩
    · have := hs.nodup
      rw [List.map_append, List.nodup_append] at this
      exact this.2.1
    · intro x hx y hy hxy
      subst hxy
      obtain ⟨p, hp, rfl⟩ := List.mem_map.1 hx
      obtain ⟨q, hq, hqe⟩ := List.mem_map.1 hy
      have h2 := (hH p hp).2.2
      obtain ⟨o1, o2⟩ := hold q hq
      rcases hat with hat | hat
      · rw [hat] at h2; rw [hqe] at o1; exact o1 h2.symm
      · rw [hat] at h2; have := Option.some.inj h2; omega
  · intro p hp
    rcases List.mem_append.1 hp with hp | hp
    · exact ⟨(hH p hp).1, (hH p hp).2.1⟩
    · obtain ⟨o1, o2⟩ := hold p hp
      have hp' := hs.has p (by simp [hp])
      exact ⟨hp'.1, (hgrow.block p.1 o2 o1).trans hp'.2⟩
end
end Go.Proofs.Ytphnfhonmbbddaa

/- The logic, continued: loads, stores, new variables, slices, calls. No program in sight. -/
namespace Go.Proofs.Ytphnfhonmbbddaa
open Go Go.RowKit
set_option linter.unusedVariables false

theorem wrap_id {z : Int} (h1 : -9223372036854775808 ≤ z) (h2 : z < 9223372036854775808) : IntKind.i64.wrap z = z := by rw [IntKind.wrap_i64]; omega
theorem int_eq {k : IntKind} {a b : Int} (h : a = b) : Value.int k a = .int k b := by rw [h]
theorem bool_eq {a b : Bool} (h : a = b) : Value.bool a = .bool b := by rw [h]
theorem wrap_int {z : Int} (h1 : -9223372036854775808 ≤ z) (h2 : z < 9223372036854775808) : Value.int .i64 (IntKind.i64.wrap z) = .int .i64 z := by rw [wrap_id h1 h2]
/-- What an operation is, with its operands' values. -/
def ldAt (ops : Array Oper) (e : Env) (i : Nat) : Option (TypeId × Value) := match (ops[i]?).map Oper.op with | some (Op.load t x) => some (t, e.ev x) | _ => none
def stAt (ops : Array Oper) (e : Env) (i : Nat) : Option (TypeId × Value × Value) := match (ops[i]?).map Oper.op with | some (Op.store t x y) => some (t, e.ev x, e.ev y) | _ => none
def ixAt (ops : Array Oper) (e : Env) (i : Nat) : Option (TypeId × Value × Value) := match (ops[i]?).map Oper.op with | some (Op.indexAddr t x y) => some (t, e.ev x, e.ev y) | _ => none
def alAt (ops : Array Oper) (i : Nat) : Option TypeId := match (ops[i]?).map Oper.op with | some (Op.alloc t) => some t | _ => none
def bxAt (ops : Array Oper) (e : Env) (i : Nat) : Option (TypeId × Value) := match (ops[i]?).map Oper.op with | some (Op.box t x) => some (t, e.ev x) | _ => none
def bsAt (ops : Array Oper) (e : Env) (i : Nat) : Option (TypeId × Nat × Array (Nat × Value)) := match (ops[i]?).map Oper.op with | some (Op.buildSlice t l ps) => some (t, l, ps.map fun (i, x) => (i, e.ev x)) | _ => none
def apAt (ops : Array Oper) (e : Env) (i : Nat) : Option (TypeId × Value × Value) := match (ops[i]?).map Oper.op with
  | some (Op.call ⟨.builtin .append, args, ts⟩) => match args.toList, ts.toList with | [x, y], [t, t'] => bif Nat.beq t t' then some (t, e.ev x, e.ev y) else none | _, _ => none
  | _ => none
def callAt (ops : Array Oper) (e : Env) (i : Nat) : Option (FuncId × Array Value) := match (ops[i]?).map Oper.op with
  | some (Op.call ⟨.value f, args, _⟩) => match e.ev f with | .func (.func k) first captured => some (k, first ++ args.map e.ev ++ captured) | _ => none
  | _ => none
def slAt (ops : Array Oper) (e : Env) (i : Nat) : Option (TypeId × Value × Option Value × Option Value) := match (ops[i]?).map Oper.op with | some (Op.slice t x lo hi none) => some (t, e.ev x, lo.map e.ev, hi.map e.ev) | _ => none
def scalarB (P : Program) (t : TypeId) : Bool := match P.underlying t with | some (.struct _) | some (.array _ _) | none => false | _ => true
def rowB (P : Program) (t : TypeId) : Bool := match P.underlying t with | some (.struct _) | some (.array _ _) => true | _ => false
theorem opAt {α : Type} {ops : Array Oper} {i : Nat} {f : Op → Option α} {g : Option Op → Option α} {y : α} (h : (match (ops[i]?).map Oper.op with | some o => f o | none => none) = some y) : ∃ o, ops[i]? = some o ∧ f o.op = some y := by
  cases ho : ops[i]? with
  | none => rw [ho] at h; cases h
  | some o => rw [ho] at h; exact ⟨o, rfl, h⟩
section
variable {P : Program} {ops : Array Oper} {Q : Exit → Act → World → Prop} {S : World → Prop} {n : Nat} {rest : List (Nat × Bool)} {e : Env} {Φ Ψ : World → Prop} {w0 : World} {H : List (Nat × Obj)}
theorem run_ld {i : Nat} {t : TypeId} {p : Value} (hl : ldAt ops e i = some (t, p)) (w : World) : runAt P ops e i w = (do let v ← Instr.loadAt t p; Pure.pure (Next.value v) : Sem Next).run P w := by
  unfold ldAt at hl
  unfold runAt
  cases ho : ops[i]? with
  | none => rw [ho] at hl; cases hl
  | some o =>
    rw [ho] at hl
    simp only [Option.map_some] at hl
    split at hl
    · rename_i t' x heq
      simp only [Option.some.injEq, Prod.mk.injEq] at hl
      unfold execOp
      simp only [Option.some.inj heq, hl.1, hl.2]
    · cases hl
/-- A load of one cell. -/
theorem T.load {i : Nat} (m : Bool) (d : Nat) (v : Value) (t : TypeId) (b off : Nat) (hk : okAt ops n e i d = true) (hl : ldAt ops e i = some (t, .pointer (some ⟨b, off, none⟩))) (hs : scalarB P t = true)
    (hc : ∀ w, (bif m then S w else Φ w) → w.cell? ⟨b, off, none⟩ = some v) (h : T P ops Q S n rest ((d, v) :: e) Φ) : T P ops Q S n ((i, m) :: rest) e Φ := by
  refine T.val m d v hk (fun w hw => ?_) h
  rw [run_ld hl]
  have hag : (isAgg t).run P w = .ok false w := by
    unfold scalarB at hs
    cases hu : P.underlying t with
    | none => rw [hu] at hs; cases hs
    | some d =>
      rw [hu] at hs
      unfold isAgg
      rw [Sem.run_bind, run_underlying hu w]
      cases d <;> first | rfl | cases hs
  simp [Instr.loadAt, Instr.sureAddr, loadVar, hag, Go.load, Sem.run, hc w hw]
/-- A load of a whole struct or array. -/
theorem T.loadR {i : Nat} (m : Bool) (d : Nat) (cs : Array Value) (t : TypeId) (b off : Nat) (hk : okAt ops n e i d = true) (hl : ldAt ops e i = some (t, .pointer (some ⟨b, off, none⟩))) (hs : rowB P t = true) (hi : (P.info? t).map (·.size) = some cs.size)
    (hc : ∀ w, (bif m then S w else Φ w) → w.rangeAt b off cs.toList) (h : T P ops Q S n rest ((d, .agg cs) :: e) Φ) : T P ops Q S n ((i, m) :: rest) e Φ := by
  refine T.val m d (.agg cs) hk (fun w hw => ?_) h
  rw [run_ld hl]
  unfold rowB at hs
  cases hu : P.underlying t with
  | none => rw [hu] at hs; cases hs
  | some d =>
    rw [hu] at hs
    have hd : d.isRow = true := by cases d <;> first | rfl | cases hs
    have := run_loadAt_mid (P := P) w b off t cs.toList d (hc w hw) hu hd (by rw [hi]; simp)
    simp [this]
/-- The value is written otherwise. -/
theorem T.pureE {i : Nat} {m : Bool} (d : Nat) (u v : Value) (hk : okAt ops n e i d = true) (hv : ∀ w, runAt P ops e i w = .ok (.value u) w) (he : u = v) (h : T P ops Q S n rest ((d, v) :: e) Φ) :
    T P ops Q S n ((i, m) :: rest) e Φ := T.val m d v hk (fun w _ => by rw [hv, he]) h
theorem T.cast {ord : List (Nat × Bool)} (k : Nat) (u v : Value) (hk : e.get k = some u) (he : u = v) (h : T P ops Q S n ord ((k, v) :: e) Φ) : T P ops Q S n ord e Φ := fun a w ha hw hS =>
  h a w ⟨ha.size, ha.defers, fun i z hz => by
    rw [Env.get_cons] at hz
    by_cases hi : k = i
    · rw [if_pos hi] at hz; subst hi; rw [← hz, ← he]; exact ha.at_ k _ hk
    · rw [if_neg hi] at hz; exact ha.at_ i z hz⟩ hw hS
/-- The address of a slice's element. -/
theorem T.index {i : Nat} {m : Bool} (d : Nat) (t el sz : Nat) (A : Option Addr) (len c : Nat) (k : Int) (j b off : Nat) (hk : okAt ops n e i d = true) (hx : ixAt ops e i = some (t, .slice A len c, .int .i64 k)) (ht : P.underlying t = some (.slice el)) (hsz : (P.info? el).map (·.size) = some sz)
    (hA : A = some ⟨b, off, none⟩) (hj : k = (j : Int)) (hlt : j < len) (h : T P ops Q S n rest ((d, .pointer (some ⟨b, off + j * sz, none⟩)) :: e) Φ) : T P ops Q S n ((i, m) :: rest) e Φ := by
  refine T.pure d _ hk (fun w => ?_) h
  unfold ixAt at hx
  unfold runAt
  cases ho : ops[i]? with
  | none => rw [ho] at hx; cases hx
  | some o =>
    rw [ho] at hx
    simp only [Option.map_some] at hx
    split at hx
    · rename_i t' x y heq
      simp only [Option.some.injEq, Prod.mk.injEq] at hx
      obtain ⟨h1, h2, h3⟩ := hx
      unfold execOp
      simp only [Option.some.inj heq, h1, h2, h3]
      subst hA
      subst hj
      cases hq : P.info? el with
      | none => rw [hq] at hsz; cases hsz
      | some ti =>
        have hs : ti.size = sz := by simpa [hq] using hsz
        have hl0 : (0 : Int) ≤ (j : Int) ∧ (j : Int) < (len : Int) := by omega
        simp [Instr.indexAt, asIntOf, run_underlying ht, hl0, sizeOf, typeInfo, hq, hs, Addr.add_mid]
        intro hge; omega
    · cases hx
/-- A new variable. -/
theorem T.alloc {i : Nat} (d : Nat) (t : TypeId) (C : Array Value) (hk : okAt ops n e i d = true) (ha : alAt ops i = some t) (hz : ((P.info? t).bind (·.zero)).map (·.cells) = some C) (hS : ∀ b w, St w0 ((b, .cells C t (0, 0)) :: H) w → S w)
    (h : ∀ b, T P ops Q S n rest ((d, .pointer (some ⟨b, 0, none⟩)) :: e) (St w0 ((b, .cells C t (0, 0)) :: H))) : T P ops Q S n ((i, false) :: rest) e (St w0 H) := by
  refine T.eff (β := Nat) d (fun b => .pointer (some ⟨b, 0, none⟩)) (fun b => St w0 ((b, .cells C t (0, 0)) :: H)) hk (fun w hw => ⟨w.heap.size, w.alloc (.cells C t), ?_, hw.alloc _⟩) hS h
  unfold alAt at ha
  unfold runAt
  cases ho : ops[i]? with
  | none => rw [ho] at ha; cases ha
  | some o =>
    rw [ho] at ha
    simp only [Option.map_some] at ha
    split at ha
    · rename_i t' heq
      simp only [Option.some.injEq] at ha
      unfold execOp
      simp only [Option.some.inj heq, ha]
      cases hq : P.info? t with
      | none => rw [hq] at hz; cases hz
      | some ti =>
        rw [hq] at hz
        cases hzz : ti.zero with
        | none => simp [hzz] at hz
        | some z =>
          have hc : z.cells = C := by simpa [hzz] using hz
          simp [Instr.alloc, zeroValue, typeInfo, hq, hzz, newVar, newRow, newObj, hc]
          rfl
    · cases ha
theorem T.box {i : Nat} (d : Nat) (t : TypeId) (v : Value) (C : Array Value) (hk : okAt ops n e i d = true) (ha : bxAt ops e i = some (t, v)) (hz : v.cells = C) (hS : ∀ b w, St w0 ((b, .cells C t (0, 0)) :: H) w → S w)
    (h : ∀ b, T P ops Q S n rest ((d, .pointer (some ⟨b, 0, none⟩)) :: e) (St w0 ((b, .cells C t (0, 0)) :: H))) : T P ops Q S n ((i, false) :: rest) e (St w0 H) := by
  refine T.eff (β := Nat) d (fun b => .pointer (some ⟨b, 0, none⟩)) (fun b => St w0 ((b, .cells C t (0, 0)) :: H)) hk (fun w hw => ⟨w.heap.size, w.alloc (.cells C t), ?_, hw.alloc _⟩) hS h
  unfold bxAt at ha
  unfold runAt
  cases ho : ops[i]? with
  | none => rw [ho] at ha; cases ha
  | some o =>
    rw [ho] at ha
    simp only [Option.map_some] at ha
    split at ha
    · rename_i t' x heq
      simp only [Option.some.injEq, Prod.mk.injEq] at ha
      unfold execOp
      simp only [Option.some.inj heq, ha.1, ha.2]
      simp [Instr.box, newVar, newRow, newObj, hz]
      rfl
    · cases ha
/-- A store into a block that is owned. -/
theorem T.store {i : Nat} (t : TypeId) (b off : Nat) (v : Value) (H1 H2 : List (Nat × Obj)) (c c' : Array Value) (ty : TypeId) (hk : okAt0 ops e i = true) (hs : stAt ops e i = some (t, .pointer (some ⟨b, off, none⟩), v)) (hi : (P.info? t).map (·.size) = some v.cells.size) (h1 : v.cells.toList.all (·.oneCell') = true)
    (hc : c.toList.take off ++ v.cells.toList ++ c.toList.drop (off + v.cells.toList.length) = c'.toList) (hl : Nat.ble (off + v.cells.toList.length) c.size = true) (hS : ∀ w, St w0 (H1 ++ (b, .cells c' ty (0, 0)) :: H2) w → S w)
    (h : T P ops Q S n rest e (St w0 (H1 ++ (b, .cells c' ty (0, 0)) :: H2))) : T P ops Q S n ((i, false) :: rest) e (St w0 (H1 ++ (b, .cells c ty (0, 0)) :: H2)) := by
  refine T.effs (St w0 (H1 ++ (b, .cells c' ty (0, 0)) :: H2)) hk (fun w hw => ⟨w.setRow b c', ?_, hw.write⟩) hS h
  unfold stAt at hs
  unfold runAt
  cases ho : ops[i]? with
  | none => rw [ho] at hs; cases hs
  | some o =>
    rw [ho] at hs
    simp only [Option.map_some] at hs
    split at hs
    · rename_i t' x y heq
      simp only [Option.some.injEq, Prod.mk.injEq] at hs
      obtain ⟨g1, g2, g3⟩ := hs
      unfold execOp
      simp only [Option.some.inj heq, g1, g2, g3]
      cases hq : P.info? t with
      | none => rw [hq] at hi; cases hi
      | some ti =>
        have hsz : ti.size = v.cells.size := by simpa [hq] using hi
        have hg := (hw.has (b, .cells c ty (0, 0)) (by simp)).2
        have hst := run_storeCells_at P b off ty v.cells.toList 0 c w hg (by simpa using Nat.le_of_ble_eq_true hl) (fun u hu => List.all_eq_true.1 h1 u hu)
        simp only [Nat.add_zero] at hst
        rw [hc] at hst
        simp [Instr.storeAt, Instr.sureAddr, storeVar, sizeOf, typeInfo, hq, hsz, hst]
    · cases hs
/-- Calls. -/
def Ret (P : Program) (f : FuncId) (args : Array Value) (w : World) (v : Value) : Prop := Calls P f args w fun r w' => r = .returned v ∧ Below w.heap.size w w'
theorem run_call {i : Nat} {f : FuncId} {args : Array Value} (hv : callAt ops e i = some (f, args)) (hf : Enters P f) (w : World) : runAt P ops e i w = .ok (.enter f args) w := by
  unfold callAt at hv
  unfold runAt
  cases ho : ops[i]? with
  | none => rw [ho] at hv; cases hv
  | some o =>
    rw [ho] at hv
    simp only [Option.map_some] at hv
    split at hv
    · rename_i g xs ts heq
      split at hv
      · rename_i k first captured hf'
        simp only [Option.some.injEq, Prod.mk.injEq] at hv
        obtain ⟨rfl, rfl⟩ := hv
        unfold execOp
        simp only [Option.some.inj heq, resolve, hf', Deferred.ofValue, invoke, Sem.run_bind, Sem.run_pure, Result.andThen_ok]
        exact hf _ w
      · cases hv
    · cases hv
theorem T.callP {i : Nat} (d : Nat) (f : FuncId) (args : Array Value) (v : Value) (hk : okAt ops n e i d = true) (hv : callAt ops e i = some (f, args)) (hf : Enters P f) (hc : ∀ w, St w0 H w → Ret P f args w v) (hS : ∀ w, St w0 H w → S w)
    (h : T P ops Q S n rest ((d, v) :: e) (St w0 H)) : T P ops Q S n ((i, false) :: rest) e (St w0 H) :=
  T.call (β := Unit) d f args (fun _ => v) (fun _ => St w0 H) hk (run_call hv hf) (fun w hw => (hc w hw).mono fun r w' ⟨h1, h2⟩ => ⟨(), h1, hw.blw h2⟩) (fun _ => hS) (fun _ => h)
def RetRow (P : Program) (f : FuncId) (args : Array Value) (w : World) (ty : TypeId) (sz k : Nat) (xs : List Value) : Prop :=
  Calls P f args w fun r w' => ∃ A c Hr, r = .returned (.slice A k c) ∧ RowIs ty sz A k c xs Hr ∧ St w Hr w'
structure RowX (ty : TypeId) (sz k : Nat) (xs : List Value) where
  A : Option Addr
  c : Nat
  Hr : List (Nat × Obj)
  is : RowIs ty sz A k c xs Hr
theorem T.callR {i : Nat} (d : Nat) (f : FuncId) (args : Array Value) (ty : TypeId) (sz k : Nat) (xs : List Value) (hk : okAt ops n e i d = true) (hv : callAt ops e i = some (f, args)) (hf : Enters P f) (hc : ∀ w, St w0 H w → RetRow P f args w ty sz k xs)
    (hS : ∀ Hr w, St w0 (Hr ++ H) w → S w) (h : ∀ A c Hr, RowIs ty sz A k c xs Hr → T P ops Q S n rest ((d, .slice A k c) :: e) (St w0 (Hr ++ H))) : T P ops Q S n ((i, false) :: rest) e (St w0 H) :=
  T.call (β := RowX ty sz k xs) d f args (fun x => .slice x.A k x.c) (fun x => St w0 (x.Hr ++ H)) hk (run_call hv hf) (fun w hw => (hc w hw).mono fun r w' ⟨A, c, Hr, h1, h2, h3⟩ => ⟨⟨A, c, Hr, h2⟩, h1, hw.join h3⟩) (fun x => hS x.Hr) (fun x => h x.A x.c x.Hr x.is)
/-- An append to a row that is owned. -/
theorem T.append {i : Nat} (d : Nat) (t ty sz bytes : Nat) (A : Option Addr) (k c : Nat) (xs : List Value) (Hr : List (Nat × Obj)) (b off m c2 : Nat) (news : List Value) (hk : okAt ops n e i d = true) (hv : apAt ops e i = some (t, .slice A k c, .slice (some ⟨b, off, none⟩) m c2))
    (ht : P.underlying t = some (.slice ty)) (hi : (P.info? ty).map (fun i => (i.zero.map (·.cells.size), i.size, i.bytes)) = some (some sz, sz, bytes)) (hsz : 0 < sz) (hrow : RowIs ty sz A k c xs Hr) (hl : news.length = m * sz)
    (hn : ∀ w, St w0 (Hr ++ H) w → w.rangeAt b off news) (h1 : ∀ u ∈ news, u.oneCell' = true) (h63 : (k + m) ≤ maxLen) (hb : (k + m) * bytes ≤ 140737488355328) (hS : ∀ Hr w, St w0 (Hr ++ H) w → S w)
    (h : ∀ A c Hr, RowIs ty sz A (k + m) c (xs ++ news) Hr → T P ops Q S n rest ((d, .slice A (k + m) c) :: e) (St w0 (Hr ++ H))) : T P ops Q S n ((i, false) :: rest) e (St w0 (Hr ++ H)) := by
  refine T.eff (β := RowX ty sz (k + m) (xs ++ news)) d (fun x => .slice x.A (k + m) x.c) (fun x => St w0 (x.Hr ++ H)) hk (fun w hw => ?_) (fun x => hS x.Hr) (fun x => h x.A x.c x.Hr x.is)
  cases hq : P.info? ty with
  | none => rw [hq] at hi; cases hi
  | some ti =>
    rw [hq] at hi
    simp only [Option.map_some, Option.some.injEq, Prod.mk.injEq] at hi
    obtain ⟨i1, i2, i3⟩ := hi
    cases hz : ti.zero with
    | none => rw [hz] at i1; cases i1
    | some z =>
      rw [hz] at i1
      have hzs : z.cells.size = sz := by simpa using i1
      unfold apAt at hv
      cases ho : ops[i]? with
      | none => rw [ho] at hv; cases hv
      | some o =>
        rw [ho] at hv
        simp only [Option.map_some] at hv
        split at hv
        · rename_i args ts heq
          split at hv
          · rename_i x y t1 t2 ha hts
            cases hb2 : Nat.beq t1 t2 with
            | false => rw [hb2] at hv; cases hv
            | true =>
              rw [hb2] at hv
              have e1 := Nat.eq_of_beq_eq_true hb2
              subst e1
              simp only [cond_true, Option.some.injEq, Prod.mk.injEq] at hv
              obtain ⟨v1, v2, v3⟩ := hv
              subst v1
              obtain ⟨A', c', Hr', w', hr, hrow', hst⟩ := run_append_row (P := P) t1 o.type ty ti z bytes ht hq hz i2 i3 hzs hsz hrow hw ⟨b, off, none⟩ m c2 news hl (fun j u hu => by rw [Addr.add_mid]; exact hn w hw j u hu) h1 h63 hb
              refine ⟨⟨A', c', Hr', hrow'⟩, w', ?_, hst⟩
              have ha' : args = #[x, y] := by cases args; simp at ha; rw [ha]
              have ht' : ts = #[t1, t1] := by cases ts; simp at hts; rw [hts]
              rw [runAt_some ho]
              unfold execOp
              simp only [Option.some.inj heq, resolve, invoke, Go.builtin, ha', ht', Sem.run_bind, Sem.run_pure, Result.andThen_ok, List.map_toArray, List.map_cons, List.map_nil, v2, v3, hr]
          · cases hv
        · cases hv
end
/-- Data of one kind, in cells. -/
class Cel (α : Type) where
  sz : Nat
  cs : α → Array Value
  size : ∀ a, (cs a).size = sz
  one : ∀ a, ∀ u ∈ (cs a).toList, u.oneCell' = true
  pos : 0 < sz
/-- The cells of a list. -/
def cells {α : Type} [Cel α] (l : List α) : List Value := l.flatMap fun v => (Cel.cs v).toList
/-- A slice that reads as a list, in one world. -/
def Rd {α : Type} [Cel α] (w : World) (A : Option Addr) (l : List α) : Prop :=
  ∀ j (h : j < l.length), ∃ b off, A = some ⟨b, off, none⟩ ∧ b < w.heap.size ∧ w.rangeAt b (off + j * Cel.sz α) (Cel.cs l[j]).toList
/-- A slice that reads as a list in every world of the walk. -/
def Arr {α : Type} [Cel α] (Φ : World → Prop) (A : Option Addr) (l : List α) : Prop :=
  ∀ j (h : j < l.length), ∃ b off, A = some ⟨b, off, none⟩ ∧ ∀ w, Φ w → w.rangeAt b (off + j * Cel.sz α) (Cel.cs l[j]).toList
section
variable {α : Type} [Cel α] {w w' w0 : World} {A : Option Addr} {l : List α} {H : List (Nat × Obj)} {Φ Ψ : World → Prop}
theorem cells_len (l : List α) : (cells l).length = l.length * Cel.sz α := by
  induction l with
  | nil => simp [cells]
  | cons v l ih => simp only [cells, List.flatMap_cons, List.length_append, List.length_cons] at *; rw [ih]; simp [Cel.size]; rw [Nat.add_mul]; omega
theorem cells_get (l : List α) : ∀ (j t : Nat) (h : j < l.length), t < Cel.sz α → (cells l)[j * Cel.sz α + t]? = (Cel.cs l[j])[t]? := by
  induction l with
  | nil => intro j t h; simp at h
  | cons v l ih =>
    intro j t h ht
    cases j with
    | zero =>
      simp only [cells, List.flatMap_cons]
      rw [List.getElem?_append_left (by simp [Cel.size]; omega)]
      simp
    | succ j =>
      simp only [cells, List.flatMap_cons]
      have e1 : (j + 1) * Cel.sz α = Cel.sz α + j * Cel.sz α := by rw [Nat.add_mul]; omega
      rw [List.getElem?_append_right (by simp [Cel.size]; omega)]
      have e : (j + 1) * Cel.sz α + t - (Cel.cs v).toList.length = j * Cel.sz α + t := by simp [Cel.size]; omega
      rw [e]
      exact ih j t (by simpa using h) ht
theorem cells_snoc (l : List α) (v : α) : cells (l ++ [v]) = cells l ++ (Cel.cs v).toList := by simp [cells]
theorem cells_app (l m : List α) : cells (l ++ m) = cells l ++ cells m := by simp [cells]
theorem cells_one (l : List α) : ∀ u ∈ cells l, u.oneCell' = true := by
  intro u hu
  simp only [cells, List.mem_flatMap] at hu
  obtain ⟨v, _, hv⟩ := hu
  exact Cel.one v u hv
theorem Rd.below (h : Rd w A l) (hb : Below w.heap.size w w') : Rd w' A l := by
  intro j hj
  obtain ⟨b, off, hA, hlt, hc⟩ := h j hj
  exact ⟨b, off, hA, Nat.lt_of_lt_of_le hlt hb.size, fun t u hu => (hb.cell (p := ⟨b, off + j * Cel.sz α + t, none⟩) hlt).trans (hc t u hu)⟩
theorem Rd.nil (w : World) (A : Option Addr) : Rd (α := α) w A [] := fun j hj => by simp at hj
theorem Rd.take (h : Rd w A l) (k : Nat) : Rd w A (l.take k) := by
  intro j hj
  have hj' : j < l.length := by simp at hj; omega
  obtain ⟨b, off, hA, hlt, hc⟩ := h j hj'
  exact ⟨b, off, hA, hlt, by rw [List.getElem_take]; exact hc⟩
theorem Rd.arr (h : Rd w0 A l) (H : List (Nat × Obj)) : Arr (St w0 H) A l := by
  intro j hj
  obtain ⟨b, off, hA, hlt, hc⟩ := h j hj
  exact ⟨b, off, hA, fun w hw t u hu => (hw.below.cell (p := ⟨b, off + j * Cel.sz α + t, none⟩) hlt).trans (hc t u hu)⟩
theorem Arr.rd (h : Arr Φ A l) {w : World} (hw : Φ w) : Rd w A l := by
  intro j hj
  obtain ⟨b, off, hA, hc⟩ := h j hj
  refine ⟨b, off, hA, ?_, hc w hw⟩
  have hp := Cel.pos (α := α)
  have hz := Cel.size l[j]
  have h0 : ∃ u, (Cel.cs l[j]).toList[0]? = some u := ⟨_, List.getElem?_eq_getElem (by simp [hz]; omega)⟩
  obtain ⟨u, hu⟩ := h0
  have := hc w hw 0 u hu
  by_cases hg : b < w.heap.size
  · exact hg
  · simp [World.cell?, Array.getElem?_eq_none (Nat.le_of_not_lt hg)] at this
theorem Arr.weak (h : Arr Φ A l) (hs : ∀ w, Ψ w → Φ w) : Arr Ψ A l := by
  intro j hj
  obtain ⟨b, off, hA, hc⟩ := h j hj
  exact ⟨b, off, hA, fun w hw => hc w (hs w hw)⟩
theorem Arr.take (h : Arr Φ A l) (k : Nat) : Arr Φ A (l.take k) := by
  intro j hj
  have hj' : j < l.length := by simp at hj; omega
  obtain ⟨b, off, hA, hc⟩ := h j hj'
  exact ⟨b, off, hA, by rw [List.getElem_take]; exact hc⟩
theorem Arr.nil (A : Option Addr) : Arr (α := α) Φ A [] := fun j hj => by simp at hj
/-- The whole of a slice as one range. -/
theorem Arr.whole (h : Arr Φ A l) (hne : 0 < l.length) : ∃ b off, A = some ⟨b, off, none⟩ ∧ ∀ w, Φ w → w.rangeAt b off (cells l) := by
  obtain ⟨b, off, hA, _⟩ := h 0 hne
  refine ⟨b, off, hA, fun w hw i u hu => ?_⟩
  have hp := Cel.pos (α := α)
  have hi : i < (cells l).length := (List.getElem?_eq_some_iff.1 hu).1
  rw [cells_len] at hi
  have hj : i / Cel.sz α < l.length := Nat.div_lt_of_lt_mul (by rw [Nat.mul_comm]; exact hi)
  have ht := Nat.mod_lt i hp
  have hdm := Nat.div_add_mod i (Cel.sz α)
  obtain ⟨b', off', hA', hc⟩ := h _ hj
  rw [hA] at hA'
  simp only [Option.some.injEq, Addr.mk.injEq, and_true] at hA'
  obtain ⟨rfl, rfl⟩ := hA'
  have e1 : i = (i / Cel.sz α) * Cel.sz α + i % Cel.sz α := by rw [Nat.mul_comm]; exact hdm.symm
  rw [e1, cells_get l _ _ hj ht] at hu
  have := hc w hw (i % Cel.sz α) u (by simpa using hu)
  rw [Nat.add_assoc, ← e1] at this
  exact this
theorem Arr.row {ty : TypeId} {k c : Nat} {xs : List Value} {Hr : List (Nat × Obj)} (h : RowIs ty (Cel.sz α) A k c xs Hr) (hx : xs = cells l) (hk : k = l.length) (H : List (Nat × Obj)) : Arr (St w0 (Hr ++ H)) A l := by
  intro j hj
  have hlen := cells_len l
  have hp := Cel.pos (α := α)
  cases h with
  | nil => rw [← hk] at hj; omega
  | row g _ _ cur _ h1 h2 h3 h4 h5 =>
    refine ⟨g, 0, rfl, fun w hw t u hu => ?_⟩
    have ht : t < Cel.sz α := by have := (List.getElem?_eq_some_iff.1 hu).1; simpa [Cel.size] using this
    have e1 : (cells l)[j * Cel.sz α + t]? = some u := by rw [cells_get l j t hj ht]; simpa using hu
    rw [← hx, ← h4, List.getElem?_take] at e1
    split at e1
    · rw [Nat.zero_add]; exact hw.cell 0 (t := ty) (f := (0, 0)) (c := cur) rfl (by simpa using e1)
    · cases e1
end
end Go.Proofs.Ytphnfhonmbbddaa

/- The logic, continued: memory by membership, slice literals, comparisons of structs. No program in sight. -/
namespace Go.Proofs.Ytphnfhonmbbddaa
open Go Go.RowKit
set_option linter.unusedVariables false

theorem cell_of_range {w : World} {b off : Nat} {cs : List Value} (h : w.rangeAt b off cs) (k : Nat) {v : Value} (hv : cs[k]? = some v) : w.cell? ⟨b, off + k, none⟩ = some v := h k v hv
theorem range_of_range {w : World} {b off : Nat} {cs : List Value} (h : w.rangeAt b off cs) (k : Nat) (c : Array Value) (hc : (cs.drop k).take c.size = c.toList) : w.rangeAt b (off + k) c.toList := fun j v hj => by
  have hj' : j < c.size := by have := (List.getElem?_eq_some_iff.1 hj).1; simpa using this
  rw [← hc, List.getElem?_take, if_pos hj', List.getElem?_drop] at hj
  have := h (k + j) v hj
  rw [← Nat.add_assoc] at this
  exact this
theorem shl_one {y : Int} (h0 : 0 ≤ y) (h1 : y < 63) : Value.int .i64 (IntKind.i64.wrap (1 * 2 ^ min y.toNat 64)) = .int .i64 (2 ^ y.toNat) := by
  have hm : min y.toNat 64 = y.toNat := by omega
  rw [hm, Int.one_mul]
  refine wrap_int ?_ ?_
  · have : (0 : Int) < 2 ^ y.toNat := Int.pow_pos (by omega)
    omega
  · have h2 : (2 : Nat) ^ y.toNat ≤ 2 ^ 62 := Nat.pow_le_pow_right (by omega) (by omega)
    have h3 : (2 : Nat) ^ 62 = 4611686018427387904 := by decide
    have h4 : ((2 : Int) ^ y.toNat) = ((2 ^ y.toNat : Nat) : Int) := by simp
    omega
theorem quo_int {x y : Int} (h0 : 0 ≤ x) (hy : 0 < y) (h1 : x < 9223372036854775808) : Value.int .i64 (IntKind.i64.wrap (x.tdiv y)) = .int .i64 (x / y) := by
  rw [Int.tdiv_eq_ediv_of_nonneg h0]
  have h2 : 0 ≤ x / y := Int.ediv_nonneg h0 (by omega)
  have h3 : x / y ≤ x := Int.ediv_le_self _ h0
  exact wrap_int (by omega) (by omega)
theorem shl_oneu {y : Int} (h0 : 0 ≤ y) (h1 : y < 63) : Value.int .u64 (IntKind.u64.wrap (1 * 2 ^ min y.toNat 64)) = .int .u64 (2 ^ y.toNat) := by
  have hm : min y.toNat 64 = y.toNat := by omega
  rw [hm, Int.one_mul, IntKind.wrap_u64]
  have h2 : (2 : Nat) ^ y.toNat ≤ 2 ^ 62 := Nat.pow_le_pow_right (by omega) (by omega)
  have h3 : (2 : Nat) ^ 62 = 4611686018427387904 := by decide
  have h4 : ((2 : Int) ^ y.toNat) = ((2 ^ y.toNat : Nat) : Int) := by simp
  have h5 : (0 : Int) ≤ 2 ^ y.toNat := by rw [h4]; exact Int.natCast_nonneg _
  congr 1
  omega
theorem wrap8_int {z : Int} (h1 : 0 ≤ z) (h2 : z < 256) : Value.int .u8 (IntKind.u8.wrap z) = .int .u8 z := by
  rw [IntKind.wrap_u8]; congr 1; omega
theorem wrapu_int {z : Int} (h1 : 0 ≤ z) (h2 : z < 9223372036854775808) : Value.int .u64 (IntKind.u64.wrap z) = .int .u64 z := by
  rw [IntKind.wrap_u64]; congr 1; omega
section
variable {P : Program} {ops : Array Oper} {Q : Exit → Act → World → Prop} {S : World → Prop} {n : Nat} {rest : List (Nat × Bool)} {e : Env} {Φ Ψ : World → Prop} {w0 w : World} {H H' : List (Nat × Obj)}
theorem St.cellM (h : St w0 H w) {b off : Nat} {c : Array Value} {t : TypeId} {f : Nat × Nat} {v : Value} (hk : (b, Obj.cells c t f) ∈ H) (hv : c[off]? = some v) : w.cell? ⟨b, off, none⟩ = some v := by
  rw [cell_of_row _ _ _ _ _ _ (h.has _ hk).2]; exact hv
theorem St.rangeM (h : St w0 H w) {b off : Nat} {c : Array Value} {t : TypeId} {f : Nat × Nat} (cs : Array Value) (hk : (b, Obj.cells c t f) ∈ H) (hv : (c.toList.drop off).take cs.size = cs.toList) : w.rangeAt b off cs.toList := fun j v hj => by
  have hj' : j < cs.size := by have := (List.getElem?_eq_some_iff.1 hj).1; simpa using this
  rw [← hv, List.getElem?_take, if_pos hj', List.getElem?_drop] at hj
  exact h.cellM hk (by simpa using hj)
/-- A store; the block comes to the front. -/
theorem T.storeP {i : Nat} (t : TypeId) (b off : Nat) (v : Value) (c c' : Array Value) (ty : TypeId) (hk : okAt0 ops e i = true) (hs : stAt ops e i = some (t, .pointer (some ⟨b, off, none⟩), v)) (hi : (P.info? t).map (·.size) = some v.cells.size) (h1 : v.cells.toList.all (·.oneCell') = true)
    (hc : c.toList.take off ++ v.cells.toList ++ c.toList.drop (off + v.cells.toList.length) = c'.toList) (hl : Nat.ble (off + v.cells.toList.length) c.size = true) (hp : H.Perm ((b, .cells c ty (0, 0)) :: H')) (hS : ∀ w, St w0 ((b, .cells c' ty (0, 0)) :: H') w → S w)
    (h : T P ops Q S n rest e (St w0 ((b, .cells c' ty (0, 0)) :: H'))) : T P ops Q S n ((i, false) :: rest) e (St w0 H) :=
  T.weak (fun w hw => hw.perm hp) (T.store t b off v [] H' c c' ty hk hs hi h1 hc hl hS h)
theorem T.appendP {i : Nat} (d : Nat) (t ty sz bytes : Nat) (A : Option Addr) (k c : Nat) (xs : List Value) (Hr : List (Nat × Obj)) (b off m c2 : Nat) (news : List Value) (hp : H.Perm (Hr ++ H')) (hk : okAt ops n e i d = true) (hv : apAt ops e i = some (t, .slice A k c, .slice (some ⟨b, off, none⟩) m c2))
    (ht : P.underlying t = some (.slice ty)) (hi : (P.info? ty).map (fun i => (i.zero.map (·.cells.size), i.size, i.bytes)) = some (some sz, sz, bytes)) (hsz : 0 < sz) (hrow : RowIs ty sz A k c xs Hr) (hl : news.length = m * sz)
    (hn : ∀ w, St w0 (Hr ++ H') w → w.rangeAt b off news) (h1 : ∀ u ∈ news, u.oneCell' = true) (h63 : (k + m) ≤ maxLen) (hb : (k + m) * bytes ≤ 140737488355328) (hS : ∀ Hr w, St w0 (Hr ++ H') w → S w)
    (h : ∀ A c Hr, RowIs ty sz A (k + m) c (xs ++ news) Hr → T P ops Q S n rest ((d, .slice A (k + m) c) :: e) (St w0 (Hr ++ H'))) : T P ops Q S n ((i, false) :: rest) e (St w0 H) :=
  T.weak (fun w hw => hw.perm hp) (T.append d t ty sz bytes A k c xs Hr b off m c2 news hk hv ht hi hsz hrow hl hn h1 h63 hb hS h)
/-- Nothing is appended. -/
theorem run_append_none (t tt ty : TypeId) (i : TypeInfo) (ht : P.underlying t = some (.slice ty)) (hi : P.info? ty = some i) (A B : Option Addr) (k c c2 : Nat) (hk : k ≤ c) (w : World) :
    (Builtin.append_ #[t, t] tt #[.slice A k c, .slice B 0 c2]).run P w = .ok (.slice A k c) w := by
  cases A <;> cases B <;> simp [Builtin.append_, run_underlying ht, sizeOf, typeInfo, hi, Builtin.lenOf, hk, Builtin.firstCells, loadCells, loadCellsFrom, storeCells]
/-- A slice that reads as a list is appended. -/
theorem T.appendL {α : Type} [Cel α] {i : Nat} (d : Nat) (t ty bytes : Nat) (A : Option Addr) (k c : Nat) (xs : List Value) (Hr : List (Nat × Obj)) (B : Option Addr) (m c2 : Nat) (l : List α) (hp : H.Perm (Hr ++ H')) (hk : okAt ops n e i d = true) (hv : apAt ops e i = some (t, .slice A k c, .slice B m c2))
    (ht : P.underlying t = some (.slice ty)) (hi : (P.info? ty).map (fun i => (i.zero.map (·.cells.size), i.size, i.bytes)) = some (some (Cel.sz α), Cel.sz α, bytes)) (hrow : RowIs ty (Cel.sz α) A k c xs Hr) (hm : m = l.length) (harr : Arr (St w0 (Hr ++ H')) B l)
    (h63 : (k + m) ≤ maxLen) (hb : (k + m) * bytes ≤ 140737488355328) (hS : ∀ Hr w, St w0 (Hr ++ H') w → S w)
    (h : ∀ A c Hr, RowIs ty (Cel.sz α) A (k + m) c (xs ++ cells l) Hr → T P ops Q S n rest ((d, .slice A (k + m) c) :: e) (St w0 (Hr ++ H'))) : T P ops Q S n ((i, false) :: rest) e (St w0 H) := by
  by_cases hz : l.length = 0
  · have hl : l = [] := List.eq_nil_of_length_eq_zero hz
    subst hl
    have hm0 : m = 0 := by simpa using hm
    subst hm0
    refine T.weak (fun w hw => hw.perm hp) ?_
    refine T.eff (β := Unit) d (fun _ => .slice A k c) (fun _ => St w0 (Hr ++ H')) hk (fun w hw => ⟨(), w, ?_, hw⟩) (fun _ => hS Hr) (fun _ => ?_)
    · cases hq : P.info? ty with
      | none => rw [hq] at hi; cases hi
      | some ti =>
        unfold apAt at hv
        cases ho : ops[i]? with
        | none => rw [ho] at hv; cases hv
        | some o =>
          rw [ho] at hv
          simp only [Option.map_some] at hv
          split at hv
          · rename_i args ts heq
            split at hv
            · rename_i x y t1 t2 ha hts
              cases hb2 : Nat.beq t1 t2 with
              | false => rw [hb2] at hv; cases hv
              | true =>
                rw [hb2] at hv
                have e1 := Nat.eq_of_beq_eq_true hb2
                subst e1
                simp only [cond_true, Option.some.injEq, Prod.mk.injEq] at hv
                obtain ⟨v1, v2, v3⟩ := hv
                subst v1
                have hkc : k ≤ c := by cases hrow with | nil => exact Nat.le_refl _ | row _ _ _ _ _ h1 => exact h1
                have hr := run_append_none (P := P) t1 o.type ty ti ht hq A B k c c2 hkc w
                have ha' : args = #[x, y] := by cases args; simp at ha; rw [ha]
                have ht' : ts = #[t1, t1] := by cases ts; simp at hts; rw [hts]
                rw [runAt_some ho]
                unfold execOp
                simp only [Option.some.inj heq, resolve, invoke, Go.builtin, ha', ht', Sem.run_bind, Sem.run_pure, Result.andThen_ok, List.map_toArray, List.map_cons, List.map_nil, v2, v3, hr]
            · cases hv
          · cases hv
    · have := h A c Hr (by simpa [cells] using hrow)
      simpa using this
  · obtain ⟨b, off, hA, hr⟩ := harr.whole (by omega)
    subst hA
    exact T.appendP d t ty (Cel.sz α) bytes A k c xs Hr b off m c2 (cells l) hp hk hv ht hi Cel.pos hrow (by rw [cells_len, hm]) hr (cells_one l) h63 hb hS h
/-- Lists appended: a literal's elements, or a slice. -/
theorem T.appC {α : Type} [Cel α] {i : Nat} (d : Nat) (t ty bytes : Nat) (A : Option Addr) (c : Nat) (xl : List α) (Hr : List (Nat × Obj)) (b off c2 : Nat) (yl : List α) (hp : H.Perm (Hr ++ H')) (hk : okAt ops n e i d = true) (hv : apAt ops e i = some (t, .slice A xl.length c, .slice (some ⟨b, off, none⟩) yl.length c2))
    (ht : P.underlying t = some (.slice ty)) (hi : (P.info? ty).map (fun i => (i.zero.map (·.cells.size), i.size, i.bytes)) = some (some (Cel.sz α), Cel.sz α, bytes)) (hrow : RowIs ty (Cel.sz α) A xl.length c (cells xl) Hr)
    (hn : ∀ w, St w0 (Hr ++ H') w → w.rangeAt b off (cells yl)) (h63 : (xl.length + yl.length) ≤ maxLen) (hb : (xl.length + yl.length) * bytes ≤ 140737488355328) (hS : ∀ Hr w, St w0 (Hr ++ H') w → S w)
    (h : ∀ A c Hr, RowIs ty (Cel.sz α) A (xl ++ yl).length c (cells (xl ++ yl)) Hr → T P ops Q S n rest ((d, .slice A (xl ++ yl).length c) :: e) (St w0 (Hr ++ H'))) : T P ops Q S n ((i, false) :: rest) e (St w0 H) := by
  rw [List.length_append, cells_app] at h
  exact T.appendP d t ty (Cel.sz α) bytes A xl.length c (cells xl) Hr b off yl.length c2 (cells yl) hp hk hv ht hi Cel.pos hrow (cells_len yl) hn (cells_one yl) h63 hb hS h
theorem T.appD {α : Type} [Cel α] {i : Nat} (d : Nat) (t ty bytes : Nat) (A : Option Addr) (c : Nat) (xl : List α) (Hr : List (Nat × Obj)) (B : Option Addr) (c2 : Nat) (yl : List α) (hp : H.Perm (Hr ++ H')) (hk : okAt ops n e i d = true) (hv : apAt ops e i = some (t, .slice A xl.length c, .slice B yl.length c2))
    (ht : P.underlying t = some (.slice ty)) (hi : (P.info? ty).map (fun i => (i.zero.map (·.cells.size), i.size, i.bytes)) = some (some (Cel.sz α), Cel.sz α, bytes)) (hrow : RowIs ty (Cel.sz α) A xl.length c (cells xl) Hr) (harr : Arr (St w0 (Hr ++ H')) B yl)
    (h63 : (xl.length + yl.length) ≤ maxLen) (hb : (xl.length + yl.length) * bytes ≤ 140737488355328) (hS : ∀ Hr w, St w0 (Hr ++ H') w → S w)
    (h : ∀ A c Hr, RowIs ty (Cel.sz α) A (xl ++ yl).length c (cells (xl ++ yl)) Hr → T P ops Q S n rest ((d, .slice A (xl ++ yl).length c) :: e) (St w0 (Hr ++ H'))) : T P ops Q S n ((i, false) :: rest) e (St w0 H) := by
  rw [List.length_append, cells_app] at h
  exact T.appendL d t ty bytes A xl.length c (cells xl) Hr B yl.length c2 yl hp hk hv ht hi hrow rfl harr h63 hb hS h
/-- A slice literal. -/
theorem T.lit {i : Nat} (d : Nat) (t el len : Nat) (parts : Array (Nat × Value)) (C : Array Value) (hk : okAt ops n e i d = true) (ha : bsAt ops e i = some (t, len, parts)) (ht : P.underlying t = some (.slice el))
    (hz : (P.info? el).bind (fun i => i.zero.bind (fun z => bif Nat.ble (len * i.size) 16777216 && !Nat.beq (len * i.size) 0 then Instr.fill (fun j => some (j * i.size, i.size)) ((Array.range (len * i.size)).map (z.cells[· % z.cells.size]!)) parts.toList else none)) = some C) (hS : ∀ b w, St w0 ((b, .cells C el (0, 0)) :: H) w → S w)
    (h : ∀ b, T P ops Q S n rest ((d, .slice (some ⟨b, 0, none⟩) len len) :: e) (St w0 ((b, .cells C el (0, 0)) :: H))) : T P ops Q S n ((i, false) :: rest) e (St w0 H) := by
  refine T.eff (β := Nat) d (fun b => .slice (some ⟨b, 0, none⟩) len len) (fun b => St w0 ((b, .cells C el (0, 0)) :: H)) hk (fun w hw => ⟨w.heap.size, w.alloc (.cells C el), ?_, hw.alloc _⟩) hS h
  unfold bsAt at ha
  unfold runAt
  cases ho : ops[i]? with
  | none => rw [ho] at ha; cases ha
  | some o =>
    rw [ho] at ha
    simp only [Option.map_some] at ha
    split at ha
    · rename_i t' l' ps heq
      simp only [Option.some.injEq, Prod.mk.injEq] at ha
      obtain ⟨a1, a2, a3⟩ := ha
      subst a1
      subst a2
      cases hq : P.info? el with
      | none => rw [hq] at hz; cases hz
      | some ti =>
        rw [hq] at hz
        simp only [Option.bind_some] at hz
        cases hzz : ti.zero with
        | none => rw [hzz] at hz; cases hz
        | some z =>
          rw [hzz] at hz
          simp only [Option.bind_some] at hz
          cases hc : (Nat.ble (l' * ti.size) 16777216 && !Nat.beq (l' * ti.size) 0) with
          | false => rw [hc] at hz; cases hz
          | true =>
            rw [hc] at hz
            simp only [cond_true] at hz
            rw [Bool.and_eq_true] at hc
            have c1 := Nat.le_of_ble_eq_true hc.1
            have c2 : ¬ l' * ti.size = 0 := fun h0 => by rw [h0] at hc; cases hc.2
            have := run_buildSlice (P := P) w t' el l' parts C ti z ht hq hzz (by omega) c2 hz
            unfold execOp
            simp only [Option.some.inj heq, Sem.run_bind]
            rw [a3, this]
            rfl
    · cases ha
/-- The empty slice literal. -/
theorem T.lit0 {i : Nat} (d : Nat) (t el : Nat) (hk : okAt ops n e i d = true) (ha : bsAt ops e i = some (t, 0, #[])) (ht : P.underlying t = some (.slice el)) (hi : (P.info? el).isSome = true) (hS : ∀ b w, St w0 ((b, .cells #[] el (0, 0)) :: H) w → S w)
    (h : ∀ b, T P ops Q S n rest ((d, .slice (some ⟨b, 0, none⟩) 0 0) :: e) (St w0 ((b, .cells #[] el (0, 0)) :: H))) : T P ops Q S n ((i, false) :: rest) e (St w0 H) := by
  refine T.eff (β := Nat) d (fun b => .slice (some ⟨b, 0, none⟩) 0 0) (fun b => St w0 ((b, .cells #[] el (0, 0)) :: H)) hk (fun w hw => ⟨w.heap.size, w.alloc (.cells #[] el), ?_, hw.alloc _⟩) hS h
  unfold bsAt at ha
  unfold runAt
  cases ho : ops[i]? with
  | none => rw [ho] at ha; cases ha
  | some o =>
    rw [ho] at ha
    simp only [Option.map_some] at ha
    split at ha
    · rename_i t' l' ps heq
      simp only [Option.some.injEq, Prod.mk.injEq] at ha
      obtain ⟨a1, a2, a3⟩ := ha
      subst a1
      subst a2
      obtain ⟨ti, hq⟩ := Option.isSome_iff_exists.1 hi
      unfold execOp
      simp only [Option.some.inj heq, Sem.run_bind]
      rw [a3]
      simp [Instr.buildSlice, run_underlying ht, sizeOf, typeInfo, hq, Instr.fill, newRow]
      have e0 : Array.map (fun (_ : Nat) => (default : Value)) (Array.range 0) = #[] := by decide +kernel
      rw [e0]
    · cases ha
/-- x[:k]. -/
theorem T.sliceTo {i : Nat} {m : Bool} (d : Nat) (t el : Nat) (A : Option Addr) (len c : Nat) (k : Int) (j : Nat) (hk : okAt ops n e i d = true) (hx : slAt ops e i = some (t, .slice A len c, none, some (.int .i64 k))) (ht : P.underlying t = some (.slice el))
    (hi : (P.info? el).isSome = true) (hj : k = (j : Int)) (hlt : j ≤ c) (h : T P ops Q S n rest ((d, .slice A j c) :: e) Φ) : T P ops Q S n ((i, m) :: rest) e Φ := by
  refine T.pure d _ hk (fun w => ?_) h
  unfold slAt at hx
  unfold runAt
  cases ho : ops[i]? with
  | none => rw [ho] at hx; cases hx
  | some o =>
    rw [ho] at hx
    simp only [Option.map_some] at hx
    split at hx
    · rename_i t' x lo hi' heq
      simp only [Option.some.injEq, Prod.mk.injEq] at hx
      obtain ⟨h1, h2, h3, h4⟩ := hx
      unfold execOp
      simp only [Option.some.inj heq, h1, h2, h3, h4, Option.map_none]
      subst hj
      obtain ⟨ti, hq⟩ := Option.isSome_iff_exists.1 hi
      have hl0 : (0 : Int) ≤ (j : Int) ∧ (j : Int) ≤ (c : Int) := by omega
      have hA : (if c = 0 then A else A.map fun x => x.add 0) = A := by
        split
        · rfl
        · cases A <;> simp [Addr.add]
      simp [Instr.sliceAt, Instr.slice, Instr.sliceBounds, Instr.sliceBound, asIntOf, run_underlying ht, sizeOf, typeInfo, hq, hlt, Addr.add]
    · cases hx
/-- Shifts. -/
def shAt (ops : Array Oper) (e : Env) (i : Nat) : Option (Bool × Value × Value) := match (ops[i]?).map Oper.op with
  | some (Op.binOp .shl _ x y _) => some (true, e.ev x, e.ev y)
  | some (Op.binOp .shr _ x y _) => some (false, e.ev x, e.ev y)
  | _ => none
theorem T.shl {i : Nat} {m : Bool} (d : Nat) (k ky : IntKind) (x y : Int) (v : Value) (hk : okAt ops n e i d = true) (hs : shAt ops e i = some (true, .int k x, .int ky y)) (h0 : 0 ≤ y) (hv : Value.int k (k.wrap (x * 2 ^ min y.toNat k.bits)) = v) (h : T P ops Q S n rest ((d, v) :: e) Φ) : T P ops Q S n ((i, m) :: rest) e Φ := by
  refine T.pure d _ hk (fun w => ?_) h
  unfold shAt at hs
  unfold runAt
  cases ho : ops[i]? with
  | none => rw [ho] at hs; cases hs
  | some o =>
    rw [ho] at hs
    simp only [Option.map_some] at hs
    split at hs
    · rename_i t' a b ty heq
      simp only [Option.some.injEq, Prod.mk.injEq, true_and] at hs
      unfold execOp
      simp only [Option.some.inj heq, hs.1, hs.2]
      have : ¬ y < 0 := by omega
      simp [eqGuard, binOp, Op.shift, this, hv]
    · simp at hs
    · cases hs
theorem T.shr {i : Nat} {m : Bool} (d : Nat) (k ky : IntKind) (x y : Int) (v : Value) (hk : okAt ops n e i d = true) (hs : shAt ops e i = some (false, .int k x, .int ky y)) (h0 : 0 ≤ y) (hv : Value.int k (x.fdiv (2 ^ min y.toNat k.bits)) = v) (h : T P ops Q S n rest ((d, v) :: e) Φ) : T P ops Q S n ((i, m) :: rest) e Φ := by
  refine T.pure d _ hk (fun w => ?_) h
  unfold shAt at hs
  unfold runAt
  cases ho : ops[i]? with
  | none => rw [ho] at hs; cases hs
  | some o =>
    rw [ho] at hs
    simp only [Option.map_some] at hs
    split at hs
    · simp at hs
    · rename_i t' a b ty heq
      simp only [Option.some.injEq, Prod.mk.injEq, true_and] at hs
      unfold execOp
      simp only [Option.some.inj heq, hs.1, hs.2]
      have : ¬ y < 0 := by omega
      simp [eqGuard, binOp, Op.shift, this, hv]
    · cases hs
/-- A byte of a constant string. -/
def ixvAt (ops : Array Oper) (e : Env) (i : Nat) : Option (TypeId × ByteArray × Value) := match (ops[i]?).map Oper.op with
  | some (Op.index t (Operand.const (Value.string s)) y) => some (t, s, e.ev y)
  | _ => none
theorem T.indexS {i : Nat} {m : Bool} (d : Nat) (t : TypeId) (f : Nat → Nat) (k : IntKind) (y : Int) (j N : Nat) (hk : okAt ops n e i d = true) (ht : P.underlying t = some .string) (hx : (ixvAt ops e i).map (fun x => (x.1, x.2.2)) = some (t, .int k y))
    (hf : ((ixvAt ops e i).map (fun x => Nat.beq x.2.1.size N && (List.range N).all (fun q => Nat.beq (x.2.1.data[q]!).toNat (f q)))) = some true) (hj : y = (j : Int)) (hlt : j < N) (h : T P ops Q S n rest ((d, .int .u8 ((f j : Nat) : Int)) :: e) Φ) : T P ops Q S n ((i, m) :: rest) e Φ := by
  refine T.pure d _ hk (fun w => ?_) h
  unfold ixvAt at hx hf
  unfold runAt
  cases ho : ops[i]? with
  | none => rw [ho] at hx; cases hx
  | some o =>
    rw [ho] at hx hf
    simp only [Option.map_some] at hx hf
    split at hx
    · rename_i t' s y' heq
      rw [heq] at hf
      simp only [Option.map_some, Option.some.injEq, Prod.mk.injEq, Bool.and_eq_true] at hx hf
      obtain ⟨rfl, h2⟩ := hx
      have hsz := Nat.eq_of_beq_eq_true hf.1
      have hb := Nat.eq_of_beq_eq_true (List.all_eq_true.1 hf.2 j (by simpa using hlt))
      unfold execOp
      simp only [Option.some.inj heq]
      rw [show e.ev (Operand.const (Value.string s)) = .string s from rfl, h2]
      subst hj
      have hl : (0 : Int) ≤ (j : Int) ∧ (j : Int) < (s.size : Int) := by omega
      have hlt' : j < s.size := by omega
      rw [← hb]
      simp [Instr.index, asIntOf, run_underlying ht, hlt']
      rfl
    · simp at hx
/-- Structs and arrays compared. -/
def eqAt (ops : Array Oper) (e : Env) (i : Nat) : Option (Bool × TypeId × Array Value × Array Value) := match (ops[i]?).map Oper.op with
  | some (Op.binOp op t x y _) => match e.ev x, e.ev y, op with | .agg a, .agg b, .eql => some (false, t, a, b) | .agg a, .agg b, .neq => some (true, t, a, b) | _, _, _ => none
  | _ => none
theorem T.eqq {i : Nat} {m : Bool} (d : Nat) (r b : Bool) (neg : Bool) (t : TypeId) (x y : Array Value) (hk : okAt ops n e i d = true) (he : eqAt ops e i = some (neg, t, x, y)) (hg : P.eqGuardType P.depth t = false) (hr : (bif neg then !b else b) = r) (hq : ∀ w, (Op.equal t (.agg x) (.agg y)).run P w = .ok b w)
    (h : T P ops Q S n rest ((d, .bool r) :: e) Φ) : T P ops Q S n ((i, m) :: rest) e Φ := by
  refine T.pure d _ hk (fun w => ?_) h
  unfold eqAt at he
  unfold runAt
  cases ho : ops[i]? with
  | none => rw [ho] at he; cases he
  | some o =>
    rw [ho] at he
    simp only [Option.map_some] at he
    split at he
    · rename_i op t' u v ty heq
      split at he
      · rename_i a b' h1 h2
        simp only [Option.some.injEq, Prod.mk.injEq] at he
        obtain ⟨rfl, rfl, rfl, rfl⟩ := he
        unfold execOp
        simp only [Option.some.inj heq, h1, h2]
        subst hr
        simp [eqGuard, binOp, hg, hq, Go.program, Sem.run]
      · rename_i a b' h1 h2
        simp only [Option.some.injEq, Prod.mk.injEq] at he
        obtain ⟨rfl, rfl, rfl, rfl⟩ := he
        unfold execOp
        simp only [Option.some.inj heq, h1, h2]
        subst hr
        simp [eqGuard, binOp, hg, hq, Go.program, Sem.run]
      · cases he
    · cases he
end
section
variable {P : Program} (w : World)
theorem run_eq_struct (d : Nat) (t : TypeId) (fs : Array Field) (xs ys : Array Value) (ht : P.underlying t = some (.struct fs)) (hp : P.stoodInHeld t = false) (r : Bool) (h : (Op.eqFields d xs ys fs.toList).run P w = .ok r w) :
    (Op.equalIn (d + 1) t (.agg xs) (.agg ys)).run P w = .ok r w := by
  have hf : P.fieldsOf t = fs := by unfold Program.fieldsOf; rw [ht]
  rw [run_equalIn_struct w d t xs ys (by rw [hf]; exact ht) hp, hf]
  exact h
theorem run_eqFields_cons (d : Nat) (xs ys : Array Value) (f : Field) (fs : List Field) (a b : Value) (r r' : Bool) (hn : (f.name == "_") = false) (ha : (part f.type xs f.offset).run P w = .ok a w) (hb : (part f.type ys f.offset).run P w = .ok b w)
    (hr : (Op.equalIn d f.type a b).run P w = .ok r w) (h : (Op.eqFields d xs ys fs).run P w = .ok r' w) : (Op.eqFields d xs ys (f :: fs)).run P w = .ok (r && r') w := by
  have hn' : f.name ≠ "_" := by simpa using hn
  unfold Op.eqFields
  rw [if_pos hn']
  simp only [Sem.run_bind, ha, hb, hr, Result.andThen_ok]
  cases r with
  | false => rfl
  | true => simpa using h
theorem run_eqFields_nil (d : Nat) (xs ys : Array Value) : (Op.eqFields d xs ys []).run P w = .ok true w := rfl
end
end Go.Proofs.Ytphnfhonmbbddaa

/- The rules once more, with what the kernel tells left out. No program in sight. -/
namespace Go.Proofs.Ytphnfhonmbbddaa
open Go Go.RowKit
set_option linter.unusedVariables false
@[reducible] def LS (kf : FuncId) (lb : Array Value) (sf : FuncId) (sb : Array Value) : Array Value := #[.func (.func kf) #[] lb, .func (.func sf) #[] sb]
section
variable {α : Type} {a b c d x y z u v w q r s : α} {l : List α}
theorem tv2 {p : α → Prop} : ∀ w, p w → True := fun _ _ => trivial
theorem tv3 {β : Type} {p : β → α → Prop} : ∀ b w, p b w → True := fun _ _ _ => trivial
theorem mm0 : a ∈ a :: l := .head _
theorem mm1 : b ∈ a :: b :: l := .tail _ mm0
theorem mm2 : c ∈ a :: b :: c :: l := .tail _ mm1
theorem mm3 : d ∈ a :: b :: c :: d :: l := .tail _ mm2
theorem mm4 : x ∈ a :: b :: c :: d :: x :: l := .tail _ mm3
theorem mm5 : y ∈ a :: b :: c :: d :: x :: y :: l := .tail _ mm4
theorem mm6 : z ∈ a :: b :: c :: d :: x :: y :: z :: l := .tail _ mm5
theorem mm7 : u ∈ a :: b :: c :: d :: x :: y :: z :: u :: l := .tail _ mm6
theorem mm8 : v ∈ a :: b :: c :: d :: x :: y :: z :: u :: v :: l := .tail _ mm7
theorem mm9 : w ∈ a :: b :: c :: d :: x :: y :: z :: u :: v :: w :: l := .tail _ mm8
theorem mm10 : q ∈ a :: b :: c :: d :: x :: y :: z :: u :: v :: w :: q :: l := .tail _ mm9
theorem ns1 : [a].Sublist (a :: l) := (List.nil_sublist _).cons_cons _
theorem ns2 : [a, b].Sublist (a :: b :: l) := ns1.cons_cons _
theorem ns3 : [a, b, c].Sublist (a :: b :: c :: l) := ns2.cons_cons _
theorem ns4 : [a, b, c, d].Sublist (a :: b :: c :: d :: l) := ns3.cons_cons _
theorem ns5 : [a, b, c, d, x].Sublist (a :: b :: c :: d :: x :: l) := ns4.cons_cons _
theorem ns6 : [a, b, c, d, x, y].Sublist (a :: b :: c :: d :: x :: y :: l) := ns5.cons_cons _
theorem ns7 : [a, b, c, d, x, y, z].Sublist (a :: b :: c :: d :: x :: y :: z :: l) := ns6.cons_cons _
theorem ns8 : [a, b, c, d, x, y, z, u].Sublist (a :: b :: c :: d :: x :: y :: z :: u :: l) := ns7.cons_cons _
theorem ns9 : [a, b, c, d, x, y, z, u, v].Sublist (a :: b :: c :: d :: x :: y :: z :: u :: v :: l) := ns8.cons_cons _
theorem pm0 : l.Perm l := List.Perm.refl _
theorem pm1 : (a :: b :: l).Perm (b :: a :: l) := List.Perm.swap _ _ _
theorem pm2 : (a :: b :: c :: l).Perm (c :: a :: b :: l) := (pm1.cons _).trans (List.Perm.swap _ _ _)
theorem pm3 : (a :: b :: c :: d :: l).Perm (d :: a :: b :: c :: l) := (pm2.cons _).trans (List.Perm.swap _ _ _)
theorem pm4 : (a :: b :: c :: d :: x :: l).Perm (x :: a :: b :: c :: d :: l) := (pm3.cons _).trans (List.Perm.swap _ _ _)
theorem pm5 : (a :: b :: c :: d :: x :: y :: l).Perm (y :: a :: b :: c :: d :: x :: l) := (pm4.cons _).trans (List.Perm.swap _ _ _)
theorem pm6 : (a :: b :: c :: d :: x :: y :: z :: l).Perm (z :: a :: b :: c :: d :: x :: y :: l) := (pm5.cons _).trans (List.Perm.swap _ _ _)
theorem pm7 : (a :: b :: c :: d :: x :: y :: z :: u :: l).Perm (u :: a :: b :: c :: d :: x :: y :: z :: l) := (pm6.cons _).trans (List.Perm.swap _ _ _)
end
@[reducible] def od1 : List (Nat × Bool) := [(0, false)]
@[reducible] def od2 : List (Nat × Bool) := [(0, false), (1, false)]
@[reducible] def od3 : List (Nat × Bool) := [(0, false), (1, false), (2, false)]
@[reducible] def od4 : List (Nat × Bool) := [(0, false), (1, false), (2, false), (3, false)]
@[reducible] def od5 : List (Nat × Bool) := [(0, false), (1, false), (2, false), (3, false), (4, false)]
@[reducible] def od6 : List (Nat × Bool) := [(0, false), (1, false), (2, false), (3, false), (4, false), (5, false)]
@[reducible] def od7 : List (Nat × Bool) := [(0, false), (1, false), (2, false), (3, false), (4, false), (5, false), (6, false)]
@[reducible] def od8 : List (Nat × Bool) := [(0, false), (1, false), (2, false), (3, false), (4, false), (5, false), (6, false), (7, false)]
@[reducible] def od9 : List (Nat × Bool) := [(0, false), (1, false), (2, false), (3, false), (4, false), (5, false), (6, false), (7, false), (8, false)]
@[reducible] def od10 : List (Nat × Bool) := [(0, false), (1, false), (2, false), (3, false), (4, false), (5, false), (6, false), (7, false), (8, false), (9, false)]
@[reducible] def od11 : List (Nat × Bool) := [(0, false), (1, false), (2, false), (3, false), (4, false), (5, false), (6, false), (7, false), (8, false), (9, false), (10, false)]
@[reducible] def od12 : List (Nat × Bool) := [(0, false), (1, false), (2, false), (3, false), (4, false), (5, false), (6, false), (7, false), (8, false), (9, false), (10, false), (11, false)]
@[reducible] def od13 : List (Nat × Bool) := [(0, false), (1, false), (2, false), (3, false), (4, false), (5, false), (6, false), (7, false), (8, false), (9, false), (10, false), (11, false), (12, false)]
@[reducible] def od14 : List (Nat × Bool) := [(0, false), (1, false), (2, false), (3, false), (4, false), (5, false), (6, false), (7, false), (8, false), (9, false), (10, false), (11, false), (12, false), (13, false)]
@[reducible] def od15 : List (Nat × Bool) := [(0, false), (1, false), (2, false), (3, false), (4, false), (5, false), (6, false), (7, false), (8, false), (9, false), (10, false), (11, false), (12, false), (13, false), (14, false)]
@[reducible] def od16 : List (Nat × Bool) := [(0, false), (1, false), (2, false), (3, false), (4, false), (5, false), (6, false), (7, false), (8, false), (9, false), (10, false), (11, false), (12, false), (13, false), (14, false), (15, false)]
@[reducible] def od17 : List (Nat × Bool) := [(0, false), (1, false), (2, false), (3, false), (4, false), (5, false), (6, false), (7, false), (8, false), (9, false), (10, false), (11, false), (12, false), (13, false), (14, false), (15, false), (16, false)]
@[reducible] def od18 : List (Nat × Bool) := [(0, false), (1, false), (2, false), (3, false), (4, false), (5, false), (6, false), (7, false), (8, false), (9, false), (10, false), (11, false), (12, false), (13, false), (14, false), (15, false), (16, false), (17, false)]
@[reducible] def od19 : List (Nat × Bool) := [(0, false), (1, false), (2, false), (3, false), (4, false), (5, false), (6, false), (7, false), (8, false), (9, false), (10, false), (11, false), (12, false), (13, false), (14, false), (15, false), (16, false), (17, false), (18, false)]
@[reducible] def od20 : List (Nat × Bool) := [(0, false), (1, false), (2, false), (3, false), (4, false), (5, false), (6, false), (7, false), (8, false), (9, false), (10, false), (11, false), (12, false), (13, false), (14, false), (15, false), (16, false), (17, false), (18, false), (19, false)]
@[reducible] def od21 : List (Nat × Bool) := [(0, false), (1, false), (2, false), (3, false), (4, false), (5, false), (6, false), (7, false), (8, false), (9, false), (10, false), (11, false), (12, false), (13, false), (14, false), (15, false), (16, false), (17, false), (18, false), (19, false), (20, false)]
@[reducible] def od22 : List (Nat × Bool) := [(0, false), (1, false), (2, false), (3, false), (4, false), (5, false), (6, false), (7, false), (8, false), (9, false), (10, false), (11, false), (12, false), (13, false), (14, false), (15, false), (16, false), (17, false), (18, false), (19, false), (20, false), (21, false)]
@[reducible] def od23 : List (Nat × Bool) := [(0, false), (1, false), (2, false), (3, false), (4, false), (5, false), (6, false), (7, false), (8, false), (9, false), (10, false), (11, false), (12, false), (13, false), (14, false), (15, false), (16, false), (17, false), (18, false), (19, false), (20, false), (21, false), (22, false)]
@[reducible] def od24 : List (Nat × Bool) := [(0, false), (1, false), (2, false), (3, false), (4, false), (5, false), (6, false), (7, false), (8, false), (9, false), (10, false), (11, false), (12, false), (13, false), (14, false), (15, false), (16, false), (17, false), (18, false), (19, false), (20, false), (21, false), (22, false), (23, false)]
@[reducible] def od25 : List (Nat × Bool) := [(0, false), (1, false), (2, false), (3, false), (4, false), (5, false), (6, false), (7, false), (8, false), (9, false), (10, false), (11, false), (12, false), (13, false), (14, false), (15, false), (16, false), (17, false), (18, false), (19, false), (20, false), (21, false), (22, false), (23, false), (24, false)]
@[reducible] def od26 : List (Nat × Bool) := [(0, false), (1, false), (2, false), (3, false), (4, false), (5, false), (6, false), (7, false), (8, false), (9, false), (10, false), (11, false), (12, false), (13, false), (14, false), (15, false), (16, false), (17, false), (18, false), (19, false), (20, false), (21, false), (22, false), (23, false), (24, false), (25, false)]
@[reducible] def od27 : List (Nat × Bool) := [(0, false), (1, false), (2, false), (3, false), (4, false), (5, false), (6, false), (7, false), (8, false), (9, false), (10, false), (11, false), (12, false), (13, false), (14, false), (15, false), (16, false), (17, false), (18, false), (19, false), (20, false), (21, false), (22, false), (23, false), (24, false), (25, false), (26, false)]
@[reducible] def od28 : List (Nat × Bool) := [(0, false), (1, false), (2, false), (3, false), (4, false), (5, false), (6, false), (7, false), (8, false), (9, false), (10, false), (11, false), (12, false), (13, false), (14, false), (15, false), (16, false), (17, false), (18, false), (19, false), (20, false), (21, false), (22, false), (23, false), (24, false), (25, false), (26, false), (27, false)]
@[reducible] def od29 : List (Nat × Bool) := [(0, false), (1, false), (2, false), (3, false), (4, false), (5, false), (6, false), (7, false), (8, false), (9, false), (10, false), (11, false), (12, false), (13, false), (14, false), (15, false), (16, false), (17, false), (18, false), (19, false), (20, false), (21, false), (22, false), (23, false), (24, false), (25, false), (26, false), (27, false), (28, false)]
@[reducible] def od30 : List (Nat × Bool) := [(0, false), (1, false), (2, false), (3, false), (4, false), (5, false), (6, false), (7, false), (8, false), (9, false), (10, false), (11, false), (12, false), (13, false), (14, false), (15, false), (16, false), (17, false), (18, false), (19, false), (20, false), (21, false), (22, false), (23, false), (24, false), (25, false), (26, false), (27, false), (28, false), (29, false)]
section
variable {P : Program} {ops : Array Oper} {Q : Exit → Act → World → Prop} {S : World → Prop} {n : Nat} {rest : List (Nat × Bool)} {e : Env} {Φ : World → Prop} {x y : Code} {w0 : World} {H H' : List (Nat × Obj)}
theorem T.pu {i : Nat} {m : Bool} (d : Nat) (v : Value) (h : T P ops Q S n rest ((d, v) :: e) Φ) (hk : okAt ops n e i d = true := by kernel_rfl) (hv : ∀ w, runAt P ops e i w = .ok (.value v) w := by intro w; kernel_rfl) :
    T P ops Q S n ((i, m) :: rest) e Φ := T.pure d v hk hv h
theorem T.pi {i : Nat} {m : Bool} (d : Nat) (v : Int) (h : T P ops Q S n rest ((d, .int .i64 v) :: e) Φ) (hk : okAt ops n e i d = true := by kernel_rfl) (hv : ∀ w, runAt P ops e i w = .ok (.value (.int .i64 v)) w := by intro w; kernel_rfl) :
    T P ops Q S n ((i, m) :: rest) e Φ := T.pure d _ hk hv h
theorem T.pb {i : Nat} {m : Bool} (d : Nat) (v : Bool) (h : T P ops Q S n rest ((d, .bool v) :: e) Φ) (hk : okAt ops n e i d = true := by kernel_rfl) (hv : ∀ w, runAt P ops e i w = .ok (.value (.bool v)) w := by intro w; kernel_rfl) :
    T P ops Q S n ((i, m) :: rest) e Φ := T.pure d _ hk hv h
theorem T.pe {i : Nat} {m : Bool} (d : Nat) (u v : Value) (he : u = v) (h : T P ops Q S n rest ((d, v) :: e) Φ) (hk : okAt ops n e i d = true := by kernel_rfl) (hv : ∀ w, runAt P ops e i w = .ok (.value u) w := by intro w; kernel_rfl) :
    T P ops Q S n ((i, m) :: rest) e Φ := T.pureE d u v hk hv he h
theorem T.pw {i : Nat} {m : Bool} (d : Nat) (x : Int) (h : T P ops Q S n rest ((d, .int .i64 x) :: e) Φ) (h1 : -9223372036854775808 ≤ x := by omega) (h2 : x < 9223372036854775808 := by omega) (hk : okAt ops n e i d = true := by kernel_rfl) (hv : ∀ w, runAt P ops e i w = .ok (.value (.int .i64 (IntKind.i64.wrap x))) w := by intro w; kernel_rfl) :
    T P ops Q S n ((i, m) :: rest) e Φ := T.pureE d _ _ hk hv (wrap_int h1 h2) h
theorem T.bk (blk rest : List (Nat × Bool)) (j : Nat) (want b : Bool) (dj d : Nat) (x : Value) (ht : b = want → T P ops (Exit.then (fun a w => Fr n ((d, x) :: (dj, .bool want) :: e) a ∧ Φ w ∧ S w) Q) S n blk ((dj, .bool want) :: e) Φ)
    (h : T P ops Q S n rest ((d, gv (b == want) x) :: e) Φ) (hdj : (ops[j]?).bind (·.dst) = some dj := by kernel_rfl) (hj : e.get dj = some (.bool b) := by kernel_rfl) (hk : blkHas (blkOk ops n e j want blk []) d n = true := by kernel_rfl) : T P ops Q S n (blk ++ rest) e Φ := T.blk blk rest j want b dj d x hdj hj hk ht h
theorem T.ld {i : Nat} (m : Bool) (d : Nat) (v : Value) (t : TypeId) (b off : Nat) (hc : ∀ w, (bif m then S w else Φ w) → w.cell? ⟨b, off, none⟩ = some v) (h : T P ops Q S n rest ((d, v) :: e) Φ) (hk : okAt ops n e i d = true := by kernel_rfl) (hl : ldAt ops e i = some (t, .pointer (some ⟨b, off, none⟩)) := by kernel_rfl) (hs : scalarB P t = true := by kernel_rfl) :
    T P ops Q S n ((i, m) :: rest) e Φ := T.load m d v t b off hk hl hs hc h
theorem T.lr {i : Nat} (m : Bool) (d : Nat) (cs : Array Value) (t : TypeId) (b off : Nat) (hc : ∀ w, (bif m then S w else Φ w) → w.rangeAt b off cs.toList) (h : T P ops Q S n rest ((d, .agg cs) :: e) Φ) (hk : okAt ops n e i d = true := by kernel_rfl) (hl : ldAt ops e i = some (t, .pointer (some ⟨b, off, none⟩)) := by kernel_rfl) (hs : rowB P t = true := by kernel_rfl) (hi : (P.info? t).map (·.size) = some cs.size := by kernel_rfl) :
    T P ops Q S n ((i, m) :: rest) e Φ := T.loadR m d cs t b off hk hl hs hi hc h
theorem T.sp {i : Nat} (t : TypeId) (b off : Nat) (v : Value) (c c' : Array Value) (ty : TypeId) (hp : H.Perm ((b, .cells c ty (0, 0)) :: H')) (hS : ∀ w, St w0 ((b, .cells c' ty (0, 0)) :: H') w → S w) (h : T P ops Q S n rest e (St w0 ((b, .cells c' ty (0, 0)) :: H')))
    (hk : okAt0 ops e i = true := by kernel_rfl) (hs : stAt ops e i = some (t, .pointer (some ⟨b, off, none⟩), v) := by kernel_rfl) (hi : (P.info? t).map (·.size) = some v.cells.size := by kernel_rfl) (h1 : v.cells.toList.all (·.oneCell') = true := by kernel_rfl)
    (hc : c.toList.take off ++ v.cells.toList ++ c.toList.drop (off + v.cells.toList.length) = c'.toList := by kernel_rfl) (hl : Nat.ble (off + v.cells.toList.length) c.size = true := by kernel_rfl) : T P ops Q S n ((i, false) :: rest) e (St w0 H) := T.storeP t b off v c c' ty hk hs hi h1 hc hl hp hS h
theorem T.cp {i : Nat} (d : Nat) (f : FuncId) (args : Array Value) (v : Value) (hf : Enters P f) (hc : ∀ w, St w0 H w → Ret P f args w v) (hS : ∀ w, St w0 H w → S w) (h : T P ops Q S n rest ((d, v) :: e) (St w0 H)) (hk : okAt ops n e i d = true := by kernel_rfl) (hv : callAt ops e i = some (f, args) := by kernel_rfl) :
    T P ops Q S n ((i, false) :: rest) e (St w0 H) := T.callP d f args v hk hv hf hc hS h
theorem T.bx {i : Nat} (d : Nat) (t : TypeId) (v : Value) (C : Array Value) (hS : ∀ b w, St w0 ((b, .cells C t (0, 0)) :: H) w → S w) (h : ∀ b, T P ops Q S n rest ((d, .pointer (some ⟨b, 0, none⟩)) :: e) (St w0 ((b, .cells C t (0, 0)) :: H))) (hk : okAt ops n e i d = true := by kernel_rfl) (ha : bxAt ops e i = some (t, v) := by kernel_rfl) (hz : v.cells = C := by kernel_rfl) :
    T P ops Q S n ((i, false) :: rest) e (St w0 H) := T.box d t v C hk ha hz hS h
theorem T.al {i : Nat} (d : Nat) (t : TypeId) (C : Array Value) (hS : ∀ b w, St w0 ((b, .cells C t (0, 0)) :: H) w → S w) (h : ∀ b, T P ops Q S n rest ((d, .pointer (some ⟨b, 0, none⟩)) :: e) (St w0 ((b, .cells C t (0, 0)) :: H))) (hk : okAt ops n e i d = true := by kernel_rfl) (ha : alAt ops i = some t := by kernel_rfl) (hz : ((P.info? t).bind (·.zero)).map (·.cells) = some C := by kernel_rfl) :
    T P ops Q S n ((i, false) :: rest) e (St w0 H) := T.alloc d t C hk ha hz hS h
theorem T.ix {i : Nat} {m : Bool} (d : Nat) (t el sz : Nat) (A : Option Addr) (len c : Nat) (k : Int) (j b off : Nat) (hA : A = some ⟨b, off, none⟩) (hj : k = (j : Int)) (hlt : j < len) (h : T P ops Q S n rest ((d, .pointer (some ⟨b, off + j * sz, none⟩)) :: e) Φ)
    (hk : okAt ops n e i d = true := by kernel_rfl) (hx : ixAt ops e i = some (t, .slice A len c, .int .i64 k) := by kernel_rfl) (ht : P.underlying t = some (.slice el) := by kernel_rfl) (hsz : (P.info? el).map (·.size) = some sz := by kernel_rfl) : T P ops Q S n ((i, m) :: rest) e Φ := T.index d t el sz A len c k j b off hk hx ht hsz hA hj hlt h
theorem T.an {i : Nat} {m : Bool} (d : Nat) (b y : Bool) (h : T P ops Q S n rest ((d, .bool (b && y)) :: e) Φ) (hk : okAt ops n e i d = true := by kernel_rfl) (hp : pickAnd ops e i = some (some (.bool b), some (gv (b == true) (.bool y))) := by kernel_rfl) : T P ops Q S n ((i, m) :: rest) e Φ := T.and d b y hk hp h
theorem T.oo {i : Nat} {m : Bool} (d : Nat) (b y : Bool) (h : T P ops Q S n rest ((d, .bool (b || y)) :: e) Φ) (hk : okAt ops n e i d = true := by kernel_rfl) (hp : pickOr ops e i = some (some (.bool b), some (gv (b == false) (.bool y))) := by kernel_rfl) : T P ops Q S n ((i, m) :: rest) e Φ := T.or d b y hk hp h
theorem W.rg {id : Nat} {ops : Array Oper} (ord : List (Nat × Bool)) (h : T P ops Q (fun _ => True) n ord e Φ) (ho : plainOrd ops.size [] = ord := by kernel_rfl) : W P n e Φ (.region id ops false) Q := W.region ord ho h
theorem W.cd {o : Operand} (b : Bool) (ht : b = true → W P n e Φ x Q) (hf : b = false → W P n e Φ y Q) (hb : e.op o = some (.bool b) := by kernel_rfl) : W P n e Φ (.cond o x y) Q := W.cond b hb ht hf
/-- The ways through a piece of code meet again. -/
theorem W.meet {β : Type} {c : Code} (E : β → Env) (F : β → World → Prop) (h1 : W P n e Φ c (Exit.then (fun a w => ∃ x, Fr n (E x) a ∧ F x w) Q)) (h2 : ∀ x, QN n (E x) (F x) Q .normal) : W P n e Φ c Q := fun a w ha hw => by
  refine wp_mono (h1 a w ha hw) ?_
  intro x a' w' h
  cases x with
  | normal => obtain ⟨y, h3, h4⟩ := h; exact h2 y a' w' h3 h4
  | exit id => exact h
  | goto l => exact h
  | ret => exact h
  | panic ch => exact h
  | outgrown => exact h
theorem QN.meet {β : Type} {E : β → Env} {F : β → World → Prop} (x : β) (hE : (E x).map (fun p => e.get p.1) = (E x).map (fun p => (E x).get p.1)) (hF : ∀ w, Φ w → F x w) : QN n e Φ (Exit.then (fun a w => ∃ x, Fr n (E x) a ∧ F x w) Q) .normal := fun a w ha hw => ⟨x, ha.sub hE, hF w hw⟩
end
end Go.Proofs.Ytphnfhonmbbddaa

/- A row that is being sorted, in the logic: the order asked by a closure that may lay blocks, the exchange of two elements. No program in sight. -/
namespace Go.Proofs.Ytphnfhonmbbddaa
open Go Go.RowKit
set_option linter.unusedVariables false

/-- The cells of the row's block: the elements, and what lies behind them. -/
def rowb {α : Type} [Cel α] (d : Array α) (tail : List Value) : Array Value := (cells d.toList ++ tail).toArray
/-- What is known of a row that is being sorted. -/
structure SortOk (P : Program) (α : Type) [Cel α] [Inhabited α] (w00 : World) (g n : Nat) (ty : TypeId) (tail : List Value) (lt : α → α → Bool) (kf : Nat) (lb : Array Value) (sf : Nat) (sb : Array Value) (H0 : List (Nat × Obj)) : Prop where
  ent : Enters P kf
  less : ∀ (H' : List (Nat × Obj)) (d : Array α) (w : World) (x y : Int) (i j : Nat), d.size = n → x = (i : Int) → y = (j : Int) → i < n → j < n → St w00 ((g, .cells (rowb d tail) ty (0, 0)) :: (H' ++ H0)) w → Ret P kf (#[.int .i64 x, .int .i64 y] ++ lb) w (.bool (lt d[i]! d[j]!))
  swap : ∀ (H' : List (Nat × Obj)) (d : Array α) (w : World) (x y : Int) (i j : Nat), d.size = n → x = (i : Int) → y = (j : Int) → i < n → j < n → St w00 ((g, .cells (rowb d tail) ty (0, 0)) :: (H' ++ H0)) w →
    ∃ w', (callFunc sf (#[.int .i64 x, .int .i64 y] ++ sb)).run P w = .ok (.value (.tuple #[])) w' ∧ St w00 ((g, .cells (rowb (Sort.swp d i j) tail) ty (0, 0)) :: (H' ++ H0)) w'
  swo : Sort.SWO lt
section
variable {P : Program} {ops : Array Oper} {Q : Exit → Act → World → Prop} {S : World → Prop} {n : Nat} {rest : List (Nat × Bool)} {e : Env} {Φ Ψ : World → Prop}
/-- A call that the model carries out at once. -/
theorem T.callV {i : Nat} (d : Nat) (f : FuncId) (args : Array Value) (v : Value) (Ψ : World → Prop) (hk : okAt ops n e i d = true) (hv : callAt ops e i = some (f, args)) (hr : ∀ w, Φ w → ∃ w', (callFunc f args).run P w = .ok (.value v) w' ∧ Ψ w') (hS : ∀ w, Ψ w → S w)
    (h : T P ops Q S n rest ((d, v) :: e) Ψ) : T P ops Q S n ((i, false) :: rest) e Φ := by
  refine T.eff (β := Unit) d (fun _ => v) (fun _ => Ψ) hk (fun w hw => ?_) (fun _ => hS) (fun _ => h)
  obtain ⟨w', h1, h2⟩ := hr w hw
  refine ⟨(), w', ?_, h2⟩
  unfold callAt at hv
  unfold runAt
  cases ho : ops[i]? with
  | none => rw [ho] at hv; cases hv
  | some o =>
    rw [ho] at hv
    simp only [Option.map_some] at hv
    split at hv
    · rename_i g xs ts heq
      split at hv
      · rename_i k first captured hf'
        simp only [Option.some.injEq, Prod.mk.injEq] at hv
        obtain ⟨rfl, rfl⟩ := hv
        unfold execOp
        simp only [Option.some.inj heq, resolve, hf', Deferred.ofValue, invoke, Sem.run_bind, Sem.run_pure, Result.andThen_ok]
        exact h1
      · cases hv
    · cases hv
/-- A call with a contract on the world. -/
theorem T.callW {i : Nat} (d : Nat) (f : FuncId) (args : Array Value) (v : Value) (Ψ : World → Prop) (hk : okAt ops n e i d = true) (hv : callAt ops e i = some (f, args)) (hf : Enters P f) (hc : ∀ w, Φ w → Calls P f args w fun r w' => r = .returned v ∧ Ψ w') (hS : ∀ w, Ψ w → S w)
    (h : T P ops Q S n rest ((d, v) :: e) Ψ) : T P ops Q S n ((i, false) :: rest) e Φ :=
  T.call (β := Unit) d f args (fun _ => v) (fun _ => Ψ) hk (run_call hv hf) (fun w hw => (hc w hw).mono fun r w' ⟨h1, h2⟩ => ⟨(), h1, h2⟩) (fun _ => hS) (fun _ => h)
/-- The same, the result known up to a ghost. -/
theorem T.callG {β : Type} {i : Nat} (d : Nat) (f : FuncId) (args : Array Value) (V : β → Value) (Ψ : β → World → Prop) (p : β → Prop) (hk : okAt ops n e i d = true) (hv : callAt ops e i = some (f, args)) (hf : Enters P f) (hc : ∀ w, Φ w → Calls P f args w fun r w' => ∃ x, p x ∧ r = .returned (V x) ∧ Ψ x w') (hS : ∀ x w, Ψ x w → S w)
    (h : ∀ x, p x → T P ops Q S n rest ((d, V x) :: e) (Ψ x)) : T P ops Q S n ((i, false) :: rest) e Φ :=
  T.call (β := { x : β // p x }) d f args (fun x => V x.1) (fun x => Ψ x.1) hk (run_call hv hf) (fun w hw => (hc w hw).mono fun r w' ⟨x, h0, h1, h2⟩ => ⟨⟨x, h0⟩, h1, h2⟩) (fun x => hS x.1) (fun x => h x.1 x.2)
theorem T.pureIf {ord : List (Nat × Bool)} {p : Prop} (h : p → T P ops Q S n ord e Φ) : T P ops Q S n ord e (fun w => p ∧ Φ w) := fun a w ha hw hS => h hw.1 a w ha hw.2 hS
end
/-- The head of a region that draws its order, where the head only reads and what follows is forced. -/
def HdT (P : Program) (l : List Oper) (Q : Exit → Act → World → Prop) (n N : Nat) (ix : List Nat) (e : Env) (Φ : World → Prop) : Prop :=
  ∀ a w, Fr n e a → Φ w → wpStill P l.toArray w (fun a' => wpList P l.toArray Q (l.drop N) a' w) (ix.filterMap fun i => l.toArray[i]?) a
section
variable {P : Program} {l : List Oper} {Q : Exit → Act → World → Prop} {n N : Nat} {rest : List Nat} {e : Env} {Φ Ψ : World → Prop}
theorem Hd.val {i : Nat} (d : Nat) (v : Value) (hk : okAt l.toArray n e i d = true) (hv : ∀ w, Φ w → runAt P l.toArray e i w = .ok (.value v) w) (h : HdT P l Q n N rest ((d, v) :: e) Φ) : HdT P l Q n N (i :: rest) e Φ := by
  obtain ⟨o, ho, hd, hdn, hg, hkn⟩ := okAt_out hk
  intro a w ha hw
  have hr := hv w hw
  rw [runAt_some ho] at hr
  rw [List.filterMap_cons, ho]
  refine wpStill_step fun K hK => ?_
  rw [if_pos (wanted_of ha hg)]
  unfold Oper.still
  rw [exec_known ha hkn, hr]
  exact ⟨rfl, hK _ (h _ _ (by rw [hd]; exact ha.put hdn _) hw)⟩
theorem Hd.pure {i : Nat} (d : Nat) (v : Value) (hk : okAt l.toArray n e i d = true) (hv : ∀ w, runAt P l.toArray e i w = .ok (.value v) w) (h : HdT P l Q n N rest ((d, v) :: e) Φ) : HdT P l Q n N (i :: rest) e Φ := Hd.val d v hk (fun w _ => hv w) h
theorem Hd.pureE {i : Nat} (d : Nat) (u v : Value) (hk : okAt l.toArray n e i d = true) (hv : ∀ w, runAt P l.toArray e i w = .ok (.value u) w) (he : u = v) (h : HdT P l Q n N rest ((d, v) :: e) Φ) : HdT P l Q n N (i :: rest) e Φ := Hd.val d v hk (fun w _ => by rw [hv, he]) h
theorem Hd.load {i : Nat} (m : Bool) (d : Nat) (v : Value) (t : TypeId) (b off : Nat) (hk : okAt l.toArray n e i d = true) (hl : ldAt l.toArray e i = some (t, .pointer (some ⟨b, off, none⟩))) (hs : scalarB P t = true)
    (hc : ∀ w, Φ w → w.cell? ⟨b, off, none⟩ = some v) (h : HdT P l Q n N rest ((d, v) :: e) Φ) : HdT P l Q n N (i :: rest) e Φ := by
  refine Hd.val d v hk (fun w hw => ?_) h
  rw [run_ld hl]
  have hag : (isAgg t).run P w = .ok false w := by
    unfold scalarB at hs
    cases hu : P.underlying t with
    | none => rw [hu] at hs; cases hs
    | some d =>
      rw [hu] at hs
      unfold isAgg
      rw [Sem.run_bind, run_underlying hu w]
      cases d <;> first | rfl | cases hs
  simp [Instr.loadAt, Instr.sureAddr, loadVar, hag, Go.load, Sem.run, hc w hw]
theorem Hd.done (ord : List (Nat × Bool)) (ho : (List.range' N (l.length - N)).map (fun i => (i, false)) = ord) (h : T P l.toArray Q (fun _ => True) n ord e Φ) : HdT P l Q n N [] e Φ := by
  intro a w ha hw
  refine wpStill_nil ?_
  have h1 := h a w ha hw trivial
  rw [← ho] at h1
  have h2 := wpOps_of_run (P := P) (ops := l.toArray) (Q := Q) (List.range' N (l.length - N)) a w (fun i hi => by simp at hi ⊢; omega) h1
  have h3 := wpOps_eq_wpList (P := P) (ops := l.toArray) (Q := Q) (l.drop N) N (fun j => by simp)
  rw [List.length_drop] at h3
  rw [h3] at h2
  exact h2
theorem W.still {id : Nat} (N : Nat) (ix : List Nat) (hix : List.range N = ix) (hm : P.follows .mixedOrders = true) (hB : Region.lexTailB .any l.toArray N = true) (hN : Nat.ble N l.length = true) (hd : ∀ w, Φ w → Ψ { w with drawn := w.drawn + 1 }) (h : HdT P l Q n N ix e Ψ) : W P n e Φ (.region id l.toArray true) Q := fun a w ha hw => by
  refine wp_region_still_tail N hm hB ?_
  have h1 := h a _ ha (hd w hw)
  have e1 : (ix.filterMap fun i => l.toArray[i]?) = l.take N := by
    rw [← hix]
    have hN' : N ≤ l.length := Nat.le_of_ble_eq_true hN
    clear h1 h hB hix
    induction N with
    | zero => rfl
    | succ k ih =>
      have hk : Nat.ble k l.length = true := Nat.ble_eq_true_of_le (by omega)
      rw [List.range_succ, List.filterMap_append, ih hk (by omega), List.take_succ_eq_append_getElem (by omega)]
      simp [List.getElem?_eq_getElem (show k < l.length by omega)]
  rw [e1] at h1
  exact h1
end
end Go.Proofs.Ytphnfhonmbbddaa

/- The exchange of two elements of a row, as reflectlite's literal does it, in the logic. No program in sight. -/
namespace Go.Proofs.Ytphnfhonmbbddaa
open Go Go.RowKit Go.Lib Go.Extern Go.Extern.Rtype
set_option linter.unusedVariables false
section
variable {α : Type} [Cel α] {P : Program}
theorem cells_take (l : List α) (i : Nat) (h : i ≤ l.length) : (cells l).take (i * Cel.sz α) = cells (l.take i) := by
  conv => lhs; rw [← List.take_append_drop i l, cells_app]
  rw [List.take_left' (by rw [cells_len, List.length_take, Nat.min_eq_left h])]
theorem cells_drop (l : List α) (i : Nat) (h : i ≤ l.length) : (cells l).drop (i * Cel.sz α) = cells (l.drop i) := by
  conv => lhs; rw [← List.take_append_drop i l, cells_app]
  rw [List.drop_left' (by rw [cells_len, List.length_take, Nat.min_eq_left h])]
theorem cells_set (l : List α) (i : Nat) (v : α) (h : i < l.length) : (cells l).take (i * Cel.sz α) ++ (Cel.cs v).toList ++ (cells l).drop (i * Cel.sz α + Cel.sz α) = cells (l.set i v) := by
  have e : i * Cel.sz α + Cel.sz α = (i + 1) * Cel.sz α := (Nat.succ_mul _ _).symm
  rw [e, cells_take l i (by omega), cells_drop l (i + 1) h, List.set_eq_take_append_cons_drop, if_pos h, cells_app]
  simp [cells]
theorem rowb_set (d : Array α) (tail : List Value) (i : Nat) (v : α) (h : i < d.size) :
    (rowb d tail).toList.take (i * Cel.sz α) ++ (Cel.cs v).toList ++ (rowb d tail).toList.drop (i * Cel.sz α + Cel.sz α) = (rowb (d.setIfInBounds i v) tail).toList := by
  have hl : i < d.toList.length := by simpa using h
  have e : i * Cel.sz α + Cel.sz α ≤ (cells d.toList).length := by rw [cells_len, ← Nat.succ_mul]; exact Nat.mul_le_mul_right _ hl
  simp only [rowb]
  rw [List.take_append_of_le_length (by omega), List.drop_append_of_le_length e, ← List.append_assoc, cells_set _ _ _ hl, Array.toList_setIfInBounds]
theorem rowb_size (d : Array α) (tail : List Value) : (rowb d tail).size = d.size * Cel.sz α + tail.length := by
  simp [rowb, cells_len]
theorem rowb_get [Inhabited α] (d : Array α) (tail : List Value) (i k : Nat) (h : i < d.size) {v : Value} (hv : (Cel.cs d[i]!)[k]? = some v) : (rowb d tail)[i * Cel.sz α + k]? = some v := by
  have hk : k < Cel.sz α := by rw [← Cel.size d[i]!]; exact (Array.getElem?_eq_some_iff.1 hv).1
  have hl : i < d.toList.length := by simpa using h
  have e : i * Cel.sz α + Cel.sz α ≤ (cells d.toList).length := by rw [cells_len, ← Nat.succ_mul]; exact Nat.mul_le_mul_right _ hl
  have g1 := cells_get d.toList i k hl hk
  simp only [rowb, List.getElem?_toArray]
  rw [List.getElem?_append_left (by omega), g1, ← hv]
  simp [getElem!_pos d i h]
theorem run_storeRow (e : TypeId) (ie : TypeInfo) (hie : P.info? e = some ie) (hsz : ie.size = Cel.sz α) (g i : Nat) (ty : TypeId) (d : Array α) (tail : List Value) (v : α) (h : i < d.size) (w : World) (hg : w.heap[g]? = some (.cells (rowb d tail) ty (0, 0))) :
    (storeVar e ⟨g, i * Cel.sz α, none⟩ (.agg (Cel.cs v))).run P w = .ok () (w.setRow g (rowb (d.setIfInBounds i v) tail)) := by
  have hl : i * Cel.sz α + Cel.sz α ≤ d.size * Cel.sz α := by rw [← Nat.succ_mul]; exact Nat.mul_le_mul_right _ h
  have hst := run_storeCells_at P g (i * Cel.sz α) ty (Cel.cs v).toList 0 (rowb d tail) w hg (by rw [rowb_size, Array.length_toList, Cel.size]; omega) (Cel.one v)
  simp only [Nat.add_zero, Array.length_toList, Cel.size] at hst
  rw [rowb_set d tail i v h, Array.toArray_toList] at hst
  simp [storeVar, Value.cells, sizeOf, rl_info e ie hie, hsz, Cel.size, hst, Result.andThen]
theorem run_loadRow [Inhabited α] (e : TypeId) (ie : TypeInfo) (hie : P.info? e = some ie) (hsz : ie.size = Cel.sz α) (hagg : ∀ w, (isAgg e).run P w = .ok true w) (g i : Nat) (ty : TypeId) (d : Array α) (tail : List Value) (h : i < d.size) (w : World) (hg : w.heap[g]? = some (.cells (rowb d tail) ty (0, 0))) :
    (loadVar e ⟨g, i * Cel.sz α, none⟩).run P w = .ok (.agg (Cel.cs d[i]!)) w := by
  have := rl_loadVar_cells (P := P) e ie hie hagg g (i * Cel.sz α) (Cel.cs d[i]!).toList (by rw [Array.length_toList, Cel.size, hsz]) w (fun k v hk => by
    have := rowb_get d tail i k h (v := v) (by simpa using hk)
    simp [World.cell?, hg, this])
  simpa using this
theorem run_swapRow [Inhabited α] {w00 : World} {g n c : Nat} {ty : TypeId} {tail : List Value} {H : List (Nat × Obj)} (gb : Bool) (e : TypeId) (ie : TypeInfo) (hie : P.info? e = some ie) (hsz : ie.size = Cel.sz α) (hagg : ∀ w, (isAgg e).run P w = .ok true w) (d : Array α) (hd : d.size = n) (i j : Nat) (hi : i < n) (hj : j < n) (w : World) (hst : St w00 ((g, .cells (rowb d tail) ty (0, 0)) :: H) w) :
    ∃ w', (ReflectliteSwapper.swap gb #[.int .i64 i, .int .i64 j, .slice (some ⟨g, 0, none⟩) n c, typeHandle P e]).run P w = .ok (.tuple #[]) w' ∧ St w00 ((g, .cells (rowb (Sort.swp d i j) tail) ty (0, 0)) :: H) w' := by
  have hg := (hst.has _ (List.mem_cons_self)).2
  simp only at hg
  have s1 := St.write (H1 := []) (c' := rowb (d.setIfInBounds i d[j]!) tail) hst
  simp only [List.nil_append] at s1
  have hg1 := (s1.has _ (List.mem_cons_self)).2
  simp only at hg1
  have s2 := St.write (H1 := []) (c' := rowb (Sort.swp d i j) tail) s1
  simp only [List.nil_append] at s2
  refine ⟨_, ?_, s2⟩
  have l1 := run_loadRow (P := P) e ie hie hsz hagg g i ty d tail (by omega) w hg
  have l2 := run_loadRow (P := P) e ie hie hsz hagg g j ty d tail (by omega) w hg
  have t1 := run_storeRow (P := P) e ie hie hsz g i ty d tail d[j]! (by omega) w hg
  have t2 := run_storeRow (P := P) e ie hie hsz g j ty (d.setIfInBounds i d[j]!) tail d[i]! (by simp; omega) _ hg1
  have i0 : ¬ ((i : Int) < 0) := by omega
  have i1 : ¬ ((i : Int) ≥ n) := by omega
  have j0 : ¬ ((j : Int) < 0) := by omega
  have j1 : ¬ ((j : Int) ≥ n) := by omega
  have t2' : (storeVar e ⟨g, j * Cel.sz α, none⟩ (.agg (Cel.cs d[i]!))).run P (w.setRow g (rowb (d.setIfInBounds i d[j]!) tail)) = .ok () ((w.setRow g (rowb (d.setIfInBounds i d[j]!) tail)).setRow g (rowb (Sort.swp d i j) tail)) := t2
  rw [rl_swap]
  cases gb <;> simp [i0, i1, j0, j1, ofHandle, handleType, typeHandle, ReflectliteSwapper.exchange, sizeOf, rl_info e ie hie, hsz, Addr.add_lit, l1, l2, t1, t2', Result.andThen]
end
section
variable {P : Program} {ops : Array Oper} {Q : Exit → Act → World → Prop} {S : World → Prop} {n : Nat} {rest : List (Nat × Bool)} {e : Env} {Φ : World → Prop}
/-- A call that the model carries out at once, its result known up to a ghost. -/
theorem T.callVG {β : Type} {i : Nat} (d : Nat) (f : FuncId) (args : Array Value) (V : β → Value) (Ψ : β → World → Prop) (hk : okAt ops n e i d = true) (hv : callAt ops e i = some (f, args)) (hr : ∀ w, Φ w → ∃ x w', (callFunc f args).run P w = .ok (.value (V x)) w' ∧ Ψ x w') (hS : ∀ x w, Ψ x w → S w)
    (h : ∀ x, T P ops Q S n rest ((d, V x) :: e) (Ψ x)) : T P ops Q S n ((i, false) :: rest) e Φ := by
  refine T.eff (β := β) d V Ψ hk (fun w hw => ?_) hS h
  obtain ⟨x, w', h1, h2⟩ := hr w hw
  refine ⟨x, w', ?_, h2⟩
  unfold callAt at hv
  unfold runAt
  cases ho : ops[i]? with
  | none => rw [ho] at hv; cases hv
  | some o =>
    rw [ho] at hv
    simp only [Option.map_some] at hv
    split at hv
    · rename_i g xs ts heq
      split at hv
      · rename_i k first captured hf'
        simp only [Option.some.injEq, Prod.mk.injEq] at hv
        obtain ⟨rfl, rfl⟩ := hv
        unfold execOp
        simp only [Option.some.inj heq, resolve, hf', Deferred.ofValue, invoke, Sem.run_bind, Sem.run_pure, Result.andThen_ok]
        exact h1
      · cases hv
    · cases hv
end
end Go.Proofs.Ytphnfhonmbbddaa

/- x[j:], scopes and labels, in the logic. No program in sight. -/
namespace Go.Proofs.Ytphnfhonmbbddaa
open Go Go.RowKit
set_option linter.unusedVariables false
/-- Where x[j:] begins. -/
def offA (A : Option Addr) (c j sz : Nat) : Option Addr := if c = j then A else A.map fun x => x.add (j * sz)
section
variable {P : Program} {ops : Array Oper} {Q : Exit → Act → World → Prop} {S : World → Prop} {n : Nat} {rest : List (Nat × Bool)} {e : Env} {Φ : World → Prop} {c : Code}
theorem T.sliceFrom {i : Nat} {m : Bool} (d : Nat) (t el sz : Nat) (A : Option Addr) (len c : Nat) (k : Int) (j m' : Nat) (hk : okAt ops n e i d = true) (hx : slAt ops e i = some (t, .slice A len c, some (.int .i64 k), none)) (ht : P.underlying t = some (.slice el))
    (hi : (P.info? el).map (·.size) = some sz) (hj : k = (j : Int)) (hlt : j ≤ len) (hm' : len - j = m') (h : T P ops Q S n rest ((d, .slice (offA A c j sz) m' (c - j)) :: e) Φ) : T P ops Q S n ((i, m) :: rest) e Φ := by
  subst hm'
  refine T.pure d _ hk (fun w => ?_) h
  unfold slAt at hx
  unfold runAt
  cases ho : ops[i]? with
  | none => rw [ho] at hx; cases hx
  | some o =>
    rw [ho] at hx
    simp only [Option.map_some] at hx
    split at hx
    · rename_i t' x lo hi' heq
      simp only [Option.some.injEq, Prod.mk.injEq] at hx
      obtain ⟨h1, h2, h3, h4⟩ := hx
      unfold execOp
      simp only [Option.some.inj heq, h1, h2, h3, h4, Option.map_none]
      subst hj
      cases hq : P.info? el with
      | none => rw [hq] at hi; cases hi
      | some ti =>
        have hsz : ti.size = sz := by simpa [hq] using hi
        simp [Instr.sliceAt, Instr.slice, Instr.sliceBounds, Instr.sliceBound, asIntOf, run_underlying ht, sizeOf, typeInfo, hq, hlt, hsz, offA]
    · cases hx
theorem W.scope (h : W P n e Φ c (Exit.noGoto Q)) : W P n e Φ (.scope c) Q := fun a w ha hw => wp_scope_straight (h a w ha hw)
theorem W.label {l : Nat} (h : QN n e Φ Q .normal) : W P n e Φ (.label l) Q := fun a w ha hw => wp_label (h a w ha hw)
theorem QN.scopeNormal (h : QN n e Φ Q .normal) : QN n e Φ (Exit.noGoto Q) .normal := h
theorem QN.scopeExit {id : Nat} (h : QN n e Φ Q (.exit id)) : QN n e Φ (Exit.noGoto Q) (.exit id) := h
theorem QN.scopeRet (h : QN n e Φ Q .ret) : QN n e Φ (Exit.noGoto Q) .ret := h
theorem NoPanic.noGoto (h : NoPanic Q) : NoPanic (Exit.noGoto Q) := h
end
section
variable {α : Type} [Cel α] {A : Option Addr} {l : List α} {Φ : World → Prop}
theorem Arr.drop (h : Arr Φ A l) (c j : Nat) (hc : l.length ≤ c) : Arr Φ (offA A c j (Cel.sz α)) (l.drop j) := by
  intro k hk
  rw [List.length_drop] at hk
  obtain ⟨b, off, hA, hr⟩ := h (j + k) (by omega)
  refine ⟨b, off + j * Cel.sz α, ?_, fun w hw => ?_⟩
  · unfold offA
    rw [if_neg (by omega), hA]
    simp [Addr.add]
  · have := hr w hw
    rw [List.getElem_drop]
    rw [Nat.add_mul, ← Nat.add_assoc] at this
    exact this
end
end Go.Proofs.Ytphnfhonmbbddaa
