/- A row that is being sorted, in the logic: the order asked by a closure that may lay blocks, the exchange of two elements. No program in sight. -/
import Derived.Sort.AssemblyPlain
import Derived.StillTail
import Derived.Test.YthhgdkodhokefaaSv
namespace Go.Proofs.Ythhgdkodhokefaa
open Go Go.RowKit
set_option linter.unusedVariables false

/-- The cells of the row's block: the elements, and what lies behind them. -/
def rowb {α : Type} [Cel α] (d : Array α) (tail : List Value) : Array Value := (cells d.toList ++ tail).toArray
/-- What is known of a row that is being sorted. -/
structure SortOk (P : Program) (α : Type) [Cel α] [Inhabited α] (w00 : World) (g n : Nat) (ty : TypeId) (tail : List Value) (lt : α → α → Bool) (kf : Nat) (lb : Array Value) (sf : Nat) (sb : Array Value) (H0 : List (Nat × Obj)) : Prop where
  ent : Enters P kf
  less : ∀ (H' : List (Nat × Obj)) (d : Array α) (w : World) (x y : Int) (i j : Nat), d.size = n → x = (i : Int) → y = (j : Int) → i < n → j < n → St w00 ((g, .cells (rowb d tail) ty (0, 0)) :: (H' ++ H0)) w → Ret P kf (#[.int .i64 x, .int .i64 y] ++ lb) w (.bool (lt d[i]! d[j]!))
  swap : ∀ (H' : List (Nat × Obj)) (d : Array α) (w : World) (x y : Int) (i j : Nat), d.size = n → x = (i : Int) → y = (j : Int) → i < n → j < n → St w00 ((g, .cells (rowb d tail) ty (0, 0)) :: (H' ++ H0)) w →
    ∃ w', (callFunc sf (#[.int .i64 x, .int .i64 y] ++ sb)).run P w = .ok (.value (.tuple #[])) w' ∧ St w00 ((g, .cells (rowb (Sort.swp d i j) tail) ty (0, 0)) :: (H' ++ H0)) w'
  swo : Sort.SWO lt
section
variable {P : Program} {ops : Array Oper} {Q : Exit → Act → World → Prop} {S : World → Prop} {n : Nat} {rest : List (Nat × Bool)} {e : Env} {Φ Ψ : World → Prop}
/-- A call that the model carries out at once. -/
theorem T.callV {i : Nat} (d : Nat) (f : FuncId) (args : Array Value) (v : Value) (Ψ : World → Prop) (hk : okAt ops n e i d = true) (hv : callAt ops e i = some (f, args)) (hr : ∀ w, Φ w → ∃ w', (callFunc f args).run P w = .ok (.value v) w' ∧ Ψ w') (hS : ∀ w, Ψ w → S w)
    (h : T P ops Q S n rest ((d, v) :: e) Ψ) : T P ops Q S n ((i, false) :: rest) e Φ := by
  refine T.eff (β := Unit) d (fun _ => v) (fun _ => Ψ) hk (fun w hw => ?_) (fun _ => hS) (fun _ => h)
  obtain ⟨w', h1, h2⟩ := hr w hw
  refine ⟨(), w', ?_, h2⟩
  unfold callAt at hv
  unfold runAt
  cases ho : ops[i]? with
  | none => rw [ho] at hv; cases hv
  | some o =>
    rw [ho] at hv
    simp only [Option.map_some] at hv
    split at hv
    · rename_i g xs ts heq
      split at hv
      · rename_i k first captured hf'
        simp only [Option.some.injEq, Prod.mk.injEq] at hv
        obtain ⟨rfl, rfl⟩ := hv
        unfold execOp
        simp only [Option.some.inj heq, resolve, hf', Deferred.ofValue, invoke, Sem.run_bind, Sem.run_pure, Result.andThen_ok]
        exact h1
      · cases hv
    · cases hv
/-- A call with a contract on the world. -/
theorem T.callW {i : Nat} (d : Nat) (f : FuncId) (args : Array Value) (v : Value) (Ψ : World → Prop) (hk : okAt ops n e i d = true) (hv : callAt ops e i = some (f, args)) (hf : Enters P f) (hc : ∀ w, Φ w → Calls P f args w fun r w' => r = .returned v ∧ Ψ w') (hS : ∀ w, Ψ w → S w)
    (h : T P ops Q S n rest ((d, v) :: e) Ψ) : T P ops Q S n ((i, false) :: rest) e Φ :=
  T.call (β := Unit) d f args (fun _ => v) (fun _ => Ψ) hk (run_call hv hf) (fun w hw => (hc w hw).mono fun r w' ⟨h1, h2⟩ => ⟨(), h1, h2⟩) (fun _ => hS) (fun _ => h)
/-- The same, the result known up to a ghost. -/
theorem T.callG {β : Type} {i : Nat} (d : Nat) (f : FuncId) (args : Array Value) (V : β → Value) (Ψ : β → World → Prop) (p : β → Prop) (hk : okAt ops n e i d = true) (hv : callAt ops e i = some (f, args)) (hf : Enters P f) (hc : ∀ w, Φ w → Calls P f args w fun r w' => ∃ x, p x ∧ r = .returned (V x) ∧ Ψ x w') (hS : ∀ x w, Ψ x w → S w)
    (h : ∀ x, p x → T P ops Q S n rest ((d, V x) :: e) (Ψ x)) : T P ops Q S n ((i, false) :: rest) e Φ :=
  T.call (β := { x : β // p x }) d f args (fun x => V x.1) (fun x => Ψ x.1) hk (run_call hv hf) (fun w hw => (hc w hw).mono fun r w' ⟨x, h0, h1, h2⟩ => ⟨⟨x, h0⟩, h1, h2⟩) (fun x => hS x.1) (fun x => h x.1 x.2)
theorem T.pureIf {ord : List (Nat × Bool)} {p : Prop} (h : p → T P ops Q S n ord e Φ) : T P ops Q S n ord e (fun w => p ∧ Φ w) := fun a w ha hw hS => h hw.1 a w ha hw.2 hS
end
/-- The head of a region that draws its order, where the head only reads and what follows is forced. -/
def HdT (P : Program) (l : List Oper) (Q : Exit → Act → World → Prop) (n N : Nat) (ix : List Nat) (e : Env) (Φ : World → Prop) : Prop :=
  ∀ a w, Fr n e a → Φ w → wpStill P l.toArray w (fun a' => wpList P l.toArray Q (l.drop N) a' w) (ix.filterMap fun i => l.toArray[i]?) a
section
variable {P : Program} {l : List Oper} {Q : Exit → Act → World → Prop} {n N : Nat} {rest : List Nat} {e : Env} {Φ Ψ : World → Prop}
theorem Hd.val {i : Nat} (d : Nat) (v : Value) (hk : okAt l.toArray n e i d = true) (hv : ∀ w, Φ w → runAt P l.toArray e i w = .ok (.value v) w) (h : HdT P l Q n N rest ((d, v) :: e) Φ) : HdT P l Q n N (i :: rest) e Φ := by
  obtain ⟨o, ho, hd, hdn, hg, hkn⟩ := okAt_out hk
  intro a w ha hw
  have hr := hv w hw
  rw [runAt_some ho] at hr
  rw [List.filterMap_cons, ho]
  refine wpStill_step fun K hK => ?_
  rw [if_pos (wanted_of ha hg)]
  unfold Oper.still
  rw [exec_known ha hkn, hr]
  exact ⟨rfl, hK _ (h _ _ (by rw [hd]; exact ha.put hdn _) hw)⟩
theorem Hd.pure {i : Nat} (d : Nat) (v : Value) (hk : okAt l.toArray n e i d = true) (hv : ∀ w, runAt P l.toArray e i w = .ok (.value v) w) (h : HdT P l Q n N rest ((d, v) :: e) Φ) : HdT P l Q n N (i :: rest) e Φ := Hd.val d v hk (fun w _ => hv w) h
theorem Hd.pureE {i : Nat} (d : Nat) (u v : Value) (hk : okAt l.toArray n e i d = true) (hv : ∀ w, runAt P l.toArray e i w = .ok (.value u) w) (he : u = v) (h : HdT P l Q n N rest ((d, v) :: e) Φ) : HdT P l Q n N (i :: rest) e Φ := Hd.val d v hk (fun w _ => by rw [hv, he]) h
theorem Hd.load {i : Nat} (m : Bool) (d : Nat) (v : Value) (t : TypeId) (b off : Nat) (hk : okAt l.toArray n e i d = true) (hl : ldAt l.toArray e i = some (t, .pointer (some ⟨b, off, none⟩))) (hs : scalarB P t = true)
    (hc : ∀ w, Φ w → w.cell? ⟨b, off, none⟩ = some v) (h : HdT P l Q n N rest ((d, v) :: e) Φ) : HdT P l Q n N (i :: rest) e Φ := by
  refine Hd.val d v hk (fun w hw => ?_) h
  rw [run_ld hl]
  have hag : (isAgg t).run P w = .ok false w := by
    unfold scalarB at hs
    cases hu : P.underlying t with
    | none => rw [hu] at hs; cases hs
    | some d =>
      rw [hu] at hs
      unfold isAgg
      rw [Sem.run_bind, run_underlying hu w]
      cases d <;> first | rfl | cases hs
  simp [Instr.loadAt, Instr.sureAddr, loadVar, hag, Go.load, Sem.run, hc w hw]
theorem Hd.done (ord : List (Nat × Bool)) (ho : (List.range' N (l.length - N)).map (fun i => (i, false)) = ord) (h : T P l.toArray Q (fun _ => True) n ord e Φ) : HdT P l Q n N [] e Φ := by
  intro a w ha hw
  refine wpStill_nil ?_
  have h1 := h a w ha hw trivial
  rw [← ho] at h1
  have h2 := wpOps_of_run (P := P) (ops := l.toArray) (Q := Q) (List.range' N (l.length - N)) a w (fun i hi => by simp at hi ⊢; omega) h1
  have h3 := wpOps_eq_wpList (P := P) (ops := l.toArray) (Q := Q) (l.drop N) N (fun j => by simp)
  rw [List.length_drop] at h3
  rw [h3] at h2
  exact h2
theorem W.still {id : Nat} (N : Nat) (ix : List Nat) (hix : List.range N = ix) (hm : P.follows .mixedOrders = true) (hB : Region.lexTailB .any l.toArray N = true) (hN : Nat.ble N l.length = true) (hd : ∀ w, Φ w → Ψ { w with drawn := w.drawn + 1 }) (h : HdT P l Q n N ix e Ψ) : W P n e Φ (.region id l.toArray true) Q := fun a w ha hw => by
  refine wp_region_still_tail N hm hB ?_
  have h1 := h a _ ha (hd w hw)
  have e1 : (ix.filterMap fun i => l.toArray[i]?) = l.take N := by
    rw [← hix]
    have hN' : N ≤ l.length := Nat.le_of_ble_eq_true hN
    clear h1 h hB hix
    induction N with
    | zero => rfl
    | succ k ih =>
      have hk : Nat.ble k l.length = true := Nat.ble_eq_true_of_le (by omega)
      rw [List.range_succ, List.filterMap_append, ih hk (by omega), List.take_succ_eq_append_getElem (by omega)]
      simp [List.getElem?_eq_getElem (show k < l.length by omega)]
  rw [e1] at h1
  exact h1
end
end Go.Proofs.Ythhgdkodhokefaa
