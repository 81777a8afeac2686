/- x[j:], scopes and labels, in the logic. No program in sight. -/
import Derived.Scope
import Derived.Test.YthhgdkodhokefaaSwap
namespace Go.Proofs.Ythhgdkodhokefaa
open Go Go.RowKit
set_option linter.unusedVariables false
/-- Where x[j:] begins. -/
def offA (A : Option Addr) (c j sz : Nat) : Option Addr := if c = j then A else A.map fun x => x.add (j * sz)
section
variable {P : Program} {ops : Array Oper} {Q : Exit → Act → World → Prop} {S : World → Prop} {n : Nat} {rest : List (Nat × Bool)} {e : Env} {Φ : World → Prop} {c : Code}
theorem T.sliceFrom {i : Nat} {m : Bool} (d : Nat) (t el sz : Nat) (A : Option Addr) (len c : Nat) (k : Int) (j m' : Nat) (hk : okAt ops n e i d = true) (hx : slAt ops e i = some (t, .slice A len c, some (.int .i64 k), none)) (ht : P.underlying t = some (.slice el))
    (hi : (P.info? el).map (·.size) = some sz) (hj : k = (j : Int)) (hlt : j ≤ len) (hm' : len - j = m') (h : T P ops Q S n rest ((d, .slice (offA A c j sz) m' (c - j)) :: e) Φ) : T P ops Q S n ((i, m) :: rest) e Φ := by
  subst hm'
  refine T.pure d _ hk (fun w => ?_) h
  unfold slAt at hx
  unfold runAt
  cases ho : ops[i]? with
  | none => rw [ho] at hx; cases hx
  | some o =>
    rw [ho] at hx
    simp only [Option.map_some] at hx
    split at hx
    · rename_i t' x lo hi' heq
      simp only [Option.some.injEq, Prod.mk.injEq] at hx
      obtain ⟨h1, h2, h3, h4⟩ := hx
      unfold execOp
      simp only [Option.some.inj heq, h1, h2, h3, h4, Option.map_none]
      subst hj
      cases hq : P.info? el with
      | none => rw [hq] at hi; cases hi
      | some ti =>
        have hsz : ti.size = sz := by simpa [hq] using hi
        simp [Instr.sliceAt, Instr.slice, Instr.sliceBounds, Instr.sliceBound, asIntOf, run_underlying ht, sizeOf, typeInfo, hq, hlt, hsz, offA]
    · cases hx
theorem W.scope (h : W P n e Φ c (Exit.noGoto Q)) : W P n e Φ (.scope c) Q := fun a w ha hw => wp_scope_straight (h a w ha hw)
theorem W.label {l : Nat} (h : QN n e Φ Q .normal) : W P n e Φ (.label l) Q := fun a w ha hw => wp_label (h a w ha hw)
theorem QN.scopeNormal (h : QN n e Φ Q .normal) : QN n e Φ (Exit.noGoto Q) .normal := h
theorem QN.scopeExit {id : Nat} (h : QN n e Φ Q (.exit id)) : QN n e Φ (Exit.noGoto Q) (.exit id) := h
theorem QN.scopeRet (h : QN n e Φ Q .ret) : QN n e Φ (Exit.noGoto Q) .ret := h
theorem NoPanic.noGoto (h : NoPanic Q) : NoPanic (Exit.noGoto Q) := h
end
section
variable {α : Type} [Cel α] {A : Option Addr} {l : List α} {Φ : World → Prop}
theorem Arr.drop (h : Arr Φ A l) (c j : Nat) (hc : l.length ≤ c) : Arr Φ (offA A c j (Cel.sz α)) (l.drop j) := by
  intro k hk
  rw [List.length_drop] at hk
  obtain ⟨b, off, hA, hr⟩ := h (j + k) (by omega)
  refine ⟨b, off + j * Cel.sz α, ?_, fun w hw => ?_⟩
  · unfold offA
    rw [if_neg (by omega), hA]
    simp [Addr.add]
  · have := hr w hw
    rw [List.getElem_drop]
    rw [Nat.add_mul, ← Nat.add_assoc] at this
    exact this
end
end Go.Proofs.Ythhgdkodhokefaa
