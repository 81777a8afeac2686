/- A region that draws its order, walked in one order: operations that yield their value in every world that meets S are taken first; the others are carried out where they alone are ready. -/
import Derived.OrdersHeld
import Derived.Tactics
namespace Go.Proofs.Ythhgdkodhokefaa
open Go
set_option linter.unusedVariables false

section
variable {P : Program} {ops : Array Oper} {Q : Exit → Act → World → Prop} {S : World → Prop}
/-- The walk in one order. -/
def runOrd (P : Program) (ops : Array Oper) (Q : Exit → Act → World → Prop) (S : World → Prop) : List (Nat × Bool) → Act → World → Prop
  | [], a, w => Q .normal a w
  | (i, true) :: rest, a, w => ∀ o, ops[i]? = some o → ∃ v, YieldsIf P ops S o v a ∧ runOrd P ops Q S rest (a.put o.dst v) w
  | (i, false) :: rest, a, w => ∀ o, ops[i]? = some o → wpList P ops (Exit.then (fun a' w' => S w' ∧ runOrd P ops Q S rest a' w') Q) [o] a w
/-- May the order be walked so? -/
def okOrd (ops : Array Oper) : List (Nat × Bool) → Array Bool → Bool
  | [], listed => (Region.ready .any ops listed).isEmpty
  | (i, true) :: rest, listed => Region.free .any ops listed i && (Region.ready .any ops listed).contains i && ops[i]?.isSome && okOrd ops rest (listed.setIfInBounds i true)
  | (i, false) :: rest, listed => (Region.ready .any ops listed == [i]) && ops[i]?.isSome && okOrd ops rest (listed.setIfInBounds i true)
theorem upon_then (o : Oper) (a : Act) (next K : Act → World → Prop) (r : Result Next) : o.upon P a next (Exit.then K Q) r = o.upon P a next Q r := by
  cases r with
  | ok n w' => cases n <;> rfl
  | halt h w' => cases h <;> rfl
theorem anyH_of_run (hs : Region.noSelect ops = true) (hQ : ∀ (d : Option Tmp) (v : Value) c a w, Q (.panic c) (Act.put a d v) w → Q (.panic c) a w) :
    ∀ (ord : List (Nat × Bool)) (listed : Array Bool) (a : Act) (w : World), okOrd ops ord listed = true → S w → runOrd P ops Q S ord a w → wpAnyH P .any ops Q S ord.length listed a w
  | [], listed, a, w, hok, hS, h => by
    simp only [okOrd, List.isEmpty_iff] at hok
    exact wpAnyH_done hok h _
  | (i, true) :: rest, listed, a, w, hok, hS, h => by
    simp only [okOrd, Bool.and_eq_true] at hok
    obtain ⟨⟨⟨h1, h2⟩, h3⟩, h4⟩ := hok
    obtain ⟨o, ho⟩ := Option.isSome_iff_exists.1 h3
    obtain ⟨v, hy, hr⟩ := h o ho
    exact wpAnyH_take ho hs h1 h2 (fun c a w => hQ _ _ c a w) hy hS (anyH_of_run hs hQ rest _ _ w h4 hS hr)
  | (i, false) :: rest, listed, a, w, hok, hS, h => by
    simp only [okOrd, Bool.and_eq_true] at hok
    obtain ⟨⟨h1, h3⟩, h4⟩ := hok
    obtain ⟨o, ho⟩ := Option.isSome_iff_exists.1 h3
    refine wpAnyH_all (rs := [i]) (by simpa using h1) (by simp) ?_
    intro i' hi'
    simp only [List.mem_singleton] at hi'
    subst hi'
    have hw := h o ho
    unfold wpOp
    simp only [ho]
    unfold wpList at hw
    split
    · rename_i hwd
      rw [if_pos hwd] at hw
      rcases hw with hw | ⟨hw1, hw2⟩
      · refine .inl ?_
        unfold Oper.wp at hw ⊢
        rw [upon_then] at hw
        refine Oper.wp_mono (K := wpList P ops (Exit.then (fun a' w' => S w' ∧ runOrd P ops Q S rest a' w') Q) []) (fun a' w' hk => ?_) hw
        have hk' : S w' ∧ runOrd P ops Q S rest a' w' := hk
        exact ⟨hk'.1, anyH_of_run hs hQ rest _ a' w' h4 hk'.1 hk'.2⟩
      · exact .inr ⟨hw1, hw2⟩
    · rename_i hwd
      rw [if_neg hwd] at hw
      have hk' : S w ∧ runOrd P ops Q S rest (a.put o.dst undef) w := hw
      exact ⟨hk'.1, anyH_of_run hs hQ rest _ _ w h4 hk'.1 hk'.2⟩
theorem runOrd_take {i : Nat} {rest : List (Nat × Bool)} {o : Oper} {a : Act} {w : World} (ho : ops[i]? = some o) (v : Value) (hy : YieldsIf P ops S o v a) (h : runOrd P ops Q S rest (a.put o.dst v) w) : runOrd P ops Q S ((i, true) :: rest) a w := fun o' ho' => by
  rw [ho] at ho'
  cases ho'
  exact ⟨v, hy, h⟩
theorem runOrd_run {i : Nat} {rest : List (Nat × Bool)} {o : Oper} {a : Act} {w : World} (ho : ops[i]? = some o) (h : wpList P ops (Exit.then (fun a' w' => S w' ∧ runOrd P ops Q S rest a' w') Q) [o] a w) : runOrd P ops Q S ((i, false) :: rest) a w := fun o' ho' => by
  rw [ho] at ho'
  cases ho'
  exact h
theorem yields_run {o : Oper} {v : Value} {a : Act} (hw : Region.wanted o (yielded ops a.tmps) = true) (hv : ∀ w, S w → (execOp a.eval o).run P w = .ok (.value v) w) : YieldsIf P ops S o v a := .inl ⟨hw, hv⟩
theorem yields_not {o : Oper} {a : Act} (hw : Region.wanted o (yielded ops a.tmps) = false) : YieldsIf P ops S o undef a := .inr ⟨hw, rfl⟩
/-- The law. -/
theorem wp_region_order {id : Nat} {a : Act} {w : World} (S : World → Prop) (ord : List (Nat × Bool)) (hm : P.follows .mixedOrders = true) (hB : (Region.noSelect ops && okOrd ops ord (Array.replicate ops.size false) && (ord.length == ops.size)) = true)
    (hQ : ∀ (d : Option Tmp) (v : Value) c a w, Q (.panic c) (Act.put a d v) w → Q (.panic c) a w) (hS : S { w with drawn := w.drawn + 1 })
    (h : runOrd P ops Q S ord a { w with drawn := w.drawn + 1 }) : (Code.region id ops true).wp P Q a w := by
  simp only [Bool.and_eq_true, beq_iff_eq] at hB
  obtain ⟨⟨h1, h2⟩, h3⟩ := hB
  refine wp_region_held (S := S) hm ?_
  rw [← h3]
  rw [h3]
  have := anyH_of_run (P := P) (S := S) h1 hQ ord _ a _ h2 hS h
  rw [h3] at this
  exact this
end
end Go.Proofs.Ythhgdkodhokefaa
