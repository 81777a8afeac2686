/- The exchange of two elements of a row, as reflectlite's literal does it, in the logic. No program in sight. -/
import Derived.Lib.ReflectliteSwap
import Derived.Laws.CopyRow
import Derived.Test.YthhgdkodhokefaaSort
namespace Go.Proofs.Ythhgdkodhokefaa
open Go Go.RowKit Go.Lib Go.Extern Go.Extern.Rtype
set_option linter.unusedVariables false
section
variable {α : Type} [Cel α] {P : Program}
theorem cells_take (l : List α) (i : Nat) (h : i ≤ l.length) : (cells l).take (i * Cel.sz α) = cells (l.take i) := by
  conv => lhs; rw [← List.take_append_drop i l, cells_app]
  rw [List.take_left' (by rw [cells_len, List.length_take, Nat.min_eq_left h])]
theorem cells_drop (l : List α) (i : Nat) (h : i ≤ l.length) : (cells l).drop (i * Cel.sz α) = cells (l.drop i) := by
  conv => lhs; rw [← List.take_append_drop i l, cells_app]
  rw [List.drop_left' (by rw [cells_len, List.length_take, Nat.min_eq_left h])]
theorem cells_set (l : List α) (i : Nat) (v : α) (h : i < l.length) : (cells l).take (i * Cel.sz α) ++ (Cel.cs v).toList ++ (cells l).drop (i * Cel.sz α + Cel.sz α) = cells (l.set i v) := by
  have e : i * Cel.sz α + Cel.sz α = (i + 1) * Cel.sz α := (Nat.succ_mul _ _).symm
  rw [e, cells_take l i (by omega), cells_drop l (i + 1) h, List.set_eq_take_append_cons_drop, if_pos h, cells_app]
  simp [cells]
theorem rowb_set (d : Array α) (tail : List Value) (i : Nat) (v : α) (h : i < d.size) :
    (rowb d tail).toList.take (i * Cel.sz α) ++ (Cel.cs v).toList ++ (rowb d tail).toList.drop (i * Cel.sz α + Cel.sz α) = (rowb (d.setIfInBounds i v) tail).toList := by
  have hl : i < d.toList.length := by simpa using h
  have e : i * Cel.sz α + Cel.sz α ≤ (cells d.toList).length := by rw [cells_len, ← Nat.succ_mul]; exact Nat.mul_le_mul_right _ hl
  simp only [rowb]
  rw [List.take_append_of_le_length (by omega), List.drop_append_of_le_length e, ← List.append_assoc, cells_set _ _ _ hl, Array.toList_setIfInBounds]
theorem rowb_size (d : Array α) (tail : List Value) : (rowb d tail).size = d.size * Cel.sz α + tail.length := by
  simp [rowb, cells_len]
theorem rowb_get [Inhabited α] (d : Array α) (tail : List Value) (i k : Nat) (h : i < d.size) {v : Value} (hv : (Cel.cs d[i]!)[k]? = some v) : (rowb d tail)[i * Cel.sz α + k]? = some v := by
  have hk : k < Cel.sz α := by rw [← Cel.size d[i]!]; exact (Array.getElem?_eq_some_iff.1 hv).1
  have hl : i < d.toList.length := by simpa using h
  have e : i * Cel.sz α + Cel.sz α ≤ (cells d.toList).length := by rw [cells_len, ← Nat.succ_mul]; exact Nat.mul_le_mul_right _ hl
  have g1 := cells_get d.toList i k hl hk
  simp only [rowb, List.getElem?_toArray]
  rw [List.getElem?_append_left (by omega), g1, ← hv]
  simp [getElem!_pos d i h]
theorem run_storeRow (e : TypeId) (ie : TypeInfo) (hie : P.info? e = some ie) (hsz : ie.size = Cel.sz α) (g i : Nat) (ty : TypeId) (d : Array α) (tail : List Value) (v : α) (h : i < d.size) (w : World) (hg : w.heap[g]? = some (.cells (rowb d tail) ty (0, 0))) :
    (storeVar e ⟨g, i * Cel.sz α, none⟩ (.agg (Cel.cs v))).run P w = .ok () (w.setRow g (rowb (d.setIfInBounds i v) tail)) := by
  have hl : i * Cel.sz α + Cel.sz α ≤ d.size * Cel.sz α := by rw [← Nat.succ_mul]; exact Nat.mul_le_mul_right _ h
  have hst := run_storeCells_at P g (i * Cel.sz α) ty (Cel.cs v).toList 0 (rowb d tail) w hg (by rw [rowb_size, Array.length_toList, Cel.size]; omega) (Cel.one v)
  simp only [Nat.add_zero, Array.length_toList, Cel.size] at hst
  rw [rowb_set d tail i v h, Array.toArray_toList] at hst
  simp [storeVar, Value.cells, sizeOf, rl_info e ie hie, hsz, Cel.size, hst, Result.andThen]
theorem run_loadRow [Inhabited α] (e : TypeId) (ie : TypeInfo) (hie : P.info? e = some ie) (hsz : ie.size = Cel.sz α) (hagg : ∀ w, (isAgg e).run P w = .ok true w) (g i : Nat) (ty : TypeId) (d : Array α) (tail : List Value) (h : i < d.size) (w : World) (hg : w.heap[g]? = some (.cells (rowb d tail) ty (0, 0))) :
    (loadVar e ⟨g, i * Cel.sz α, none⟩).run P w = .ok (.agg (Cel.cs d[i]!)) w := by
  have := rl_loadVar_cells (P := P) e ie hie hagg g (i * Cel.sz α) (Cel.cs d[i]!).toList (by rw [Array.length_toList, Cel.size, hsz]) w (fun k v hk => by
    have := rowb_get d tail i k h (v := v) (by simpa using hk)
    simp [World.cell?, hg, this])
  simpa using this
theorem run_swapRow [Inhabited α] {w00 : World} {g n c : Nat} {ty : TypeId} {tail : List Value} {H : List (Nat × Obj)} (gb : Bool) (e : TypeId) (ie : TypeInfo) (hie : P.info? e = some ie) (hsz : ie.size = Cel.sz α) (hagg : ∀ w, (isAgg e).run P w = .ok true w) (d : Array α) (hd : d.size = n) (i j : Nat) (hi : i < n) (hj : j < n) (w : World) (hst : St w00 ((g, .cells (rowb d tail) ty (0, 0)) :: H) w) :
    ∃ w', (ReflectliteSwapper.swap gb #[.int .i64 i, .int .i64 j, .slice (some ⟨g, 0, none⟩) n c, typeHandle P e]).run P w = .ok (.tuple #[]) w' ∧ St w00 ((g, .cells (rowb (Sort.swp d i j) tail) ty (0, 0)) :: H) w' := by
  have hg := (hst.has _ (List.mem_cons_self)).2
  simp only at hg
  have s1 := St.write (H1 := []) (c' := rowb (d.setIfInBounds i d[j]!) tail) hst
  simp only [List.nil_append] at s1
  have hg1 := (s1.has _ (List.mem_cons_self)).2
  simp only at hg1
  have s2 := St.write (H1 := []) (c' := rowb (Sort.swp d i j) tail) s1
  simp only [List.nil_append] at s2
  refine ⟨_, ?_, s2⟩
  have l1 := run_loadRow (P := P) e ie hie hsz hagg g i ty d tail (by omega) w hg
  have l2 := run_loadRow (P := P) e ie hie hsz hagg g j ty d tail (by omega) w hg
  have t1 := run_storeRow (P := P) e ie hie hsz g i ty d tail d[j]! (by omega) w hg
  have t2 := run_storeRow (P := P) e ie hie hsz g j ty (d.setIfInBounds i d[j]!) tail d[i]! (by simp; omega) _ hg1
  have i0 : ¬ ((i : Int) < 0) := by omega
  have i1 : ¬ ((i : Int) ≥ n) := by omega
  have j0 : ¬ ((j : Int) < 0) := by omega
  have j1 : ¬ ((j : Int) ≥ n) := by omega
  have t2' : (storeVar e ⟨g, j * Cel.sz α, none⟩ (.agg (Cel.cs d[i]!))).run P (w.setRow g (rowb (d.setIfInBounds i d[j]!) tail)) = .ok () ((w.setRow g (rowb (d.setIfInBounds i d[j]!) tail)).setRow g (rowb (Sort.swp d i j) tail)) := t2
  rw [rl_swap]
  cases gb <;> simp [i0, i1, j0, j1, ofHandle, handleType, typeHandle, ReflectliteSwapper.exchange, sizeOf, rl_info e ie hie, hsz, Addr.add_lit, l1, l2, t1, t2', Result.andThen]
end
section
variable {P : Program} {ops : Array Oper} {Q : Exit → Act → World → Prop} {S : World → Prop} {n : Nat} {rest : List (Nat × Bool)} {e : Env} {Φ : World → Prop}
/-- A call that the model carries out at once, its result known up to a ghost. -/
theorem T.callVG {β : Type} {i : Nat} (d : Nat) (f : FuncId) (args : Array Value) (V : β → Value) (Ψ : β → World → Prop) (hk : okAt ops n e i d = true) (hv : callAt ops e i = some (f, args)) (hr : ∀ w, Φ w → ∃ x w', (callFunc f args).run P w = .ok (.value (V x)) w' ∧ Ψ x w') (hS : ∀ x w, Ψ x w → S w)
    (h : ∀ x, T P ops Q S n rest ((d, V x) :: e) (Ψ x)) : T P ops Q S n ((i, false) :: rest) e Φ := by
  refine T.eff (β := β) d V Ψ hk (fun w hw => ?_) hS h
  obtain ⟨x, w', h1, h2⟩ := hr w hw
  refine ⟨x, w', ?_, h2⟩
  unfold callAt at hv
  unfold runAt
  cases ho : ops[i]? with
  | none => rw [ho] at hv; cases hv
  | some o =>
    rw [ho] at hv
    simp only [Option.map_some] at hv
    split at hv
    · rename_i g xs ts heq
      split at hv
      · rename_i k first captured hf'
        simp only [Option.some.injEq, Prod.mk.injEq] at hv
        obtain ⟨rfl, rfl⟩ := hv
        unfold execOp
        simp only [Option.some.inj heq, resolve, hf', Deferred.ofValue, invoke, Sem.run_bind, Sem.run_pure, Result.andThen_ok]
        exact h1
      · cases hv
    · cases hv
end
end Go.Proofs.Ythhgdkodhokefaa
