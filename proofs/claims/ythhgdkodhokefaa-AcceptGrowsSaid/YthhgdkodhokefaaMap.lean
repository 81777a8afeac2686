/- A map that the call made, in the logic: entries in the order of their laying, none ever deleted. No program in sight. -/
import Derived.Laws.IdiomRangeMap
import Derived.Test.YthhgdkodhokefaaSl
namespace Go.Proofs.Ythhgdkodhokefaa
open Go Go.RowKit
set_option linter.unusedVariables false
set_option linter.unusedSectionVars false
section
variable {w0 w : World} {H : List (Nat × Obj)}
/-- One object is written anew. -/
theorem St.setO {b : Nat} {o o' : Obj} (h : St w0 ((b, o) :: H) w) : St w0 ((b, o') :: H) { w with heap := w.heap.setIfInBounds b o' } := by
  have hb := h.has (b, o) (by simp)
  have hnd := h.nodup
  have hlt : b < w.heap.size := (Array.getElem?_eq_some_iff.1 hb.2).1
  have hoth : ∀ k, k ≠ b → (w.heap.setIfInBounds b o')[k]? = w.heap[k]? := fun k hk => by rw [Array.getElem?_setIfInBounds_ne (Ne.symm hk)]
  refine ⟨h.below.trans ⟨rfl, rfl, rfl, by simp, fun k hk => hoth k (by have := hb.1; simp only at this; omega)⟩, by simpa using hnd, fun p hp => ?_⟩
  rcases List.mem_cons.1 hp with rfl | hp
  · exact ⟨hb.1, by simp [hlt]⟩
  · have hq := h.has p (List.mem_cons_of_mem _ hp)
    refine ⟨hq.1, (hoth p.1 ?_).trans hq.2⟩
    intro he
    rw [List.map_cons, List.nodup_cons] at hnd
    exact hnd.1 (by rw [← he]; exact List.mem_map_of_mem (f := (·.1)) hp)
end
/-- The entries of a map. -/
def mapAt {κ : Type} [Cel κ] : List (κ × Int) → Nat → List MapEntry
  | [], _ => []
  | x :: l, i => ⟨.agg (Cel.cs x.1), .int .i64 x.2, i⟩ :: mapAt l (i + 1)
def mapOf {κ : Type} [Cel κ] (l : List (κ × Int)) : Obj := .map (mapAt l 0).toArray l.length
section
variable {P : Program} {ops : Array Oper} {Q : Exit → Act → World → Prop} {S : World → Prop} {n : Nat} {rest : List (Nat × Bool)} {e : Env} {Φ : World → Prop}
/-- An operation by what the model carries out there. -/
theorem T.effOf {β : Type} {i : Nat} (d : Nat) (M : Sem Value) (V : β → Value) (Ψ : β → World → Prop) (hk : okAt ops n e i d = true) (hm : ∀ w, runAt P ops e i w = ((do let v ← M; Pure.pure (Next.value v)) : Sem Next).run P w) (hv : ∀ w, Φ w → ∃ x w', M.run P w = .ok (V x) w' ∧ Ψ x w') (hS : ∀ x w, Ψ x w → S w)
    (h : ∀ x, T P ops Q S n rest ((d, V x) :: e) (Ψ x)) : T P ops Q S n ((i, false) :: rest) e Φ :=
  T.eff d V Ψ hk (fun w hw => by
    obtain ⟨x, w', h1, h2⟩ := hv w hw
    exact ⟨x, w', by rw [hm, Sem.run_bind, h1]; rfl, h2⟩) hS h
theorem T.effsOf {i : Nat} (M : Sem Unit) (Ψ : World → Prop) (hk : okAt0 ops e i = true) (hm : ∀ w, runAt P ops e i w = ((do M; Pure.pure Next.skip) : Sem Next).run P w) (hv : ∀ w, Φ w → ∃ w', M.run P w = .ok () w' ∧ Ψ w') (hS : ∀ w, Ψ w → S w)
    (h : T P ops Q S n rest e Ψ) : T P ops Q S n ((i, false) :: rest) e Φ :=
  T.effs Ψ hk (fun w hw => by
    obtain ⟨w', h1, h2⟩ := hv w hw
    exact ⟨w', by rw [hm, Sem.run_bind, h1]; rfl, h2⟩) hS h
end
section
variable {κ : Type} [Cel κ] [DecidableEq κ] {P : Program} {w0 w : World} {H : List (Nat × Obj)}
/-- The first entry of a key: its place, its value. -/
def look : List (κ × Int) → κ → Option (Nat × Int)
  | [], _ => none
  | x :: l, a => if a = x.1 then some (0, x.2) else (look l a).map fun p => (p.1 + 1, p.2)
/-- What is known of a key type. -/
structure KeyTy (P : Program) (κ : Type) [Cel κ] [DecidableEq κ] (kt : TypeId) : Prop where
  eq : ∀ w (a b : κ), (Op.equal kt (.agg (Cel.cs a)) (.agg (Cel.cs b))).run P w = .ok (decide (a = b)) w
  chk : ∀ b w (a : κ), (Instr.checkKey b 10000 kt (.agg (Cel.cs a))).run P w = .ok () w
  und : ∃ fs, P.underlying kt = some (.struct fs)
  bits : ∀ a : κ, Instr.sameBits 10000 (.agg (Cel.cs a)) (.agg (Cel.cs a)) = true
theorem run_ask {kt : TypeId} (K : KeyTy P κ kt) (a : κ) : ∀ (l : List (κ × Int)) (i j : Nat), (Instr.findAsking kt (.agg (Cel.cs a)) (mapAt l i) j).run P w = .ok ((look l a).map fun p => (j + p.1, .int .i64 p.2)) w
  | [], i, j => rfl
  | x :: l, i, j => by
    unfold mapAt Instr.findAsking
    rw [Sem.run_bind, K.eq]
    unfold look
    by_cases h : a = x.1
    · simp [h]
    · simp only [h, decide_false, Result.andThen, Bool.false_eq_true, if_false]
      rw [run_ask K a l (i + 1) (j + 1)]
      cases look l a <;> simp <;> omega
theorem run_find {kt : TypeId} (K : KeyTy P κ kt) (a : κ) (l : List (κ × Int)) : (Instr.findKey kt (.agg (Cel.cs a)) (mapAt l 0)).run P w = .ok ((look l a).map fun p => (p.1, .int .i64 p.2)) w := by
  obtain ⟨fs, hu⟩ := K.und
  unfold Instr.findKey
  rw [Sem.run_bind, run_underlying hu]
  simp only [Result.andThen]
  cases l with
  | nil => rfl
  | cons x l =>
    have : Instr.findNow (.struct fs) (.agg (Cel.cs a)) (mapAt (x :: l) 0) 0 = none := rfl
    rw [this]
    have := run_ask (w := w) K a (x :: l) 0 0
    simpa using this
theorem mapAt_len (l : List (κ × Int)) : ∀ i, (mapAt l i).length = l.length := by
  induction l with
  | nil => intro i; rfl
  | cons x l ih => intro i; simp [mapAt, ih]
theorem mapAt_get (l : List (κ × Int)) : ∀ (i k : Nat) (h : k < l.length), (mapAt l i)[k]? = some ⟨.agg (Cel.cs l[k].1), .int .i64 l[k].2, i + k⟩ := by
  induction l with
  | nil => intro i k h; simp at h
  | cons x l ih =>
    intro i k h
    cases k with
    | zero => simp [mapAt]
    | succ k => simp only [mapAt, List.getElem?_cons_succ, List.getElem_cons_succ]; rw [ih (i + 1) k (by simpa using h), Nat.add_right_comm, Nat.add_assoc]
theorem run_getMap {b : Nat} {l : List (κ × Int)} (hst : St w0 ((b, mapOf l) :: H) w) : (getObj b).run P w = .ok (mapOf l) w := by
  have := (hst.has _ (List.mem_cons_self)).2
  simp only at this
  simp only [getObj, Sem.run, this]
  rfl
/-- m[k]. -/
theorem run_look {mt kt et : TypeId} (K : KeyTy P κ kt) (hu : P.underlying mt = some (.map kt et)) (hz : ∀ w, (zeroValue et).run P w = .ok (.int .i64 0) w) (a : κ) (l : List (κ × Int)) (b : Nat) (hst : St w0 ((b, mapOf l) :: H) w) :
    (Instr.lookup mt (.map (some b)) (.agg (Cel.cs a)) false).run P w = .ok (.int .i64 (((look l a).map (·.2)).getD 0)) w := by
  have hg := run_getMap (P := P) hst
  have hf := run_find (w := w) K a l
  unfold mapOf at hg
  unfold Instr.lookup
  simp only [Sem.run_bind, run_underlying hu, hg, K.chk, hf, Result.andThen, Sem.run_pure]
  cases look l a <;> simp [hz]
theorem look_some {l : List (κ × Int)} {a : κ} : ∀ {k : Nat} {v : Int}, look l a = some (k, v) → ∃ h : k < l.length, l[k] = (a, v) := by
  induction l with
  | nil => intro k v h; simp [look] at h
  | cons x l ih =>
    intro k v h
    unfold look at h
    by_cases e : a = x.1
    · rw [if_pos e] at h
      simp only [Option.some.injEq, Prod.mk.injEq] at h
      obtain ⟨rfl, rfl⟩ := h
      exact ⟨by simp, by simp [e]⟩
    · rw [if_neg e] at h
      cases hl : look l a with
      | none => rw [hl] at h; simp at h
      | some p =>
        rw [hl] at h
        simp only [Option.map_some, Option.some.injEq, Prod.mk.injEq] at h
        obtain ⟨rfl, rfl⟩ := h
        obtain ⟨h1, h2⟩ := ih (k := p.1) (v := p.2) (by rw [hl])
        exact ⟨by simpa using h1, by simpa using h2⟩
theorem mapAt_snoc (x : κ × Int) : ∀ (l : List (κ × Int)) (i : Nat), mapAt (l ++ [x]) i = mapAt l i ++ [⟨.agg (Cel.cs x.1), .int .i64 x.2, i + l.length⟩]
  | [], i => rfl
  | y :: l, i => by
    show _ :: mapAt (l ++ [x]) (i + 1) = _ :: (mapAt l (i + 1) ++ _)
    rw [mapAt_snoc x l (i + 1), List.length_cons, Nat.add_right_comm, Nat.add_assoc]
/-- The entry of a key: laid if there is none. -/
def entL (l : List (κ × Int)) (a : κ) : List (κ × Int) := match look l a with | some _ => l | none => l ++ [(a, 0)]
def entI (l : List (κ × Int)) (a : κ) : Nat := match look l a with | some p => p.1 | none => l.length
theorem modify_same {α : Type} (es : Array α) (i : Nat) (f : α → α) (h : ∀ x, es[i]? = some x → f x = x) : es.modify i f = es := by
  apply Array.ext_getElem?
  intro k
  rw [Array.getElem?_modify]
  split
  · rename_i e; subst e
    cases hk : es[i]? with
    | none => rfl
    | some x => simp [h x hk]
  · rfl
theorem run_setObj {b : Nat} {o o' : Obj} (hst : St w0 ((b, o) :: H) w) (hm : ∃ es c, o = .map es c) : (setObj b o').run P w = .ok () { w with heap := w.heap.setIfInBounds b o' } := by
  have := (hst.has _ (List.mem_cons_self)).2
  simp only at this
  obtain ⟨es, c, rfl⟩ := hm
  simp only [setObj, Sem.run, this]
/-- The address of m[k]. -/
theorem run_entOf {mt kt et : TypeId} (K : KeyTy P κ kt) (hu : P.underlying mt = some (.map kt et)) (hz : ∀ w, (zeroValue et).run P w = .ok (.int .i64 0) w) (a : κ) (l : List (κ × Int)) (b : Nat) (hst : St w0 ((b, mapOf l) :: H) w) :
    ∃ w', (Instr.mapEntry mt (.map (some b)) (.agg (Cel.cs a))).run P w = .ok (.tuple #[.int .i64 (((look l a).map (·.2)).getD 0), .int .i64 ((entI l a : Nat) : Int)]) w' ∧ St w0 ((b, mapOf (entL l a)) :: H) w' := by
  have hg := run_getMap (P := P) hst
  have hf := run_find (w := w) K a l
  have hs := fun o' => run_setObj (P := P) (o' := o') hst ⟨_, _, rfl⟩
  unfold mapOf at hg
  unfold Instr.mapEntry entI entL
  simp only [Sem.run_bind, run_underlying hu, hg, K.chk, hf, Result.andThen]
  cases hl : look l a with
  | none =>
    refine ⟨_, ?_, St.setO (o' := mapOf (l ++ [(a, 0)])) hst⟩
    simp only [Option.map_none, hz, hs, Sem.run_bind, Result.andThen, Sem.run_pure]
    simp [mapOf, mapAt_snoc, goInt]
  | some p =>
    obtain ⟨k, v⟩ := p
    obtain ⟨h1, h2⟩ := look_some hl
    refine ⟨_, ?_, St.setO (o' := mapOf l) hst⟩
    have hk := mapAt_get l 0 k h1
    simp only [h2, Nat.zero_add] at hk
    simp only [Option.map_some, List.getElem?_toArray, hk, Option.getD_some, Instr.keyThatStays, K.bits, if_true, Sem.run_bind, Sem.run_pure, Result.andThen, hs, goInt]
    rw [modify_same _ _ _ (fun x hx => by rw [List.getElem?_toArray, hk] at hx; cases hx; rfl)]
    rfl
theorem mapAt_set (y : κ × Int) : ∀ (l : List (κ × Int)) (i k : Nat) (h : k < l.length), y.1 = l[k].1 → mapAt (l.set k y) i = (mapAt l i).modify k fun e => { e with val := .int .i64 y.2 }
  | [], i, k, h, _ => by simp at h
  | x :: l, i, 0, h, e => by
    have e' : y.1 = x.1 := by simpa using e
    simp [mapAt, e']
  | x :: l, i, k + 1, h, e => by
    show _ :: mapAt (l.set k y) (i + 1) = _
    rw [mapAt_set y l (i + 1) k (by simpa using h) (by simpa using e)]
    simp [mapAt]
theorem find_born' : ∀ (l : List (κ × Int)) (i k : Nat), k < l.length → (mapAt l i).findIdx? (fun e => ((e.born : Nat) : Int) == ((i + k : Nat) : Int)) = some k
  | [], i, k, h => by simp at h
  | x :: l, i, 0, h => by unfold mapAt; rw [List.findIdx?_cons]; simp
  | x :: l, i, k + 1, h => by
    have ih := find_born' l (i + 1) k (by simpa using h)
    unfold mapAt
    rw [List.findIdx?_cons]
    have : (((i : Nat) : Int) == ((i + (k + 1) : Nat) : Int)) = false := by simp; omega
    rw [this]
    rw [show i + (k + 1) = i + 1 + k by omega, ih]
    rfl
/-- m[k] = v, the entry known. -/
theorem run_entStore {mt : TypeId} (l : List (κ × Int)) (a : κ) (v : Int) (b k : Nat) (hk : k < l.length) (hv : l[k].1 = a) (hst : St w0 ((b, mapOf l) :: H) w) :
    ∃ w', (Instr.entryStore mt (.map (some b)) (.int .i64 ((k : Nat) : Int)) (.int .i64 v)).run P w = .ok () w' ∧ St w0 ((b, mapOf (l.set k (a, v))) :: H) w' := by
  have hg := run_getMap (P := P) hst
  have hs := fun o' => run_setObj (P := P) (o' := o') hst ⟨_, _, rfl⟩
  have hf := find_born' l 0 k hk
  refine ⟨_, ?_, St.setO (o' := mapOf (l.set k (a, v))) hst⟩
  unfold mapOf at hg
  unfold Instr.entryStore
  rw [Nat.zero_add] at hf
  simp only [Sem.run_bind, hg, Result.andThen, asInt, asIntOf, List.findIdx?_toArray, hf, hs, Sem.run_pure]
  rw [mapOf, mapAt_set (a, v) l 0 k hk (by simpa using hv.symm)]
  simp
theorem run_newMap {mt : TypeId} (hst : St w0 H w) : ∃ b w', (Instr.makeMap mt none).run P w = .ok (.map (some b)) w' ∧ St w0 ((b, mapOf ([] : List (κ × Int))) :: H) w' :=
  ⟨w.heap.size, w.alloc (.map #[] 0), by simp [Instr.makeMap], hst.alloc _⟩
theorem run_rangeOf {mt kt et : TypeId} (hu : P.underlying mt = some (.map kt et)) (l : List (κ × Int)) (b : Nat) (hst : St w0 ((b, mapOf l) :: H) w) :
    ∃ x w', (Instr.range mt (.map (some b))).run P w = .ok (.pointer (some ⟨x, 0, none⟩)) w' ∧ St w0 ((x, .mapIter (some b) l.length #[] l.length) :: (b, mapOf l) :: H) w' := by
  have hg := run_getMap (P := P) hst
  unfold mapOf at hg
  exact ⟨w.heap.size, w.alloc (.mapIter (some b) l.length #[] l.length), by simp [Instr.range, run_underlying hu, hg], hst.alloc _⟩
theorem mapAt_mem {l : List (κ × Int)} {i : Nat} {e : MapEntry} (h : e ∈ mapAt l i) : ∃ k, ∃ hk : k < l.length, e = ⟨.agg (Cel.cs l[k].1), .int .i64 l[k].2, i + k⟩ := by
  obtain ⟨k, hk, he⟩ := List.mem_iff_getElem.1 h
  have hk' : k < l.length := by rw [mapAt_len] at hk; exact hk
  refine ⟨k, hk', ?_⟩
  have := mapAt_get l i k hk'
  rw [List.getElem?_eq_getElem hk] at this
  simp only [Option.some.injEq] at this
  rw [← he, this]
theorem run_nextOf {ty : TypeId} (l : List (κ × Int)) (b x : Nat) (sn : Array Nat) (hst : St w0 ((x, .mapIter (some b) l.length sn l.length) :: (b, mapOf l) :: H) w) :
    ((∀ k, k < l.length → sn.contains k = true) ∧ (Instr.next (.pointer (some ⟨x, 0, none⟩)) false ty).run P w = .ok (.tuple #[.bool false]) w) ∨
    ∃ k, ∃ hk : k < l.length, sn.contains k = false ∧ ∃ w', (Instr.next (.pointer (some ⟨x, 0, none⟩)) false ty).run P w = .ok (.tuple #[.bool true, .agg (Cel.cs l[k].1), .int .i64 l[k].2]) w' ∧ St w0 ((x, .mapIter (some b) l.length (sn.push k) l.length) :: (b, mapOf l) :: H) w' := by
  have hx := (hst.has _ (List.mem_cons_self)).2
  have hb := (hst.has (b, mapOf l) (by simp)).2
  simp only at hx hb
  unfold mapOf at hb
  have hold : ∀ e ∈ ((mapAt l 0).toArray).toList, e.born < l.length := fun e he => by
    obtain ⟨k, hk, rfl⟩ := mapAt_mem (by simpa using he)
    simp only; omega
  simp only [Instr.next, getObj, Sem.run_bind, Sem.run, hx, hb, Result.andThen, next_test_false sn _ l.length l.length hold (Nat.le_refl _), Bool.false_eq_true, if_false]
  have hmem : ∀ e ∈ (Array.filter (fun e => !sn.contains e.born) (mapAt l 0).toArray).toList, e.born < l.length := fun e he => hold e (by simp at he ⊢; exact he.1)
  have hwh : ∀ e ∈ (Array.filter (fun e => !sn.contains e.born) (mapAt l 0).toArray).toList, ∃ k, ∃ hk : k < l.length, sn.contains k = false ∧ e = ⟨.agg (Cel.cs l[k].1), .int .i64 l[k].2, k⟩ := fun e he => by
    simp only [Array.toList_filter, List.mem_filter, Bool.not_eq_true'] at he
    obtain ⟨k, hk, e2⟩ := mapAt_mem (by simpa using he.1)
    rw [Nat.zero_add] at e2
    refine ⟨k, hk, ?_, e2⟩
    have := he.2
    rw [e2] at this
    exact this
  have hnone : (Array.filter (fun e => !sn.contains e.born) (mapAt l 0).toArray).size = 0 → ∀ k, k < l.length → sn.contains k = true := fun h0 k hk => by
    have e0 := Array.eq_empty_of_size_eq_zero h0
    rw [Array.filter_eq_empty_iff] at e0
    have hm : (⟨.agg (Cel.cs l[k].1), .int .i64 l[k].2, k⟩ : MapEntry) ∈ mapAt l 0 := by
      have := List.mem_of_getElem? (mapAt_get l 0 k hk)
      rwa [Nat.zero_add] at this
    have := e0 _ (by simpa using hm)
    simpa using this
  generalize Array.filter (fun e => !sn.contains e.born) (mapAt l 0).toArray = L at hmem hwh hnone ⊢
  have e1 : L.filter (fun x => decide (x.born < l.length)) = L := Array.filter_eq_self.2 (fun x hx => by simpa using hmem x (by simpa using hx))
  have e2 : L.filter (fun x => decide (x.born ≥ l.length)) = #[] := by
    rw [Array.filter_eq_empty_iff]
    intro x hx
    have := hmem x (by simpa using hx)
    simp
    omega
  simp only [e1, e2, Array.append_empty]
  by_cases h0 : L.size = 0
  · left
    refine ⟨hnone h0, ?_⟩
    have : L = #[] := Array.eq_empty_of_size_eq_zero h0
    subst this
    simp [choose, Sem.run, Question.forced]
  · right
    have hne : L.isEmpty = false := by simp [Array.isEmpty, h0]
    simp only [hne, Bool.false_eq_true, if_false, Array.empty_append, Array.size_map]
    have hch : ∃ (j : Nat) (w1 : World), j < L.size ∧ St w0 ((x, .mapIter (some b) l.length sn l.length) :: (b, mapOf l) :: H) w1 ∧ (choose (Question.mapNext L.size)).run P w = .ok j w1 := by
      by_cases hf : L.size ≤ 1
      · exact ⟨0, w, by omega, hst, by simp [choose, Sem.run, Question.forced, hf]⟩
      · exact ⟨_, w.drew, Nat.mod_lt _ (by omega), hst.drew, by
          simp only [choose, Sem.run, Question.forced, decide_eq_true_eq, hf, if_false, Question.cut]
          rfl⟩
    obtain ⟨j, w1, hj, hst1, hrun⟩ := hch
    obtain ⟨k, hk, hk1, hk2⟩ := hwh L[j] (by simp)
    refine ⟨k, hk, hk1, _, ?_, St.setO (o' := .mapIter (some b) l.length (sn.push k) l.length) hst1⟩
    have hx1 := (hst1.has _ (List.mem_cons_self)).2
    simp only at hx1
    have hset : ∀ o', (setObj x o').run P w1 = .ok () { w1 with heap := w1.heap.setIfInBounds x o' } := fun o' => by
      simp only [setObj, Sem.run, hx1]
    simp only [hrun, Array.getElem?_map, Array.getElem?_eq_getElem hj, Option.map_some, Sem.run_bind, hset, Result.andThen, hk2]
    rfl
theorem find_born2 : ∀ (l : List (κ × Int)) (i k : Nat) (h : k < l.length), (mapAt l i).find? (fun e => e.born == i + k) = some ⟨.agg (Cel.cs l[k].1), .int .i64 l[k].2, i + k⟩
  | [], i, k, h => by simp at h
  | x :: l, i, 0, h => by unfold mapAt; rw [List.find?_cons]; simp
  | x :: l, i, k + 1, h => by
    have ih := find_born2 l (i + 1) k (by simpa using h)
    unfold mapAt
    rw [List.find?_cons]
    have : ((i : Nat) == i + (k + 1)) = false := by simp
    simp only [this]
    rw [show i + (k + 1) = i + 1 + k by omega, ih]
    simp
theorem run_entryOf (l : List (κ × Int)) (b x k : Nat) (hk : k < l.length) (sn : Array Nat) (hst : St w0 ((x, .mapIter (some b) l.length (sn.push k) l.length) :: (b, mapOf l) :: H) w) :
    (Instr.entry (.pointer (some ⟨x, 0, none⟩))).run P w = .ok (.tuple #[.agg (Cel.cs l[k].1), .int .i64 l[k].2]) w := by
  have hx := (hst.has _ (List.mem_cons_self)).2
  have hb := (hst.has (b, mapOf l) (by simp)).2
  simp only at hx hb
  unfold mapOf at hb
  have hf := find_born2 l 0 k hk
  rw [Nat.zero_add] at hf
  have hf' : (mapAt l 0).toArray.find? (fun e => e.born == k) = some ⟨.agg (Cel.cs l[k].1), .int .i64 l[k].2, k⟩ := by simpa using hf
  simp only [Instr.entry, getObj, Sem.run_bind, Sem.run, hx, hb, Result.andThen, Array.back?_push, bne_self_eq_false, Bool.false_eq_true, if_false, hf']
  rfl
end
end Go.Proofs.Ythhgdkodhokefaa
