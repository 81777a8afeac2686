/- Maps whose entries may be deleted: entries with the time of their birth. No program in sight but the key type of votes. -/
import Derived.Test.YtphnfhonmbbddaaVl
namespace Go.Proofs.Ytphnfhonmbbddaa
open Go Go.RowKit
set_option linter.unusedVariables false
set_option linter.unusedSectionVars false
/-- A map: entries (key, value, birth) and the clock. -/
structure MB (κ : Type) where
  l : List (κ × Int × Nat)
  c : Nat
section
variable {κ : Type} [Cel κ] [DecidableEq κ]
def entB (x : κ × Int × Nat) : MapEntry := ⟨.agg (Cel.cs x.1), .int .i64 x.2.1, x.2.2⟩
def MB.obj (M : MB κ) : Obj := .map (M.l.map entB).toArray M.c
def MB.new : MB κ := ⟨[], 0⟩
def MB.keys (M : MB κ) : List κ := M.l.map (·.1)
def lookM : List (κ × Int × Nat) → κ → Option (Nat × Int)
  | [], _ => none
  | x :: l, a => if a = x.1 then some (0, x.2.1) else (lookM l a).map fun p => (p.1 + 1, p.2)
def MB.upd (M : MB κ) (a : κ) (v : Int) : MB κ := match lookM M.l a with | some p => ⟨M.l.modify p.1 (fun e => (a, v, e.2.2)), M.c⟩ | none => ⟨M.l ++ [(a, v, M.c)], M.c + 1⟩
def MB.del (M : MB κ) (a : κ) : MB κ := match lookM M.l a with | some p => ⟨M.l.eraseIdx p.1, M.c⟩ | none => M
structure MB.Ok (M : MB κ) : Prop where
  keys : (M.l.map (·.1)).Nodup
  births : (M.l.map (·.2.2)).Nodup
  old : ∀ x ∈ M.l, x.2.2 < M.c
theorem MB.Ok.new : (MB.new : MB κ).Ok := ⟨by simp [MB.new], by simp [MB.new], by simp [MB.new]⟩
theorem lookM_some {l : List (κ × Int × Nat)} {a : κ} : ∀ {k : Nat} {v : Int}, lookM l a = some (k, v) → ∃ h : k < l.length, l[k].1 = a := by
  induction l with
  | nil => intro k v h; simp [lookM] at h
  | cons x l ih =>
    intro k v h
    unfold lookM at h
    by_cases e : a = x.1
    · rw [if_pos e] at h
      simp only [Option.some.injEq, Prod.mk.injEq] at h
      obtain ⟨rfl, rfl⟩ := h
      exact ⟨by simp, by simp [e]⟩
    · rw [if_neg e] at h
      cases hl : lookM l a with
      | none => rw [hl] at h; simp at h
      | some p =>
        rw [hl] at h
        simp only [Option.map_some, Option.some.injEq, Prod.mk.injEq] at h
        obtain ⟨rfl, rfl⟩ := h
        obtain ⟨h1, h2⟩ := ih (k := p.1) (v := p.2) (by rw [hl])
        exact ⟨by simpa using h1, by simpa using h2⟩
theorem lookM_none {l : List (κ × Int × Nat)} {a : κ} : lookM l a = none ↔ a ∉ l.map (·.1) := by
  induction l with
  | nil => simp [lookM]
  | cons x l ih =>
    unfold lookM
    by_cases e : a = x.1
    · simp [e]
    · rw [if_neg e]
      simp only [Option.map_eq_none_iff, ih, List.map_cons, List.mem_cons, not_or]
      exact ⟨fun h => ⟨e, h⟩, fun h => h.2⟩
theorem modify_map {α β : Type} (g : α → β) (f : α → α) : ∀ (l : List α) (k : Nat), (∀ h : k < l.length, g (f l[k]) = g l[k]) → (l.modify k f).map g = l.map g
  | [], k, _ => by simp
  | x :: l, 0, h => by
    have h0 : g (f x) = g x := h (by simp)
    simp [h0]
  | x :: l, k + 1, h => by
    simp only [List.modify_succ_cons, List.map_cons, List.cons.injEq, true_and]
    exact modify_map g f l k fun hk => by have := h (by simpa using hk); simpa using this
theorem MB.upd_ok {M : MB κ} (h : M.Ok) (a : κ) (v : Int) : (M.upd a v).Ok := by
  unfold MB.upd
  cases hl : lookM M.l a with
  | none =>
    have hn := lookM_none.1 hl
    refine ⟨?_, ?_, ?_⟩
    · simp only [List.map_append, List.map_cons, List.map_nil]
      rw [List.nodup_append]
      exact ⟨h.keys, by simp, fun x hx y hy e => hn (by simp at hy; rw [← hy, ← e]; exact hx)⟩
    · simp only [List.map_append, List.map_cons, List.map_nil]
      rw [List.nodup_append]
      refine ⟨h.births, by simp, fun x hx y hy e => ?_⟩
      obtain ⟨z, hz, rfl⟩ := List.mem_map.1 hx
      have := h.old z hz
      simp at hy
      omega
    · intro x hx
      simp only [List.mem_append, List.mem_singleton] at hx
      rcases hx with hx | rfl
      · have := h.old x hx; show _ < M.c + 1; omega
      · show M.c < M.c + 1; omega
  | some p =>
    obtain ⟨k, u⟩ := p
    obtain ⟨hk, e⟩ := lookM_some hl
    refine ⟨?_, ?_, ?_⟩
    · show ((M.l.modify k _).map _).Nodup
      rw [modify_map (fun x : κ × Int × Nat => x.1) _ _ _ (fun _ => e.symm)]; exact h.keys
    · show ((M.l.modify k _).map _).Nodup
      rw [modify_map (fun x : κ × Int × Nat => x.2.2) _ _ _ (fun _ => rfl)]; exact h.births
    · intro x hx
      have hx' : x.2.2 ∈ (M.l.modify k (fun e => (a, v, e.2.2))).map (·.2.2) := List.mem_map_of_mem (f := (·.2.2)) hx
      rw [modify_map (fun x : κ × Int × Nat => x.2.2) _ _ _ (fun _ => rfl)] at hx'
      obtain ⟨z, hz, e2⟩ := List.mem_map.1 hx'
      rw [← e2]; exact h.old z hz
theorem MB.upd_keys {M : MB κ} (a : κ) (v : Int) (x : κ) : x ∈ (M.upd a v).keys ↔ x = a ∨ x ∈ M.keys := by
  unfold MB.upd MB.keys
  cases hl : lookM M.l a with
  | none => simp only [List.map_append, List.map_cons, List.map_nil, List.mem_append, List.mem_singleton]; exact Or.comm
  | some p =>
    obtain ⟨k, u⟩ := p
    obtain ⟨hk, e⟩ := lookM_some hl
    simp only
    rw [modify_map (fun x : κ × Int × Nat => x.1) _ _ _ (fun _ => e.symm)]
    refine ⟨.inr, fun h => h.elim (fun h => ?_) id⟩
    rw [h, ← e]
    exact List.mem_map_of_mem (f := (·.1)) (List.getElem_mem hk)
theorem nodup_eraseIdx_map {α β : Type} (g : α → β) (l : List α) (k : Nat) (h : (l.map g).Nodup) : ((l.eraseIdx k).map g).Nodup := List.Pairwise.sublist ((List.eraseIdx_sublist l k).map g) h
theorem mem_erase_key : ∀ (l : List (κ × Int × Nat)) (k : Nat) (hk : k < l.length), (l.map (·.1)).Nodup → ∀ x, x ∈ (l.eraseIdx k).map (·.1) ↔ x ∈ l.map (·.1) ∧ x ≠ l[k].1
  | [], k, hk, _, x => by simp at hk
  | y :: l, 0, hk, hn, x => by
    rw [List.map_cons, List.nodup_cons] at hn
    simp only [List.eraseIdx_zero, List.tail_cons, List.map_cons, List.mem_cons, List.getElem_cons_zero]
    constructor
    · intro h; exact ⟨.inr h, fun e => hn.1 (e ▸ h)⟩
    · rintro ⟨h | h, h2⟩
      · exact absurd h h2
      · exact h
  | y :: l, k + 1, hk, hn, x => by
    rw [List.map_cons, List.nodup_cons] at hn
    have ih := mem_erase_key l k (by simpa using hk) hn.2 x
    simp only [List.eraseIdx_cons_succ, List.map_cons, List.mem_cons, List.getElem_cons_succ, ih]
    constructor
    · rintro (h | ⟨h, h2⟩)
      · exact ⟨.inl h, fun e => hn.1 (by rw [← h, e]; exact List.mem_map_of_mem (f := fun x : κ × Int × Nat => x.1) (List.getElem_mem _))⟩
      · exact ⟨.inr h, h2⟩
    · rintro ⟨h | h, h2⟩
      · exact .inl h
      · exact .inr ⟨h, h2⟩
theorem map_eraseIdx' {α β : Type} (g : α → β) : ∀ (l : List α) (k : Nat), (l.map g).eraseIdx k = (l.eraseIdx k).map g
  | [], _ => rfl
  | _ :: _, 0 => rfl
  | x :: l, k + 1 => by simp [map_eraseIdx' g l k]
theorem MB.del_ok {M : MB κ} (h : M.Ok) (a : κ) : (M.del a).Ok := by
  unfold MB.del
  cases hl : lookM M.l a with
  | none => exact h
  | some p => exact ⟨nodup_eraseIdx_map _ _ _ h.keys, nodup_eraseIdx_map _ _ _ h.births, fun x hx => h.old x (List.mem_of_mem_eraseIdx hx)⟩
theorem MB.del_keys {M : MB κ} (h : M.Ok) (a : κ) (x : κ) : x ∈ (M.del a).keys ↔ x ∈ M.keys ∧ x ≠ a := by
  unfold MB.del MB.keys
  cases hl : lookM M.l a with
  | none =>
    have hn := lookM_none.1 hl
    exact ⟨fun h => ⟨h, fun e => hn (e ▸ h)⟩, fun h => h.1⟩
  | some p =>
    obtain ⟨k, u⟩ := p
    obtain ⟨hk, e⟩ := lookM_some hl
    simp only
    rw [mem_erase_key _ _ hk h.keys, e]
variable {P : Program} {w0 w : World} {H : List (Nat × Obj)}
theorem run_askM {kt : TypeId} (K : KeyTy P κ kt) (a : κ) : ∀ (l : List (κ × Int × Nat)) (j : Nat), (Instr.findAsking kt (.agg (Cel.cs a)) (l.map entB) j).run P w = .ok ((lookM l a).map fun p => (j + p.1, .int .i64 p.2)) w
  | [], j => rfl
  | x :: l, j => by
    rw [List.map_cons]
    unfold Instr.findAsking
    rw [Sem.run_bind]
    have he : (Op.equal kt (.agg (Cel.cs a)) (entB x).key).run P w = .ok (decide (a = x.1)) w := K.eq w a x.1
    rw [he]
    unfold lookM
    by_cases h : a = x.1
    · simp [h, entB]
    · simp only [h, decide_false, Result.andThen, Bool.false_eq_true, if_false]
      rw [run_askM K a l (j + 1)]
      cases lookM l a <;> simp <;> omega
theorem run_findM {kt : TypeId} (K : KeyTy P κ kt) (a : κ) (l : List (κ × Int × Nat)) : (Instr.findKey kt (.agg (Cel.cs a)) (l.map entB)).run P w = .ok ((lookM l a).map fun p => (p.1, .int .i64 p.2)) w := by
  have key : ∀ d, P.underlying kt = some d → (∀ (x : κ × Int × Nat) l, Instr.findNow d (.agg (Cel.cs a)) ((x :: l).map entB) 0 = none) → (Instr.findKey kt (.agg (Cel.cs a)) (l.map entB)).run P w = .ok ((lookM l a).map fun p => (p.1, .int .i64 p.2)) w := by
    intro d hu hn
    unfold Instr.findKey
    rw [Sem.run_bind, run_underlying hu]
    simp only [Result.andThen]
    cases l with
    | nil => rfl
    | cons x l =>
      rw [hn]
      have := run_askM (w := w) K a (x :: l) 0
      simpa using this
  rcases K.und with ⟨fs, hu⟩ | ⟨x, y, hu⟩
  · exact key _ hu (fun x l => rfl)
  · exact key _ hu (fun x l => rfl)
theorem run_getMB {b : Nat} {M : MB κ} (hst : St w0 ((b, M.obj) :: H) w) : (getObj b).run P w = .ok M.obj w := by
  have := (hst.has _ (List.mem_cons_self)).2
  simp only at this
  simp only [getObj, Sem.run, this]
  rfl
/-- m[k] = v. -/
theorem run_updM {mt kt et : TypeId} (K : KeyTy P κ kt) (hu : P.underlying mt = some (.map kt et)) (a : κ) (v : Int) (M : MB κ) (b : Nat) (hst : St w0 ((b, M.obj) :: H) w) :
    ∃ w', (Instr.mapUpdate mt (.map (some b)) (.agg (Cel.cs a)) (.int .i64 v)).run P w = .ok () w' ∧ St w0 ((b, (M.upd a v).obj) :: H) w' := by
  have hg := run_getMB (P := P) hst
  have hf := run_findM (w := w) K a M.l
  have hs := fun o' => run_setObj (P := P) (o' := o') hst ⟨_, _, rfl⟩
  unfold MB.obj at hg
  unfold Instr.mapUpdate
  simp only [Sem.run_bind, run_underlying hu, hg, K.chk, hf, Result.andThen]
  refine ⟨_, ?_, St.setO (o' := (M.upd a v).obj) hst⟩
  unfold MB.upd
  cases hl : lookM M.l a with
  | none =>
    simp only [Option.map_none, hs]
    simp [MB.obj, entB]
  | some p =>
    obtain ⟨k, u⟩ := p
    obtain ⟨h1, h2⟩ := lookM_some hl
    have hk : (M.l.map entB)[k]? = some (entB M.l[k]) := by simp [h1]
    simp only [Option.map_some, List.getElem?_toArray, hk, Option.getD_some, Instr.keyThatStays]
    have e0 : (entB M.l[k]).key = .agg (Cel.cs a) := by rw [← h2]; rfl
    have ho : Obj.map ((M.l.map entB).toArray.modify k fun e => { key := .agg (Cel.cs a), val := .int .i64 v, born := e.born }) M.c = (⟨M.l.modify k (fun e => (a, v, e.2.2)), M.c⟩ : MB κ).obj := by
      unfold MB.obj
      congr 1
      apply Array.ext_getElem?
      intro j
      rw [Array.getElem?_modify]
      simp only [List.getElem?_toArray, List.getElem?_map, List.getElem?_modify]
      split
      · rename_i hjk; subst hjk; cases M.l[k]? <;> simp [entB]
      · rename_i hjk; simp
    rw [e0]
    simp only [K.bits, if_true, Sem.run_bind, Sem.run_pure, Result.andThen, hs, ho]
/-- delete(m, k). -/
theorem run_delM {mt kt et rt : TypeId} (x : TypeId) (K : KeyTy P κ kt) (hu : P.underlying mt = some (.map kt et)) (a : κ) (M : MB κ) (b : Nat) (hst : St w0 ((b, M.obj) :: H) w) :
    ∃ w', (Builtin.delete_ #[mt, x] rt #[.map (some b), .agg (Cel.cs a)]).run P w = .ok (.tuple #[]) w' ∧ St w0 ((b, (M.del a).obj) :: H) w' := by
  have hg := run_getMB (P := P) hst
  have hf := run_findM (w := w) K a M.l
  have hs := fun o' => run_setObj (P := P) (o' := o') hst ⟨_, _, rfl⟩
  unfold MB.obj at hg
  unfold Builtin.delete_
  refine ⟨_, ?_, St.setO (o' := (M.del a).obj) hst⟩
  simp only [List.getElem?_toArray, List.getElem?_cons_zero, List.getElem?_cons_succ, Sem.run_bind, run_underlying hu, hg, K.chk, hf, Result.andThen]
  unfold MB.del
  cases hl : lookM M.l a with
  | none =>
    simp only [Option.map_none, Sem.run_bind, hs, Result.andThen, Sem.run_pure]
    rfl
  | some p =>
    obtain ⟨k, u⟩ := p
    obtain ⟨h1, h2⟩ := lookM_some hl
    have ho : Obj.map ((M.l.map entB).toArray.eraseIdxIfInBounds k) M.c = (⟨M.l.eraseIdx k, M.c⟩ : MB κ).obj := by
      unfold MB.obj
      congr 1
      have h1' : k < (M.l.map entB).toArray.size := by simpa using h1
      rw [Array.eraseIdxIfInBounds, dif_pos h1', List.eraseIdx_toArray]
      congr 1
      exact map_eraseIdx' entB M.l k
    simp only [Option.map_some, Sem.run_bind, hs, Result.andThen, Sem.run_pure, ho]
theorem run_lenM {mt kt et rt : TypeId} (hu : P.underlying mt = some (.map kt et)) (M : MB κ) (b : Nat) (hst : St w0 ((b, M.obj) :: H) w) :
    (Builtin.len_ #[mt] rt #[.map (some b)]).run P w = .ok (.int .i64 ((M.l.length : Nat) : Int)) w := by
  have hg := run_getMB (P := P) hst
  unfold MB.obj at hg
  unfold Builtin.len_
  simp only [List.getElem?_toArray, List.getElem?_cons_zero, Sem.run_bind, run_underlying hu, hg, Result.andThen, Sem.run_pure]
  simp [goInt]
def iterB (b c : Nat) (sn : Array Nat) : Obj := .mapIter (some b) c sn c
theorem run_rangeM {mt kt et : TypeId} (hu : P.underlying mt = some (.map kt et)) (M : MB κ) (b : Nat) (hst : St w0 ((b, M.obj) :: H) w) :
    ∃ x w', (Instr.range mt (.map (some b))).run P w = .ok (.pointer (some ⟨x, 0, none⟩)) w' ∧ St w0 ((x, iterB b M.c #[]) :: (b, M.obj) :: H) w' := by
  have hg := run_getMB (P := P) hst
  unfold MB.obj at hg
  exact ⟨w.heap.size, w.alloc (.mapIter (some b) M.c #[] M.c), by simp [Instr.range, run_underlying hu, hg], hst.alloc _⟩
theorem run_nextM {ty : TypeId} (M : MB κ) (hO : ∀ y ∈ M.l, y.2.2 < M.c) (b x : Nat) (sn : Array Nat) (hst : St w0 ((x, iterB b M.c sn) :: (b, M.obj) :: H) w) :
    ((∀ y ∈ M.l, sn.contains y.2.2 = true) ∧ (Instr.next (.pointer (some ⟨x, 0, none⟩)) false ty).run P w = .ok (.tuple #[.bool false]) w) ∨
    ∃ y ∈ M.l, sn.contains y.2.2 = false ∧ ∃ w', (Instr.next (.pointer (some ⟨x, 0, none⟩)) false ty).run P w = .ok (.tuple #[.bool true, .agg (Cel.cs y.1), .int .i64 y.2.1]) w' ∧ St w0 ((x, iterB b M.c (sn.push y.2.2)) :: (b, M.obj) :: H) w' := by
  have hx := (hst.has _ (List.mem_cons_self)).2
  have hb := (hst.has (b, M.obj) (by simp)).2
  simp only at hx hb
  unfold MB.obj at hb
  unfold iterB at hx
  have hold : ∀ e ∈ ((M.l.map entB).toArray).toList, e.born < M.c := fun e he => by
    obtain ⟨y, hy, rfl⟩ := List.mem_map.1 he
    exact hO y hy
  simp only [Instr.next, getObj, Sem.run_bind, Sem.run, hx, hb, Result.andThen, next_test_false sn _ M.c M.c hold (Nat.le_refl _), Bool.false_eq_true, if_false]
  have hmem : ∀ e ∈ (Array.filter (fun e => !sn.contains e.born) (M.l.map entB).toArray).toList, e.born < M.c := fun e he => hold e (by simp at he ⊢; exact he.1)
  have hwh : ∀ e ∈ (Array.filter (fun e => !sn.contains e.born) (M.l.map entB).toArray).toList, ∃ y ∈ M.l, sn.contains y.2.2 = false ∧ e = entB y := fun e he => by
    simp only [Array.toList_filter, List.mem_filter, Bool.not_eq_true'] at he
    obtain ⟨y, hy, e2⟩ := List.mem_map.1 he.1
    refine ⟨y, hy, ?_, e2.symm⟩
    have := he.2
    rw [← e2] at this
    exact this
  have hnone : (Array.filter (fun e => !sn.contains e.born) (M.l.map entB).toArray).size = 0 → ∀ y ∈ M.l, sn.contains y.2.2 = true := fun h0 y hy => by
    have e0 := Array.eq_empty_of_size_eq_zero h0
    rw [Array.filter_eq_empty_iff] at e0
    have hm : entB y ∈ M.l.map entB := List.mem_map_of_mem hy
    have := e0 _ (by simpa using hm)
    simpa [entB] using this
  generalize Array.filter (fun e => !sn.contains e.born) (M.l.map entB).toArray = L at hmem hwh hnone ⊢
  have e1 : L.filter (fun x => decide (x.born < M.c)) = L := Array.filter_eq_self.2 (fun x hx => by simpa using hmem x (by simpa using hx))
  have e2 : L.filter (fun x => decide (x.born ≥ M.c)) = #[] := by
    rw [Array.filter_eq_empty_iff]
    intro x hx
    have := hmem x (by simpa using hx)
    simp
    omega
  simp only [e1, e2, Array.append_empty]
  by_cases h0 : L.size = 0
  · left
    refine ⟨hnone h0, ?_⟩
    have : L = #[] := Array.eq_empty_of_size_eq_zero h0
    subst this
    simp [choose, Sem.run, Question.forced]
  · right
    have hne : L.isEmpty = false := by simp [Array.isEmpty, h0]
    simp only [hne, Bool.false_eq_true, if_false, Array.empty_append, Array.size_map]
    have hch : ∃ (j : Nat) (w1 : World), j < L.size ∧ St w0 ((x, iterB b M.c sn) :: (b, M.obj) :: H) w1 ∧ (choose (Question.mapNext L.size)).run P w = .ok j w1 := by
      by_cases hf : L.size ≤ 1
      · exact ⟨0, w, by omega, hst, by simp [choose, Sem.run, Question.forced, hf]⟩
      · exact ⟨_, w.drew, Nat.mod_lt _ (by omega), hst.drew, by
          simp only [choose, Sem.run, Question.forced, decide_eq_true_eq, hf, if_false, Question.cut]
          rfl⟩
    obtain ⟨j, w1, hj, hst1, hrun⟩ := hch
    obtain ⟨y, hy, hk1, hk2⟩ := hwh L[j] (by simp)
    refine ⟨y, hy, hk1, _, ?_, St.setO (o' := iterB b M.c (sn.push y.2.2)) hst1⟩
    have hx1 := (hst1.has _ (List.mem_cons_self)).2
    simp only at hx1
    unfold iterB at hx1
    have hset : ∀ o', (setObj x o').run P w1 = .ok () { w1 with heap := w1.heap.setIfInBounds x o' } := fun o' => by
      simp only [setObj, Sem.run, hx1]
    simp only [hrun, Array.getElem?_map, Array.getElem?_eq_getElem hj, Option.map_some, Sem.run_bind, hset, Result.andThen, hk2]
    rfl
theorem run_entryM (M : MB κ) (hB : (M.l.map (·.2.2)).Nodup) (b x : Nat) (y : κ × Int × Nat) (hy : y ∈ M.l) (sn : Array Nat) (hst : St w0 ((x, iterB b M.c (sn.push y.2.2)) :: (b, M.obj) :: H) w) :
    (Instr.entry (.pointer (some ⟨x, 0, none⟩))).run P w = .ok (.tuple #[.agg (Cel.cs y.1), .int .i64 y.2.1]) w := by
  have hx := (hst.has _ (List.mem_cons_self)).2
  have hb := (hst.has (b, M.obj) (by simp)).2
  simp only at hx hb
  unfold MB.obj at hb
  unfold iterB at hx
  have hf : ∀ l : List (κ × Int × Nat), (l.map (·.2.2)).Nodup → y ∈ l → (l.map entB).find? (fun e => e.born == y.2.2) = some (entB y) := by
    intro l
    induction l with
    | nil => intro _ h; cases h
    | cons z l ih =>
      intro hn h
      rw [List.map_cons, List.nodup_cons] at hn
      rw [List.map_cons, List.find?_cons]
      rcases List.mem_cons.1 h with rfl | h
      · simp [entB]
      · have : ((entB z).born == y.2.2) = false := by
          have : z.2.2 ≠ y.2.2 := fun e => hn.1 (by rw [e]; exact List.mem_map_of_mem (f := (·.2.2)) h)
          simpa [entB] using this
        rw [this]
        exact ih hn.2 h
  have hf' : (M.l.map entB).toArray.find? (fun e => e.born == y.2.2) = some (entB y) := by simpa using hf M.l hB hy
  simp only [Instr.entry, getObj, Sem.run_bind, Sem.run, hx, hb, Result.andThen, Array.back?_push, bne_self_eq_false, Bool.false_eq_true, if_false, hf']
  rfl
variable {ops : Array Oper} {Q : Exit → Act → World → Prop} {S : World → Prop} {n : Nat} {rest : List (Nat × Bool)} {e : Env} {H' : List (Nat × Obj)}
theorem T.updM {i : Nat} (mt kt et : TypeId) (K : KeyTy P κ kt) (a : κ) (v : Int) (M : MB κ) (b : Nat) (hp : H.Perm ((b, M.obj) :: H')) (hk : okAt0 ops e i = true) (hm : RunsU P ops e i (Instr.mapUpdate mt (.map (some b)) (.agg (Cel.cs a)) (.int .i64 v)))
    (hu : P.underlying mt = some (.map kt et)) (hS : ∀ w, St w0 ((b, (M.upd a v).obj) :: H') w → S w)
    (h : T P ops Q S n rest e (St w0 ((b, (M.upd a v).obj) :: H'))) : T P ops Q S n ((i, false) :: rest) e (St w0 H) :=
  T.effsOf _ (St w0 ((b, (M.upd a v).obj) :: H')) hk hm (fun w hw => run_updM K hu a v M b (hw.perm hp)) hS h
/-- An operation whose value is dropped. -/
theorem T.effn {Φ : World → Prop} {i : Nat} (M : Sem Value) (v : Value) (Ψ : World → Prop) (hk : okAt0 ops e i = true) (hm : RunsV P ops e i M) (hv : ∀ w, Φ w → ∃ w', M.run P w = .ok v w' ∧ Ψ w') (hS : ∀ w, Ψ w → S w)
    (h : T P ops Q S n rest e Ψ) : T P ops Q S n ((i, false) :: rest) e Φ := by
  obtain ⟨o, ho, hd, hg, hkn⟩ := okAt0_out hk
  intro a w ha hw _
  obtain ⟨w', hr0, hΨ⟩ := hv w hw
  have hr := hm w
  rw [Sem.run_bind, hr0] at hr
  refine runOrd_run ho ?_
  unfold wpList
  rw [if_pos (wanted_of ha hg)]
  refine .inl ?_
  unfold Oper.wp
  rw [runAt_some ho] at hr
  rw [exec_known ha hkn, hr]
  exact ⟨hS w' hΨ, h _ _ (by rw [hd]; exact ha) hΨ (hS w' hΨ)⟩
theorem T.delM {i : Nat} (mt kt et x rt : TypeId) (K : KeyTy P κ kt) (a : κ) (M : MB κ) (b : Nat) (hp : H.Perm ((b, M.obj) :: H')) (hk : okAt0 ops e i = true) (hm : RunsV P ops e i (Builtin.delete_ #[mt, x] rt #[.map (some b), .agg (Cel.cs a)]))
    (hu : P.underlying mt = some (.map kt et)) (hS : ∀ w, St w0 ((b, (M.del a).obj) :: H') w → S w)
    (h : T P ops Q S n rest e (St w0 ((b, (M.del a).obj) :: H'))) : T P ops Q S n ((i, false) :: rest) e (St w0 H) :=
  T.effn _ (.tuple #[]) (St w0 ((b, (M.del a).obj) :: H')) hk hm (fun w hw => run_delM x K hu a M b (hw.perm hp)) hS h
theorem T.lenM {i : Nat} (d : Nat) (mt kt et rt : TypeId) (M : MB κ) (b : Nat) (hp : H.Perm ((b, M.obj) :: H')) (hk : okAt ops n e i d = true) (hm : RunsV P ops e i (Builtin.len_ #[mt] rt #[.map (some b)]))
    (hu : P.underlying mt = some (.map kt et)) (h : T P ops Q S n rest ((d, .int .i64 ((M.l.length : Nat) : Int)) :: e) (St w0 H)) : T P ops Q S n ((i, false) :: rest) e (St w0 H) :=
  T.val false d _ hk (fun w hw => by
    have hw' : St w0 H w := hw
    rw [hm, Sem.run_bind, run_lenM hu M b (hw'.perm hp)]; rfl) h
theorem T.rangeM {i : Nat} (d : Nat) (mt kt et : TypeId) (M : MB κ) (b : Nat) (hp : H.Perm ((b, M.obj) :: H')) (hk : okAt ops n e i d = true) (hm : RunsV P ops e i (Instr.range mt (.map (some b))))
    (hu : P.underlying mt = some (.map kt et)) (hS : ∀ x w, St w0 ((x, iterB b M.c #[]) :: (b, M.obj) :: H') w → S w)
    (h : ∀ x, T P ops Q S n rest ((d, .pointer (some ⟨x, 0, none⟩)) :: e) (St w0 ((x, iterB b M.c #[]) :: (b, M.obj) :: H'))) : T P ops Q S n ((i, false) :: rest) e (St w0 H) :=
  T.effOf (β := Nat) d _ (fun x => .pointer (some ⟨x, 0, none⟩)) (fun x => St w0 ((x, iterB b M.c #[]) :: (b, M.obj) :: H')) hk hm (fun w hw => run_rangeM hu M b (hw.perm hp)) hS h
theorem T.nextM {i : Nat} (d : Nat) (ty : TypeId) (M : MB κ) (hO : ∀ y ∈ M.l, y.2.2 < M.c) (b x : Nat) (sn : Array Nat) (hp : H.Perm ((x, iterB b M.c sn) :: (b, M.obj) :: H')) (hk : okAt ops n e i d = true) (hm : RunsV P ops e i (Instr.next (.pointer (some ⟨x, 0, none⟩)) false ty))
    (hS : ∀ sn w, St w0 ((x, iterB b M.c sn) :: (b, M.obj) :: H') w → S w)
    (h0 : (∀ y ∈ M.l, sn.contains y.2.2 = true) → T P ops Q S n rest ((d, .tuple #[.bool false]) :: e) (St w0 ((x, iterB b M.c sn) :: (b, M.obj) :: H')))
    (h1 : ∀ y (hy : y ∈ M.l), sn.contains y.2.2 = false → T P ops Q S n rest ((d, .tuple #[.bool true, .agg (Cel.cs y.1), .int .i64 y.2.1]) :: e) (St w0 ((x, iterB b M.c (sn.push y.2.2)) :: (b, M.obj) :: H'))) : T P ops Q S n ((i, false) :: rest) e (St w0 H) := by
  intro a w ha hw hSw
  rcases run_nextM (P := P) (ty := ty) M hO b x sn (hw.perm hp) with ⟨hall, hr⟩ | ⟨y, hy, hc, w', hr, hst⟩
  · exact T.eff (β := Unit) (Φ := fun v => v = w) d (fun _ => .tuple #[.bool false]) (fun _ => St w0 ((x, iterB b M.c sn) :: (b, M.obj) :: H')) hk (fun v hv => ⟨(), w, by rw [hv, hm, Sem.run_bind, hr]; rfl, hw.perm hp⟩) (fun _ => hS sn) (fun _ => h0 hall) a w ha rfl hSw
  · exact T.eff (β := Unit) (Φ := fun v => v = w) d (fun _ => .tuple #[.bool true, .agg (Cel.cs y.1), .int .i64 y.2.1]) (fun _ => St w0 ((x, iterB b M.c (sn.push y.2.2)) :: (b, M.obj) :: H')) hk (fun v hv => ⟨(), w', by rw [hv, hm, Sem.run_bind, hr]; rfl, hst⟩) (fun _ => hS _) (fun _ => h1 y hy hc) a w ha rfl hSw
theorem T.entryM {i : Nat} (d : Nat) (M : MB κ) (hB : (M.l.map (·.2.2)).Nodup) (b x : Nat) (y : κ × Int × Nat) (hy : y ∈ M.l) (sn : Array Nat) (hp : H.Perm ((x, iterB b M.c (sn.push y.2.2)) :: (b, M.obj) :: H')) (hk : okAt ops n e i d = true) (hm : RunsV P ops e i (Instr.entry (.pointer (some ⟨x, 0, none⟩))))
    (h : T P ops Q S n rest ((d, .tuple #[.agg (Cel.cs y.1), .int .i64 y.2.1]) :: e) (St w0 H)) : T P ops Q S n ((i, false) :: rest) e (St w0 H) :=
  T.val false d _ hk (fun w hw => by
    have hw' : St w0 H w := hw
    rw [hm, Sem.run_bind, run_entryM M hB b x y hy sn (hw'.perm hp)]; rfl) h
/-- A map just made. -/
theorem St.newM {b : Nat} (h : St w0 ((b, mapOf ([] : List (κ × Int))) :: H) w) : St w0 ((b, (MB.new : MB κ).obj) :: H) w := h
end
theorem keyVt : KeyTy Try.prog Vt 68 where
  eq := fun w a b => eq_vt w a b
  chk := fun b w a => by kernel_rfl
  und := .inl ⟨_, Try.underlying68⟩
  bits := fun a => by simp [Instr.sameBits, Cel.cs, Vt.cs]
/-- A function value with a contract in the states of a call. -/
structure FitS (P : Program) (w0 : World) (H0 : List (Nat × Obj)) (kf : Nat) (lb : Array Value) (F : Vt → Bool) : Prop where
  ent : Enters P kf
  fits : ∀ (v : Vt) (w' : World), St w0 H0 w' → Ret P kf (#[.agg v.cs] ++ lb) w' (.bool (F v))
end Go.Proofs.Ytphnfhonmbbddaa
