/- Rules of the logic for the operations on a map that the call made. No program in sight. -/
import Derived.Test.YthhgdkodhokefaaMap
namespace Go.Proofs.Ythhgdkodhokefaa
open Go Go.RowKit
set_option linter.unusedVariables false
set_option linter.unusedSectionVars false
abbrev RunsV (P : Program) (ops : Array Oper) (e : Env) (i : Nat) (M : Sem Value) : Prop := ∀ w, runAt P ops e i w = ((do let v ← M; Pure.pure (Next.value v)) : Sem Next).run P w
abbrev RunsU (P : Program) (ops : Array Oper) (e : Env) (i : Nat) (M : Sem Unit) : Prop := ∀ w, runAt P ops e i w = ((do M; Pure.pure Next.skip) : Sem Next).run P w
section
variable {κ : Type} [Cel κ] [DecidableEq κ]
/-- The value of a key. -/
def valOf (l : List (κ × Int)) (a : κ) : Int := ((look l a).map (·.2)).getD 0
theorem look_snoc {l : List (κ × Int)} {a : κ} {v : Int} (h : look l a = none) : look (l ++ [(a, v)]) a = some (l.length, v) := by
  induction l with
  | nil => simp [look]
  | cons x l ih =>
    unfold look at h
    by_cases e : a = x.1
    · rw [if_pos e] at h; cases h
    · rw [if_neg e] at h
      simp only [Option.map_eq_none_iff] at h
      rw [List.cons_append]
      unfold look
      rw [if_neg e, ih h]; simp
theorem valOf_ent {l : List (κ × Int)} {a : κ} : valOf (entL l a) a = valOf l a := by
  unfold entL
  cases h : look l a with
  | some p => rfl
  | none => unfold valOf; rw [h]; simp only; rw [look_snoc h]; rfl
end
def iterOf (b n : Nat) (sn : Array Nat) : Obj := .mapIter (some b) n sn n
section
variable {κ : Type} [Cel κ] [DecidableEq κ] {P : Program} {ops : Array Oper} {Q : Exit → Act → World → Prop} {S : World → Prop} {n : Nat} {rest : List (Nat × Bool)} {e : Env} {w0 : World} {H H' : List (Nat × Obj)}
theorem T.mapNew {i : Nat} (d : Nat) (mt : TypeId) (hk : okAt ops n e i d = true) (hm : RunsV P ops e i (Instr.makeMap mt none)) (hS : ∀ b w, St w0 ((b, mapOf ([] : List (κ × Int))) :: H) w → S w)
    (h : ∀ b, T P ops Q S n rest ((d, .map (some b)) :: e) (St w0 ((b, mapOf ([] : List (κ × Int))) :: H))) : T P ops Q S n ((i, false) :: rest) e (St w0 H) :=
  T.effOf (β := Nat) d _ (fun b => .map (some b)) (fun b => St w0 ((b, mapOf ([] : List (κ × Int))) :: H)) hk hm (fun w hw => run_newMap hw) hS h
theorem T.mapLook {i : Nat} (d : Nat) (mt kt et : TypeId) (K : KeyTy P κ kt) (a : κ) (l : List (κ × Int)) (b : Nat) (x : Int) (hp : H.Perm ((b, mapOf l) :: H')) (hk : okAt ops n e i d = true) (hm : RunsV P ops e i (Instr.lookup mt (.map (some b)) (.agg (Cel.cs a)) false))
    (hu : P.underlying mt = some (.map kt et)) (hz : ∀ w, (zeroValue et).run P w = .ok (.int .i64 0) w) (hx : valOf l a = x) (h : T P ops Q S n rest ((d, .int .i64 x) :: e) (St w0 H)) : T P ops Q S n ((i, false) :: rest) e (St w0 H) :=
  T.val false d _ hk (fun w hw => by
    have hw' : St w0 H w := hw
    rw [hm, Sem.run_bind, run_look K hu hz a l b (hw'.perm hp), ← hx]; rfl) h
theorem T.mapEnt {i : Nat} (d : Nat) (mt kt et : TypeId) (K : KeyTy P κ kt) (a : κ) (l : List (κ × Int)) (b : Nat) (hp : H.Perm ((b, mapOf l) :: H')) (hk : okAt ops n e i d = true) (hm : RunsV P ops e i (Instr.mapEntry mt (.map (some b)) (.agg (Cel.cs a))))
    (hu : P.underlying mt = some (.map kt et)) (hz : ∀ w, (zeroValue et).run P w = .ok (.int .i64 0) w) (hS : ∀ w, St w0 ((b, mapOf (entL l a)) :: H') w → S w)
    (h : T P ops Q S n rest ((d, .tuple #[.int .i64 (((look l a).map (·.2)).getD 0), .int .i64 ((entI l a : Nat) : Int)]) :: e) (St w0 ((b, mapOf (entL l a)) :: H'))) : T P ops Q S n ((i, false) :: rest) e (St w0 H) :=
  T.effOf (β := Unit) d _ (fun _ => .tuple #[.int .i64 (((look l a).map (·.2)).getD 0), .int .i64 ((entI l a : Nat) : Int)]) (fun _ => St w0 ((b, mapOf (entL l a)) :: H')) hk hm (fun w hw => by
    obtain ⟨w', h1, h2⟩ := run_entOf K hu hz a l b (hw.perm hp)
    exact ⟨(), w', h1, h2⟩) (fun _ => hS) (fun _ => h)
theorem T.mapPut {i : Nat} (mt : TypeId) (a : κ) (v : Int) (l l' : List (κ × Int)) (b k : Nat) (hp : H.Perm ((b, mapOf l) :: H')) (hk : okAt0 ops e i = true) (hm : RunsU P ops e i (Instr.entryStore mt (.map (some b)) (.int .i64 ((k : Nat) : Int)) (.int .i64 v)))
    (hlt : k < l.length) (hv : l[k].1 = a) (hl' : l.set k (a, v) = l') (hS : ∀ w, St w0 ((b, mapOf l') :: H') w → S w)
    (h : T P ops Q S n rest e (St w0 ((b, mapOf l') :: H'))) : T P ops Q S n ((i, false) :: rest) e (St w0 H) := by
  subst hl'
  exact T.effsOf _ (St w0 ((b, mapOf (l.set k (a, v))) :: H')) hk hm (fun w hw => run_entStore l a v b k hlt hv (hw.perm hp)) hS h
theorem T.mapRange {i : Nat} (d : Nat) (mt kt et : TypeId) (l : List (κ × Int)) (b : Nat) (hp : H.Perm ((b, mapOf l) :: H')) (hk : okAt ops n e i d = true) (hm : RunsV P ops e i (Instr.range mt (.map (some b))))
    (hu : P.underlying mt = some (.map kt et)) (hS : ∀ x w, St w0 ((x, iterOf b l.length #[]) :: (b, mapOf l) :: H') w → S w)
    (h : ∀ x, T P ops Q S n rest ((d, .pointer (some ⟨x, 0, none⟩)) :: e) (St w0 ((x, iterOf b l.length #[]) :: (b, mapOf l) :: H'))) : T P ops Q S n ((i, false) :: rest) e (St w0 H) :=
  T.effOf (β := Nat) d _ (fun x => .pointer (some ⟨x, 0, none⟩)) (fun x => St w0 ((x, iterOf b l.length #[]) :: (b, mapOf l) :: H')) hk hm (fun w hw => run_rangeOf hu l b (hw.perm hp)) hS h
theorem T.mapNext {i : Nat} (d : Nat) (ty : TypeId) (l : List (κ × Int)) (b x : Nat) (sn : Array Nat) (hp : H.Perm ((x, iterOf b l.length sn) :: (b, mapOf l) :: H')) (hk : okAt ops n e i d = true) (hm : RunsV P ops e i (Instr.next (.pointer (some ⟨x, 0, none⟩)) false ty))
    (hS : ∀ sn w, St w0 ((x, iterOf b l.length sn) :: (b, mapOf l) :: H') w → S w)
    (h0 : (∀ k, k < l.length → sn.contains k = true) → T P ops Q S n rest ((d, .tuple #[.bool false]) :: e) (St w0 ((x, iterOf b l.length sn) :: (b, mapOf l) :: H')))
    (h1 : ∀ k (hlt : k < l.length), sn.contains k = false → T P ops Q S n rest ((d, .tuple #[.bool true, .agg (Cel.cs l[k].1), .int .i64 l[k].2]) :: e) (St w0 ((x, iterOf b l.length (sn.push k)) :: (b, mapOf l) :: H'))) : T P ops Q S n ((i, false) :: rest) e (St w0 H) := by
  intro a w ha hw hSw
  rcases run_nextOf (P := P) (ty := ty) l b x sn (hw.perm hp) with ⟨hall, hr⟩ | ⟨k, hlt, hc, w', hr, hst⟩
  · exact T.eff (β := Unit) (Φ := fun v => v = w) d (fun _ => .tuple #[.bool false]) (fun _ => St w0 ((x, iterOf b l.length sn) :: (b, mapOf l) :: H')) hk (fun v hv => ⟨(), w, by rw [hv, hm, Sem.run_bind, hr]; rfl, hw.perm hp⟩) (fun _ => hS sn) (fun _ => h0 hall) a w ha rfl hSw
  · exact T.eff (β := Unit) (Φ := fun v => v = w) d (fun _ => .tuple #[.bool true, .agg (Cel.cs l[k].1), .int .i64 l[k].2]) (fun _ => St w0 ((x, iterOf b l.length (sn.push k)) :: (b, mapOf l) :: H')) hk (fun v hv => ⟨(), w', by rw [hv, hm, Sem.run_bind, hr]; rfl, hst⟩) (fun _ => hS _) (fun _ => h1 k hlt hc) a w ha rfl hSw
theorem T.mapEntry {i : Nat} (d : Nat) (l : List (κ × Int)) (b x k : Nat) (sn : Array Nat) (hlt : k < l.length) (hp : H.Perm ((x, iterOf b l.length (sn.push k)) :: (b, mapOf l) :: H')) (hk : okAt ops n e i d = true) (hm : RunsV P ops e i (Instr.entry (.pointer (some ⟨x, 0, none⟩))))
    (h : T P ops Q S n rest ((d, .tuple #[.agg (Cel.cs l[k].1), .int .i64 l[k].2]) :: e) (St w0 H)) : T P ops Q S n ((i, false) :: rest) e (St w0 H) :=
  T.val false d _ hk (fun w hw => by
    have hw' : St w0 H w := hw
    rw [hm, Sem.run_bind, run_entryOf l b x k hlt sn (hw'.perm hp)]; rfl) h
end
section
variable {κ : Type} [Cel κ] [DecidableEq κ]
theorem look_lt {l : List (κ × Int)} {a : κ} : entI l a < (entL l a).length := by
  unfold entI entL
  cases h : look l a with
  | none => simp
  | some p => obtain ⟨k, v⟩ := p; exact (look_some h).1
theorem look_key {l : List (κ × Int)} {a : κ} : ((entL l a)[entI l a]'look_lt).1 = a := by
  have h2 : ∀ (h : entI l a < (entL l a).length), ((entL l a)[entI l a]'h).1 = a := by
    unfold entI entL
    cases hl : look l a with
    | none => intro h; simp
    | some p => obtain ⟨k, v⟩ := p; intro h; obtain ⟨h1, e⟩ := look_some hl; simp only [e]
  exact h2 _
/-- m[a] = f (m[a]), as a list. -/
def upd (l : List (κ × Int)) (a : κ) (v : Int) : List (κ × Int) := (entL l a).set (entI l a) (a, v)
theorem look_none {l : List (κ × Int)} {a : κ} : look l a = none ↔ ∀ x ∈ l, x.1 ≠ a := by
  induction l with
  | nil => simp [look]
  | cons x l ih =>
    unfold look
    by_cases e : a = x.1
    · simp [e]
    · rw [if_neg e]
      simp only [Option.map_eq_none_iff, ih, List.mem_cons, forall_eq_or_imp]
      exact ⟨fun h => ⟨fun h2 => e h2.symm, h⟩, fun h => h.2⟩
theorem valOf_mem {l : List (κ × Int)} (hn : (l.map (·.1)).Nodup) {a : κ} {v : Int} (h : (a, v) ∈ l) : valOf l a = v := by
  induction l with
  | nil => cases h
  | cons x l ih =>
    rw [List.map_cons, List.nodup_cons] at hn
    unfold valOf look
    rcases List.mem_cons.1 h with rfl | h
    · simp
    · have : ¬ a = x.1 := fun e => hn.1 (by rw [← e]; exact List.mem_map_of_mem (f := (·.1)) h)
      rw [if_neg this]
      have := ih hn.2 h
      unfold valOf at this
      simpa [Option.map_map, Function.comp_def] using this
theorem upd_mem {l : List (κ × Int)} (hn : (l.map (·.1)).Nodup) {a : κ} {v : Int} (y : κ × Int) : y ∈ upd l a v ↔ y = (a, v) ∨ (y ∈ l ∧ y.1 ≠ a) := by
  unfold upd entL entI
  cases hl : look l a with
  | none =>
    have := look_none.1 hl
    simp only [List.set_append_right _ _ (Nat.le_refl _), Nat.sub_self, List.set_cons_zero, List.mem_append, List.mem_singleton]
    constructor
    · rintro (h | h)
      · exact .inr ⟨h, this y h⟩
      · exact .inl h
    · rintro (h | h)
      · exact .inr h
      · exact .inl h.1
  | some p =>
    obtain ⟨k, u⟩ := p
    obtain ⟨hk, e⟩ := look_some hl
    simp only
    rw [List.mem_iff_getElem]
    constructor
    · rintro ⟨j, hj, rfl⟩
      simp only [List.length_set] at hj
      by_cases hjk : k = j
      · subst hjk; left; simp
      · right
        rw [List.getElem_set_ne hjk]
        refine ⟨List.getElem_mem _, fun he => hjk ?_⟩
        have h1 := List.pairwise_iff_getElem.1 hn
        rcases Nat.lt_trichotomy k j with h | h | h
        · exact (h1 k j (by simpa using hk) (by simpa using hj) h (by simp [e, he])).elim
        · exact h
        · exact (h1 j k (by simpa using hj) (by simpa using hk) h (by simp [e, he])).elim
    · rintro (rfl | ⟨h1, h2⟩)
      · exact ⟨k, by simpa using hk, by simp⟩
      · obtain ⟨j, hj, rfl⟩ := List.mem_iff_getElem.1 h1
        have hne : k ≠ j := fun e2 => by subst e2; exact h2 (by rw [e])
        exact ⟨j, by simpa using hj, by rw [List.getElem_set_ne hne]⟩
theorem upd_keys {l : List (κ × Int)} {a : κ} {v : Int} (hn : (l.map (·.1)).Nodup) : ((upd l a v).map (·.1)).Nodup := by
  unfold upd entL entI
  cases hl : look l a with
  | none =>
    have := look_none.1 hl
    simp only [List.set_append_right _ _ (Nat.le_refl _), Nat.sub_self, List.set_cons_zero, List.map_append, List.map_cons, List.map_nil]
    rw [List.nodup_append]
    refine ⟨hn, by simp, fun x hx y hy => ?_⟩
    obtain ⟨z, hz, rfl⟩ := List.mem_map.1 hx
    simp only [List.mem_singleton] at hy
    subst hy
    exact this z hz
  | some p =>
    obtain ⟨k, u⟩ := p
    obtain ⟨hk, e⟩ := look_some hl
    simp only
    have : (l.set k (a, v)).map (·.1) = l.map (·.1) := by
      rw [List.map_set]
      refine List.ext_getElem (by simp) fun i h1 h2 => ?_
      by_cases hi : k = i
      · subst hi; simp [e]
      · rw [List.getElem_set_ne hi]
    rw [this]; exact hn
theorem upd_len {l : List (κ × Int)} {a : κ} {v : Int} : (upd l a v).length ≤ l.length + 1 := by
  unfold upd entL
  rw [List.length_set]
  cases look l a <;> simp
/-- All entries have been seen, each once. -/
theorem seen_perm {α : Type} (l : List α) (sn : List Nat) (hn : sn.Nodup) (hlt : ∀ k ∈ sn, k < l.length) (hall : ∀ k, k < l.length → k ∈ sn) : (sn.filterMap fun k => l[k]?).Perm l := by
  have h1 : sn.Perm (List.range l.length) := (List.perm_ext_iff_of_nodup hn List.nodup_range).2 fun k => by
    rw [List.mem_range]; exact ⟨hlt k, hall k⟩
  have h2 : (List.range l.length).filterMap (fun k => l[k]?) = l := by
    have : ∀ m, m ≤ l.length → (List.range m).filterMap (fun k => l[k]?) = l.take m := by
      intro m
      induction m with
      | zero => intro _; simp
      | succ m ih =>
        intro hm
        rw [List.range_succ, List.filterMap_append, ih (by omega), List.take_add_one]
        simp [List.getElem?_eq_getElem (show m < l.length by omega)]
    rw [this _ (Nat.le_refl _), List.take_length]
  have := h1.filterMap (fun k => l[k]?)
  rwa [h2] at this
end
section
variable {P : Program} {ops : Array Oper} {Q : Exit → Act → World → Prop} {S : World → Prop} {n : Nat} {e : Env} {Φ Ψ : World → Prop}
/-- Two operations are ready: one after the other, either way. -/
def okOrd2 (ops : Array Oper) (i : Nat) (A : List (Nat × Bool)) (j : Nat) (B : List (Nat × Bool)) : List (Nat × Bool) → Array Bool → Bool
  | [], listed => (Region.ready .any ops listed == [i, j]) && ops[i]?.isSome && ops[j]?.isSome && okOrd ops A (listed.setIfInBounds i true) && okOrd ops B (listed.setIfInBounds j true)
  | (k, true) :: rest, listed => Region.free .any ops listed k && (Region.ready .any ops listed).contains k && ops[k]?.isSome && okOrd2 ops i A j B rest (listed.setIfInBounds k true)
  | (k, false) :: rest, listed => (Region.ready .any ops listed == [k]) && ops[k]?.isSome && okOrd2 ops i A j B rest (listed.setIfInBounds k true)
theorem wpOp_of_run {i : Nat} {rest : List (Nat × Bool)} {o : Oper} {a : Act} {w : World} {K : Act → World → Prop} (ho : ops[i]? = some o) (hw : wpList P ops (Exit.then K Q) [o] a w) : wpOp P ops Q i K a w := by
  unfold wpOp
  simp only [ho]
  unfold wpList at hw
  split
  · rename_i hwd
    rw [if_pos hwd] at hw
    rcases hw with hw | ⟨hw1, hw2⟩
    · refine .inl ?_
      unfold Oper.wp at hw ⊢
      rw [upon_then] at hw
      exact Oper.wp_mono (K := wpList P ops (Exit.then K Q) []) (fun a' w' hk => hk) hw
    · exact .inr ⟨hw1, hw2⟩
  · rename_i hwd
    rw [if_neg hwd] at hw
    exact hw
theorem wpOp_weak {i : Nat} {a : Act} {w : World} {K K' : Act → World → Prop} (h : ∀ a w, K a w → K' a w) (hh : wpOp P ops Q i K a w) : wpOp P ops Q i K' a w := wpOp_mono h hh
/-- What goes on either way. -/
def Either (P : Program) (ops : Array Oper) (Q : Exit → Act → World → Prop) (S : World → Prop) (i : Nat) (A : List (Nat × Bool)) (j : Nat) (B : List (Nat × Bool)) (a : Act) (w : World) : Prop :=
  runOrd P ops Q S ((i, false) :: A) a w ∧ runOrd P ops Q S ((j, false) :: B) a w
theorem anyH_of_run2 (hs : Region.noSelect ops = true) (hQ : ∀ (d : Option Tmp) (v : Value) c a w, Q (.panic c) (Act.put a d v) w → Q (.panic c) a w) {i j : Nat} {A B : List (Nat × Bool)} (hAB : A.length = B.length) :
    ∀ (ord : List (Nat × Bool)) (listed : Array Bool) (a : Act) (w : World), okOrd2 ops i A j B ord listed = true → S w → runOrd P ops (Exit.then (Either P ops Q S i A j B) Q) S ord a w → wpAnyH P .any ops Q S (ord.length + 1 + A.length) listed a w
  | [], listed, a, w, hok, hS, h => by
    simp only [okOrd2, Bool.and_eq_true] at hok
    obtain ⟨⟨⟨⟨h1, h2⟩, h3⟩, h4⟩, h5⟩ := hok
    obtain ⟨oi, hoi⟩ := Option.isSome_iff_exists.1 h2
    obtain ⟨oj, hoj⟩ := Option.isSome_iff_exists.1 h3
    have h' : Either P ops Q S i A j B a w := h
    rw [show ([] : List (Nat × Bool)).length + 1 + A.length = A.length + 1 by simp; omega]
    refine wpAnyH_all (rs := [i, j]) (by simpa using h1) (by simp) ?_
    intro k hk
    simp only [List.mem_cons, List.not_mem_nil, or_false] at hk
    rcases hk with rfl | rfl
    · exact wpOp_mono (fun a' w' hk => ⟨hk.1, anyH_of_run hs hQ A _ a' w' h4 hk.1 hk.2⟩) (wpOp_of_run (rest := A) hoi (h'.1 oi hoi))
    · refine wpOp_mono (fun a' w' hk => ⟨hk.1, ?_⟩) (wpOp_of_run (rest := B) hoj (h'.2 oj hoj))
      rw [hAB]
      exact anyH_of_run hs hQ B _ a' w' h5 hk.1 hk.2
  | (k, true) :: rest, listed, a, w, hok, hS, h => by
    simp only [okOrd2, Bool.and_eq_true] at hok
    obtain ⟨⟨⟨h1, h2⟩, h3⟩, h4⟩ := hok
    obtain ⟨o, ho⟩ := Option.isSome_iff_exists.1 h3
    obtain ⟨v, hy, hr⟩ := h o ho
    rw [show ((k, true) :: rest).length + 1 + A.length = (rest.length + 1 + A.length) + 1 by simp; omega]
    exact wpAnyH_take ho hs h1 h2 (fun c a w => hQ _ _ c a w) hy hS (anyH_of_run2 hs hQ hAB rest _ _ w h4 hS hr)
  | (k, false) :: rest, listed, a, w, hok, hS, h => by
    simp only [okOrd2, Bool.and_eq_true] at hok
    obtain ⟨⟨h1, h3⟩, h4⟩ := hok
    obtain ⟨o, ho⟩ := Option.isSome_iff_exists.1 h3
    rw [show ((k, false) :: rest).length + 1 + A.length = (rest.length + 1 + A.length) + 1 by simp; omega]
    refine wpAnyH_all (rs := [k]) (by simpa using h1) (by simp) ?_
    intro i' hi'
    simp only [List.mem_singleton] at hi'
    subst hi'
    have hw := h o ho
    have hw2 : wpList P ops (Exit.then (fun a' w' => S w' ∧ runOrd P ops (Exit.then (Either P ops Q S i A j B) Q) S rest a' w') Q) [o] a w := by
      unfold wpList at hw ⊢
      split
      · rename_i hwd
        rw [if_pos hwd] at hw
        rcases hw with hw | ⟨hw1, hw2⟩
        · refine .inl ?_
          unfold Oper.wp at hw ⊢
          rw [upon_then, upon_then] at hw
          rw [upon_then]
          exact Oper.wp_mono (K := wpList P ops (Exit.then (fun a' w' => S w' ∧ runOrd P ops (Exit.then (Either P ops Q S i A j B) Q) S rest a' w') (Exit.then (Either P ops Q S i A j B) Q)) []) (fun a' w' hk => hk) hw
        · refine .inr ⟨hw1, ?_⟩
          obtain ⟨a', w', h3⟩ := hw2
          exact ⟨a', w', h3⟩
      · rename_i hwd
        rw [if_neg hwd] at hw
        exact hw
    exact wpOp_mono (fun a' w' hk => ⟨hk.1, anyH_of_run2 hs hQ hAB rest _ a' w' h4 hk.1 hk.2⟩) (wpOp_of_run (rest := rest) ho hw2)
theorem W.drawn2 {id : Nat} {ops : Array Oper} (S : World → Prop) (pre : List (Nat × Bool)) (i : Nat) (A : List (Nat × Bool)) (j : Nat) (B : List (Nat × Bool)) (hm : P.follows .mixedOrders = true)
    (hB : (Region.noSelect ops && okOrd2 ops i A j B pre (Array.replicate ops.size false) && (pre.length + 1 + A.length == ops.size) && (A.length == B.length)) = true) (hQ : NoPanic Q)
    (hd : ∀ w, Φ w → Ψ { w with drawn := w.drawn + 1 }) (hS : ∀ w, Ψ w → S w) (h : T P ops (Exit.then (Either P ops Q S i A j B) Q) S n pre e Ψ) : W P n e Φ (.region id ops true) Q := fun a w ha hw => by
  simp only [Bool.and_eq_true, beq_iff_eq] at hB
  obtain ⟨⟨⟨h1, h2⟩, h3⟩, h4⟩ := hB
  refine wp_region_held (S := S) hm ?_
  have := anyH_of_run2 (P := P) (S := S) h1 hQ h4 pre _ a _ h2 (hS _ (hd w hw)) (h a _ ha (hd w hw) (hS _ (hd w hw)))
  rw [h3] at this
  exact this
theorem T.split {i j : Nat} {A B : List (Nat × Bool)} (hS : ∀ w, Φ w → S w) (hA : T P ops Q S n ((i, false) :: A) e Φ) (hB : T P ops Q S n ((j, false) :: B) e Φ) : T P ops (Exit.then (Either P ops Q S i A j B) Q) S n [] e Φ :=
  fun a w ha hw _ => (⟨hA a w ha hw (hS w hw), hB a w ha hw (hS w hw)⟩ : Either P ops Q S i A j B a w)
end
end Go.Proofs.Ythhgdkodhokefaa
