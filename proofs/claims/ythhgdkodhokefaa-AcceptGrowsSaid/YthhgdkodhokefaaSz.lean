/- The logic, continued: loads, stores, new variables, slices, calls. No program in sight. -/
import Derived.Test.YthhgdkodhokefaaSy
namespace Go.Proofs.Ythhgdkodhokefaa
open Go Go.RowKit
set_option linter.unusedVariables false

theorem wrap_id {z : Int} (h1 : -9223372036854775808 ≤ z) (h2 : z < 9223372036854775808) : IntKind.i64.wrap z = z := by rw [IntKind.wrap_i64]; omega
theorem int_eq {k : IntKind} {a b : Int} (h : a = b) : Value.int k a = .int k b := by rw [h]
theorem bool_eq {a b : Bool} (h : a = b) : Value.bool a = .bool b := by rw [h]
theorem wrap_int {z : Int} (h1 : -9223372036854775808 ≤ z) (h2 : z < 9223372036854775808) : Value.int .i64 (IntKind.i64.wrap z) = .int .i64 z := by rw [wrap_id h1 h2]
/-- What an operation is, with its operands' values. -/
def ldAt (ops : Array Oper) (e : Env) (i : Nat) : Option (TypeId × Value) := match (ops[i]?).map Oper.op with | some (Op.load t x) => some (t, e.ev x) | _ => none
def stAt (ops : Array Oper) (e : Env) (i : Nat) : Option (TypeId × Value × Value) := match (ops[i]?).map Oper.op with | some (Op.store t x y) => some (t, e.ev x, e.ev y) | _ => none
def ixAt (ops : Array Oper) (e : Env) (i : Nat) : Option (TypeId × Value × Value) := match (ops[i]?).map Oper.op with | some (Op.indexAddr t x y) => some (t, e.ev x, e.ev y) | _ => none
def alAt (ops : Array Oper) (i : Nat) : Option TypeId := match (ops[i]?).map Oper.op with | some (Op.alloc t) => some t | _ => none
def bxAt (ops : Array Oper) (e : Env) (i : Nat) : Option (TypeId × Value) := match (ops[i]?).map Oper.op with | some (Op.box t x) => some (t, e.ev x) | _ => none
def bsAt (ops : Array Oper) (e : Env) (i : Nat) : Option (TypeId × Nat × Array (Nat × Value)) := match (ops[i]?).map Oper.op with | some (Op.buildSlice t l ps) => some (t, l, ps.map fun (i, x) => (i, e.ev x)) | _ => none
def apAt (ops : Array Oper) (e : Env) (i : Nat) : Option (TypeId × Value × Value) := match (ops[i]?).map Oper.op with
  | some (Op.call ⟨.builtin .append, args, ts⟩) => match args.toList, ts.toList with | [x, y], [t, t'] => bif Nat.beq t t' then some (t, e.ev x, e.ev y) else none | _, _ => none
  | _ => none
def callAt (ops : Array Oper) (e : Env) (i : Nat) : Option (FuncId × Array Value) := match (ops[i]?).map Oper.op with
  | some (Op.call ⟨.value f, args, _⟩) => match e.ev f with | .func (.func k) first captured => some (k, first ++ args.map e.ev ++ captured) | _ => none
  | _ => none
def slAt (ops : Array Oper) (e : Env) (i : Nat) : Option (TypeId × Value × Option Value × Option Value) := match (ops[i]?).map Oper.op with | some (Op.slice t x lo hi none) => some (t, e.ev x, lo.map e.ev, hi.map e.ev) | _ => none
def scalarB (P : Program) (t : TypeId) : Bool := match P.underlying t with | some (.struct _) | some (.array _ _) | none => false | _ => true
def rowB (P : Program) (t : TypeId) : Bool := match P.underlying t with | some (.struct _) | some (.array _ _) => true | _ => false
theorem opAt {α : Type} {ops : Array Oper} {i : Nat} {f : Op → Option α} {g : Option Op → Option α} {y : α} (h : (match (ops[i]?).map Oper.op with | some o => f o | none => none) = some y) : ∃ o, ops[i]? = some o ∧ f o.op = some y := by
  cases ho : ops[i]? with
  | none => rw [ho] at h; cases h
  | some o => rw [ho] at h; exact ⟨o, rfl, h⟩
section
variable {P : Program} {ops : Array Oper} {Q : Exit → Act → World → Prop} {S : World → Prop} {n : Nat} {rest : List (Nat × Bool)} {e : Env} {Φ Ψ : World → Prop} {w0 : World} {H : List (Nat × Obj)}
theorem run_ld {i : Nat} {t : TypeId} {p : Value} (hl : ldAt ops e i = some (t, p)) (w : World) : runAt P ops e i w = (do let v ← Instr.loadAt t p; Pure.pure (Next.value v) : Sem Next).run P w := by
  unfold ldAt at hl
  unfold runAt
  cases ho : ops[i]? with
  | none => rw [ho] at hl; cases hl
  | some o =>
    rw [ho] at hl
    simp only [Option.map_some] at hl
    split at hl
    · rename_i t' x heq
      simp only [Option.some.injEq, Prod.mk.injEq] at hl
      unfold execOp
      simp only [Option.some.inj heq, hl.1, hl.2]
    · cases hl
/-- A load of one cell. -/
theorem T.load {i : Nat} (m : Bool) (d : Nat) (v : Value) (t : TypeId) (b off : Nat) (hk : okAt ops n e i d = true) (hl : ldAt ops e i = some (t, .pointer (some ⟨b, off, none⟩))) (hs : scalarB P t = true)
    (hc : ∀ w, (bif m then S w else Φ w) → w.cell? ⟨b, off, none⟩ = some v) (h : T P ops Q S n rest ((d, v) :: e) Φ) : T P ops Q S n ((i, m) :: rest) e Φ := by
  refine T.val m d v hk (fun w hw => ?_) h
  rw [run_ld hl]
  have hag : (isAgg t).run P w = .ok false w := by
    unfold scalarB at hs
    cases hu : P.underlying t with
    | none => rw [hu] at hs; cases hs
    | some d =>
      rw [hu] at hs
      unfold isAgg
      rw [Sem.run_bind, run_underlying hu w]
      cases d <;> first | rfl | cases hs
  simp [Instr.loadAt, Instr.sureAddr, loadVar, hag, Go.load, Sem.run, hc w hw]
/-- A load of a whole struct or array. -/
theorem T.loadR {i : Nat} (m : Bool) (d : Nat) (cs : Array Value) (t : TypeId) (b off : Nat) (hk : okAt ops n e i d = true) (hl : ldAt ops e i = some (t, .pointer (some ⟨b, off, none⟩))) (hs : rowB P t = true) (hi : (P.info? t).map (·.size) = some cs.size)
    (hc : ∀ w, (bif m then S w else Φ w) → w.rangeAt b off cs.toList) (h : T P ops Q S n rest ((d, .agg cs) :: e) Φ) : T P ops Q S n ((i, m) :: rest) e Φ := by
  refine T.val m d (.agg cs) hk (fun w hw => ?_) h
  rw [run_ld hl]
  unfold rowB at hs
  cases hu : P.underlying t with
  | none => rw [hu] at hs; cases hs
  | some d =>
    rw [hu] at hs
    have hd : d.isRow = true := by cases d <;> first | rfl | cases hs
    have := run_loadAt_mid (P := P) w b off t cs.toList d (hc w hw) hu hd (by rw [hi]; simp)
    simp [this]
/-- The value is written otherwise. -/
theorem T.pureE {i : Nat} {m : Bool} (d : Nat) (u v : Value) (hk : okAt ops n e i d = true) (hv : ∀ w, runAt P ops e i w = .ok (.value u) w) (he : u = v) (h : T P ops Q S n rest ((d, v) :: e) Φ) :
    T P ops Q S n ((i, m) :: rest) e Φ := T.val m d v hk (fun w _ => by rw [hv, he]) h
theorem T.cast {ord : List (Nat × Bool)} (k : Nat) (u v : Value) (hk : e.get k = some u) (he : u = v) (h : T P ops Q S n ord ((k, v) :: e) Φ) : T P ops Q S n ord e Φ := fun a w ha hw hS =>
  h a w ⟨ha.size, ha.defers, fun i z hz => by
    rw [Env.get_cons] at hz
    by_cases hi : k = i
    · rw [if_pos hi] at hz; subst hi; rw [← hz, ← he]; exact ha.at_ k _ hk
    · rw [if_neg hi] at hz; exact ha.at_ i z hz⟩ hw hS
/-- The address of a slice's element. -/
theorem T.index {i : Nat} {m : Bool} (d : Nat) (t el sz : Nat) (A : Option Addr) (len c : Nat) (k : Int) (j b off : Nat) (hk : okAt ops n e i d = true) (hx : ixAt ops e i = some (t, .slice A len c, .int .i64 k)) (ht : P.underlying t = some (.slice el)) (hsz : (P.info? el).map (·.size) = some sz)
    (hA : A = some ⟨b, off, none⟩) (hj : k = (j : Int)) (hlt : j < len) (h : T P ops Q S n rest ((d, .pointer (some ⟨b, off + j * sz, none⟩)) :: e) Φ) : T P ops Q S n ((i, m) :: rest) e Φ := by
  refine T.pure d _ hk (fun w => ?_) h
  unfold ixAt at hx
  unfold runAt
  cases ho : ops[i]? with
  | none => rw [ho] at hx; cases hx
  | some o =>
    rw [ho] at hx
    simp only [Option.map_some] at hx
    split at hx
    · rename_i t' x y heq
      simp only [Option.some.injEq, Prod.mk.injEq] at hx
      obtain ⟨h1, h2, h3⟩ := hx
      unfold execOp
      simp only [Option.some.inj heq, h1, h2, h3]
      subst hA
      subst hj
      cases hq : P.info? el with
      | none => rw [hq] at hsz; cases hsz
      | some ti =>
        have hs : ti.size = sz := by simpa [hq] using hsz
        have hl0 : (0 : Int) ≤ (j : Int) ∧ (j : Int) < (len : Int) := by omega
        simp [Instr.indexAt, asIntOf, run_underlying ht, hl0, sizeOf, typeInfo, hq, hs, Addr.add_mid]
        intro hge; omega
    · cases hx
/-- A new variable. -/
theorem T.alloc {i : Nat} (d : Nat) (t : TypeId) (C : Array Value) (hk : okAt ops n e i d = true) (ha : alAt ops i = some t) (hz : ((P.info? t).bind (·.zero)).map (·.cells) = some C) (hS : ∀ b w, St w0 ((b, .cells C t (0, 0)) :: H) w → S w)
    (h : ∀ b, T P ops Q S n rest ((d, .pointer (some ⟨b, 0, none⟩)) :: e) (St w0 ((b, .cells C t (0, 0)) :: H))) : T P ops Q S n ((i, false) :: rest) e (St w0 H) := by
  refine T.eff (β := Nat) d (fun b => .pointer (some ⟨b, 0, none⟩)) (fun b => St w0 ((b, .cells C t (0, 0)) :: H)) hk (fun w hw => ⟨w.heap.size, w.alloc (.cells C t), ?_, hw.alloc _⟩) hS h
  unfold alAt at ha
  unfold runAt
  cases ho : ops[i]? with
  | none => rw [ho] at ha; cases ha
  | some o =>
    rw [ho] at ha
    simp only [Option.map_some] at ha
    split at ha
    · rename_i t' heq
      simp only [Option.some.injEq] at ha
      unfold execOp
      simp only [Option.some.inj heq, ha]
      cases hq : P.info? t with
      | none => rw [hq] at hz; cases hz
      | some ti =>
        rw [hq] at hz
        cases hzz : ti.zero with
        | none => simp [hzz] at hz
        | some z =>
          have hc : z.cells = C := by simpa [hzz] using hz
          simp [Instr.alloc, zeroValue, typeInfo, hq, hzz, newVar, newRow, newObj, hc]
          rfl
    · cases ha
theorem T.box {i : Nat} (d : Nat) (t : TypeId) (v : Value) (C : Array Value) (hk : okAt ops n e i d = true) (ha : bxAt ops e i = some (t, v)) (hz : v.cells = C) (hS : ∀ b w, St w0 ((b, .cells C t (0, 0)) :: H) w → S w)
    (h : ∀ b, T P ops Q S n rest ((d, .pointer (some ⟨b, 0, none⟩)) :: e) (St w0 ((b, .cells C t (0, 0)) :: H))) : T P ops Q S n ((i, false) :: rest) e (St w0 H) := by
  refine T.eff (β := Nat) d (fun b => .pointer (some ⟨b, 0, none⟩)) (fun b => St w0 ((b, .cells C t (0, 0)) :: H)) hk (fun w hw => ⟨w.heap.size, w.alloc (.cells C t), ?_, hw.alloc _⟩) hS h
  unfold bxAt at ha
  unfold runAt
  cases ho : ops[i]? with
  | none => rw [ho] at ha; cases ha
  | some o =>
    rw [ho] at ha
    simp only [Option.map_some] at ha
    split at ha
    · rename_i t' x heq
      simp only [Option.some.injEq, Prod.mk.injEq] at ha
      unfold execOp
      simp only [Option.some.inj heq, ha.1, ha.2]
      simp [Instr.box, newVar, newRow, newObj, hz]
      rfl
    · cases ha
/-- A store into a block that is owned. -/
theorem T.store {i : Nat} (t : TypeId) (b off : Nat) (v : Value) (H1 H2 : List (Nat × Obj)) (c c' : Array Value) (ty : TypeId) (hk : okAt0 ops e i = true) (hs : stAt ops e i = some (t, .pointer (some ⟨b, off, none⟩), v)) (hi : (P.info? t).map (·.size) = some v.cells.size) (h1 : v.cells.toList.all (·.oneCell') = true)
    (hc : c.toList.take off ++ v.cells.toList ++ c.toList.drop (off + v.cells.toList.length) = c'.toList) (hl : Nat.ble (off + v.cells.toList.length) c.size = true) (hS : ∀ w, St w0 (H1 ++ (b, .cells c' ty (0, 0)) :: H2) w → S w)
    (h : T P ops Q S n rest e (St w0 (H1 ++ (b, .cells c' ty (0, 0)) :: H2))) : T P ops Q S n ((i, false) :: rest) e (St w0 (H1 ++ (b, .cells c ty (0, 0)) :: H2)) := by
  refine T.effs (St w0 (H1 ++ (b, .cells c' ty (0, 0)) :: H2)) hk (fun w hw => ⟨w.setRow b c', ?_, hw.write⟩) hS h
  unfold stAt at hs
  unfold runAt
  cases ho : ops[i]? with
  | none => rw [ho] at hs; cases hs
  | some o =>
    rw [ho] at hs
    simp only [Option.map_some] at hs
    split at hs
    · rename_i t' x y heq
      simp only [Option.some.injEq, Prod.mk.injEq] at hs
      obtain ⟨g1, g2, g3⟩ := hs
      unfold execOp
      simp only [Option.some.inj heq, g1, g2, g3]
      cases hq : P.info? t with
      | none => rw [hq] at hi; cases hi
      | some ti =>
        have hsz : ti.size = v.cells.size := by simpa [hq] using hi
        have hg := (hw.has (b, .cells c ty (0, 0)) (by simp)).2
        have hst := run_storeCells_at P b off ty v.cells.toList 0 c w hg (by simpa using Nat.le_of_ble_eq_true hl) (fun u hu => List.all_eq_true.1 h1 u hu)
        simp only [Nat.add_zero] at hst
        rw [hc] at hst
        simp [Instr.storeAt, Instr.sureAddr, storeVar, sizeOf, typeInfo, hq, hsz, hst]
    · cases hs
/-- Calls. -/
def Ret (P : Program) (f : FuncId) (args : Array Value) (w : World) (v : Value) : Prop := Calls P f args w fun r w' => r = .returned v ∧ Below w.heap.size w w'
theorem run_call {i : Nat} {f : FuncId} {args : Array Value} (hv : callAt ops e i = some (f, args)) (hf : Enters P f) (w : World) : runAt P ops e i w = .ok (.enter f args) w := by
  unfold callAt at hv
  unfold runAt
  cases ho : ops[i]? with
  | none => rw [ho] at hv; cases hv
  | some o =>
    rw [ho] at hv
    simp only [Option.map_some] at hv
    split at hv
    · rename_i g xs ts heq
      split at hv
      · rename_i k first captured hf'
        simp only [Option.some.injEq, Prod.mk.injEq] at hv
        obtain ⟨rfl, rfl⟩ := hv
        unfold execOp
        simp only [Option.some.inj heq, resolve, hf', Deferred.ofValue, invoke, Sem.run_bind, Sem.run_pure, Result.andThen_ok]
        exact hf _ w
      · cases hv
    · cases hv
theorem T.callP {i : Nat} (d : Nat) (f : FuncId) (args : Array Value) (v : Value) (hk : okAt ops n e i d = true) (hv : callAt ops e i = some (f, args)) (hf : Enters P f) (hc : ∀ w, St w0 H w → Ret P f args w v) (hS : ∀ w, St w0 H w → S w)
    (h : T P ops Q S n rest ((d, v) :: e) (St w0 H)) : T P ops Q S n ((i, false) :: rest) e (St w0 H) :=
  T.call (β := Unit) d f args (fun _ => v) (fun _ => St w0 H) hk (run_call hv hf) (fun w hw => (hc w hw).mono fun r w' ⟨h1, h2⟩ => ⟨(), h1, hw.blw h2⟩) (fun _ => hS) (fun _ => h)
def RetRow (P : Program) (f : FuncId) (args : Array Value) (w : World) (ty : TypeId) (sz k : Nat) (xs : List Value) : Prop :=
  Calls P f args w fun r w' => ∃ A c Hr, r = .returned (.slice A k c) ∧ RowIs ty sz A k c xs Hr ∧ St w Hr w'
structure RowX (ty : TypeId) (sz k : Nat) (xs : List Value) where
  A : Option Addr
  c : Nat
  Hr : List (Nat × Obj)
  is : RowIs ty sz A k c xs Hr
theorem T.callR {i : Nat} (d : Nat) (f : FuncId) (args : Array Value) (ty : TypeId) (sz k : Nat) (xs : List Value) (hk : okAt ops n e i d = true) (hv : callAt ops e i = some (f, args)) (hf : Enters P f) (hc : ∀ w, St w0 H w → RetRow P f args w ty sz k xs)
    (hS : ∀ Hr w, St w0 (Hr ++ H) w → S w) (h : ∀ A c Hr, RowIs ty sz A k c xs Hr → T P ops Q S n rest ((d, .slice A k c) :: e) (St w0 (Hr ++ H))) : T P ops Q S n ((i, false) :: rest) e (St w0 H) :=
  T.call (β := RowX ty sz k xs) d f args (fun x => .slice x.A k x.c) (fun x => St w0 (x.Hr ++ H)) hk (run_call hv hf) (fun w hw => (hc w hw).mono fun r w' ⟨A, c, Hr, h1, h2, h3⟩ => ⟨⟨A, c, Hr, h2⟩, h1, hw.join h3⟩) (fun x => hS x.Hr) (fun x => h x.A x.c x.Hr x.is)
/-- An append to a row that is owned. -/
theorem T.append {i : Nat} (d : Nat) (t ty sz bytes : Nat) (A : Option Addr) (k c : Nat) (xs : List Value) (Hr : List (Nat × Obj)) (b off m c2 : Nat) (news : List Value) (hk : okAt ops n e i d = true) (hv : apAt ops e i = some (t, .slice A k c, .slice (some ⟨b, off, none⟩) m c2))
    (ht : P.underlying t = some (.slice ty)) (hi : (P.info? ty).map (fun i => (i.zero.map (·.cells.size), i.size, i.bytes)) = some (some sz, sz, bytes)) (hsz : 0 < sz) (hrow : RowIs ty sz A k c xs Hr) (hl : news.length = m * sz)
    (hn : ∀ w, St w0 (Hr ++ H) w → w.rangeAt b off news) (h1 : ∀ u ∈ news, u.oneCell' = true) (h63 : (k + m) ≤ maxLen) (hb : (k + m) * bytes ≤ 140737488355328) (hS : ∀ Hr w, St w0 (Hr ++ H) w → S w)
    (h : ∀ A c Hr, RowIs ty sz A (k + m) c (xs ++ news) Hr → T P ops Q S n rest ((d, .slice A (k + m) c) :: e) (St w0 (Hr ++ H))) : T P ops Q S n ((i, false) :: rest) e (St w0 (Hr ++ H)) := by
  refine T.eff (β := RowX ty sz (k + m) (xs ++ news)) d (fun x => .slice x.A (k + m) x.c) (fun x => St w0 (x.Hr ++ H)) hk (fun w hw => ?_) (fun x => hS x.Hr) (fun x => h x.A x.c x.Hr x.is)
  cases hq : P.info? ty with
  | none => rw [hq] at hi; cases hi
  | some ti =>
    rw [hq] at hi
    simp only [Option.map_some, Option.some.injEq, Prod.mk.injEq] at hi
    obtain ⟨i1, i2, i3⟩ := hi
    cases hz : ti.zero with
    | none => rw [hz] at i1; cases i1
    | some z =>
      rw [hz] at i1
      have hzs : z.cells.size = sz := by simpa using i1
      unfold apAt at hv
      cases ho : ops[i]? with
      | none => rw [ho] at hv; cases hv
      | some o =>
        rw [ho] at hv
        simp only [Option.map_some] at hv
        split at hv
        · rename_i args ts heq
          split at hv
          · rename_i x y t1 t2 ha hts
            cases hb2 : Nat.beq t1 t2 with
            | false => rw [hb2] at hv; cases hv
            | true =>
              rw [hb2] at hv
              have e1 := Nat.eq_of_beq_eq_true hb2
              subst e1
              simp only [cond_true, Option.some.injEq, Prod.mk.injEq] at hv
              obtain ⟨v1, v2, v3⟩ := hv
              subst v1
              obtain ⟨A', c', Hr', w', hr, hrow', hst⟩ := run_append_row (P := P) t1 o.type ty ti z bytes ht hq hz i2 i3 hzs hsz hrow hw ⟨b, off, none⟩ m c2 news hl (fun j u hu => by rw [Addr.add_mid]; exact hn w hw j u hu) h1 h63 hb
              refine ⟨⟨A', c', Hr', hrow'⟩, w', ?_, hst⟩
              have ha' : args = #[x, y] := by cases args; simp at ha; rw [ha]
              have ht' : ts = #[t1, t1] := by cases ts; simp at hts; rw [hts]
              rw [runAt_some ho]
              unfold execOp
              simp only [Option.some.inj heq, resolve, invoke, Go.builtin, ha', ht', Sem.run_bind, Sem.run_pure, Result.andThen_ok, List.map_toArray, List.map_cons, List.map_nil, v2, v3, hr]
          · cases hv
        · cases hv
end
/-- Data of one kind, in cells. -/
class Cel (α : Type) where
  sz : Nat
  cs : α → Array Value
  size : ∀ a, (cs a).size = sz
  one : ∀ a, ∀ u ∈ (cs a).toList, u.oneCell' = true
  pos : 0 < sz
/-- The cells of a list. -/
def cells {α : Type} [Cel α] (l : List α) : List Value := l.flatMap fun v => (Cel.cs v).toList
/-- A slice that reads as a list, in one world. -/
def Rd {α : Type} [Cel α] (w : World) (A : Option Addr) (l : List α) : Prop :=
  ∀ j (h : j < l.length), ∃ b off, A = some ⟨b, off, none⟩ ∧ b < w.heap.size ∧ w.rangeAt b (off + j * Cel.sz α) (Cel.cs l[j]).toList
/-- A slice that reads as a list in every world of the walk. -/
def Arr {α : Type} [Cel α] (Φ : World → Prop) (A : Option Addr) (l : List α) : Prop :=
  ∀ j (h : j < l.length), ∃ b off, A = some ⟨b, off, none⟩ ∧ ∀ w, Φ w → w.rangeAt b (off + j * Cel.sz α) (Cel.cs l[j]).toList
section
variable {α : Type} [Cel α] {w w' w0 : World} {A : Option Addr} {l : List α} {H : List (Nat × Obj)} {Φ Ψ : World → Prop}
theorem cells_len (l : List α) : (cells l).length = l.length * Cel.sz α := by
  induction l with
  | nil => simp [cells]
  | cons v l ih => simp only [cells, List.flatMap_cons, List.length_append, List.length_cons] at *; rw [ih]; simp [Cel.size]; rw [Nat.add_mul]; omega
theorem cells_get (l : List α) : ∀ (j t : Nat) (h : j < l.length), t < Cel.sz α → (cells l)[j * Cel.sz α + t]? = (Cel.cs l[j])[t]? := by
  induction l with
  | nil => intro j t h; simp at h
  | cons v l ih =>
    intro j t h ht
    cases j with
    | zero =>
      simp only [cells, List.flatMap_cons]
      rw [List.getElem?_append_left (by simp [Cel.size]; omega)]
      simp
    | succ j =>
      simp only [cells, List.flatMap_cons]
      have e1 : (j + 1) * Cel.sz α = Cel.sz α + j * Cel.sz α := by rw [Nat.add_mul]; omega
      rw [List.getElem?_append_right (by simp [Cel.size]; omega)]
      have e : (j + 1) * Cel.sz α + t - (Cel.cs v).toList.length = j * Cel.sz α + t := by simp [Cel.size]; omega
      rw [e]
      exact ih j t (by simpa using h) ht
theorem cells_snoc (l : List α) (v : α) : cells (l ++ [v]) = cells l ++ (Cel.cs v).toList := by simp [cells]
theorem cells_app (l m : List α) : cells (l ++ m) = cells l ++ cells m := by simp [cells]
theorem cells_one (l : List α) : ∀ u ∈ cells l, u.oneCell' = true := by
  intro u hu
  simp only [cells, List.mem_flatMap] at hu
  obtain ⟨v, _, hv⟩ := hu
  exact Cel.one v u hv
theorem Rd.below (h : Rd w A l) (hb : Below w.heap.size w w') : Rd w' A l := by
  intro j hj
  obtain ⟨b, off, hA, hlt, hc⟩ := h j hj
  exact ⟨b, off, hA, Nat.lt_of_lt_of_le hlt hb.size, fun t u hu => (hb.cell (p := ⟨b, off + j * Cel.sz α + t, none⟩) hlt).trans (hc t u hu)⟩
theorem Rd.nil (w : World) (A : Option Addr) : Rd (α := α) w A [] := fun j hj => by simp at hj
theorem Rd.take (h : Rd w A l) (k : Nat) : Rd w A (l.take k) := by
  intro j hj
  have hj' : j < l.length := by simp at hj; omega
  obtain ⟨b, off, hA, hlt, hc⟩ := h j hj'
  exact ⟨b, off, hA, hlt, by rw [List.getElem_take]; exact hc⟩
theorem Rd.arr (h : Rd w0 A l) (H : List (Nat × Obj)) : Arr (St w0 H) A l := by
  intro j hj
  obtain ⟨b, off, hA, hlt, hc⟩ := h j hj
  exact ⟨b, off, hA, fun w hw t u hu => (hw.below.cell (p := ⟨b, off + j * Cel.sz α + t, none⟩) hlt).trans (hc t u hu)⟩
theorem Arr.rd (h : Arr Φ A l) {w : World} (hw : Φ w) : Rd w A l := by
  intro j hj
  obtain ⟨b, off, hA, hc⟩ := h j hj
  refine ⟨b, off, hA, ?_, hc w hw⟩
  have hp := Cel.pos (α := α)
  have hz := Cel.size l[j]
  have h0 : ∃ u, (Cel.cs l[j]).toList[0]? = some u := ⟨_, List.getElem?_eq_getElem (by simp [hz]; omega)⟩
  obtain ⟨u, hu⟩ := h0
  have := hc w hw 0 u hu
  by_cases hg : b < w.heap.size
  · exact hg
  · simp [World.cell?, Array.getElem?_eq_none (Nat.le_of_not_lt hg)] at this
theorem Arr.weak (h : Arr Φ A l) (hs : ∀ w, Ψ w → Φ w) : Arr Ψ A l := by
  intro j hj
  obtain ⟨b, off, hA, hc⟩ := h j hj
  exact ⟨b, off, hA, fun w hw => hc w (hs w hw)⟩
theorem Arr.take (h : Arr Φ A l) (k : Nat) : Arr Φ A (l.take k) := by
  intro j hj
  have hj' : j < l.length := by simp at hj; omega
  obtain ⟨b, off, hA, hc⟩ := h j hj'
  exact ⟨b, off, hA, by rw [List.getElem_take]; exact hc⟩
theorem Arr.nil (A : Option Addr) : Arr (α := α) Φ A [] := fun j hj => by simp at hj
/-- The whole of a slice as one range. -/
theorem Arr.whole (h : Arr Φ A l) (hne : 0 < l.length) : ∃ b off, A = some ⟨b, off, none⟩ ∧ ∀ w, Φ w → w.rangeAt b off (cells l) := by
  obtain ⟨b, off, hA, _⟩ := h 0 hne
  refine ⟨b, off, hA, fun w hw i u hu => ?_⟩
  have hp := Cel.pos (α := α)
  have hi : i < (cells l).length := (List.getElem?_eq_some_iff.1 hu).1
  rw [cells_len] at hi
  have hj : i / Cel.sz α < l.length := Nat.div_lt_of_lt_mul (by rw [Nat.mul_comm]; exact hi)
  have ht := Nat.mod_lt i hp
  have hdm := Nat.div_add_mod i (Cel.sz α)
  obtain ⟨b', off', hA', hc⟩ := h _ hj
  rw [hA] at hA'
  simp only [Option.some.injEq, Addr.mk.injEq, and_true] at hA'
  obtain ⟨rfl, rfl⟩ := hA'
  have e1 : i = (i / Cel.sz α) * Cel.sz α + i % Cel.sz α := by rw [Nat.mul_comm]; exact hdm.symm
  rw [e1, cells_get l _ _ hj ht] at hu
  have := hc w hw (i % Cel.sz α) u (by simpa using hu)
  rw [Nat.add_assoc, ← e1] at this
  exact this
theorem Arr.row {ty : TypeId} {k c : Nat} {xs : List Value} {Hr : List (Nat × Obj)} (h : RowIs ty (Cel.sz α) A k c xs Hr) (hx : xs = cells l) (hk : k = l.length) (H : List (Nat × Obj)) : Arr (St w0 (Hr ++ H)) A l := by
  intro j hj
  have hlen := cells_len l
  have hp := Cel.pos (α := α)
  cases h with
  | nil => rw [← hk] at hj; omega
  | row g _ _ cur _ h1 h2 h3 h4 h5 =>
    refine ⟨g, 0, rfl, fun w hw t u hu => ?_⟩
    have ht : t < Cel.sz α := by have := (List.getElem?_eq_some_iff.1 hu).1; simpa [Cel.size] using this
    have e1 : (cells l)[j * Cel.sz α + t]? = some u := by rw [cells_get l j t hj ht]; simpa using hu
    rw [← hx, ← h4, List.getElem?_take] at e1
    split at e1
    · rw [Nat.zero_add]; exact hw.cell 0 (t := ty) (f := (0, 0)) (c := cur) rfl (by simpa using e1)
    · cases e1
end
end Go.Proofs.Ythhgdkodhokefaa
