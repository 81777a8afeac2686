/- The logic, continued: memory by membership, slice literals, comparisons of structs. No program in sight. -/
import Derived.Great.BuildSlice
import Derived.Laws.Bits64
import Derived.Laws.StructEq
import Derived.Test.YthhgdkodhokefaaSz
namespace Go.Proofs.Ythhgdkodhokefaa
open Go Go.RowKit
set_option linter.unusedVariables false

theorem cell_of_range {w : World} {b off : Nat} {cs : List Value} (h : w.rangeAt b off cs) (k : Nat) {v : Value} (hv : cs[k]? = some v) : w.cell? ⟨b, off + k, none⟩ = some v := h k v hv
theorem range_of_range {w : World} {b off : Nat} {cs : List Value} (h : w.rangeAt b off cs) (k : Nat) (c : Array Value) (hc : (cs.drop k).take c.size = c.toList) : w.rangeAt b (off + k) c.toList := fun j v hj => by
  have hj' : j < c.size := by have := (List.getElem?_eq_some_iff.1 hj).1; simpa using this
  rw [← hc, List.getElem?_take, if_pos hj', List.getElem?_drop] at hj
  have := h (k + j) v hj
  rw [← Nat.add_assoc] at this
  exact this
theorem shl_one {y : Int} (h0 : 0 ≤ y) (h1 : y < 63) : Value.int .i64 (IntKind.i64.wrap (1 * 2 ^ min y.toNat 64)) = .int .i64 (2 ^ y.toNat) := by
  have hm : min y.toNat 64 = y.toNat := by omega
  rw [hm, Int.one_mul]
  refine wrap_int ?_ ?_
  · have : (0 : Int) < 2 ^ y.toNat := Int.pow_pos (by omega)
    omega
  · have h2 : (2 : Nat) ^ y.toNat ≤ 2 ^ 62 := Nat.pow_le_pow_right (by omega) (by omega)
    have h3 : (2 : Nat) ^ 62 = 4611686018427387904 := by decide
    have h4 : ((2 : Int) ^ y.toNat) = ((2 ^ y.toNat : Nat) : Int) := by simp
    omega
theorem quo_int {x y : Int} (h0 : 0 ≤ x) (hy : 0 < y) (h1 : x < 9223372036854775808) : Value.int .i64 (IntKind.i64.wrap (x.tdiv y)) = .int .i64 (x / y) := by
  rw [Int.tdiv_eq_ediv_of_nonneg h0]
  have h2 : 0 ≤ x / y := Int.ediv_nonneg h0 (by omega)
  have h3 : x / y ≤ x := Int.ediv_le_self _ h0
  exact wrap_int (by omega) (by omega)
theorem shl_oneu {y : Int} (h0 : 0 ≤ y) (h1 : y < 63) : Value.int .u64 (IntKind.u64.wrap (1 * 2 ^ min y.toNat 64)) = .int .u64 (2 ^ y.toNat) := by
  have hm : min y.toNat 64 = y.toNat := by omega
  rw [hm, Int.one_mul, IntKind.wrap_u64]
  have h2 : (2 : Nat) ^ y.toNat ≤ 2 ^ 62 := Nat.pow_le_pow_right (by omega) (by omega)
  have h3 : (2 : Nat) ^ 62 = 4611686018427387904 := by decide
  have h4 : ((2 : Int) ^ y.toNat) = ((2 ^ y.toNat : Nat) : Int) := by simp
  have h5 : (0 : Int) ≤ 2 ^ y.toNat := by rw [h4]; exact Int.natCast_nonneg _
  congr 1
  omega
theorem wrap8_int {z : Int} (h1 : 0 ≤ z) (h2 : z < 256) : Value.int .u8 (IntKind.u8.wrap z) = .int .u8 z := by
  rw [IntKind.wrap_u8]; congr 1; omega
theorem wrapu_int {z : Int} (h1 : 0 ≤ z) (h2 : z < 9223372036854775808) : Value.int .u64 (IntKind.u64.wrap z) = .int .u64 z := by
  rw [IntKind.wrap_u64]; congr 1; omega
section
variable {P : Program} {ops : Array Oper} {Q : Exit → Act → World → Prop} {S : World → Prop} {n : Nat} {rest : List (Nat × Bool)} {e : Env} {Φ Ψ : World → Prop} {w0 w : World} {H H' : List (Nat × Obj)}
theorem St.cellM (h : St w0 H w) {b off : Nat} {c : Array Value} {t : TypeId} {f : Nat × Nat} {v : Value} (hk : (b, Obj.cells c t f) ∈ H) (hv : c[off]? = some v) : w.cell? ⟨b, off, none⟩ = some v := by
  rw [cell_of_row _ _ _ _ _ _ (h.has _ hk).2]; exact hv
theorem St.rangeM (h : St w0 H w) {b off : Nat} {c : Array Value} {t : TypeId} {f : Nat × Nat} (cs : Array Value) (hk : (b, Obj.cells c t f) ∈ H) (hv : (c.toList.drop off).take cs.size = cs.toList) : w.rangeAt b off cs.toList := fun j v hj => by
  have hj' : j < cs.size := by have := (List.getElem?_eq_some_iff.1 hj).1; simpa using this
  rw [← hv, List.getElem?_take, if_pos hj', List.getElem?_drop] at hj
  exact h.cellM hk (by simpa using hj)
/-- A store; the block comes to the front. -/
theorem T.storeP {i : Nat} (t : TypeId) (b off : Nat) (v : Value) (c c' : Array Value) (ty : TypeId) (hk : okAt0 ops e i = true) (hs : stAt ops e i = some (t, .pointer (some ⟨b, off, none⟩), v)) (hi : (P.info? t).map (·.size) = some v.cells.size) (h1 : v.cells.toList.all (·.oneCell') = true)
    (hc : c.toList.take off ++ v.cells.toList ++ c.toList.drop (off + v.cells.toList.length) = c'.toList) (hl : Nat.ble (off + v.cells.toList.length) c.size = true) (hp : H.Perm ((b, .cells c ty (0, 0)) :: H')) (hS : ∀ w, St w0 ((b, .cells c' ty (0, 0)) :: H') w → S w)
    (h : T P ops Q S n rest e (St w0 ((b, .cells c' ty (0, 0)) :: H'))) : T P ops Q S n ((i, false) :: rest) e (St w0 H) :=
  T.weak (fun w hw => hw.perm hp) (T.store t b off v [] H' c c' ty hk hs hi h1 hc hl hS h)
theorem T.appendP {i : Nat} (d : Nat) (t ty sz bytes : Nat) (A : Option Addr) (k c : Nat) (xs : List Value) (Hr : List (Nat × Obj)) (b off m c2 : Nat) (news : List Value) (hp : H.Perm (Hr ++ H')) (hk : okAt ops n e i d = true) (hv : apAt ops e i = some (t, .slice A k c, .slice (some ⟨b, off, none⟩) m c2))
    (ht : P.underlying t = some (.slice ty)) (hi : (P.info? ty).map (fun i => (i.zero.map (·.cells.size), i.size, i.bytes)) = some (some sz, sz, bytes)) (hsz : 0 < sz) (hrow : RowIs ty sz A k c xs Hr) (hl : news.length = m * sz)
    (hn : ∀ w, St w0 (Hr ++ H') w → w.rangeAt b off news) (h1 : ∀ u ∈ news, u.oneCell' = true) (h63 : (k + m) ≤ maxLen) (hb : (k + m) * bytes ≤ 140737488355328) (hS : ∀ Hr w, St w0 (Hr ++ H') w → S w)
    (h : ∀ A c Hr, RowIs ty sz A (k + m) c (xs ++ news) Hr → T P ops Q S n rest ((d, .slice A (k + m) c) :: e) (St w0 (Hr ++ H'))) : T P ops Q S n ((i, false) :: rest) e (St w0 H) :=
  T.weak (fun w hw => hw.perm hp) (T.append d t ty sz bytes A k c xs Hr b off m c2 news hk hv ht hi hsz hrow hl hn h1 h63 hb hS h)
/-- Nothing is appended. -/
theorem run_append_none (t tt ty : TypeId) (i : TypeInfo) (ht : P.underlying t = some (.slice ty)) (hi : P.info? ty = some i) (A B : Option Addr) (k c c2 : Nat) (hk : k ≤ c) (w : World) :
    (Builtin.append_ #[t, t] tt #[.slice A k c, .slice B 0 c2]).run P w = .ok (.slice A k c) w := by
  cases A <;> cases B <;> simp [Builtin.append_, run_underlying ht, sizeOf, typeInfo, hi, Builtin.lenOf, hk, Builtin.firstCells, loadCells, loadCellsFrom, storeCells]
/-- A slice that reads as a list is appended. -/
theorem T.appendL {α : Type} [Cel α] {i : Nat} (d : Nat) (t ty bytes : Nat) (A : Option Addr) (k c : Nat) (xs : List Value) (Hr : List (Nat × Obj)) (B : Option Addr) (m c2 : Nat) (l : List α) (hp : H.Perm (Hr ++ H')) (hk : okAt ops n e i d = true) (hv : apAt ops e i = some (t, .slice A k c, .slice B m c2))
    (ht : P.underlying t = some (.slice ty)) (hi : (P.info? ty).map (fun i => (i.zero.map (·.cells.size), i.size, i.bytes)) = some (some (Cel.sz α), Cel.sz α, bytes)) (hrow : RowIs ty (Cel.sz α) A k c xs Hr) (hm : m = l.length) (harr : Arr (St w0 (Hr ++ H')) B l)
    (h63 : (k + m) ≤ maxLen) (hb : (k + m) * bytes ≤ 140737488355328) (hS : ∀ Hr w, St w0 (Hr ++ H') w → S w)
    (h : ∀ A c Hr, RowIs ty (Cel.sz α) A (k + m) c (xs ++ cells l) Hr → T P ops Q S n rest ((d, .slice A (k + m) c) :: e) (St w0 (Hr ++ H'))) : T P ops Q S n ((i, false) :: rest) e (St w0 H) := by
  by_cases hz : l.length = 0
  · have hl : l = [] := List.eq_nil_of_length_eq_zero hz
    subst hl
    have hm0 : m = 0 := by simpa using hm
    subst hm0
    refine T.weak (fun w hw => hw.perm hp) ?_
    refine T.eff (β := Unit) d (fun _ => .slice A k c) (fun _ => St w0 (Hr ++ H')) hk (fun w hw => ⟨(), w, ?_, hw⟩) (fun _ => hS Hr) (fun _ => ?_)
    · cases hq : P.info? ty with
      | none => rw [hq] at hi; cases hi
      | some ti =>
        unfold apAt at hv
        cases ho : ops[i]? with
        | none => rw [ho] at hv; cases hv
        | some o =>
          rw [ho] at hv
          simp only [Option.map_some] at hv
          split at hv
          · rename_i args ts heq
            split at hv
            · rename_i x y t1 t2 ha hts
              cases hb2 : Nat.beq t1 t2 with
              | false => rw [hb2] at hv; cases hv
              | true =>
                rw [hb2] at hv
                have e1 := Nat.eq_of_beq_eq_true hb2
                subst e1
                simp only [cond_true, Option.some.injEq, Prod.mk.injEq] at hv
                obtain ⟨v1, v2, v3⟩ := hv
                subst v1
                have hkc : k ≤ c := by cases hrow with | nil => exact Nat.le_refl _ | row _ _ _ _ _ h1 => exact h1
                have hr := run_append_none (P := P) t1 o.type ty ti ht hq A B k c c2 hkc w
                have ha' : args = #[x, y] := by cases args; simp at ha; rw [ha]
                have ht' : ts = #[t1, t1] := by cases ts; simp at hts; rw [hts]
                rw [runAt_some ho]
                unfold execOp
                simp only [Option.some.inj heq, resolve, invoke, Go.builtin, ha', ht', Sem.run_bind, Sem.run_pure, Result.andThen_ok, List.map_toArray, List.map_cons, List.map_nil, v2, v3, hr]
            · cases hv
          · cases hv
    · have := h A c Hr (by simpa [cells] using hrow)
      simpa using this
  · obtain ⟨b, off, hA, hr⟩ := harr.whole (by omega)
    subst hA
    exact T.appendP d t ty (Cel.sz α) bytes A k c xs Hr b off m c2 (cells l) hp hk hv ht hi Cel.pos hrow (by rw [cells_len, hm]) hr (cells_one l) h63 hb hS h
/-- Lists appended: a literal's elements, or a slice. -/
theorem T.appC {α : Type} [Cel α] {i : Nat} (d : Nat) (t ty bytes : Nat) (A : Option Addr) (c : Nat) (xl : List α) (Hr : List (Nat × Obj)) (b off c2 : Nat) (yl : List α) (hp : H.Perm (Hr ++ H')) (hk : okAt ops n e i d = true) (hv : apAt ops e i = some (t, .slice A xl.length c, .slice (some ⟨b, off, none⟩) yl.length c2))
    (ht : P.underlying t = some (.slice ty)) (hi : (P.info? ty).map (fun i => (i.zero.map (·.cells.size), i.size, i.bytes)) = some (some (Cel.sz α), Cel.sz α, bytes)) (hrow : RowIs ty (Cel.sz α) A xl.length c (cells xl) Hr)
    (hn : ∀ w, St w0 (Hr ++ H') w → w.rangeAt b off (cells yl)) (h63 : (xl.length + yl.length) ≤ maxLen) (hb : (xl.length + yl.length) * bytes ≤ 140737488355328) (hS : ∀ Hr w, St w0 (Hr ++ H') w → S w)
    (h : ∀ A c Hr, RowIs ty (Cel.sz α) A (xl ++ yl).length c (cells (xl ++ yl)) Hr → T P ops Q S n rest ((d, .slice A (xl ++ yl).length c) :: e) (St w0 (Hr ++ H'))) : T P ops Q S n ((i, false) :: rest) e (St w0 H) := by
  rw [List.length_append, cells_app] at h
  exact T.appendP d t ty (Cel.sz α) bytes A xl.length c (cells xl) Hr b off yl.length c2 (cells yl) hp hk hv ht hi Cel.pos hrow (cells_len yl) hn (cells_one yl) h63 hb hS h
theorem T.appD {α : Type} [Cel α] {i : Nat} (d : Nat) (t ty bytes : Nat) (A : Option Addr) (c : Nat) (xl : List α) (Hr : List (Nat × Obj)) (B : Option Addr) (c2 : Nat) (yl : List α) (hp : H.Perm (Hr ++ H')) (hk : okAt ops n e i d = true) (hv : apAt ops e i = some (t, .slice A xl.length c, .slice B yl.length c2))
    (ht : P.underlying t = some (.slice ty)) (hi : (P.info? ty).map (fun i => (i.zero.map (·.cells.size), i.size, i.bytes)) = some (some (Cel.sz α), Cel.sz α, bytes)) (hrow : RowIs ty (Cel.sz α) A xl.length c (cells xl) Hr) (harr : Arr (St w0 (Hr ++ H')) B yl)
    (h63 : (xl.length + yl.length) ≤ maxLen) (hb : (xl.length + yl.length) * bytes ≤ 140737488355328) (hS : ∀ Hr w, St w0 (Hr ++ H') w → S w)
    (h : ∀ A c Hr, RowIs ty (Cel.sz α) A (xl ++ yl).length c (cells (xl ++ yl)) Hr → T P ops Q S n rest ((d, .slice A (xl ++ yl).length c) :: e) (St w0 (Hr ++ H'))) : T P ops Q S n ((i, false) :: rest) e (St w0 H) := by
  rw [List.length_append, cells_app] at h
  exact T.appendL d t ty bytes A xl.length c (cells xl) Hr B yl.length c2 yl hp hk hv ht hi hrow rfl harr h63 hb hS h
/-- A slice literal. -/
theorem T.lit {i : Nat} (d : Nat) (t el len : Nat) (parts : Array (Nat × Value)) (C : Array Value) (hk : okAt ops n e i d = true) (ha : bsAt ops e i = some (t, len, parts)) (ht : P.underlying t = some (.slice el))
    (hz : (P.info? el).bind (fun i => i.zero.bind (fun z => bif Nat.ble (len * i.size) 16777216 && !Nat.beq (len * i.size) 0 then Instr.fill (fun j => some (j * i.size, i.size)) ((Array.range (len * i.size)).map (z.cells[· % z.cells.size]!)) parts.toList else none)) = some C) (hS : ∀ b w, St w0 ((b, .cells C el (0, 0)) :: H) w → S w)
    (h : ∀ b, T P ops Q S n rest ((d, .slice (some ⟨b, 0, none⟩) len len) :: e) (St w0 ((b, .cells C el (0, 0)) :: H))) : T P ops Q S n ((i, false) :: rest) e (St w0 H) := by
  refine T.eff (β := Nat) d (fun b => .slice (some ⟨b, 0, none⟩) len len) (fun b => St w0 ((b, .cells C el (0, 0)) :: H)) hk (fun w hw => ⟨w.heap.size, w.alloc (.cells C el), ?_, hw.alloc _⟩) hS h
  unfold bsAt at ha
  unfold runAt
  cases ho : ops[i]? with
  | none => rw [ho] at ha; cases ha
  | some o =>
    rw [ho] at ha
    simp only [Option.map_some] at ha
    split at ha
    · rename_i t' l' ps heq
      simp only [Option.some.injEq, Prod.mk.injEq] at ha
      obtain ⟨a1, a2, a3⟩ := ha
      subst a1
      subst a2
      cases hq : P.info? el with
      | none => rw [hq] at hz; cases hz
      | some ti =>
        rw [hq] at hz
        simp only [Option.bind_some] at hz
        cases hzz : ti.zero with
        | none => rw [hzz] at hz; cases hz
        | some z =>
          rw [hzz] at hz
          simp only [Option.bind_some] at hz
          cases hc : (Nat.ble (l' * ti.size) 16777216 && !Nat.beq (l' * ti.size) 0) with
          | false => rw [hc] at hz; cases hz
          | true =>
            rw [hc] at hz
            simp only [cond_true] at hz
            rw [Bool.and_eq_true] at hc
            have c1 := Nat.le_of_ble_eq_true hc.1
            have c2 : ¬ l' * ti.size = 0 := fun h0 => by rw [h0] at hc; cases hc.2
            have := run_buildSlice (P := P) w t' el l' parts C ti z ht hq hzz (by omega) c2 hz
            unfold execOp
            simp only [Option.some.inj heq, Sem.run_bind]
            rw [a3, this]
            rfl
    · cases ha
/-- The empty slice literal. -/
theorem T.lit0 {i : Nat} (d : Nat) (t el : Nat) (hk : okAt ops n e i d = true) (ha : bsAt ops e i = some (t, 0, #[])) (ht : P.underlying t = some (.slice el)) (hi : (P.info? el).isSome = true) (hS : ∀ b w, St w0 ((b, .cells #[] el (0, 0)) :: H) w → S w)
    (h : ∀ b, T P ops Q S n rest ((d, .slice (some ⟨b, 0, none⟩) 0 0) :: e) (St w0 ((b, .cells #[] el (0, 0)) :: H))) : T P ops Q S n ((i, false) :: rest) e (St w0 H) := by
  refine T.eff (β := Nat) d (fun b => .slice (some ⟨b, 0, none⟩) 0 0) (fun b => St w0 ((b, .cells #[] el (0, 0)) :: H)) hk (fun w hw => ⟨w.heap.size, w.alloc (.cells #[] el), ?_, hw.alloc _⟩) hS h
  unfold bsAt at ha
  unfold runAt
  cases ho : ops[i]? with
  | none => rw [ho] at ha; cases ha
  | some o =>
    rw [ho] at ha
    simp only [Option.map_some] at ha
    split at ha
    · rename_i t' l' ps heq
      simp only [Option.some.injEq, Prod.mk.injEq] at ha
      obtain ⟨a1, a2, a3⟩ := ha
      subst a1
      subst a2
      obtain ⟨ti, hq⟩ := Option.isSome_iff_exists.1 hi
      unfold execOp
      simp only [Option.some.inj heq, Sem.run_bind]
      rw [a3]
      simp [Instr.buildSlice, run_underlying ht, sizeOf, typeInfo, hq, Instr.fill, newRow]
      have e0 : Array.map (fun (_ : Nat) => (default : Value)) (Array.range 0) = #[] := by decide +kernel
      rw [e0]
    · cases ha
/-- x[:k]. -/
theorem T.sliceTo {i : Nat} {m : Bool} (d : Nat) (t el : Nat) (A : Option Addr) (len c : Nat) (k : Int) (j : Nat) (hk : okAt ops n e i d = true) (hx : slAt ops e i = some (t, .slice A len c, none, some (.int .i64 k))) (ht : P.underlying t = some (.slice el))
    (hi : (P.info? el).isSome = true) (hj : k = (j : Int)) (hlt : j ≤ c) (h : T P ops Q S n rest ((d, .slice A j c) :: e) Φ) : T P ops Q S n ((i, m) :: rest) e Φ := by
  refine T.pure d _ hk (fun w => ?_) h
  unfold slAt at hx
  unfold runAt
  cases ho : ops[i]? with
  | none => rw [ho] at hx; cases hx
  | some o =>
    rw [ho] at hx
    simp only [Option.map_some] at hx
    split at hx
    · rename_i t' x lo hi' heq
      simp only [Option.some.injEq, Prod.mk.injEq] at hx
      obtain ⟨h1, h2, h3, h4⟩ := hx
      unfold execOp
      simp only [Option.some.inj heq, h1, h2, h3, h4, Option.map_none]
      subst hj
      obtain ⟨ti, hq⟩ := Option.isSome_iff_exists.1 hi
      have hl0 : (0 : Int) ≤ (j : Int) ∧ (j : Int) ≤ (c : Int) := by omega
      have hA : (if c = 0 then A else A.map fun x => x.add 0) = A := by
        split
        · rfl
        · cases A <;> simp [Addr.add]
      simp [Instr.sliceAt, Instr.slice, Instr.sliceBounds, Instr.sliceBound, asIntOf, run_underlying ht, sizeOf, typeInfo, hq, hlt, Addr.add]
    · cases hx
/-- Shifts. -/
def shAt (ops : Array Oper) (e : Env) (i : Nat) : Option (Bool × Value × Value) := match (ops[i]?).map Oper.op with
  | some (Op.binOp .shl _ x y _) => some (true, e.ev x, e.ev y)
  | some (Op.binOp .shr _ x y _) => some (false, e.ev x, e.ev y)
  | _ => none
theorem T.shl {i : Nat} {m : Bool} (d : Nat) (k ky : IntKind) (x y : Int) (v : Value) (hk : okAt ops n e i d = true) (hs : shAt ops e i = some (true, .int k x, .int ky y)) (h0 : 0 ≤ y) (hv : Value.int k (k.wrap (x * 2 ^ min y.toNat k.bits)) = v) (h : T P ops Q S n rest ((d, v) :: e) Φ) : T P ops Q S n ((i, m) :: rest) e Φ := by
  refine T.pure d _ hk (fun w => ?_) h
  unfold shAt at hs
  unfold runAt
  cases ho : ops[i]? with
  | none => rw [ho] at hs; cases hs
  | some o =>
    rw [ho] at hs
    simp only [Option.map_some] at hs
    split at hs
    · rename_i t' a b ty heq
      simp only [Option.some.injEq, Prod.mk.injEq, true_and] at hs
      unfold execOp
      simp only [Option.some.inj heq, hs.1, hs.2]
      have : ¬ y < 0 := by omega
      simp [eqGuard, binOp, Op.shift, this, hv]
    · simp at hs
    · cases hs
theorem T.shr {i : Nat} {m : Bool} (d : Nat) (k ky : IntKind) (x y : Int) (v : Value) (hk : okAt ops n e i d = true) (hs : shAt ops e i = some (false, .int k x, .int ky y)) (h0 : 0 ≤ y) (hv : Value.int k (x.fdiv (2 ^ min y.toNat k.bits)) = v) (h : T P ops Q S n rest ((d, v) :: e) Φ) : T P ops Q S n ((i, m) :: rest) e Φ := by
  refine T.pure d _ hk (fun w => ?_) h
  unfold shAt at hs
  unfold runAt
  cases ho : ops[i]? with
  | none => rw [ho] at hs; cases hs
  | some o =>
    rw [ho] at hs
    simp only [Option.map_some] at hs
    split at hs
    · simp at hs
    · rename_i t' a b ty heq
      simp only [Option.some.injEq, Prod.mk.injEq, true_and] at hs
      unfold execOp
      simp only [Option.some.inj heq, hs.1, hs.2]
      have : ¬ y < 0 := by omega
      simp [eqGuard, binOp, Op.shift, this, hv]
    · cases hs
/-- A byte of a constant string. -/
def ixvAt (ops : Array Oper) (e : Env) (i : Nat) : Option (TypeId × ByteArray × Value) := match (ops[i]?).map Oper.op with
  | some (Op.index t (Operand.const (Value.string s)) y) => some (t, s, e.ev y)
  | _ => none
theorem T.indexS {i : Nat} {m : Bool} (d : Nat) (t : TypeId) (f : Nat → Nat) (k : IntKind) (y : Int) (j N : Nat) (hk : okAt ops n e i d = true) (ht : P.underlying t = some .string) (hx : (ixvAt ops e i).map (fun x => (x.1, x.2.2)) = some (t, .int k y))
    (hf : ((ixvAt ops e i).map (fun x => Nat.beq x.2.1.size N && (List.range N).all (fun q => Nat.beq (x.2.1.data[q]!).toNat (f q)))) = some true) (hj : y = (j : Int)) (hlt : j < N) (h : T P ops Q S n rest ((d, .int .u8 ((f j : Nat) : Int)) :: e) Φ) : T P ops Q S n ((i, m) :: rest) e Φ := by
  refine T.pure d _ hk (fun w => ?_) h
  unfold ixvAt at hx hf
  unfold runAt
  cases ho : ops[i]? with
  | none => rw [ho] at hx; cases hx
  | some o =>
    rw [ho] at hx hf
    simp only [Option.map_some] at hx hf
    split at hx
    · rename_i t' s y' heq
      rw [heq] at hf
      simp only [Option.map_some, Option.some.injEq, Prod.mk.injEq, Bool.and_eq_true] at hx hf
      obtain ⟨rfl, h2⟩ := hx
      have hsz := Nat.eq_of_beq_eq_true hf.1
      have hb := Nat.eq_of_beq_eq_true (List.all_eq_true.1 hf.2 j (by simpa using hlt))
      unfold execOp
      simp only [Option.some.inj heq]
      rw [show e.ev (Operand.const (Value.string s)) = .string s from rfl, h2]
      subst hj
      have hl : (0 : Int) ≤ (j : Int) ∧ (j : Int) < (s.size : Int) := by omega
      have hlt' : j < s.size := by omega
      rw [← hb]
      simp [Instr.index, asIntOf, run_underlying ht, hlt']
      rfl
    · simp at hx
/-- Structs and arrays compared. -/
def eqAt (ops : Array Oper) (e : Env) (i : Nat) : Option (Bool × TypeId × Array Value × Array Value) := match (ops[i]?).map Oper.op with
  | some (Op.binOp op t x y _) => match e.ev x, e.ev y, op with | .agg a, .agg b, .eql => some (false, t, a, b) | .agg a, .agg b, .neq => some (true, t, a, b) | _, _, _ => none
  | _ => none
theorem T.eqq {i : Nat} {m : Bool} (d : Nat) (r b : Bool) (neg : Bool) (t : TypeId) (x y : Array Value) (hk : okAt ops n e i d = true) (he : eqAt ops e i = some (neg, t, x, y)) (hg : P.eqGuardType P.depth t = false) (hr : (bif neg then !b else b) = r) (hq : ∀ w, (Op.equal t (.agg x) (.agg y)).run P w = .ok b w)
    (h : T P ops Q S n rest ((d, .bool r) :: e) Φ) : T P ops Q S n ((i, m) :: rest) e Φ := by
  refine T.pure d _ hk (fun w => ?_) h
  unfold eqAt at he
  unfold runAt
  cases ho : ops[i]? with
  | none => rw [ho] at he; cases he
  | some o =>
    rw [ho] at he
    simp only [Option.map_some] at he
    split at he
    · rename_i op t' u v ty heq
      split at he
      · rename_i a b' h1 h2
        simp only [Option.some.injEq, Prod.mk.injEq] at he
        obtain ⟨rfl, rfl, rfl, rfl⟩ := he
        unfold execOp
        simp only [Option.some.inj heq, h1, h2]
        subst hr
        simp [eqGuard, binOp, hg, hq, Go.program, Sem.run]
      · rename_i a b' h1 h2
        simp only [Option.some.injEq, Prod.mk.injEq] at he
        obtain ⟨rfl, rfl, rfl, rfl⟩ := he
        unfold execOp
        simp only [Option.some.inj heq, h1, h2]
        subst hr
        simp [eqGuard, binOp, hg, hq, Go.program, Sem.run]
      · cases he
    · cases he
end
section
variable {P : Program} (w : World)
theorem run_eq_struct (d : Nat) (t : TypeId) (fs : Array Field) (xs ys : Array Value) (ht : P.underlying t = some (.struct fs)) (hp : P.stoodInHeld t = false) (r : Bool) (h : (Op.eqFields d xs ys fs.toList).run P w = .ok r w) :
    (Op.equalIn (d + 1) t (.agg xs) (.agg ys)).run P w = .ok r w := by
  have hf : P.fieldsOf t = fs := by unfold Program.fieldsOf; rw [ht]
  rw [run_equalIn_struct w d t xs ys (by rw [hf]; exact ht) hp, hf]
  exact h
theorem run_eqFields_cons (d : Nat) (xs ys : Array Value) (f : Field) (fs : List Field) (a b : Value) (r r' : Bool) (hn : (f.name == "_") = false) (ha : (part f.type xs f.offset).run P w = .ok a w) (hb : (part f.type ys f.offset).run P w = .ok b w)
    (hr : (Op.equalIn d f.type a b).run P w = .ok r w) (h : (Op.eqFields d xs ys fs).run P w = .ok r' w) : (Op.eqFields d xs ys (f :: fs)).run P w = .ok (r && r') w := by
  have hn' : f.name ≠ "_" := by simpa using hn
  unfold Op.eqFields
  rw [if_pos hn']
  simp only [Sem.run_bind, ha, hb, hr, Result.andThen_ok]
  cases r with
  | false => rfl
  | true => simpa using h
theorem run_eqFields_nil (d : Nat) (xs ys : Array Value) : (Op.eqFields d xs ys []).run P w = .ok true w := rfl
end
end Go.Proofs.Ythhgdkodhokefaa
