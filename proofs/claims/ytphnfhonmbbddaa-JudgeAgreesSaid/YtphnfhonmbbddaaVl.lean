/- Values and pairs of numbers as data, as keys of maps; the voter's block; blocks of the caller that are only read. -/
import Derived.ChangeKeysEq
import Derived.Test.YtphnfhonmbbddaaGE
namespace Go.Proofs.Ytphnfhonmbbddaa
open Go Go.RowKit
set_option linter.unusedVariables false
set_option linter.unusedSectionVars false
structure Vl where
  ch : Int
  nm : Nm
deriving DecidableEq
def Vl.zero : Vl := ⟨0, Nm.zero⟩
instance inhVl : Inhabited Vl := ⟨Vl.zero⟩
def Vl.cs (v : Vl) : Array Value := #[.int .i64 v.ch,
  .int .u8 (v.nm.b0.toNat : Int), .int .u8 (v.nm.b1.toNat : Int), .int .u8 (v.nm.b2.toNat : Int), .int .u8 (v.nm.b3.toNat : Int), .int .u8 (v.nm.b4.toNat : Int), .int .u8 (v.nm.b5.toNat : Int), .int .u8 (v.nm.b6.toNat : Int), .int .u8 (v.nm.b7.toNat : Int)]
instance : Cel Vl := ⟨9, Vl.cs, fun _ => rfl, fun a u hu => by simp [Vl.cs] at hu; rcases hu with rfl | rfl | rfl | rfl | rfl | rfl | rfl | rfl | rfl <;> rfl, by decide⟩
structure P2 where
  x : Int
  y : Int
deriving DecidableEq
def P2.zero : P2 := ⟨0, 0⟩
def P2.cs (v : P2) : Array Value := #[.int .i64 v.x, .int .i64 v.y]
instance : Cel P2 := ⟨2, P2.cs, fun _ => rfl, fun a u hu => by simp [P2.cs] at hu; rcases hu with rfl | rfl <;> rfl, by decide⟩
set_option maxRecDepth 100000 in
theorem eq_p2 (w : World) (a b : P2) : (Op.equal 105 (.agg a.cs) (.agg b.cs)).run Try.prog w = .ok (a == b) w := by
  have e : (a == b) = ((a.x == b.x) && (a.y == b.y)) := by
    rw [Bool.eq_iff_iff]
    simp only [Bool.and_eq_true, beq_iff_eq]
    constructor
    · rintro rfl; simp
    · rintro ⟨h1, h2⟩
      cases a; cases b; simp_all
  rw [e]
  have hi : ∀ (x y : Int), (Op.equalIn 9999 3 (.int .i64 x) (.int .i64 y)).run Try.prog w = .ok (x == y) w := fun x y => run_equalIn_int w 9998 3 .i64 .i64 x y (by kernel_rfl)
  obtain ⟨ti, hti⟩ := Option.isSome_iff_exists.1 (show (Try.prog.info? 3).isSome = true by kernel_rfl)
  unfold Op.equal
  rw [maxD]
  rw [run_equalIn_array (P := Try.prog) (w := w) 9999 (t := 105) (e := 3) (n := 2) a.cs b.cs (by kernel_rfl) hti]
  have p0 : ∀ c : P2, (part 3 c.cs 0).run Try.prog w = .ok (.int .i64 c.x) w := fun c => by kernel_rfl
  have p1 : ∀ c : P2, (part 3 c.cs 1).run Try.prog w = .ok (.int .i64 c.y) w := fun c => by kernel_rfl
  have hc : Try.prog.cellsOf 3 = 1 := by kernel_rfl
  rw [hc, show List.range 2 = [0, 1] from rfl]
  have hi2 := hi a.y b.y
  cases hx : (a.x == b.x) with
  | false =>
    have h0 := hi a.x b.x
    rw [hx] at h0
    simp [Op.eqItems, p0, h0]
  | true =>
    have h0 := hi a.x b.x
    rw [hx] at h0
    simp only [Op.eqItems, Sem.run_bind, Nat.zero_mul, Nat.one_mul, p0, p1, h0, Result.andThen_ok, Bool.not_true, Bool.false_eq_true, if_false, hi2, Bool.true_and]
    cases (a.y == b.y) <;> simp
theorem keyP2 : KeyTy Try.prog P2 105 where
  eq := fun w a b => eq_p2 w a b
  chk := fun b w a => by kernel_rfl
  und := .inr ⟨2, 3, by kernel_rfl⟩
  bits := fun a => by simp [Instr.sameBits, Cel.cs, P2.cs]
/-- The voter's cells. -/
def vtrCs (m q s z : Int) (p : Nm) (x y : Value) : Array Value := #[.int .i64 m, .int .i64 q, .int .i64 s, .int .i64 z,
  .int .u8 (p.b0.toNat : Int), .int .u8 (p.b1.toNat : Int), .int .u8 (p.b2.toNat : Int), .int .u8 (p.b3.toNat : Int), .int .u8 (p.b4.toNat : Int), .int .u8 (p.b5.toNat : Int), .int .u8 (p.b6.toNat : Int), .int .u8 (p.b7.toNat : Int), x, y]
section
variable {w0 w : World} {H : List (Nat × Obj)} {P : Program} {ops : Array Oper} {Q : Exit → Act → World → Prop} {S : World → Prop} {n : Nat} {rest : List (Nat × Bool)} {e : Env}
theorem St.ext (h : St w0 H w) {b : Nat} {o : Obj} (hb : w0.heap[b]? = some o) : w.heap[b]? = some o := (h.below.block b (Array.getElem?_eq_some_iff.1 hb).1).trans hb
theorem St.extCell (h : St w0 H w) {b off : Nat} {c : Array Value} {t : TypeId} {f : Nat × Nat} {v : Value} (hb : w0.heap[b]? = some (.cells c t f)) (hv : c[off]? = some v) : w.cell? ⟨b, off, none⟩ = some v := by
  rw [cell_of_row _ _ _ _ _ _ (h.ext hb)]; exact hv
theorem St.extRange (h : St w0 H w) {b off : Nat} {c : Array Value} {t : TypeId} {f : Nat × Nat} (cs : Array Value) (hb : w0.heap[b]? = some (.cells c t f)) (hv : (c.toList.drop off).take cs.size = cs.toList) : w.rangeAt b off cs.toList := fun j v hj => by
  have hj' : j < cs.size := by have := (List.getElem?_eq_some_iff.1 hj).1; simpa using this
  rw [← hv, List.getElem?_take, if_pos hj', List.getElem?_drop] at hj
  exact h.extCell hb (by simpa using hj)
variable {κ : Type} [Cel κ] [DecidableEq κ]
theorem run_lookB {mt kt et : TypeId} (K : KeyTy P κ kt) (hu : P.underlying mt = some (.map kt et)) (hz : ∀ w, (zeroValue et).run P w = .ok (.int .i64 0) w) (a : κ) (l : List (κ × Int)) (b : Nat) (hb : w.heap[b]? = some (mapOf l)) :
    (Instr.lookup mt (.map (some b)) (.agg (Cel.cs a)) false).run P w = .ok (.int .i64 (valOf l a)) w := by
  have hg : (getObj b).run P w = .ok (mapOf l) w := by simp only [getObj, Sem.run, hb]; rfl
  have hf := run_find (w := w) K a l
  unfold mapOf at hg
  unfold Instr.lookup
  simp only [Sem.run_bind, run_underlying hu, hg, K.chk, hf, Result.andThen, Sem.run_pure]
  unfold valOf
  cases look l a <;> simp [hz]
theorem T.mapLookB {i : Nat} (d : Nat) (mt kt et : TypeId) (K : KeyTy P κ kt) (a : κ) (l : List (κ × Int)) (b : Nat) (hb : w0.heap[b]? = some (mapOf l)) (hk : okAt ops n e i d = true) (hm : RunsV P ops e i (Instr.lookup mt (.map (some b)) (.agg (Cel.cs a)) false))
    (hu : P.underlying mt = some (.map kt et)) (hz : ∀ w, (zeroValue et).run P w = .ok (.int .i64 0) w) (h : T P ops Q S n rest ((d, .int .i64 (valOf l a)) :: e) (St w0 H)) : T P ops Q S n ((i, false) :: rest) e (St w0 H) :=
  T.val false d _ hk (fun w hw => by
    have hw' : St w0 H w := hw
    rw [hm, Sem.run_bind, run_lookB K hu hz a l b (hw'.ext hb)]; rfl) h
theorem modify_congr {α : Type} (es : Array α) (i : Nat) (f g : α → α) (h : ∀ x, es[i]? = some x → f x = g x) : es.modify i f = es.modify i g := by
  apply Array.ext_getElem?
  intro k
  rw [Array.getElem?_modify, Array.getElem?_modify]
  split
  · rename_i e; subst e
    cases hk : es[i]? with
    | none => rfl
    | some x => simp [h x hk]
  · rfl
/-- m[k] = v. -/
theorem run_mapUpd {mt kt et : TypeId} (K : KeyTy P κ kt) (hu : P.underlying mt = some (.map kt et)) (a : κ) (v : Int) (l : List (κ × Int)) (b : Nat) (hst : St w0 ((b, mapOf l) :: H) w) :
    ∃ w', (Instr.mapUpdate mt (.map (some b)) (.agg (Cel.cs a)) (.int .i64 v)).run P w = .ok () w' ∧ St w0 ((b, mapOf (upd l a v)) :: H) w' := by
  have hg := run_getMap (P := P) hst
  have hf := run_find (w := w) K a l
  have hs := fun o' => run_setObj (P := P) (o' := o') hst ⟨_, _, rfl⟩
  unfold mapOf at hg
  unfold Instr.mapUpdate
  simp only [Sem.run_bind, run_underlying hu, hg, K.chk, hf, Result.andThen]
  refine ⟨_, ?_, St.setO (o' := mapOf (upd l a v)) hst⟩
  unfold upd entI entL
  cases hl : look l a with
  | none =>
    simp only [Option.map_none, hs]
    simp [mapOf, mapAt_snoc]
  | some p =>
    obtain ⟨k, u⟩ := p
    obtain ⟨h1, h2⟩ := look_some hl
    have hk := mapAt_get l 0 k h1
    simp only [h2, Nat.zero_add] at hk
    simp only [Option.map_some, List.getElem?_toArray, hk, Option.getD_some, Instr.keyThatStays, K.bits, if_true, Sem.run_bind, Sem.run_pure, Result.andThen, hs]
    rw [mapOf, mapAt_set (a, v) l 0 k h1 (by rw [h2])]
    rw [modify_congr _ k _ (fun e => { e with val := .int .i64 v }) (fun x hx => by rw [List.getElem?_toArray, hk] at hx; cases hx; rfl)]
    simp
theorem T.mapUpd {H' : List (Nat × Obj)} {i : Nat} (mt kt et : TypeId) (K : KeyTy P κ kt) (a : κ) (v : Int) (l : List (κ × Int)) (b : Nat) (hp : H.Perm ((b, mapOf l) :: H')) (hk : okAt0 ops e i = true) (hm : RunsU P ops e i (Instr.mapUpdate mt (.map (some b)) (.agg (Cel.cs a)) (.int .i64 v)))
    (hu : P.underlying mt = some (.map kt et)) (hS : ∀ w, St w0 ((b, mapOf (upd l a v)) :: H') w → S w)
    (h : T P ops Q S n rest e (St w0 ((b, mapOf (upd l a v)) :: H'))) : T P ops Q S n ((i, false) :: rest) e (St w0 H) :=
  T.effsOf _ (St w0 ((b, mapOf (upd l a v)) :: H')) hk hm (fun w hw => run_mapUpd K hu a v l b (hw.perm hp)) hS h
end
end Go.Proofs.Ytphnfhonmbbddaa
