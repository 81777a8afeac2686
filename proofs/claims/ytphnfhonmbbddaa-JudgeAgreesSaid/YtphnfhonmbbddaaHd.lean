/- Slices of slices in the logic: headers as data, rows that the call made, make, clear. No program in sight. -/
import Derived.Laws.OwnMore
import Derived.Test.YtphnfhonmbbddaaOt
import Derived.Test.YtphnfhonmbbddaaMapD
import Derived.Test.YtphnfhonmbbddaaRowD
namespace Go.Proofs.Ytphnfhonmbbddaa
open Go Go.RowKit
set_option linter.unusedVariables false
set_option linter.unusedSectionVars false
/-- A slice as an element of another one: its address, what it reads as, its room. -/
structure Hd (α : Type) where
  A : Option Addr
  l : List α
  c : Nat
instance {α : Type} : Inhabited (Hd α) := ⟨⟨none, [], 0⟩⟩
def Hd.cs {α : Type} (h : Hd α) : Array Value := #[.slice h.A h.l.length h.c]
instance {α : Type} : Cel (Hd α) := ⟨1, Hd.cs, fun _ => rfl, fun a u hu => by simp [Hd.cs] at hu; subst hu; rfl, by decide⟩
def Hd.zero {α : Type} : Hd α := ⟨none, [], 0⟩
/-- A row of its own block. -/
structure OR (α : Type) where
  b : Nat
  l : List α
def OR.hd {α : Type} (r : OR α) : Hd α := ⟨some ⟨r.b, 0, none⟩, r.l, r.l.length⟩
section
variable {α : Type} [Cel α]
/-- A block with a list. -/
abbrev lstB (ty : TypeId) (l : List α) : Obj := .cells (cells l).toArray ty (0, 0)
def rowsH (ty : TypeId) (hs : List (OR α)) : List (Nat × Obj) := hs.map fun r => (r.b, lstB ty r.l)
def setR (hs : List (OR α)) (r k : Nat) (v : α) : List (OR α) := hs.modify r fun o => ⟨o.b, o.l.set k v⟩
end
theorem Arr.ofL {α : Type} [Cel α] {l : List α} {b : Nat} {ty : TypeId} {w0 : World} {H : List (Nat × Obj)} (hm : (b, .cells (cells l).toArray ty (0, 0)) ∈ H) : Arr (St w0 H) (some ⟨b, 0, none⟩) l := fun j hj => ⟨b, 0, rfl, fun w hw t u hu => by
  have ht : t < Cel.sz α := by rw [← Cel.size l[j]]; simpa using (List.getElem?_eq_some_iff.1 hu).1
  refine hw.cellM (off := 0 + j * Cel.sz α + t) hm ?_
  rw [List.getElem?_toArray, Nat.zero_add, cells_get l j t hj ht]
  simpa using hu⟩
theorem Arr.ofR {α : Type} [Cel α] {hs : List (OR α)} {ty : TypeId} {w0 : World} {H H' : List (Nat × Obj)} (hp : H.Perm (rowsH ty hs ++ H')) {r : Nat} (hr : r < hs.length) : Arr (St w0 H) hs[r].hd.A hs[r].l :=
  Arr.ofL (ty := ty) (hp.symm.subset (List.mem_append_left _ (List.mem_map.2 ⟨hs[r], List.getElem_mem hr, rfl⟩)))
section
variable {P : Program} {ops : Array Oper} {Q : Exit → Act → World → Prop} {S : World → Prop} {n : Nat} {rest : List (Nat × Bool)} {e : Env} {Φ : World → Prop} {w0 w : World} {H H' : List (Nat × Obj)} {α : Type} [Cel α]
theorem made_one (zv : Value) (m : Nat) : madeCells #[zv] m = (List.replicate m zv).toArray := by
  apply Array.ext
  · simp [madeCells]
  · intro i h1 h2
    simp [madeCells, Nat.mod_one]
theorem cells_rep (z : α) (hz : Cel.sz α = 1) (zv : Value) (hc : Cel.cs z = #[zv]) : ∀ m : Nat, cells (List.replicate m z) = List.replicate m zv
  | 0 => rfl
  | m + 1 => by
    rw [List.replicate_succ, List.replicate_succ]
    have e : cells (z :: List.replicate m z) = (Cel.cs z).toList ++ cells (List.replicate m z) := rfl
    rw [e, cells_rep z hz zv hc m, hc]; rfl
/-- make([]T, n) -/
theorem T.make {i : Nat} (d t el bytes : Nat) (k : Int) (m : Nat) (z : α) (zv : Value) (l : List α) (hl : l = List.replicate m z) (hk : okAt ops n e i d = true) (hm : RunsV P ops e i (Instr.makeSlice t (.int .i64 k) (.int .i64 k)))
    (ht : P.underlying t = some (.slice el)) (hi : (P.info? el).map (fun i => (i.zero, i.size, i.bytes)) = some (some zv, 1, bytes)) (hz1 : zv.cells = #[zv]) (hc : Cel.cs z = #[zv]) (hz : Cel.sz α = 1) (hkm : k = (m : Int)) (hb : (bytes : Int) * k ≤ 281474976710656) (h63 : k ≤ 9223372036854775807)
    (hS : ∀ b w, St w0 ((b, lstB el l) :: H) w → S w)
    (h : ∀ b, T P ops Q S n rest ((d, .slice (some ⟨b, 0, none⟩) l.length l.length) :: e) (St w0 ((b, lstB el l) :: H))) : T P ops Q S n ((i, false) :: rest) e (St w0 H) :=
  T.effOf (β := Nat) d _ (fun b => .slice (some ⟨b, 0, none⟩) l.length l.length) (fun b => St w0 ((b, lstB el l) :: H)) hk hm (fun w hw => by
    cases hq : P.info? el with
    | none => rw [hq] at hi; cases hi
    | some ti =>
      rw [hq] at hi
      simp only [Option.map_some, Option.some.injEq, Prod.mk.injEq] at hi
      obtain ⟨i1, i2, i3⟩ := hi
      subst hl hkm
      have hr := run_make (P := P) w t el ti zv ht hq i1 .i64 .i64 (m : Int) (m : Int) (by omega) (by omega) (by rw [i3]; exact hb) h63
      refine ⟨w.heap.size, _, ?_, hw.alloc _⟩
      rw [hr, i2, hz1]
      have e1 : ((m : Int)).toNat * 1 = m := by omega
      rw [e1, made_one]
      unfold lstB
      rw [cells_rep z hz zv hc]
      simp) hS h
/-- x[j] = v, in a block with a list. -/
theorem T.setL {i : Nat} (t ty b off : Nat) (v : α) (vv : Value) (l l' : List α) (j : Nat) (hp : H.Perm ((b, lstB ty l) :: H')) (hj : j < l.length) (hl' : l.set j v = l') (hv : vv.cells = Cel.cs v) (ho : off = j * Cel.sz α) (hk : okAt0 ops e i = true) (hs : stAt ops e i = some (t, .pointer (some ⟨b, off, none⟩), vv)) (hi : (P.info? t).map (·.size) = some (Cel.sz α))
    (hS : ∀ w, St w0 ((b, lstB ty l') :: H') w → S w) (h : T P ops Q S n rest e (St w0 ((b, lstB ty l') :: H'))) : T P ops Q S n ((i, false) :: rest) e (St w0 H) := by
  subst hl' ho
  have hlen := cells_len l
  have hz : (Cel.cs v).toList.length = Cel.sz α := by simp [Cel.size]
  have hb : (j + 1) * Cel.sz α ≤ l.length * Cel.sz α := Nat.mul_le_mul_right _ (by omega)
  rw [Nat.add_mul, Nat.one_mul] at hb
  refine T.storeP t b (j * Cel.sz α) vv (cells l).toArray (cells (l.set j v)).toArray ty hk hs (by rw [hi, hv, Cel.size]) ?_ ?_ ?_ hp hS h
  · rw [List.all_eq_true]; rw [hv]; exact fun u hu => Cel.one v u hu
  · rw [hv, hz]; exact cells_set l j v hj
  · rw [hv]; apply Nat.ble_eq_true_of_le; simp only [List.size_toArray]; omega
theorem rows_front {ty : TypeId} {hs : List (OR α)} {r : Nat} (hr : r < hs.length) : ∃ H1 H2, (rowsH ty hs) = H1 ++ (hs[r].b, lstB ty hs[r].l) :: H2 ∧ ∀ k v, rowsH ty (setR hs r k v) = H1 ++ (hs[r].b, lstB ty (hs[r].l.set k v)) :: H2 := by
  refine ⟨rowsH ty (hs.take r), rowsH ty (hs.drop (r + 1)), ?_, fun k v => ?_⟩
  · conv => lhs; rw [← List.take_append_drop r hs, List.drop_eq_getElem_cons hr]
    unfold rowsH
    rw [List.map_append, List.map_cons]
  · unfold setR rowsH
    rw [List.modify_eq_take_cons_drop hr, List.map_append, List.map_cons]
/-- x[r][k] = v -/
theorem T.setRow {i : Nat} (t ty b off : Nat) (v : α) (vv : Value) (hs : List (OR α)) (r k : Nat) (hr : r < hs.length) (hb : b = hs[r].b) (hp : H.Perm (rowsH ty hs ++ H')) (hkl : k < hs[r].l.length) (hv : vv.cells = Cel.cs v) (ho : off = k * Cel.sz α) (hk : okAt0 ops e i = true) (hst : stAt ops e i = some (t, .pointer (some ⟨b, off, none⟩), vv)) (hi : (P.info? t).map (·.size) = some (Cel.sz α))
    (hS : ∀ w, St w0 (rowsH ty (setR hs r k v) ++ H') w → S w) (h : T P ops Q S n rest e (St w0 (rowsH ty (setR hs r k v) ++ H'))) : T P ops Q S n ((i, false) :: rest) e (St w0 H) := by
  obtain ⟨H1, H2, e1, e2⟩ := rows_front (ty := ty) hr
  subst hb
  have hp2 : H.Perm ((hs[r].b, lstB ty hs[r].l) :: (H1 ++ H2 ++ H')) := hp.trans (by rw [e1]; simp only [List.append_assoc, List.cons_append]; exact List.perm_middle)
  have hq : ((hs[r].b, lstB ty (hs[r].l.set k v)) :: (H1 ++ H2 ++ H')).Perm (rowsH ty (setR hs r k v) ++ H') := by rw [e2]; simp only [List.append_assoc, List.cons_append]; exact List.perm_middle.symm
  exact T.setL t ty hs[r].b off v vv hs[r].l _ k hp2 hkl rfl hv ho hk hst hi (fun w hw => hS w (hw.perm hq)) (T.weak (fun w hw => hw.perm hq) h)
theorem rowsH_snoc (ty : TypeId) (hs : List (OR α)) (b : Nat) (l : List α) : (rowsH ty (hs ++ [⟨b, l⟩])).Perm ((b, lstB ty l) :: rowsH ty hs) := by
  unfold rowsH
  rw [List.map_append]
  exact List.perm_append_comm
theorem hd_set (hs : List (OR α)) (r k : Nat) (v : α) : cells ((setR hs r k v).map OR.hd) = cells (hs.map OR.hd) := by
  have key : ∀ (hs : List (OR α)) (r : Nat), (setR hs r k v).map (fun o => Hd.cs o.hd) = hs.map (fun o => Hd.cs o.hd) := by
    intro hs
    induction hs with
    | nil => intro r; simp [setR]
    | cons o hs ih =>
      intro r
      cases r with
      | zero => simp [setR, OR.hd, Hd.cs]
      | succ r =>
        have := ih r
        unfold setR at this ⊢
        simp only [List.modify_succ_cons, List.map_cons, this]
  have h2 : ∀ l : List (OR α), cells (l.map OR.hd) = (l.map (fun o => Hd.cs o.hd)).flatMap Array.toList := by
    intro l
    unfold cells
    rw [List.flatMap_map, List.flatMap_map]; rfl
  rw [h2, h2, key]
/-- clear(x[:k]) -/
theorem T.clearL {i : Nat} (st ty b m c : Nat) (l l' : List α) (z : α) (zv : Value) (ty' : TypeId) (hp : H.Perm ((b, lstB ty l) :: H')) (hm : m ≤ l.length) (hl' : List.replicate m z ++ l.drop m = l') (hc : Cel.cs z = #[zv]) (hz : Cel.sz α = 1) (hzr : ∀ w, (zeroValue ty).run P w = .ok zv w) (hzv : zv.cells = #[zv])
    (hk : okAt0 ops e i = true) (hr : RunsV P ops e i (Builtin.clear_ #[st] ty' #[.slice (some ⟨b, 0, none⟩) m c])) (hu : P.underlying st = some (.slice ty))
    (hS : ∀ w, St w0 ((b, lstB ty l') :: H') w → S w) (h : T P ops Q S n rest e (St w0 ((b, lstB ty l') :: H'))) : T P ops Q S n ((i, false) :: rest) e (St w0 H) := by
  subst hl'
  refine T.effn _ (.tuple #[]) (St w0 ((b, lstB ty (List.replicate m z ++ l.drop m)) :: H')) hk hr (fun w hw => ?_) hS h
  have hw2 := hw.perm hp
  cases m with
  | zero =>
    refine ⟨w, ?_, by simpa using hw2⟩
    simp [Builtin.clear_, run_underlying hu]
  | succ m =>
    have hg := (hw2.has (b, lstB ty l) (by simp)).2
    have hlen := cells_len l
    rw [hz, Nat.mul_one] at hlen
    have hzc : (Builtin.zeroCells zv.cells (m + 1)).toList = List.replicate (m + 1) zv := by
      rw [hzv]
      unfold Builtin.zeroCells
      apply List.ext_getElem
      · simp
      · intro i h1 h2; simp [Nat.mod_one]
    have hone : ∀ u ∈ List.replicate (m + 1) zv, u.oneCell' = true := fun u hu => by
      have := (List.mem_replicate.1 hu).2
      subst this
      exact Cel.one z u (by rw [hc]; simp)
    have hst := run_storeCells_at P b 0 ty (List.replicate (m + 1) zv) 0 (cells l).toArray w hg (by simp [hlen]; omega) hone
    have hcs : (List.take 0 (cells l) ++ List.replicate (m + 1) zv ++ List.drop (0 + (List.replicate (m + 1) zv).length) (cells l)).toArray = (cells (List.replicate (m + 1) z ++ l.drop (m + 1))).toArray := by
      rw [cells_app, cells_rep z hz zv hc, ← cells_drop l (m + 1) hm, hz]
      simp
    refine ⟨_, ?_, St.write (H1 := []) (c' := (cells (List.replicate (m + 1) z ++ l.drop (m + 1))).toArray) hw2⟩
    simp only [Nat.add_zero] at hst
    rw [hcs] at hst
    simp [Builtin.clear_, run_underlying hu, hzr, hzc, hst]
end
end Go.Proofs.Ytphnfhonmbbddaa
