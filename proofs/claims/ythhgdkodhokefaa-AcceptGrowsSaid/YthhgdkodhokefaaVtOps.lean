/- Laws for operations on whole votes: a slice literal of one vote, names inside votes, rows of votes. -/
import Derived.Great.BuildSlice
import Derived.Test.YthhgdkodhokefaaCourt
namespace Go.Proofs.Ythhgdkodhokefaa
open Go Go.RowKit
set_option linter.unusedVariables false

def vtZ : Value := .agg #[.int .i64 0, .int .i64 0, .int .i64 0, .int .i64 0, .int .i64 0, .int .i64 0, .int .u8 0, .int .u8 0, .int .u8 0, .int .u8 0, .int .u8 0, .int .u8 0, .int .u8 0, .int .u8 0, .int .u8 0, .int .u8 0, .int .u8 0, .int .u8 0, .int .u8 0, .int .u8 0, .int .u8 0, .int .u8 0]
theorem info_vt : (Try.prog.info? 26).map (fun i => (i.zero, i.size, i.bytes)) = some (some vtZ, 22, 64) := by kernel_rfl
theorem fill_vt (u : Vt) : Instr.fill (fun i => some (i * 22, 22)) ((Array.range (1 * 22)).map (vtZ.cells[· % vtZ.cells.size]!)) [(0, .agg u.cs)] = some u.cs := by kernel_rfl
section
variable {ops : Array Oper} {Q : Exit → Act → World → Prop} {a : Act} {w : World} {rest : List Oper} {o : Oper}
/-- A slice literal of one vote. -/
theorem wpList_lit_vt (hg : o.guard = none) (x : Operand) (ho : o.op = .buildSlice 27 1 #[(0, x)]) (u : Vt) (hx : a.eval x = .agg u.cs)
    (h : wpList Try.prog ops Q rest (a.put o.dst (.slice (some ⟨w.heap.size, 0, none⟩) 1 1)) (w.alloc (.cells u.cs 26))) : wpList Try.prog ops Q (o :: rest) a w := by
  obtain ⟨i0, hi, hz0, hz1, hz2⟩ := info_parts info_vt
  refine wpList_buildSlice hg 27 26 1 #[(0, x)] ho u.cs i0 vtZ Try.underlying27 hi hz0 (by rw [hz1]; decide) (by rw [hz1]; decide) ?_ h
  rw [hz1]
  have : (#[(0, x)].map fun (i, x) => (i, a.eval x)).toList = [(0, .agg u.cs)] := by simp [hx]
  rw [this]
  exact fill_vt u
theorem VtAt.parR {b off : Nat} {v : Vt} (h : VtAt w b off v) : w.rangeAt b (off + 6) v.par.cs.toList := fun j u hu => by
  have hj : j < 8 := (List.getElem?_eq_some_iff.1 hu).1
  have := h (6 + j) u (by
    have hc : ∀ i : Fin 8, v.cs[6 + i.val]? = v.par.cs.toList[i.val]? := by
      intro i
      match i with
      | 0 => rfl
      | 1 => rfl
      | 2 => rfl
      | 3 => rfl
      | 4 => rfl
      | 5 => rfl
      | 6 => rfl
      | 7 => rfl
    rw [hc ⟨j, hj⟩]; exact hu)
  rw [← Nat.add_assoc] at this
  exact this
theorem VtAt.valR {b off : Nat} {v : Vt} (h : VtAt w b off v) : w.rangeAt b (off + 14) v.val.cs.toList := fun j u hu => by
  have hj : j < 8 := (List.getElem?_eq_some_iff.1 hu).1
  have := h (14 + j) u (by
    have hc : ∀ i : Fin 8, v.cs[14 + i.val]? = v.val.cs.toList[i.val]? := by
      intro i
      match i with
      | 0 => rfl
      | 1 => rfl
      | 2 => rfl
      | 3 => rfl
      | 4 => rfl
      | 5 => rfl
      | 6 => rfl
      | 7 => rfl
    rw [hc ⟨j, hj⟩]; exact hu)
  rw [← Nat.add_assoc] at this
  exact this
theorem nm_info : (Try.prog.info? 24).map (·.size) = some 8 := by kernel_rfl
/-- A name is loaded. -/
theorem wpList_load_nm (hw : Region.wanted o (yielded ops a.tmps) = true) (x : Operand) (ho : o.op = .load 24 x) (b off : Nat) (hx : a.eval x = .pointer (some ⟨b, off, none⟩)) (n : Nm) (hv : w.rangeAt b off n.cs.toList)
    (h : wpList Try.prog ops Q rest (a.put o.dst (.agg n.cs)) w) : wpList Try.prog ops Q (o :: rest) a w := by
  refine wpList_wanted hw fun K hK => wp_load_mid 24 x ho b off hx n.cs.toList _ hv nm_under rfl ?_ (hK _ _ ?_)
  · rw [nm_info]; rfl
  · simpa using h
end
/-- The cells of a list of votes. -/
def vcells (l : List Vt) : List Value := l.flatMap fun v => v.cs.toList
theorem vcells_len (l : List Vt) : (vcells l).length = l.length * 22 := by
  induction l with
  | nil => rfl
  | cons v l ih => simp only [vcells, List.flatMap_cons, List.length_append, List.length_cons] at *; rw [ih]; simp [Vt.cs_size]; omega
theorem vcells_get (l : List Vt) : ∀ (j t : Nat) (h : j < l.length), t < 22 → (vcells l)[j * 22 + t]? = l[j].cs[t]? := by
  induction l with
  | nil => intro j t h; simp at h
  | cons v l ih =>
    intro j t h ht
    cases j with
    | zero =>
      simp only [vcells, List.flatMap_cons]
      rw [List.getElem?_append_left (by simp [Vt.cs_size]; omega)]
      simp
    | succ j =>
      simp only [vcells, List.flatMap_cons]
      rw [List.getElem?_append_right (by simp [Vt.cs_size]; omega)]
      have e : (j + 1) * 22 + t - v.cs.toList.length = j * 22 + t := by simp [Vt.cs_size]; omega
      rw [e]
      exact ih j t (by simpa using h) ht
theorem vcells_snoc (l : List Vt) (v : Vt) : vcells (l ++ [v]) = vcells l ++ v.cs.toList := by simp [vcells]
theorem vcells_one (l : List Vt) : ∀ u ∈ vcells l, u.oneCell' = true := by
  intro u hu
  simp only [vcells, List.mem_flatMap] at hu
  obtain ⟨v, _, hv⟩ := hu
  simp [Vt.cs] at hv
  rcases hv with rfl | rfl | rfl | rfl | rfl | rfl | rfl | rfl | rfl | rfl | rfl | rfl | rfl | rfl | rfl | rfl | rfl | rfl | rfl | rfl | rfl | rfl <;> rfl
theorem RdV.of_own {w : World} {base : Nat} {A : Option Addr} {c : Nat} {l : List Vt} (h : w.ownsRow base 26 22 (.slice A l.length c) l.length (vcells l)) : RdV w A l := by
  intro j hj
  rcases h.2 with ⟨h1, h2⟩ | ⟨g, cap, cur, hv, hb, hg, hnc, hm, hs, ht⟩
  · omega
  · injection hv with hA hn hc
    refine ⟨g, 0, hA, (Array.getElem?_eq_some_iff.1 hg).1, fun t u hu => ?_⟩
    have ht22 : t < 22 := by have := (Array.getElem?_eq_some_iff.1 hu).1; rwa [Vt.cs_size] at this
    have e1 : (vcells l)[j * 22 + t]? = some u := by rw [vcells_get l j t hj ht22]; exact hu
    have : cur.toList[j * 22 + t]? = some u := by
      rw [← ht] at e1
      rw [List.getElem?_take] at e1
      split at e1
      · exact e1
      · cases e1
    rw [cell_of_row _ _ _ _ _ _ hg]
    simpa using this
end Go.Proofs.Ythhgdkodhokefaa
