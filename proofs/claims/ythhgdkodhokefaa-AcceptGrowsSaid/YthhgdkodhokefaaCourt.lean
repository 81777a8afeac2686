/- court.has for any closure. -/
import Derived.Deep.QuietTactic
import Derived.BigQuiet
import Derived.Deep.Draws
import Derived.Deep.MidRow
import Derived.Deep.WholeRow
import Derived.Test.YthhgdkodhokefaaValid
import Derived.Test.YthhgdkodhokefaaLaw6d
namespace Go.Proofs.Ythhgdkodhokefaa
open Go Go.RowKit
set_option linter.unusedVariables false

/-- The cells of a vote lie at an address. -/
def VtAt (w : World) (b off : Nat) (v : Vt) : Prop := ∀ (t : Nat) (u : Value), v.cs[t]? = some u → w.cell? ⟨b, off + t, none⟩ = some u
/-- A slice of votes that reads as a list. -/
def RdV (w : World) (A : Option Addr) (l : List Vt) : Prop :=
  ∀ j (h : j < l.length), ∃ b off, A = some ⟨b, off, none⟩ ∧ b < w.heap.size ∧ VtAt w b (off + j * 22) l[j]
theorem RdV.below {w w' : World} {A : Option Addr} {l : List Vt} (h : RdV w A l) (hb : Below w.heap.size w w') : RdV w' A l := by
  intro j hj
  obtain ⟨b, off, hA, hlt, hc⟩ := h j hj
  exact ⟨b, off, hA, Nat.lt_of_lt_of_le hlt hb.size, fun t u hu => (hb.cell (p := ⟨b, off + j * 22 + t, none⟩) hlt).trans (hc t u hu)⟩
theorem vt_info : (Try.prog.info? 26).map (·.size) = some 22 := by kernel_rfl
theorem vt_under : ∃ fs, Try.prog.underlying 26 = some (.struct fs) := ⟨_, Try.underlying26⟩
theorem VtAt.range {w : World} {b off : Nat} {v : Vt} (h : VtAt w b off v) : w.rangeAt b off v.cs.toList := fun j u hu => h j u (by simpa using hu)
theorem VtAt.new (w : World) (v : Vt) (t : TypeId) : VtAt (w.alloc (.cells v.cs t)) w.heap.size 0 v := fun t' u hu => by
  rw [Nat.zero_add, cell_of_row _ _ t' v.cs t (0, 0) (heap_alloc_last w _)]; exact hu
theorem VtAt.of_blk {w : World} {b : Nat} {v : Vt} {t : TypeId} (h : w.heap[b]? = some (.cells v.cs t (0, 0))) : VtAt w b 0 v := fun t' u hu => by
  rw [Nat.zero_add, cell_of_row _ _ t' v.cs t (0, 0) h]; exact hu
section
variable {ops : Array Oper} {Q : Exit → Act → World → Prop} {a : Act} {w : World} {rest : List Oper} {o : Oper}
theorem wpList_wanted (hw : Region.wanted o (yielded ops a.tmps) = true) (h : ∀ K : Act → World → Prop, (∀ a w, wpList Try.prog ops Q rest a w → K a w) → o.wp Try.prog a w K Q) : wpList Try.prog ops Q (o :: rest) a w :=
  wpList_step fun K hK => by rw [if_pos hw]; exact h K hK
/-- A whole vote is loaded. -/
theorem wpList_load_vt (hw : Region.wanted o (yielded ops a.tmps) = true) (x : Operand) (ho : o.op = .load 26 x) (b off : Nat) (hx : a.eval x = .pointer (some ⟨b, off, none⟩)) (v : Vt) (hv : VtAt w b off v)
    (h : wpList Try.prog ops Q rest (a.put o.dst (.agg v.cs)) w) : wpList Try.prog ops Q (o :: rest) a w := by
  obtain ⟨fs, hu⟩ := vt_under
  refine wpList_wanted hw fun K hK => wp_load_mid 26 x ho b off hx v.cs.toList _ hv.range hu rfl ?_ (hK _ _ ?_)
  · rw [vt_info]; rfl
  · simpa using h
/-- A whole vote is stored into the block that was made last. -/
theorem wpList_store_vt (hw : Region.wanted o (yielded ops a.tmps) = true) (x y : Operand) (ho : o.op = .store 26 x y) (w0 : World) (c : Array Value) (hc : c.size = 22) (he : w = w0.alloc (.cells c 26)) (hx : a.eval x = .pointer (some ⟨w0.heap.size, 0, none⟩)) (v : Vt) (hy : a.eval y = .agg v.cs)
    (h : wpList Try.prog ops Q rest (a.put o.dst undef) (w0.alloc (.cells v.cs 26))) : wpList Try.prog ops Q (o :: rest) a w := by
  subst he
  refine wpList_wanted hw fun K hK => ?_
  have hs := run_storeAt_new (P := Try.prog) w0 26 c v.cs (by rw [vt_info]; rfl) (by rw [hc]; rfl) (by simp [Vt.cs, Value.oneCell'])
  unfold Oper.wp execOp
  simp only [ho, hx, hy, Sem.run_bind, Sem.run_pure, Result.andThen_ok, hs]
  exact hK _ _ h
end
set_option maxRecDepth 100000 in
set_option maxHeartbeats 2000000 in
theorem has_g (m q : Int) (A : Option Addr) (l : List Vt) (c : Nat) (hl : l.length ≤ 1000) (k : Nat) (lb : Array Value) (he : ∀ args w, (callFunc k args).run Try.prog w = .ok (.enter k args) w)
    (w : World) (J : List Vt → World → Prop) (Jx : World → Prop)
    (hJr : ∀ pre W, J pre W → RdV W A l) (hJb : ∀ pre W W', J pre W → Below W.heap.size W W' → J pre W')
    (hf : ∀ pre v W, J pre W → (∃ rest, l = pre ++ v :: rest) → Calls Try.prog k (#[.agg v.cs] ++ lb) W fun e W' => (e = .returned (.bool false) ∧ J (pre ++ [v]) W') ∨ (e = .returned (.bool true) ∧ Jx W'))
    (h0 : J [] w) :
    Calls Try.prog 45 #[.agg #[.int .i64 m, .int .i64 q, .slice A l.length c], .func (.func k) #[] lb] w fun e W' => (e = .returned (.bool false) ∧ J l W') ∨ (e = .returned (.bool true) ∧ Jx W') := by
  have HR := Lib.hid hJr
  have HB := Lib.hid hJb
  have HF := Lib.hid hf
  have H0 := Lib.hid h0
  clear hJr hJb hf h0
  go_enter Try.func45, Try.ntmps45
  go_wp2
  go_loopw [10] (fun i wr => ∃ j : Nat, j ≤ l.length ∧ i = .int .i64 j ∧ J (l.take j) wr) (fun i _ => l.length - (intOf i).toNat)
  case atStart => exact ⟨0, Nat.zero_le _, rfl, HB.out _ _ _ H0.out ((Below.refl _ _).alloc (Nat.le_refl _) _)⟩
  case round =>
    obtain ⟨j, hj, rfl, hJ⟩ := hrel
    by_cases hlt : j < l.length
    · obtain ⟨b, off, rfl, hb, hv⟩ := HR.out _ _ hJ j hlt
      have HF1 := Lib.hid (HF.out (l.take j) l[j] (wr.alloc (.cells l[j].cs 26)) (HB.out _ _ _ hJ ((Below.refl _ _).alloc (Nat.le_refl _) _)) ⟨l.drop (j + 1), by rw [List.getElem_cons_drop hlt, List.take_append_drop]⟩)
      have HT : Hid (l.take j ++ [l[j]] = l.take (j + 1)) := by show _ = _; rw [List.take_succ_eq_append_getElem hlt]
      generalize l[j] = v at *
      have HV := Lib.hid hv
      clear hv
      go_wp2_with (first
        | (refine wpList_load_vt (by rfl) (.tmp 12) rfl _ _ rfl v HV.out ?_)
        | (refine wpList_store_vt (by rfl) (.tmp 6) (.tmp 13) rfl wr _ rfl rfl rfl v rfl ?_)
        | (refine wpList_load_vt (by rfl) (.tmp 6) rfl _ _ rfl v (VtAt.new _ _ _) ?_))
      refine HF1.out.mono ?_
      rintro e w2 (⟨rfl, hJ2⟩ | ⟨rfl, hx2⟩)
      · go_wp2
        go_roundw
        case rel => exact ⟨j + 1, by omega, by go_num, by rw [← HT.out]; exact hJ2⟩
        case measure => simp [intOf]; omega
      · go_wp2
        go_ret
        exact .inr ⟨rfl, hx2⟩
    · obtain rfl : j = l.length := by omega
      go_wp2
      go_ret
      exact .inl ⟨rfl, by simpa using hJ⟩
end Go.Proofs.Ythhgdkodhokefaa
