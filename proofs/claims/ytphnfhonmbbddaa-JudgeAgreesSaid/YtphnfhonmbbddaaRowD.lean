/- Rows that begin within their block: x = x[1:], x = append(x, y...). No program in sight. -/
import Derived.Test.YtphnfhonmbbddaaGA
namespace Go.Proofs.Ytphnfhonmbbddaa
open Go Go.RowKit
set_option linter.unusedVariables false
/-- A slice that the call owns; it may begin within its block. -/
inductive RowAt (ty : TypeId) (sz : Nat) : Option Addr → Nat → Nat → List Value → List (Nat × Obj) → Prop
  | nil : RowAt ty sz none 0 0 [] []
  | row (g off cap n : Nat) (cur : Array Value) (xs : List Value) (h1 : n ≤ cap) (h2 : cap ≤ maxLen) (h3 : off + cap * sz ≤ cur.size) (h4 : (cur.toList.drop off).take (n * sz) = xs) (h5 : xs.length = n * sz) : RowAt ty sz (some ⟨g, off, none⟩) n cap xs [(g, .cells cur ty (0, 0))]
section
variable {w0 w w' : World} {H H' Hr : List (Nat × Obj)} {ty : TypeId} {sz : Nat} {A : Option Addr} {n c : Nat} {xs : List Value}
theorem RowAt.of (h : RowIs ty sz A n c xs Hr) : RowAt ty sz A n c xs Hr := by
  cases h with
  | nil => exact .nil
  | row g _ _ cur _ h1 h2 h3 h4 h5 => exact .row g 0 _ _ cur _ h1 h2 (by omega) (by simpa using h4) h5
theorem RowAt.cap (h : RowAt ty sz A n c xs Hr) : n ≤ c := by cases h with | nil => exact Nat.le_refl _ | row _ _ _ _ _ _ h1 => exact h1
theorem RowAt.len (h : RowAt ty sz A n c xs Hr) : xs.length = n * sz := by cases h with | nil => simp | row _ _ _ _ _ _ _ _ _ _ h5 => exact h5
theorem RowAt.drop (h : RowAt ty sz A n c xs Hr) {j : Nat} (hj : j ≤ n) : RowAt ty sz (offA A c j sz) (n - j) (c - j) (xs.drop (j * sz)) Hr := by
  cases h with
  | nil =>
    have : j = 0 := by omega
    subst this
    simpa [offA] using RowAt.nil (ty := ty) (sz := sz)
  | row g off _ _ cur _ h1 h2 h3 h4 h5 =>
    unfold offA
    by_cases hc : c = j
    · have hn : n = j := by omega
      subst hn; subst hc
      rw [if_pos rfl]
      refine .row g off _ _ cur _ (Nat.le_refl _) (by omega) (by simp; omega) ?_ (by simp [h5])
      simp [← h5]
    · rw [if_neg hc]
      have hb : j * sz + (c - j) * sz = c * sz := by rw [← Nat.add_mul]; congr 1; omega
      have hb2 : j * sz + (n - j) * sz = n * sz := by rw [← Nat.add_mul]; congr 1; omega
      show RowAt ty sz (some ((⟨g, off, none⟩ : Addr).add (j * sz))) _ _ _ _
      rw [Addr.add_lit]
      refine .row g (off + j * sz) _ _ cur _ (by omega) (by omega) (by omega) ?_ ?_
      · rw [← h4, List.drop_take, List.drop_drop]
        congr 1
        omega
      · rw [List.length_drop, h5]; omega
theorem run_append_at {P : Program} (t tt e : TypeId) (i : TypeInfo) (z : Value) (bytes : Nat) (ht : P.underlying t = some (.slice ty)) (hi : P.info? ty = some i) (hz : i.zero = some z) (hsize : i.size = sz) (hby : i.bytes = bytes) (hzs : z.cells.size = sz) (hsz : 0 < sz)
    (hrow : RowAt ty sz A n c xs Hr) (hs : St w0 (Hr ++ H) w) (a : Addr) (m k : Nat) (news : List Value) (hl : news.length = m * sz) (hnews : ∀ j u, news[j]? = some u → w.cell? (a.add j) = some u) (h1 : ∀ u ∈ news, u.oneCell' = true)
    (h63 : n + m ≤ maxLen) (hbytes : (n + m) * bytes ≤ 140737488355328) :
    ∃ A' c' Hr' w', (Builtin.append_ #[t, t] tt #[.slice A n c, .slice (some a) m k]).run P w = .ok (.slice A' (n + m) c') w' ∧ RowAt ty sz A' (n + m) c' (xs ++ news) Hr' ∧ St w0 (Hr' ++ H) w' := by
  cases hrow with
  | nil =>
    obtain ⟨A', c', Hr', w', h2, h3, h4⟩ := run_append_row (P := P) t tt e i z bytes ht hi hz hsize hby hzs hsz RowIs.nil hs a m k news hl hnews h1 h63 hbytes
    exact ⟨A', c', Hr', w', h2, .of h3, h4⟩
  | row g off _ _ cur _ g1 g2 g3 g4 g5 =>
    have hb := hs.has (g, .cells cur ty (0, 0)) (by simp)
    subst hsize
    subst hby
    have hlen : (xs ++ news).length = (n + m) * i.size := by rw [List.length_append, g5, hl, Nat.add_mul]
    have hxl : xs.length ≤ cur.size - off := by
      have := congrArg List.length g4
      rw [List.length_take, List.length_drop, Array.length_toList] at this
      omega
    by_cases hroom : n + m ≤ c
    · have hm : n * i.size + m * i.size ≤ c * i.size := by rw [← Nat.add_mul]; exact Nat.mul_le_mul_right _ hroom
      have hf := run_firstCells_some (P := P) w i.size m a m k news hl hnews
      have hst := run_storeCells_at P g (off + n * i.size) ty news 0 cur w hb.2 (by simp only [Nat.add_zero]; omega) h1
      simp only [Nat.add_zero] at hst
      refine ⟨some ⟨g, off, none⟩, c, _, _, ?_, .row g off c (n + m) (cur.toList.take (off + n * i.size) ++ news ++ cur.toList.drop (off + n * i.size + news.length)).toArray _ hroom g2 ?_ ?_ hlen, St.write (H1 := []) (H2 := H) hs⟩
      · simp [Builtin.append_, run_underlying ht, sizeOf, typeInfo, hi, Builtin.lenOf, hroom, hf, Addr.add_lit, hst]
      · simp only [List.size_toArray, List.length_append, List.length_take, List.length_drop, Array.length_toList]
        omega
      · simp only []
        rw [List.append_assoc, List.drop_append_of_le_length (by rw [List.length_take, Array.length_toList]; omega), List.drop_take, Nat.add_sub_cancel_left, g4, ← List.append_assoc, ← hlen]
        exact List.take_left
    · have holds : ∀ j u, xs[j]? = some u → w.cell? ((⟨g, off, none⟩ : Addr).add j) = some u := fun j u hu => by
        rw [← g4, List.getElem?_take] at hu
        split at hu
        · rw [List.getElem?_drop] at hu
          rw [Addr.add_lit, cell_of_row w g (off + j) cur ty (0, 0) hb.2]
          simpa using hu
        · cases hu
      have hsmall : n + m ≤ 9223372036854775807 := by simp only [maxLen] at h63; omega
      have hr := run_append_grow (P := P) w t tt ty i z ht hi hz ⟨g, off, none⟩ n c xs g5 holds a m k news hl hnews (by omega) (by omega) (growslice_fits (by omega) hbytes)
      have hge := grownCap_ge w (n + m) c ty
      have hcm : grownCap w (n + m) c ty ≤ maxLen := grownCap_le_maxLen w (n + m) c ty h63
      have hst : St w0 H w := hs.part (List.sublist_append_right _ _)
      refine ⟨_, _, [(w.heap.size, _)], _, hr, ?_, (hst.drew).alloc _⟩
      refine .row w.heap.size 0 _ _ _ _ hge hcm ?_ ?_ hlen
      · simp only [Array.size_append, List.size_toArray, size_zeroCells, hzs, g5, hl, ← Nat.add_mul, Nat.zero_add]
        apply Nat.le_of_eq
        congr 1
        omega
      · simp only [Array.toList_append, List.append_assoc, List.drop_zero]
        rw [← List.append_assoc, ← hlen]
        exact List.take_left
end
section
variable {P : Program} {ops : Array Oper} {Q : Exit → Act → World → Prop} {S : World → Prop} {n : Nat} {rest : List (Nat × Bool)} {e : Env} {w0 : World} {H H' : List (Nat × Obj)}
theorem Arr.rowAt {α : Type} [Cel α] {A : Option Addr} {l : List α} {ty : TypeId} {k c : Nat} {xs : List Value} {Hr : List (Nat × Obj)} (h : RowAt ty (Cel.sz α) A k c xs Hr) (hx : xs = cells l) (hk : k = l.length) (H : List (Nat × Obj)) : Arr (St w0 (Hr ++ H)) A l := by
  intro j hj
  have hlen := cells_len l
  have hp := Cel.pos (α := α)
  cases h with
  | nil => rw [← hk] at hj; omega
  | row g off _ _ cur _ h1 h2 h3 h4 h5 =>
    refine ⟨g, off, rfl, fun w hw t u hu => ?_⟩
    have ht : t < Cel.sz α := by have := (List.getElem?_eq_some_iff.1 hu).1; simpa [Cel.size] using this
    have e1 : (cells l)[j * Cel.sz α + t]? = some u := by rw [cells_get l j t hj ht]; simpa using hu
    rw [← hx, ← h4, List.getElem?_take] at e1
    split at e1
    · rw [List.getElem?_drop] at e1
      rw [Nat.add_assoc]
      exact hw.cell 0 (t := ty) (f := (0, 0)) (c := cur) rfl (by simpa using e1)
    · cases e1
/-- A slice that reads as a list is appended to a row that may begin within its block. -/
theorem T.appE {α : Type} [Cel α] {i : Nat} (d : Nat) (t ty bytes : Nat) (A : Option Addr) (c : Nat) (xl : List α) (Hr : List (Nat × Obj)) (B : Option Addr) (c2 : Nat) (yl : List α) (hp : H.Perm (Hr ++ H')) (hk : okAt ops n e i d = true) (hv : apAt ops e i = some (t, .slice A xl.length c, .slice B yl.length c2))
    (ht : P.underlying t = some (.slice ty)) (hi : (P.info? ty).map (fun i => (i.zero.map (·.cells.size), i.size, i.bytes)) = some (some (Cel.sz α), Cel.sz α, bytes)) (hrow : RowAt ty (Cel.sz α) A xl.length c (cells xl) Hr) (harr : Arr (St w0 (Hr ++ H')) B yl)
    (h63 : (xl.length + yl.length) ≤ maxLen) (hb : (xl.length + yl.length) * bytes ≤ 140737488355328) (hS : ∀ Hr w, St w0 (Hr ++ H') w → S w)
    (h : ∀ A c Hr, RowAt ty (Cel.sz α) A (xl ++ yl).length c (cells (xl ++ yl)) Hr → T P ops Q S n rest ((d, .slice A (xl ++ yl).length c) :: e) (St w0 (Hr ++ H'))) : T P ops Q S n ((i, false) :: rest) e (St w0 H) := by
  refine T.weak (fun w hw => hw.perm hp) ?_
  have hrun : ∀ w, St w0 (Hr ++ H') w → ∃ (x : { y : Option Addr × Nat × List (Nat × Obj) // RowAt ty (Cel.sz α) y.1 (xl ++ yl).length y.2.1 (cells (xl ++ yl)) y.2.2 }) (w' : World), runAt P ops e i w = .ok (.value (.slice x.1.1 (xl ++ yl).length x.1.2.1)) w' ∧ St w0 (x.1.2.2 ++ H') w' := by
    intro w hw
    cases hq : P.info? ty with
    | none => rw [hq] at hi; cases hi
    | some ti =>
      rw [hq] at hi
      simp only [Option.map_some, Option.some.injEq, Prod.mk.injEq] at hi
      obtain ⟨hi1, hi2, hi3⟩ := hi
      obtain ⟨z, hz, hzs⟩ := Option.map_eq_some_iff.1 hi1
      unfold apAt at hv
      cases ho : ops[i]? with
      | none => rw [ho] at hv; cases hv
      | some o =>
        rw [ho] at hv
        simp only [Option.map_some] at hv
        split at hv
        · rename_i args ts heq
          split at hv
          · rename_i x y t1 t2 ha hts
            cases hb2 : Nat.beq t1 t2 with
            | false => rw [hb2] at hv; cases hv
            | true =>
              rw [hb2] at hv
              have e1 := Nat.eq_of_beq_eq_true hb2
              subst e1
              simp only [cond_true, Option.some.injEq, Prod.mk.injEq] at hv
              obtain ⟨v1, v2, v3⟩ := hv
              subst v1
              have ha' : args = #[x, y] := by cases args; simp at ha; rw [ha]
              have ht' : ts = #[t1, t1] := by cases ts; simp at hts; rw [hts]
              by_cases hz0 : yl.length = 0
              · have hl : yl = [] := List.eq_nil_of_length_eq_zero hz0
                subst hl
                have hr := run_append_none (P := P) t1 o.type ty ti ht hq A B xl.length c c2 hrow.cap w
                refine ⟨⟨(A, c, Hr), by simpa using hrow⟩, w, ?_, hw⟩
                rw [runAt_some ho]
                unfold execOp
                simp only [Option.some.inj heq, resolve, invoke, Go.builtin, ha', ht', Sem.run_bind, Sem.run_pure, Result.andThen_ok, List.map_toArray, List.map_cons, List.map_nil, v2, v3, List.length_nil, hr, List.append_nil]
              · obtain ⟨b, off, hA, hr0⟩ := harr.whole (by omega)
                subst hA
                obtain ⟨A', c', Hr', w', hr, hrow', hst⟩ := run_append_at (P := P) (w0 := w0) (H := H') t1 o.type ty ti z bytes ht hq hz hi2 hi3 hzs Cel.pos hrow hw ⟨b, off, none⟩ yl.length c2 (cells yl) (cells_len yl) (fun j u hu => by rw [Addr.add_lit]; exact hr0 w hw j u hu) (cells_one yl) h63 hb
                refine ⟨⟨(A', c', Hr'), by rw [List.length_append, cells_app]; exact hrow'⟩, w', ?_, hst⟩
                rw [runAt_some ho]
                unfold execOp
                simp only [Option.some.inj heq, resolve, invoke, Go.builtin, ha', ht', Sem.run_bind, Sem.run_pure, Result.andThen_ok, List.map_toArray, List.map_cons, List.map_nil, v2, v3, hr, List.length_append]
          · cases hv
        · cases hv
  exact T.eff (β := { y : Option Addr × Nat × List (Nat × Obj) // RowAt ty (Cel.sz α) y.1 (xl ++ yl).length y.2.1 (cells (xl ++ yl)) y.2.2 }) d (fun x => .slice x.1.1 (xl ++ yl).length x.1.2.1) (fun x => St w0 (x.1.2.2 ++ H')) hk hrun (fun x => hS x.1.2.2) (fun x => h _ _ _ x.2)
theorem RowAt.dropL {α : Type} [Cel α] {ty : TypeId} {A : Option Addr} {l : List α} {c : Nat} {Hr : List (Nat × Obj)} (h : RowAt ty (Cel.sz α) A l.length c (cells l) Hr) {j : Nat} (hj : j ≤ l.length) : RowAt ty (Cel.sz α) (offA A c j (Cel.sz α)) (l.drop j).length (c - j) (cells (l.drop j)) Hr := by
  have h1 := h.drop hj
  rw [cells_drop l j hj] at h1
  rwa [List.length_drop]
/-- x[i:j]. -/
theorem T.sliceBoth {Φ : World → Prop} {i : Nat} {m : Bool} (d : Nat) (t el sz : Nat) (A : Option Addr) (len c : Nat) (k k2 : Int) (j j2 m' : Nat) (hk : okAt ops n e i d = true) (hx : slAt ops e i = some (t, .slice A len c, some (.int .i64 k), some (.int .i64 k2))) (ht : P.underlying t = some (.slice el))
    (hi : (P.info? el).map (·.size) = some sz) (hj : k = (j : Int)) (hj2 : k2 = (j2 : Int)) (hlt : j ≤ j2) (hc : j2 ≤ c) (hm' : j2 - j = m') (h : T P ops Q S n rest ((d, .slice (offA A c j sz) m' (c - j)) :: e) Φ) : T P ops Q S n ((i, m) :: rest) e Φ := by
  subst hm'
  refine T.pure d _ hk (fun w => ?_) h
  unfold slAt at hx
  unfold runAt
  cases ho : ops[i]? with
  | none => rw [ho] at hx; cases hx
  | some o =>
    rw [ho] at hx
    simp only [Option.map_some] at hx
    split at hx
    · rename_i t' x lo hi' heq
      simp only [Option.some.injEq, Prod.mk.injEq] at hx
      obtain ⟨h1, h2, h3, h4⟩ := hx
      unfold execOp
      simp only [Option.some.inj heq, h1, h2, h3, h4, Option.map_none]
      subst hj
      subst hj2
      cases hq : P.info? el with
      | none => rw [hq] at hi; cases hi
      | some ti =>
        have hsz : ti.size = sz := by simpa [hq] using hi
        simp [Instr.sliceAt, Instr.slice, Instr.sliceBounds, Instr.sliceBound, asIntOf, run_underlying ht, sizeOf, typeInfo, hq, hlt, hc, hsz, offA]
    · cases hx
/-- The one element that a search finds, as a slice of the row. -/
def pkA {α : Type} [Cel α] (A : Option Addr) (c : Nat) (a : List α) (F : α → Bool) : Option Addr := bif a.any F then offA A c (a.findIdx F) (Cel.sz α) else none
def pkC {α : Type} (c : Nat) (a : List α) (F : α → Bool) : Nat := bif a.any F then c - a.findIdx F else 0
def pkO {α : Type} (a : List α) (F : α → Bool) : List α := (a.find? F).toList
theorem idx_hit {α : Type} {F : α → Bool} : ∀ {l : List α} {j : Nat}, (l.take j).any F = false → ∀ hj : j < l.length, F l[j] = true → l.findIdx F = j ∧ l.any F = true ∧ l.find? F = some l[j]
  | [], j, _, hj, _ => by simp at hj
  | x :: l, 0, _, _, hF => by
    have hF' : F x = true := hF
    simp [List.findIdx_cons, hF']
  | x :: l, j + 1, h, hj, hF => by
    simp only [List.take_succ_cons, List.any_cons, Bool.or_eq_false_iff] at h
    have ih := idx_hit (l := l) (j := j) h.2 (by simpa using hj) (by simpa using hF)
    refine ⟨?_, ?_, ?_⟩
    · rw [List.findIdx_cons, h.1, cond_false, ih.1]
    · rw [List.any_cons, ih.2.1, Bool.or_true]
    · rw [List.find?_cons, h.1]; simpa using ih.2.2
theorem pk_hit {α : Type} [Cel α] {A : Option Addr} {c : Nat} {a : List α} {F : α → Bool} {j : Nat} (h : (a.take j).any F = false) (hj : j < a.length) (hF : F a[j] = true) : pkA A c a F = offA A c j (Cel.sz α) ∧ pkC c a F = c - j ∧ pkO a F = [a[j]] := by
  obtain ⟨h1, h2, h3⟩ := idx_hit h hj hF
  unfold pkA pkC pkO
  rw [h1, h2, h3]
  exact ⟨rfl, rfl, rfl⟩
theorem pk_no {α : Type} [Cel α] {A : Option Addr} {c : Nat} {a : List α} {F : α → Bool} (h : a.any F = false) : pkA A c a F = none ∧ pkC c a F = 0 ∧ pkO a F = [] := by
  unfold pkA pkC pkO
  have : a.find? F = none := by
    rw [List.find?_eq_none]
    intro x hx
    have := List.any_eq_false.1 h x hx
    simpa using this
  rw [h, this]
  exact ⟨rfl, rfl, rfl⟩
theorem Arr.pick {α : Type} [Cel α] {A : Option Addr} {a : List α} {Φ : World → Prop} (h : Arr Φ A a) (c : Nat) (hc : a.length ≤ c) (F : α → Bool) : Arr Φ (pkA A c a F) (pkO a F) := by
  cases hany : a.any F with
  | false => rw [(pk_no (A := A) (c := c) hany).1, (pk_no (A := A) (c := c) hany).2.2]; exact Arr.nil _
  | true =>
    have hlt : a.findIdx F < a.length := List.findIdx_lt_length.2 (by
      obtain ⟨x, hx, h2⟩ := List.any_eq_true.1 hany
      exact ⟨x, hx, h2⟩)
    have hF : F a[a.findIdx F] = true := List.findIdx_getElem
    have hno : (a.take (a.findIdx F)).any F = false := by
      rw [List.any_eq_false]
      intro x hx
      obtain ⟨k, hk, rfl⟩ := List.mem_iff_getElem.1 hx
      rw [List.length_take] at hk
      rw [List.getElem_take]
      have := List.not_of_lt_findIdx (p := F) (xs := a) (i := k) (by omega)
      simpa using this
    obtain ⟨e1, _, e3⟩ := pk_hit (A := A) (c := c) hno hlt hF
    rw [e1, e3]
    have hd := (Arr.drop h c (a.findIdx F) hc).take 1
    rwa [List.drop_eq_getElem_cons hlt, List.take_succ_cons, List.take_zero] at hd
end
end Go.Proofs.Ytphnfhonmbbddaa
