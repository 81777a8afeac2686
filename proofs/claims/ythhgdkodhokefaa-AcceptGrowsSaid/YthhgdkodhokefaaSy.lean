/- The logic, continued: code, loops, returns; owned memory. No program in sight. -/
import Derived.Maps.AppendAt
import Derived.Test.YthhgdkodhokefaaSx
namespace Go.Proofs.Ythhgdkodhokefaa
open Go Go.RowKit
set_option linter.unusedVariables false

section
variable {P : Program} {Q : Exit → Act → World → Prop} {n : Nat} {e : Env} {Φ Ψ : World → Prop} {c x y : Code}
theorem W.weak (hs : ∀ w, Φ w → Ψ w) (h : W P n e Ψ c Q) : W P n e Φ c Q := fun a w ha hw => h a w ha (hs w hw)
theorem W.sub (e' : Env) (hs : e'.map (fun p => e.get p.1) = e'.map (fun p => e'.get p.1)) (h : W P n e' Φ c Q) : W P n e Φ c Q := fun a w ha hw => h a w (ha.sub hs) hw
theorem W.seq (h : W P n e Φ x (Exit.then (y.wp P Q) Q)) : W P n e Φ (.seq x y) Q := fun a w ha hw => wp_seq (h a w ha hw)
theorem W.skip (h : QN n e Φ Q .normal) : W P n e Φ .skip Q := fun a w ha hw => wp_skip (h a w ha hw)
theorem W.exit {id : Nat} (h : QN n e Φ Q (.exit id)) : W P n e Φ (.exit id) Q := fun a w ha hw => wp_exit (h a w ha hw)
theorem W.ret (h : QN n e Φ Q .ret) : W P n e Φ .ret Q := fun a w ha hw => wp_ret (h a w ha hw)
theorem W.block {id : Nat} (h : W P n e Φ c (Exit.inBlock id Q)) : W P n e Φ (.block id c) Q := fun a w ha hw => wp_block (h a w ha hw)
theorem W.cond {o : Operand} (b : Bool) (hb : e.op o = some (.bool b)) (ht : b = true → W P n e Φ x Q) (hf : b = false → W P n e Φ y Q) : W P n e Φ (.cond o x y) Q := fun a w ha hw =>
  wp_cond_split (ha.eval hb) (fun h => ht h a w ha hw) (fun h => hf h a w ha hw)
/-- The slot's value under another spelling. -/
theorem W.cast (k : Nat) (u v : Value) (hk : e.get k = some u) (he : u = v) (h : W P n ((k, v) :: e) Φ c Q) : W P n e Φ c Q := fun a w ha hw =>
  h a w ⟨ha.size, ha.defers, fun i z hz => by
    rw [Env.get_cons] at hz
    by_cases hi : k = i
    · rw [if_pos hi] at hz; subst hi; rw [← hz, ← he]; exact ha.at_ k _ hk
    · rw [if_neg hi] at hz; exact ha.at_ i z hz⟩ hw
theorem QN.cast {z : Exit} (k : Nat) (u v : Value) (hk : e.get k = some u) (he : u = v) (h : QN n ((k, v) :: e) Φ Q z) : QN n e Φ Q z := fun a w ha hw =>
  h a w ⟨ha.size, ha.defers, fun i z hz => by
    rw [Env.get_cons] at hz
    by_cases hi : k = i
    · rw [if_pos hi] at hz; subst hi; rw [← hz, ← he]; exact ha.at_ k _ hk
    · rw [if_neg hi] at hz; exact ha.at_ i z hz⟩ hw
theorem QN.weak {z : Exit} (hs : ∀ w, Φ w → Ψ w) (h : QN n e Ψ Q z) : QN n e Φ Q z := fun a w ha hw => h a w ha (hs w hw)
theorem QN.sub {z : Exit} (e' : Env) (hs : e'.map (fun p => e.get p.1) = e'.map (fun p => e'.get p.1)) (h : QN n e' Φ Q z) : QN n e Φ Q z := fun a w ha hw => h a w (ha.sub hs) hw
/-- A plain region: its operations in the order of the text. -/
def plainOrd : Nat → List (Nat × Bool) → List (Nat × Bool)
  | 0, l => l
  | k + 1, l => plainOrd k ((k, false) :: l)
theorem wpOps_of_run {ops : Array Oper} : ∀ (l : List Nat) (a : Act) (w : World), (∀ i ∈ l, i < ops.size) → runOrd P ops Q (fun _ => True) (l.map fun i => (i, false)) a w → wpOps P ops Q l a w
  | [], a, w, _, h => h
  | i :: r, a, w, hl, h => by
    have hi : i < ops.size := hl i (by simp)
    have ho : ops[i]? = some ops[i] := Array.getElem?_eq_getElem hi
    have hh := h _ ho
    unfold wpOps
    rw [ho]
    simp only
    unfold wpList at hh
    split
    · rename_i hwd
      rw [if_pos hwd] at hh
      rcases hh with hh | hh
      · refine .inl ?_
        unfold Oper.wp at hh ⊢
        rw [upon_then] at hh
        exact Oper.wp_mono (K := wpList P ops (Exit.then (fun a' w' => True ∧ runOrd P ops Q (fun _ => True) (r.map fun i => (i, false)) a' w') Q) []) (fun a' w' hk => wpOps_of_run r a' w' (fun i hi => hl i (by simp [hi])) hk.2) hh
      · exact .inr ⟨hh.1, hh.2⟩
    · rename_i hwd
      rw [if_neg hwd] at hh
      exact wpOps_of_run r _ w (fun i hi => hl i (by simp [hi])) hh.2
theorem plainOrd_eq (k : Nat) : ∀ l, plainOrd k l = (List.range k).map (fun i => (i, false)) ++ l := by
  induction k with
  | zero => intro l; rfl
  | succ k ih => intro l; rw [plainOrd, ih, List.range_succ, List.map_append]; simp
theorem W.region {id : Nat} {ops : Array Oper} (ord : List (Nat × Bool)) (ho : plainOrd ops.size [] = ord) (h : T P ops Q (fun _ => True) n ord e Φ) : W P n e Φ (.region id ops false) Q := fun a w ha hw => by
  refine wp_region (wpOps_of_run _ a w (fun i hi => by simpa using hi) ?_)
  have := h a w ha hw trivial
  rw [← ho, plainOrd_eq] at this
  simpa using this
/-- Does no exit of these kinds look at the frame of a panic? -/
def NoPanic (Q : Exit → Act → World → Prop) : Prop := ∀ (d : Option Tmp) (v : Value) c a w, Q (.panic c) (Act.put a d v) w → Q (.panic c) a w
theorem NoPanic.then {K : Act → World → Prop} (h : NoPanic Q) : NoPanic (Exit.then K Q) := h
theorem NoPanic.inBlock {id : Nat} (h : NoPanic Q) : NoPanic (Exit.inBlock id Q) := h
theorem NoPanic.body {fn : Func} {R : Ending → World → Prop} : NoPanic (bodyPost P fn R) := fun d v c a w h => by cases d <;> exact h
/-- A region that draws its order. -/
theorem W.drawn {id : Nat} {ops : Array Oper} (S : World → Prop) (ord : List (Nat × Bool)) (hm : P.follows .mixedOrders = true) (hB : (Region.noSelect ops && okOrd ops ord (Array.replicate ops.size false) && (ord.length == ops.size)) = true) (hQ : NoPanic Q)
    (hd : ∀ w, Φ w → Ψ { w with drawn := w.drawn + 1 }) (hS : ∀ w, Ψ w → S w) (h : T P ops Q S n ord e Ψ) : W P n e Φ (.region id ops true) Q := fun a w ha hw =>
  wp_region_order S ord hm hB hQ (hS _ (hd w hw)) (h a _ ha (hd w hw) (hS _ (hd w hw)))
/-- What goes on behind an exit. -/
theorem QN.then_ {z : Act → World → Prop} (h : ∀ a w, Fr n e a → Φ w → z a w) : QN n e Φ (Exit.then z Q) .normal := h
theorem QN.seq (h : W P n e Φ y Q) : QN n e Φ (Exit.then (y.wp P Q) Q) .normal := h
theorem QN.thenExit {K : Act → World → Prop} {id : Nat} (h : QN n e Φ Q (.exit id)) : QN n e Φ (Exit.then K Q) (.exit id) := h
theorem QN.thenRet {K : Act → World → Prop} (h : QN n e Φ Q .ret) : QN n e Φ (Exit.then K Q) .ret := h
theorem QN.blkHit {id : Nat} (h : QN n e Φ Q .normal) : QN n e Φ (Exit.inBlock id Q) (.exit id) := fun a w ha hw => by
  show (if id = id then _ else _); rw [if_pos rfl]; exact h a w ha hw
theorem QN.blkMiss {id id' : Nat} (hne : id' ≠ id) (h : QN n e Φ Q (.exit id')) : QN n e Φ (Exit.inBlock id Q) (.exit id') := fun a w ha hw => by
  show (if id' = id then _ else _); rw [if_neg hne]; exact h a w ha hw
theorem QN.blkNormal {id : Nat} (h : QN n e Φ Q .normal) : QN n e Φ (Exit.inBlock id Q) .normal := h
theorem QN.blkRet {id : Nat} (h : QN n e Φ Q .ret) : QN n e Φ (Exit.inBlock id Q) .ret := h
theorem least_of (p : Nat → Prop) (h : ∃ m, p m) : ∃ m, p m ∧ ∀ k, p k → m ≤ k := by
  obtain ⟨m, hm⟩ := h
  induction m using Nat.strongRecOn with
  | _ m ih =>
    by_cases hk : ∃ k, k < m ∧ p k
    · obtain ⟨k, h1, h2⟩ := hk
      exact ih k h1 h2
    · exact ⟨m, hm, fun k hp => Nat.le_of_not_lt fun hlt => hk ⟨k, hlt, hp⟩⟩
/-- A loop: s is what the round knows. -/
theorem W.loop {σ : Type} (I : σ → Prop) (E : σ → Env) (F : σ → World → Prop) (μ : σ → Nat) (s0 : σ) (hI : I s0) (hE : (E s0).map (fun p => e.get p.1) = (E s0).map (fun p => (E s0).get p.1)) (hF : ∀ w, Φ w → F s0 w)
    (round : ∀ s, I s → W P n (E s) (F s) c (Exit.then (fun a' w' => ∃ s', I s' ∧ μ s' < μ s ∧ Fr n (E s') a' ∧ F s' w') Q)) : W P n e Φ (.loop c) Q := by
  intro a w ha hw
  classical
  let ok : Nat → Act → World → Prop := fun m a w => ∃ s, μ s = m ∧ I s ∧ Fr n (E s) a ∧ F s w
  let least : Act → World → Nat := fun a w => if h : ∃ m, ok m a w then Classical.choose (least_of _ h) else 0
  refine wp_loop (fun a w => ∃ m, ok m a w) least ⟨_, s0, rfl, hI, ha.sub hE, hF w hw⟩ ?_
  intro a w hI'
  have hl : ok (least a w) a w := by
    show ok (if h : ∃ m, ok m a w then Classical.choose (least_of _ h) else 0) a w
    rw [dif_pos hI']; exact (Classical.choose_spec (least_of _ hI')).1
  obtain ⟨s, hs, hIs, hEs, hFs⟩ := hl
  refine wp_mono (round s hIs a w hEs hFs) ?_
  intro x a' w' h
  cases x with
  | normal =>
    obtain ⟨s', h1, h2, h3, h4⟩ := h
    refine ⟨⟨_, s', rfl, h1, h3, h4⟩, ?_⟩
    have hex : ∃ m, ok m a' w' := ⟨_, s', rfl, h1, h3, h4⟩
    have : least a' w' ≤ μ s' := by
      show (if h : ∃ m, ok m a' w' then Classical.choose (least_of _ h) else 0) ≤ _
      rw [dif_pos hex]; exact (Classical.choose_spec (least_of _ hex)).2 _ ⟨s', rfl, h1, h3, h4⟩
    rw [hs] at h2
    exact Nat.lt_of_le_of_lt this h2
  | exit id => exact h
  | goto l => exact h
  | ret => exact h
  | panic ch => exact h
  | outgrown => exact h
theorem QN.back {σ : Type} {I : σ → Prop} {E : σ → Env} {F : σ → World → Prop} {μ : σ → Nat} {m : Nat} (s' : σ) (hI : I s') (hμ : μ s' < m) (hE : (E s').map (fun p => e.get p.1) = (E s').map (fun p => (E s').get p.1)) (hF : ∀ w, Φ w → F s' w) :
    QN n e Φ (Exit.then (fun a' w' => ∃ s', I s' ∧ μ s' < m ∧ Fr n (E s') a' ∧ F s' w') Q) .normal := fun a w ha hw => ⟨s', hI, hμ, ha.sub hE, hF w hw⟩
/-- A function. -/
theorem calls_W {f : FuncId} {fn : Func} {c : Code} {args : Array Value} {w : World} {R : Ending → World → Prop} (hf : P.funcs[f]? = some fn) (hb : fn.body = some c) (e : Env) (hn : fn.ntmps = n)
    (he : (Array.toList (args ++ Array.replicate (fn.ntmps - args.size) undef)).length = n ∧ e.map (fun p => (args ++ Array.replicate (fn.ntmps - args.size) undef)[p.1]?) = e.map (fun p => some p.2)) (h : W P n e (fun w' => w' = w) c (bodyPost P fn R)) : Calls P f args w R := by
  refine calls_of_wp hf hb (h _ _ ⟨by simpa using he.1, rfl, fun i v hv => ?_⟩ rfl)
  exact List.map_inj_left.1 he.2 (i, v) (Env.get_mem hv)
theorem QN.done {fn : Func} {R : Ending → World → Prop} {z : Exit} (hz : z = .ret ∨ z = .normal) (t : Nat) (v : Value) (hr : fn.results = #[.tmp t]) (ht : e.get t = some v) (hR : ∀ w, Φ w → R (.returned v) w) : QN n e Φ (bodyPost P fn R) z := fun a w ha hw => by
  have h1 : (results fn a.tmps).run P w = .ok v w := by
    rw [results_tmp hr, Array.getD_eq_getD_getElem?, ha.at_ t v ht]; rfl
  rcases hz with rfl | rfl <;> exact ⟨ha.defers, v, h1, hR w hw⟩
theorem QN.done0 {fn : Func} {R : Ending → World → Prop} {z : Exit} (hz : z = .ret ∨ z = .normal) (hr : fn.results = #[]) (hR : ∀ w, Φ w → R (.returned (.tuple #[])) w) : QN n e Φ (bodyPost P fn R) z := fun a w ha hw => by
  rcases hz with rfl | rfl <;> exact ⟨ha.defers, _, results_none hr _ _ _, hR w hw⟩
theorem QN.done2 {fn : Func} {R : Ending → World → Prop} {z : Exit} (hz : z = .ret ∨ z = .normal) (t u : Nat) (v v' : Value) (hr : fn.results = #[.tmp t, .tmp u]) (ht : e.get t = some v) (hu : e.get u = some v') (hR : ∀ w, Φ w → R (.returned (.tuple #[v, v'])) w) : QN n e Φ (bodyPost P fn R) z := fun a w ha hw => by
  have h1 : (results fn a.tmps).run P w = .ok (.tuple #[v, v']) w := by
    rw [results_tmp2 hr, Array.getD_eq_getD_getElem?, ha.at_ t v ht, Array.getD_eq_getD_getElem?, ha.at_ u v' hu]; rfl
  rcases hz with rfl | rfl <;> exact ⟨ha.defers, _, h1, hR w hw⟩
/-- A struct result out of a variable, and a second one. -/
theorem QN.doneC2 {fn : Func} {R : Ending → World → Prop} {z : Exit} (hz : z = .ret ∨ z = .normal) (t u : Nat) (ty : TypeId) (b : Nat) (cs : Array Value) (v' : Value) (d : TypeDesc) (hr : fn.results = #[.cell t ty, .tmp u]) (ht : e.get t = some (.pointer (some ⟨b, 0, none⟩))) (hu : e.get u = some v')
    (hun : P.underlying ty = some d) (hd : d.isRow = true) (hi : (P.info? ty).map (·.size) = some cs.size) (hc : ∀ w, Φ w → w.rangeAt b 0 cs.toList) (hR : ∀ w, Φ w → R (.returned (.tuple #[.agg cs, v'])) w) : QN n e Φ (bodyPost P fn R) z := fun a w ha hw => by
  have hl := run_loadVar_mid (P := P) w b 0 ty cs.toList d (hc w hw) hun hd (by rw [hi]; simp)
  have h1 : (results fn a.tmps).run P w = .ok (.tuple #[.agg cs, v']) w := by
    simp [results, hr, Array.getD_eq_getD_getElem?, ha.at_ t _ ht, ha.at_ u _ hu, asAddr, hl]
  rcases hz with rfl | rfl <;> exact ⟨ha.defers, _, h1, hR w hw⟩
theorem QN.doneC {fn : Func} {R : Ending → World → Prop} {z : Exit} (hz : z = .ret ∨ z = .normal) (t : Nat) (ty : TypeId) (b : Nat) (cs : Array Value) (d : TypeDesc) (hr : fn.results = #[.cell t ty]) (ht : e.get t = some (.pointer (some ⟨b, 0, none⟩)))
    (hun : P.underlying ty = some d) (hd : d.isRow = true) (hi : (P.info? ty).map (·.size) = some cs.size) (hc : ∀ w, Φ w → w.rangeAt b 0 cs.toList) (hR : ∀ w, Φ w → R (.returned (.agg cs)) w) : QN n e Φ (bodyPost P fn R) z := fun a w ha hw => by
  have hl := run_loadVar_mid (P := P) w b 0 ty cs.toList d (hc w hw) hun hd (by rw [hi]; simp)
  have h1 : (results fn a.tmps).run P w = .ok (.agg cs) w := by
    simp [results, hr, Array.getD_eq_getD_getElem?, ha.at_ t _ ht, asAddr, hl]
  rcases hz with rfl | rfl <;> exact ⟨ha.defers, _, h1, hR w hw⟩
end
/-- What the call owns: blocks with what they hold; below, all is as it was. -/
structure St (w0 : World) (H : List (Nat × Obj)) (w : World) : Prop where
  below : Below w0.heap.size w0 w
  nodup : (H.map (·.1)).Nodup
  has : ∀ p ∈ H, w0.heap.size ≤ p.1 ∧ w.heap[p.1]? = some p.2
section
variable {w0 w w' : World} {H H' : List (Nat × Obj)}
theorem St.start (w : World) : St w [] w := ⟨Below.refl _ _, List.nodup_nil, fun p hp => by cases hp⟩
theorem St.drew (h : St w0 H w) : St w0 H { w with drawn := w.drawn + 1 } := ⟨h.below.drew, h.nodup, h.has⟩
theorem St.blw (h : St w0 H w) (hb : Below w.heap.size w w') : St w0 H w' :=
  ⟨h.below.trans (hb.mono h.below.size), h.nodup, fun p hp => ⟨(h.has p hp).1, (hb.block p.1 (Array.getElem?_eq_some_iff.1 (h.has p hp).2).1).trans (h.has p hp).2⟩⟩
theorem St.alloc (h : St w0 H w) (o : Obj) : St w0 ((w.heap.size, o) :: H) (w.alloc o) := by
  refine ⟨h.below.alloc h.below.size o, ?_, fun p hp => ?_⟩
  · rw [List.map_cons, List.nodup_cons]
    refine ⟨fun hm => ?_, h.nodup⟩
    obtain ⟨p, hp, he⟩ := List.mem_map.1 hm
    have := (Array.getElem?_eq_some_iff.1 (h.has p hp).2).1
    omega
  · rcases List.mem_cons.1 hp with rfl | hp
    · exact ⟨h.below.size, heap_alloc_new w o⟩
    · exact ⟨(h.has p hp).1, (Below.heap_alloc w o p.1 (Array.getElem?_eq_some_iff.1 (h.has p hp).2).1).trans (h.has p hp).2⟩
theorem St.perm (h : St w0 H w) (hp : H.Perm H') : St w0 H' w := ⟨h.below, (hp.map (·.1)).nodup h.nodup, fun p hm => h.has p (hp.symm.subset hm)⟩
theorem St.part (h : St w0 H w) (hs : H'.Sublist H) : St w0 H' w := ⟨h.below, (hs.map (·.1)).nodup h.nodup, fun p hm => h.has p (hs.subset hm)⟩
theorem St.obj (h : St w0 H w) {k : Nat} {b : Nat} {o : Obj} (hk : H[k]? = some (b, o)) : w.heap[b]? = some o := (h.has (b, o) (List.mem_of_getElem? hk)).2
theorem St.cell (h : St w0 H w) (k : Nat) {b off : Nat} {c : Array Value} {t : TypeId} {f : Nat × Nat} {v : Value} (hk : H[k]? = some (b, .cells c t f)) (hv : c[off]? = some v) : w.cell? ⟨b, off, none⟩ = some v := by
  rw [cell_of_row _ _ _ _ _ _ (h.obj hk)]; exact hv
theorem St.range (h : St w0 H w) (k : Nat) {b off : Nat} {c : Array Value} {t : TypeId} {f : Nat × Nat} (cs : Array Value) (hk : H[k]? = some (b, .cells c t f)) (hv : (c.toList.drop off).take cs.size = cs.toList) : w.rangeAt b off cs.toList := fun j v hj => by
  have hj' : j < cs.size := by have := (List.getElem?_eq_some_iff.1 hj).1; simpa using this
  rw [← hv, List.getElem?_take, if_pos hj', List.getElem?_drop] at hj
  exact h.cell k hk (by simpa using hj)
theorem St.lt (h : St w0 H w) {k : Nat} {b : Nat} {o : Obj} (hk : H[k]? = some (b, o)) : b < w.heap.size := (Array.getElem?_eq_some_iff.1 (h.obj hk)).1
/-- A call that began in w, and owns Hr at its end. -/
theorem St.join {Hr : List (Nat × Obj)} (h : St w0 H w) (hr : St w Hr w') : St w0 (Hr ++ H) w' := by
  refine ⟨h.below.trans (hr.below.mono h.below.size), ?_, fun p hp => ?_⟩
  · rw [List.map_append, List.nodup_append]
    refine ⟨hr.nodup, h.nodup, fun a ha b hb hab => ?_⟩
    obtain ⟨p, hp, rfl⟩ := List.mem_map.1 ha
    obtain ⟨q, hq, rfl⟩ := List.mem_map.1 hb
    have h1 := (hr.has p hp).1
    have h2 := (Array.getElem?_eq_some_iff.1 (h.has q hq).2).1
    omega
  · rcases List.mem_append.1 hp with hp | hp
    · exact ⟨Nat.le_trans h.below.size (hr.has p hp).1, (hr.has p hp).2⟩
    · exact ⟨(h.has p hp).1, (hr.below.block p.1 (Array.getElem?_eq_some_iff.1 (h.has p hp).2).1).trans (h.has p hp).2⟩
/-- One block is written anew. -/
theorem St.write {H1 H2 : List (Nat × Obj)} {b : Nat} {c c' : Array Value} {t : TypeId} {f : Nat × Nat} (h : St w0 (H1 ++ (b, .cells c t f) :: H2) w) : St w0 (H1 ++ (b, .cells c' t f) :: H2) (w.setRow b c') := by
  have hb := h.has (b, .cells c t f) (by simp)
  have hnd := h.nodup
  refine ⟨h.below.trans ⟨rfl, rfl, rfl, by simp [World.setRow], fun k hk => setRow_other w b k c' (by have := hb.1; simp only at this; omega)⟩, by simpa using hnd, fun p hp => ?_⟩
  have hne : ∀ q ∈ H1 ++ H2, q.1 ≠ b := by
    intro q hq he
    rw [List.map_append, List.map_cons, List.nodup_append] at hnd
    obtain ⟨_, n2, n3⟩ := hnd
    rw [List.nodup_cons] at n2
    rcases List.mem_append.1 hq with hq | hq
    · exact n3 q.1 (List.mem_map_of_mem hq) b (by simp) he
    · exact n2.1 (by simp only; rw [← he]; exact List.mem_map_of_mem (f := (·.1)) hq)
  have hold : ∀ q ∈ H1 ++ H2, w0.heap.size ≤ q.1 ∧ (w.setRow b c').heap[q.1]? = some q.2 := fun q hq => by
    have hq' := h.has q (by rcases List.mem_append.1 hq with hq | hq <;> simp [hq])
    exact ⟨hq'.1, (setRow_other w b q.1 c' (hne q hq)).trans hq'.2⟩
  rcases List.mem_append.1 hp with hp | hp
  · exact hold p (by simp [hp])
  · rcases List.mem_cons.1 hp with rfl | hp
    · exact ⟨hb.1, setRow_heap w b c c' t f hb.2⟩
    · exact hold p (by simp [hp])
end
/-- A slice that the call owns. -/
inductive RowIs (ty : TypeId) (sz : Nat) : Option Addr → Nat → Nat → List Value → List (Nat × Obj) → Prop
  | nil : RowIs ty sz none 0 0 [] []
  | row (g cap n : Nat) (cur : Array Value) (xs : List Value) (h1 : n ≤ cap) (h2 : cap ≤ maxLen) (h3 : cur.size = cap * sz) (h4 : cur.toList.take (n * sz) = xs) (h5 : xs.length = n * sz) : RowIs ty sz (some ⟨g, 0, none⟩) n cap xs [(g, .cells cur ty (0, 0))]
section
variable {w0 w w' : World} {H Hr : List (Nat × Obj)} {ty : TypeId} {sz : Nat} {A : Option Addr} {n c : Nat} {xs : List Value}
theorem RowIs.owns (h : RowIs ty sz A n c xs Hr) (hs : St w0 (Hr ++ H) w) : w.ownsRow w0.heap.size ty sz (.slice A n c) n xs := by
  cases h with
  | nil => exact World.ownsRow_nil _ _ _ _
  | row g _ _ cur _ h1 h2 h3 h4 h5 =>
    have := hs.has (g, .cells cur ty (0, 0)) (by simp)
    exact ⟨h5, .inr ⟨g, _, cur, rfl, this.1, this.2, h1, h2, h3, h4⟩⟩
theorem RowIs.of_owns {base : Nat} {v : Value} (h : w.ownsRow base ty sz v n xs) : ∃ A c Hr, v = .slice A n c ∧ RowIs ty sz A n c xs Hr ∧ (∀ p ∈ Hr, base ≤ p.1 ∧ w.heap[p.1]? = some p.2 ∧ v.ownBlock = some p.1) ∧ (Hr.map (·.1)).Nodup := by
  rcases h.2 with ⟨hv, hn⟩ | ⟨g, cap, cur, hv, h1, h2, h3, h4, h5, h6⟩
  · subst hn
    have : xs = [] := List.eq_nil_of_length_eq_zero (by simpa using h.1)
    subst this
    exact ⟨none, 0, [], hv, .nil, (fun p hp => by cases hp), List.nodup_nil⟩
  · exact ⟨_, _, _, hv, .row g cap n cur xs h3 h4 h5 h6 h.1, (fun p hp => by simp at hp; subst hp; exact ⟨h1, h2, by rw [hv]; rfl⟩), by simp⟩
/-- An append to a row that is owned. -/
theorem run_append_row {P : Program} (t tt e : TypeId) (i : TypeInfo) (z : Value) (bytes : Nat) (ht : P.underlying t = some (.slice ty)) (hi : P.info? ty = some i) (hz : i.zero = some z) (hsize : i.size = sz) (hby : i.bytes = bytes) (hzs : z.cells.size = sz) (hsz : 0 < sz)
    (hrow : RowIs ty sz A n c xs Hr) (hs : St w0 (Hr ++ H) w) (a : Addr) (m k : Nat) (news : List Value) (hl : news.length = m * sz) (hnews : ∀ j u, news[j]? = some u → w.cell? (a.add j) = some u) (h1 : ∀ u ∈ news, u.oneCell' = true)
    (h63 : n + m ≤ maxLen) (hbytes : (n + m) * bytes ≤ 140737488355328) :
    ∃ A' c' Hr' w', (Builtin.append_ #[t, t] tt #[.slice A n c, .slice (some a) m k]).run P w = .ok (.slice A' (n + m) c') w' ∧ RowIs ty sz A' (n + m) c' (xs ++ news) Hr' ∧ St w0 (Hr' ++ H) w' := by
  obtain ⟨v', w', hr, hown, hgrow, _, hat⟩ := run_append_own_at (P := P) w w0.heap.size t tt ty i z sz bytes ht hi hz hsize hby hzs hsz (.slice A n c) n xs (hrow.owns hs) a m k news hl hnews h1 h63 hbytes hs.below.size
  obtain ⟨A', c', Hr', rfl, hrow', hH, hnd⟩ := RowIs.of_owns hown
  have hold : ∀ q ∈ H, some q.1 ≠ (Value.slice A n c).ownBlock ∧ q.1 < w.heap.size := fun q hq => by
    have hq' := hs.has q (by simp [hq])
    refine ⟨fun he => ?_, (Array.getElem?_eq_some_iff.1 hq'.2).1⟩
    cases hrow with
    | nil => cases he
    | row g _ _ cur _ =>
      have hnd' := hs.nodup
      simp only [List.map_cons, List.cons_append, List.nil_append, List.nodup_cons] at hnd'
      have e1 : q.1 = g := by simpa [Value.ownBlock] using he
      exact hnd'.1 (by rw [← e1]; exact List.mem_map_of_mem hq)
  refine ⟨A', c', Hr', w', hr, hrow', ?_, ?_, ?_⟩
  · refine hs.below.grown hgrow hs.below.size (fun k hk => ?_)
    exact ((hrow.owns hs).lt k hk).1
  · rw [List.map_append, List.nodup_append]
    refine ⟨hnd, ?_, ?_⟩
    · have := hs.nodup
      rw [List.map_append, List.nodup_append] at this
      exact this.2.1
    · intro x hx y hy hxy
      subst hxy
      obtain ⟨p, hp, rfl⟩ := List.mem_map.1 hx
      obtain ⟨q, hq, hqe⟩ := List.mem_map.1 hy
      have h2 := (hH p hp).2.2
      obtain ⟨o1, o2⟩ := hold q hq
      rcases hat with hat | hat
      · rw [hat] at h2; rw [hqe] at o1; exact o1 h2.symm
      · rw [hat] at h2; have := Option.some.inj h2; omega
  · intro p hp
    rcases List.mem_append.1 hp with hp | hp
    · exact ⟨(hH p hp).1, (hH p hp).2.1⟩
    · obtain ⟨o1, o2⟩ := hold p hp
      have hp' := hs.has p (by simp [hp])
      exact ⟨hp'.1, (hgrow.block p.1 o2 o1).trans hp'.2⟩
end
end Go.Proofs.Ythhgdkodhokefaa
