/- The plain law of the search: waiting and done. -/
import Derived.Test.YtphnfhonmbbddaaGreatCeP
import Derived.Test.YtphnfhonmbbddaaGreatMapD
namespace Go.Proofs.YtphnfhonmbbddaaGreat
open Go Go.RowKit
set_option linter.unusedVariables false

/-- One vote is wanted. -/
def wantM (D : List (Vt × Int)) (W : MB Vt) (v : Vt) : MB Vt := bif valOf D v == 0 then W.upd v 1 else W
def wants (D : List (Vt × Int)) (W : MB Vt) (l : List Vt) : MB Vt := l.foldl (wantM D) W
theorem wants_app (D : List (Vt × Int)) (W : MB Vt) (l r : List Vt) : wants D W (l ++ r) = wants D (wants D W l) r := List.foldl_append
theorem wants_nil (D : List (Vt × Int)) (W : MB Vt) : wants D W [] = W := rfl
theorem pkF_some {a : List Vt} {F : Vt → Bool} {u : Vt} (h : a.find? F = some u) : pkF a F = [u] := by unfold pkF; rw [h]; rfl
theorem pkF_none {a : List Vt} {F : Vt → Bool} (h : a.find? F = none) : pkF a F = [] := by unfold pkF; rw [h]; rfl
structure One (D : List (Vt × Int)) : Prop where
  nd : (D.map (·.1)).Nodup
  one : ∀ x ∈ D, x.2 = 1
theorem One.nil : One [] := ⟨by simp, by simp⟩
theorem One.val {D : List (Vt × Int)} (h : One D) (v : Vt) : (valOf D v == 0) = !(decide (v ∈ D.map (·.1))) := by
  by_cases hv : v ∈ D.map (·.1)
  · obtain ⟨x, hx, rfl⟩ := List.mem_map.1 hv
    have := h.one x hx
    rw [valOf_mem h.nd (show (x.1, (1 : Int)) ∈ D by rw [← this]; exact hx)]
    simp only [hv, decide_true]; rfl
  · have : look D v = none := look_none.2 fun x hx e => hv (by rw [← e]; exact List.mem_map_of_mem (f := (·.1)) hx)
    unfold valOf
    rw [this]
    simp only [hv, decide_false]; rfl
theorem One.updo {D : List (Vt × Int)} (h : One D) (v : Vt) : One (upd D v 1) := by
  refine ⟨upd_keys h.nd, fun x hx => ?_⟩
  rcases (upd_mem h.nd x).1 hx with rfl | ⟨h1, _⟩
  · rfl
  · exact h.one x h1
theorem One.updk {D : List (Vt × Int)} (h : One D) (v u : Vt) : u ∈ (upd D v 1).map (·.1) ↔ u = v ∨ u ∈ D.map (·.1) := by
  rw [List.mem_map, List.mem_map]
  constructor
  · rintro ⟨x, hx, rfl⟩
    rcases (upd_mem h.nd x).1 hx with rfl | ⟨h1, _⟩
    · exact .inl rfl
    · exact .inr ⟨x, h1, rfl⟩
  · rintro (rfl | ⟨x, hx, rfl⟩)
    · exact ⟨(u, 1), (upd_mem h.nd _).2 (.inl rfl), rfl⟩
    · by_cases e : x.1 = v
      · exact ⟨(v, 1), (upd_mem h.nd _).2 (.inl rfl), e.symm⟩
      · exact ⟨x, (upd_mem h.nd _).2 (.inr ⟨hx, e⟩), rfl⟩
theorem wants_ok {D : List (Vt × Int)} : ∀ (l : List Vt) (W : MB Vt), W.Ok → (wants D W l).Ok
  | [], _, h => h
  | v :: l, W, h => by
    show (wants D (wantM D W v) l).Ok
    refine wants_ok l _ ?_
    unfold wantM
    cases (valOf D v == 0) with
    | true => exact MB.upd_ok h v 1
    | false => exact h
theorem wants_keys {D : List (Vt × Int)} (hD : One D) : ∀ (l : List Vt) (W : MB Vt) (u : Vt), u ∈ (wants D W l).keys ↔ u ∈ W.keys ∨ (u ∈ l ∧ u ∉ D.map (·.1))
  | [], W, u => by simp [wants_nil]
  | v :: l, W, u => by
    show u ∈ (wants D (wantM D W v) l).keys ↔ _
    rw [wants_keys hD l]
    unfold wantM
    rw [hD.val v]
    by_cases hv : v ∈ D.map (·.1)
    · simp only [hv, decide_true, Bool.not_true, cond_false, List.mem_cons]
      constructor
      · rintro (h | ⟨h, h2⟩)
        · exact .inl h
        · exact .inr ⟨.inr h, h2⟩
      · rintro (h | ⟨rfl | h, h2⟩)
        · exact .inl h
        · exact absurd hv h2
        · exact .inr ⟨h, h2⟩
    · simp only [hv, decide_false, Bool.not_false, cond_true, List.mem_cons]
      rw [MB.upd_keys]
      constructor
      · rintro ((rfl | h) | ⟨h, h2⟩)
        · exact .inr ⟨.inl rfl, hv⟩
        · exact .inl h
        · exact .inr ⟨.inr h, h2⟩
      · rintro (h | ⟨rfl | h, h2⟩)
        · exact .inl (.inr h)
        · exact .inl (.inl rfl)
        · exact .inr ⟨h, h2⟩
/-- What holds between the steps of the search. -/
structure CeI (N : Vt → List Vt) (S a : List Vt) (W : MB Vt) (D : List (Vt × Int)) : Prop where
  ok : W.Ok
  one : One D
  w : ∀ u ∈ W.keys, u ∈ a ∧ Clo N S u
  d : ∀ u ∈ D.map (·.1), u ∈ a ∧ Clo N S u
  dis : ∀ u ∈ W.keys, u ∉ D.map (·.1)
  st : ∀ u ∈ S, u ∈ W.keys ∨ u ∈ D.map (·.1)
  nd : ∀ v ∈ D.map (·.1), ∀ u ∈ N v, u ∈ W.keys ∨ u ∈ D.map (·.1)
theorem CeI.start {N : Vt → List Vt} {S a : List Vt} (hS : ∀ u ∈ S, u ∈ a) : CeI N S a (wants [] MB.new S) [] := by
  have hk : ∀ u, u ∈ (wants [] MB.new S).keys ↔ u ∈ S := fun u => by
    rw [wants_keys One.nil]
    simp [MB.keys, MB.new]
  exact ⟨wants_ok S _ MB.Ok.new, One.nil, fun u hu => ⟨hS u ((hk u).1 hu), .start ((hk u).1 hu)⟩, fun u hu => by simp at hu, fun u _ h => by simp at h, fun u hu => .inl ((hk u).2 hu), fun v hv => by simp at hv⟩
theorem CeI.step {N : Vt → List Vt} {S a : List Vt} {W : MB Vt} {D : List (Vt × Int)} (h : CeI N S a W D) {v : Vt} (hv : v ∈ W.keys) (hN : ∀ u ∈ N v, u ∈ a) : CeI N S a (wants (upd D v 1) (W.del v) (N v)) (upd D v 1) := by
  have hD := h.one.updo v
  have hk : ∀ u, u ∈ (wants (upd D v 1) (W.del v) (N v)).keys ↔ (u ∈ W.keys ∧ u ≠ v) ∨ (u ∈ N v ∧ u ≠ v ∧ u ∉ D.map (·.1)) := fun u => by
    rw [wants_keys hD, MB.del_keys h.ok, h.one.updk, not_or]
  have hv2 := h.w v hv
  refine ⟨wants_ok _ _ (MB.del_ok h.ok v), hD, fun u hu => ?_, fun u hu => ?_, fun u hu hd => ?_, fun u hu => ?_, fun x hx u hu => ?_⟩
  · rcases (hk u).1 hu with ⟨h1, _⟩ | ⟨h1, _⟩
    · exact h.w u h1
    · exact ⟨hN u h1, .step hv2.2 h1⟩
  · rcases (h.one.updk v u).1 hu with rfl | h1
    · exact hv2
    · exact h.d u h1
  · rcases (h.one.updk v u).1 hd with rfl | h1
    · rcases (hk u).1 hu with ⟨_, h2⟩ | ⟨_, h2, _⟩ <;> exact h2 rfl
    · rcases (hk u).1 hu with ⟨h2, _⟩ | ⟨_, _, h2⟩
      · exact h.dis u h2 h1
      · exact h2 h1
  · by_cases e : u = v
    · exact .inr ((h.one.updk v u).2 (.inl e))
    · rcases h.st u hu with h1 | h1
      · exact .inl ((hk u).2 (.inl ⟨h1, e⟩))
      · exact .inr ((h.one.updk v u).2 (.inr h1))
  · by_cases e : u = v
    · exact .inr ((h.one.updk v u).2 (.inl e))
    · by_cases ed : u ∈ D.map (·.1)
      · exact .inr ((h.one.updk v u).2 (.inr ed))
      · rcases (h.one.updk v x).1 hx with rfl | h1
        · exact .inl ((hk u).2 (.inr ⟨hu, e, ed⟩))
        · rcases h.nd x h1 u hu with h2 | h2
          · exact .inl ((hk u).2 (.inl ⟨h2, e⟩))
          · exact absurd h2 ed
theorem CeI.keep {N : Vt → List Vt} {S a : List Vt} {W : MB Vt} {D : List (Vt × Int)} (h : CeI N S a W D) {v u : Vt} (hu : u ∈ W.keys) (hne : u ≠ v) : u ∈ (wants (upd D v 1) (W.del v) (N v)).keys := by
  rw [wants_keys (h.one.updo v), MB.del_keys h.ok]
  exact .inl ⟨hu, hne⟩
/-- How many are not done. -/
def left (a : List Vt) (D : List (Vt × Int)) : Nat := (a.filter (fun u => !(decide (u ∈ D.map (·.1))))).length
theorem filter_lt {α : Type} {p q : α → Bool} : ∀ {l : List α}, (∀ x ∈ l, q x = true → p x = true) → (∃ x ∈ l, p x = true ∧ q x = false) → (l.filter q).length < (l.filter p).length
  | [], _, h => by obtain ⟨x, hx, _⟩ := h; cases hx
  | y :: l, h1, h2 => by
    have hle : (l.filter q).length ≤ (l.filter p).length := by
      have : ∀ m : List α, (∀ x ∈ m, q x = true → p x = true) → (m.filter q).length ≤ (m.filter p).length := by
        intro m
        induction m with
        | nil => intro _; simp
        | cons z m ih =>
          intro hz
          have ih' := ih fun x hx => hz x (List.mem_cons_of_mem _ hx)
          rw [List.filter_cons, List.filter_cons]
          have := hz z (List.mem_cons_self)
          cases hq : q z <;> cases hp : p z <;> simp_all <;> omega
      exact this l fun x hx => h1 x (List.mem_cons_of_mem _ hx)
    rw [List.filter_cons, List.filter_cons]
    obtain ⟨x, hx, hp, hq⟩ := h2
    rcases List.mem_cons.1 hx with rfl | hx
    · rw [hp, hq]; simp; omega
    · have ih := filter_lt (fun x hx => h1 x (List.mem_cons_of_mem _ hx)) ⟨x, hx, hp, hq⟩
      have := h1 y (List.mem_cons_self)
      cases hq' : q y <;> cases hp' : p y <;> simp_all <;> omega
theorem CeI.less {N : Vt → List Vt} {S a : List Vt} {W : MB Vt} {D : List (Vt × Int)} (h : CeI N S a W D) {v : Vt} (hv : v ∈ W.keys) : left a (upd D v 1) < left a D := by
  unfold left
  refine filter_lt (fun x _ hx => ?_) ⟨v, (h.w v hv).1, ?_, ?_⟩
  · have hx' : x ∉ (upd D v 1).map (·.1) := by simpa using hx
    have : x ∉ D.map (·.1) := fun h2 => hx' ((h.one.updk v x).2 (.inr h2))
    simpa using this
  · have := h.dis v hv
    simpa using this
  · have : v ∈ (upd D v 1).map (·.1) := (h.one.updk v v).2 (.inl rfl)
    simpa using this
theorem CeI.fin {N : Vt → List Vt} {S a : List Vt} {W : MB Vt} {D : List (Vt × Int)} (h : CeI N S a W D) (hW : W.l = []) (v : Vt) : v ∈ D.map (·.1) ↔ Clo N S v := by
  have hn : ∀ u, u ∉ W.keys := fun u hu => by unfold MB.keys at hu; rw [hW] at hu; cases hu
  refine ⟨fun hv => (h.d v hv).2, fun hv => ?_⟩
  induction hv with
  | start hs => exact (h.st _ hs).resolve_left (hn _)
  | step _ hu ih => exact (h.nd _ ih _ hu).resolve_left (hn _)
/-- The keys met so far by a range over a map. -/
structure NxI (M : MB Vt) (sn : Array Nat) (nx : List Vt) : Prop where
  mem : ∀ v ∈ nx, v ∈ M.keys
  nod : nx.Nodup
  sn : ∀ x ∈ M.l, sn.contains x.2.2 = true ↔ x.1 ∈ nx
theorem NxI.start (M : MB Vt) : NxI M #[] [] := ⟨by simp, by simp, by simp⟩
theorem nodup_at {α : Type} {l : List α} (h : l.Nodup) {i j : Nat} (hi : i < l.length) (hj : j < l.length) (e : l[i] = l[j]) : i = j := by
  have h1 := List.pairwise_iff_getElem.1 h
  rcases Nat.lt_trichotomy i j with k | k | k
  · exact absurd e (h1 i j hi hj k)
  · exact k
  · exact absurd e.symm (h1 j i hj hi k)
theorem NxI.push {M : MB Vt} (hM : M.Ok) {sn : Array Nat} {nx : List Vt} (h : NxI M sn nx) {y : Vt × Int × Nat} (hy : y ∈ M.l) (hc : sn.contains y.2.2 = false) : NxI M (sn.push y.2.2) (nx ++ [y.1]) := by
  refine ⟨fun v hv => ?_, ?_, fun x hx => ?_⟩
  · rcases List.mem_append.1 hv with hv | hv
    · exact h.mem v hv
    · simp only [List.mem_singleton] at hv
      subst hv
      exact List.mem_map_of_mem (f := (·.1)) hy
  · rw [List.nodup_append]
    refine ⟨h.nod, by simp, fun u hu z hz e => ?_⟩
    simp only [List.mem_singleton] at hz
    subst hz; subst e
    have := (h.sn y hy).2 hu
    rw [hc] at this; cases this
  · rw [List.mem_append, List.mem_singleton, ← h.sn x hx]
    have hinj : x.2.2 = y.2.2 ↔ x.1 = y.1 := by
      constructor
      · intro e
        obtain ⟨i, hi, rfl⟩ := List.mem_iff_getElem.1 hx
        obtain ⟨j, hj, rfl⟩ := List.mem_iff_getElem.1 hy
        have : i = j := nodup_at hM.births (by simpa using hi) (by simpa using hj) (by simpa using e)
        subst this; rfl
      · intro e
        obtain ⟨i, hi, rfl⟩ := List.mem_iff_getElem.1 hx
        obtain ⟨j, hj, rfl⟩ := List.mem_iff_getElem.1 hy
        have : i = j := nodup_at hM.keys (by simpa using hi) (by simpa using hj) (by simpa using e)
        subst this; rfl
    rw [Array.contains_push, Bool.or_eq_true, beq_iff_eq, hinj]
/-- How many a range has not met. -/
def unmet (M : MB Vt) (sn : Array Nat) : Nat := (M.l.filter (fun x => !sn.contains x.2.2)).length
theorem unmet_less {M : MB Vt} {sn : Array Nat} {y : Vt × Int × Nat} (hy : y ∈ M.l) (hc : sn.contains y.2.2 = false) : unmet M (sn.push y.2.2) < unmet M sn := by
  unfold unmet
  refine filter_lt (fun x _ hx => ?_) ⟨y, hy, by rw [hc]; rfl, by rw [Array.contains_push]; simp⟩
  rw [Array.contains_push] at hx
  cases h : sn.contains x.2.2 with
  | false => rfl
  | true => rw [h] at hx; simp at hx
theorem NxI.some {M : MB Vt} {sn : Array Nat} {nx : List Vt} (h : NxI M sn nx) (hall : ∀ y ∈ M.l, sn.contains y.2.2 = true) (hM : M.l ≠ []) : 0 < nx.length := by
  cases hl : M.l with
  | nil => exact absurd hl hM
  | cons x l =>
    have hx : x ∈ M.l := by rw [hl]; simp
    exact List.length_pos_of_mem ((h.sn x hx).1 (hall x hx))
theorem NxI.len {M : MB Vt} {sn : Array Nat} {nx : List Vt} (hM : M.Ok) (h : NxI M sn nx) : nx.length ≤ M.l.length := by
  have := List.Nodup.length_le_of_subset h.nod (fun v hv => h.mem v hv)
  unfold MB.keys at this
  simpa using this
theorem CeI.len {N : Vt → List Vt} {S a : List Vt} {W : MB Vt} {D : List (Vt × Int)} (h : CeI N S a W D) : W.l.length ≤ a.length ∧ D.length ≤ a.length := by
  have h1 := List.Nodup.length_le_of_subset (l₂ := a) h.ok.keys (fun v hv => (h.w v hv).1)
  have h2 := List.Nodup.length_le_of_subset (l₂ := a) h.one.nd (fun v hv => (h.d v hv).1)
  simp at h1 h2
  exact ⟨h1, h2⟩
/-- In the walk over what waited: what is left of it waits still. -/
structure NxW (W : MB Vt) (nx : List Vt) (j : Nat) : Prop where
  nod : nx.Nodup
  w : ∀ v ∈ nx.drop j, v ∈ W.keys
theorem NxW.step {N : Vt → List Vt} {S a : List Vt} {W : MB Vt} {D : List (Vt × Int)} {nx : List Vt} {j : Nat} (h : CeI N S a W D) (hx : NxW W nx j) (hj : j < nx.length) : nx[j] ∈ W.keys ∧ NxW (wants (upd D nx[j] 1) (W.del nx[j]) (N nx[j])) nx (j + 1) := by
  have hd := List.drop_eq_getElem_cons hj
  have h0 : nx[j] ∈ W.keys := hx.w _ (by rw [hd]; exact List.mem_cons_self)
  refine ⟨h0, hx.nod, fun v hv => ?_⟩
  refine h.keep (hx.w v (by rw [hd]; exact List.mem_cons_of_mem _ hv)) fun e => ?_
  have hn : (nx.drop j).Nodup := List.Pairwise.sublist (List.drop_sublist _ _) hx.nod
  rw [hd, List.nodup_cons] at hn
  exact hn.1 (e ▸ hv)
/-- The list of those that decide, one member after the other. -/
def staP (a : List Vt) (o : Oc) (is : List Int) : List Vt := is.filterMap (fun i => a.find? (ouF o i))
theorem staP_snoc (a : List Vt) (o : Oc) (is : List Int) (i : Int) : staP a o (is ++ [i]) = staP a o is ++ pkF a (ouF o i) := by
  unfold staP pkF
  rw [List.filterMap_append]
  congr 1
theorem sta_full {a : List Vt} {o : Oc} {is : List Int} {j : Nat} {q ch : Int} (hj : j < is.length) (hc : ch = (((staP a o (is.take j)).take q.toNat).length : Int)) (hq : ¬ ch < q) (h0 : 0 ≤ q) : (staP a o (is.take (j + 1))).take q.toNat = (staP a o (is.take j)).take q.toNat := by
  rw [List.take_succ_eq_append_getElem hj, staP_snoc, List.take_append_of_le_length]
  have := List.length_take_le q.toNat (staP a o (is.take j))
  have h2 := List.length_take_le' q.toNat (staP a o (is.take j))
  omega
theorem sta_more {a : List Vt} {o : Oc} {is : List Int} {j : Nat} {q ch : Int} (hj : j < is.length) (hc : ch = (((staP a o (is.take j)).take q.toNat).length : Int)) (hq : ch < q) : (staP a o (is.take (j + 1))).take q.toNat = (staP a o (is.take j)).take q.toNat ++ pkF a (ouF o is[j]) := by
  have hl : (staP a o (is.take j)).length < q.toNat := by
    rw [List.length_take] at hc
    omega
  rw [List.take_succ_eq_append_getElem hj, staP_snoc, List.take_of_length_le (l := staP a o (is.take j)) (by omega), List.take_of_length_le]
  have : (pkF a (ouF o is[j])).length ≤ 1 := by unfold pkF; cases a.find? (ouF o is[j]) <;> simp
  rw [List.length_append]; omega
theorem nodup_clo {m : Int} {a : List Vt} {o : Oc} (ha : a.Nodup) : (cloL m a o).Nodup := List.Pairwise.sublist List.filter_sublist ha
theorem strict_nodup {l : List Vt} (h : Strict l) : l.Nodup := List.Pairwise.imp (fun {x y} hxy e => by subst e; rw [show vless x x = false from vless_swo.irrefl _] at hxy; cases hxy) h
theorem strict_up {l : List Vt} (h : Strict l) : Up vless l := List.Pairwise.imp (fun {x y} hxy => vless_asym hxy) h
/-- What comes out in order. -/
theorem ce_fin {m : Int} {a : List Vt} {o : Oc} {W : MB Vt} {D : List (Vt × Int)} {sn : Array Nat} {out so : List Vt} (hs : Strict a) (h : CeI (needL m a) (staL m a o) a W D) (hW : W.l = []) (hsn : Seen D sn) (hall : ∀ k, k < D.length → sn.contains k = true) (ho : out = pickB (fun _ => true) D sn) (hp : so.Perm out) (ha : Asc vless so) : so = cloL m a o := by
  have h1 : so.Perm (D.map (·.1)) := by
    refine hp.trans ?_
    rw [ho]
    have := pickB_all (g := fun _ => true) hsn hall
    rwa [List.filter_eq_self.2 (fun _ _ => rfl)] at this
  have h2 : so.Perm (cloL m a o) := h1.trans ((List.perm_ext_iff_of_nodup h.one.nd (nodup_clo (strict_nodup hs))).2 fun v => by rw [h.fin hW, clo_mem])
  exact up_ext (asc_up ha) (strict_up (clo_strict hs)) h2 (fun x hx y hy => vless_tot)
end Go.Proofs.YtphnfhonmbbddaaGreat
