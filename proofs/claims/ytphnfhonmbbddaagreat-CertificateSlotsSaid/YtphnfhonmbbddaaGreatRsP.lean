/- The reference on accepted votes: plain facts. -/
import Derived.Test.YtphnfhonmbbddaaGreatBcP
import Derived.Test.YtphnfhonmbbddaaGreatAgP
import Derived.Test.YtphnfhonmbbddaaGreatLaw11q
namespace Go.Proofs.YtphnfhonmbbddaaGreat
open Go Go.RowKit
set_option linter.unusedVariables false

theorem rng_bang {α : Type} [Cel α] [Inhabited α] {b o : Nat} {acc : List α} {s : Nat} (hl : s < acc.length) {Φ : World → Prop} (h : ∀ w, Φ w → w.rangeAt b o (Cel.cs acc[s]).toList) : ∀ w, Φ w → w.rangeAt b o (Cel.cs acc[s]!).toList := by
  rw [getElem!_pos acc s hl]; exact h
theorem w64_rwho (a : List Vt) (k r : Int) (F : Vt → Bool) : W64 (whoM a k r F) := by
  refine snocI (p := fun a => W64 (whoM a k r F)) (by unfold whoM W64; simp) (fun a v ih => ?_) a
  rw [whoM_snoc]
  cases whoP k r F v with
  | true => exact w64_or _ _
  | false => exact ih
/-- The votes of a list, ascending, each once. -/
def srtV (l : List Vt) : List Vt := l.foldr insV []
theorem srtV_mem : ∀ (l : List Vt) (x : Vt), x ∈ srtV l ↔ x ∈ l
  | [], x => Iff.rfl
  | a :: l, x => by
    show x ∈ insV a (srtV l) ↔ _
    rw [insV_mem, srtV_mem l x, List.mem_cons]
theorem srtV_strict : ∀ l : List Vt, Strict (srtV l)
  | [] => List.Pairwise.nil
  | a :: l => insV_strict a _ (srtV_strict l)
theorem srtV_len : ∀ l : List Vt, (srtV l).length ≤ l.length
  | [] => Nat.le_refl _
  | a :: l => by
    have h1 := insV_len a (srtV l)
    have h2 := srtV_len l
    show (insV a (srtV l)).length ≤ _
    rw [List.length_cons]; omega
theorem ascV_srt (p : Nm) (l : List Vt) : ascV p l = srtV (l.filter fun x => x.par == p) := rfl
theorem srt_ready {l : List Vt} (h : Strict l) : srtV l = l := strict_ext (srtV_strict l) h (srtV_mem l)
theorem rdy0 (l : List Vt) : Strict (l.take (0 + 1)) := by
  match l with
  | [] => exact List.Pairwise.nil
  | x :: r => simp [Strict]
theorem rdy_step {l : List Vt} {j : Nat} (h : Strict (l.take (j + 1))) {h0 : j < l.length} {h1 : j + 1 < l.length} (hv : vless l[j] l[j + 1] = true) : Strict (l.take (j + 1 + 1)) := by
  unfold Strict at *
  rw [List.take_succ_eq_append_getElem h1, List.pairwise_append]
  refine ⟨h, List.pairwise_singleton _ _, fun x hx y hy => ?_⟩
  simp only [List.mem_singleton] at hy
  subst hy
  rw [List.take_succ_eq_append_getElem h0] at h hx
  rcases List.mem_append.1 hx with hx | hx
  · have := (List.pairwise_append.1 h).2.2 x hx l[j] (by simp)
    exact vless_swo.trans _ _ _ this hv
  · simp only [List.mem_singleton] at hx; subst hx; exact hv
theorem rdy_bk {l : List Vt} {j : Nat} {rd : Bool} (h : rd = true → Strict (l.take (j + 1))) {h0 : j < l.length} {h1 : j + 1 < l.length} (hr : rd = true) : vless l[j] l[j + 1] = true → Strict (l.take (j + 1 + 1)) := fun hv => rdy_step (h hr) hv
/-- Two ascending lists on their way into one. -/
structure Mrg (l out a b : List Vt) : Prop where
  sa : Strict (out ++ a)
  sb : Strict (out ++ b)
  mem : ∀ x, (x ∈ out ∨ x ∈ a ∨ x ∈ b) ↔ x ∈ l
  len : out.length + a.length + b.length ≤ l.length
theorem Mrg.start (l : List Vt) (h : Nat) : Mrg l [] (srtV (l.take h)) (srtV (l.drop h)) := by
  refine ⟨srtV_strict _, srtV_strict _, fun x => ?_, ?_⟩
  · rw [srtV_mem, srtV_mem]
    conv => rhs; rw [← List.take_append_drop h l]
    rw [List.mem_append]; simp
  · have h1 := srtV_len (l.take h)
    have h2 := srtV_len (l.drop h)
    rw [List.length_take] at h1
    rw [List.length_drop] at h2
    simp only [List.length_nil]; omega
theorem hd_drop {α : Type} {a : List α} (h : 0 < a.length) : a = a[0] :: a.drop 1 := by
  have := List.drop_eq_getElem_cons h
  simpa using this
theorem Mrg.left {l out a b : List Vt} (h : Mrg l out a b) {h0 : 0 < a.length} (hb : ∀ y ∈ b, vless a[0] y = true) : Mrg l (out ++ [a[0]]) (a.drop 1) b := by
  have ea := hd_drop h0
  refine ⟨?_, ?_, fun x => ?_, ?_⟩
  · rw [List.append_assoc, List.singleton_append, ← ea]; exact h.sa
  · have h1 := List.pairwise_append.1 h.sa
    have h2 := List.pairwise_append.1 h.sb
    unfold Strict
    rw [List.append_assoc, List.pairwise_append]
    refine ⟨h1.1, ?_, fun x hx y hy => ?_⟩
    · rw [List.singleton_append, List.pairwise_cons]; exact ⟨hb, h2.2.1⟩
    · rw [List.singleton_append, List.mem_cons] at hy
      rcases hy with rfl | hy
      · exact h1.2.2 x hx _ (List.getElem_mem h0)
      · exact h2.2.2 x hx y hy
  · rw [← h.mem x, List.mem_append, List.mem_singleton]
    have : x ∈ a ↔ x = a[0] ∨ x ∈ a.drop 1 := by
      conv => lhs; rw [ea]
      rw [List.mem_cons]
    rw [this]
    constructor
    · rintro ((h | h) | h | h)
      · exact .inl h
      · exact .inr (.inl (.inl h))
      · exact .inr (.inl (.inr h))
      · exact .inr (.inr h)
    · rintro (h | (h | h) | h)
      · exact .inl (.inl h)
      · exact .inl (.inr h)
      · exact .inr (.inl h)
      · exact .inr (.inr h)
  · have := h.len
    rw [List.length_append, List.length_singleton, List.length_drop]; omega
theorem Mrg.swap {l out a b : List Vt} (h : Mrg l out a b) : Mrg l out b a := ⟨h.sb, h.sa, fun x => by rw [← h.mem x]; constructor <;> (rintro (h | h | h) <;> simp [h]), by have := h.len; omega⟩
theorem Mrg.drop {l out a b : List Vt} (h : Mrg l out a b) {h0 : 0 < a.length} (hb : a[0] ∈ b) : Mrg l out (a.drop 1) b := by
  have ea := hd_drop h0
  refine ⟨?_, h.sb, fun x => ?_, ?_⟩
  · exact List.Pairwise.sublist (List.Sublist.append (List.Sublist.refl _) (List.drop_sublist 1 a)) h.sa
  · rw [← h.mem x]
    have : x ∈ a ↔ x = a[0] ∨ x ∈ a.drop 1 := by
      conv => lhs; rw [ea]
      rw [List.mem_cons]
    rw [this]
    constructor
    · rintro (h | h | h)
      · exact .inl h
      · exact .inr (.inl (.inr h))
      · exact .inr (.inr h)
    · rintro (h | (h | h) | h)
      · exact .inl h
      · subst h; exact .inr (.inr hb)
      · exact .inr (.inl h)
      · exact .inr (.inr h)
  · have := h.len
    rw [List.length_drop]; omega
theorem len0 {α : Type} {l : List α} (h : l.length = 0) : l = [] := List.length_eq_zero_iff.1 h
theorem Mrg.fin {l out a b : List Vt} (h : Mrg l out a b) (ha : a.length = 0) (hb : b.length = 0) : out = srtV l := by
  rw [len0 ha, len0 hb] at h
  refine strict_ext (by simpa using h.sa) (srtV_strict l) fun x => ?_
  rw [srtV_mem, ← h.mem x]; simp
/-- What the guards of the merging say. -/
theorem mrg_c1 {a b : List Vt} (hl : ((decide (0 < (((a.length : Nat)) : Int))) || (decide (0 < (((b.length : Nat)) : Int)))) = true) (hc : (((((b.length : Nat) : Int) == 0)) || ((decide (0 < (((a.length : Nat)) : Int))) && (vless a[0]! b[0]!))) = true) : 0 < a.length := by
  cases ha : a.length with
  | succ n => omega
  | zero =>
    rw [ha] at hl hc
    cases hb : b.length with
    | zero => rw [hb] at hl; simp at hl
    | succ n => rw [hb] at hc; simp at hc; omega
theorem mrg_c1b {a b : List Vt} {h0 : 0 < a.length} (hs : Strict b) (hc : (((((b.length : Nat) : Int) == 0)) || ((decide (0 < (((a.length : Nat)) : Int))) && (vless a[0]! b[0]!))) = true) : ∀ y ∈ b, vless a[0] y = true := by
  rw [Bool.or_eq_true, Bool.and_eq_true] at hc
  rcases hc with h | ⟨_, h⟩
  · rw [len0 (show b.length = 0 by simpa using h)]; intro y hy; cases hy
  · intro y hy
    have hb : 0 < b.length := List.length_pos_of_mem hy
    rw [getElem!_pos a 0 h0, getElem!_pos b 0 hb] at h
    rw [hd_drop hb, List.mem_cons] at hy
    rcases hy with rfl | hy
    · exact h
    · unfold Strict at hs
      rw [hd_drop hb, List.pairwise_cons] at hs
      exact vless_swo.trans _ _ _ h (hs.1 y hy)
theorem mrg_no1 {a b : List Vt} (hc : (((((b.length : Nat) : Int) == 0)) || ((decide (0 < (((a.length : Nat)) : Int))) && (vless a[0]! b[0]!))) = false) : 0 < b.length ∧ (0 < a.length → vless a[0]! b[0]! = false) := by
  rw [Bool.or_eq_false_iff] at hc
  have h1 : ¬ ((b.length : Int) = 0) := by simpa using hc.1
  refine ⟨by omega, fun h => ?_⟩
  have h2 := hc.2
  have e : decide (0 < (((a.length : Nat)) : Int)) = true := by simp; omega
  rw [e, Bool.true_and] at h2
  exact h2
theorem mrg_c2b {a b : List Vt} {h0 : 0 < b.length} (hs : Strict a) (hc : (((((a.length : Nat) : Int) == 0)) || (vless b[0]! a[0]!)) = true) : ∀ y ∈ a, vless b[0] y = true := by
  refine mrg_c1b hs ?_
  rw [Bool.or_eq_true] at hc ⊢
  rcases hc with h | h
  · exact .inl h
  · refine .inr ?_
    rw [h]
    simp; omega
theorem mrg_no2 {a b : List Vt} (h1 : 0 < b.length ∧ (0 < a.length → vless a[0]! b[0]! = false)) (hc : (((((a.length : Nat) : Int) == 0)) || (vless b[0]! a[0]!)) = false) : 0 < a.length ∧ ∀ h : 0 < a.length, a[0] ∈ b := by
  rw [Bool.or_eq_false_iff] at hc
  have h2 : ¬ ((a.length : Int) = 0) := by simpa using hc.1
  have ha : 0 < a.length := by omega
  refine ⟨ha, fun h => ?_⟩
  have h3 := h1.2 ha
  have h4 := hc.2
  rw [getElem!_pos a 0 ha, getElem!_pos b 0 h1.1] at h3 h4
  rw [vless_tot h3 h4]; exact List.getElem_mem _
theorem Strict.right {a b : List Vt} (h : Strict (a ++ b)) : Strict b := (List.pairwise_append.1 h).2.1
/-- The window of the reference's Accepted. -/
def FromOk (S out : List Vt) (fr k : Nat) : Prop := fr ≤ out.length ∧ ∀ u ∈ out.take fr, ∀ j (hj : j < S.length), k ≤ j → u.slot < S[j].slot
theorem asc_slot {p : Nm} {l : List Vt} {i j : Nat} (hi : i < (ascV p l).length) (hj : j < (ascV p l).length) (hij : i ≤ j) : (ascV p l)[i].slot ≤ (ascV p l)[j].slot := by
  rcases Nat.lt_or_eq_of_le hij with h | rfl
  · have hs := List.pairwise_iff_getElem.1 (ascV_strict p l) i j hi hj h
    have hp : ∀ n (hn : n < (ascV p l).length), (ascV p l)[n].par = p := fun n hn => ((ascV_mem p l _).1 (List.getElem_mem hn)).2
    exact vless_slot ((hp i hi).trans (hp j hj).symm) hs
  · exact Int.le_refl _
theorem fold_mem {m : Int} {l : List Vt} {x : Vt} (h : x ∈ l.foldl (acc2 m) []) : x ∈ l := by
  obtain ⟨t, h1, h2⟩ := fold_sub m l []
  rw [h1, List.nil_append] at h
  exact h2.subset h
theorem from_bk {m : Int} {p : Nm} {l out : List Vt} {fr k : Nat} (hk : k < (ascV p l).length) (ho : out = ((ascV p l).take k).foldl (acc2 m) []) (hf : FromOk (ascV p l) out fr k) (h : ((decide ((fr : Int) < (((out.length : Nat)) : Int))) && (out[fr]!.slot != (ascV p l)[k].slot)) = true) : FromOk (ascV p l) out (fr + 1) k := by
  rw [Bool.and_eq_true, decide_eq_true_eq] at h
  have hl : fr < out.length := by omega
  have h2 := h.2
  rw [getElem!_pos out fr hl] at h2
  have hne : out[fr].slot ≠ (ascV p l)[k].slot := by simpa using h2
  refine ⟨by omega, fun u hu j hj hkj => ?_⟩
  rw [List.take_succ_eq_append_getElem hl, List.mem_append, List.mem_singleton] at hu
  rcases hu with hu | rfl
  · exact hf.2 u hu j hj hkj
  · have hm : out[fr] ∈ (ascV p l).take k := fold_mem (m := m) (by rw [← ho]; exact List.getElem_mem hl)
    obtain ⟨i, hi, e⟩ := List.mem_iff_getElem.1 hm
    have hi' : i < k := by simp at hi; omega
    rw [List.getElem_take] at e
    have h3 := asc_slot (p := p) (l := l) (i := i) (j := k) (by omega) hk (by omega)
    have h4 := asc_slot (p := p) (l := l) (i := k) (j := j) hk hj hkj
    rw [e] at h3
    omega
theorem from_next {S out : List Vt} {fr k : Nat} (h : FromOk S out fr k) {out' : List Vt} (ho : out.take fr = out'.take fr) (hl : fr ≤ out'.length) : FromOk S out' fr (k + 1) := ⟨hl, fun u hu j hj hkj => h.2 u (ho ▸ hu) j hj (by omega)⟩
theorem from_allow {m : Int} {S out : List Vt} {fr k : Nat} (h : FromOk S out fr k) (hk : k < S.length) : allowB m S[k] (out.drop fr) = allowB m S[k] out := by
  conv => rhs; rw [← List.take_append_drop fr out]
  rw [allow_slot]
  intro u hu
  have := h.2 u hu k hk (Nat.le_refl _)
  omega
theorem racc_yes {m : Int} {S out : List Vt} {k : Nat} (hk : k < S.length) (ho : out = (S.take k).foldl (acc2 m) []) (h : allowB m S[k] out = true) : out ++ [S[k]] = (S.take (k + 1)).foldl (acc2 m) [] := by
  rw [List.take_succ_eq_append_getElem hk, List.foldl_append, ← ho]
  simp only [List.foldl_cons, List.foldl_nil, acc2]; rw [if_pos h]
theorem racc_no {m : Int} {S out : List Vt} {k : Nat} (hk : k < S.length) (ho : out = (S.take k).foldl (acc2 m) []) (h : allowB m S[k] out = false) : out = (S.take (k + 1)).foldl (acc2 m) [] := by
  rw [List.take_succ_eq_append_getElem hk, List.foldl_append, ← ho]
  simp only [List.foldl_cons, List.foldl_nil, acc2]; rw [if_neg (by rw [h]; simp)]
/-- The accepted votes of a slot. -/
def slV (m : Int) (p : Nm) (l : List Vt) (s : Int) : List Vt := (accV m p l).filter (slP s)
theorem slV_len (m : Int) (p : Nm) (l : List Vt) (s : Int) : (slV m p l s).length ≤ l.length := Nat.le_trans (List.length_filter_le _ _) (accV_len _ _ _)
theorem slV_sg {m : Int} {p : Nm} {l : List Vt} {s : Int} : ∀ u ∈ slV m p l s, 0 ≤ u.signer ∧ u.signer < 10 := fun u hu => accV_sg (List.mem_filter.1 hu).1
theorem accV_part {m : Int} {p : Nm} {l : List Vt} {q : Vt → Bool} (hq : ∀ v u, q v = true → cntB m v u = true → q u = true) : (accV m p l).filter q = accV m p (l.filter q) := by
  refine strict_ext (List.Pairwise.sublist List.filter_sublist (accV_strict m p l)) (accV_strict m p _) fun v => ?_
  have hsub : ∀ u ∈ accV m p (l.filter q), u ∈ accV m p l := accV_mono fun u hu => (List.mem_filter.1 hu).1
  constructor
  · intro h
    obtain ⟨h1, h2⟩ := List.mem_filter.1 h
    have key : ∀ (acc : List Vt), (∃ t, acc ++ t = accV m p l) → ∀ u ∈ acc, q u = true → u ∈ accV m p (l.filter q) := by
      intro acc
      refine snocI (p := fun acc => (∃ t, acc ++ t = accV m p l) → ∀ u ∈ acc, q u = true → u ∈ accV m p (l.filter q)) (fun _ u hu => by cases hu) (fun acc x ih => fun ⟨t, ht⟩ u hu hus => ?_) acc
      have ih' := ih ⟨[x] ++ t, by rw [← ht, List.append_assoc]⟩
      rcases List.mem_append.1 hu with hu | hu
      · exact ih' u hu hus
      · simp only [List.mem_singleton] at hu
        subst hu
        have hxl : u ∈ accV m p l := by rw [← ht]; simp
        have hal : allowB m u acc = true := accV_built m p l acc u t (by rw [← ht]; simp)
        refine Classical.byContradiction fun hn => ?_
        have hm := accV_mem hxl
        have := accV_closed (m := m) (p := p) (l := l.filter q) (List.mem_filter.2 ⟨hm.1, hus⟩) hm.2 hn
        have h3 : allowB m u (accV m p (l.filter q)) = true := allow_cnt (fun y hy hc => ih' y hy (hq u y hus hc)) hal
        rw [this] at h3; cases h3
    exact key (accV m p l) ⟨[], by simp⟩ v h1 h2
  · intro h
    exact List.mem_filter.2 ⟨hsub v h, (List.mem_filter.1 (accV_mem h).1).2⟩
theorem cnt_slot {m : Int} {v u : Vt} (h : cntB m v u = true) : u.slot = v.slot ∧ u.kind ≤ 4 := by
  unfold cntB at h
  simp only [Bool.and_eq_true, beq_iff_eq, decide_eq_true_eq] at h
  exact ⟨h.1.1.2, h.1.2⟩
theorem accV_slot (m : Int) (p : Nm) (l : List Vt) (s : Int) : slV m p l s = bsV m p l s := accV_part fun v u hv hc => by
  have := cnt_slot hc
  unfold slP at *
  rw [this.1]; exact hv
theorem accV_ownF (m : Int) (p : Nm) (l : List Vt) (s : Int) : accV m p (ownF s l) = slV m p l s := by
  unfold ownF
  rw [← accV_part (q := ownP s) (fun v u hv hc => by
    have := cnt_slot hc
    unfold ownP at *
    simp only [Bool.and_eq_true, beq_iff_eq, decide_eq_true_eq] at *
    exact ⟨this.1.trans hv.1, this.2⟩)]
  refine List.filter_congr fun v hv => ?_
  unfold ownP slP
  have := (accV_has hv).2.1
  have e : decide (v.kind ≤ 4) = true := by simpa using this
  rw [e, Bool.and_true]
/-- A name into an ascending list of names. -/
def insN (x : Nm) : List Nm → List Nm
  | [] => [x]
  | y :: r => if hless y x = true then y :: insN x r else if y = x then y :: r else x :: y :: r
def SN (l : List Nm) : Prop := l.Pairwise fun x y => hless x y = true
theorem insN_mem (x z : Nm) : ∀ r : List Nm, z ∈ insN x r ↔ z = x ∨ z ∈ r
  | [] => by simp [insN]
  | y :: r => by
    unfold insN
    split
    · rw [List.mem_cons, insN_mem x z r, List.mem_cons]
      constructor
      · rintro (h | h | h) <;> simp [h]
      · rintro (h | h | h) <;> simp [h]
    · split
      · rename_i h; subst h
        rw [List.mem_cons]
        constructor
        · intro h; exact .inr h
        · rintro (h | h)
          · exact .inl h
          · exact h
      · rw [List.mem_cons]
theorem insN_sn (x : Nm) : ∀ r : List Nm, SN r → SN (insN x r)
  | [], _ => by simp [insN, SN]
  | y :: r, h => by
    unfold SN at h
    rw [List.pairwise_cons] at h
    unfold insN
    split
    · rename_i hy
      refine List.pairwise_cons.2 ⟨fun z hz => ?_, insN_sn x r h.2⟩
      rcases (insN_mem x z r).1 hz with rfl | hz
      · exact hy
      · exact h.1 z hz
    · rename_i hy
      split
      · exact List.pairwise_cons.2 h
      · rename_i hne
        have hxy : hless x y = true := by
          cases hc : hless x y with
          | true => rfl
          | false => exact absurd (hless_tot (by simpa using hy) hc) hne
        refine List.pairwise_cons.2 ⟨fun z hz => ?_, List.pairwise_cons.2 h⟩
        rcases List.mem_cons.1 hz with rfl | hz
        · exact hxy
        · exact hless_swo.trans _ _ _ hxy (h.1 z hz)
theorem insN_at (x : Nm) : ∀ (r : List Nm) (k : Nat), (r.take k).all (fun y => hless y x) = true → k ≤ r.length → (∀ h : k < r.length, hless r[k] x = false) → insN x r = if k < r.length ∧ r[k]! = x then r else (r.take k ++ [x]) ++ r.drop k
  | [], k, _, hk, _ => by
    have : k = 0 := by simpa using hk
    subst this
    simp [insN]
  | y :: r, 0, _, _, h => by
    have h0 := h (by simp)
    simp only [List.getElem_cons_zero] at h0
    unfold insN
    rw [if_neg (by rw [h0]; simp)]
    by_cases e : y = x
    · rw [if_pos e, if_pos ⟨by simp, by simpa using e⟩]
    · rw [if_neg e, if_neg (by simp [e])]; rfl
  | y :: r, k + 1, ha, hk, h => by
    simp only [List.take_succ_cons, List.all_cons, Bool.and_eq_true] at ha
    have ih := insN_at x r k ha.2 (by simpa using hk) (fun h' => by have := h (by simpa using h'); simpa using this)
    unfold insN
    rw [if_pos ha.1, ih]
    have e3 : (y :: r)[k + 1]! = r[k]! := by simp
    by_cases e : k < r.length ∧ r[k]! = x
    · rw [if_pos e, if_pos ⟨by simpa using e.1, e3.trans e.2⟩]
    · rw [if_neg e, if_neg (fun h' => e ⟨by simpa using h'.1, e3.symm.trans h'.2⟩)]; simp
def nvP (k r c : Int) (u : Vt) : Bool := ((u.kind == k) && (u.round == r)) && (u.choice == c)
/-- The values of the votes of a kind, round and choice, ascending. -/
def nvS (k r c : Int) (o : List Nm) (u : Vt) : List Nm := bif nvP k r c u then insN u.val o else o
def nvL (a : List Vt) (k r c : Int) : List Nm := a.foldl (nvS k r c) []
theorem nvL_snoc (a : List Vt) (k r c : Int) (u : Vt) : nvL (a ++ [u]) k r c = nvS k r c (nvL a k r c) u := by unfold nvL; rw [List.foldl_append]; rfl
theorem nvL_sn (a : List Vt) (k r c : Int) : SN (nvL a k r c) := by
  refine snocI (p := fun a => SN (nvL a k r c)) List.Pairwise.nil (fun a u ih => ?_) a
  rw [nvL_snoc]; unfold nvS
  cases nvP k r c u with
  | true => exact insN_sn _ _ ih
  | false => exact ih
theorem nvL_mem (a : List Vt) (k r c : Int) : ∀ x, x ∈ nvL a k r c ↔ ∃ u ∈ a, nvP k r c u = true ∧ u.val = x := by
  refine snocI (p := fun a => ∀ x, x ∈ nvL a k r c ↔ ∃ u ∈ a, nvP k r c u = true ∧ u.val = x) (fun x => by simp [nvL]) (fun a u ih => fun x => ?_) a
  rw [nvL_snoc]; unfold nvS
  cases hu : nvP k r c u with
  | true =>
    rw [cond_true, insN_mem, ih x]
    constructor
    · rintro (h | ⟨v, hv, h1, h2⟩)
      · exact ⟨u, by simp, hu, h.symm⟩
      · exact ⟨v, by simp [hv], h1, h2⟩
    · rintro ⟨v, hv, h1, h2⟩
      rcases List.mem_append.1 hv with hv | hv
      · exact .inr ⟨v, hv, h1, h2⟩
      · simp only [List.mem_singleton] at hv; subst hv; exact .inl h2.symm
  | false =>
    rw [cond_false, ih x]
    constructor
    · rintro ⟨v, hv, h1, h2⟩; exact ⟨v, by simp [hv], h1, h2⟩
    · rintro ⟨v, hv, h1, h2⟩
      rcases List.mem_append.1 hv with hv | hv
      · exact ⟨v, hv, h1, h2⟩
      · simp only [List.mem_singleton] at hv; subst hv; rw [hu] at h1; cases h1
theorem insN_len (x : Nm) : ∀ r : List Nm, (insN x r).length ≤ r.length + 1
  | [] => by simp [insN]
  | y :: r => by
    have := insN_len x r
    unfold insN
    split
    · simp; omega
    · split <;> simp
theorem nvL_len (a : List Vt) (k r c : Int) : (nvL a k r c).length ≤ a.length := by
  refine snocI (p := fun a => (nvL a k r c).length ≤ a.length) (Nat.le_refl _) (fun a u ih => ?_) a
  rw [nvL_snoc]; unfold nvS
  cases nvP k r c u with
  | true => have := insN_len u.val (nvL a k r c); simp; omega
  | false => simp; omega
theorem sn_ext : ∀ {a b : List Nm}, SN a → SN b → (∀ x, x ∈ a ↔ x ∈ b) → a = b := by
  intro a b ha hb h
  have hirr : ∀ x y : Nm, hless x y = true → hless y x = true → x = y := fun x y h1 h2 => by have := hless_swo.trans _ _ _ h1 h2; rw [hless_self] at this; cases this
  have nd : ∀ {l : List Nm}, SN l → l.Nodup := fun {l} hl => List.Pairwise.imp (fun {x y} hxy e => by subst e; rw [hless_self] at hxy; cases hxy) hl
  exact List.Perm.eq_of_pairwise (fun x y _ _ h1 h2 => hirr x y h1 h2) ha hb ((List.perm_ext_iff_of_nodup (nd ha) (nd hb)).2 h)
theorem nv_skip {a : List Vt} {k r c : Int} {j : Nat} {out : List Nm} (hj : j < a.length) (ho : out = nvL (a.take j) k r c) (h : (((a[j].kind != k) || (a[j].round != r)) || (a[j].choice != c)) = true) : out = nvL (a.take (j + 1)) k r c := by
  rw [List.take_succ_eq_append_getElem hj, nvL_snoc, ← ho]
  unfold nvS
  have : nvP k r c a[j] = false := by
    unfold nvP
    cases e1 : (a[j].kind == k) <;> cases e2 : (a[j].round == r) <;> cases e3 : (a[j].choice == c) <;> simp_all [bne]
  rw [this]; rfl
theorem nv_in {u : Vt} {k r c : Int} (h : (((u.kind != k) || (u.round != r)) || (u.choice != c)) = false) : nvP k r c u = true := by
  unfold nvP
  simp only [Bool.or_eq_false_iff, bne_eq_false_iff_eq] at h
  simp [h.1.1, h.1.2, h.2]
theorem nv_ins {a : List Vt} {k r c : Int} {j : Nat} {out : List Nm} (hj : j < a.length) (ho : out = nvL (a.take j) k r c) (h : (((a[j].kind != k) || (a[j].round != r)) || (a[j].choice != c)) = false) : insN a[j].val out = nvL (a.take (j + 1)) k r c := by
  rw [List.take_succ_eq_append_getElem hj, nvL_snoc, ← ho]
  unfold nvS
  rw [nv_in h]; rfl
theorem nv_stop {out : List Nm} {x : Nm} {k : Nat} (hk : k ≤ out.length) (h : ((decide ((k : Int) < (((out.length : Nat)) : Int))) && (hless out[k]! x)) = false) : ∀ h : k < out.length, hless out[k] x = false := fun hl => by
  have e : decide ((k : Int) < (((out.length : Nat)) : Int)) = true := by simp; omega
  rw [e, Bool.true_and, getElem!_pos out k hl] at h
  exact h
theorem nv_go {out : List Nm} {x : Nm} {k : Nat} (ha : (out.take k).all (fun y => hless y x) = true) (h : ((decide ((k : Int) < (((out.length : Nat)) : Int))) && (hless out[k]! x)) = true) : k + 1 ≤ out.length ∧ (out.take (k + 1)).all (fun y => hless y x) = true := by
  rw [Bool.and_eq_true, decide_eq_true_eq] at h
  have hl : k < out.length := by omega
  have h2 := h.2
  rw [getElem!_pos out k hl] at h2
  refine ⟨by omega, ?_⟩
  rw [List.take_succ_eq_append_getElem hl, List.all_append, ha]; simp [h2]
theorem nv_eq {out : List Nm} {x : Nm} {k : Nat} (ha : (out.take k).all (fun y => hless y x) = true) (hk : k ≤ out.length) (hs : ∀ h : k < out.length, hless out[k] x = false) (h : ((decide ((k : Int) < (((out.length : Nat)) : Int))) && (out[k]! == x)) = true) : insN x out = out := by
  rw [insN_at x out k ha hk hs]
  rw [Bool.and_eq_true, decide_eq_true_eq, beq_iff_eq] at h
  rw [if_pos ⟨by omega, h.2⟩]
theorem nv_ne {out : List Nm} {x : Nm} {k : Nat} (ha : (out.take k).all (fun y => hless y x) = true) (hk : k ≤ out.length) (hs : ∀ h : k < out.length, hless out[k] x = false) (h : ((decide ((k : Int) < (((out.length : Nat)) : Int))) && (out[k]! == x)) = false) : insN x out = (out.take k ++ [x]) ++ out.drop k := by
  rw [insN_at x out k ha hk hs, if_neg]
  rintro ⟨h1, h2⟩
  have e : decide ((k : Int) < (((out.length : Nat)) : Int)) = true := by simp; omega
  rw [e, Bool.true_and] at h
  rw [h2] at h; simp at h
theorem bit_pow {i : Int} (h0 : 0 ≤ i) (h1 : i < 10) : bitD i = 2 ^ i.toNat := by
  unfold bitD
  have e1 : decide (i < 0) = false := by simp; omega
  have e2 : decide (10 ≤ i) = false := by simp; omega
  rw [e1, e2]; rfl
theorem isV_eq {x : Vl} {u : Vt} : isV x u = ((u.choice == x.ch) && (u.val == x.nm)) := by
  unfold isV vlOf
  rw [Bool.eq_iff_iff, beq_iff_eq, Bool.and_eq_true, beq_iff_eq, beq_iff_eq]
  constructor
  · rintro rfl; exact ⟨rfl, rfl⟩
  · rintro ⟨h1, h2⟩; cases x; simp_all
theorem rwho_yes {a : List Vt} {k r c : Int} {x : Nm} {j : Nat} {mk : Int} (hs : ∀ u ∈ a, 0 ≤ u.signer ∧ u.signer < 10) (hj : j < a.length) (h : mk = whoM (a.take j) k r (isV ⟨c, x⟩)) (hc : ((((a[j].kind == k) && (a[j].round == r)) && (a[j].choice == c)) && (a[j].val == x)) = true) : bits .or .i64 mk (bitD a[j].signer) = whoM (a.take (j + 1)) k r (isV ⟨c, x⟩) := by
  rw [List.take_succ_eq_append_getElem hj, whoM_snoc, ← h]
  have hb := hs _ (List.getElem_mem hj)
  have : whoP k r (isV ⟨c, x⟩) a[j] = true := by unfold whoP; rw [isV_eq, ← Bool.and_assoc]; exact hc
  rw [this, cond_true, bit_pow hb.1 hb.2]
theorem rwho_no {a : List Vt} {k r c : Int} {x : Nm} {j : Nat} {mk : Int} (hj : j < a.length) (h : mk = whoM (a.take j) k r (isV ⟨c, x⟩)) (hc : ((((a[j].kind == k) && (a[j].round == r)) && (a[j].choice == c)) && (a[j].val == x)) = false) : mk = whoM (a.take (j + 1)) k r (isV ⟨c, x⟩) := by
  rw [List.take_succ_eq_append_getElem hj, whoM_snoc, ← h]
  have : whoP k r (isV ⟨c, x⟩) a[j] = false := by unfold whoP; rw [isV_eq, ← Bool.and_assoc]; exact hc
  rw [this]; rfl
end Go.Proofs.YtphnfhonmbbddaaGreat
