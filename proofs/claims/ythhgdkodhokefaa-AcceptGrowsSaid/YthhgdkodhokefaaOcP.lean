/- The votes that speak for an outcome, as a map: plain facts. -/
import Derived.Test.YthhgdkodhokefaaIsort
import Derived.Test.YthhgdkodhokefaaOc
import Derived.Test.YthhgdkodhokefaaLaw11r
namespace Go.Proofs.Ythhgdkodhokefaa
open Go Go.RowKit
set_option linter.unusedVariables false
set_option linter.unusedSectionVars false
theorem snocI {α : Type} {p : List α → Prop} (h0 : p []) (h1 : ∀ l a, p l → p (l ++ [a])) : ∀ l, p l := by
  intro l
  have : ∀ r : List α, p r.reverse := by
    intro r
    induction r with
    | nil => exact h0
    | cons a r ih => rw [List.reverse_cons]; exact h1 _ _ ih
  have := this l.reverse
  rwa [List.reverse_reverse] at this
section
variable {κ : Type} [Cel κ] [DecidableEq κ]
/-- The signers of the votes that f tells, by key. -/
def sgStep (f : Vt → Option κ) (mp : List (κ × Int)) (v : Vt) : List (κ × Int) :=
  match f v with
  | none => mp
  | some o => upd mp o (bits .or .i64 (valOf mp o) (2 ^ v.signer.toNat))
def sgMap (f : Vt → Option κ) (a : List Vt) : List (κ × Int) := a.foldl (sgStep f) []
/-- The signers of the votes with key o. -/
def sgMask (f : Vt → Option κ) (a : List Vt) (o : κ) : Int := a.foldl (fun x v => if f v = some o then bits .or .i64 x (2 ^ v.signer.toNat) else x) 0
theorem sgMap_snoc (f : Vt → Option κ) (a : List Vt) (v : Vt) : sgMap f (a ++ [v]) = sgStep f (sgMap f a) v := by unfold sgMap; rw [List.foldl_append]; rfl
theorem sgMask_snoc (f : Vt → Option κ) (a : List Vt) (v : Vt) (o : κ) : sgMask f (a ++ [v]) o = if f v = some o then bits .or .i64 (sgMask f a o) (2 ^ v.signer.toNat) else sgMask f a o := by unfold sgMask; rw [List.foldl_append]; rfl
theorem sgMap_keys (f : Vt → Option κ) (a : List Vt) : ((sgMap f a).map (·.1)).Nodup := by
  refine snocI (p := fun a => ((sgMap f a).map (·.1)).Nodup) (by simp [sgMap]) (fun a v ih => ?_) a
  rw [sgMap_snoc]
  unfold sgStep
  cases f v with
  | none => exact ih
  | some o => exact upd_keys ih
theorem sgMap_val (f : Vt → Option κ) (a : List Vt) : ∀ o, valOf (sgMap f a) o = sgMask f a o := by
  refine snocI (p := fun a => ∀ o, valOf (sgMap f a) o = sgMask f a o) (fun o => rfl) (fun a v ih => fun o => ?_) a
  have hk := sgMap_keys f a
  have hk2 := sgMap_keys f (a ++ [v])
  rw [sgMask_snoc]
  rw [sgMap_snoc] at hk2 ⊢
  unfold sgStep at hk2 ⊢
  cases hf : f v with
  | none => simp [ih]
  | some o2 =>
    simp only [hf] at hk2 ⊢
    by_cases e : o2 = o
    · subst e
      rw [if_pos rfl, ← ih o2]
      exact valOf_mem hk2 ((upd_mem hk _).2 (.inl rfl))
    · rw [if_neg (by simpa using e), ← ih o]
      cases hl : look (sgMap f a) o with
      | none =>
        have h0 : valOf (sgMap f a) o = 0 := by unfold valOf; rw [hl]; rfl
        rw [h0]
        have : look (upd (sgMap f a) o2 (bits .or .i64 (valOf (sgMap f a) o2) (2 ^ v.signer.toNat))) o = none := look_none.2 fun x hx => by
          rcases (upd_mem hk x).1 hx with rfl | ⟨h1, _⟩
          · exact e
          · exact look_none.1 hl x h1
        show ((look (upd (sgMap f a) o2 (bits .or .i64 (valOf (sgMap f a) o2) (2 ^ v.signer.toNat))) o).map (·.2)).getD 0 = 0
        rw [this]; rfl
      | some p =>
        obtain ⟨h1, h2⟩ := look_some (k := p.1) (v := p.2) hl
        have hm : (o, p.2) ∈ sgMap f a := by rw [← h2]; exact List.getElem_mem _
        rw [valOf_mem hk hm]
        exact valOf_mem hk2 ((upd_mem hk _).2 (.inr ⟨hm, fun h => e h.symm⟩))
theorem sgMap_key (f : Vt → Option κ) (a : List Vt) : ∀ o, (∃ x, (o, x) ∈ sgMap f a) ↔ ∃ v ∈ a, f v = some o := by
  refine snocI (p := fun a => ∀ o, (∃ x, (o, x) ∈ sgMap f a) ↔ ∃ v ∈ a, f v = some o) (fun o => by simp [sgMap]) (fun a v ih => fun o => ?_) a
  have hk := sgMap_keys f a
  rw [sgMap_snoc]
  unfold sgStep
  cases hf : f v with
  | none =>
    simp only [ih o, List.mem_append, List.mem_singleton]
    constructor
    · rintro ⟨u, h1, h2⟩; exact ⟨u, .inl h1, h2⟩
    · rintro ⟨u, h1 | rfl, h2⟩
      · exact ⟨u, h1, h2⟩
      · rw [hf] at h2; cases h2
  | some o2 =>
    constructor
    · rintro ⟨x, hx⟩
      rcases (upd_mem hk _).1 hx with e | ⟨h1, _⟩
      · cases e; exact ⟨v, by simp, hf⟩
      · obtain ⟨u, h2, h3⟩ := (ih o).1 ⟨x, h1⟩
        exact ⟨u, by simp [h2], h3⟩
    · rintro ⟨u, h1, h2⟩
      by_cases e : o = o2
      · subst e; exact ⟨_, (upd_mem hk _).2 (.inl rfl)⟩
      · simp only [List.mem_append, List.mem_singleton] at h1
        rcases h1 with h1 | rfl
        · obtain ⟨x, hx⟩ := (ih o).2 ⟨u, h1, h2⟩
          exact ⟨x, (upd_mem hk _).2 (.inr ⟨hx, e⟩)⟩
        · rw [hf] at h2; exact absurd (Option.some.inj h2).symm e
theorem sgMap_mem {f : Vt → Option κ} {a : List Vt} {o : κ} {x : Int} : (o, x) ∈ sgMap f a ↔ (∃ v ∈ a, f v = some o) ∧ x = sgMask f a o := by
  constructor
  · intro h
    exact ⟨(sgMap_key f a o).1 ⟨x, h⟩, by rw [← sgMap_val, valOf_mem (sgMap_keys f a) h]⟩
  · rintro ⟨h1, rfl⟩
    obtain ⟨y, hy⟩ := (sgMap_key f a o).2 h1
    have := valOf_mem (sgMap_keys f a) hy
    rw [sgMap_val] at this
    rw [this]; exact hy
theorem sgMap_len (f : Vt → Option κ) (a : List Vt) : (sgMap f a).length ≤ a.length := by
  refine snocI (p := fun a => (sgMap f a).length ≤ a.length) (by simp [sgMap]) (fun a v ih => ?_) a
  rw [sgMap_snoc]
  unfold sgStep
  cases f v with
  | none => simp; omega
  | some o =>
    have := upd_len (l := sgMap f a) (a := o) (v := bits .or .i64 (valOf (sgMap f a) o) (2 ^ v.signer.toNat))
    simp; omega
theorem mb_sgMask (f : Vt → Option κ) (a : List Vt) (o : κ) (hs : ∀ v ∈ a, 0 ≤ v.signer ∧ v.signer < 10) (i : Nat) (hi : i < 10) : mb (sgMask f a o) i = a.any (fun v => decide (f v = some o) && (v.signer == (i : Int))) := by
  have : (∀ v ∈ a, 0 ≤ v.signer ∧ v.signer < 10) → mb (sgMask f a o) i = a.any (fun v => decide (f v = some o) && (v.signer == (i : Int))) := by
    refine snocI (p := fun a => (∀ v ∈ a, 0 ≤ v.signer ∧ v.signer < 10) → mb (sgMask f a o) i = a.any (fun v => decide (f v = some o) && (v.signer == (i : Int)))) (fun _ => ?_) (fun a v ih => fun hs => ?_) a
    · show mb 0 i = _; rw [mb_zero]; rfl
    · have ih' := ih fun u hu => hs u (by simp [hu])
      have hv := hs v (by simp)
      rw [sgMask_snoc, List.any_append]
      by_cases hf : f v = some o
      · rw [if_pos hf]
        simp only [mb_or, ih', mb_pow _ _ (show i < 64 by omega), List.any_cons, List.any_nil, hf, decide_true, Bool.true_and, Bool.or_false]
        congr 1
        rw [Bool.eq_iff_iff]; simp; omega
      · rw [if_neg hf, ih']
        simp [hf]
  exact this hs
/-- The keys with at least q signers, in the order lt. -/
def sgOut (lt : κ → κ → Bool) (f : Vt → Option κ) (q : Int) (a : List Vt) : List κ := isort lt (((sgMap f a).filter fun y => decide (q ≤ (size y.2 : Int))).map (·.1))
theorem sgOut_mem {lt : κ → κ → Bool} {f : Vt → Option κ} {q : Int} {a : List Vt} {o : κ} : o ∈ sgOut lt f q a ↔ (∃ v ∈ a, f v = some o) ∧ q ≤ (size (sgMask f a o) : Int) := by
  unfold sgOut
  rw [(isort_perm lt _).mem_iff, List.mem_map]
  constructor
  · rintro ⟨⟨o', x⟩, h, rfl⟩
    rw [List.mem_filter, sgMap_mem] at h
    obtain ⟨⟨h1, rfl⟩, h2⟩ := h
    exact ⟨h1, by simpa using h2⟩
  · rintro ⟨h1, h2⟩
    exact ⟨(o, sgMask f a o), List.mem_filter.2 ⟨sgMap_mem.2 ⟨h1, rfl⟩, by simpa using h2⟩, rfl⟩
theorem sgOut_nodup {lt : κ → κ → Bool} {f : Vt → Option κ} {q : Int} {a : List Vt} : (sgOut lt f q a).Nodup := by
  unfold sgOut
  rw [(isort_perm lt _).nodup_iff]
  exact (List.Sublist.map _ List.filter_sublist).nodup (sgMap_keys f a)
theorem sgOut_len {lt : κ → κ → Bool} {f : Vt → Option κ} {q : Int} {a : List Vt} : (sgOut lt f q a).length ≤ a.length := by
  unfold sgOut
  rw [(isort_perm lt _).length_eq, List.length_map]
  exact Nat.le_trans (List.length_filter_le _ _) (sgMap_len f a)
end
/-- Which outcome of slot s a vote speaks for. -/
def ocOf (s : Int) (v : Vt) : Option Oc := if (((v.kind == 4) && (v.choice != 2)) = true) then some ⟨s, v.round, v.choice, v.val⟩ else none
end Go.Proofs.Ythhgdkodhokefaa
