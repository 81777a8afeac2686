/- What an honest member votes next: the plain form. -/
import Derived.Test.YtphnfhonmbbddaaBc
import Derived.Test.YtphnfhonmbbddaaVl
namespace Go.Proofs.Ytphnfhonmbbddaa
open Go Go.RowKit
set_option linter.unusedVariables false

theorem valOf_upd {κ : Type} [Cel κ] [DecidableEq κ] {l : List (κ × Int)} (hn : (l.map (·.1)).Nodup) {a b : κ} {v : Int} : valOf (upd l a v) b = if b = a then v else valOf l b := by
  have hk := upd_keys (a := a) (v := v) hn
  by_cases e : b = a
  · subst e
    rw [if_pos rfl]
    exact valOf_mem hk ((upd_mem hn _).2 (.inl rfl))
  · rw [if_neg e]
    cases hl : look l b with
    | none =>
      have h0 : valOf l b = 0 := by unfold valOf; rw [hl]; rfl
      rw [h0]
      have : look (upd l a v) b = none := look_none.2 fun x hx => by
        rcases (upd_mem hn x).1 hx with rfl | ⟨h1, _⟩
        · exact fun h => e h.symm
        · exact look_none.1 hl x h1
      unfold valOf; rw [this]; rfl
    | some p =>
      obtain ⟨h1, h2⟩ := look_some (k := p.1) (v := p.2) hl
      have hm : (b, p.2) ∈ l := by rw [← h2]; exact List.getElem_mem _
      rw [valOf_mem hn hm]
      exact valOf_mem hk ((upd_mem hn _).2 (.inr ⟨hm, e⟩))
/-- The votes of a slot above a parent. -/
def spP (s : Int) (p : Nm) (v : Vt) : Bool := (v.slot == s) && (v.par == p)
/-- A valid vote of a member. -/
def sgP (z : Int) (v : Vt) : Bool := (v.signer == z) && (validB v)
def cntK (z : Int) (mp : List (P2 × Int)) (v : Vt) : List (P2 × Int) := bif sgP z v then upd mp ⟨v.kind, v.round⟩ (valOf mp ⟨v.kind, v.round⟩ + 1) else mp
def ownMp (z : Int) (l : List Vt) : List (P2 × Int) := l.foldl (cntK z) []
theorem ownMp_snoc (z : Int) (l : List Vt) (v : Vt) : ownMp z (l ++ [v]) = cntK z (ownMp z l) v := by unfold ownMp; rw [List.foldl_append]; rfl
theorem ownMp_keys (z : Int) (l : List Vt) : ((ownMp z l).map (·.1)).Nodup := by
  refine snocI (p := fun l => ((ownMp z l).map (·.1)).Nodup) (by simp [ownMp]) (fun l v ih => ?_) l
  rw [ownMp_snoc]
  unfold cntK
  cases sgP z v with
  | false => exact ih
  | true => exact upd_keys ih
def keyP (z k r : Int) (v : Vt) : Bool := sgP z v && ((v.kind == k) && (v.round == r))
theorem ownMp_val (z : Int) (l : List Vt) (k r : Int) : valOf (ownMp z l) ⟨k, r⟩ = ((l.filter (keyP z k r)).length : Int) := by
  refine snocI (p := fun l => valOf (ownMp z l) ⟨k, r⟩ = ((l.filter (keyP z k r)).length : Int)) rfl (fun l v ih => ?_) l
  rw [ownMp_snoc, List.filter_append, List.length_append]
  unfold cntK
  cases hs : sgP z v with
  | false => simp [ih, keyP, hs]
  | true =>
    rw [cond_true, valOf_upd (ownMp_keys z l)]
    by_cases e : v.kind = k ∧ v.round = r
    · obtain ⟨rfl, rfl⟩ := e
      rw [if_pos rfl, ih]
      simp [keyP, hs]
    · rw [if_neg (fun h => e (by cases h; exact ⟨rfl, rfl⟩)), ih]
      have : keyP z k r v = false := by
        unfold keyP
        rw [hs, Bool.true_and, Bool.and_eq_false_iff]
        simp only [beq_eq_false_iff_ne]
        by_cases h1 : v.kind = k
        · exact .inr fun h2 => e ⟨h1, h2⟩
        · exact .inl h1
      simp [this]
theorem ownMp_le (z : Int) (l : List Vt) (k : P2) : 0 ≤ valOf (ownMp z l) k ∧ valOf (ownMp z l) k ≤ (l.length : Int) := by
  rw [show k = ⟨k.x, k.y⟩ from rfl, ownMp_val]
  have := List.length_filter_le (keyP z k.x k.y) l
  omega
/-- Has the member a vote of this kind and round? -/
def sgnB (z : Int) (l : List Vt) (k r : Int) : Bool := decide (0 < valOf (ownMp z l) ⟨k, r⟩)
theorem sgnB_iff {z : Int} {l : List Vt} {k r : Int} : sgnB z l k r = true ↔ ∃ v ∈ l, v.signer = z ∧ validB v = true ∧ v.kind = k ∧ v.round = r := by
  unfold sgnB
  rw [decide_eq_true_eq, ownMp_val]
  constructor
  · intro h
    obtain ⟨v, hv⟩ := List.exists_mem_of_length_pos (show 0 < (l.filter (keyP z k r)).length by omega)
    rw [List.mem_filter] at hv
    have h2 := hv.2
    unfold keyP sgP at h2
    simp only [Bool.and_eq_true, beq_iff_eq] at h2
    exact ⟨v, hv.1, h2.1.1, h2.1.2, h2.2.1, h2.2.2⟩
  · rintro ⟨v, hv, h1, h2, h3, h4⟩
    have : v ∈ l.filter (keyP z k r) := List.mem_filter.2 ⟨hv, by unfold keyP sgP; rw [h1, h2, h3, h4]; simp⟩
    have := List.length_pos_of_mem this
    omega
/-- The signers of the votes of a kind and round that fit. -/
def whoP (k r : Int) (F : Vt → Bool) (v : Vt) : Bool := ((v.kind == k) && (v.round == r)) && (F v)
def whoM (a : List Vt) (k r : Int) (F : Vt → Bool) : Int := a.foldl (fun x v => bif whoP k r F v then bits .or .i64 x (2 ^ v.signer.toNat) else x) 0
theorem whoM_snoc (a : List Vt) (k r : Int) (F : Vt → Bool) (v : Vt) : whoM (a ++ [v]) k r F = bif whoP k r F v then bits .or .i64 (whoM a k r F) (2 ^ v.signer.toNat) else whoM a k r F := by unfold whoM; rw [List.foldl_append]; rfl
theorem whoM_step {a : List Vt} {k r : Int} {F : Vt → Bool} {j : Nat} {x : Int} (h : x = whoM (a.take j) k r F) (hj : j < a.length) : (bif whoP k r F a[j] then bits .or .i64 x (2 ^ a[j].signer.toNat) else x) = whoM (a.take (j + 1)) k r F := by
  rw [List.take_succ_eq_append_getElem hj, whoM_snoc, h]
theorem mb_whoM (a : List Vt) (k r : Int) (F : Vt → Bool) (hs : ∀ v ∈ a, 0 ≤ v.signer ∧ v.signer < 10) (i : Nat) (hi : i < 64) : mb (whoM a k r F) i = a.any (fun v => whoP k r F v && (v.signer == (i : Int))) := by
  have : (∀ v ∈ a, 0 ≤ v.signer ∧ v.signer < 10) → mb (whoM a k r F) i = a.any (fun v => whoP k r F v && (v.signer == (i : Int))) := by
    refine snocI (p := fun a => (∀ v ∈ a, 0 ≤ v.signer ∧ v.signer < 10) → mb (whoM a k r F) i = a.any (fun v => whoP k r F v && (v.signer == (i : Int)))) (fun _ => ?_) (fun a v ih => fun hs => ?_) a
    · show mb 0 i = _; rw [mb_zero]; rfl
    · have ih' := ih fun u hu => hs u (by simp [hu])
      have hv := hs v (by simp)
      rw [whoM_snoc, List.any_append]
      cases hf : whoP k r F v with
      | true =>
        simp only [cond_true, mb_or, ih', mb_pow _ _ hi, List.any_cons, List.any_nil, hf, Bool.true_and, Bool.or_false]
        congr 1
        rw [Bool.eq_iff_iff]; simp; omega
      | false => simp [ih', hf]
  exact this hs
/-- The order of values. -/
def keyV (x : Vl) : List Int := [x.ch, (x.nm.num : Int)]
def vlOf (v : Vt) : Vl := ⟨v.choice, v.val⟩
def vlP (k r : Int) (v : Vt) : Bool := ((v.kind == k) && (v.round == r)) && (v.choice != 2)
def vlStep (k r : Int) (mp : List (Vl × Int)) (v : Vt) : List (Vl × Int) := bif vlP k r v then upd mp (vlOf v) 1 else mp
def vlMp (a : List Vt) (k r : Int) : List (Vl × Int) := a.foldl (vlStep k r) []
theorem vlMp_snoc (a : List Vt) (k r : Int) (v : Vt) : vlMp (a ++ [v]) k r = vlStep k r (vlMp a k r) v := by unfold vlMp; rw [List.foldl_append]; rfl
theorem vlMp_keys (a : List Vt) (k r : Int) : ((vlMp a k r).map (·.1)).Nodup := by
  refine snocI (p := fun a => ((vlMp a k r).map (·.1)).Nodup) (by simp [vlMp]) (fun a v ih => ?_) a
  rw [vlMp_snoc]
  unfold vlStep
  cases vlP k r v with
  | false => exact ih
  | true => exact upd_keys ih
theorem vlMp_len (a : List Vt) (k r : Int) : (vlMp a k r).length ≤ a.length := by
  refine snocI (p := fun a => (vlMp a k r).length ≤ a.length) (by simp [vlMp]) (fun a v ih => ?_) a
  rw [vlMp_snoc]
  unfold vlStep
  cases vlP k r v with
  | false => simp; omega
  | true => have := upd_len (l := vlMp a k r) (a := vlOf v) (v := 1); simp; omega
theorem vlMp_mem (a : List Vt) (k r : Int) : ∀ x, x ∈ (vlMp a k r).map (·.1) ↔ ∃ v ∈ a, vlP k r v = true ∧ vlOf v = x := by
  refine snocI (p := fun a => ∀ x, x ∈ (vlMp a k r).map (·.1) ↔ ∃ v ∈ a, vlP k r v = true ∧ vlOf v = x) (by simp [vlMp]) (fun a v ih => fun x => ?_) a
  have hk := vlMp_keys a k r
  rw [vlMp_snoc]
  unfold vlStep
  cases hv : vlP k r v with
  | false =>
    rw [cond_false, ih x]
    constructor
    · rintro ⟨u, h1, h2⟩; exact ⟨u, by simp [h1], h2⟩
    · rintro ⟨u, h1, h2⟩
      simp only [List.mem_append, List.mem_singleton] at h1
      rcases h1 with h1 | rfl
      · exact ⟨u, h1, h2⟩
      · rw [hv] at h2; exact absurd h2.1 (by simp)
  | true =>
    rw [cond_true, List.mem_map]
    constructor
    · rintro ⟨y, hy, rfl⟩
      rcases (upd_mem hk y).1 hy with rfl | ⟨h1, _⟩
      · exact ⟨v, by simp, hv, rfl⟩
      · obtain ⟨u, h2, h3⟩ := (ih y.1).1 (List.mem_map_of_mem (f := (·.1)) h1)
        exact ⟨u, by simp [h2], h3⟩
    · rintro ⟨u, h1, h2, rfl⟩
      by_cases e : vlOf u = vlOf v
      · exact ⟨(vlOf v, 1), (upd_mem hk _).2 (.inl rfl), e.symm⟩
      · simp only [List.mem_append, List.mem_singleton] at h1
        rcases h1 with h1 | rfl
        · obtain ⟨y, hy, e2⟩ := List.mem_map.1 ((ih (vlOf u)).2 ⟨u, h1, h2, rfl⟩)
          exact ⟨y, (upd_mem hk _).2 (.inr ⟨hy, by rw [e2]; exact e⟩), e2⟩
        · exact absurd rfl e
def vlless (x y : Vl) : Bool := lexLt (keyV x) (keyV y)
theorem vlless_swo : Sort.SWO vlless := lex_swo keyV (fun x y => by simp [keyV])
theorem vlless_tot {x y : Vl} (h1 : vlless x y = false) (h2 : vlless y x = false) : x = y := by
  have h := lex_tot (keyV x) (keyV y) (by simp [keyV]) h1 h2
  simp only [keyV, List.cons.injEq, and_true] at h
  have b2 : x.nm = y.nm := Nm.num_inj (by omega)
  cases x; cases y; simp_all
/-- The values other than Mixed of the votes of a kind and round, ascending. -/
def valsL (a : List Vt) (k r : Int) : List Vl := isort vlless ((vlMp a k r).map (·.1))
theorem valsL_mem {a : List Vt} {k r : Int} {x : Vl} : x ∈ valsL a k r ↔ ∃ v ∈ a, vlP k r v = true ∧ vlOf v = x := by
  unfold valsL
  rw [(isort_perm vlless _).mem_iff]; exact vlMp_mem a k r x
theorem valsL_len (a : List Vt) (k r : Int) : (valsL a k r).length ≤ a.length := by
  unfold valsL
  rw [(isort_perm vlless _).length_eq, List.length_map]; exact vlMp_len a k r
theorem valsL_nodup (a : List Vt) (k r : Int) : (valsL a k r).Nodup := by
  unfold valsL
  rw [(isort_perm vlless _).nodup_iff]; exact vlMp_keys a k r
def isV (x : Vl) (v : Vt) : Bool := vlOf v == x
def anyV (_ : Vt) : Bool := true
def mixV (v : Vt) : Bool := v.choice == 2
/-- A vote of the member. -/
def mkV (s z : Int) (p : Nm) (k r : Int) (x : Vl) (t : Int) : Vt := ⟨k, s, r, x.ch, z, t, p, x.nm⟩
structure Vtr where
  m : Int
  q : Int
  s : Int
  z : Int
  p : Nm
  all : List Vt
  own : List Vt
def Vtr.mk' (V : Vtr) (k r : Int) (x : Vl) (t : Int) : Vt := mkV V.s V.z V.p k r x t
def Vtr.sg (V : Vtr) (k r : Int) : Bool := sgnB V.z V.own k r
def echoN (V : Vtr) (held : List Nm) : Option Vt := bif V.sg 2 0 then none else ((proV V.m V.p V.own V.s).find? (fun n => held.any (fun h => h == n))).map (fun n => V.mk' 2 0 ⟨1, n⟩ 0)
def firstN (V : Vtr) (waited : Bool) : Option Vt := bif V.sg 3 1 then none else
  match cerV V.m V.p V.own V.s with
  | c :: _ => some (V.mk' 3 1 ⟨1, c⟩ (lowest (echV V.m V.p V.own V.s c) V.q))
  | [] => bif waited then some (V.mk' 3 1 Vl.zero 0) else none
def enB (V : Vtr) (x : Int) : Bool := decide (V.q ≤ (size x : Int))
def precN (V : Vtr) (r : Int) : Option Vt := bif (!(V.sg 3 r)) || V.sg 4 r then none else
  match (valsL V.all 3 r).find? (fun x => enB V (whoM V.all 3 r (isV x))) with
  | some x => some (V.mk' 4 r x (lowest (whoM V.all 3 r (isV x)) V.q))
  | none => bif enB V (whoM V.all 3 r anyV) then some (V.mk' 4 r ⟨2, Nm.zero⟩ (lowest (whoM V.all 3 r anyV) V.q)) else none
def carN (V : Vtr) (r : Int) : Option Vl := match valsL V.all 3 r with
  | [] => none
  | [x] => some x
  | x :: y :: _ => bif (((r + 1) % 2 == 1) && (x.ch == 0)) then some y else some x
def mixM (V : Vtr) (r : Int) : Int := whoM V.all 4 r mixV
def adM (V : Vtr) (r : Int) (x : Vl) : Int := bits .or .i64 (whoM V.all 4 r (isV x)) (mixM V r)
def prevN (V : Vtr) (r : Int) : Option Vt := bif (!(V.sg 4 r)) || V.sg 3 (r + 1) then none else
  match (valsL V.all 4 r).find? (fun x => enB V (adM V r x)) with
  | some x => some (V.mk' 3 (r + 1) x (bits .or .i64 (lowest (whoM V.all 4 r (isV x)) 1) (lowest (bits .andNot .i64 (adM V r x) (lowest (whoM V.all 4 r (isV x)) 1)) (V.q - 1))))
  | none => bif enB V (mixM V r) then (carN V r).map (fun x => V.mk' 3 (r + 1) x (lowest (mixM V r) V.q)) else none
def roundN (V : Vtr) (r : Int) : Option Vt := (precN V r).or (bif decide (r < 12) then prevN V r else none)
def roundsN (V : Vtr) : Option Vt := (List.range 12).findSome? (fun i : Nat => roundN V ((i : Int) + 1))
def mkVtr (m : Int) (p : Nm) (l : List Vt) (s z : Int) : Vtr := ⟨m, quorum (size m), s, z, p, accV m p (l.filter (spP s p)), l.filter (spP s p)⟩
def nextN (m : Int) (p : Nm) (l : List Vt) (s z : Int) (held : List Nm) (waited : Bool) : Option Vt :=
  bif ((!(hasB m z)) || (!(hasB m s))) || decide (0 < ((((outV m p l s).length : Nat)) : Int)) then none else
  ((echoN (mkVtr m p l s z) held).or (firstN (mkVtr m p l s z) waited)).or (roundsN (mkVtr m p l s z))
end Go.Proofs.Ytphnfhonmbbddaa
