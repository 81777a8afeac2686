/- The judge's search over all tables (plain). -/
import Derived.Test.YtphnfhonmbbddaaJfP
namespace Go.Proofs.Ytphnfhonmbbddaa
open Go Go.RowKit
set_option linter.unusedVariables false

/-- The digits of a number, the least first. -/
def dgs : List Nat → Nat → List Int
  | [], _ => []
  | n :: ns, k => ((k % n : Nat) : Int) :: dgs ns (k / n)
theorem dgs_zero : ∀ ns : List Nat, dgs ns 0 = List.replicate ns.length 0
  | [] => rfl
  | n :: ns => by
    show ((0 % n : Nat) : Int) :: dgs ns (0 / n) = 0 :: List.replicate ns.length 0
    rw [Nat.zero_mod, Nat.zero_div, dgs_zero ns]; rfl
theorem dgs_len : ∀ (ns : List Nat) (k : Nat), (dgs ns k).length = ns.length
  | [], _ => rfl
  | n :: ns, k => congrArg (· + 1) (dgs_len ns (k / n))
theorem div_parts {n q r k : Nat} (hr : r < n) (e : k = n * q + r) : k % n = r ∧ k / n = q := by
  subst e
  refine ⟨by rw [Nat.mul_add_mod, Nat.mod_eq_of_lt hr], ?_⟩
  rw [Nat.mul_add_div (by omega), Nat.div_eq_of_lt hr, Nat.add_zero]
theorem dgs_succ : ∀ {ns : List Nat} (h : ∀ n ∈ ns, 0 < n) (k : Nat), advV (ns.map fun n : Nat => (n : Int)) (dgs ns k) = dgs ns (k + 1)
  | [], _, _ => rfl
  | n :: ns, h, k => by
    have hn := h n List.mem_cons_self
    have hm := Nat.mod_lt k hn
    have ih := dgs_succ (ns := ns) (fun x hx => h x (List.mem_cons_of_mem _ hx)) (k / n)
    have hk := (Nat.div_add_mod k n).symm
    show (if ((k % n : Nat) : Int) + 1 < (n : Int) then (((k % n : Nat) : Int) + 1) :: dgs ns (k / n) else 0 :: advV (ns.map fun n : Nat => (n : Int)) (dgs ns (k / n))) = (((k + 1) % n : Nat) : Int) :: dgs ns ((k + 1) / n)
    by_cases hc : k % n + 1 < n
    · obtain ⟨e1, e2⟩ := div_parts (n := n) (q := k / n) (r := k % n + 1) (k := k + 1) hc (by omega)
      rw [if_pos (by omega), e1, e2]; rfl
    · have hn1 : k % n + 1 = n := by omega
      have hs : n * (k / n + 1) = n * (k / n) + n := Nat.mul_succ n (k / n)
      obtain ⟨e1, e2⟩ := div_parts (n := n) (q := k / n + 1) (r := 0) (k := k + 1) hn (by omega)
      rw [if_neg (by omega), ih, e1, e2]; rfl
/-- The vector of choices that a number stands for. -/
def vecK : List (List P2) → Nat → List P2
  | [], _ => []
  | c :: cs, k => c.getD (k % c.length) P2.zero :: vecK cs (k / c.length)
theorem vecK_len : ∀ (cs : List (List P2)) (k : Nat), (vecK cs k).length = cs.length
  | [], _ => rfl
  | c :: cs, k => congrArg (· + 1) (vecK_len cs (k / c.length))
theorem vPL_vec : ∀ (cs : List (List P2)) (k i : Nat), vPL cs (dgs (cs.map List.length) k) i = (vecK cs k).getD i P2.zero
  | [], _, _ => rfl
  | c :: cs, k, 0 => by
    show c.getD ((k % c.length : Nat) : Int).toNat P2.zero = c.getD (k % c.length) P2.zero
    rw [Int.toNat_natCast]
  | c :: cs, k, i + 1 => vPL_vec cs (k / c.length) i
def tbX (n : Nat) (v : List P2) : List (List Int) := tabR n (fun i => (v.getD i P2.zero).x) v.length
def tbY (n : Nat) (v : List P2) : List (List Int) := tabR n (fun i => (v.getD i P2.zero).y) v.length
def forkT (n : Nat) (v : List P2) : Bool := forkB (tbX n v) (tbY n v)
def sizT (n : Nat) (v : List P2) : Int := (size (confV (tbX n v) (tbY n v)) : Int)
theorem tbl_X (n : Nat) (cs : List (List P2)) (k : Nat) : tblP n cs (dgs (cs.map List.length) k) = tbX n (vecK cs k) ∧ tblC n cs (dgs (cs.map List.length) k) = tbY n (vecK cs k) := by
  unfold tblP tblC tbX tbY
  rw [dgs_len, vecK_len, List.length_map]
  have e : vPL cs (dgs (cs.map List.length) k) = fun i => (vecK cs k).getD i P2.zero := funext fun i => vPL_vec cs k i
  rw [e]; exact ⟨rfl, rfl⟩
/-- The least number of a list. -/
def leastL (l : List Int) : Int := l.foldl (fun ls z => bif lessB ls z then z else ls) (-1)
theorem srch_list {n N : Nat} {cs : List (List P2)} (hN : cs.length = N) (hp : ∀ c ∈ cs, 0 < c.length) : ∀ k, srchT n cs N k = (((((List.range k).map (vecK cs)).filter (forkT n)).length : Int), leastL ((((List.range k).map (vecK cs)).filter (forkT n)).map (sizT n)), dgs (cs.map List.length) k)
  | 0 => by
    subst hN
    rw [dgs_zero, List.length_map]; rfl
  | k + 1 => by
    have ih := srch_list (n := n) hN hp k
    have hs : advV (cs.map fun l => (l.length : Int)) (dgs (cs.map List.length) k) = dgs (cs.map List.length) (k + 1) := by
      rw [← dgs_succ (fun x hx => by obtain ⟨c, hc, rfl⟩ := List.mem_map.1 hx; exact hp c hc) k, List.map_map]; rfl
    obtain ⟨eP, eC⟩ := tbl_X n cs k
    show stepS n cs (srchT n cs N k) = _
    rw [ih]
    unfold stepS
    simp only [eP, eC, hs]
    rw [List.range_succ, List.map_append, List.filter_append, List.map_append, List.length_append, List.map_singleton]
    show (bif forkT n (vecK cs k) then _ else _, bif forkT n (vecK cs k) && lessB _ (sizT n (vecK cs k)) then sizT n (vecK cs k) else _, _) = _
    cases hf : forkT n (vecK cs k) with
    | false => simp [hf]
    | true =>
      have e : [vecK cs k].filter (forkT n) = [vecK cs k] := by simp [hf]
      rw [e]
      unfold leastL
      rw [List.foldl_append]
      simp only [Bool.true_and, cond_true, List.length_singleton, List.map_singleton, List.foldl_cons, List.foldl_nil]
      rfl
/-- All vectors of choices. -/
def totL : List (List P2) → Nat
  | [] => 1
  | c :: cs => c.length * totL cs
def allV : List (List P2) → List (List P2)
  | [] => [[]]
  | c :: cs => (allV cs).flatMap fun v => c.map fun p => p :: v
theorem range_mul (a : Nat) : ∀ b, List.range (a * b) = (List.range b).flatMap fun q => (List.range a).map fun r => a * q + r
  | 0 => rfl
  | b + 1 => by
    rw [Nat.mul_succ, List.range_add, range_mul a b, List.range_succ, List.flatMap_append]
    simp
theorem all_vec : ∀ cs : List (List P2), (List.range (totL cs)).map (vecK cs) = allV cs
  | [] => rfl
  | c :: cs => by
    have ih := all_vec cs
    show (List.range (c.length * totL cs)).map (vecK (c :: cs)) = (allV cs).flatMap fun v => c.map fun p => p :: v
    rw [range_mul, List.map_flatMap, ← ih, List.flatMap_map]
    congr 1
    funext q
    rw [List.map_map]
    apply List.ext_getElem
    · simp
    · intro i h1 h2
      have hi : i < c.length := by simpa using h1
      obtain ⟨e1, e2⟩ := div_parts (n := c.length) (q := q) (r := i) (k := c.length * q + i) hi rfl
      simp only [List.getElem_map, List.getElem_range, Function.comp]
      show c.getD ((c.length * q + i) % c.length) P2.zero :: vecK cs ((c.length * q + i) / c.length) = _
      rw [e1, e2, List.getD_eq_getElem?_getD, List.getElem?_eq_getElem hi]; rfl
theorem mem_all : ∀ {cs : List (List P2)} {v : List P2}, v ∈ allV cs ↔ v.length = cs.length ∧ ∀ (i : Nat) (h : i < cs.length), v.getD i P2.zero ∈ cs[i]
  | [], v => by
    show v ∈ [[]] ↔ _
    rw [List.mem_singleton]
    exact ⟨fun h => by subst h; exact ⟨rfl, fun i h => absurd h (Nat.not_lt_zero _)⟩, fun h => List.length_eq_zero_iff.1 h.1⟩
  | c :: cs, v => by
    show v ∈ (allV cs).flatMap (fun v => c.map fun p => p :: v) ↔ _
    rw [List.mem_flatMap]
    constructor
    · rintro ⟨u, hu, hv⟩
      obtain ⟨p, hp, rfl⟩ := List.mem_map.1 hv
      obtain ⟨h1, h2⟩ := mem_all.1 hu
      refine ⟨congrArg (· + 1) h1, fun i hi => ?_⟩
      cases i with
      | zero => exact hp
      | succ i => exact h2 i (by simpa using hi)
    · rintro ⟨h1, h2⟩
      cases v with
      | nil => cases h1
      | cons p u =>
        refine ⟨u, mem_all.2 ⟨by simpa using h1, fun i hi => ?_⟩, List.mem_map.2 ⟨p, h2 0 (by simp), rfl⟩⟩
        exact h2 (i + 1) (by simpa using hi)
theorem all_perm {f g : Nat → List P2} (h : ∀ i, (f i).Perm (g i)) : ∀ l : List Nat, (allV (l.map f)).Perm (allV (l.map g))
  | [] => List.Perm.refl _
  | i :: l => by
    have ih := all_perm h l
    show ((allV (l.map f)).flatMap fun v => (f i).map fun p => p :: v).Perm ((allV (l.map g)).flatMap fun v => (g i).map fun p => p :: v)
    refine (ih.flatMap_right _).trans ?_
    generalize allV (l.map g) = L
    induction L with
    | nil => exact List.Perm.refl _
    | cons v L ihL => rw [List.flatMap_cons, List.flatMap_cons]; exact ((h i).map _).append ihL
theorem least_from : ∀ (l : List Int) (a : Int), (∀ z ∈ l, 0 ≤ z) → (a < 0 → (l = [] ∧ l.foldl (fun ls z => bif lessB ls z then z else ls) a = a) ∨ (l.foldl (fun ls z => bif lessB ls z then z else ls) a ∈ l ∧ ∀ z ∈ l, l.foldl (fun ls z => bif lessB ls z then z else ls) a ≤ z)) ∧ (0 ≤ a → (l.foldl (fun ls z => bif lessB ls z then z else ls) a = a ∨ l.foldl (fun ls z => bif lessB ls z then z else ls) a ∈ l) ∧ l.foldl (fun ls z => bif lessB ls z then z else ls) a ≤ a ∧ ∀ z ∈ l, l.foldl (fun ls z => bif lessB ls z then z else ls) a ≤ z)
  | [], a, _ => ⟨fun _ => .inl ⟨rfl, rfl⟩, fun _ => ⟨.inl rfl, Int.le_refl _, fun z hz => by cases hz⟩⟩
  | b :: l, a, h => by
    have hb := h b List.mem_cons_self
    have hl : ∀ z ∈ l, 0 ≤ z := fun z hz => h z (List.mem_cons_of_mem _ hz)
    rw [List.foldl_cons]
    constructor
    · intro ha
      have e : lessB a b = true := by unfold lessB; rw [decide_eq_true ha]; rfl
      rw [e, cond_true]
      obtain ⟨h1, h2, h3⟩ := (least_from l b hl).2 hb
      refine .inr ⟨?_, fun z hz => ?_⟩
      · rcases h1 with h1 | h1
        · rw [h1]; exact List.mem_cons_self
        · exact List.mem_cons_of_mem _ h1
      · rcases List.mem_cons.1 hz with rfl | hz
        · exact h2
        · exact h3 z hz
    · intro ha
      cases hc : lessB a b with
      | true =>
        rw [cond_true]
        have hba : b < a := by
          unfold lessB at hc
          rw [decide_eq_false (by omega), Bool.false_or] at hc
          exact of_decide_eq_true hc
        obtain ⟨h1, h2, h3⟩ := (least_from l b hl).2 hb
        refine ⟨.inr ?_, by omega, fun z hz => ?_⟩
        · rcases h1 with h1 | h1
          · rw [h1]; exact List.mem_cons_self
          · exact List.mem_cons_of_mem _ h1
        · rcases List.mem_cons.1 hz with rfl | hz
          · exact h2
          · exact h3 z hz
      | false =>
        rw [cond_false]
        have hba : a ≤ b := by
          unfold lessB at hc
          rw [decide_eq_false (by omega), Bool.false_or] at hc
          have := of_decide_eq_false hc
          omega
        obtain ⟨h1, h2, h3⟩ := (least_from l a hl).2 ha
        refine ⟨h1.imp id (List.mem_cons_of_mem _), h2, fun z hz => ?_⟩
        rcases List.mem_cons.1 hz with rfl | hz
        · omega
        · exact h3 z hz
theorem least_spec {l : List Int} (h : ∀ z ∈ l, 0 ≤ z) : (l = [] ∧ leastL l = -1) ∨ (leastL l ∈ l ∧ ∀ z ∈ l, leastL l ≤ z) := (least_from l (-1) h).1 (by decide)
theorem least_perm {l l' : List Int} (hp : l.Perm l') (h : ∀ z ∈ l, 0 ≤ z) : leastL l = leastL l' := by
  rcases least_spec h with ⟨h1, h2⟩ | ⟨h1, h2⟩
  · subst h1
    rw [List.nil_perm.1 hp]
  · rcases least_spec (l := l') (fun z hz => h z (hp.mem_iff.2 hz)) with ⟨h3, h4⟩ | ⟨h3, h4⟩
    · subst h3
      rw [List.perm_nil.1 hp] at h1; cases h1
    · have := h2 _ (hp.mem_iff.2 h3)
      have := h4 _ (hp.mem_iff.1 h1)
      omega
theorem siz_pos (n : Nat) (l : List (List P2)) : ∀ z ∈ l.map (sizT n), 0 ≤ z := fun z hz => by
  obtain ⟨v, _, rfl⟩ := List.mem_map.1 hz
  unfold sizT; omega
theorem totL_snoc (c : List P2) : ∀ cs : List (List P2), totL (cs ++ [c]) = totL cs * c.length
  | [] => by show c.length * 1 = 1 * c.length; omega
  | b :: cs => by
    show b.length * totL (cs ++ [c]) = b.length * totL cs * c.length
    rw [totL_snoc c cs, Nat.mul_assoc]
theorem tot_totL (n : Nat) (lz : Int) : ∀ {N : Nat} {t : Int}, totT n lz N = some t → t = (totL (chA n lz N) : Int)
  | 0, t, h => by cases h; rfl
  | N + 1, t, h => by
    unfold totT at h
    cases ht : totT n lz N with
    | none => rw [ht] at h; cases h
    | some u =>
      rw [ht] at h
      have ih := tot_totL n lz ht
      have e : totL (chA n lz (N + 1)) = totL (chA n lz N) * lenJ n lz N := by
        unfold chA
        rw [List.range_succ, List.map_append]
        exact totL_snoc _ _
      simp only at h
      cases hd : decide (1048576 < u * (lenJ n lz N : Int)) with
      | true => rw [hd] at h; cases h
      | false =>
        rw [hd, cond_false, Option.some.injEq] at h
        rw [← h, ih, e, Int.natCast_mul]
/-- The tables of a search that are forks. -/
def forksL (n : Nat) (cs : List (List P2)) : List (List P2) := (allV cs).filter (forkT n)
theorem search_val {n r0 : Nat} {lz t : Int} (h : badS n r0 lz = false) (ht : totT n lz (n * r0) = some t) : searchV n r0 lz = (t, ((forksL n (chA n lz (n * r0))).length : Int), leastL ((forksL n (chA n lz (n * r0))).map (sizT n)), 0) := by
  have e := tot_totL n lz ht
  have hs := srch_list (n := n) (N := n * r0) (cs := chA n lz (n * r0)) (by simp [chA]) (fun c hc => by
    obtain ⟨i, _, rfl⟩ := List.mem_map.1 hc
    have := (lenJ_rng n lz i).1
    unfold lenJ at this
    omega) t.toNat
  rw [show t.toNat = totL (chA n lz (n * r0)) by omega, all_vec] at hs
  unfold searchV
  rw [h, cond_false, Int.toNat_natCast, Int.toNat_natCast, ht]
  simp only
  rw [show t.toNat = totL (chA n lz (n * r0)) by omega, hs]; rfl

end Go.Proofs.Ytphnfhonmbbddaa
