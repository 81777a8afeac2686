/- Plain facts on what an honest member votes next. -/
import Derived.Test.YtnjkbgcfpbbglaaGreatAg3
import Derived.Test.YtnjkbgcfpbbglaaGreatGJ
namespace Go.Proofs.YtnjkbgcfpbbglaaGreat
open Go Go.RowKit
set_option linter.unusedVariables false

theorem rem_intK {k : IntKind} {x y : Int} (h0 : 0 ≤ x) : Value.int k (x.tmod y) = .int k (x % y) := by rw [Int.tmod_eq_emod_of_nonneg h0]
theorem u64w {a : Int} : Value.int .u64 (IntKind.u64.wrap a) = .int .u64 (a % 18446744073709551616) := by rw [IntKind.wrap_u64]
theorem shr_i {x y : Int} (h0 : 0 ≤ y) (h1 : y < 64) : Value.int .i64 (x.fdiv (2 ^ min y.toNat 64)) = .int .i64 (x / 2 ^ y.toNat) := by
  have hm : min y.toNat 64 = y.toNat := by omega
  rw [hm, Int.fdiv_eq_ediv_of_nonneg _ (Int.le_of_lt (Int.pow_pos (by decide)))]
theorem shr_no {m z : Int} (hm : W64 m) (h0 : 0 ≤ z) (h1 : z < 10) : Value.bool (bits .and .i64 (m / 2 ^ z.toNat) 1 == 0) = .bool (!(hasB m z)) := by
  rw [shr_one hm z.toNat (by omega)]
  have : hasB m z = mb m z.toNat := by
    unfold hasB; simp [h0, h1]
  rw [this]
  cases mb m z.toNat <;> rfl
theorem and15 {z : Int} (h0 : 0 ≤ z) (h1 : z < 10) : bits .and .i64 z 15 = z := by
  have H : ∀ n : Fin 10, bits .and .i64 ((n.val : Nat) : Int) 15 = ((n.val : Nat) : Int) := by decide +kernel
  obtain ⟨n, rfl⟩ := Int.eq_ofNat_of_zero_le h0
  exact H ⟨n, by omega⟩
def alk (a : Int) : Int := (a % 18446744073709551616) % 10
theorem alk_bd (a : Int) : 0 ≤ alk a ∧ alk a < 10 := by unfold alk; omega
section
variable {m : Int} {p : Nm} {l : List Vt} {s z : Int} {held : List Nm} {wt : Bool}
theorem done_no (h : (((((((decide (z < 0)) || (decide (10 ≤ z))) || (!(hasB m z))) || (decide (s < 0))) || (decide (10 ≤ s))) || (!(hasB m s))) || (decide (0 < ((((outV m p l s).length : Nat)) : Int)))) = true) : nextN m p l s z held wt = none := by
  refine next_no ?_
  cases hz : hasB m z with
  | false => simp
  | true => cases hs : hasB m s with
    | false => simp
    | true =>
      have a := hasB_lt hz
      have b := hasB_lt hs
      have e1 : decide (z < 0) = false := by simp; omega
      have e2 : decide (10 ≤ z) = false := by simp; omega
      have e3 : decide (s < 0) = false := by simp; omega
      have e4 : decide (10 ≤ s) = false := by simp; omega
      rw [hz, hs, e1, e2, e3, e4] at h
      simpa using h
theorem sg_none {k r : Int} (h : ∀ u ∈ l, u.signer ≠ z) : sgnB z l k r = false := by
  cases hb : sgnB z l k r with
  | false => rfl
  | true => obtain ⟨v, hv, h1, _⟩ := sgnB_iff.1 hb; exact absurd h1 (h v hv)
theorem rounds_none {V : Vtr} (h : ∀ k r, V.sg k r = false) : roundsN V = none := by
  unfold roundsN
  rw [List.findSome?_eq_none_iff]
  intro j _
  unfold roundN precN prevN
  simp [h]
theorem alike {a b : Int} (h1 : l.any (fun u => (u.signer == a) || (u.signer == b)) = false) (h2 : ((!(hasB m a)) || (!(hasB m b))) = false) : nextN m p l s b held wt = (nextN m p l s a held wt).map (fun v => { v with signer := b }) := by
  have ha : hasB m a = true := by cases h : hasB m a <;> simp_all
  have hb : hasB m b = true := by cases h : hasB m b <;> simp_all
  have hn : ∀ u ∈ l, u.signer ≠ a ∧ u.signer ≠ b := fun u hu => by
    have := List.any_eq_false.1 h1 u hu
    simpa using this
  have A : ∀ k r, (mkVtr m p l s a).sg k r = false := fun k r => sg_none (fun u hu => (hn u (List.mem_filter.1 hu).1).1)
  have B : ∀ k r, (mkVtr m p l s b).sg k r = false := fun k r => sg_none (fun u hu => (hn u (List.mem_filter.1 hu).1).2)
  have e1 : echoN (mkVtr m p l s b) held = (echoN (mkVtr m p l s a) held).map (fun v => { v with signer := b }) := by
    unfold echoN; rw [A, B, cond_false, cond_false, Option.map_map]; rfl
  have e2 : firstN (mkVtr m p l s b) wt = (firstN (mkVtr m p l s a) wt).map (fun v => { v with signer := b }) := by
    unfold firstN; rw [A, B, cond_false, cond_false]
    show (match cerV m p (l.filter (spP s p)) s with | c :: _ => _ | [] => _) = Option.map _ (match cerV m p (l.filter (spP s p)) s with | c :: _ => _ | [] => _)
    cases cerV m p (l.filter (spP s p)) s with
    | nil => cases wt <;> rfl
    | cons c r => rfl
  unfold nextN
  rw [ha, hb, rounds_none A, rounds_none B, e1, e2]
  generalize ((!true || !hasB m s) || decide (0 < ((((outV m p l s).length : Nat)) : Int))) = q
  cases q with
  | true => rfl
  | false =>
    cases echoN (mkVtr m p l s a) held <;> cases firstN (mkVtr m p l s a) wt <;> rfl
def setSg (v : Vt) (b : Int) : Vt := { v with signer := b }
theorem alike_t {a b : Int} {o1 o2 : Option Vt} (e1 : o1 = nextN m p l s a held wt) (e2 : o2 = nextN m p l s b held wt) (h1 : l.any (fun u => (u.signer == a) || (u.signer == b)) = false) (h2 : ((!(hasB m a)) || (!(hasB m b))) = false) (h3 : o1.isSome = true) : (((o1.isSome == o2.isSome) && (setSg (o1.getD Vt.zero) b == o2.getD Vt.zero)) && true) = true := by
  obtain ⟨v, rfl⟩ := Option.isSome_iff_exists.1 h3
  rw [e2, alike h1 h2, ← e1]
  simp [setSg]
theorem alike_f {a b : Int} {o1 o2 : Option Vt} (e1 : o1 = nextN m p l s a held wt) (e2 : o2 = nextN m p l s b held wt) (h1 : l.any (fun u => (u.signer == a) || (u.signer == b)) = false) (h2 : ((!(hasB m a)) || (!(hasB m b))) = false) (h3 : o1.isSome = false) : (((o1.isSome == o2.isSome) && (o1.getD Vt.zero == o2.getD Vt.zero)) && true) = true := by
  obtain rfl : o1 = none := by simpa using h3
  rw [e2, alike h1 h2, ← e1]
  simp
end
end Go.Proofs.YtnjkbgcfpbbglaaGreat
