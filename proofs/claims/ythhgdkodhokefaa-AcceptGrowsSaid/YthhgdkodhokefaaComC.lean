/- Lowest and Select of the program. -/
import Derived.Test.YthhgdkodhokefaaComB
namespace Go.Proofs.Ythhgdkodhokefaa
open Go Go.RowKit Go.Shelf
set_option linter.unusedVariables false
attribute [local go_sem] Oper.semAt_some

theorem low_all (m k : Int) (h : (idsF m).length ≤ k.toNat) : ofIds ((idsF m).map (·.val)) = lowest m k := by
  unfold lowest
  rw [← idsF_map, List.take_of_length_le (by simpa using h)]
theorem low_part (m k : Int) (pre : List (Fin 10)) (x : Fin 10) (h : pre ++ [x] <+: idsF m) (hl : pre.length = k.toNat) : ofIds (pre.map (·.val)) = lowest m k := by
  unfold lowest
  rw [← idsF_map, ← List.map_take, ← hl]
  have : pre <+: idsF m := List.IsPrefix.trans (List.prefix_append _ _) h
  rw [← List.prefix_iff_eq_take.1 this]
theorem wrap_pow (x : Nat) (h : x < 10) : wrap64 (2 ^ x) = 2 ^ x := by
  have h1 : (2 : Int) ^ x ≤ 2 ^ 10 := by
    have : (2 : Nat) ^ x ≤ 2 ^ 10 := Nat.pow_le_pow_right (by omega) (by omega)
    exact_mod_cast this
  have h0 : (0 : Int) < 2 ^ x := Int.pow_pos (by omega)
  unfold wrap64
  omega
end Go.Proofs.Ythhgdkodhokefaa
