/- Tables of the judge as data. -/
import Derived.Test.YtphnfhonmbbddaaHd
import Derived.Test.YtphnfhonmbbddaaGE
namespace Go.Proofs.Ytphnfhonmbbddaa
open Go Go.RowKit
set_option linter.unusedVariables false
structure Tb where
  A1 : Option Addr
  pre : List (Hd Int)
  c1 : Nat
  A2 : Option Addr
  com : List (Hd Int)
  c2 : Nat
def Tb.cs (t : Tb) : Array Value := #[.slice t.A1 t.pre.length t.c1, .slice t.A2 t.com.length t.c2]
def Tb.zero : Tb := ⟨none, [], 0, none, [], 0⟩
/-- What the Prevotes, and the Precommits, say. -/
def Tb.P (t : Tb) : List (List Int) := t.pre.map Hd.l
def Tb.C (t : Tb) : List (List Int) := t.com.map Hd.l
structure TbRd (w : World) (t : Tb) : Prop where
  a1 : Rd w t.A1 t.pre
  a2 : Rd w t.A2 t.com
  r1 : ∀ h ∈ t.pre, Rd w h.A h.l
  r2 : ∀ h ∈ t.com, Rd w h.A h.l
theorem TbRd.below {w w' : World} {t : Tb} (h : TbRd w t) (hb : Below w.heap.size w w') : TbRd w' t :=
  ⟨h.a1.below hb, h.a2.below hb, fun x hx => (h.r1 x hx).below hb, fun x hx => (h.r2 x hx).below hb⟩
/-- No slice is longer than a machine can bear. -/
structure TbLen (t : Tb) : Prop where
  n1 : t.pre.length ≤ maxLen
  n2 : t.com.length ≤ maxLen
  l1 : ∀ h ∈ t.pre, h.l.length ≤ maxLen
  l2 : ∀ h ∈ t.com, h.l.length ≤ maxLen
theorem rangeL {α : Type} [Cel α] {l : List α} {b : Nat} {ty : TypeId} {w0 : World} {H : List (Nat × Obj)} (hm : (b, .cells (cells l).toArray ty (0, 0)) ∈ H) {j : Nat} (hj : j < l.length) : ∀ w, St w0 H w → w.rangeAt b (0 + j * Cel.sz α) (Cel.cs l[j]).toList := by
  obtain ⟨b', o', h1, h2⟩ := Arr.ofL (w0 := w0) hm j hj
  simp only [Option.some.injEq, Addr.mk.injEq, and_true] at h1
  obtain ⟨rfl, rfl⟩ := h1
  exact h2
theorem onesI_c (x : Int) (w : World) (h0 : 0 ≤ x) (h1 : x < 1024) : Ret Try.prog 44 #[.int .u64 x] w (.int .i64 (size x : Int)) := by
  obtain ⟨n, rfl⟩ := Int.eq_ofNat_of_zero_le h0
  exact Ret.same (ones_c n w (by omega))
end Go.Proofs.Ytphnfhonmbbddaa
