/- backers; the walk of JustifyBackers. -/
import Derived.Test.YthhgdkodhokefaaEnt
import Derived.Test.YthhgdkodhokefaaLaw11r
import Derived.Test.YthhgdkodhokefaaLaw11a
namespace Go.Proofs.Ythhgdkodhokefaa
open Go Go.RowKit
set_option linter.unusedVariables false

def keyB (u : Vt) (z : Vt) : Bool := ((((u.kind == z.kind) && (u.par == z.par)) && (u.slot == z.slot)) && (u.round == z.round)) && (u.signer == z.signer)
set_option maxRecDepth 100000 in
set_option maxHeartbeats 2000000 in
theorem samekey_c (u : Vt) (z : Vt)  (w : World) : Calls Try.prog 50 #[.agg (u).cs, .agg (z).cs] w (fun rr w' => rr = .returned (.bool (keyB u z)) ∧ Below w.heap.size w w') := by
  refine calls_W (n := 38) Try.func50 rfl [(0, .agg (u).cs), (1, .agg (z).cs)] rfl ⟨by kernel_rfl, by kernel_rfl⟩ ?_
  refine W.weak (Ψ := St w []) (fun w' h => by rw [h]; exact St.start w) ?_
  refine W.seq ?_
  refine W.region [(0, false), (1, false), (2, false)] (by kernel_rfl) ?_
  refine T.box 2 26 (.agg (u).cs) ((u).cs) (by kernel_rfl) (by kernel_rfl) (by kernel_rfl) (fun _ _ _ => trivial) (fun b1 => ?_)
  refine T.box 3 26 (.agg (z).cs) ((z).cs) (by kernel_rfl) (by kernel_rfl) (by kernel_rfl) (fun _ _ _ => trivial) (fun b2 => ?_)
  refine T.pure 4 (.bool (false)) (by kernel_rfl) (fun w => by kernel_rfl) ?_
  refine T.nil ?_
  refine QN.seq ?_
  refine W.seq ?_
  refine W.region [(0, false), (1, false), (2, false), (3, false), (4, false), (5, false), (6, false), (7, false), (8, false), (9, false), (10, false), (11, false), (12, false), (13, false), (14, false), (15, false), (16, false), (17, false), (18, false), (19, false), (20, false), (21, false), (22, false), (23, false), (24, false), (25, false), (26, false), (27, false), (28, false), (29, false), (30, false), (31, false), (32, false), (33, false)] (by kernel_rfl) ?_
  refine T.pure 5 (.pointer (some ⟨b1, 0, none⟩)) (by kernel_rfl) (fun w => by kernel_rfl) ?_
  refine T.load false 6 (.int .i64 (u.kind)) 3 b1 0 (by kernel_rfl) (by kernel_rfl) (by kernel_rfl) (fun w h => St.cellM h (.tail _ (.head _)) (by kernel_rfl)) ?_
  refine T.pure 7 (.pointer (some ⟨b2, 0, none⟩)) (by kernel_rfl) (fun w => by kernel_rfl) ?_
  refine T.load false 8 (.int .i64 (z.kind)) 3 b2 0 (by kernel_rfl) (by kernel_rfl) (by kernel_rfl) (fun w h => St.cellM h (.head _) (by kernel_rfl)) ?_
  refine T.pure 9 (.bool (u.kind == z.kind)) (by kernel_rfl) (fun w => by kernel_rfl) ?_
  refine T.pure 10 (.bool (u.kind == z.kind)) (by kernel_rfl) (fun w => by kernel_rfl) ?_
  refine T.blk [(6, false), (7, false), (8, false), (9, false), (10, false)] [(11, false), (12, false), (13, false), (14, false), (15, false), (16, false), (17, false), (18, false), (19, false), (20, false), (21, false), (22, false), (23, false), (24, false), (25, false), (26, false), (27, false), (28, false), (29, false), (30, false), (31, false), (32, false), (33, false)] 5 true (u.kind == z.kind) 10 15 (.bool (u.par == z.par)) (by kernel_rfl) (by kernel_rfl) (by kernel_rfl) (fun hg3 => ?_) ?_
  · have hg3_ := hg3
    refine T.pure 11 (.pointer (some ⟨b1, 6, none⟩)) (by kernel_rfl) (fun w => by kernel_rfl) ?_
    refine T.loadR false 12 (u.par).cs 24 b1 6 (by kernel_rfl) (by kernel_rfl) (by kernel_rfl) (by kernel_rfl) (fun w h => St.rangeM h (u.par).cs (.tail _ (.head _)) (by kernel_rfl)) ?_
    refine T.pure 13 (.pointer (some ⟨b2, 6, none⟩)) (by kernel_rfl) (fun w => by kernel_rfl) ?_
    refine T.loadR false 14 (z.par).cs 24 b2 6 (by kernel_rfl) (by kernel_rfl) (by kernel_rfl) (by kernel_rfl) (fun w h => St.rangeM h (z.par).cs (.head _) (by kernel_rfl)) ?_
    refine T.eqq 15 (u.par == z.par) (u.par == z.par) false 24 (u.par).cs (z.par).cs (by kernel_rfl) (by kernel_rfl) (by kernel_rfl) (by kernel_rfl) (fun w => eq_nm w u.par z.par) ?_
    exact T.blkEnd (by kernel_rfl) (fun w h => h)
  refine T.and 16 (u.kind == z.kind) (u.par == z.par) (by kernel_rfl) (by kernel_rfl) ?_
  refine T.pure 17 (.bool ((u.kind == z.kind) && (u.par == z.par))) (by kernel_rfl) (fun w => by kernel_rfl) ?_
  refine T.blk [(13, false), (14, false), (15, false), (16, false), (17, false)] [(18, false), (19, false), (20, false), (21, false), (22, false), (23, false), (24, false), (25, false), (26, false), (27, false), (28, false), (29, false), (30, false), (31, false), (32, false), (33, false)] 12 true ((u.kind == z.kind) && (u.par == z.par)) 17 22 (.bool (u.slot == z.slot)) (by kernel_rfl) (by kernel_rfl) (by kernel_rfl) (fun hg4 => ?_) ?_
  · have hg4_ := hg4
    have hg4l := (Bool.and_eq_true_iff.1 hg4).1
    have hg4r := (Bool.and_eq_true_iff.1 hg4).2
    refine T.pure 18 (.pointer (some ⟨b1, 1, none⟩)) (by kernel_rfl) (fun w => by kernel_rfl) ?_
    refine T.load false 19 (.int .i64 (u.slot)) 3 b1 1 (by kernel_rfl) (by kernel_rfl) (by kernel_rfl) (fun w h => St.cellM h (.tail _ (.head _)) (by kernel_rfl)) ?_
    refine T.pure 20 (.pointer (some ⟨b2, 1, none⟩)) (by kernel_rfl) (fun w => by kernel_rfl) ?_
    refine T.load false 21 (.int .i64 (z.slot)) 3 b2 1 (by kernel_rfl) (by kernel_rfl) (by kernel_rfl) (fun w h => St.cellM h (.head _) (by kernel_rfl)) ?_
    refine T.pure 22 (.bool (u.slot == z.slot)) (by kernel_rfl) (fun w => by kernel_rfl) ?_
    exact T.blkEnd (by kernel_rfl) (fun w h => h)
  refine T.and 23 ((u.kind == z.kind) && (u.par == z.par)) (u.slot == z.slot) (by kernel_rfl) (by kernel_rfl) ?_
  refine T.pure 24 (.bool (((u.kind == z.kind) && (u.par == z.par)) && (u.slot == z.slot))) (by kernel_rfl) (fun w => by kernel_rfl) ?_
  refine T.blk [(20, false), (21, false), (22, false), (23, false), (24, false)] [(25, false), (26, false), (27, false), (28, false), (29, false), (30, false), (31, false), (32, false), (33, false)] 19 true (((u.kind == z.kind) && (u.par == z.par)) && (u.slot == z.slot)) 24 29 (.bool (u.round == z.round)) (by kernel_rfl) (by kernel_rfl) (by kernel_rfl) (fun hg5 => ?_) ?_
  · have hg5_ := hg5
    have hg5l := (Bool.and_eq_true_iff.1 hg5).1
    have hg5r := (Bool.and_eq_true_iff.1 hg5).2
    have hg5ll := (Bool.and_eq_true_iff.1 hg5l).1
    have hg5lr := (Bool.and_eq_true_iff.1 hg5l).2
    refine T.pure 25 (.pointer (some ⟨b1, 2, none⟩)) (by kernel_rfl) (fun w => by kernel_rfl) ?_
    refine T.load false 26 (.int .i64 (u.round)) 3 b1 2 (by kernel_rfl) (by kernel_rfl) (by kernel_rfl) (fun w h => St.cellM h (.tail _ (.head _)) (by kernel_rfl)) ?_
    refine T.pure 27 (.pointer (some ⟨b2, 2, none⟩)) (by kernel_rfl) (fun w => by kernel_rfl) ?_
    refine T.load false 28 (.int .i64 (z.round)) 3 b2 2 (by kernel_rfl) (by kernel_rfl) (by kernel_rfl) (fun w h => St.cellM h (.head _) (by kernel_rfl)) ?_
    refine T.pure 29 (.bool (u.round == z.round)) (by kernel_rfl) (fun w => by kernel_rfl) ?_
    exact T.blkEnd (by kernel_rfl) (fun w h => h)
  refine T.and 30 (((u.kind == z.kind) && (u.par == z.par)) && (u.slot == z.slot)) (u.round == z.round) (by kernel_rfl) (by kernel_rfl) ?_
  refine T.pure 31 (.bool ((((u.kind == z.kind) && (u.par == z.par)) && (u.slot == z.slot)) && (u.round == z.round))) (by kernel_rfl) (fun w => by kernel_rfl) ?_
  refine T.blk [(27, false), (28, false), (29, false), (30, false), (31, false)] [(32, false), (33, false)] 26 true ((((u.kind == z.kind) && (u.par == z.par)) && (u.slot == z.slot)) && (u.round == z.round)) 31 36 (.bool (u.signer == z.signer)) (by kernel_rfl) (by kernel_rfl) (by kernel_rfl) (fun hg6 => ?_) ?_
  · have hg6_ := hg6
    have hg6l := (Bool.and_eq_true_iff.1 hg6).1
    have hg6r := (Bool.and_eq_true_iff.1 hg6).2
    have hg6ll := (Bool.and_eq_true_iff.1 hg6l).1
    have hg6lr := (Bool.and_eq_true_iff.1 hg6l).2
    have hg6lll := (Bool.and_eq_true_iff.1 hg6ll).1
    have hg6llr := (Bool.and_eq_true_iff.1 hg6ll).2
    refine T.pure 32 (.pointer (some ⟨b1, 4, none⟩)) (by kernel_rfl) (fun w => by kernel_rfl) ?_
    refine T.load false 33 (.int .i64 (u.signer)) 3 b1 4 (by kernel_rfl) (by kernel_rfl) (by kernel_rfl) (fun w h => St.cellM h (.tail _ (.head _)) (by kernel_rfl)) ?_
    refine T.pure 34 (.pointer (some ⟨b2, 4, none⟩)) (by kernel_rfl) (fun w => by kernel_rfl) ?_
    refine T.load false 35 (.int .i64 (z.signer)) 3 b2 4 (by kernel_rfl) (by kernel_rfl) (by kernel_rfl) (fun w h => St.cellM h (.head _) (by kernel_rfl)) ?_
    refine T.pure 36 (.bool (u.signer == z.signer)) (by kernel_rfl) (fun w => by kernel_rfl) ?_
    exact T.blkEnd (by kernel_rfl) (fun w h => h)
  refine T.and 37 ((((u.kind == z.kind) && (u.par == z.par)) && (u.slot == z.slot)) && (u.round == z.round)) (u.signer == z.signer) (by kernel_rfl) (by kernel_rfl) ?_
  refine T.pure 4 (.bool (((((u.kind == z.kind) && (u.par == z.par)) && (u.slot == z.slot)) && (u.round == z.round)) && (u.signer == z.signer))) (by kernel_rfl) (fun w => by kernel_rfl) ?_
  refine T.nil ?_
  refine QN.seq ?_
  refine W.ret ?_
  refine QN.done (.inl rfl) 4 (.bool (((((u.kind == z.kind) && (u.par == z.par)) && (u.slot == z.slot)) && (u.round == z.round)) && (u.signer == z.signer))) rfl (by kernel_rfl) (fun w hw => ⟨?_, hw.below⟩)
  exact congrArg (fun b => Ending.returned (.bool b)) (by simp only [keyB])
def confB (u : Vt) (z : Vt) : Bool := (((u != z) && (keyB u z)) && (validB u)) && (validB z)
set_option maxRecDepth 100000 in
set_option maxHeartbeats 2000000 in
theorem conflict_c (u : Vt) (z : Vt)  (w : World) : Calls Try.prog 20 #[.agg (u).cs, .agg (z).cs] w (fun rr w' => rr = .returned (.bool (confB u z)) ∧ Below w.heap.size w w') := by
  refine calls_W (n := 21) Try.func20 rfl [(0, .agg (u).cs), (1, .agg (z).cs)] rfl ⟨by kernel_rfl, by kernel_rfl⟩ ?_
  refine W.weak (Ψ := St w []) (fun w' h => by rw [h]; exact St.start w) ?_
  refine W.seq ?_
  refine W.region [(0, false), (1, false), (2, false)] (by kernel_rfl) ?_
  refine T.box 2 26 (.agg (u).cs) ((u).cs) (by kernel_rfl) (by kernel_rfl) (by kernel_rfl) (fun _ _ _ => trivial) (fun b1 => ?_)
  refine T.box 3 26 (.agg (z).cs) ((z).cs) (by kernel_rfl) (by kernel_rfl) (by kernel_rfl) (fun _ _ _ => trivial) (fun b2 => ?_)
  refine T.pure 4 (.bool (false)) (by kernel_rfl) (fun w => by kernel_rfl) ?_
  refine T.nil ?_
  refine QN.seq ?_
  refine W.seq ?_
  refine W.region [(0, false), (1, false), (2, false), (3, false), (4, false), (5, false), (6, false), (7, false), (8, false), (9, false), (10, false), (11, false), (12, false), (13, false), (14, false), (15, false), (16, false)] (by kernel_rfl) ?_
  refine T.loadR false 5 (u).cs 26 b1 0 (by kernel_rfl) (by kernel_rfl) (by kernel_rfl) (by kernel_rfl) (fun w h => St.rangeM h (u).cs (.tail _ (.head _)) (by kernel_rfl)) ?_
  refine T.loadR false 6 (z).cs 26 b2 0 (by kernel_rfl) (by kernel_rfl) (by kernel_rfl) (by kernel_rfl) (fun w h => St.rangeM h (z).cs (.head _) (by kernel_rfl)) ?_
  refine T.eqq 7 (u != z) (u == z) true 26 (u).cs (z).cs (by kernel_rfl) (by kernel_rfl) (by kernel_rfl) (by kernel_rfl) (fun w => eq_vt w u z) ?_
  refine T.pure 8 (.bool (u != z)) (by kernel_rfl) (fun w => by kernel_rfl) ?_
  refine T.blk [(4, false), (5, false), (6, false)] [(7, false), (8, false), (9, false), (10, false), (11, false), (12, false), (13, false), (14, false), (15, false), (16, false)] 3 true (u != z) 8 11 (.bool (keyB u z)) (by kernel_rfl) (by kernel_rfl) (by kernel_rfl) (fun hg3 => ?_) ?_
  · have hg3_ := hg3
    refine T.loadR false 9 (u).cs 26 b1 0 (by kernel_rfl) (by kernel_rfl) (by kernel_rfl) (by kernel_rfl) (fun w h => St.rangeM h (u).cs (.tail _ (.head _)) (by kernel_rfl)) ?_
    refine T.loadR false 10 (z).cs 26 b2 0 (by kernel_rfl) (by kernel_rfl) (by kernel_rfl) (by kernel_rfl) (fun w h => St.rangeM h (z).cs (.head _) (by kernel_rfl)) ?_
    refine T.callP 11 50 #[.agg (u).cs, .agg (z).cs] (.bool (keyB u z)) (by kernel_rfl) (by kernel_rfl) ent50 (fun w hw => samekey_c _ _ w) (fun _ _ => trivial) ?_
    exact T.blkEnd (by kernel_rfl) (fun w h => h)
  refine T.and 12 (u != z) (keyB u z) (by kernel_rfl) (by kernel_rfl) ?_
  refine T.pure 13 (.bool ((u != z) && (keyB u z))) (by kernel_rfl) (fun w => by kernel_rfl) ?_
  refine T.blk [(9, false), (10, false)] [(11, false), (12, false), (13, false), (14, false), (15, false), (16, false)] 8 true ((u != z) && (keyB u z)) 13 15 (.bool (validB u)) (by kernel_rfl) (by kernel_rfl) (by kernel_rfl) (fun hg4 => ?_) ?_
  · have hg4_ := hg4
    have hg4l := (Bool.and_eq_true_iff.1 hg4).1
    have hg4r := (Bool.and_eq_true_iff.1 hg4).2
    refine T.loadR false 14 (u).cs 26 b1 0 (by kernel_rfl) (by kernel_rfl) (by kernel_rfl) (by kernel_rfl) (fun w h => St.rangeM h (u).cs (.tail _ (.head _)) (by kernel_rfl)) ?_
    refine T.callP 15 44 #[.agg (u).cs] (.bool (validB u)) (by kernel_rfl) (by kernel_rfl) ent44 (fun w hw => valid_c _ w) (fun _ _ => trivial) ?_
    exact T.blkEnd (by kernel_rfl) (fun w h => h)
  refine T.and 16 ((u != z) && (keyB u z)) (validB u) (by kernel_rfl) (by kernel_rfl) ?_
  refine T.pure 17 (.bool (((u != z) && (keyB u z)) && (validB u))) (by kernel_rfl) (fun w => by kernel_rfl) ?_
  refine T.blk [(13, false), (14, false)] [(15, false), (16, false)] 12 true (((u != z) && (keyB u z)) && (validB u)) 17 19 (.bool (validB z)) (by kernel_rfl) (by kernel_rfl) (by kernel_rfl) (fun hg5 => ?_) ?_
  · have hg5_ := hg5
    have hg5l := (Bool.and_eq_true_iff.1 hg5).1
    have hg5r := (Bool.and_eq_true_iff.1 hg5).2
    have hg5ll := (Bool.and_eq_true_iff.1 hg5l).1
    have hg5lr := (Bool.and_eq_true_iff.1 hg5l).2
    refine T.loadR false 18 (z).cs 26 b2 0 (by kernel_rfl) (by kernel_rfl) (by kernel_rfl) (by kernel_rfl) (fun w h => St.rangeM h (z).cs (.head _) (by kernel_rfl)) ?_
    refine T.callP 19 44 #[.agg (z).cs] (.bool (validB z)) (by kernel_rfl) (by kernel_rfl) ent44 (fun w hw => valid_c _ w) (fun _ _ => trivial) ?_
    exact T.blkEnd (by kernel_rfl) (fun w h => h)
  refine T.and 20 (((u != z) && (keyB u z)) && (validB u)) (validB z) (by kernel_rfl) (by kernel_rfl) ?_
  refine T.pure 4 (.bool ((((u != z) && (keyB u z)) && (validB u)) && (validB z))) (by kernel_rfl) (fun w => by kernel_rfl) ?_
  refine T.nil ?_
  refine QN.seq ?_
  refine W.ret ?_
  refine QN.done (.inl rfl) 4 (.bool ((((u != z) && (keyB u z)) && (validB u)) && (validB z))) rfl (by kernel_rfl) (fun w hw => ⟨?_, hw.below⟩)
  exact congrArg (fun b => Ending.returned (.bool b)) (by simp only [confB])
def bkP (m : Int) (v : Vt) (k r : Int) (u : Vt) : Bool := ((((((((u.kind == k) && (u.round == r)) && (u.par == v.par)) && (u.slot == v.slot)) && (u.choice == v.choice)) && (u.val == v.val)) && (validB u)) && (hasB m u.signer))
def bkM (m : Int) (v : Vt) (k r : Int) (l : List Vt) : Int := l.foldl (fun x u => bif bkP m v k r u then bits .or .i64 x (2 ^ u.signer.toNat) else x) 0
theorem bkM_step {m : Int} {v : Vt} {k r : Int} {a : List Vt} {j : Nat} {x : Int} (h : x = bkM m v k r (a.take j)) (hj : j < a.length) : (bif bkP m v k r a[j] then bits .or .i64 x (2 ^ a[j].signer.toNat) else x) = bkM m v k r (a.take (j + 1)) := by
  unfold bkM at *; rw [foldl_step _ _ hj, ← h]
set_option maxRecDepth 100000 in
set_option maxHeartbeats 2000000 in
theorem backers_c (m : Int) (v : Vt) (a : List Vt) (k r : Int) (A : Option Addr) (c : Nat) (hm : W64 m) (ha : a.length ≤ 1000) (w : World) (hr : Rd w A a) : Calls Try.prog 18 #[.int .i64 (m), .agg (v).cs, .slice A (a.length) c, .int .i64 (k), .int .i64 (r)] w (fun rr w' => rr = .returned (.int .i64 (size (bkM m v k r a) : Int)) ∧ Below w.heap.size w w') := by
  refine calls_W (n := 80) Try.func18 rfl [(0, .int .i64 (m)), (1, .agg (v).cs), (2, .slice A (a.length) c), (3, .int .i64 (k)), (4, .int .i64 (r))] rfl ⟨by kernel_rfl, by kernel_rfl⟩ ?_
  refine W.weak (Ψ := St w []) (fun w' h => by rw [h]; exact St.start w) ?_
  refine W.seq ?_
  refine W.region [(0, false), (1, false)] (by kernel_rfl) ?_
  refine T.box 6 26 (.agg (v).cs) ((v).cs) (by kernel_rfl) (by kernel_rfl) (by kernel_rfl) (fun _ _ _ => trivial) (fun b1 => ?_)
  refine T.pure 10 (.int .i64 (0)) (by kernel_rfl) (fun w => by kernel_rfl) ?_
  refine T.nil ?_
  refine QN.seq ?_
  refine W.seq ?_
  refine W.region [(0, false)] (by kernel_rfl) ?_
  refine T.pure 11 (.int .i64 (0)) (by kernel_rfl) (fun w => by kernel_rfl) ?_
  refine T.nil ?_
  refine QN.seq ?_
  refine W.seq ?_
  refine W.seq ?_
  refine W.region [(0, false)] (by kernel_rfl) ?_
  refine T.pure 12 (.int .i64 (0)) (by kernel_rfl) (fun w => by kernel_rfl) ?_
  refine T.nil ?_
  refine QN.seq ?_
  refine W.block ?_
  refine W.loop (σ := Nat × Int) (fun gs => gs.1 ≤ a.length ∧ gs.2 = bkM m v k r (a.take gs.1)) (fun gs => [(0, .int .i64 (m)), (2, .slice A (a.length) c), (3, .int .i64 (k)), (4, .int .i64 (r)), (6, .pointer (some ⟨b1, 0, none⟩)), (10, .int .i64 (0)), (11, .int .i64 (gs.2)), (12, .int .i64 ((gs.1 : Int)))]) (fun gs => St w [(b1, .cells (v).cs 26 (0, 0))]) (fun gs => a.length - gs.1) (0, 0) ?_ (by kernel_rfl) (fun w h => h) ?_
  · show 0 ≤ a.length ∧ 0 = bkM m v k r (a.take 0)
    exact ⟨Nat.zero_le _, rfl⟩
  rintro ⟨j, x⟩ hI_
  obtain ⟨hj, hx⟩ : j ≤ a.length ∧ x = bkM m v k r (a.take j) := hI_
  show W _ _ [(0, .int .i64 (m)), (2, .slice A (a.length) c), (3, .int .i64 (k)), (4, .int .i64 (r)), (6, .pointer (some ⟨b1, 0, none⟩)), (10, .int .i64 (0)), (11, .int .i64 (x)), (12, .int .i64 ((j : Int)))] (St w [(b1, .cells (v).cs 26 (0, 0))]) _ _
  refine W.seq ?_
  refine W.seq ?_
  refine W.region [(0, false), (1, false), (2, false), (3, false)] (by kernel_rfl) ?_
  refine T.pure 14 (.int .i64 ((j : Int))) (by kernel_rfl) (fun w => by kernel_rfl) ?_
  refine T.pure 15 (.slice A (a.length) c) (by kernel_rfl) (fun w => by kernel_rfl) ?_
  refine T.pure 16 (.int .i64 (((a.length : Nat) : Int))) (by kernel_rfl) (fun w => by kernel_rfl) ?_
  refine T.pure 17 (.bool (decide ((j : Int) < ((a.length : Nat) : Int)))) (by kernel_rfl) (fun w => by kernel_rfl) ?_
  refine T.nil ?_
  refine QN.seq ?_
  refine W.cond (decide ((j : Int) < ((a.length : Nat) : Int))) (by kernel_rfl) (fun h2 => ?_) (fun h2 => ?_)
  · skip
    have h2' := of_decide_eq_true h2
    have hl3 : j < (a).length := by omega
    refine W.skip ?_
    refine QN.seq ?_
    refine W.seq ?_
    refine W.block ?_
    refine W.seq ?_
    refine W.region [(0, false), (1, false), (2, false), (3, false), (4, false), (5, false)] (by kernel_rfl) ?_
    refine T.pure 20 (.slice A (a.length) c) (by kernel_rfl) (fun w => by kernel_rfl) ?_
    refine T.pure 21 (.int .i64 ((j : Int))) (by kernel_rfl) (fun w => by kernel_rfl) ?_
    obtain ⟨b4, o5, hA6, hr7⟩ := (Rd.arr hr _) j hl3
    refine T.index 22 27 26 22 A (a.length) c ((j : Int)) (j) b4 o5 (by kernel_rfl) (by kernel_rfl) (by kernel_rfl) (by kernel_rfl) hA6 (rfl) (by omega) ?_
    refine T.loadR false 23 ((a[j]'hl3)).cs 26 b4 (o5 + j * 22) (by kernel_rfl) (by kernel_rfl) (by kernel_rfl) (by kernel_rfl) hr7 ?_
    refine T.alloc 13 26 (Vt.zero).cs (by kernel_rfl) (by kernel_rfl) (by kernel_rfl) (fun _ _ _ => trivial) (fun b8 => ?_)
    refine T.storeP 26 b8 0 (.agg ((a[j]'hl3)).cs) (Vt.zero).cs ((a[j]'hl3)).cs 26 (by kernel_rfl) (by kernel_rfl) (by kernel_rfl) (by kernel_rfl) (by kernel_rfl) (by kernel_rfl) (List.Perm.refl _) (fun _ _ => trivial) ?_
    refine T.nil ?_
    refine QN.seq ?_
    refine W.seq ?_
    refine W.region [(0, false), (1, false), (2, false), (3, false), (4, false), (5, false), (6, false), (7, false), (8, false), (9, false), (10, false), (11, false), (12, false), (13, false), (14, false), (15, false), (16, false), (17, false), (18, false), (19, false), (20, false), (21, false), (22, false), (23, false), (24, false), (25, false), (26, false), (27, false), (28, false), (29, false), (30, false), (31, false), (32, false), (33, false), (34, false), (35, false), (36, false), (37, false), (38, false), (39, false), (40, false), (41, false), (42, false), (43, false), (44, false), (45, false), (46, false), (47, false)] (by kernel_rfl) ?_
    refine T.pure 24 (.pointer (some ⟨b8, 0, none⟩)) (by kernel_rfl) (fun w => by kernel_rfl) ?_
    refine T.load false 25 (.int .i64 (((a[j]'hl3)).kind)) 3 b8 0 (by kernel_rfl) (by kernel_rfl) (by kernel_rfl) (fun w h => St.cellM h (.head _) (by kernel_rfl)) ?_
    refine T.pure 26 (.int .i64 (k)) (by kernel_rfl) (fun w => by kernel_rfl) ?_
    refine T.pure 27 (.bool ((((a[j]'hl3)).kind) == k)) (by kernel_rfl) (fun w => by kernel_rfl) ?_
    refine T.pure 28 (.bool ((((a[j]'hl3)).kind) == k)) (by kernel_rfl) (fun w => by kernel_rfl) ?_
    refine T.blk [(5, false), (6, false), (7, false), (8, false)] [(9, false), (10, false), (11, false), (12, false), (13, false), (14, false), (15, false), (16, false), (17, false), (18, false), (19, false), (20, false), (21, false), (22, false), (23, false), (24, false), (25, false), (26, false), (27, false), (28, false), (29, false), (30, false), (31, false), (32, false), (33, false), (34, false), (35, false), (36, false), (37, false), (38, false), (39, false), (40, false), (41, false), (42, false), (43, false), (44, false), (45, false), (46, false), (47, false)] 4 true ((((a[j]'hl3)).kind) == k) 28 32 (.bool ((((a[j]'hl3)).round) == r)) (by kernel_rfl) (by kernel_rfl) (by kernel_rfl) (fun hg9 => ?_) ?_
    · have hg9_ := hg9
      refine T.pure 29 (.pointer (some ⟨b8, 2, none⟩)) (by kernel_rfl) (fun w => by kernel_rfl) ?_
      refine T.load false 30 (.int .i64 (((a[j]'hl3)).round)) 3 b8 2 (by kernel_rfl) (by kernel_rfl) (by kernel_rfl) (fun w h => St.cellM h (.head _) (by kernel_rfl)) ?_
      refine T.pure 31 (.int .i64 (r)) (by kernel_rfl) (fun w => by kernel_rfl) ?_
      refine T.pure 32 (.bool ((((a[j]'hl3)).round) == r)) (by kernel_rfl) (fun w => by kernel_rfl) ?_
      exact T.blkEnd (by kernel_rfl) (fun w h => h)
    refine T.and 33 ((((a[j]'hl3)).kind) == k) ((((a[j]'hl3)).round) == r) (by kernel_rfl) (by kernel_rfl) ?_
    refine T.pure 34 (.bool (((((a[j]'hl3)).kind) == k) && ((((a[j]'hl3)).round) == r))) (by kernel_rfl) (fun w => by kernel_rfl) ?_
    refine T.blk [(11, false), (12, false), (13, false), (14, false), (15, false)] [(16, false), (17, false), (18, false), (19, false), (20, false), (21, false), (22, false), (23, false), (24, false), (25, false), (26, false), (27, false), (28, false), (29, false), (30, false), (31, false), (32, false), (33, false), (34, false), (35, false), (36, false), (37, false), (38, false), (39, false), (40, false), (41, false), (42, false), (43, false), (44, false), (45, false), (46, false), (47, false)] 10 true (((((a[j]'hl3)).kind) == k) && ((((a[j]'hl3)).round) == r)) 34 39 (.bool ((((a[j]'hl3)).par) == v.par)) (by kernel_rfl) (by kernel_rfl) (by kernel_rfl) (fun hg10 => ?_) ?_
    · have hg10_ := hg10
      have hg10l := (Bool.and_eq_true_iff.1 hg10).1
      have hg10r := (Bool.and_eq_true_iff.1 hg10).2
      refine T.pure 35 (.pointer (some ⟨b8, 6, none⟩)) (by kernel_rfl) (fun w => by kernel_rfl) ?_
      refine T.loadR false 36 (((a[j]'hl3)).par).cs 24 b8 6 (by kernel_rfl) (by kernel_rfl) (by kernel_rfl) (by kernel_rfl) (fun w h => St.rangeM h (((a[j]'hl3)).par).cs (.head _) (by kernel_rfl)) ?_
      refine T.pure 37 (.pointer (some ⟨b1, 6, none⟩)) (by kernel_rfl) (fun w => by kernel_rfl) ?_
      refine T.loadR false 38 (v.par).cs 24 b1 6 (by kernel_rfl) (by kernel_rfl) (by kernel_rfl) (by kernel_rfl) (fun w h => St.rangeM h (v.par).cs (.tail _ (.head _)) (by kernel_rfl)) ?_
      refine T.eqq 39 ((((a[j]'hl3)).par) == v.par) ((((a[j]'hl3)).par) == v.par) false 24 (((a[j]'hl3)).par).cs (v.par).cs (by kernel_rfl) (by kernel_rfl) (by kernel_rfl) (by kernel_rfl) (fun w => eq_nm w (((a[j]'hl3)).par) v.par) ?_
      exact T.blkEnd (by kernel_rfl) (fun w h => h)
    refine T.and 40 (((((a[j]'hl3)).kind) == k) && ((((a[j]'hl3)).round) == r)) ((((a[j]'hl3)).par) == v.par) (by kernel_rfl) (by kernel_rfl) ?_
    refine T.pure 41 (.bool ((((((a[j]'hl3)).kind) == k) && ((((a[j]'hl3)).round) == r)) && ((((a[j]'hl3)).par) == v.par))) (by kernel_rfl) (fun w => by kernel_rfl) ?_
    refine T.blk [(18, false), (19, false), (20, false), (21, false), (22, false)] [(23, false), (24, false), (25, false), (26, false), (27, false), (28, false), (29, false), (30, false), (31, false), (32, false), (33, false), (34, false), (35, false), (36, false), (37, false), (38, false), (39, false), (40, false), (41, false), (42, false), (43, false), (44, false), (45, false), (46, false), (47, false)] 17 true ((((((a[j]'hl3)).kind) == k) && ((((a[j]'hl3)).round) == r)) && ((((a[j]'hl3)).par) == v.par)) 41 46 (.bool ((((a[j]'hl3)).slot) == v.slot)) (by kernel_rfl) (by kernel_rfl) (by kernel_rfl) (fun hg11 => ?_) ?_
    · have hg11_ := hg11
      have hg11l := (Bool.and_eq_true_iff.1 hg11).1
      have hg11r := (Bool.and_eq_true_iff.1 hg11).2
      have hg11ll := (Bool.and_eq_true_iff.1 hg11l).1
      have hg11lr := (Bool.and_eq_true_iff.1 hg11l).2
      refine T.pure 42 (.pointer (some ⟨b8, 1, none⟩)) (by kernel_rfl) (fun w => by kernel_rfl) ?_
      refine T.load false 43 (.int .i64 (((a[j]'hl3)).slot)) 3 b8 1 (by kernel_rfl) (by kernel_rfl) (by kernel_rfl) (fun w h => St.cellM h (.head _) (by kernel_rfl)) ?_
      refine T.pure 44 (.pointer (some ⟨b1, 1, none⟩)) (by kernel_rfl) (fun w => by kernel_rfl) ?_
      refine T.load false 45 (.int .i64 (v.slot)) 3 b1 1 (by kernel_rfl) (by kernel_rfl) (by kernel_rfl) (fun w h => St.cellM h (.tail _ (.head _)) (by kernel_rfl)) ?_
      refine T.pure 46 (.bool ((((a[j]'hl3)).slot) == v.slot)) (by kernel_rfl) (fun w => by kernel_rfl) ?_
      exact T.blkEnd (by kernel_rfl) (fun w h => h)
    refine T.and 47 ((((((a[j]'hl3)).kind) == k) && ((((a[j]'hl3)).round) == r)) && ((((a[j]'hl3)).par) == v.par)) ((((a[j]'hl3)).slot) == v.slot) (by kernel_rfl) (by kernel_rfl) ?_
    refine T.pure 48 (.bool (((((((a[j]'hl3)).kind) == k) && ((((a[j]'hl3)).round) == r)) && ((((a[j]'hl3)).par) == v.par)) && ((((a[j]'hl3)).slot) == v.slot))) (by kernel_rfl) (fun w => by kernel_rfl) ?_
    refine T.blk [(25, false), (26, false), (27, false), (28, false), (29, false)] [(30, false), (31, false), (32, false), (33, false), (34, false), (35, false), (36, false), (37, false), (38, false), (39, false), (40, false), (41, false), (42, false), (43, false), (44, false), (45, false), (46, false), (47, false)] 24 true (((((((a[j]'hl3)).kind) == k) && ((((a[j]'hl3)).round) == r)) && ((((a[j]'hl3)).par) == v.par)) && ((((a[j]'hl3)).slot) == v.slot)) 48 53 (.bool ((((a[j]'hl3)).choice) == v.choice)) (by kernel_rfl) (by kernel_rfl) (by kernel_rfl) (fun hg12 => ?_) ?_
    · have hg12_ := hg12
      have hg12l := (Bool.and_eq_true_iff.1 hg12).1
      have hg12r := (Bool.and_eq_true_iff.1 hg12).2
      have hg12ll := (Bool.and_eq_true_iff.1 hg12l).1
      have hg12lr := (Bool.and_eq_true_iff.1 hg12l).2
      have hg12lll := (Bool.and_eq_true_iff.1 hg12ll).1
      have hg12llr := (Bool.and_eq_true_iff.1 hg12ll).2
      refine T.pure 49 (.pointer (some ⟨b8, 3, none⟩)) (by kernel_rfl) (fun w => by kernel_rfl) ?_
      refine T.load false 50 (.int .i64 (((a[j]'hl3)).choice)) 3 b8 3 (by kernel_rfl) (by kernel_rfl) (by kernel_rfl) (fun w h => St.cellM h (.head _) (by kernel_rfl)) ?_
      refine T.pure 51 (.pointer (some ⟨b1, 3, none⟩)) (by kernel_rfl) (fun w => by kernel_rfl) ?_
      refine T.load false 52 (.int .i64 (v.choice)) 3 b1 3 (by kernel_rfl) (by kernel_rfl) (by kernel_rfl) (fun w h => St.cellM h (.tail _ (.head _)) (by kernel_rfl)) ?_
      refine T.pure 53 (.bool ((((a[j]'hl3)).choice) == v.choice)) (by kernel_rfl) (fun w => by kernel_rfl) ?_
      exact T.blkEnd (by kernel_rfl) (fun w h => h)
    refine T.and 54 (((((((a[j]'hl3)).kind) == k) && ((((a[j]'hl3)).round) == r)) && ((((a[j]'hl3)).par) == v.par)) && ((((a[j]'hl3)).slot) == v.slot)) ((((a[j]'hl3)).choice) == v.choice) (by kernel_rfl) (by kernel_rfl) ?_
    refine T.pure 55 (.bool ((((((((a[j]'hl3)).kind) == k) && ((((a[j]'hl3)).round) == r)) && ((((a[j]'hl3)).par) == v.par)) && ((((a[j]'hl3)).slot) == v.slot)) && ((((a[j]'hl3)).choice) == v.choice))) (by kernel_rfl) (fun w => by kernel_rfl) ?_
    refine T.blk [(32, false), (33, false), (34, false), (35, false), (36, false)] [(37, false), (38, false), (39, false), (40, false), (41, false), (42, false), (43, false), (44, false), (45, false), (46, false), (47, false)] 31 true ((((((((a[j]'hl3)).kind) == k) && ((((a[j]'hl3)).round) == r)) && ((((a[j]'hl3)).par) == v.par)) && ((((a[j]'hl3)).slot) == v.slot)) && ((((a[j]'hl3)).choice) == v.choice)) 55 60 (.bool ((((a[j]'hl3)).val) == v.val)) (by kernel_rfl) (by kernel_rfl) (by kernel_rfl) (fun hg13 => ?_) ?_
    · have hg13_ := hg13
      have hg13l := (Bool.and_eq_true_iff.1 hg13).1
      have hg13r := (Bool.and_eq_true_iff.1 hg13).2
      have hg13ll := (Bool.and_eq_true_iff.1 hg13l).1
      have hg13lr := (Bool.and_eq_true_iff.1 hg13l).2
      have hg13lll := (Bool.and_eq_true_iff.1 hg13ll).1
      have hg13llr := (Bool.and_eq_true_iff.1 hg13ll).2
      have hg13llll := (Bool.and_eq_true_iff.1 hg13lll).1
      have hg13lllr := (Bool.and_eq_true_iff.1 hg13lll).2
      refine T.pure 56 (.pointer (some ⟨b8, 14, none⟩)) (by kernel_rfl) (fun w => by kernel_rfl) ?_
      refine T.loadR false 57 (((a[j]'hl3)).val).cs 24 b8 14 (by kernel_rfl) (by kernel_rfl) (by kernel_rfl) (by kernel_rfl) (fun w h => St.rangeM h (((a[j]'hl3)).val).cs (.head _) (by kernel_rfl)) ?_
      refine T.pure 58 (.pointer (some ⟨b1, 14, none⟩)) (by kernel_rfl) (fun w => by kernel_rfl) ?_
      refine T.loadR false 59 (v.val).cs 24 b1 14 (by kernel_rfl) (by kernel_rfl) (by kernel_rfl) (by kernel_rfl) (fun w h => St.rangeM h (v.val).cs (.tail _ (.head _)) (by kernel_rfl)) ?_
      refine T.eqq 60 ((((a[j]'hl3)).val) == v.val) ((((a[j]'hl3)).val) == v.val) false 24 (((a[j]'hl3)).val).cs (v.val).cs (by kernel_rfl) (by kernel_rfl) (by kernel_rfl) (by kernel_rfl) (fun w => eq_nm w (((a[j]'hl3)).val) v.val) ?_
      exact T.blkEnd (by kernel_rfl) (fun w h => h)
    refine T.and 61 ((((((((a[j]'hl3)).kind) == k) && ((((a[j]'hl3)).round) == r)) && ((((a[j]'hl3)).par) == v.par)) && ((((a[j]'hl3)).slot) == v.slot)) && ((((a[j]'hl3)).choice) == v.choice)) ((((a[j]'hl3)).val) == v.val) (by kernel_rfl) (by kernel_rfl) ?_
    refine T.pure 62 (.bool (((((((((a[j]'hl3)).kind) == k) && ((((a[j]'hl3)).round) == r)) && ((((a[j]'hl3)).par) == v.par)) && ((((a[j]'hl3)).slot) == v.slot)) && ((((a[j]'hl3)).choice) == v.choice)) && ((((a[j]'hl3)).val) == v.val))) (by kernel_rfl) (fun w => by kernel_rfl) ?_
    refine T.blk [(39, false), (40, false)] [(41, false), (42, false), (43, false), (44, false), (45, false), (46, false), (47, false)] 38 true (((((((((a[j]'hl3)).kind) == k) && ((((a[j]'hl3)).round) == r)) && ((((a[j]'hl3)).par) == v.par)) && ((((a[j]'hl3)).slot) == v.slot)) && ((((a[j]'hl3)).choice) == v.choice)) && ((((a[j]'hl3)).val) == v.val)) 62 64 (.bool (validB (a[j]'hl3))) (by kernel_rfl) (by kernel_rfl) (by kernel_rfl) (fun hg14 => ?_) ?_
    · have hg14_ := hg14
      have hg14l := (Bool.and_eq_true_iff.1 hg14).1
      have hg14r := (Bool.and_eq_true_iff.1 hg14).2
      have hg14ll := (Bool.and_eq_true_iff.1 hg14l).1
      have hg14lr := (Bool.and_eq_true_iff.1 hg14l).2
      have hg14lll := (Bool.and_eq_true_iff.1 hg14ll).1
      have hg14llr := (Bool.and_eq_true_iff.1 hg14ll).2
      have hg14llll := (Bool.and_eq_true_iff.1 hg14lll).1
      have hg14lllr := (Bool.and_eq_true_iff.1 hg14lll).2
      have hg14lllll := (Bool.and_eq_true_iff.1 hg14llll).1
      have hg14llllr := (Bool.and_eq_true_iff.1 hg14llll).2
      refine T.loadR false 63 ((a[j]'hl3)).cs 26 b8 0 (by kernel_rfl) (by kernel_rfl) (by kernel_rfl) (by kernel_rfl) (fun w h => St.rangeM h ((a[j]'hl3)).cs (.head _) (by kernel_rfl)) ?_
      refine T.callP 64 44 #[.agg ((a[j]'hl3)).cs] (.bool (validB (a[j]'hl3))) (by kernel_rfl) (by kernel_rfl) ent44 (fun w hw => valid_c _ w) (fun _ _ => trivial) ?_
      exact T.blkEnd (by kernel_rfl) (fun w h => h)
    refine T.and 65 (((((((((a[j]'hl3)).kind) == k) && ((((a[j]'hl3)).round) == r)) && ((((a[j]'hl3)).par) == v.par)) && ((((a[j]'hl3)).slot) == v.slot)) && ((((a[j]'hl3)).choice) == v.choice)) && ((((a[j]'hl3)).val) == v.val)) (validB (a[j]'hl3)) (by kernel_rfl) (by kernel_rfl) ?_
    refine T.pure 66 (.bool ((((((((((a[j]'hl3)).kind) == k) && ((((a[j]'hl3)).round) == r)) && ((((a[j]'hl3)).par) == v.par)) && ((((a[j]'hl3)).slot) == v.slot)) && ((((a[j]'hl3)).choice) == v.choice)) && ((((a[j]'hl3)).val) == v.val)) && (validB (a[j]'hl3)))) (by kernel_rfl) (fun w => by kernel_rfl) ?_
    refine T.blk [(43, false), (44, false), (45, false), (46, false)] [(47, false)] 42 true ((((((((((a[j]'hl3)).kind) == k) && ((((a[j]'hl3)).round) == r)) && ((((a[j]'hl3)).par) == v.par)) && ((((a[j]'hl3)).slot) == v.slot)) && ((((a[j]'hl3)).choice) == v.choice)) && ((((a[j]'hl3)).val) == v.val)) && (validB (a[j]'hl3))) 66 70 (.bool (hasB m (((a[j]'hl3)).signer))) (by kernel_rfl) (by kernel_rfl) (by kernel_rfl) (fun hg15 => ?_) ?_
    · have hg15_ := hg15
      have hg15l := (Bool.and_eq_true_iff.1 hg15).1
      have hg15r := (Bool.and_eq_true_iff.1 hg15).2
      have hg15ll := (Bool.and_eq_true_iff.1 hg15l).1
      have hg15lr := (Bool.and_eq_true_iff.1 hg15l).2
      have hg15lll := (Bool.and_eq_true_iff.1 hg15ll).1
      have hg15llr := (Bool.and_eq_true_iff.1 hg15ll).2
      have hg15llll := (Bool.and_eq_true_iff.1 hg15lll).1
      have hg15lllr := (Bool.and_eq_true_iff.1 hg15lll).2
      have hg15lllll := (Bool.and_eq_true_iff.1 hg15llll).1
      have hg15llllr := (Bool.and_eq_true_iff.1 hg15llll).2
      have hg15llllll := (Bool.and_eq_true_iff.1 hg15lllll).1
      have hg15lllllr := (Bool.and_eq_true_iff.1 hg15lllll).2
      refine T.pure 67 (.int .i64 (m)) (by kernel_rfl) (fun w => by kernel_rfl) ?_
      refine T.pure 68 (.pointer (some ⟨b8, 4, none⟩)) (by kernel_rfl) (fun w => by kernel_rfl) ?_
      refine T.load false 69 (.int .i64 (((a[j]'hl3)).signer)) 3 b8 4 (by kernel_rfl) (by kernel_rfl) (by kernel_rfl) (fun w h => St.cellM h (.head _) (by kernel_rfl)) ?_
      refine T.callP 70 21 #[.int .i64 (m), .int .i64 (((a[j]'hl3)).signer)] (.bool (hasB m (((a[j]'hl3)).signer))) (by kernel_rfl) (by kernel_rfl) ent21 (fun w hw => Ret.same (has_c _ _ w (by first | assumption | exact w64_and _ _ | exact w64_or _ _ | exact w64_andNot _ _ | (unfold W64; omega)))) (fun _ _ => trivial) ?_
      exact T.blkEnd (by kernel_rfl) (fun w h => h)
    refine T.and 71 ((((((((((a[j]'hl3)).kind) == k) && ((((a[j]'hl3)).round) == r)) && ((((a[j]'hl3)).par) == v.par)) && ((((a[j]'hl3)).slot) == v.slot)) && ((((a[j]'hl3)).choice) == v.choice)) && ((((a[j]'hl3)).val) == v.val)) && (validB (a[j]'hl3))) (hasB m (((a[j]'hl3)).signer)) (by kernel_rfl) (by kernel_rfl) ?_
    refine T.nil ?_
    refine QN.seq ?_
    refine W.cond (((((((((((a[j]'hl3)).kind) == k) && ((((a[j]'hl3)).round) == r)) && ((((a[j]'hl3)).par) == v.par)) && ((((a[j]'hl3)).slot) == v.slot)) && ((((a[j]'hl3)).choice) == v.choice)) && ((((a[j]'hl3)).val) == v.val)) && (validB (a[j]'hl3))) && (hasB m (((a[j]'hl3)).signer))) (by kernel_rfl) (fun h16 => ?_) (fun h16 => ?_)
    · skip
      have h16l := (Bool.and_eq_true_iff.1 h16).1
      have h16r := (Bool.and_eq_true_iff.1 h16).2
      have h16ll := (Bool.and_eq_true_iff.1 h16l).1
      have h16lr := (Bool.and_eq_true_iff.1 h16l).2
      have h16lll := (Bool.and_eq_true_iff.1 h16ll).1
      have h16llr := (Bool.and_eq_true_iff.1 h16ll).2
      have h16llll := (Bool.and_eq_true_iff.1 h16lll).1
      have h16lllr := (Bool.and_eq_true_iff.1 h16lll).2
      have h16lllll := (Bool.and_eq_true_iff.1 h16llll).1
      have h16llllr := (Bool.and_eq_true_iff.1 h16llll).2
      have h16llllll := (Bool.and_eq_true_iff.1 h16lllll).1
      have h16lllllr := (Bool.and_eq_true_iff.1 h16lllll).2
      have h16lllllll := (Bool.and_eq_true_iff.1 h16llllll).1
      have h16llllllr := (Bool.and_eq_true_iff.1 h16llllll).2
      have h16rb := hasB_lt h16r
      refine W.region [(0, false), (1, false), (2, false), (3, false), (4, false), (5, false), (6, false)] (by kernel_rfl) ?_
      refine T.pure 72 (.int .i64 (x)) (by kernel_rfl) (fun w => by kernel_rfl) ?_
      refine T.pure 73 (.pointer (some ⟨b8, 4, none⟩)) (by kernel_rfl) (fun w => by kernel_rfl) ?_
      refine T.load false 74 (.int .i64 (((a[j]'hl3)).signer)) 3 b8 4 (by kernel_rfl) (by kernel_rfl) (by kernel_rfl) (fun w h => St.cellM h (.head _) (by kernel_rfl)) ?_
      refine T.pureE 75 (.int .u64 (IntKind.u64.wrap (((a[j]'hl3)).signer))) (.int .u64 (((a[j]'hl3)).signer)) (by kernel_rfl) (fun w => by kernel_rfl) (wrapu_int (by omega) (by omega)) ?_
      refine T.shl 76 .i64 .u64 1 (((a[j]'hl3)).signer) (.int .i64 (2 ^ (((a[j]'hl3)).signer).toNat)) (by kernel_rfl) (by kernel_rfl) (by omega) (shl_one (by omega) (by omega)) ?_
      refine T.pure 77 (.int .i64 (bits .or .i64 x (2 ^ (((a[j]'hl3)).signer).toNat))) (by kernel_rfl) (fun w => by kernel_rfl) ?_
      refine T.pure 11 (.int .i64 (bits .or .i64 x (2 ^ (((a[j]'hl3)).signer).toNat))) (by kernel_rfl) (fun w => by kernel_rfl) ?_
      refine T.nil ?_
      refine QN.blkNormal ?_
      refine QN.seq ?_
      refine W.region [(0, false), (1, false), (2, false)] (by kernel_rfl) ?_
      refine T.pure 18 (.int .i64 ((j : Int))) (by kernel_rfl) (fun w => by kernel_rfl) ?_
      refine T.pureE 19 (.int .i64 (IntKind.i64.wrap ((j : Int) + 1))) (.int .i64 ((j : Int) + 1)) (by kernel_rfl) (fun w => by kernel_rfl) (wrap_int (by omega) (by omega)) ?_
      refine T.pure 12 (.int .i64 ((j : Int) + 1)) (by kernel_rfl) (fun w => by kernel_rfl) ?_
      refine T.nil ?_
      refine QN.back (j + 1, bits .or .i64 x (2 ^ (((a[j]'hl3)).signer).toNat)) ?_ ?_ (by kernel_rfl) (fun w h => (h.perm (((List.Perm.refl _).cons _).trans (List.Perm.swap _ _ _))).part ((List.nil_sublist _).cons_cons _))
      · show (j + 1) ≤ a.length ∧ (bits .or .i64 x (2 ^ (((a[j]'hl3)).signer).toNat)) = bkM m v k r (a.take (j + 1))
        refine ⟨by omega, ?_⟩; rw [← bkM_step hx (by omega)]; have hb : bkP m v k r _ = _ := h16; rw [hb]; all_goals rfl
      · show _ - _ < _ - _; omega
    · skip
      refine W.skip ?_
      refine QN.blkNormal ?_
      refine QN.seq ?_
      refine W.region [(0, false), (1, false), (2, false)] (by kernel_rfl) ?_
      refine T.pure 18 (.int .i64 ((j : Int))) (by kernel_rfl) (fun w => by kernel_rfl) ?_
      refine T.pureE 19 (.int .i64 (IntKind.i64.wrap ((j : Int) + 1))) (.int .i64 ((j : Int) + 1)) (by kernel_rfl) (fun w => by kernel_rfl) (wrap_int (by omega) (by omega)) ?_
      refine T.pure 12 (.int .i64 ((j : Int) + 1)) (by kernel_rfl) (fun w => by kernel_rfl) ?_
      refine T.nil ?_
      refine QN.back (j + 1, x) ?_ ?_ (by kernel_rfl) (fun w h => (h.perm (((List.Perm.refl _).cons _).trans (List.Perm.swap _ _ _))).part ((List.nil_sublist _).cons_cons _))
      · show (j + 1) ≤ a.length ∧ x = bkM m v k r (a.take (j + 1))
        refine ⟨by omega, ?_⟩; rw [← bkM_step hx (by omega)]; have hb : bkP m v k r _ = _ := h16; rw [hb]; all_goals rfl
      · show _ - _ < _ - _; omega
  · skip
    have h2' := of_decide_eq_false h2
    refine W.exit ?_
    refine QN.thenExit ?_
    refine QN.thenExit ?_
    refine QN.blkHit ?_
    refine QN.seq ?_
    refine W.seq ?_
    refine W.region [(0, false), (1, false), (2, false)] (by kernel_rfl) ?_
    refine T.pure 78 (.int .i64 (x)) (by kernel_rfl) (fun w => by kernel_rfl) ?_
    refine T.callP 79 15 #[.int .i64 (x)] (.int .i64 ((size x : Int))) (by kernel_rfl) (by kernel_rfl) ent15 (fun w hw => Ret.same (size_c _ w)) (fun _ _ => trivial) ?_
    refine T.pure 10 (.int .i64 ((size x : Int))) (by kernel_rfl) (fun w => by kernel_rfl) ?_
    refine T.nil ?_
    refine QN.seq ?_
    refine W.ret ?_
    refine QN.done (.inl rfl) 10 (.int .i64 ((size x : Int))) rfl (by kernel_rfl) (fun w hw => ⟨?_, hw.below⟩)
    exact ret_int (by rw [hx, take_end (by omega)])
theorem mb_bkM (m : Int) (v : Vt) (k r : Int) (l : List Vt) (i : Nat) (hi : i < 10) : mb (bkM m v k r l) i = l.any (fun u => bkP m v k r u && (u.signer == (i : Int))) := by
  refine snoc_ind (p := fun l => mb (bkM m v k r l) i = l.any (fun u => bkP m v k r u && (u.signer == (i : Int)))) ?_ ?_ l
  · show mb 0 i = _; rw [mb_zero]; rfl
  · intro l u h
    have hst : bkM m v k r (l ++ [u]) = (bif bkP m v k r u then bits .or .i64 (bkM m v k r l) (2 ^ u.signer.toNat) else bkM m v k r l) := by unfold bkM; rw [List.foldl_append]; rfl
    rw [hst, List.any_append]
    cases hp : bkP m v k r u with
    | false => simp [h, hp]
    | true =>
      have hs : hasB m u.signer = true := by unfold bkP at hp; simp only [Bool.and_eq_true] at hp; exact hp.2
      have hb := hasB_lt hs
      simp only [cond_true, mb_or, h, mb_pow _ _ (show i < 64 by omega), List.any_cons, List.any_nil, hp, Bool.true_and, Bool.or_false]
      congr 1
      rw [Bool.eq_iff_iff]; simp; omega
theorem size_mono {x y : Int} (h : ∀ i, i < 10 → mb x i = true → mb y i = true) : size x ≤ size y := by
  have e : ids x = (ids y).filter (mb x) := by
    unfold ids
    rw [List.filter_filter]
    refine List.filter_congr fun i hi => ?_
    have hi' : i < 10 := by simpa using hi
    cases hc : mb x i with
    | false => rfl
    | true => rw [h i hi' hc]; rfl
  unfold size
  rw [e]
  exact List.length_filter_le _ _
theorem bkP_iff {m : Int} {v : Vt} {k r : Int} {u : Vt} (hk : k ≤ 4) : bkP m v k r u = true ↔ cntB m v u = true ∧ u.kind = k ∧ u.round = r ∧ sameB v u = true := by
  unfold bkP cntB
  rw [sameB_iff]
  simp only [Bool.and_eq_true, beq_iff_eq, decide_eq_true_eq]
  constructor
  · rintro ⟨⟨⟨⟨⟨⟨⟨h1, h2⟩, h3⟩, h4⟩, h5⟩, h6⟩, h7⟩, h8⟩
    exact ⟨⟨⟨⟨⟨h7, h3⟩, h4⟩, by omega⟩, h8⟩, h1, h2, h5.symm, h6.symm⟩
  · rintro ⟨⟨⟨⟨⟨h7, h3⟩, h4⟩, _⟩, h8⟩, h1, h2, h5, h6⟩
    exact ⟨⟨⟨⟨⟨⟨⟨h1, h2⟩, h3⟩, h4⟩, h5.symm⟩, h6.symm⟩, h7⟩, h8⟩
theorem sup_back {m q : Int} {v : Vt} {a : List Vt} {k r : Int} {p : Vt → Bool} (hk : k ≤ 4) (hp : ∀ u ∈ a.filter (cntB m v), p u = true → u.kind = k ∧ u.round = r ∧ sameB v u = true) (h : supB m q (a.filter (cntB m v)) v p = true) :
    (size v.support : Int) = q ∧ q ≤ (size (bkM m v k r a) : Int) := by
  rw [sup_iff] at h
  obtain ⟨h1, h2, h3⟩ := h
  refine ⟨h2, ?_⟩
  rw [← h2]
  have : size v.support ≤ size (bkM m v k r a) := by
    refine size_mono fun i hi hm => ?_
    rw [mb_bkM _ _ _ _ _ _ hi, List.any_eq_true]
    obtain ⟨u, hu, g1, g2⟩ := h3 (i : Int) (by rw [hasB_nat _ _ hi]; exact hm)
    obtain ⟨g3, g4, g5⟩ := hp u hu g2
    have hc := (List.mem_filter.1 hu)
    exact ⟨u, hc.1, by rw [Bool.and_eq_true, bkP_iff hk]; exact ⟨⟨hc.2, g3, g4, g5⟩, by simpa using g1⟩⟩
  omega
theorem any_back {m : Int} {v : Vt} {a : List Vt} {k r : Int} {p : Vt → Bool} (hk : k ≤ 4) (hp : ∀ u ∈ a.filter (cntB m v), p u = true → u.kind = k ∧ u.round = r ∧ sameB v u = true) (h : (a.filter (cntB m v)).any p = true) : 0 < size (bkM m v k r a) := by
  rw [List.any_eq_true] at h
  obtain ⟨u, hu, h⟩ := h
  obtain ⟨g3, g4, g5⟩ := hp u hu h
  have hc := (List.mem_filter.1 hu)
  have hs := hasB_lt (cnt_has hc.2)
  have : u.signer.toNat ∈ ids (bkM m v k r a) := by
    rw [mem_ids]
    refine ⟨by omega, ?_⟩
    rw [mb_bkM _ _ _ _ _ _ (by omega), List.any_eq_true]
    exact ⟨u, hc.1, by rw [Bool.and_eq_true, bkP_iff hk]; exact ⟨⟨hc.2, g3, g4, g5⟩, by simp; omega⟩⟩
  exact List.length_pos_of_mem this
theorem allow_prev {m : Int} {v : Vt} {a : List Vt} (h : allowB m v a = true) (hk : (v.kind == 3) = true) : validB v = true ∧ prevB m (quorum (size m)) (a.filter (cntB m v)) v = true := by
  have h3 : v.kind = 3 := by simpa using hk
  unfold allowB judB okB at h
  simp [h3] at h
  exact ⟨h.1.1.1, h.2⟩
theorem allow_prec {m : Int} {v : Vt} {a : List Vt} (h : allowB m v a = true) (hk : (v.kind == 4) = true) : validB v = true ∧ precB m (quorum (size m)) (a.filter (cntB m v)) v = true := by
  have h3 : v.kind = 4 := by simpa using hk
  unfold allowB judB okB at h
  simp [h3] at h
  exact ⟨h.1.1.1, h.2⟩
theorem back1 {m : Int} {v : Vt} {a : List Vt} (h : allowB m v a = true) (hc : (((v.kind == 3) && (v.round == 1)) && (v.choice == 1)) = true) :
    (size v.support : Int) = quorum (size m) ∧ quorum (size m) ≤ (size (bkM m v 2 0 a) : Int) := by
  simp only [Bool.and_eq_true] at hc
  obtain ⟨⟨hk, hr⟩, hc⟩ := hc
  obtain ⟨hv, hp⟩ := allow_prev h hk
  unfold prevB at hp
  rw [hr] at hp
  have hc0 : (v.choice == 0) = false := by have : v.choice = 1 := by simpa using hc
                                           simp [this]
  rw [hc0] at hp
  simp only [if_true, Bool.false_or] at hp
  refine sup_back (by omega) (fun u hu hpe => ?_) hp
  have hval := cnt_valid (List.mem_filter.1 hu).2
  unfold peB at hpe
  simp only [Bool.and_eq_true, beq_iff_eq] at hpe
  exact ⟨hpe.1, valid_kind2 hval (.inr hpe.1), hpe.2⟩
theorem back2 {m : Int} {v : Vt} {a : List Vt} (h : allowB m v a = true) (hc : ((v.kind == 4) && (v.choice != 2)) = true) :
    (size v.support : Int) = quorum (size m) ∧ quorum (size m) ≤ (size (bkM m v 3 v.round a) : Int) := by
  simp only [Bool.and_eq_true] at hc
  obtain ⟨hk, hc⟩ := hc
  obtain ⟨hv, hp⟩ := allow_prec h hk
  unfold precB at hp
  rw [hc] at hp
  simp only [if_true] at hp
  refine sup_back (by omega) (fun u hu hpe => ?_) hp
  unfold prB at hpe
  simp only [Bool.and_eq_true, beq_iff_eq, and_assoc] at hpe
  exact hpe
theorem back3 {m : Int} {v : Vt} {a : List Vt} (h : allowB m v a = true) (hc : ((v.kind == 3) && (decide (1 < v.round))) = true) :
    (size v.support : Int) = quorum (size m) ∧ 0 < size (bkM m v 4 (v.round - 1) a) + size (bkM m v 3 (v.round - 1) a) := by
  simp only [Bool.and_eq_true] at hc
  obtain ⟨hk, hr⟩ := hc
  obtain ⟨hv, hp⟩ := allow_prev h hk
  have hr1 : (v.round == 1) = false := by have : 1 < v.round := by simpa using hr
                                          simp; omega
  unfold prevB at hp
  rw [hr1] at hp
  simp only [Bool.false_eq_true, if_false, Bool.or_eq_true, Bool.and_eq_true] at hp
  rcases hp with ⟨h1, h2⟩ | ⟨h1, h2⟩
  · have h2' : (a.filter (cntB m v)).any (pvB v) = true := by
      rw [List.any_eq_true] at h2 ⊢
      obtain ⟨u, hu, hh⟩ := h2
      rw [Bool.and_eq_true] at hh
      exact ⟨u, hu, hh.2⟩
    have := any_back (k := 4) (r := v.round - 1) (by omega) (fun u _ hpe => by unfold pvB at hpe; simp only [Bool.and_eq_true, beq_iff_eq, and_assoc] at hpe; exact hpe) h2'
    exact ⟨(sup_iff.1 h1).2.1, by omega⟩
  · have := any_back (k := 3) (r := v.round - 1) (by omega) (fun u _ hpe => by unfold pbB at hpe; simp only [Bool.and_eq_true, beq_iff_eq, and_assoc] at hpe; exact hpe) h2
    exact ⟨(sup_iff.1 h1).2.1, by omega⟩
theorem meet3 {c a b x : Int} (h1 : ∀ i, i < 10 → mb a i = true → mb c i = true) (h2 : ∀ i, i < 10 → mb b i = true → mb c i = true) (h3 : ∀ i, i < 10 → mb a i = true → mb b i = true → mb x i = true) : size a + size b ≤ size x + size c := by
  have key : ∀ l : List Nat, (∀ i ∈ l, i < 10) → (l.filter (mb a)).length + (l.filter (mb b)).length ≤ (l.filter (mb x)).length + (l.filter (mb c)).length := by
    intro l
    induction l with
    | nil => intro _; simp
    | cons i l ih =>
      intro hl
      have hi := hl i (by simp)
      have ih' := ih (fun k hk => hl k (by simp [hk]))
      have g1 := h1 i hi
      have g2 := h2 i hi
      have g3 := h3 i hi
      simp only [List.filter_cons]
      cases ha : mb a i <;> cases hb : mb b i <;> cases hc : mb c i <;> cases hx : mb x i <;> simp_all <;> omega
  exact key (List.range 10) (fun i hi => by simpa using hi)
theorem third_le (n : Nat) : third (n : Int) ≤ 2 * quorum (n : Int) - (n : Int) := by unfold third quorum; split <;> omega
def lkP (m : Int) (r : Int) (y u z : Vt) : Bool := (((((u.kind == 4) && (u.round == r)) && (confB u z)) && (u.par == y.par)) && (u.slot == y.slot)) && (hasB m u.signer)
def lkI (m : Int) (r : Int) (y u : Vt) (l : List Vt) (x : Int) : Int := l.foldl (fun x z => bif lkP m r y u z then bits .or .i64 x (2 ^ u.signer.toNat) else x) x
def lkM (m : Int) (r : Int) (y : Vt) (a b : List Vt) : Int := a.foldl (fun x u => lkI m r y u b x) 0
theorem lkI_step {m r : Int} {y u : Vt} {b : List Vt} {x x2 : Int} {k : Nat} (h : x2 = lkI m r y u (b.take k) x) (hk : k < b.length) : (bif lkP m r y u b[k] then bits .or .i64 x2 (2 ^ u.signer.toNat) else x2) = lkI m r y u (b.take (k + 1)) x := by
  unfold lkI at *; rw [foldl_step _ _ hk, ← h]
theorem lkM_step {m r : Int} {y : Vt} {a b : List Vt} {x : Int} {j : Nat} (h : x = lkM m r y (a.take j) b) (hj : j < a.length) : lkI m r y a[j] b x = lkM m r y (a.take (j + 1)) b := by
  unfold lkM at *; rw [foldl_step _ _ hj, ← h]
theorem mb_lkI (m r : Int) (y u : Vt) (l : List Vt) (x : Int) (i : Nat) (hi : i < 10) : mb (lkI m r y u l x) i = (mb x i || l.any (fun z => lkP m r y u z && (u.signer == (i : Int)))) := by
  refine snoc_ind (p := fun l => mb (lkI m r y u l x) i = (mb x i || l.any (fun z => lkP m r y u z && (u.signer == (i : Int))))) ?_ ?_ l
  · show mb x i = _; simp
  · intro l z h
    have hst : lkI m r y u (l ++ [z]) x = (bif lkP m r y u z then bits .or .i64 (lkI m r y u l x) (2 ^ u.signer.toNat) else lkI m r y u l x) := by unfold lkI; rw [List.foldl_append]; rfl
    rw [hst, List.any_append]
    cases hp : lkP m r y u z with
    | false => simp [h, hp]
    | true =>
      have hs : hasB m u.signer = true := by unfold lkP at hp; simp only [Bool.and_eq_true] at hp; exact hp.2
      have hb := hasB_lt hs
      simp only [cond_true, mb_or, h, mb_pow _ _ (show i < 64 by omega), List.any_cons, List.any_nil, hp, Bool.true_and, Bool.or_false, Bool.or_assoc]
      congr 2
      rw [Bool.eq_iff_iff]; simp; omega
theorem mb_lkM (m r : Int) (y : Vt) (a b : List Vt) (i : Nat) (hi : i < 10) : mb (lkM m r y a b) i = a.any (fun u => b.any (fun z => lkP m r y u z && (u.signer == (i : Int)))) := by
  refine snoc_ind (p := fun a => mb (lkM m r y a b) i = a.any (fun u => b.any (fun z => lkP m r y u z && (u.signer == (i : Int))))) ?_ ?_ a
  · show mb 0 i = _; rw [mb_zero]; rfl
  · intro l u h
    have hst : lkM m r y (l ++ [u]) b = lkI m r y u b (lkM m r y l b) := by unfold lkM; rw [List.foldl_append]; rfl
    rw [hst, mb_lkI _ _ _ _ _ _ _ hi, h, List.any_append]
    simp
/-- The plain law. -/
theorem locks {m : Int} {x y : Vt} {a b : List Vt} (hx1 : x.par = y.par) (hx2 : x.slot = y.slot) (hx3 : x.kind = 4) (hr : x.round = y.round - 1) (hk : y.kind = 3) (hr2 : 2 ≤ y.round) (hc : x.choice ≠ 2) (hne : ¬ (x.choice = y.choice ∧ x.val = y.val))
    (hal : allowB m y b = true) (hbk : quorum (size m) ≤ (size (bkM m x 4 x.round a) : Int)) : 2 * quorum (size m) - (size m : Int) ≤ (size (lkM m x.round y a b) : Int) ∧ third (size m) ≤ (size (lkM m x.round y a b) : Int) := by
  obtain ⟨hv, hp⟩ := allow_prev hal (by simpa using hk)
  have hr1 : (y.round == 1) = false := by simp; omega
  unfold prevB at hp
  rw [hr1] at hp
  simp only [Bool.false_eq_true, if_false, Bool.or_eq_true, Bool.and_eq_true] at hp
  have hsup : bits .andNot .i64 y.support m = 0 ∧ (size y.support : Int) = quorum (size m) ∧ ∀ i, hasB y.support i = true → ∃ u ∈ b.filter (cntB m y), u.signer = i ∧ u.kind = 4 ∧ u.round = y.round - 1 ∧ (sameB y u = true ∨ u.choice = 2) := by
    rcases hp with ⟨h1, _⟩ | ⟨h1, _⟩
    · obtain ⟨g1, g2, g3⟩ := sup_iff.1 h1
      refine ⟨g1, g2, fun i hi => ?_⟩
      obtain ⟨u, hu, k1, k2⟩ := g3 i hi
      simp only [Bool.or_eq_true, pvB, pmB, Bool.and_eq_true, beq_iff_eq] at k2
      rcases k2 with k2 | k2
      · exact ⟨u, hu, k1, k2.1.1, k2.1.2, .inl k2.2⟩
      · exact ⟨u, hu, k1, k2.1.1, k2.1.2, .inr k2.2⟩
    · obtain ⟨g1, g2, g3⟩ := sup_iff.1 h1
      refine ⟨g1, g2, fun i hi => ?_⟩
      obtain ⟨u, hu, k1, k2⟩ := g3 i hi
      simp only [pmB, Bool.and_eq_true, beq_iff_eq] at k2
      exact ⟨u, hu, k1, k2.1.1, k2.1.2, .inr k2.2⟩
  obtain ⟨s1, s2, s3⟩ := hsup
  have hmeet : size (bkM m x 4 x.round a) + size y.support ≤ size (lkM m x.round y a b) + size m := by
    refine meet3 (fun i hi hb => ?_) (fun i hi hb => ?_) (fun i hi ha hb => ?_)
    · rw [mb_bkM _ _ _ _ _ _ hi, List.any_eq_true] at hb
      obtain ⟨u, _, hu⟩ := hb
      rw [Bool.and_eq_true, bkP_iff (by omega)] at hu
      have := cnt_has hu.1.1
      have e : u.signer = (i : Int) := by simpa using hu.2
      rw [e, hasB_nat _ _ hi] at this
      exact this
    · have := congrArg (fun z => mb z i) s1
      simp only [mb_andNot, mb_zero, hb, Bool.true_and, Bool.not_eq_false'] at this
      exact this
    · rw [mb_bkM _ _ _ _ _ _ hi, List.any_eq_true] at ha
      obtain ⟨u, hu, hu2⟩ := ha
      rw [Bool.and_eq_true, bkP_iff (by omega)] at hu2
      obtain ⟨⟨u1, u2, u3, u4⟩, u5⟩ := hu2
      have eu : u.signer = (i : Int) := by simpa using u5
      obtain ⟨z, hz, z1, z2, z3, z4⟩ := s3 (i : Int) (by rw [hasB_nat _ _ hi]; exact hb)
      obtain ⟨hz1, hz2⟩ := List.mem_filter.1 hz
      rw [mb_lkM _ _ _ _ _ _ hi, List.any_eq_true]
      refine ⟨u, hu, ?_⟩
      rw [List.any_eq_true]
      refine ⟨z, hz1, ?_⟩
      rw [sameB_iff] at u4
      have uv := cnt_valid u1
      have zv := cnt_valid hz2
      have us := cnt_has u1
      unfold cntB at u1 hz2
      simp only [Bool.and_eq_true, beq_iff_eq, decide_eq_true_eq] at u1 hz2
      have hne2 : u ≠ z := by
        rintro rfl
        rcases z4 with z4 | z4
        · rw [sameB_iff] at z4
          exact hne ⟨u4.1.trans z4.1.symm, u4.2.trans z4.2.symm⟩
        · exact hc (u4.1.trans z4)
      have hcf : confB u z = true := by
        unfold confB keyB
        have e1 : (u != z) = true := by simpa [bne] using hne2
        rw [e1, uv, zv]
        simp only [Bool.true_and, Bool.and_true, Bool.and_eq_true, beq_iff_eq]
        refine ⟨⟨⟨⟨by omega, ?_⟩, ?_⟩, by omega⟩, by omega⟩
        · rw [u1.1.1.1.2, hz2.1.1.1.2, hx1]
        · rw [u1.1.1.2, hz2.1.1.2, hx2]
      unfold lkP
      rw [hcf, us]
      simp only [Bool.and_true, Bool.and_eq_true, beq_iff_eq]
      exact ⟨⟨⟨⟨u2, u3⟩, by rw [u1.1.1.1.2, hx1]⟩, by rw [u1.1.1.2, hx2]⟩, eu⟩
  have ht := third_le (size m)
  omega
theorem quorum_bd (n : Nat) (h : n ≤ 10) : 0 ≤ quorum (n : Int) ∧ quorum (n : Int) ≤ 10 := by unfold quorum; split <;> omega
theorem locks_w {m : Int} {X y : Vt} {a b : List Vt} {mk : Int} (e1 : X.par = y.par) (e2 : X.slot = y.slot) (e3 : X.kind = 4) (e4 : X.round = IntKind.i64.wrap (y.round - 1)) (h64 : W64 y.round)
    (h : ((((((y.kind != 3) || (decide (y.round < 2))) || (X.choice == 2)) || ((X.choice == y.choice) && (X.val == y.val))) || (!(allowB m y b))) || (decide ((size (bkM m X 4 X.round a) : Int) < quorum (size m)))) = false) (hmk : mk = lkM m X.round y a b) :
    (((decide ((2 * quorum (size m)) - (size m : Int) ≤ (size mk : Int))) && (decide (third (size m) ≤ (size mk : Int)))) && true) = true := by
  simp only [Bool.or_eq_false_iff, Bool.not_eq_false', decide_eq_false_iff_not, bne_eq_false_iff_eq, beq_eq_false_iff_ne, Bool.and_eq_false_iff] at h
  obtain ⟨⟨⟨⟨⟨h1, h2⟩, h3⟩, h4⟩, h5⟩, h6⟩ := h
  have hr : X.round = y.round - 1 := by rw [e4, wrap_id (by have := h64.1; omega) (by have := h64.2; omega)]
  have := locks (a := a) e1 e2 e3 hr h1 (by omega) h3 (fun hh => h4.elim (fun h => h hh.1) (fun h => h hh.2)) h5 (by omega)
  subst hmk
  simp only [Bool.and_true, Bool.and_eq_true, decide_eq_true_eq]
  exact this
set_option maxRecDepth 100000 in
set_option maxHeartbeats 2000000 in
theorem JustifyLocks_c (m : Int) (x y : Vt) (a b : List Vt) (A B : Option Addr) (c d : Nat) (w : World) (hm : W64 m) (hokx : x.Ok) (hoky : y.Ok) (h1 : a.length ≤ c) (h2 : c ≤ maxLen) (hr : Rd w A a) (h3 : b.length ≤ d) (h4 : d ≤ maxLen) (hrb : Rd w B b) : Calls Try.prog 3 #[.int .i64 (m), .agg (x).cs, .agg (y).cs, .slice A (a.length) c, .slice B (b.length) d] w (fun rr w' => rr = .returned (.bool (true)) ∧ Below w.heap.size w w') := by
  have ht : (a.take 300).length ≤ 300 := List.length_take_le _ _
  have hu : (b.take 300).length ≤ 300 := List.length_take_le _ _
  have hz := size_le m
  have hq := quorum_bd _ hz
  refine calls_W (n := 174) Try.func3 rfl [(0, .int .i64 (m)), (1, .agg (x).cs), (2, .agg (y).cs), (3, .slice A (a.length) c), (4, .slice B (b.length) d)] rfl ⟨by kernel_rfl, by kernel_rfl⟩ ?_
  refine W.weak (Ψ := St w []) (fun w' h => by rw [h]; exact St.start w) ?_
  refine W.seq ?_
  refine W.region [(0, false), (1, false), (2, false)] (by kernel_rfl) ?_
  refine T.box 6 26 (.agg (x).cs) ((x).cs) (by kernel_rfl) (by kernel_rfl) (by kernel_rfl) (fun _ _ _ => trivial) (fun b1 => ?_)
  refine T.box 7 26 (.agg (y).cs) ((y).cs) (by kernel_rfl) (by kernel_rfl) (by kernel_rfl) (fun _ _ _ => trivial) (fun b2 => ?_)
  refine T.pure 10 (.bool (false)) (by kernel_rfl) (fun w => by kernel_rfl) ?_
  refine T.nil ?_
  refine QN.seq ?_
  refine W.seq ?_
  refine W.region [(0, false), (1, false), (2, false), (3, false), (4, false), (5, false)] (by kernel_rfl) ?_
  refine T.pure 16 (.slice A (a.length) c) (by kernel_rfl) (fun w => by kernel_rfl) ?_
  refine T.callP 17 14 #[.slice A (a.length) c] (.slice A ((a.take 300).length) c) (by kernel_rfl) (by kernel_rfl) ent14 (fun w hw => Ret.same' (cut11_c _ _ _ h1 h2 w)) (fun _ _ => trivial) ?_
  refine T.pure 18 (.slice B (b.length) d) (by kernel_rfl) (fun w => by kernel_rfl) ?_
  refine T.callP 19 14 #[.slice B (b.length) d] (.slice B ((b.take 300).length) d) (by kernel_rfl) (by kernel_rfl) ent14 (fun w hw => Ret.same' (cut11_c _ _ _ h3 h4 w)) (fun _ _ => trivial) ?_
  refine T.pure 3 (.slice A ((a.take 300).length) c) (by kernel_rfl) (fun w => by kernel_rfl) ?_
  refine T.pure 4 (.slice B ((b.take 300).length) d) (by kernel_rfl) (fun w => by kernel_rfl) ?_
  refine T.nil ?_
  refine QN.seq ?_
  refine W.seq ?_
  refine W.region [(0, false), (1, false), (2, false)] (by kernel_rfl) ?_
  refine T.pure 20 (.int .i64 (m)) (by kernel_rfl) (fun w => by kernel_rfl) ?_
  refine T.callP 21 15 #[.int .i64 (m)] (.int .i64 ((size m : Int))) (by kernel_rfl) (by kernel_rfl) ent15 (fun w hw => Ret.same (size_c _ w)) (fun _ _ => trivial) ?_
  refine T.pure 11 (.int .i64 ((size m : Int))) (by kernel_rfl) (fun w => by kernel_rfl) ?_
  refine T.nil ?_
  refine QN.seq ?_
  refine W.seq ?_
  refine W.region [(0, false), (1, false), (2, false)] (by kernel_rfl) ?_
  refine T.pure 22 (.int .i64 ((size m : Int))) (by kernel_rfl) (fun w => by kernel_rfl) ?_
  refine T.callP 23 16 #[.int .i64 ((size m : Int))] (.int .i64 (quorum (size m : Int))) (by kernel_rfl) (by kernel_rfl) ent16 (fun w hw => Ret.same (quorum_c _ w (by unfold W64; omega))) (fun _ _ => trivial) ?_
  refine T.pure 12 (.int .i64 (quorum (size m : Int))) (by kernel_rfl) (fun w => by kernel_rfl) ?_
  refine T.nil ?_
  refine QN.seq ?_
  refine W.seq ?_
  refine W.drawn (Ψ := St w [(b2, .cells (y).cs 26 (0, 0)), (b1, .cells (x).cs 26 (0, 0))]) (St w [(b2, .cells (y).cs 26 (0, 0))]) [(0, true), (1, true), (2, true), (3, true), (4, true), (5, true), (6, true), (7, true), (8, false), (9, true), (10, false), (11, true), (12, false), (13, true), (14, false)] hmx (by kernel_rfl) (NoPanic.then (NoPanic.body)) (fun w h => h.drew) (fun w h => (h.perm (List.Perm.refl _)).part ((List.nil_sublist _).cons_cons _)) ?_
  refine T.pure 24 (.pointer (some ⟨b2, 6, none⟩)) (by kernel_rfl) (fun w => by kernel_rfl) ?_
  refine T.loadR true 25 (y.par).cs 24 b2 6 (by kernel_rfl) (by kernel_rfl) (by kernel_rfl) (by kernel_rfl) (fun w h => St.rangeM h (y.par).cs (.head _) (by kernel_rfl)) ?_
  refine T.pure 26 (.pointer (some ⟨b2, 1, none⟩)) (by kernel_rfl) (fun w => by kernel_rfl) ?_
  refine T.load true 27 (.int .i64 (y.slot)) 3 b2 1 (by kernel_rfl) (by kernel_rfl) (by kernel_rfl) (fun w h => St.cellM h (.head _) (by kernel_rfl)) ?_
  refine T.pure 28 (.pointer (some ⟨b2, 2, none⟩)) (by kernel_rfl) (fun w => by kernel_rfl) ?_
  refine T.load true 29 (.int .i64 (y.round)) 3 b2 2 (by kernel_rfl) (by kernel_rfl) (by kernel_rfl) (fun w h => St.cellM h (.head _) (by kernel_rfl)) ?_
  refine T.pure 30 (.int .i64 (IntKind.i64.wrap (y.round - 1))) (by kernel_rfl) (fun w => by kernel_rfl) ?_
  refine T.pure 31 (.pointer (some ⟨b1, 6, none⟩)) (by kernel_rfl) (fun w => by kernel_rfl) ?_
  refine T.storeP 24 b1 6 (.agg (y.par).cs) (x).cs ({ x with par := y.par }).cs 26 (by kernel_rfl) (by kernel_rfl) (by kernel_rfl) (by kernel_rfl) (by kernel_rfl) (by kernel_rfl) (((List.Perm.refl _).cons _).trans (List.Perm.swap _ _ _)) (fun w h => (h.perm (((List.Perm.refl _).cons _).trans (List.Perm.swap _ _ _))).part ((List.nil_sublist _).cons_cons _)) ?_
  refine T.pure 32 (.pointer (some ⟨b1, 1, none⟩)) (by kernel_rfl) (fun w => by kernel_rfl) ?_
  refine T.storeP 3 b1 1 (.int .i64 (y.slot)) ({ x with par := y.par }).cs ({ { x with par := y.par } with slot := y.slot }).cs 26 (by kernel_rfl) (by kernel_rfl) (by kernel_rfl) (by kernel_rfl) (by kernel_rfl) (by kernel_rfl) (List.Perm.refl _) (fun w h => (h.perm (((List.Perm.refl _).cons _).trans (List.Perm.swap _ _ _))).part ((List.nil_sublist _).cons_cons _)) ?_
  refine T.pure 33 (.pointer (some ⟨b1, 0, none⟩)) (by kernel_rfl) (fun w => by kernel_rfl) ?_
  refine T.storeP 3 b1 0 (.int .i64 (4)) ({ { x with par := y.par } with slot := y.slot }).cs ({ { { x with par := y.par } with slot := y.slot } with kind := 4 }).cs 26 (by kernel_rfl) (by kernel_rfl) (by kernel_rfl) (by kernel_rfl) (by kernel_rfl) (by kernel_rfl) (List.Perm.refl _) (fun w h => (h.perm (((List.Perm.refl _).cons _).trans (List.Perm.swap _ _ _))).part ((List.nil_sublist _).cons_cons _)) ?_
  refine T.pure 34 (.pointer (some ⟨b1, 2, none⟩)) (by kernel_rfl) (fun w => by kernel_rfl) ?_
  refine T.storeP 3 b1 2 (.int .i64 (IntKind.i64.wrap (y.round - 1))) ({ { { x with par := y.par } with slot := y.slot } with kind := 4 }).cs ({ { { { x with par := y.par } with slot := y.slot } with kind := 4 } with round := IntKind.i64.wrap (y.round - 1) }).cs 26 (by kernel_rfl) (by kernel_rfl) (by kernel_rfl) (by kernel_rfl) (by kernel_rfl) (by kernel_rfl) (List.Perm.refl _) (fun w h => (h.perm (((List.Perm.refl _).cons _).trans (List.Perm.swap _ _ _))).part ((List.nil_sublist _).cons_cons _)) ?_
  refine T.nil ?_
  generalize hX : ({ { { { x with par := y.par } with slot := y.slot } with kind := 4 } with round := IntKind.i64.wrap (y.round - 1) } : Vt) = X
  have e1 : X.par = y.par := by rw [← hX]
  have e2 : X.slot = y.slot := by rw [← hX]
  have e3 : X.kind = 4 := by rw [← hX]
  have e4 : X.round = IntKind.i64.wrap (y.round - 1) := by rw [← hX]
  refine QN.seq ?_
  refine W.seq ?_
  refine W.seq ?_
  refine W.region [(0, false), (1, false), (2, false), (3, false), (4, false), (5, false), (6, false), (7, false), (8, false), (9, false), (10, false), (11, false), (12, false), (13, false), (14, false), (15, false), (16, false), (17, false), (18, false), (19, false), (20, false), (21, false), (22, false), (23, false), (24, false), (25, false), (26, false), (27, false), (28, false), (29, false), (30, false), (31, false), (32, false), (33, false), (34, false), (35, false), (36, false), (37, false), (38, false), (39, false), (40, false), (41, false), (42, false), (43, false)] (by kernel_rfl) ?_
  refine T.pure 35 (.pointer (some ⟨b2, 0, none⟩)) (by kernel_rfl) (fun w => by kernel_rfl) ?_
  refine T.load false 36 (.int .i64 (y.kind)) 3 b2 0 (by kernel_rfl) (by kernel_rfl) (by kernel_rfl) (fun w h => St.cellM h (.tail _ (.head _)) (by kernel_rfl)) ?_
  refine T.pure 37 (.bool (y.kind != 3)) (by kernel_rfl) (fun w => by kernel_rfl) ?_
  refine T.pure 38 (.bool (y.kind != 3)) (by kernel_rfl) (fun w => by kernel_rfl) ?_
  refine T.blk [(4, false), (5, false), (6, false)] [(7, false), (8, false), (9, false), (10, false), (11, false), (12, false), (13, false), (14, false), (15, false), (16, false), (17, false), (18, false), (19, false), (20, false), (21, false), (22, false), (23, false), (24, false), (25, false), (26, false), (27, false), (28, false), (29, false), (30, false), (31, false), (32, false), (33, false), (34, false), (35, false), (36, false), (37, false), (38, false), (39, false), (40, false), (41, false), (42, false), (43, false)] 3 false (y.kind != 3) 38 41 (.bool (decide (y.round < 2))) (by kernel_rfl) (by kernel_rfl) (by kernel_rfl) (fun hg3 => ?_) ?_
  · have hg3_ := hg3
    refine T.pure 39 (.pointer (some ⟨b2, 2, none⟩)) (by kernel_rfl) (fun w => by kernel_rfl) ?_
    refine T.load false 40 (.int .i64 (y.round)) 3 b2 2 (by kernel_rfl) (by kernel_rfl) (by kernel_rfl) (fun w h => St.cellM h (.tail _ (.head _)) (by kernel_rfl)) ?_
    refine T.pure 41 (.bool (decide (y.round < 2))) (by kernel_rfl) (fun w => by kernel_rfl) ?_
    exact T.blkEnd (by kernel_rfl) (fun w h => h)
  refine T.or 42 (y.kind != 3) (decide (y.round < 2)) (by kernel_rfl) (by kernel_rfl) ?_
  refine T.pure 43 (.bool ((y.kind != 3) || (decide (y.round < 2)))) (by kernel_rfl) (fun w => by kernel_rfl) ?_
  refine T.blk [(9, false), (10, false), (11, false)] [(12, false), (13, false), (14, false), (15, false), (16, false), (17, false), (18, false), (19, false), (20, false), (21, false), (22, false), (23, false), (24, false), (25, false), (26, false), (27, false), (28, false), (29, false), (30, false), (31, false), (32, false), (33, false), (34, false), (35, false), (36, false), (37, false), (38, false), (39, false), (40, false), (41, false), (42, false), (43, false)] 8 false ((y.kind != 3) || (decide (y.round < 2))) 43 46 (.bool (X.choice == 2)) (by kernel_rfl) (by kernel_rfl) (by kernel_rfl) (fun hg4 => ?_) ?_
  · have hg4_ := hg4
    have hg4l := (Bool.or_eq_false_iff.1 hg4).1
    have hg4r := (Bool.or_eq_false_iff.1 hg4).2
    have hg4r' := of_decide_eq_false hg4r
    refine T.pure 44 (.pointer (some ⟨b1, 3, none⟩)) (by kernel_rfl) (fun w => by kernel_rfl) ?_
    refine T.load false 45 (.int .i64 (X.choice)) 3 b1 3 (by kernel_rfl) (by kernel_rfl) (by kernel_rfl) (fun w h => St.cellM h (.head _) (by kernel_rfl)) ?_
    refine T.pure 46 (.bool (X.choice == 2)) (by kernel_rfl) (fun w => by kernel_rfl) ?_
    exact T.blkEnd (by kernel_rfl) (fun w h => h)
  refine T.or 47 ((y.kind != 3) || (decide (y.round < 2))) (X.choice == 2) (by kernel_rfl) (by kernel_rfl) ?_
  refine T.pure 48 (.bool (((y.kind != 3) || (decide (y.round < 2))) || (X.choice == 2))) (by kernel_rfl) (fun w => by kernel_rfl) ?_
  refine T.blk [(14, false), (15, false), (16, false), (17, false), (18, false), (19, false), (20, false), (21, false), (22, false), (23, false), (24, false), (25, false)] [(26, false), (27, false), (28, false), (29, false), (30, false), (31, false), (32, false), (33, false), (34, false), (35, false), (36, false), (37, false), (38, false), (39, false), (40, false), (41, false), (42, false), (43, false)] 13 false (((y.kind != 3) || (decide (y.round < 2))) || (X.choice == 2)) 48 60 (.bool ((X.choice == y.choice) && (X.val == y.val))) (by kernel_rfl) (by kernel_rfl) (by kernel_rfl) (fun hg5 => ?_) ?_
  · have hg5_ := hg5
    have hg5l := (Bool.or_eq_false_iff.1 hg5).1
    have hg5r := (Bool.or_eq_false_iff.1 hg5).2
    have hg5ll := (Bool.or_eq_false_iff.1 hg5l).1
    have hg5lr := (Bool.or_eq_false_iff.1 hg5l).2
    have hg5lr' := of_decide_eq_false hg5lr
    refine T.pure 49 (.pointer (some ⟨b1, 3, none⟩)) (by kernel_rfl) (fun w => by kernel_rfl) ?_
    refine T.load false 50 (.int .i64 (X.choice)) 3 b1 3 (by kernel_rfl) (by kernel_rfl) (by kernel_rfl) (fun w h => St.cellM h (.head _) (by kernel_rfl)) ?_
    refine T.pure 51 (.pointer (some ⟨b2, 3, none⟩)) (by kernel_rfl) (fun w => by kernel_rfl) ?_
    refine T.load false 52 (.int .i64 (y.choice)) 3 b2 3 (by kernel_rfl) (by kernel_rfl) (by kernel_rfl) (fun w h => St.cellM h (.tail _ (.head _)) (by kernel_rfl)) ?_
    refine T.pure 53 (.bool (X.choice == y.choice)) (by kernel_rfl) (fun w => by kernel_rfl) ?_
    refine T.pure 54 (.bool (X.choice == y.choice)) (by kernel_rfl) (fun w => by kernel_rfl) ?_
    refine T.blk [(20, false), (21, false), (22, false), (23, false), (24, false)] [(25, false)] 19 true (X.choice == y.choice) 54 59 (.bool (X.val == y.val)) (by kernel_rfl) (by kernel_rfl) (by kernel_rfl) (fun hg6 => ?_) ?_
    · have hg6_ := hg6
      refine T.pure 55 (.pointer (some ⟨b1, 14, none⟩)) (by kernel_rfl) (fun w => by kernel_rfl) ?_
      refine T.loadR false 56 (X.val).cs 24 b1 14 (by kernel_rfl) (by kernel_rfl) (by kernel_rfl) (by kernel_rfl) (fun w h => St.rangeM h (X.val).cs (.head _) (by kernel_rfl)) ?_
      refine T.pure 57 (.pointer (some ⟨b2, 14, none⟩)) (by kernel_rfl) (fun w => by kernel_rfl) ?_
      refine T.loadR false 58 (y.val).cs 24 b2 14 (by kernel_rfl) (by kernel_rfl) (by kernel_rfl) (by kernel_rfl) (fun w h => St.rangeM h (y.val).cs (.tail _ (.head _)) (by kernel_rfl)) ?_
      refine T.eqq 59 (X.val == y.val) (X.val == y.val) false 24 (X.val).cs (y.val).cs (by kernel_rfl) (by kernel_rfl) (by kernel_rfl) (by kernel_rfl) (fun w => eq_nm w X.val y.val) ?_
      exact T.blkEnd (by kernel_rfl) (fun w h => h)
    refine T.and 60 (X.choice == y.choice) (X.val == y.val) (by kernel_rfl) (by kernel_rfl) ?_
    exact T.blkEnd (by kernel_rfl) (fun w h => h)
  refine T.or 61 (((y.kind != 3) || (decide (y.round < 2))) || (X.choice == 2)) ((X.choice == y.choice) && (X.val == y.val)) (by kernel_rfl) (by kernel_rfl) ?_
  refine T.pure 62 (.bool ((((y.kind != 3) || (decide (y.round < 2))) || (X.choice == 2)) || ((X.choice == y.choice) && (X.val == y.val)))) (by kernel_rfl) (fun w => by kernel_rfl) ?_
  refine T.blk [(28, false), (29, false), (30, false), (31, false), (32, false)] [(33, false), (34, false), (35, false), (36, false), (37, false), (38, false), (39, false), (40, false), (41, false), (42, false), (43, false)] 27 false ((((y.kind != 3) || (decide (y.round < 2))) || (X.choice == 2)) || ((X.choice == y.choice) && (X.val == y.val))) 62 67 (.bool (!(allowB m y (b.take 300)))) (by kernel_rfl) (by kernel_rfl) (by kernel_rfl) (fun hg7 => ?_) ?_
  · have hg7_ := hg7
    have hg7l := (Bool.or_eq_false_iff.1 hg7).1
    have hg7r := (Bool.or_eq_false_iff.1 hg7).2
    have hg7ll := (Bool.or_eq_false_iff.1 hg7l).1
    have hg7lr := (Bool.or_eq_false_iff.1 hg7l).2
    have hg7lll := (Bool.or_eq_false_iff.1 hg7ll).1
    have hg7llr := (Bool.or_eq_false_iff.1 hg7ll).2
    have hg7llr' := of_decide_eq_false hg7llr
    refine T.pure 63 (.int .i64 (m)) (by kernel_rfl) (fun w => by kernel_rfl) ?_
    refine T.loadR false 64 (y).cs 26 b2 0 (by kernel_rfl) (by kernel_rfl) (by kernel_rfl) (by kernel_rfl) (fun w h => St.rangeM h (y).cs (.tail _ (.head _)) (by kernel_rfl)) ?_
    refine T.pure 65 (.slice B ((b.take 300).length) d) (by kernel_rfl) (fun w => by kernel_rfl) ?_
    refine T.callP 66 17 #[.int .i64 (m), .agg (y).cs, .slice B ((b.take 300).length) d] (.bool (allowB m y (b.take 300))) (by kernel_rfl) (by kernel_rfl) ent17 (fun w hw => allowed_c _ (by first | assumption | exact w64_and _ _ | exact w64_or _ _ | exact w64_andNot _ _ | (unfold W64; omega)) _ hoky.support _ _ _ (by first | omega | (simp; omega)) w (Arr.rd ((Rd.arr hrb _).take _) hw).v) (fun _ _ => trivial) ?_
    refine T.pure 67 (.bool (!(allowB m y (b.take 300)))) (by kernel_rfl) (fun w => by kernel_rfl) ?_
    exact T.blkEnd (by kernel_rfl) (fun w h => h)
  refine T.or 68 ((((y.kind != 3) || (decide (y.round < 2))) || (X.choice == 2)) || ((X.choice == y.choice) && (X.val == y.val))) (!(allowB m y (b.take 300))) (by kernel_rfl) (by kernel_rfl) ?_
  refine T.pure 69 (.bool (((((y.kind != 3) || (decide (y.round < 2))) || (X.choice == 2)) || ((X.choice == y.choice) && (X.val == y.val))) || (!(allowB m y (b.take 300))))) (by kernel_rfl) (fun w => by kernel_rfl) ?_
  refine T.blk [(35, false), (36, false), (37, false), (38, false), (39, false), (40, false), (41, false), (42, false)] [(43, false)] 34 false (((((y.kind != 3) || (decide (y.round < 2))) || (X.choice == 2)) || ((X.choice == y.choice) && (X.val == y.val))) || (!(allowB m y (b.take 300)))) 69 77 (.bool (decide ((size (bkM m X 4 X.round (a.take 300)) : Int) < (quorum (size m : Int))))) (by kernel_rfl) (by kernel_rfl) (by kernel_rfl) (fun hg8 => ?_) ?_
  · have hg8_ := hg8
    have hg8l := (Bool.or_eq_false_iff.1 hg8).1
    have hg8r := (Bool.or_eq_false_iff.1 hg8).2
    have hg8ll := (Bool.or_eq_false_iff.1 hg8l).1
    have hg8lr := (Bool.or_eq_false_iff.1 hg8l).2
    have hg8lll := (Bool.or_eq_false_iff.1 hg8ll).1
    have hg8llr := (Bool.or_eq_false_iff.1 hg8ll).2
    have hg8llll := (Bool.or_eq_false_iff.1 hg8lll).1
    have hg8lllr := (Bool.or_eq_false_iff.1 hg8lll).2
    have hg8lllr' := of_decide_eq_false hg8lllr
    have hg8rn := not_eq_false hg8r
    refine T.pure 70 (.int .i64 (m)) (by kernel_rfl) (fun w => by kernel_rfl) ?_
    refine T.loadR false 71 (X).cs 26 b1 0 (by kernel_rfl) (by kernel_rfl) (by kernel_rfl) (by kernel_rfl) (fun w h => St.rangeM h (X).cs (.head _) (by kernel_rfl)) ?_
    refine T.pure 72 (.slice A ((a.take 300).length) c) (by kernel_rfl) (fun w => by kernel_rfl) ?_
    refine T.pure 73 (.pointer (some ⟨b1, 2, none⟩)) (by kernel_rfl) (fun w => by kernel_rfl) ?_
    refine T.load false 74 (.int .i64 (X.round)) 3 b1 2 (by kernel_rfl) (by kernel_rfl) (by kernel_rfl) (fun w h => St.cellM h (.head _) (by kernel_rfl)) ?_
    refine T.callP 75 18 #[.int .i64 (m), .agg (X).cs, .slice A ((a.take 300).length) c, .int .i64 (4), .int .i64 (X.round)] (.int .i64 ((size (bkM m X 4 X.round (a.take 300)) : Int))) (by kernel_rfl) (by kernel_rfl) ent18 (fun w hw => backers_c _ _ _ _ _ _ _ (by first | assumption | exact w64_and _ _ | exact w64_or _ _ | exact w64_andNot _ _ | (unfold W64; omega)) (by first | omega | (simp; omega)) w (Arr.rd ((Rd.arr hr _).take _) hw)) (fun _ _ => trivial) ?_
    refine T.pure 76 (.int .i64 (quorum (size m : Int))) (by kernel_rfl) (fun w => by kernel_rfl) ?_
    refine T.pure 77 (.bool (decide ((size (bkM m X 4 X.round (a.take 300)) : Int) < (quorum (size m : Int))))) (by kernel_rfl) (fun w => by kernel_rfl) ?_
    exact T.blkEnd (by kernel_rfl) (fun w h => h)
  refine T.or 78 (((((y.kind != 3) || (decide (y.round < 2))) || (X.choice == 2)) || ((X.choice == y.choice) && (X.val == y.val))) || (!(allowB m y (b.take 300)))) (decide ((size (bkM m X 4 X.round (a.take 300)) : Int) < (quorum (size m : Int)))) (by kernel_rfl) (by kernel_rfl) ?_
  refine T.nil ?_
  refine QN.seq ?_
  refine W.cond ((((((y.kind != 3) || (decide (y.round < 2))) || (X.choice == 2)) || ((X.choice == y.choice) && (X.val == y.val))) || (!(allowB m y (b.take 300)))) || (decide ((size (bkM m X 4 X.round (a.take 300)) : Int) < (quorum (size m : Int))))) (by kernel_rfl) (fun h9 => ?_) (fun h9 => ?_)
  · skip
    refine W.seq ?_
    refine W.region [(0, false), (1, false)] (by kernel_rfl) ?_
    refine T.callP 79 19 #[] (.bool (true)) (by kernel_rfl) (by kernel_rfl) ent19 (fun w hw => awake11_c w) (fun _ _ => trivial) ?_
    refine T.pure 10 (.bool (true)) (by kernel_rfl) (fun w => by kernel_rfl) ?_
    refine T.nil ?_
    refine QN.seq ?_
    refine W.ret ?_
    refine QN.thenRet ?_
    refine QN.done (.inl rfl) 10 (.bool (true)) rfl (by kernel_rfl) (fun w hw => ⟨?_, hw.below⟩)
    exact rfl
  · skip
    have h9l := (Bool.or_eq_false_iff.1 h9).1
    have h9r := (Bool.or_eq_false_iff.1 h9).2
    have h9ll := (Bool.or_eq_false_iff.1 h9l).1
    have h9lr := (Bool.or_eq_false_iff.1 h9l).2
    have h9lll := (Bool.or_eq_false_iff.1 h9ll).1
    have h9llr := (Bool.or_eq_false_iff.1 h9ll).2
    have h9llll := (Bool.or_eq_false_iff.1 h9lll).1
    have h9lllr := (Bool.or_eq_false_iff.1 h9lll).2
    have h9lllll := (Bool.or_eq_false_iff.1 h9llll).1
    have h9llllr := (Bool.or_eq_false_iff.1 h9llll).2
    have h9llllr' := of_decide_eq_false h9llllr
    have h9lrn := not_eq_false h9lr
    have h9r' := of_decide_eq_false h9r
    refine W.skip ?_
    refine QN.seq ?_
    refine W.seq ?_
    refine W.region [(0, false)] (by kernel_rfl) ?_
    refine T.pure 13 (.int .i64 (0)) (by kernel_rfl) (fun w => by kernel_rfl) ?_
    refine T.nil ?_
    refine QN.seq ?_
    refine W.seq ?_
    refine W.seq ?_
    refine W.region [(0, false)] (by kernel_rfl) ?_
    refine T.pure 14 (.int .i64 (0)) (by kernel_rfl) (fun w => by kernel_rfl) ?_
    refine T.nil ?_
    refine QN.seq ?_
    refine W.block ?_
    refine W.loop (σ := Nat × Int) (fun gs => gs.1 ≤ (a.take 300).length ∧ gs.2 = lkM m (X).round y ((a.take 300).take gs.1) (b.take 300)) (fun gs => [(0, .int .i64 (m)), (3, .slice A ((a.take 300).length) c), (4, .slice B ((b.take 300).length) d), (6, .pointer (some ⟨b1, 0, none⟩)), (7, .pointer (some ⟨b2, 0, none⟩)), (10, .bool (false)), (11, .int .i64 ((size m : Int))), (12, .int .i64 (quorum (size m : Int))), (13, .int .i64 (gs.2)), (14, .int .i64 ((gs.1 : Int)))]) (fun gs => St w [(b1, .cells (X).cs 26 (0, 0)), (b2, .cells (y).cs 26 (0, 0))]) (fun gs => (a.take 300).length - gs.1) (0, 0) ?_ (by kernel_rfl) (fun w h => h) ?_
    · show 0 ≤ (a.take 300).length ∧ 0 = lkM m (X).round y ((a.take 300).take 0) (b.take 300)
      exact ⟨Nat.zero_le _, rfl⟩
    rintro ⟨j, mk⟩ hI_
    obtain ⟨hj, hmk⟩ : j ≤ (a.take 300).length ∧ mk = lkM m (X).round y ((a.take 300).take j) (b.take 300) := hI_
    show W _ _ [(0, .int .i64 (m)), (3, .slice A ((a.take 300).length) c), (4, .slice B ((b.take 300).length) d), (6, .pointer (some ⟨b1, 0, none⟩)), (7, .pointer (some ⟨b2, 0, none⟩)), (10, .bool (false)), (11, .int .i64 ((size m : Int))), (12, .int .i64 (quorum (size m : Int))), (13, .int .i64 (mk)), (14, .int .i64 ((j : Int)))] (St w [(b1, .cells (X).cs 26 (0, 0)), (b2, .cells (y).cs 26 (0, 0))]) _ _
    refine W.seq ?_
    refine W.seq ?_
    refine W.region [(0, false), (1, false), (2, false), (3, false)] (by kernel_rfl) ?_
    refine T.pure 80 (.int .i64 ((j : Int))) (by kernel_rfl) (fun w => by kernel_rfl) ?_
    refine T.pure 81 (.slice A ((a.take 300).length) c) (by kernel_rfl) (fun w => by kernel_rfl) ?_
    refine T.pure 82 (.int .i64 ((((a.take 300).length : Nat) : Int))) (by kernel_rfl) (fun w => by kernel_rfl) ?_
    refine T.pure 83 (.bool (decide ((j : Int) < (((a.take 300).length : Nat) : Int)))) (by kernel_rfl) (fun w => by kernel_rfl) ?_
    refine T.nil ?_
    refine QN.seq ?_
    refine W.cond (decide ((j : Int) < (((a.take 300).length : Nat) : Int))) (by kernel_rfl) (fun h10 => ?_) (fun h10 => ?_)
    · skip
      have h10' := of_decide_eq_true h10
      have hl11 : j < (a.take 300).length := by omega
      refine W.skip ?_
      refine QN.seq ?_
      refine W.seq ?_
      refine W.block ?_
      refine W.seq ?_
      refine W.region [(0, false)] (by kernel_rfl) ?_
      refine T.pure 15 (.int .i64 (0)) (by kernel_rfl) (fun w => by kernel_rfl) ?_
      refine T.nil ?_
      refine QN.seq ?_
      refine W.block ?_
      refine W.loop (σ := Nat × Int) (fun gs => gs.1 ≤ (b.take 300).length ∧ gs.2 = lkI m (X).round y ((a.take 300)[j]'hl11) ((b.take 300).take gs.1) mk) (fun gs => [(0, .int .i64 (m)), (3, .slice A ((a.take 300).length) c), (4, .slice B ((b.take 300).length) d), (6, .pointer (some ⟨b1, 0, none⟩)), (7, .pointer (some ⟨b2, 0, none⟩)), (10, .bool (false)), (11, .int .i64 ((size m : Int))), (12, .int .i64 (quorum (size m : Int))), (13, .int .i64 (gs.2)), (14, .int .i64 ((j : Int))), (15, .int .i64 ((gs.1 : Int))), (80, .int .i64 ((j : Int))), (81, .slice A ((a.take 300).length) c), (82, .int .i64 ((((a.take 300).length : Nat) : Int))), (83, .bool (decide ((j : Int) < (((a.take 300).length : Nat) : Int))))]) (fun gs => St w [(b1, .cells (X).cs 26 (0, 0)), (b2, .cells (y).cs 26 (0, 0))]) (fun gs => (b.take 300).length - gs.1) (0, mk) ?_ (by kernel_rfl) (fun w h => h) ?_
      · show 0 ≤ (b.take 300).length ∧ mk = lkI m (X).round y ((a.take 300)[j]'hl11) ((b.take 300).take 0) mk
        exact ⟨Nat.zero_le _, rfl⟩
      rintro ⟨k2, mk2⟩ hI_
      obtain ⟨hk2, hmk2⟩ : k2 ≤ (b.take 300).length ∧ mk2 = lkI m (X).round y ((a.take 300)[j]'hl11) ((b.take 300).take k2) mk := hI_
      show W _ _ [(0, .int .i64 (m)), (3, .slice A ((a.take 300).length) c), (4, .slice B ((b.take 300).length) d), (6, .pointer (some ⟨b1, 0, none⟩)), (7, .pointer (some ⟨b2, 0, none⟩)), (10, .bool (false)), (11, .int .i64 ((size m : Int))), (12, .int .i64 (quorum (size m : Int))), (13, .int .i64 (mk2)), (14, .int .i64 ((j : Int))), (15, .int .i64 ((k2 : Int))), (80, .int .i64 ((j : Int))), (81, .slice A ((a.take 300).length) c), (82, .int .i64 ((((a.take 300).length : Nat) : Int))), (83, .bool (decide ((j : Int) < (((a.take 300).length : Nat) : Int))))] (St w [(b1, .cells (X).cs 26 (0, 0)), (b2, .cells (y).cs 26 (0, 0))]) _ _
      refine W.seq ?_
      refine W.seq ?_
      refine W.region [(0, false), (1, false), (2, false), (3, false)] (by kernel_rfl) ?_
      refine T.pure 86 (.int .i64 ((k2 : Int))) (by kernel_rfl) (fun w => by kernel_rfl) ?_
      refine T.pure 87 (.slice B ((b.take 300).length) d) (by kernel_rfl) (fun w => by kernel_rfl) ?_
      refine T.pure 88 (.int .i64 ((((b.take 300).length : Nat) : Int))) (by kernel_rfl) (fun w => by kernel_rfl) ?_
      refine T.pure 89 (.bool (decide ((k2 : Int) < (((b.take 300).length : Nat) : Int)))) (by kernel_rfl) (fun w => by kernel_rfl) ?_
      refine T.nil ?_
      refine QN.seq ?_
      refine W.cond (decide ((k2 : Int) < (((b.take 300).length : Nat) : Int))) (by kernel_rfl) (fun h12 => ?_) (fun h12 => ?_)
      · skip
        have h12' := of_decide_eq_true h12
        have hl13 : k2 < (b.take 300).length := by omega
        refine W.skip ?_
        refine QN.seq ?_
        refine W.seq ?_
        refine W.block ?_
        refine W.seq ?_
        refine W.drawn (Ψ := St w [(b1, .cells (X).cs 26 (0, 0)), (b2, .cells (y).cs 26 (0, 0))]) (St w [(b1, .cells (X).cs 26 (0, 0)), (b2, .cells (y).cs 26 (0, 0))]) [(0, true), (1, true), (2, true), (3, true), (4, true), (5, true), (6, true), (7, true), (8, true), (9, true), (10, true), (11, true), (12, true), (13, true), (14, true), (15, true), (16, true), (17, true), (18, true), (19, true), (20, true), (21, true), (22, true), (23, true), (24, true), (25, false), (26, true), (27, true), (28, true), (29, true), (30, true), (31, true), (32, true), (33, true), (34, true), (35, true), (36, true), (37, true), (38, true), (39, true), (40, true), (41, true), (42, true), (43, true), (44, true), (45, true), (46, true), (47, true), (48, true), (49, true), (50, true), (51, true), (52, true), (53, true), (54, false), (55, true)] hmx (by kernel_rfl) (NoPanic.then (NoPanic.inBlock (NoPanic.then (NoPanic.then (NoPanic.inBlock (NoPanic.inBlock (NoPanic.then (NoPanic.then (NoPanic.inBlock (NoPanic.then (NoPanic.body))))))))))) (fun w h => h.drew) (fun w h => h) ?_
        refine T.pure 92 (.slice A ((a.take 300).length) c) (by kernel_rfl) (fun w => by kernel_rfl) ?_
        refine T.pure 93 (.int .i64 ((j : Int))) (by kernel_rfl) (fun w => by kernel_rfl) ?_
        obtain ⟨b14, o15, hA16, hr17⟩ := ((Rd.arr hr _).take _) j hl11
        refine T.index 94 27 26 22 A ((a.take 300).length) c ((j : Int)) (j) b14 o15 (by kernel_rfl) (by kernel_rfl) (by kernel_rfl) (by kernel_rfl) hA16 (rfl) (by omega) ?_
        refine T.pure 95 (.pointer (some ⟨b14, o15 + j * 22, none⟩)) (by kernel_rfl) (fun w => by kernel_rfl) ?_
        refine T.load true 96 (.int .i64 ((((a.take 300)[j]'hl11)).kind)) 3 b14 (o15 + j * 22) (by kernel_rfl) (by kernel_rfl) (by kernel_rfl) (fun w h => cell_of_range (hr17 w h) 0 (by kernel_rfl)) ?_
        refine T.pure 97 (.bool (((((a.take 300)[j]'hl11)).kind) == 4)) (by kernel_rfl) (fun w => by kernel_rfl) ?_
        refine T.pure 98 (.bool (((((a.take 300)[j]'hl11)).kind) == 4)) (by kernel_rfl) (fun w => by kernel_rfl) ?_
        refine T.blk [(7, true), (8, true), (9, true), (10, true), (11, true), (12, true), (13, true), (14, true)] [(15, true), (16, true), (17, true), (18, true), (19, true), (20, true), (21, true), (22, true), (23, true), (24, true), (25, false), (26, true), (27, true), (28, true), (29, true), (30, true), (31, true), (32, true), (33, true), (34, true), (35, true), (36, true), (37, true), (38, true), (39, true), (40, true), (41, true), (42, true), (43, true), (44, true), (45, true), (46, true), (47, true), (48, true), (49, true), (50, true), (51, true), (52, true), (53, true), (54, false), (55, true)] 6 true (((((a.take 300)[j]'hl11)).kind) == 4) 98 106 (.bool (((((a.take 300)[j]'hl11)).round) == X.round)) (by kernel_rfl) (by kernel_rfl) (by kernel_rfl) (fun hg18 => ?_) ?_
        · have hg18_ := hg18
          refine T.pure 99 (.slice A ((a.take 300).length) c) (by kernel_rfl) (fun w => by kernel_rfl) ?_
          refine T.pure 100 (.int .i64 ((j : Int))) (by kernel_rfl) (fun w => by kernel_rfl) ?_
          obtain ⟨b19, o20, hA21, hr22⟩ := ((Rd.arr hr _).take _) j hl11
          refine T.index 101 27 26 22 A ((a.take 300).length) c ((j : Int)) (j) b19 o20 (by kernel_rfl) (by kernel_rfl) (by kernel_rfl) (by kernel_rfl) hA21 (rfl) (by omega) ?_
          refine T.pure 102 (.pointer (some ⟨b19, o20 + j * 22 + 2, none⟩)) (by kernel_rfl) (fun w => by kernel_rfl) ?_
          refine T.load true 103 (.int .i64 ((((a.take 300)[j]'hl11)).round)) 3 b19 (o20 + j * 22 + 2) (by kernel_rfl) (by kernel_rfl) (by kernel_rfl) (fun w h => cell_of_range (hr22 w h) 2 (by kernel_rfl)) ?_
          refine T.pure 104 (.pointer (some ⟨b1, 2, none⟩)) (by kernel_rfl) (fun w => by kernel_rfl) ?_
          refine T.load true 105 (.int .i64 (X.round)) 3 b1 2 (by kernel_rfl) (by kernel_rfl) (by kernel_rfl) (fun w h => St.cellM h (.head _) (by kernel_rfl)) ?_
          refine T.pure 106 (.bool (((((a.take 300)[j]'hl11)).round) == X.round)) (by kernel_rfl) (fun w => by kernel_rfl) ?_
          exact T.blkEnd (by kernel_rfl) (fun w h => h)
        refine T.and 107 (((((a.take 300)[j]'hl11)).kind) == 4) (((((a.take 300)[j]'hl11)).round) == X.round) (by kernel_rfl) (by kernel_rfl) ?_
        refine T.pure 108 (.bool ((((((a.take 300)[j]'hl11)).kind) == 4) && (((((a.take 300)[j]'hl11)).round) == X.round))) (by kernel_rfl) (fun w => by kernel_rfl) ?_
        refine T.blk [(17, true), (18, true), (19, true), (20, true), (21, true), (22, true), (23, true), (24, true), (25, false)] [(26, true), (27, true), (28, true), (29, true), (30, true), (31, true), (32, true), (33, true), (34, true), (35, true), (36, true), (37, true), (38, true), (39, true), (40, true), (41, true), (42, true), (43, true), (44, true), (45, true), (46, true), (47, true), (48, true), (49, true), (50, true), (51, true), (52, true), (53, true), (54, false), (55, true)] 16 true ((((((a.take 300)[j]'hl11)).kind) == 4) && (((((a.take 300)[j]'hl11)).round) == X.round)) 108 117 (.bool (confB ((a.take 300)[j]'hl11) ((b.take 300)[k2]'hl13))) (by kernel_rfl) (by kernel_rfl) (by kernel_rfl) (fun hg23 => ?_) ?_
        · have hg23_ := hg23
          have hg23l := (Bool.and_eq_true_iff.1 hg23).1
          have hg23r := (Bool.and_eq_true_iff.1 hg23).2
          refine T.pure 109 (.slice A ((a.take 300).length) c) (by kernel_rfl) (fun w => by kernel_rfl) ?_
          refine T.pure 110 (.int .i64 ((j : Int))) (by kernel_rfl) (fun w => by kernel_rfl) ?_
          obtain ⟨b24, o25, hA26, hr27⟩ := ((Rd.arr hr _).take _) j hl11
          refine T.index 111 27 26 22 A ((a.take 300).length) c ((j : Int)) (j) b24 o25 (by kernel_rfl) (by kernel_rfl) (by kernel_rfl) (by kernel_rfl) hA26 (rfl) (by omega) ?_
          refine T.loadR true 112 (((a.take 300)[j]'hl11)).cs 26 b24 (o25 + j * 22) (by kernel_rfl) (by kernel_rfl) (by kernel_rfl) (by kernel_rfl) hr27 ?_
          refine T.pure 113 (.slice B ((b.take 300).length) d) (by kernel_rfl) (fun w => by kernel_rfl) ?_
          refine T.pure 114 (.int .i64 ((k2 : Int))) (by kernel_rfl) (fun w => by kernel_rfl) ?_
          obtain ⟨b28, o29, hA30, hr31⟩ := ((Rd.arr hrb _).take _) k2 hl13
          refine T.index 115 27 26 22 B ((b.take 300).length) d ((k2 : Int)) (k2) b28 o29 (by kernel_rfl) (by kernel_rfl) (by kernel_rfl) (by kernel_rfl) hA30 (rfl) (by omega) ?_
          refine T.loadR true 116 (((b.take 300)[k2]'hl13)).cs 26 b28 (o29 + k2 * 22) (by kernel_rfl) (by kernel_rfl) (by kernel_rfl) (by kernel_rfl) hr31 ?_
          refine T.callP 117 20 #[.agg (((a.take 300)[j]'hl11)).cs, .agg (((b.take 300)[k2]'hl13)).cs] (.bool (confB ((a.take 300)[j]'hl11) ((b.take 300)[k2]'hl13))) (by kernel_rfl) (by kernel_rfl) ent20 (fun w hw => conflict_c _ _ w) (fun w h => h) ?_
          exact T.blkEnd (by kernel_rfl) (fun w h => h)
        refine T.and 118 ((((((a.take 300)[j]'hl11)).kind) == 4) && (((((a.take 300)[j]'hl11)).round) == X.round)) (confB ((a.take 300)[j]'hl11) ((b.take 300)[k2]'hl13)) (by kernel_rfl) (by kernel_rfl) ?_
        refine T.pure 119 (.bool (((((((a.take 300)[j]'hl11)).kind) == 4) && (((((a.take 300)[j]'hl11)).round) == X.round)) && (confB ((a.take 300)[j]'hl11) ((b.take 300)[k2]'hl13)))) (by kernel_rfl) (fun w => by kernel_rfl) ?_
        refine T.blk [(28, true), (29, true), (30, true), (31, true), (32, true), (33, true), (34, true), (35, true)] [(36, true), (37, true), (38, true), (39, true), (40, true), (41, true), (42, true), (43, true), (44, true), (45, true), (46, true), (47, true), (48, true), (49, true), (50, true), (51, true), (52, true), (53, true), (54, false), (55, true)] 27 true (((((((a.take 300)[j]'hl11)).kind) == 4) && (((((a.take 300)[j]'hl11)).round) == X.round)) && (confB ((a.take 300)[j]'hl11) ((b.take 300)[k2]'hl13))) 119 127 (.bool (((((a.take 300)[j]'hl11)).par) == y.par)) (by kernel_rfl) (by kernel_rfl) (by kernel_rfl) (fun hg32 => ?_) ?_
        · have hg32_ := hg32
          have hg32l := (Bool.and_eq_true_iff.1 hg32).1
          have hg32r := (Bool.and_eq_true_iff.1 hg32).2
          have hg32ll := (Bool.and_eq_true_iff.1 hg32l).1
          have hg32lr := (Bool.and_eq_true_iff.1 hg32l).2
          refine T.pure 120 (.slice A ((a.take 300).length) c) (by kernel_rfl) (fun w => by kernel_rfl) ?_
          refine T.pure 121 (.int .i64 ((j : Int))) (by kernel_rfl) (fun w => by kernel_rfl) ?_
          obtain ⟨b33, o34, hA35, hr36⟩ := ((Rd.arr hr _).take _) j hl11
          refine T.index 122 27 26 22 A ((a.take 300).length) c ((j : Int)) (j) b33 o34 (by kernel_rfl) (by kernel_rfl) (by kernel_rfl) (by kernel_rfl) hA35 (rfl) (by omega) ?_
          refine T.pure 123 (.pointer (some ⟨b33, o34 + j * 22 + 6, none⟩)) (by kernel_rfl) (fun w => by kernel_rfl) ?_
          refine T.loadR true 124 ((((a.take 300)[j]'hl11)).par).cs 24 b33 (o34 + j * 22 + 6) (by kernel_rfl) (by kernel_rfl) (by kernel_rfl) (by kernel_rfl) (fun w h => range_of_range (hr36 w h) 6 ((((a.take 300)[j]'hl11)).par).cs (by kernel_rfl)) ?_
          refine T.pure 125 (.pointer (some ⟨b2, 6, none⟩)) (by kernel_rfl) (fun w => by kernel_rfl) ?_
          refine T.loadR true 126 (y.par).cs 24 b2 6 (by kernel_rfl) (by kernel_rfl) (by kernel_rfl) (by kernel_rfl) (fun w h => St.rangeM h (y.par).cs (.tail _ (.head _)) (by kernel_rfl)) ?_
          refine T.eqq 127 (((((a.take 300)[j]'hl11)).par) == y.par) (((((a.take 300)[j]'hl11)).par) == y.par) false 24 ((((a.take 300)[j]'hl11)).par).cs (y.par).cs (by kernel_rfl) (by kernel_rfl) (by kernel_rfl) (by kernel_rfl) (fun w => eq_nm w ((((a.take 300)[j]'hl11)).par) y.par) ?_
          exact T.blkEnd (by kernel_rfl) (fun w h => h)
        refine T.and 128 (((((((a.take 300)[j]'hl11)).kind) == 4) && (((((a.take 300)[j]'hl11)).round) == X.round)) && (confB ((a.take 300)[j]'hl11) ((b.take 300)[k2]'hl13))) (((((a.take 300)[j]'hl11)).par) == y.par) (by kernel_rfl) (by kernel_rfl) ?_
        refine T.pure 129 (.bool ((((((((a.take 300)[j]'hl11)).kind) == 4) && (((((a.take 300)[j]'hl11)).round) == X.round)) && (confB ((a.take 300)[j]'hl11) ((b.take 300)[k2]'hl13))) && (((((a.take 300)[j]'hl11)).par) == y.par))) (by kernel_rfl) (fun w => by kernel_rfl) ?_
        refine T.blk [(38, true), (39, true), (40, true), (41, true), (42, true), (43, true), (44, true), (45, true)] [(46, true), (47, true), (48, true), (49, true), (50, true), (51, true), (52, true), (53, true), (54, false), (55, true)] 37 true ((((((((a.take 300)[j]'hl11)).kind) == 4) && (((((a.take 300)[j]'hl11)).round) == X.round)) && (confB ((a.take 300)[j]'hl11) ((b.take 300)[k2]'hl13))) && (((((a.take 300)[j]'hl11)).par) == y.par)) 129 137 (.bool (((((a.take 300)[j]'hl11)).slot) == y.slot)) (by kernel_rfl) (by kernel_rfl) (by kernel_rfl) (fun hg37 => ?_) ?_
        · have hg37_ := hg37
          have hg37l := (Bool.and_eq_true_iff.1 hg37).1
          have hg37r := (Bool.and_eq_true_iff.1 hg37).2
          have hg37ll := (Bool.and_eq_true_iff.1 hg37l).1
          have hg37lr := (Bool.and_eq_true_iff.1 hg37l).2
          have hg37lll := (Bool.and_eq_true_iff.1 hg37ll).1
          have hg37llr := (Bool.and_eq_true_iff.1 hg37ll).2
          refine T.pure 130 (.slice A ((a.take 300).length) c) (by kernel_rfl) (fun w => by kernel_rfl) ?_
          refine T.pure 131 (.int .i64 ((j : Int))) (by kernel_rfl) (fun w => by kernel_rfl) ?_
          obtain ⟨b38, o39, hA40, hr41⟩ := ((Rd.arr hr _).take _) j hl11
          refine T.index 132 27 26 22 A ((a.take 300).length) c ((j : Int)) (j) b38 o39 (by kernel_rfl) (by kernel_rfl) (by kernel_rfl) (by kernel_rfl) hA40 (rfl) (by omega) ?_
          refine T.pure 133 (.pointer (some ⟨b38, o39 + j * 22 + 1, none⟩)) (by kernel_rfl) (fun w => by kernel_rfl) ?_
          refine T.load true 134 (.int .i64 ((((a.take 300)[j]'hl11)).slot)) 3 b38 (o39 + j * 22 + 1) (by kernel_rfl) (by kernel_rfl) (by kernel_rfl) (fun w h => cell_of_range (hr41 w h) 1 (by kernel_rfl)) ?_
          refine T.pure 135 (.pointer (some ⟨b2, 1, none⟩)) (by kernel_rfl) (fun w => by kernel_rfl) ?_
          refine T.load true 136 (.int .i64 (y.slot)) 3 b2 1 (by kernel_rfl) (by kernel_rfl) (by kernel_rfl) (fun w h => St.cellM h (.tail _ (.head _)) (by kernel_rfl)) ?_
          refine T.pure 137 (.bool (((((a.take 300)[j]'hl11)).slot) == y.slot)) (by kernel_rfl) (fun w => by kernel_rfl) ?_
          exact T.blkEnd (by kernel_rfl) (fun w h => h)
        refine T.and 138 ((((((((a.take 300)[j]'hl11)).kind) == 4) && (((((a.take 300)[j]'hl11)).round) == X.round)) && (confB ((a.take 300)[j]'hl11) ((b.take 300)[k2]'hl13))) && (((((a.take 300)[j]'hl11)).par) == y.par)) (((((a.take 300)[j]'hl11)).slot) == y.slot) (by kernel_rfl) (by kernel_rfl) ?_
        refine T.pure 139 (.bool (((((((((a.take 300)[j]'hl11)).kind) == 4) && (((((a.take 300)[j]'hl11)).round) == X.round)) && (confB ((a.take 300)[j]'hl11) ((b.take 300)[k2]'hl13))) && (((((a.take 300)[j]'hl11)).par) == y.par)) && (((((a.take 300)[j]'hl11)).slot) == y.slot))) (by kernel_rfl) (fun w => by kernel_rfl) ?_
        refine T.blk [(48, true), (49, true), (50, true), (51, true), (52, true), (53, true), (54, false)] [(55, true)] 47 true (((((((((a.take 300)[j]'hl11)).kind) == 4) && (((((a.take 300)[j]'hl11)).round) == X.round)) && (confB ((a.take 300)[j]'hl11) ((b.take 300)[k2]'hl13))) && (((((a.take 300)[j]'hl11)).par) == y.par)) && (((((a.take 300)[j]'hl11)).slot) == y.slot)) 139 146 (.bool (hasB m ((((a.take 300)[j]'hl11)).signer))) (by kernel_rfl) (by kernel_rfl) (by kernel_rfl) (fun hg42 => ?_) ?_
        · have hg42_ := hg42
          have hg42l := (Bool.and_eq_true_iff.1 hg42).1
          have hg42r := (Bool.and_eq_true_iff.1 hg42).2
          have hg42ll := (Bool.and_eq_true_iff.1 hg42l).1
          have hg42lr := (Bool.and_eq_true_iff.1 hg42l).2
          have hg42lll := (Bool.and_eq_true_iff.1 hg42ll).1
          have hg42llr := (Bool.and_eq_true_iff.1 hg42ll).2
          have hg42llll := (Bool.and_eq_true_iff.1 hg42lll).1
          have hg42lllr := (Bool.and_eq_true_iff.1 hg42lll).2
          refine T.pure 140 (.int .i64 (m)) (by kernel_rfl) (fun w => by kernel_rfl) ?_
          refine T.pure 141 (.slice A ((a.take 300).length) c) (by kernel_rfl) (fun w => by kernel_rfl) ?_
          refine T.pure 142 (.int .i64 ((j : Int))) (by kernel_rfl) (fun w => by kernel_rfl) ?_
          obtain ⟨b43, o44, hA45, hr46⟩ := ((Rd.arr hr _).take _) j hl11
          refine T.index 143 27 26 22 A ((a.take 300).length) c ((j : Int)) (j) b43 o44 (by kernel_rfl) (by kernel_rfl) (by kernel_rfl) (by kernel_rfl) hA45 (rfl) (by omega) ?_
          refine T.pure 144 (.pointer (some ⟨b43, o44 + j * 22 + 4, none⟩)) (by kernel_rfl) (fun w => by kernel_rfl) ?_
          refine T.load true 145 (.int .i64 ((((a.take 300)[j]'hl11)).signer)) 3 b43 (o44 + j * 22 + 4) (by kernel_rfl) (by kernel_rfl) (by kernel_rfl) (fun w h => cell_of_range (hr46 w h) 4 (by kernel_rfl)) ?_
          refine T.callP 146 21 #[.int .i64 (m), .int .i64 ((((a.take 300)[j]'hl11)).signer)] (.bool (hasB m ((((a.take 300)[j]'hl11)).signer))) (by kernel_rfl) (by kernel_rfl) ent21 (fun w hw => Ret.same (has_c _ _ w (by first | assumption | exact w64_and _ _ | exact w64_or _ _ | exact w64_andNot _ _ | (unfold W64; omega)))) (fun w h => h) ?_
          exact T.blkEnd (by kernel_rfl) (fun w h => h)
        refine T.and 147 (((((((((a.take 300)[j]'hl11)).kind) == 4) && (((((a.take 300)[j]'hl11)).round) == X.round)) && (confB ((a.take 300)[j]'hl11) ((b.take 300)[k2]'hl13))) && (((((a.take 300)[j]'hl11)).par) == y.par)) && (((((a.take 300)[j]'hl11)).slot) == y.slot)) (hasB m ((((a.take 300)[j]'hl11)).signer)) (by kernel_rfl) (by kernel_rfl) ?_
        refine T.nil ?_
        refine QN.seq ?_
        refine W.cond ((((((((((a.take 300)[j]'hl11)).kind) == 4) && (((((a.take 300)[j]'hl11)).round) == X.round)) && (confB ((a.take 300)[j]'hl11) ((b.take 300)[k2]'hl13))) && (((((a.take 300)[j]'hl11)).par) == y.par)) && (((((a.take 300)[j]'hl11)).slot) == y.slot)) && (hasB m ((((a.take 300)[j]'hl11)).signer))) (by kernel_rfl) (fun h47 => ?_) (fun h47 => ?_)
        · skip
          have h47l := (Bool.and_eq_true_iff.1 h47).1
          have h47r := (Bool.and_eq_true_iff.1 h47).2
          have h47ll := (Bool.and_eq_true_iff.1 h47l).1
          have h47lr := (Bool.and_eq_true_iff.1 h47l).2
          have h47lll := (Bool.and_eq_true_iff.1 h47ll).1
          have h47llr := (Bool.and_eq_true_iff.1 h47ll).2
          have h47llll := (Bool.and_eq_true_iff.1 h47lll).1
          have h47lllr := (Bool.and_eq_true_iff.1 h47lll).2
          have h47lllll := (Bool.and_eq_true_iff.1 h47llll).1
          have h47llllr := (Bool.and_eq_true_iff.1 h47llll).2
          have h47rb := hasB_lt h47r
          refine W.region [(0, false), (1, false), (2, false), (3, false), (4, false), (5, false), (6, false), (7, false), (8, false), (9, false)] (by kernel_rfl) ?_
          refine T.pure 148 (.int .i64 (mk2)) (by kernel_rfl) (fun w => by kernel_rfl) ?_
          refine T.pure 149 (.slice A ((a.take 300).length) c) (by kernel_rfl) (fun w => by kernel_rfl) ?_
          refine T.pure 150 (.int .i64 ((j : Int))) (by kernel_rfl) (fun w => by kernel_rfl) ?_
          obtain ⟨b48, o49, hA50, hr51⟩ := ((Rd.arr hr _).take _) j hl11
          refine T.index 151 27 26 22 A ((a.take 300).length) c ((j : Int)) (j) b48 o49 (by kernel_rfl) (by kernel_rfl) (by kernel_rfl) (by kernel_rfl) hA50 (rfl) (by omega) ?_
          refine T.pure 152 (.pointer (some ⟨b48, o49 + j * 22 + 4, none⟩)) (by kernel_rfl) (fun w => by kernel_rfl) ?_
          refine T.load false 153 (.int .i64 ((((a.take 300)[j]'hl11)).signer)) 3 b48 (o49 + j * 22 + 4) (by kernel_rfl) (by kernel_rfl) (by kernel_rfl) (fun w h => cell_of_range (hr51 w h) 4 (by kernel_rfl)) ?_
          refine T.pureE 154 (.int .u64 (IntKind.u64.wrap ((((a.take 300)[j]'hl11)).signer))) (.int .u64 ((((a.take 300)[j]'hl11)).signer)) (by kernel_rfl) (fun w => by kernel_rfl) (wrapu_int (by omega) (by omega)) ?_
          refine T.shl 155 .i64 .u64 1 ((((a.take 300)[j]'hl11)).signer) (.int .i64 (2 ^ ((((a.take 300)[j]'hl11)).signer).toNat)) (by kernel_rfl) (by kernel_rfl) (by omega) (shl_one (by omega) (by omega)) ?_
          refine T.pure 156 (.int .i64 (bits .or .i64 mk2 (2 ^ ((((a.take 300)[j]'hl11)).signer).toNat))) (by kernel_rfl) (fun w => by kernel_rfl) ?_
          refine T.pure 13 (.int .i64 (bits .or .i64 mk2 (2 ^ ((((a.take 300)[j]'hl11)).signer).toNat))) (by kernel_rfl) (fun w => by kernel_rfl) ?_
          refine T.nil ?_
          refine QN.blkNormal ?_
          refine QN.seq ?_
          refine W.region [(0, false), (1, false), (2, false)] (by kernel_rfl) ?_
          refine T.pure 90 (.int .i64 ((k2 : Int))) (by kernel_rfl) (fun w => by kernel_rfl) ?_
          refine T.pureE 91 (.int .i64 (IntKind.i64.wrap ((k2 : Int) + 1))) (.int .i64 ((k2 : Int) + 1)) (by kernel_rfl) (fun w => by kernel_rfl) (wrap_int (by omega) (by omega)) ?_
          refine T.pure 15 (.int .i64 ((k2 : Int) + 1)) (by kernel_rfl) (fun w => by kernel_rfl) ?_
          refine T.nil ?_
          refine QN.back (k2 + 1, bits .or .i64 mk2 (2 ^ ((((a.take 300)[j]'hl11)).signer).toNat)) ?_ ?_ (by kernel_rfl) (fun w h => h)
          · show (k2 + 1) ≤ (b.take 300).length ∧ (bits .or .i64 mk2 (2 ^ ((((a.take 300)[j]'hl11)).signer).toNat)) = lkI m (X).round y ((a.take 300)[j]'hl11) ((b.take 300).take (k2 + 1)) mk
            refine ⟨by omega, ?_⟩; rw [← lkI_step hmk2 (by omega)]; have hb : lkP m (X).round y ((a.take 300)[j]'hl11) _ = _ := h47; rw [hb]; all_goals rfl
          · show _ - _ < _ - _; omega
        · skip
          refine W.skip ?_
          refine QN.blkNormal ?_
          refine QN.seq ?_
          refine W.region [(0, false), (1, false), (2, false)] (by kernel_rfl) ?_
          refine T.pure 90 (.int .i64 ((k2 : Int))) (by kernel_rfl) (fun w => by kernel_rfl) ?_
          refine T.pureE 91 (.int .i64 (IntKind.i64.wrap ((k2 : Int) + 1))) (.int .i64 ((k2 : Int) + 1)) (by kernel_rfl) (fun w => by kernel_rfl) (wrap_int (by omega) (by omega)) ?_
          refine T.pure 15 (.int .i64 ((k2 : Int) + 1)) (by kernel_rfl) (fun w => by kernel_rfl) ?_
          refine T.nil ?_
          refine QN.back (k2 + 1, mk2) ?_ ?_ (by kernel_rfl) (fun w h => h)
          · show (k2 + 1) ≤ (b.take 300).length ∧ mk2 = lkI m (X).round y ((a.take 300)[j]'hl11) ((b.take 300).take (k2 + 1)) mk
            refine ⟨by omega, ?_⟩; rw [← lkI_step hmk2 (by omega)]; have hb : lkP m (X).round y ((a.take 300)[j]'hl11) _ = _ := h47; rw [hb]; all_goals rfl
          · show _ - _ < _ - _; omega
      · skip
        have h12' := of_decide_eq_false h12
        refine W.exit ?_
        refine QN.thenExit ?_
        refine QN.thenExit ?_
        refine QN.blkHit ?_
        refine QN.blkNormal ?_
        refine QN.seq ?_
        refine W.region [(0, false), (1, false), (2, false)] (by kernel_rfl) ?_
        refine T.pure 84 (.int .i64 ((j : Int))) (by kernel_rfl) (fun w => by kernel_rfl) ?_
        refine T.pureE 85 (.int .i64 (IntKind.i64.wrap ((j : Int) + 1))) (.int .i64 ((j : Int) + 1)) (by kernel_rfl) (fun w => by kernel_rfl) (wrap_int (by omega) (by omega)) ?_
        refine T.pure 14 (.int .i64 ((j : Int) + 1)) (by kernel_rfl) (fun w => by kernel_rfl) ?_
        refine T.nil ?_
        refine QN.back (j + 1, mk2) ?_ ?_ (by kernel_rfl) (fun w h => h)
        · show (j + 1) ≤ (a.take 300).length ∧ mk2 = lkM m (X).round y ((a.take 300).take (j + 1)) (b.take 300)
          refine ⟨by omega, ?_⟩; rw [← lkM_step hmk (by omega), hmk2, take_end (l := b.take 300) (by omega)]
        · show _ - _ < _ - _; omega
    · skip
      have h10' := of_decide_eq_false h10
      refine W.exit ?_
      refine QN.thenExit ?_
      refine QN.thenExit ?_
      refine QN.blkHit ?_
      refine QN.seq ?_
      refine W.seq ?_
      refine W.region [(0, false), (1, false), (2, false), (3, false), (4, false), (5, false), (6, false), (7, false), (8, false), (9, false), (10, false), (11, false), (12, false), (13, false), (14, false), (15, false), (16, false), (17, false)] (by kernel_rfl) ?_
      refine T.pure 157 (.int .i64 (mk)) (by kernel_rfl) (fun w => by kernel_rfl) ?_
      refine T.callP 158 15 #[.int .i64 (mk)] (.int .i64 ((size mk : Int))) (by kernel_rfl) (by kernel_rfl) ent15 (fun w hw => Ret.same (size_c _ w)) (fun _ _ => trivial) ?_
      refine T.pure 159 (.int .i64 (quorum (size m : Int))) (by kernel_rfl) (fun w => by kernel_rfl) ?_
      refine T.pureE 160 (.int .i64 (IntKind.i64.wrap (2 * (quorum (size m : Int))))) (.int .i64 (2 * (quorum (size m : Int)))) (by kernel_rfl) (fun w => by kernel_rfl) (wrap_int (by omega) (by omega)) ?_
      refine T.pure 161 (.int .i64 ((size m : Int))) (by kernel_rfl) (fun w => by kernel_rfl) ?_
      refine T.pureE 162 (.int .i64 (IntKind.i64.wrap ((2 * (quorum (size m : Int))) - (size m : Int)))) (.int .i64 ((2 * (quorum (size m : Int))) - (size m : Int))) (by kernel_rfl) (fun w => by kernel_rfl) (wrap_int (by omega) (by omega)) ?_
      refine T.pure 163 (.bool (decide (((2 * (quorum (size m : Int))) - (size m : Int)) ≤ (size mk : Int)))) (by kernel_rfl) (fun w => by kernel_rfl) ?_
      refine T.pure 164 (.bool (decide (((2 * (quorum (size m : Int))) - (size m : Int)) ≤ (size mk : Int)))) (by kernel_rfl) (fun w => by kernel_rfl) ?_
      refine T.blk [(8, false), (9, false), (10, false), (11, false), (12, false)] [(13, false), (14, false), (15, false), (16, false), (17, false)] 7 true (decide (((2 * (quorum (size m : Int))) - (size m : Int)) ≤ (size mk : Int))) 164 169 (.bool (decide ((third (size m : Int)) ≤ (size mk : Int)))) (by kernel_rfl) (by kernel_rfl) (by kernel_rfl) (fun hg52 => ?_) ?_
      · have hg52_ := hg52
        have hg52' := of_decide_eq_true hg52
        refine T.pure 165 (.int .i64 (mk)) (by kernel_rfl) (fun w => by kernel_rfl) ?_
        refine T.callP 166 15 #[.int .i64 (mk)] (.int .i64 ((size mk : Int))) (by kernel_rfl) (by kernel_rfl) ent15 (fun w hw => Ret.same (size_c _ w)) (fun _ _ => trivial) ?_
        refine T.pure 167 (.int .i64 ((size m : Int))) (by kernel_rfl) (fun w => by kernel_rfl) ?_
        refine T.callP 168 22 #[.int .i64 ((size m : Int))] (.int .i64 (third (size m : Int))) (by kernel_rfl) (by kernel_rfl) ent22 (fun w hw => Ret.same (third_c _ w (by unfold W64; omega))) (fun _ _ => trivial) ?_
        refine T.pure 169 (.bool (decide ((third (size m : Int)) ≤ (size mk : Int)))) (by kernel_rfl) (fun w => by kernel_rfl) ?_
        exact T.blkEnd (by kernel_rfl) (fun w h => h)
      refine T.and 170 (decide (((2 * (quorum (size m : Int))) - (size m : Int)) ≤ (size mk : Int))) (decide ((third (size m : Int)) ≤ (size mk : Int))) (by kernel_rfl) (by kernel_rfl) ?_
      refine T.pure 171 (.bool ((decide (((2 * (quorum (size m : Int))) - (size m : Int)) ≤ (size mk : Int))) && (decide ((third (size m : Int)) ≤ (size mk : Int))))) (by kernel_rfl) (fun w => by kernel_rfl) ?_
      refine T.blk [(15, false)] [(16, false), (17, false)] 14 true ((decide (((2 * (quorum (size m : Int))) - (size m : Int)) ≤ (size mk : Int))) && (decide ((third (size m : Int)) ≤ (size mk : Int)))) 171 172 (.bool (true)) (by kernel_rfl) (by kernel_rfl) (by kernel_rfl) (fun hg53 => ?_) ?_
      · have hg53_ := hg53
        have hg53l := (Bool.and_eq_true_iff.1 hg53).1
        have hg53r := (Bool.and_eq_true_iff.1 hg53).2
        have hg53l' := of_decide_eq_true hg53l
        have hg53r' := of_decide_eq_true hg53r
        refine T.callP 172 19 #[] (.bool (true)) (by kernel_rfl) (by kernel_rfl) ent19 (fun w hw => awake11_c w) (fun _ _ => trivial) ?_
        exact T.blkEnd (by kernel_rfl) (fun w h => h)
      refine T.and 173 ((decide (((2 * (quorum (size m : Int))) - (size m : Int)) ≤ (size mk : Int))) && (decide ((third (size m : Int)) ≤ (size mk : Int)))) (true) (by kernel_rfl) (by kernel_rfl) ?_
      refine T.pure 10 (.bool (((decide (((2 * (quorum (size m : Int))) - (size m : Int)) ≤ (size mk : Int))) && (decide ((third (size m : Int)) ≤ (size mk : Int)))) && true)) (by kernel_rfl) (fun w => by kernel_rfl) ?_
      refine T.nil ?_
      refine QN.seq ?_
      refine W.ret ?_
      refine QN.done (.inl rfl) 10 (.bool (((decide (((2 * (quorum (size m : Int))) - (size m : Int)) ≤ (size mk : Int))) && (decide ((third (size m : Int)) ≤ (size mk : Int)))) && true)) rfl (by kernel_rfl) (fun w hw => ⟨?_, hw.below⟩)
      exact ret_bool (locks_w e1 e2 e3 e4 hoky.round h9 (by rw [hmk, take_end (by omega)]))
theorem JustifyLocks_w (w : World) (a0 : Int) (v1 : Value) (x1 : Vt) (v2 : Value) (x2 : Vt) (v3 : Value) (x3 : List Vt) (v4 : Value) (x4 : List Vt) (h0 : W64 a0) (h1 : v1 = .agg x1.cs ∧ x1.Ok) (h2 : v2 = .agg x2.cs ∧ x2.Ok) (h3 : VS w v3 x3) (h4 : VS w v4 x4) : Calls Try.prog 3 #[.int .i64 a0, v1, v2, v3, v4] w fun e w' => e = .returned (.bool true) ∧ Below w.heap.size w w' := by
  obtain ⟨rfl, k1⟩ := h1
  obtain ⟨rfl, k2⟩ := h2
  obtain ⟨A3, c3, rfl, l3, m3, r3, k3⟩ := h3
  obtain ⟨A4, c4, rfl, l4, m4, r4, k4⟩ := h4
  exact JustifyLocks_c _ _ _ _ _ _ _ _ _ w h0 k1 k2 l3 m3 r3.rd l4 m4 r4.rd
end Go.Proofs.Ythhgdkodhokefaa
