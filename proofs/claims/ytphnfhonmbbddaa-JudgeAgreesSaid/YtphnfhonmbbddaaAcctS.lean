/- Conflicts; what is known of accepted votes. -/
import Derived.Test.YtphnfhonmbbddaaL12d
namespace Go.Proofs.Ytphnfhonmbbddaa
open Go Go.RowKit
set_option linter.unusedVariables false

def keyB (u : Vt) (z : Vt) : Bool := ((((u.kind == z.kind) && (u.par == z.par)) && (u.slot == z.slot)) && (u.round == z.round)) && (u.signer == z.signer)
set_option maxRecDepth 100000 in
set_option maxHeartbeats 2000000 in
theorem samekey_c (u : Vt) (z : Vt)  (w : World) : Calls Try.prog 64 #[.agg u.cs, .agg z.cs] w (fun rr w' => rr = .returned (.bool (keyB u z)) ∧ Below w.heap.size w w') := by
 refine calls_W (n := 38) Try.func64 rfl [(0, .agg u.cs), (1, .agg z.cs)] rfl ⟨by kernel_rfl, by kernel_rfl⟩ (W.weak (Ψ := St w []) (fun w' h => by rw [h]; exact St.start w) (W.seq (W.rg od3 (T.bx 2 68 (.agg u.cs) (u.cs) tv3 (fun b1 => T.bx 3 68 (.agg z.cs) (z.cs) tv3 (fun b2 => T.pb 4 false (T.nil (QN.seq (W.seq (W.rg [(0, false), (1, false), (2, false), (3, false), (4, false), (5, false), (6, false), (7, false), (8, false), (9, false), (10, false), (11, false), (12, false), (13, false), (14, false), (15, false), (16, false), (17, false), (18, false), (19, false), (20, false), (21, false), (22, false), (23, false), (24, false), (25, false), (26, false), (27, false), (28, false), (29, false), (30, false), (31, false), (32, false), (33, false)] (T.pu 5 (.pointer (some ⟨b1, 0, none⟩)) (T.ld false 6 (.int .i64 u.kind) 3 b1 0 (fun w h => St.cellM h mm1 (by kernel_rfl)) (T.pu 7 (.pointer (some ⟨b2, 0, none⟩)) (T.ld false 8 (.int .i64 z.kind) 3 b2 0 (fun w h => St.cellM h mm0 (by kernel_rfl)) (T.pb 9 (u.kind == z.kind) (T.pb 10 (u.kind == z.kind) (T.bk [(6, false), (7, false), (8, false), (9, false), (10, false)] [(11, false), (12, false), (13, false), (14, false), (15, false), (16, false), (17, false), (18, false), (19, false), (20, false), (21, false), (22, false), (23, false), (24, false), (25, false), (26, false), (27, false), (28, false), (29, false), (30, false), (31, false), (32, false), (33, false)] 5 true (u.kind == z.kind) 10 15 (.bool (u.par == z.par)) (fun hg3 => ?_) ?_)))))))))))))))))
 ·
  have hg3_ := hg3
  refine T.pu 11 (.pointer (some ⟨b1, 6, none⟩)) (T.lr false 12 u.par.cs 54 b1 6 (fun w h => St.rangeM h u.par.cs mm1 (by kernel_rfl)) (T.pu 13 (.pointer (some ⟨b2, 6, none⟩)) (T.lr false 14 z.par.cs 54 b2 6 (fun w h => St.rangeM h z.par.cs mm0 (by kernel_rfl)) (T.eqq 15 (u.par == z.par) (u.par == z.par) false 54 u.par.cs z.par.cs (by kernel_rfl) (by kernel_rfl) (by kernel_rfl) (by kernel_rfl) (fun w => eq_nm w u.par z.par) ?_))))
  exact T.blkEnd (by kernel_rfl) (fun w h => h)
 refine T.an 16 (u.kind == z.kind) (u.par == z.par) (T.pb 17 ((u.kind == z.kind) && (u.par == z.par)) (T.bk [(13, false), (14, false), (15, false), (16, false), (17, false)] [(18, false), (19, false), (20, false), (21, false), (22, false), (23, false), (24, false), (25, false), (26, false), (27, false), (28, false), (29, false), (30, false), (31, false), (32, false), (33, false)] 12 true ((u.kind == z.kind) && (u.par == z.par)) 17 22 (.bool (u.slot == z.slot)) (fun hg4 => ?_) ?_))
 ·
  have hg4_ := hg4
  have hg4l := (Bool.and_eq_true_iff.1 hg4).1
  have hg4r := (Bool.and_eq_true_iff.1 hg4).2
  refine T.pu 18 (.pointer (some ⟨b1, 1, none⟩)) (T.ld false 19 (.int .i64 u.slot) 3 b1 1 (fun w h => St.cellM h mm1 (by kernel_rfl)) (T.pu 20 (.pointer (some ⟨b2, 1, none⟩)) (T.ld false 21 (.int .i64 z.slot) 3 b2 1 (fun w h => St.cellM h mm0 (by kernel_rfl)) (T.pb 22 (u.slot == z.slot) ?_))))
  exact T.blkEnd (by kernel_rfl) (fun w h => h)
 refine T.an 23 ((u.kind == z.kind) && (u.par == z.par)) (u.slot == z.slot) (T.pb 24 (((u.kind == z.kind) && (u.par == z.par)) && (u.slot == z.slot)) (T.bk [(20, false), (21, false), (22, false), (23, false), (24, false)] [(25, false), (26, false), (27, false), (28, false), (29, false), (30, false), (31, false), (32, false), (33, false)] 19 true (((u.kind == z.kind) && (u.par == z.par)) && (u.slot == z.slot)) 24 29 (.bool (u.round == z.round)) (fun hg5 => ?_) ?_))
 ·
  have hg5_ := hg5
  have hg5l := (Bool.and_eq_true_iff.1 hg5).1
  have hg5r := (Bool.and_eq_true_iff.1 hg5).2
  have hg5ll := (Bool.and_eq_true_iff.1 hg5l).1
  have hg5lr := (Bool.and_eq_true_iff.1 hg5l).2
  refine T.pu 25 (.pointer (some ⟨b1, 2, none⟩)) (T.ld false 26 (.int .i64 u.round) 3 b1 2 (fun w h => St.cellM h mm1 (by kernel_rfl)) (T.pu 27 (.pointer (some ⟨b2, 2, none⟩)) (T.ld false 28 (.int .i64 z.round) 3 b2 2 (fun w h => St.cellM h mm0 (by kernel_rfl)) (T.pb 29 (u.round == z.round) ?_))))
  exact T.blkEnd (by kernel_rfl) (fun w h => h)
 refine T.an 30 (((u.kind == z.kind) && (u.par == z.par)) && (u.slot == z.slot)) (u.round == z.round) (T.pb 31 ((((u.kind == z.kind) && (u.par == z.par)) && (u.slot == z.slot)) && (u.round == z.round)) (T.bk [(27, false), (28, false), (29, false), (30, false), (31, false)] [(32, false), (33, false)] 26 true ((((u.kind == z.kind) && (u.par == z.par)) && (u.slot == z.slot)) && (u.round == z.round)) 31 36 (.bool (u.signer == z.signer)) (fun hg6 => ?_) ?_))
 ·
  have hg6_ := hg6
  have hg6l := (Bool.and_eq_true_iff.1 hg6).1
  have hg6r := (Bool.and_eq_true_iff.1 hg6).2
  have hg6ll := (Bool.and_eq_true_iff.1 hg6l).1
  have hg6lr := (Bool.and_eq_true_iff.1 hg6l).2
  have hg6lll := (Bool.and_eq_true_iff.1 hg6ll).1
  have hg6llr := (Bool.and_eq_true_iff.1 hg6ll).2
  refine T.pu 32 (.pointer (some ⟨b1, 4, none⟩)) (T.ld false 33 (.int .i64 u.signer) 3 b1 4 (fun w h => St.cellM h mm1 (by kernel_rfl)) (T.pu 34 (.pointer (some ⟨b2, 4, none⟩)) (T.ld false 35 (.int .i64 z.signer) 3 b2 4 (fun w h => St.cellM h mm0 (by kernel_rfl)) (T.pb 36 (u.signer == z.signer) ?_))))
  exact T.blkEnd (by kernel_rfl) (fun w h => h)
 refine T.an 37 ((((u.kind == z.kind) && (u.par == z.par)) && (u.slot == z.slot)) && (u.round == z.round)) (u.signer == z.signer) (T.pb 4 (((((u.kind == z.kind) && (u.par == z.par)) && (u.slot == z.slot)) && (u.round == z.round)) && (u.signer == z.signer)) (T.nil (QN.seq (W.ret (QN.done (.inl rfl) 4 (.bool (((((u.kind == z.kind) && (u.par == z.par)) && (u.slot == z.slot)) && (u.round == z.round)) && (u.signer == z.signer))) rfl (by kernel_rfl) (fun w hw => ⟨?_, hw.below⟩))))))
 exact congrArg (fun b => Ending.returned (.bool b)) (by simp only [keyB])
def confB (u : Vt) (z : Vt) : Bool := (((u != z) && (keyB u z)) && (validB u)) && (validB z)
set_option maxRecDepth 100000 in
set_option maxHeartbeats 2000000 in
theorem conflict_c (u : Vt) (z : Vt)  (w : World) : Calls Try.prog 35 #[.agg u.cs, .agg z.cs] w (fun rr w' => rr = .returned (.bool (confB u z)) ∧ Below w.heap.size w w') := by
 refine calls_W (n := 21) Try.func35 rfl [(0, .agg u.cs), (1, .agg z.cs)] rfl ⟨by kernel_rfl, by kernel_rfl⟩ (W.weak (Ψ := St w []) (fun w' h => by rw [h]; exact St.start w) (W.seq (W.rg od3 (T.bx 2 68 (.agg u.cs) (u.cs) tv3 (fun b1 => T.bx 3 68 (.agg z.cs) (z.cs) tv3 (fun b2 => T.pb 4 false (T.nil (QN.seq (W.seq (W.rg od17 (T.lr false 5 u.cs 68 b1 0 (fun w h => St.rangeM h u.cs mm1 (by kernel_rfl)) (T.lr false 6 z.cs 68 b2 0 (fun w h => St.rangeM h z.cs mm0 (by kernel_rfl)) (T.eqq 7 (u != z) (u == z) true 68 u.cs z.cs (by kernel_rfl) (by kernel_rfl) (by kernel_rfl) (by kernel_rfl) (fun w => eq_vt w u z) (T.pb 8 (u != z) (T.bk [(4, false), (5, false), (6, false)] [(7, false), (8, false), (9, false), (10, false), (11, false), (12, false), (13, false), (14, false), (15, false), (16, false)] 3 true (u != z) 8 11 (.bool (keyB u z)) (fun hg3 => ?_) ?_)))))))))))))))
 ·
  have hg3_ := hg3
  refine T.lr false 9 u.cs 68 b1 0 (fun w h => St.rangeM h u.cs mm1 (by kernel_rfl)) (T.lr false 10 z.cs 68 b2 0 (fun w h => St.rangeM h z.cs mm0 (by kernel_rfl)) (T.cp 11 64 #[.agg u.cs, .agg z.cs] (.bool (keyB u z)) ent64 (fun w hw => samekey_c _ _ w) tv2 ?_))
  exact T.blkEnd (by kernel_rfl) (fun w h => h)
 refine T.an 12 (u != z) (keyB u z) (T.pb 13 ((u != z) && (keyB u z)) (T.bk [(9, false), (10, false)] [(11, false), (12, false), (13, false), (14, false), (15, false), (16, false)] 8 true ((u != z) && (keyB u z)) 13 15 (.bool (validB u)) (fun hg4 => ?_) ?_))
 ·
  have hg4_ := hg4
  have hg4l := (Bool.and_eq_true_iff.1 hg4).1
  have hg4r := (Bool.and_eq_true_iff.1 hg4).2
  refine T.lr false 14 u.cs 68 b1 0 (fun w h => St.rangeM h u.cs mm1 (by kernel_rfl)) (T.cp 15 65 #[.agg u.cs] (.bool (validB u)) ent65 (fun w hw => valid_c _ w) tv2 ?_)
  exact T.blkEnd (by kernel_rfl) (fun w h => h)
 refine T.an 16 ((u != z) && (keyB u z)) (validB u) (T.pb 17 (((u != z) && (keyB u z)) && (validB u)) (T.bk [(13, false), (14, false)] [(15, false), (16, false)] 12 true (((u != z) && (keyB u z)) && (validB u)) 17 19 (.bool (validB z)) (fun hg5 => ?_) ?_))
 ·
  have hg5_ := hg5
  have hg5l := (Bool.and_eq_true_iff.1 hg5).1
  have hg5r := (Bool.and_eq_true_iff.1 hg5).2
  have hg5ll := (Bool.and_eq_true_iff.1 hg5l).1
  have hg5lr := (Bool.and_eq_true_iff.1 hg5l).2
  refine T.lr false 18 z.cs 68 b2 0 (fun w h => St.rangeM h z.cs mm0 (by kernel_rfl)) (T.cp 19 65 #[.agg z.cs] (.bool (validB z)) ent65 (fun w hw => valid_c _ w) tv2 ?_)
  exact T.blkEnd (by kernel_rfl) (fun w h => h)
 refine T.an 20 (((u != z) && (keyB u z)) && (validB u)) (validB z) (T.pb 4 ((((u != z) && (keyB u z)) && (validB u)) && (validB z)) (T.nil (QN.seq (W.ret (QN.done (.inl rfl) 4 (.bool ((((u != z) && (keyB u z)) && (validB u)) && (validB z))) rfl (by kernel_rfl) (fun w hw => ⟨?_, hw.below⟩))))))
 exact congrArg (fun b => Ending.returned (.bool b)) (by simp only [confB])
theorem any_snoc {α : Type} {l : List α} {p : α → Bool} {j : Nat} (hj : j < l.length) : ((l.take j).any p || p l[j]) = (l.take (j + 1)).any p := by
  rw [List.take_succ_eq_append_getElem hj, List.any_append]; simp
theorem conf_intro {u z : Vt} (h1 : u ≠ z) (h2 : validB u = true) (h3 : validB z = true) (h4 : u.kind = z.kind) (h5 : u.par = z.par) (h6 : u.slot = z.slot) (h7 : u.round = z.round) (h8 : u.signer = z.signer) : confB u z = true := by
  unfold confB keyB
  have e1 : (u != z) = true := by simpa [bne] using h1
  rw [e1, h2, h3, h4, h5, h6, h7, h8]
  simp
theorem conf_out {u z : Vt} (h : confB u z = true) : u ≠ z ∧ validB u = true ∧ validB z = true ∧ u.kind = z.kind ∧ u.par = z.par ∧ u.slot = z.slot ∧ u.round = z.round ∧ u.signer = z.signer := by
  unfold confB keyB at h
  simp only [Bool.and_eq_true, beq_iff_eq, bne_iff_ne] at h
  obtain ⟨⟨⟨h1, ⟨⟨⟨h2, h3⟩, h4⟩, h5⟩, h6⟩, h7⟩, h8⟩ := h
  exact ⟨h1, h7, h8, h2, h3, h4, h5, h6⟩
theorem own_slot {s : Int} {l : List Vt} {v : Vt} (h : v ∈ ownF s l) : v.slot = s := by
  unfold ownF ownP at h
  rw [List.mem_filter] at h
  simp only [Bool.and_eq_true, beq_iff_eq] at h
  exact h.2.1
theorem own_sub {s : Int} {l : List Vt} {v : Vt} (h : v ∈ ownF s l) : v ∈ l := (List.mem_filter.1 h).1
theorem ocOf_some {s : Int} {v : Vt} {o : Oc} (h : ocOf s v = some o) : v.kind = 4 ∧ v.choice ≠ 2 ∧ o = ⟨s, v.round, v.choice, v.val⟩ := by
  unfold ocOf at h
  split at h
  · rename_i hc
    simp only [Bool.and_eq_true, beq_iff_eq, bne_iff_ne] at hc
    exact ⟨hc.1, hc.2, (Option.some.inj h).symm⟩
  · cases h
/-- What is known of a set of accepted votes of one slot. -/
structure AccS (m : Int) (p : Nm) (s : Int) (a : List Vt) : Prop where
  par : ∀ v ∈ a, v.par = p
  slot : ∀ v ∈ a, v.slot = s
  ok : ∀ v ∈ a, validB v = true ∧ v.kind ≤ 4 ∧ hasB m v.signer = true ∧ hasB m v.slot = true
  allow : ∀ v ∈ a, allowB m v a = true
theorem accS (m : Int) (p : Nm) (s : Int) (l : List Vt) : AccS m p s (accV m p (ownF s l)) :=
  ⟨fun v hv => (accV_mem hv).2, fun v hv => own_slot (accV_mem hv).1, fun v hv => accV_has hv, fun v hv => accV_allow hv⟩
theorem AccS.sg {m : Int} {p : Nm} {s : Int} {a : List Vt} (h : AccS m p s a) : ∀ v ∈ a, 0 ≤ v.signer ∧ v.signer < 10 := fun v hv => hasB_lt (h.ok v hv).2.2.1
theorem size_pos {m : Int} {i : Int} (h : hasB m i = true) : 1 ≤ size m := by
  rw [hasB_iff] at h
  obtain ⟨k, _, hk⟩ := h
  exact List.length_pos_of_mem hk
theorem quorum_pos {n : Nat} (h : 1 ≤ n) : 1 ≤ quorum (n : Int) := by unfold quorum; split <;> omega
theorem size_some {m : Int} (h : 1 ≤ size m) : ∃ i : Int, hasB m i = true := by
  unfold size at h
  obtain ⟨k, hk⟩ := List.exists_mem_of_length_pos (show 0 < (ids m).length by omega)
  exact ⟨k, (hasB_iff _ _).2 ⟨k, rfl, hk⟩⟩
theorem sup_sub {v m : Int} (h : bits .andNot .i64 v m = 0) {i : Nat} (hi : mb v i = true) : mb m i = true := by
  have := congrArg (fun z => mb z i) h
  simp only [mb_andNot, mb_zero, hi, Bool.true_and, Bool.not_eq_false'] at this
  exact this
end Go.Proofs.Ytphnfhonmbbddaa
