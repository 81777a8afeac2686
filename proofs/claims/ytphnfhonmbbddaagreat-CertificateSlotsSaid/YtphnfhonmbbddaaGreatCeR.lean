/- The reference: pick, mixture, needs. -/
import Derived.Test.YtphnfhonmbbddaaGreatRo
import Derived.Test.YtphnfhonmbbddaaGreatRowD
import Derived.Test.YtphnfhonmbbddaaGreatCeQ
namespace Go.Proofs.YtphnfhonmbbddaaGreat
open Go Go.RowKit
set_option linter.unusedVariables false

theorem pkO_len {α : Type} (a : List α) (F : α → Bool) : (pkO a F).length ≤ 1 := by unfold pkO; cases a.find? F <;> simp
theorem pkF_len (a : List Vt) (F : Vt → Bool) : (pkF a F).length ≤ 1 := pkO_len a F
def rpk (s k r ch : Int) (x : Nm) (u : Vt) : Bool := (((((decide (s < 0)) || (u.signer == s)) && (u.kind == k)) && (u.round == r)) && (u.choice == ch)) && (u.val == x)
theorem fm_len {G : Int → List Vt} (h : ∀ i, (G i).length ≤ 1) : ∀ (l : List Int) (j : Nat), ((l.take j).flatMap G).length ≤ j
  | [], j => by simp
  | i :: l, 0 => by simp
  | i :: l, j + 1 => by
    rw [List.take_succ_cons, List.flatMap_cons, List.length_append]
    have := h i
    have := fm_len h l j
    omega
theorem fm_add {is : List Int} {G : Int → List Vt} {j : Nat} {out : List Vt} (hj : j < is.length) (ho : out = (is.take j).flatMap G) : out ++ G is[j] = (is.take (j + 1)).flatMap G := by
  rw [List.take_succ_eq_append_getElem hj, List.flatMap_append, ho]; simp
theorem fm_fin {is : List Int} {G : Int → List Vt} {j : Nat} {out : List Vt} (ho : out = (is.take j).flatMap G) (hj : is.length ≤ j) : out = is.flatMap G := by rw [ho, List.take_of_length_le hj]
def hd0 (l : List Vt) : Vt := l.headD Vt.zero
theorem hd0_at {l : List Vt} (h : 0 < l.length) : hd0 l = l[0] := by
  cases l with
  | nil => simp at h
  | cons x l => rfl
/-- The Prevotes that a Mixed Precommit rests on, as the reference lists them. -/
def mixO (v : Vt) (a : List Vt) : List Vt := (idsI v.support).flatMap (fun i => pkF a (pvF i v.round))
def rmx (v f u : Vt) : Bool := (((hasB v.support u.signer) && (u.kind == 3)) && (u.round == v.round)) && (!(sameB f u))
def mixR (v : Vt) (a : List Vt) : List Vt := bif (mixO v a).any (fun u => !(sameB (hd0 (mixO v a)) u)) then mixO v a else (bif decide (0 < (mixO v a).length) then mixO v a ++ pkF a (rmx v (hd0 (mixO v a))) else mixO v a)
theorem mixO_len (v : Vt) (a : List Vt) : (mixO v a).length ≤ 10 := by
  have h := fm_len (G := fun i => pkF a (pvF i v.round)) (fun i => pkF_len a _) (idsI v.support) (idsI v.support).length
  rw [List.take_length] at h
  have h1 := idsI_length v.support
  have h2 := size_le v.support
  unfold mixO
  omega
theorem mixR_len (v : Vt) (a : List Vt) : (mixR v a).length ≤ 11 := by
  have h := mixO_len v a
  have h2 := pkF_len a (rmx v (hd0 (mixO v a)))
  unfold mixR
  cases (mixO v a).any (fun u => !(sameB (hd0 (mixO v a)) u)) with
  | true => simp only [cond_true]; omega
  | false =>
    simp only [cond_false]
    cases decide (0 < (mixO v a).length) with
    | true => simp only [cond_true, List.length_append]; omega
    | false => simp only [cond_false]; omega
section
variable {a out : List Vt} {v : Vt} {is : List Int} {j k : Nat}
theorem mix_yes (hj : j < is.length) (ho : out = (is.take j).flatMap (fun i => pkF a (pvF i v.round))) (h : (a.take k).any (pvF is[j] v.round) = false) (hk : k < a.length) (hF : pvF is[j] v.round a[k] = true) : out ++ [a[k]] = (is.take (j + 1)).flatMap (fun i => pkF a (pvF i v.round)) := by
  rw [← fm_add (G := fun i => pkF a (pvF i v.round)) hj ho]
  unfold pkF
  rw [(idx_hit h hk hF).2.2]; rfl
theorem mix_no (hj : j < is.length) (ho : out = (is.take j).flatMap (fun i => pkF a (pvF i v.round))) (h : a.any (pvF is[j] v.round) = false) : out = (is.take (j + 1)).flatMap (fun i => pkF a (pvF i v.round)) := by
  rw [← fm_add (G := fun i => pkF a (pvF i v.round)) hj ho]
  have := (pk_no (A := none) (c := 0) h).2.2
  have h2 : pkF a (pvF is[j] v.round) = [] := this
  simp only [h2, List.append_nil]
theorem mix_1 (out : List Vt) : (out.take 1).any (fun u => !(sameB (hd0 out) u)) = false := by
  cases out with
  | nil => rfl
  | cons x l =>
    have : sameB x x = true := (sameB_iff x x).2 ⟨rfl, rfl⟩
    simp [hd0, this]
theorem mixR_two (ho : out = mixO v a) {i : Nat} (hi : i < out.length) (h : (!(sameB (hd0 out) out[i])) = true) : out = mixR v a := by
  unfold mixR
  rw [← ho]
  have : out.any (fun u => !(sameB (hd0 out) u)) = true := List.any_eq_true.2 ⟨_, List.getElem_mem hi, h⟩
  rw [this]; rfl
theorem mixR_more (ho : out = mixO v a) (hs : out.any (fun u => !(sameB (hd0 out) u)) = false) (h : (a.take k).any (rmx v (hd0 out)) = false) (hk : k < a.length) (hF : rmx v (hd0 out) a[k] = true) (h0 : 0 < out.length) : out ++ [a[k]] = mixR v a := by
  unfold mixR
  rw [← ho, hs, cond_false]
  have : decide (0 < out.length) = true := by simpa using h0
  rw [this, cond_true]
  unfold pkF
  rw [(idx_hit h hk hF).2.2]; rfl
theorem mixR_end (ho : out = mixO v a) (hs : out.any (fun u => !(sameB (hd0 out) u)) = false) (h : (a.take k).any (rmx v (hd0 out)) = false) (hk : k ≤ a.length) (hF : ((decide ((k : Int) < (a.length : Int))) && (decide ((0 : Int) < (out.length : Int)))) = false) : out = mixR v a := by
  unfold mixR
  rw [← ho, hs, cond_false]
  cases hd : decide (0 < out.length) with
  | false => rfl
  | true =>
    have h1 : 0 < out.length := of_decide_eq_true hd
    have e1 : decide ((0 : Int) < (out.length : Int)) = true := by simp; omega
    rw [e1, Bool.and_true] at hF
    have hF' := of_decide_eq_false hF
    have ha : a.any (rmx v (hd0 out)) = false := by rw [List.take_of_length_le (by omega)] at h; exact h
    have := (pk_no (A := none) (c := 0) ha).2.2
    have h2 : pkF a (rmx v (hd0 out)) = [] := this
    rw [cond_true, h2, List.append_nil]
/-- What a later Prevote needs of one member. -/
def rG (a : List Vt) (v : Vt) (ad : Bool) (i : Int) : List Vt := bif (!ad || (((pkO a (rpk i 4 (v.round - 1) v.choice v.val)).length : Int) == 0)) then pkO a (rpk i 4 (v.round - 1) 2 Nm.zero) else pkO a (rpk i 4 (v.round - 1) v.choice v.val)
theorem rG_len (a : List Vt) (v : Vt) (ad : Bool) (i : Int) : (rG a v ad i).length ≤ 1 := by
  unfold rG
  cases (!ad || (((pkO a (rpk i 4 (v.round - 1) v.choice v.val)).length : Int) == 0)) with
  | true => exact pkO_len a _
  | false => exact pkO_len a _
theorem rG_yes {ad : Bool} (hj : j < is.length) (ho : out = (is.take j).flatMap (rG a v ad)) (h : (!ad || (((pkO a (rpk is[j] 4 (v.round - 1) v.choice v.val)).length : Int) == 0)) = true) : out ++ pkO a (rpk is[j] 4 (v.round - 1) 2 Nm.zero) = (is.take (j + 1)).flatMap (rG a v ad) := by
  rw [← fm_add hj ho]
  congr 1
  unfold rG; rw [h]; rfl
theorem rG_no {ad : Bool} (hj : j < is.length) (ho : out = (is.take j).flatMap (rG a v ad)) (h : (!ad || (((pkO a (rpk is[j] 4 (v.round - 1) v.choice v.val)).length : Int) == 0)) = false) : out ++ pkO a (rpk is[j] 4 (v.round - 1) v.choice v.val) = (is.take (j + 1)).flatMap (rG a v ad) := by
  rw [← fm_add hj ho]
  congr 1
  unfold rG; rw [h]; rfl
def rn1 (v : Vt) : Bool := (v.kind == 1) || (((v.kind == 3) && (v.round == 1)) && (v.choice == 0))
/-- What the reference says that a vote needs. -/
def rneedL (m : Int) (a : List Vt) (v : Vt) : List Vt :=
  bif rn1 v then [] else bif v.kind == 2 then pkO a (rpk (-1) 1 0 1 v.val) else bif (v.kind == 4) && (v.choice == 2) then mixR v a
  else bif (v.kind == 3) && (decide (1 < v.round)) then (bif !(adoptR m v a) then (idsI v.support).flatMap (rG a v (adoptR m v a)) ++ pkO a (rpk (-1) 3 (v.round - 1) v.choice v.val) else (idsI v.support).flatMap (rG a v (adoptR m v a)))
  else bif v.kind == 3 then (idsI v.support).flatMap (fun i => pkO a (rpk i 2 0 v.choice v.val)) else (idsI v.support).flatMap (fun i => pkO a (rpk i 3 v.round v.choice v.val))
variable {m : Int}
theorem need_end0 (h1 : rn1 v = true) : ([] : List Vt) ++ [] = rneedL m a v := by unfold rneedL; rw [h1]; rfl
theorem need_end1 (h1 : rn1 v = false) (h2 : (v.kind == 2) = true) : ([] : List Vt) ++ pkO a (rpk (-1) 1 0 1 v.val) = rneedL m a v := by unfold rneedL; rw [h1, h2]; rfl
theorem need_end2 (h1 : rn1 v = false) (h2 : (v.kind == 2) = false) (h3 : ((v.kind == 4) && (v.choice == 2)) = true) : ([] : List Vt) ++ mixR v a = rneedL m a v := by unfold rneedL; rw [h1, h2, h3]; rfl
theorem need_end3 (ho : out = (idsI v.support).flatMap (rG a v (adoptR m v a))) (h1 : rn1 v = false) (h2 : (v.kind == 2) = false) (h3 : ((v.kind == 4) && (v.choice == 2)) = false) (h4 : ((v.kind == 3) && (decide (1 < v.round))) = true) (h5 : (!(adoptR m v a)) = true) : ([] : List Vt) ++ (out ++ pkO a (rpk (-1) 3 (v.round - 1) v.choice v.val)) = rneedL m a v := by unfold rneedL; rw [h1, h2, h3, h4, h5, ho]; rfl
theorem need_end4 (ho : out = (idsI v.support).flatMap (rG a v (adoptR m v a))) (h1 : rn1 v = false) (h2 : (v.kind == 2) = false) (h3 : ((v.kind == 4) && (v.choice == 2)) = false) (h4 : ((v.kind == 3) && (decide (1 < v.round))) = true) (h5 : (!(adoptR m v a)) = false) : ([] : List Vt) ++ out = rneedL m a v := by unfold rneedL; rw [h1, h2, h3, h4, h5, ho]; rfl
theorem need_end5 (ho : out = (idsI v.support).flatMap (fun i => pkO a (rpk i 2 0 v.choice v.val))) (h1 : rn1 v = false) (h2 : (v.kind == 2) = false) (h3 : ((v.kind == 4) && (v.choice == 2)) = false) (h4 : ((v.kind == 3) && (decide (1 < v.round))) = false) (h5 : (v.kind == 3) = true) : ([] : List Vt) ++ out = rneedL m a v := by unfold rneedL; rw [h1, h2, h3, h4, h5, ho]; rfl
theorem need_end6 (ho : out = (idsI v.support).flatMap (fun i => pkO a (rpk i 3 v.round v.choice v.val))) (h1 : rn1 v = false) (h2 : (v.kind == 2) = false) (h3 : ((v.kind == 4) && (v.choice == 2)) = false) (h4 : ((v.kind == 3) && (decide (1 < v.round))) = false) (h5 : (v.kind == 3) = false) : ([] : List Vt) ++ out = rneedL m a v := by unfold rneedL; rw [h1, h2, h3, h4, h5, ho]; rfl
end
set_option maxRecDepth 100000 in
set_option maxHeartbeats 2000000 in
theorem pick_c (a : List Vt) (s k r ch : Int) (x : Nm) (A : Option Addr) (c : Nat) (w : World) (hl : a.length ≤ 1000) (hc : a.length ≤ c) (hr : Rd w A a) : Calls Tryz.prog 31 #[.slice A a.length c, .int .i64 s, .int .i64 k, .int .i64 r, .int .i64 ch, .agg x.cs] w (fun rr w' => rr = .returned (.slice (pkA A c a (rpk s k r ch x)) (pkO a (rpk s k r ch x)).length (pkC c a (rpk s k r ch x))) ∧ Below w.heap.size w w') := by
 refine calls_W (n := 62) Tryz.func31 rfl [(0, .slice A a.length c), (1, .int .i64 s), (2, .int .i64 k), (3, .int .i64 r), (4, .int .i64 ch), (5, .agg x.cs)] rfl ⟨by kernel_rfl, by kernel_rfl⟩ (W.weak (Ψ := St w []) (fun w' h => by rw [h]; exact St.start w) (W.seq (W.rg od2 (T.bx 11 24 (.agg x.cs) (x.cs) tv3 (fun b1 => T.pu 12 (.slice none 0 0) (T.nil (QN.seq (W.seq (W.seq (W.rg od1 (T.pi 13 0 (T.nil (QN.seq (W.block (W.loop (σ := Nat) (fun gs => gs ≤ a.length ∧ (a.take gs).any (rpk s k r ch x) = false) (fun gs => [(0, .slice A a.length c), (1, .int .i64 s), (2, .int .i64 k), (3, .int .i64 r), (4, .int .i64 ch), (11, .pointer (some ⟨b1, 0, none⟩)), (13, .int .i64 gs)]) (fun gs => St w [(b1, Obj.cells x.cs 24 (0, 0))]) (fun gs => a.length - gs) 0 ?_ (by kernel_rfl) (fun w h => h) ?_)))))))))))))))
 ·
  try dsimp only
  exact ⟨Nat.zero_le _, any_zero _ _⟩
 rintro j hI_
 obtain ⟨hj, hany⟩ : j ≤ a.length ∧ (a.take j).any (rpk s k r ch x) = false := hI_
 refine W.seq (W.seq (W.rg od4 (T.pi 15 j (T.pu 16 (.slice A a.length c) (T.pi 17 ((a.length : Nat) : Int) (T.pb 18 (decide ((j : Int) < ((a.length : Nat) : Int))) (T.nil (QN.seq (W.cd (decide ((j : Int) < ((a.length : Nat) : Int))) (fun h2 => ?_) (fun h2 => ?_))))))))))
 ·
  have h2' := of_decide_eq_true h2
  have hl3 : j < a.length := by omega
  refine W.skip (QN.seq (W.seq (W.block (W.seq (W.rg od6 (T.pu 21 (.slice A a.length c) (T.pi 22 j ?_)))))))
  obtain ⟨b4, o5, hA6, hr7⟩ := (Rd.arr hr _) j hl3
  refine T.ix 23 25 43 22 A a.length c (j : Int) j b4 o5 hA6 rfl (by omega) (T.lr false 24 (a[j]'hl3).cs 43 b4 (o5 + j * 22) hr7 (T.al 14 43 Vt.zero.cs tv3 (fun b8 => T.sp 43 b8 0 (.agg (a[j]'hl3).cs) Vt.zero.cs (a[j]'hl3).cs 43 pm0 tv2 (T.nil (QN.seq (W.seq (W.rg [(0, false), (1, false), (2, false), (3, false), (4, false), (5, false), (6, false), (7, false), (8, false), (9, false), (10, false), (11, false), (12, false), (13, false), (14, false), (15, false), (16, false), (17, false), (18, false), (19, false), (20, false), (21, false), (22, false), (23, false), (24, false), (25, false), (26, false), (27, false), (28, false), (29, false), (30, false), (31, false)] (T.pi 25 s (T.pb 26 (decide (s < 0)) (T.pb 27 (decide (s < 0)) (T.bk [(3, false), (4, false), (5, false), (6, false)] [(7, false), (8, false), (9, false), (10, false), (11, false), (12, false), (13, false), (14, false), (15, false), (16, false), (17, false), (18, false), (19, false), (20, false), (21, false), (22, false), (23, false), (24, false), (25, false), (26, false), (27, false), (28, false), (29, false), (30, false), (31, false)] 2 false (decide (s < 0)) 27 31 (.bool (((a[j]'hl3).signer) == s)) (fun hg9 => ?_) ?_)))))))))))
  ·
   have hg9_ := hg9
   have hg9' := of_decide_eq_false hg9
   refine T.pu 28 (.pointer (some ⟨b8, 4, none⟩)) (T.ld false 29 (.int .i64 ((a[j]'hl3).signer)) 3 b8 4 (fun w h => St.cellM h mm0 (by kernel_rfl)) (T.pi 30 s (T.pb 31 (((a[j]'hl3).signer) == s) ?_)))
   exact T.blkEnd (by kernel_rfl) (fun w h => h)
  refine T.oo 32 (decide (s < 0)) (((a[j]'hl3).signer) == s) (T.pb 33 ((decide (s < 0)) || (((a[j]'hl3).signer) == s)) (T.bk [(9, false), (10, false), (11, false), (12, false)] [(13, false), (14, false), (15, false), (16, false), (17, false), (18, false), (19, false), (20, false), (21, false), (22, false), (23, false), (24, false), (25, false), (26, false), (27, false), (28, false), (29, false), (30, false), (31, false)] 8 true ((decide (s < 0)) || (((a[j]'hl3).signer) == s)) 33 37 (.bool (((a[j]'hl3).kind) == k)) (fun hg10 => ?_) ?_))
  ·
   have hg10_ := hg10
   refine T.pu 34 (.pointer (some ⟨b8, 0, none⟩)) (T.ld false 35 (.int .i64 ((a[j]'hl3).kind)) 3 b8 0 (fun w h => St.cellM h mm0 (by kernel_rfl)) (T.pi 36 k (T.pb 37 (((a[j]'hl3).kind) == k) ?_)))
   exact T.blkEnd (by kernel_rfl) (fun w h => h)
  refine T.an 38 ((decide (s < 0)) || (((a[j]'hl3).signer) == s)) (((a[j]'hl3).kind) == k) (T.pb 39 (((decide (s < 0)) || (((a[j]'hl3).signer) == s)) && (((a[j]'hl3).kind) == k)) (T.bk [(15, false), (16, false), (17, false), (18, false)] [(19, false), (20, false), (21, false), (22, false), (23, false), (24, false), (25, false), (26, false), (27, false), (28, false), (29, false), (30, false), (31, false)] 14 true (((decide (s < 0)) || (((a[j]'hl3).signer) == s)) && (((a[j]'hl3).kind) == k)) 39 43 (.bool (((a[j]'hl3).round) == r)) (fun hg11 => ?_) ?_))
  ·
   have hg11_ := hg11
   have hg11l := (Bool.and_eq_true_iff.1 hg11).1
   have hg11r := (Bool.and_eq_true_iff.1 hg11).2
   refine T.pu 40 (.pointer (some ⟨b8, 2, none⟩)) (T.ld false 41 (.int .i64 ((a[j]'hl3).round)) 3 b8 2 (fun w h => St.cellM h mm0 (by kernel_rfl)) (T.pi 42 r (T.pb 43 (((a[j]'hl3).round) == r) ?_)))
   exact T.blkEnd (by kernel_rfl) (fun w h => h)
  refine T.an 44 (((decide (s < 0)) || (((a[j]'hl3).signer) == s)) && (((a[j]'hl3).kind) == k)) (((a[j]'hl3).round) == r) (T.pb 45 ((((decide (s < 0)) || (((a[j]'hl3).signer) == s)) && (((a[j]'hl3).kind) == k)) && (((a[j]'hl3).round) == r)) (T.bk [(21, false), (22, false), (23, false), (24, false)] [(25, false), (26, false), (27, false), (28, false), (29, false), (30, false), (31, false)] 20 true ((((decide (s < 0)) || (((a[j]'hl3).signer) == s)) && (((a[j]'hl3).kind) == k)) && (((a[j]'hl3).round) == r)) 45 49 (.bool (((a[j]'hl3).choice) == ch)) (fun hg12 => ?_) ?_))
  ·
   have hg12_ := hg12
   have hg12l := (Bool.and_eq_true_iff.1 hg12).1
   have hg12r := (Bool.and_eq_true_iff.1 hg12).2
   have hg12ll := (Bool.and_eq_true_iff.1 hg12l).1
   have hg12lr := (Bool.and_eq_true_iff.1 hg12l).2
   refine T.pu 46 (.pointer (some ⟨b8, 3, none⟩)) (T.ld false 47 (.int .i64 ((a[j]'hl3).choice)) 3 b8 3 (fun w h => St.cellM h mm0 (by kernel_rfl)) (T.pi 48 ch (T.pb 49 (((a[j]'hl3).choice) == ch) ?_)))
   exact T.blkEnd (by kernel_rfl) (fun w h => h)
  refine T.an 50 ((((decide (s < 0)) || (((a[j]'hl3).signer) == s)) && (((a[j]'hl3).kind) == k)) && (((a[j]'hl3).round) == r)) (((a[j]'hl3).choice) == ch) (T.pb 51 (((((decide (s < 0)) || (((a[j]'hl3).signer) == s)) && (((a[j]'hl3).kind) == k)) && (((a[j]'hl3).round) == r)) && (((a[j]'hl3).choice) == ch)) (T.bk [(27, false), (28, false), (29, false), (30, false)] [(31, false)] 26 true (((((decide (s < 0)) || (((a[j]'hl3).signer) == s)) && (((a[j]'hl3).kind) == k)) && (((a[j]'hl3).round) == r)) && (((a[j]'hl3).choice) == ch)) 51 55 (.bool (((a[j]'hl3).val) == x)) (fun hg13 => ?_) ?_))
  ·
   have hg13_ := hg13
   have hg13l := (Bool.and_eq_true_iff.1 hg13).1
   have hg13r := (Bool.and_eq_true_iff.1 hg13).2
   have hg13ll := (Bool.and_eq_true_iff.1 hg13l).1
   have hg13lr := (Bool.and_eq_true_iff.1 hg13l).2
   have hg13lll := (Bool.and_eq_true_iff.1 hg13ll).1
   have hg13llr := (Bool.and_eq_true_iff.1 hg13ll).2
   refine T.pu 52 (.pointer (some ⟨b8, 14, none⟩)) (T.lr false 53 ((a[j]'hl3).val).cs 24 b8 14 (fun w h => St.rangeM h ((a[j]'hl3).val).cs mm0 (by kernel_rfl)) (T.lr false 54 x.cs 24 b1 0 (fun w h => St.rangeM h x.cs mm1 (by kernel_rfl)) (T.eqq 55 (((a[j]'hl3).val) == x) (((a[j]'hl3).val) == x) false 24 ((a[j]'hl3).val).cs x.cs (by kernel_rfl) (by kernel_rfl) (by kernel_rfl) (by kernel_rfl) (fun w => eq_nm w ((a[j]'hl3).val) x) ?_)))
   exact T.blkEnd (by kernel_rfl) (fun w h => h)
  refine T.an 56 (((((decide (s < 0)) || (((a[j]'hl3).signer) == s)) && (((a[j]'hl3).kind) == k)) && (((a[j]'hl3).round) == r)) && (((a[j]'hl3).choice) == ch)) (((a[j]'hl3).val) == x) (T.nil (QN.seq (W.cd ((((((decide (s < 0)) || (((a[j]'hl3).signer) == s)) && (((a[j]'hl3).kind) == k)) && (((a[j]'hl3).round) == r)) && (((a[j]'hl3).choice) == ch)) && (((a[j]'hl3).val) == x)) (fun h14 => ?_) (fun h14 => ?_))))
  ·
   have h14l := (Bool.and_eq_true_iff.1 h14).1
   have h14r := (Bool.and_eq_true_iff.1 h14).2
   have h14ll := (Bool.and_eq_true_iff.1 h14l).1
   have h14lr := (Bool.and_eq_true_iff.1 h14l).2
   have h14lll := (Bool.and_eq_true_iff.1 h14ll).1
   have h14llr := (Bool.and_eq_true_iff.1 h14ll).2
   have h14llll := (Bool.and_eq_true_iff.1 h14lll).1
   have h14lllr := (Bool.and_eq_true_iff.1 h14lll).2
   refine W.seq (W.rg od6 (T.pu 57 (.slice A a.length c) (T.pi 58 j (T.pi 59 j (T.pw 60 ((j : Int) + 1) (T.sliceBoth 61 25 43 22 A a.length c (j : Int) ((j : Int) + 1) j (j + 1) 1 (by kernel_rfl) (by kernel_rfl) (by kernel_rfl) (by kernel_rfl) rfl (by omega) (by omega) (by omega) (by omega) (T.pu 12 (.slice (offA A c j 22) 1 (c - j)) (T.nil (QN.seq (W.ret (QN.blkRet (QN.thenRet (QN.thenRet (QN.blkRet (QN.thenRet (QN.done (.inl rfl) 12 (.slice (offA A c j 22) 1 (c - j)) rfl (by kernel_rfl) (fun w hw => ⟨?_, hw.below⟩)))))))))))))))))
   exact (by have hp := pk_hit (A := A) (c := c) (F := rpk s k r ch x) hany (by omega) h14; rw [hp.1, hp.2.1, hp.2.2]; rfl)
  ·
   refine W.skip (QN.blkNormal (QN.seq (W.rg od3 (T.pi 19 j (T.pw 20 ((j : Int) + 1) (T.pi 13 ((j : Int) + 1) (T.nil (QN.back (j + 1) ?_ ?_ (by kernel_rfl) (fun w h => (h.perm pm1).part ns1)))))))))
   ·
    try dsimp only
    exact ⟨by omega, any_step hany (by omega) h14⟩
   · show a.length - (j + 1) < a.length - j; omega
 ·
  have h2' := of_decide_eq_false h2
  refine W.exit (QN.thenExit (QN.thenExit (QN.blkHit (QN.seq (W.seq (W.rg od1 (T.pu 12 (.slice none 0 0) (T.nil (QN.seq (W.ret (QN.done (.inl rfl) 12 (.slice none 0 0) rfl (by kernel_rfl) (fun w hw => ⟨?_, hw.below⟩))))))))))))
  exact (by have hp := pk_no (A := A) (c := c) (F := rpk s k r ch x) (any_end hany (by omega)); rw [hp.1, hp.2.1, hp.2.2]; rfl)
set_option maxRecDepth 100000 in
set_option maxHeartbeats 2000000 in
theorem mixture_c (v : Vt) (a : List Vt) (A : Option Addr) (c : Nat) (w : World) (hvs : W64 v.support) (ha : a.length ≤ 1000) (hr : Rd w A a) : Calls Tryz.prog 55 #[.agg v.cs, .slice A a.length c] w (fun rr w' => ∃ A c Hr, rr = .returned (.slice A (mixR v a).length c) ∧ RowIs 43 22 A (mixR v a).length c (cells (mixR v a)) Hr ∧ St w Hr w') := by
 have hil := idsI_length v.support
 have hsz := size_le v.support
 refine calls_W (n := 133) Tryz.func55 rfl [(0, .agg v.cs), (1, .slice A a.length c)] rfl ⟨by kernel_rfl, by kernel_rfl⟩ (W.weak (Ψ := St w []) (fun w' h => by rw [h]; exact St.start w) (W.seq (W.rg od2 (T.bx 2 43 (.agg v.cs) (v.cs) tv3 (fun b1 => T.pu 4 (.slice none 0 0) (T.nil (QN.seq (W.seq (W.rg od1 (T.pu 5 (.slice none 0 0) (T.nil (QN.seq (W.seq (W.rg od4 (T.pu 11 (.pointer (some ⟨b1, 5, none⟩)) (T.ld false 12 (.int .i64 v.support) 22 b1 5 (fun w h => St.cellM h mm0 (by kernel_rfl)) (T.callR 13 26 #[.int .i64 v.support] 3 1 (idsI v.support).length (cells (idsI v.support)) (by kernel_rfl) (by kernel_rfl) ent26 (fun w hw => rids_r _ (by first | assumption | exact w64_and _ _ | exact w64_or _ _ | exact w64_andNot _ _ | exact w64_rwho _ _ _ _ | (unfold W64; omega)) w) tv3 (fun A2 c3 Hr4 hrow5 => T.pu 6 (.slice A2 ((idsI v.support).length) c3) (T.nil (QN.seq (W.seq (W.seq (W.rg od1 (T.pi 7 0 (T.nil (QN.seq (W.block (W.loop (σ := Nat × List Vt × Option Addr × Nat × List (Nat × Obj)) (fun gs => gs.1 ≤ (idsI v.support).length ∧ gs.2.1 = ((idsI v.support).take gs.1).flatMap (fun i => pkF a (pvF i v.round)) ∧ RowIs 43 22 gs.2.2.1 gs.2.1.length gs.2.2.2.1 (cells gs.2.1) gs.2.2.2.2) (fun gs => [(1, .slice A a.length c), (2, .pointer (some ⟨b1, 0, none⟩)), (4, .slice none 0 0), (5, .slice gs.2.2.1 gs.2.1.length gs.2.2.2.1), (6, .slice A2 ((idsI v.support).length) c3), (7, .int .i64 (gs.1 : Int))]) (fun gs => St w (gs.2.2.2.2 ++ (Hr4 ++ [(b1, Obj.cells v.cs 43 (0, 0))]))) (fun gs => (idsI v.support).length - gs.1) (0, [], none, 0, []) ?_ (by kernel_rfl) (fun w h => h) ?_))))))))))))))))))))))))))))
 ·
  try dsimp only
  exact ⟨Nat.zero_le _, rfl, RowIs.nil⟩
 rintro ⟨j, out, Ao, co, Hro⟩ hI_
 obtain ⟨hj, hout, hrowo⟩ : j ≤ (idsI v.support).length ∧ out = ((idsI v.support).take j).flatMap (fun i => pkF a (pvF i v.round)) ∧ RowIs 43 22 Ao out.length co (cells out) Hro := hI_
 have hol : out.length ≤ j := by rw [hout]; exact fm_len (fun i => pkF_len a _) _ _
 refine W.seq (W.seq (W.rg od4 (T.pi 14 j (T.pu 15 (.slice A2 ((idsI v.support).length) c3) (T.pi 16 (((idsI v.support).length : Nat) : Int) (T.pb 17 (decide ((j : Int) < (((idsI v.support).length : Nat) : Int))) (T.nil (QN.seq (W.cd (decide ((j : Int) < (((idsI v.support).length : Nat) : Int))) (fun h6 => ?_) (fun h6 => ?_))))))))))
 ·
  have h6' := of_decide_eq_true h6
  have hl7 : j < (idsI v.support).length := by omega
  refine W.skip (QN.seq (W.seq (W.block (W.seq (W.rg od1 (T.pi 8 0 (T.nil (QN.seq (W.block (W.loop (σ := Nat) (fun gs => gs ≤ a.length ∧ (a.take gs).any (pvF ((idsI v.support)[j]'hl7) v.round) = false) (fun gs => [(1, .slice A a.length c), (2, .pointer (some ⟨b1, 0, none⟩)), (4, .slice none 0 0), (5, .slice Ao out.length co), (6, .slice A2 ((idsI v.support).length) c3), (7, .int .i64 j), (8, .int .i64 gs), (14, .int .i64 j), (15, .slice A2 ((idsI v.support).length) c3), (16, .int .i64 (((idsI v.support).length : Nat) : Int)), (17, .bool (decide ((j : Int) < (((idsI v.support).length : Nat) : Int))))]) (fun gs => St w (Hro ++ (Hr4 ++ [(b1, Obj.cells v.cs 43 (0, 0))]))) (fun gs => a.length - gs) 0 ?_ (by kernel_rfl) (fun w h => h) ?_))))))))))
  ·
   try dsimp only
   exact ⟨Nat.zero_le _, any_zero _ _⟩
  rintro k2 hI_
  obtain ⟨hk2, hany⟩ : k2 ≤ a.length ∧ (a.take k2).any (pvF ((idsI v.support)[j]'hl7) v.round) = false := hI_
  refine W.seq (W.seq (W.rg od4 (T.pi 20 k2 (T.pu 21 (.slice A a.length c) (T.pi 22 ((a.length : Nat) : Int) (T.pb 23 (decide ((k2 : Int) < ((a.length : Nat) : Int))) (T.nil (QN.seq (W.cd (decide ((k2 : Int) < ((a.length : Nat) : Int))) (fun h8 => ?_) (fun h8 => ?_))))))))))
  ·
   have h8' := of_decide_eq_true h8
   have hl9 : k2 < a.length := by omega
   refine W.skip (QN.seq (W.seq (W.block (W.seq (W.drawn (Ψ := St w (Hro ++ (Hr4 ++ [(b1, Obj.cells v.cs 43 (0, 0))]))) (St w (Hro ++ (Hr4 ++ [(b1, Obj.cells v.cs 43 (0, 0))]))) [(0, true), (1, true), (2, true), (3, true), (4, true), (5, true), (6, true), (7, true), (8, true), (9, true), (10, true), (11, true), (12, true), (13, true), (14, true), (15, true), (16, true), (17, true), (18, true), (19, true), (20, true), (21, true), (22, true), (23, true), (24, true), (25, true), (26, true), (27, true)] hmx (by kernel_rfl) (NoPanic.then (NoPanic.inBlock (NoPanic.then (NoPanic.then (NoPanic.inBlock (NoPanic.inBlock (NoPanic.then (NoPanic.then (NoPanic.inBlock (NoPanic.then NoPanic.body)))))))))) (fun w h => h.drew) (fun w h => h) (T.pu 26 (.slice A a.length c) (T.pi 27 k2 ?_)))))))
   obtain ⟨b10, o11, hA12, hr13⟩ := (Rd.arr hr _) k2 hl9
   refine T.ix 28 25 43 22 A a.length c (k2 : Int) k2 b10 o11 hA12 rfl (by omega) (T.pu 29 (.pointer (some ⟨b10, o11 + k2 * 22 + 4, none⟩)) (T.ld true 30 (.int .i64 ((a[k2]'hl9).signer)) 3 b10 (o11 + k2 * 22 + 4) (fun w h => cell_of_range (hr13 w h) 4 (by kernel_rfl)) (T.pu 31 (.slice A2 ((idsI v.support).length) c3) (T.pi 32 j ?_))))
   obtain ⟨b14, o15, hA16, hr17⟩ := (show Arr (St _ (Hro ++ (Hr4 ++ [(b1, Obj.cells v.cs 43 (0, 0))]))) A2 (idsI v.support) from (Arr.row hrow5 rfl rfl (Hro ++ [(b1, Obj.cells v.cs 43 (0, 0))])).weak (fun w h => h.perm ((pm0.append_left Hro).trans (List.perm_append_comm_assoc _ _ _)))) j hl7
   refine T.ix 33 44 3 1 A2 ((idsI v.support).length) c3 (j : Int) j b14 o15 hA16 rfl (by omega) (T.ld true 34 (.int .i64 ((idsI v.support)[j]'hl7)) 3 b14 (o15 + j * 1) (fun w h => cell_of_range (hr17 w h) 0 (by kernel_rfl)) (T.pb 35 (((a[k2]'hl9).signer) == ((idsI v.support)[j]'hl7)) (T.pb 36 (((a[k2]'hl9).signer) == ((idsI v.support)[j]'hl7)) (T.bk [(11, true), (12, true), (13, true), (14, true), (15, true), (16, true)] [(17, true), (18, true), (19, true), (20, true), (21, true), (22, true), (23, true), (24, true), (25, true), (26, true), (27, true)] 10 true (((a[k2]'hl9).signer) == ((idsI v.support)[j]'hl7)) 36 42 (.bool (((a[k2]'hl9).kind) == 3)) (fun hg18 => ?_) ?_))))
   ·
    have hg18_ := hg18
    refine T.pu 37 (.slice A a.length c) (T.pi 38 k2 ?_)
    obtain ⟨b19, o20, hA21, hr22⟩ := (Rd.arr hr _) k2 hl9
    refine T.ix 39 25 43 22 A a.length c (k2 : Int) k2 b19 o20 hA21 rfl (by omega) (T.pu 40 (.pointer (some ⟨b19, o20 + k2 * 22, none⟩)) (T.ld true 41 (.int .i64 ((a[k2]'hl9).kind)) 3 b19 (o20 + k2 * 22) (fun w h => cell_of_range (hr22 w h) 0 (by kernel_rfl)) (T.pb 42 (((a[k2]'hl9).kind) == 3) ?_)))
    exact T.blkEnd (by kernel_rfl) (fun w h => h)
   refine T.an 43 (((a[k2]'hl9).signer) == ((idsI v.support)[j]'hl7)) (((a[k2]'hl9).kind) == 3) (T.pb 44 ((((a[k2]'hl9).signer) == ((idsI v.support)[j]'hl7)) && (((a[k2]'hl9).kind) == 3)) (T.bk [(19, true), (20, true), (21, true), (22, true), (23, true), (24, true), (25, true), (26, true)] [(27, true)] 18 true ((((a[k2]'hl9).signer) == ((idsI v.support)[j]'hl7)) && (((a[k2]'hl9).kind) == 3)) 44 52 (.bool (((a[k2]'hl9).round) == v.round)) (fun hg23 => ?_) ?_))
   ·
    have hg23_ := hg23
    have hg23l := (Bool.and_eq_true_iff.1 hg23).1
    have hg23r := (Bool.and_eq_true_iff.1 hg23).2
    refine T.pu 45 (.slice A a.length c) (T.pi 46 k2 ?_)
    obtain ⟨b24, o25, hA26, hr27⟩ := (Rd.arr hr _) k2 hl9
    refine T.ix 47 25 43 22 A a.length c (k2 : Int) k2 b24 o25 hA26 rfl (by omega) (T.pu 48 (.pointer (some ⟨b24, o25 + k2 * 22 + 2, none⟩)) (T.ld true 49 (.int .i64 ((a[k2]'hl9).round)) 3 b24 (o25 + k2 * 22 + 2) (fun w h => cell_of_range (hr27 w h) 2 (by kernel_rfl)) (T.pu 50 (.pointer (some ⟨b1, 2, none⟩)) (T.ld true 51 (.int .i64 v.round) 3 b1 2 (fun w h => St.cellM h (List.mem_append_right _ (List.mem_append_right _ mm0)) (by kernel_rfl)) (T.pb 52 (((a[k2]'hl9).round) == v.round) ?_)))))
    exact T.blkEnd (by kernel_rfl) (fun w h => h)
   refine T.an 53 ((((a[k2]'hl9).signer) == ((idsI v.support)[j]'hl7)) && (((a[k2]'hl9).kind) == 3)) (((a[k2]'hl9).round) == v.round) (T.nil (QN.seq (W.cd (((((a[k2]'hl9).signer) == ((idsI v.support)[j]'hl7)) && (((a[k2]'hl9).kind) == 3)) && (((a[k2]'hl9).round) == v.round)) (fun h28 => ?_) (fun h28 => ?_))))
   ·
    have h28l := (Bool.and_eq_true_iff.1 h28).1
    have h28r := (Bool.and_eq_true_iff.1 h28).2
    have h28ll := (Bool.and_eq_true_iff.1 h28l).1
    have h28lr := (Bool.and_eq_true_iff.1 h28l).2
    refine W.seq (W.rg od8 (T.pu 54 (.slice Ao out.length co) (T.pu 55 (.slice A a.length c) (T.pi 56 k2 ?_))))
    obtain ⟨b29, o30, hA31, hr32⟩ := (Rd.arr hr _) k2 hl9
    refine T.ix 57 25 43 22 A a.length c (k2 : Int) k2 b29 o30 hA31 rfl (by omega) (T.lr false 58 (a[k2]'hl9).cs 43 b29 (o30 + k2 * 22) hr32 (T.lit 59 25 43 1 #[(0, .agg (a[k2]'hl9).cs)] (cells ([(a[k2]'hl9)] : List Vt)).toArray (by kernel_rfl) (by kernel_rfl) (by kernel_rfl) (by kernel_rfl) tv3 (fun b33 => T.appC 60 25 43 64 Ao co (out : List Vt) Hro b33 0 1 ([(a[k2]'hl9)] : List Vt) ((pm0.cons _).trans List.perm_middle.symm) (by kernel_rfl) (by kernel_rfl) (by kernel_rfl) (by kernel_rfl) hrowo (fun w h => St.rangeM h (cells ([(a[k2]'hl9)] : List Vt)).toArray (List.mem_append_right _ mm0) (by kernel_rfl)) (by unfold maxLen; first | omega | (simp; omega)) (by first | omega | (simp; omega)) tv3 (fun A34 c35 Hr36 hrow37 => T.pu 5 (.slice A34 ((out ++ ([(a[k2]'hl9)])).length) c35) (T.nil (QN.seq (W.exit (QN.blkMiss (by decide) (QN.thenExit (QN.thenExit (QN.blkHit (QN.blkNormal (QN.seq (W.rg od3 (T.pi 18 j (T.pw 19 ((j : Int) + 1) (T.pi 7 ((j : Int) + 1) (T.nil (QN.back (j + 1, out ++ ([(a[k2]'hl9)]), A34, c35, Hr36) ?_ ?_ (by kernel_rfl) (fun w h => (h.perm (pm0.trans ((((pm0.cons _).trans List.perm_middle.symm).trans (pm1.append_left Hr4)).append_left Hr36))).part (List.Sublist.append (List.Sublist.refl _) (List.Sublist.append (List.Sublist.refl _) ns1))))))))))))))))))))))
    ·
     try dsimp only
     exact ⟨by omega, mix_yes (by omega) hout hany (by omega) h28, hrow37⟩
    · show (idsI v.support).length - _ < (idsI v.support).length - _; omega
   ·
    refine W.skip (QN.blkNormal (QN.seq (W.rg od3 (T.pi 24 k2 (T.pw 25 ((k2 : Int) + 1) (T.pi 8 ((k2 : Int) + 1) (T.nil (QN.back (k2 + 1) ?_ ?_ (by kernel_rfl) (fun w h => h)))))))))
    ·
     try dsimp only
     exact ⟨by omega, any_step hany (by omega) h28⟩
    · show a.length - (k2 + 1) < a.length - k2; omega
  ·
   have h8' := of_decide_eq_false h8
   refine W.exit (QN.thenExit (QN.thenExit (QN.blkHit (QN.blkNormal (QN.seq (W.rg od3 (T.pi 18 j (T.pw 19 ((j : Int) + 1) (T.pi 7 ((j : Int) + 1) (T.nil (QN.back (j + 1, out, Ao, co, Hro) ?_ ?_ (by kernel_rfl) (fun w h => h))))))))))))
   ·
    try dsimp only
    exact ⟨by omega, mix_no (by omega) hout (any_end hany (by omega)), hrowo⟩
   · show (idsI v.support).length - _ < (idsI v.support).length - _; omega
 ·
  have h6' := of_decide_eq_false h6
  refine W.exit (QN.thenExit (QN.thenExit (QN.blkHit (QN.seq (W.seq (W.seq (W.rg od1 (T.pi 9 1 (T.nil (QN.seq (W.block ?_)))))))))))
  have hoq : out = mixO v a := by rw [hout, take_end (by omega)]; rfl
  refine W.loop (σ := Nat) (fun gs => 1 ≤ gs ∧ (out.take gs).any (fun u => !(sameB (hd0 out) u)) = false) (fun gs => [(1, .slice A a.length c), (2, .pointer (some ⟨b1, 0, none⟩)), (5, .slice Ao out.length co), (9, .int .i64 gs)]) (fun gs => St w (Hro ++ (Hr4 ++ [(b1, Obj.cells v.cs 43 (0, 0))]))) (fun gs => out.length - gs) 1 ?_ (by kernel_rfl) (fun w h => h) ?_
  ·
   try dsimp only
   exact ⟨Nat.le_refl _, mix_1 out⟩
  rintro i hI_
  obtain ⟨hi, hsm⟩ : 1 ≤ i ∧ (out.take i).any (fun u => !(sameB (hd0 out) u)) = false := hI_
  refine W.seq (W.seq (W.rg od4 (T.pi 61 i (T.pu 62 (.slice Ao out.length co) (T.pi 63 ((out.length : Nat) : Int) (T.pb 64 (decide ((i : Int) < ((out.length : Nat) : Int))) (T.nil (QN.seq (W.cd (decide ((i : Int) < ((out.length : Nat) : Int))) (fun h38 => ?_) (fun h38 => ?_))))))))))
  ·
   have h38' := of_decide_eq_true h38
   have hl39 : i < out.length := by omega
   refine W.skip (QN.seq (W.seq (W.block (W.seq (W.drawn (Ψ := St w (Hro ++ (Hr4 ++ [(b1, Obj.cells v.cs 43 (0, 0))]))) (St w (Hro ++ (Hr4 ++ [(b1, Obj.cells v.cs 43 (0, 0))]))) [(0, true), (1, true), (2, true), (3, true), (4, true), (5, true), (6, true), (7, false), (8, true)] hmx (by kernel_rfl) (NoPanic.then (NoPanic.inBlock (NoPanic.then (NoPanic.then (NoPanic.inBlock (NoPanic.then NoPanic.body)))))) (fun w h => h.drew) (fun w h => h) (T.pu 67 (.slice Ao out.length co) ?_))))))
   have hl44 : 0 < out.length := by omega
   obtain ⟨b40, o41, hA42, hr43⟩ := (Arr.row hrowo rfl rfl _) 0 hl44
   refine T.ix 68 25 43 22 Ao out.length co 0 0 b40 o41 hA42 (by omega) (by omega) (T.lr true 69 (out[0]'hl44).cs 43 b40 (o41 + 0 * 22) hr43 (T.pu 70 (.slice Ao out.length co) (T.pi 71 i ?_)))
   obtain ⟨b45, o46, hA47, hr48⟩ := (Arr.row hrowo rfl rfl _) i hl39
   refine T.ix 72 25 43 22 Ao out.length co (i : Int) i b45 o46 hA47 rfl (by omega) (T.lr true 73 (out[i]'hl39).cs 43 b45 (o46 + i * 22) hr48 (T.cp 74 104 #[.agg (out[0]'hl44).cs, .agg (out[i]'hl39).cs] (.bool (sameB (out[0]'hl44) (out[i]'hl39))) ent104 (fun w hw => rlike_c _ _ w) (fun w h => h) (T.pb 75 (!(sameB (out[0]'hl44) (out[i]'hl39))) (T.nil (QN.seq (W.cd (!(sameB (out[0]'hl44) (out[i]'hl39))) (fun h49 => ?_) (fun h49 => ?_)))))))
   ·
    have h49n := not_eq_true h49
    refine W.seq (W.rg od2 (T.pu 76 (.slice Ao out.length co) (T.pu 4 (.slice Ao out.length co) (T.nil (QN.seq (W.ret (QN.blkRet (QN.thenRet (QN.thenRet (QN.blkRet (QN.thenRet (QN.done (.inl rfl) 4 (.slice Ao out.length co) rfl (by kernel_rfl) (fun w hw => ?_)))))))))))))
    exact (have e1 : out = mixR v a := mixR_two (i := i) hoq (by omega) (by rw [← hd0_at (l := out) (by omega)] at h49; exact h49); by rw [← e1]; exact ⟨Ao, co, Hro, rfl, hrowo, hw.part (List.sublist_append_left _ _)⟩)
   ·
    have h49n := not_eq_false h49
    refine W.skip (QN.blkNormal (QN.seq (W.rg od3 (T.pi 65 i (T.pw 66 ((i : Int) + 1) (T.pi 9 ((i : Int) + 1) (T.nil (QN.back (i + 1) ?_ ?_ (by kernel_rfl) (fun w h => h)))))))))
    ·
     try dsimp only
     exact ⟨by omega, any_step hsm (by omega) (by rw [← hd0_at (l := out) (by omega)] at h49; exact h49)⟩
    · show out.length - (i + 1) < out.length - i; omega
  ·
   have h38' := of_decide_eq_false h38
   refine W.exit (QN.thenExit (QN.thenExit (QN.blkHit (QN.seq (W.seq (W.seq (W.rg od1 (T.pi 10 0 (T.nil (QN.seq (W.block ?_)))))))))))
   have hsm2 : out.any (fun u => !(sameB (hd0 out) u)) = false := any_end hsm (by omega)
   refine W.loop (σ := Nat) (fun gs => gs ≤ a.length ∧ (a.take gs).any (rmx v (hd0 out)) = false) (fun gs => [(1, .slice A a.length c), (2, .pointer (some ⟨b1, 0, none⟩)), (5, .slice Ao out.length co), (10, .int .i64 gs)]) (fun gs => St w (Hro ++ (Hr4 ++ [(b1, Obj.cells v.cs 43 (0, 0))]))) (fun gs => a.length - gs) 0 ?_ (by kernel_rfl) (fun w h => h) ?_
   ·
    try dsimp only
    exact ⟨Nat.zero_le _, any_zero _ _⟩
   rintro k3 hI_
   obtain ⟨hk3, hany3⟩ : k3 ≤ a.length ∧ (a.take k3).any (rmx v (hd0 out)) = false := hI_
   refine W.seq (W.seq (W.rg od9 (T.pi 77 k3 (T.pu 78 (.slice A a.length c) (T.pi 79 ((a.length : Nat) : Int) (T.pb 80 (decide ((k3 : Int) < ((a.length : Nat) : Int))) (T.pb 81 (decide ((k3 : Int) < ((a.length : Nat) : Int))) (T.bk [(5, false), (6, false), (7, false)] [(8, false)] 4 true (decide ((k3 : Int) < ((a.length : Nat) : Int))) 81 84 (.bool (decide (0 < ((out.length : Nat) : Int)))) (fun hg50 => ?_) ?_))))))))
   ·
    have hg50_ := hg50
    have hg50' := of_decide_eq_true hg50
    refine T.pu 82 (.slice Ao out.length co) (T.pi 83 ((out.length : Nat) : Int) (T.pb 84 (decide (0 < ((out.length : Nat) : Int))) ?_))
    exact T.blkEnd (by kernel_rfl) (fun w h => h)
   refine T.an 85 (decide ((k3 : Int) < ((a.length : Nat) : Int))) (decide (0 < ((out.length : Nat) : Int))) (T.nil (QN.seq (W.cd ((decide ((k3 : Int) < ((a.length : Nat) : Int))) && (decide (0 < ((out.length : Nat) : Int)))) (fun h51 => ?_) (fun h51 => ?_))))
   ·
    have h51l := (Bool.and_eq_true_iff.1 h51).1
    have h51r := (Bool.and_eq_true_iff.1 h51).2
    have h51l' := of_decide_eq_true h51l
    have h51r' := of_decide_eq_true h51r
    refine W.skip (QN.seq (W.seq (W.block (W.seq (W.drawn (Ψ := St w (Hro ++ (Hr4 ++ [(b1, Obj.cells v.cs 43 (0, 0))]))) (St w (Hro ++ (Hr4 ++ [(b1, Obj.cells v.cs 43 (0, 0))]))) [(0, true), (1, true), (2, true), (3, true), (4, true), (5, true), (6, true), (7, false), (8, true), (9, true), (10, true), (11, true), (12, true), (13, true), (14, true), (15, true), (16, true), (17, true), (18, true), (19, true), (20, true), (21, true), (22, true), (23, true), (24, true), (25, true), (26, true), (27, true), (28, true), (29, true), (30, true), (31, true), (32, true), (33, true), (34, false), (35, true), (36, true)] hmx (by kernel_rfl) (NoPanic.then (NoPanic.inBlock (NoPanic.then (NoPanic.then (NoPanic.inBlock (NoPanic.then NoPanic.body)))))) (fun w h => h.drew) (fun w h => h) ?_)))))
    have hlo0 : 0 < out.length := by omega
    refine T.pu 88 (.pointer (some ⟨b1, 5, none⟩)) (T.ld true 89 (.int .i64 v.support) 22 b1 5 (fun w h => St.cellM h (List.mem_append_right _ (List.mem_append_right _ mm0)) (by kernel_rfl)) (T.pu 90 (.slice A a.length c) (T.pi 91 k3 ?_)))
    have hl56 : k3 < a.length := by omega
    obtain ⟨b52, o53, hA54, hr55⟩ := (Rd.arr hr _) k3 hl56
    refine T.ix 92 25 43 22 A a.length c (k3 : Int) k3 b52 o53 hA54 rfl (by omega) (T.pu 93 (.pointer (some ⟨b52, o53 + k3 * 22 + 4, none⟩)) (T.ld true 94 (.int .i64 ((a[k3]'hl56).signer)) 3 b52 (o53 + k3 * 22 + 4) (fun w h => cell_of_range (hr55 w h) 4 (by kernel_rfl)) (T.cp 95 53 #[.int .i64 v.support, .int .i64 ((a[k3]'hl56).signer)] (.bool (hasB v.support ((a[k3]'hl56).signer))) ent53 (fun w hw => Ret.same (rhas_c _ _ w (by first | assumption | exact w64_and _ _ | exact w64_or _ _ | exact w64_andNot _ _ | exact w64_rwho _ _ _ _ | (unfold W64; omega)))) (fun w h => h) (T.pb 96 (hasB v.support ((a[k3]'hl56).signer)) (T.bk [(9, true), (10, true), (11, true), (12, true), (13, true), (14, true)] [(15, true), (16, true), (17, true), (18, true), (19, true), (20, true), (21, true), (22, true), (23, true), (24, true), (25, true), (26, true), (27, true), (28, true), (29, true), (30, true), (31, true), (32, true), (33, true), (34, false), (35, true), (36, true)] 8 true (hasB v.support ((a[k3]'hl56).signer)) 96 102 (.bool (((a[k3]'hl56).kind) == 3)) (fun hg57 => ?_) ?_)))))
    ·
     have hg57_ := hg57
     have hg57b := hasB_lt hg57
     refine T.pu 97 (.slice A a.length c) (T.pi 98 k3 ?_)
     obtain ⟨b58, o59, hA60, hr61⟩ := (Rd.arr hr _) k3 hl56
     refine T.ix 99 25 43 22 A a.length c (k3 : Int) k3 b58 o59 hA60 rfl (by omega) (T.pu 100 (.pointer (some ⟨b58, o59 + k3 * 22, none⟩)) (T.ld true 101 (.int .i64 ((a[k3]'hl56).kind)) 3 b58 (o59 + k3 * 22) (fun w h => cell_of_range (hr61 w h) 0 (by kernel_rfl)) (T.pb 102 (((a[k3]'hl56).kind) == 3) ?_)))
     exact T.blkEnd (by kernel_rfl) (fun w h => h)
    refine T.an 103 (hasB v.support ((a[k3]'hl56).signer)) (((a[k3]'hl56).kind) == 3) (T.pb 104 ((hasB v.support ((a[k3]'hl56).signer)) && (((a[k3]'hl56).kind) == 3)) (T.bk [(17, true), (18, true), (19, true), (20, true), (21, true), (22, true), (23, true), (24, true)] [(25, true), (26, true), (27, true), (28, true), (29, true), (30, true), (31, true), (32, true), (33, true), (34, false), (35, true), (36, true)] 16 true ((hasB v.support ((a[k3]'hl56).signer)) && (((a[k3]'hl56).kind) == 3)) 104 112 (.bool (((a[k3]'hl56).round) == v.round)) (fun hg62 => ?_) ?_))
    ·
     have hg62_ := hg62
     have hg62l := (Bool.and_eq_true_iff.1 hg62).1
     have hg62r := (Bool.and_eq_true_iff.1 hg62).2
     have hg62lb := hasB_lt hg62l
     refine T.pu 105 (.slice A a.length c) (T.pi 106 k3 ?_)
     obtain ⟨b63, o64, hA65, hr66⟩ := (Rd.arr hr _) k3 hl56
     refine T.ix 107 25 43 22 A a.length c (k3 : Int) k3 b63 o64 hA65 rfl (by omega) (T.pu 108 (.pointer (some ⟨b63, o64 + k3 * 22 + 2, none⟩)) (T.ld true 109 (.int .i64 ((a[k3]'hl56).round)) 3 b63 (o64 + k3 * 22 + 2) (fun w h => cell_of_range (hr66 w h) 2 (by kernel_rfl)) (T.pu 110 (.pointer (some ⟨b1, 2, none⟩)) (T.ld true 111 (.int .i64 v.round) 3 b1 2 (fun w h => St.cellM h (List.mem_append_right _ (List.mem_append_right _ mm0)) (by kernel_rfl)) (T.pb 112 (((a[k3]'hl56).round) == v.round) ?_)))))
     exact T.blkEnd (by kernel_rfl) (fun w h => h)
    refine T.an 113 ((hasB v.support ((a[k3]'hl56).signer)) && (((a[k3]'hl56).kind) == 3)) (((a[k3]'hl56).round) == v.round) (T.pb 114 (((hasB v.support ((a[k3]'hl56).signer)) && (((a[k3]'hl56).kind) == 3)) && (((a[k3]'hl56).round) == v.round)) (T.bk [(27, true), (28, true), (29, true), (30, true), (31, true), (32, true), (33, true), (34, false), (35, true)] [(36, true)] 26 true (((hasB v.support ((a[k3]'hl56).signer)) && (((a[k3]'hl56).kind) == 3)) && (((a[k3]'hl56).round) == v.round)) 114 123 (.bool (!(sameB (out[0]'hlo0) (a[k3]'hl56)))) (fun hg67 => ?_) ?_))
    ·
     have hg67_ := hg67
     have hg67l := (Bool.and_eq_true_iff.1 hg67).1
     have hg67r := (Bool.and_eq_true_iff.1 hg67).2
     have hg67ll := (Bool.and_eq_true_iff.1 hg67l).1
     have hg67lr := (Bool.and_eq_true_iff.1 hg67l).2
     have hg67llb := hasB_lt hg67ll
     refine T.pu 115 (.slice Ao out.length co) ?_
     obtain ⟨b68, o69, hA70, hr71⟩ := (Arr.row hrowo rfl rfl _) 0 hlo0
     refine T.ix 116 25 43 22 Ao out.length co 0 0 b68 o69 hA70 (by omega) (by omega) (T.lr true 117 (out[0]'hlo0).cs 43 b68 (o69 + 0 * 22) hr71 (T.pu 118 (.slice A a.length c) (T.pi 119 k3 ?_)))
     obtain ⟨b72, o73, hA74, hr75⟩ := (Rd.arr hr _) k3 hl56
     refine T.ix 120 25 43 22 A a.length c (k3 : Int) k3 b72 o73 hA74 rfl (by omega) (T.lr true 121 (a[k3]'hl56).cs 43 b72 (o73 + k3 * 22) hr75 (T.cp 122 104 #[.agg (out[0]'hlo0).cs, .agg (a[k3]'hl56).cs] (.bool (sameB (out[0]'hlo0) (a[k3]'hl56))) ent104 (fun w hw => rlike_c _ _ w) (fun w h => h) (T.pb 123 (!(sameB (out[0]'hlo0) (a[k3]'hl56))) ?_)))
     exact T.blkEnd (by kernel_rfl) (fun w h => h)
    refine T.an 124 (((hasB v.support ((a[k3]'hl56).signer)) && (((a[k3]'hl56).kind) == 3)) && (((a[k3]'hl56).round) == v.round)) (!(sameB (out[0]'hlo0) (a[k3]'hl56))) (T.nil (QN.seq (W.cd ((((hasB v.support ((a[k3]'hl56).signer)) && (((a[k3]'hl56).kind) == 3)) && (((a[k3]'hl56).round) == v.round)) && (!(sameB (out[0]'hlo0) (a[k3]'hl56)))) (fun h76 => ?_) (fun h76 => ?_))))
    ·
     have h76l := (Bool.and_eq_true_iff.1 h76).1
     have h76r := (Bool.and_eq_true_iff.1 h76).2
     have h76ll := (Bool.and_eq_true_iff.1 h76l).1
     have h76lr := (Bool.and_eq_true_iff.1 h76l).2
     have h76lll := (Bool.and_eq_true_iff.1 h76ll).1
     have h76llr := (Bool.and_eq_true_iff.1 h76ll).2
     have h76lllb := hasB_lt h76lll
     have h76rn := not_eq_true h76r
     refine W.seq (W.rg od8 (T.pu 125 (.slice Ao out.length co) (T.pu 126 (.slice A a.length c) (T.pi 127 k3 ?_))))
     obtain ⟨b77, o78, hA79, hr80⟩ := (Rd.arr hr _) k3 hl56
     refine T.ix 128 25 43 22 A a.length c (k3 : Int) k3 b77 o78 hA79 rfl (by omega) (T.lr false 129 (a[k3]'hl56).cs 43 b77 (o78 + k3 * 22) hr80 (T.lit 130 25 43 1 #[(0, .agg (a[k3]'hl56).cs)] (cells ([(a[k3]'hl56)] : List Vt)).toArray (by kernel_rfl) (by kernel_rfl) (by kernel_rfl) (by kernel_rfl) tv3 (fun b81 => T.appC 131 25 43 64 Ao co (out : List Vt) Hro b81 0 1 ([(a[k3]'hl56)] : List Vt) ((pm0.cons _).trans List.perm_middle.symm) (by kernel_rfl) (by kernel_rfl) (by kernel_rfl) (by kernel_rfl) hrowo (fun w h => St.rangeM h (cells ([(a[k3]'hl56)] : List Vt)).toArray (List.mem_append_right _ mm0) (by kernel_rfl)) (by unfold maxLen; first | omega | (simp; omega)) (by first | omega | (simp; omega)) tv3 (fun A82 c83 Hr84 hrow85 => T.pu 4 (.slice A82 ((out ++ ([(a[k3]'hl56)])).length) c83) (T.nil (QN.seq (W.ret (QN.blkRet (QN.thenRet (QN.thenRet (QN.blkRet (QN.thenRet (QN.done (.inl rfl) 4 (.slice A82 ((out ++ ([(a[k3]'hl56)])).length) c83) rfl (by kernel_rfl) (fun w hw => ?_))))))))))))))
     exact (have e1 : out ++ ([(a[k3]'hl56)]) = mixR v a := mixR_more hoq hsm2 hany3 (by omega) (by rw [← hd0_at (l := out) (by omega)] at h76; exact h76) (by omega); by rw [← e1]; exact ⟨A82, c83, Hr84, rfl, hrow85, hw.part (List.sublist_append_left _ _)⟩)
    ·
     refine W.skip (QN.blkNormal (QN.seq (W.rg od3 (T.pi 86 k3 (T.pw 87 ((k3 : Int) + 1) (T.pi 10 ((k3 : Int) + 1) (T.nil (QN.back (k3 + 1) ?_ ?_ (by kernel_rfl) (fun w h => h)))))))))
     ·
      try dsimp only
      exact ⟨by omega, any_step hany3 (by omega) (by rw [← hd0_at (l := out) (by omega)] at h76; exact h76)⟩
     · show a.length - (k3 + 1) < a.length - k3; omega
   ·
    refine W.exit (QN.thenExit (QN.thenExit (QN.blkHit (QN.seq (W.seq (W.rg od2 (T.pu 132 (.slice Ao out.length co) (T.pu 4 (.slice Ao out.length co) (T.nil (QN.seq (W.ret (QN.done (.inl rfl) 4 (.slice Ao out.length co) rfl (by kernel_rfl) (fun w hw => ?_)))))))))))))
    exact (have e1 : out = mixR v a := mixR_end hoq hsm2 hany3 hk3 h51; by rw [← e1]; exact ⟨Ao, co, Hro, rfl, hrowo, hw.part (List.sublist_append_left _ _)⟩)
set_option maxRecDepth 100000 in
set_option maxHeartbeats 2000000 in
theorem needs_c (m : Int) (a : List Vt) (v : Vt) (A : Option Addr) (c : Nat) (w : World) (hm : W64 m) (hvr : 0 ≤ v.round ∧ v.round ≤ 12) (hvs : W64 v.support) (ha : a.length ≤ 1000) (hc : a.length ≤ c) (hr : Rd w A a) : Calls Tryz.prog 32 #[.int .i64 m, .agg v.cs, .slice A a.length c] w (fun rr w' => ∃ A c Hr, rr = .returned (.slice A (rneedL m a v).length c) ∧ RowIs 43 22 A (rneedL m a v).length c (cells (rneedL m a v)) Hr ∧ St w Hr w') := by
 have hil := idsI_length v.support
 have hsz := size_le v.support
 refine calls_W (n := 149) Tryz.func32 rfl [(0, .int .i64 m), (1, .agg v.cs), (2, .slice A a.length c)] rfl ⟨by kernel_rfl, by kernel_rfl⟩ (W.weak (Ψ := St w []) (fun w' h => by rw [h]; exact St.start w) (W.seq (W.rg od2 (T.bx 4 43 (.agg v.cs) (v.cs) tv3 (fun b1 => T.pu 6 (.slice none 0 0) (T.nil (QN.seq (W.seq (W.rg od1 (T.pu 7 (.slice none 0 0) (T.nil (QN.seq (W.seq (W.rg od4 (T.pu 15 (.pointer (some ⟨b1, 5, none⟩)) (T.ld false 16 (.int .i64 v.support) 22 b1 5 (fun w h => St.cellM h mm0 (by kernel_rfl)) (T.callR 17 26 #[.int .i64 v.support] 3 1 (idsI v.support).length (cells (idsI v.support)) (by kernel_rfl) (by kernel_rfl) ent26 (fun w hw => rids_r _ (by first | assumption | exact w64_and _ _ | exact w64_or _ _ | exact w64_andNot _ _ | exact w64_rwho _ _ _ _ | (unfold W64; omega)) w) tv3 (fun A2 c3 Hr4 hrow5 => T.pu 8 (.slice A2 ((idsI v.support).length) c3) (T.nil (QN.seq (W.seq (W.block (W.seq (W.rg od19 (T.pu 44 (.pointer (some ⟨b1, 0, none⟩)) (T.ld false 45 (.int .i64 v.kind) 3 b1 0 (fun w h => St.cellM h (List.mem_append_right _ mm0) (by kernel_rfl)) (T.pb 46 (v.kind == 1) (T.pb 47 (v.kind == 1) (T.bk [(4, false), (5, false), (6, false), (7, false), (8, false), (9, false), (10, false), (11, false), (12, false), (13, false), (14, false), (15, false), (16, false)] [(17, false), (18, false)] 3 false (v.kind == 1) 47 60 (.bool (((v.kind == 3) && (v.round == 1)) && (v.choice == 0))) (fun hg6 => ?_) ?_)))))))))))))))))))))))))))))
 ·
  have hg6_ := hg6
  refine T.pu 48 (.pointer (some ⟨b1, 0, none⟩)) (T.ld false 49 (.int .i64 v.kind) 3 b1 0 (fun w h => St.cellM h (List.mem_append_right _ mm0) (by kernel_rfl)) (T.pb 50 (v.kind == 3) (T.pb 51 (v.kind == 3) (T.bk [(8, false), (9, false), (10, false)] [(11, false), (12, false), (13, false), (14, false), (15, false), (16, false)] 7 true (v.kind == 3) 51 54 (.bool (v.round == 1)) (fun hg7 => ?_) ?_))))
  ·
   have hg7_ := hg7
   refine T.pu 52 (.pointer (some ⟨b1, 2, none⟩)) (T.ld false 53 (.int .i64 v.round) 3 b1 2 (fun w h => St.cellM h (List.mem_append_right _ mm0) (by kernel_rfl)) (T.pb 54 (v.round == 1) ?_))
   exact T.blkEnd (by kernel_rfl) (fun w h => h)
  refine T.an 55 (v.kind == 3) (v.round == 1) (T.pb 56 ((v.kind == 3) && (v.round == 1)) (T.bk [(13, false), (14, false), (15, false)] [(16, false)] 12 true ((v.kind == 3) && (v.round == 1)) 56 59 (.bool (v.choice == 0)) (fun hg8 => ?_) ?_))
  ·
   have hg8_ := hg8
   have hg8l := (Bool.and_eq_true_iff.1 hg8).1
   have hg8r := (Bool.and_eq_true_iff.1 hg8).2
   refine T.pu 57 (.pointer (some ⟨b1, 3, none⟩)) (T.ld false 58 (.int .i64 v.choice) 3 b1 3 (fun w h => St.cellM h (List.mem_append_right _ mm0) (by kernel_rfl)) (T.pb 59 (v.choice == 0) ?_))
   exact T.blkEnd (by kernel_rfl) (fun w h => h)
  refine T.an 60 ((v.kind == 3) && (v.round == 1)) (v.choice == 0) ?_
  exact T.blkEnd (by kernel_rfl) (fun w h => h)
 refine T.oo 61 (v.kind == 1) (((v.kind == 3) && (v.round == 1)) && (v.choice == 0)) (T.pb 43 ((v.kind == 1) || (((v.kind == 3) && (v.round == 1)) && (v.choice == 0))) (T.nil (QN.seq (W.cd ((v.kind == 1) || (((v.kind == 3) && (v.round == 1)) && (v.choice == 0))) (fun h9 => ?_) (fun h9 => ?_)))))
 ·
  refine W.skip (QN.blkNormal (QN.seq (W.seq (W.rg od3 (T.pu 147 (.slice none 0 0) (T.appD 148 25 43 64 none 0 ([] : List Vt) [] none 0 ([] : List Vt) pm0 (by kernel_rfl) (by kernel_rfl) (by kernel_rfl) (by kernel_rfl) RowIs.nil (Arr.nil _) (by unfold maxLen; first | omega | (simp; done)) (by first | omega | (simp; done)) tv3 (fun A10 c11 Hr12 hrow13 => T.pu 6 (.slice A10 ((([] : List Vt) ++ ([])).length) c11) (T.nil (QN.seq (W.ret (QN.done (.inl rfl) 6 (.slice A10 ((([] : List Vt) ++ ([])).length) c11) rfl (by kernel_rfl) (fun w hw => ?_))))))))))))
  exact (have e1 : (([] : List Vt) ++ ([])) = rneedL m a v := need_end0  h9; by rw [← e1]; exact ⟨A10, c11, Hr12, rfl, hrow13, hw.part (List.sublist_append_left _ _)⟩)
 ·
  have h9l := (Bool.or_eq_false_iff.1 h9).1
  have h9r := (Bool.or_eq_false_iff.1 h9).2
  refine W.seq (W.rg od4 (T.pu 63 (.pointer (some ⟨b1, 0, none⟩)) (T.ld false 64 (.int .i64 v.kind) 3 b1 0 (fun w h => St.cellM h (List.mem_append_right _ mm0) (by kernel_rfl)) (T.pb 65 (v.kind == 2) (T.pb 62 (v.kind == 2) (T.nil (QN.seq (W.cd (v.kind == 2) (fun h14 => ?_) (fun h14 => ?_)))))))))
  ·
   refine W.rg od5 (T.pu 66 (.slice A a.length c) (T.pu 67 (.pointer (some ⟨b1, 14, none⟩)) (T.lr false 68 v.val.cs 24 b1 14 (fun w h => St.rangeM h v.val.cs (List.mem_append_right _ mm0) (by kernel_rfl)) ?_)))
   have hpk15 := pkO_len a (rpk (-1) 1 0 1 v.val)
   refine T.cp 69 31 #[.slice A a.length c, .int .i64 (-1), .int .i64 1, .int .i64 0, .int .i64 1, .agg v.val.cs] (.slice (pkA A c a (rpk (-1) 1 0 1 v.val)) ((pkO a (rpk (-1) 1 0 1 v.val)).length) (pkC c a (rpk (-1) 1 0 1 v.val))) ent31 (fun w hw => pick_c a (-1) 1 0 1 v.val A c w (by first | omega | (simp; done) | (simp; omega)) hc (Arr.rd (Rd.arr hr _) hw)) tv2 (T.pu 7 (.slice (pkA A c a (rpk (-1) 1 0 1 v.val)) ((pkO a (rpk (-1) 1 0 1 v.val)).length) (pkC c a (rpk (-1) 1 0 1 v.val))) (T.nil (QN.blkNormal (QN.seq (W.seq (W.rg od3 (T.pu 147 (.slice (pkA A c a (rpk (-1) 1 0 1 v.val)) ((pkO a (rpk (-1) 1 0 1 v.val)).length) (pkC c a (rpk (-1) 1 0 1 v.val))) (T.appD 148 25 43 64 none 0 ([] : List Vt) [] (pkA A c a (rpk (-1) 1 0 1 v.val)) (pkC c a (rpk (-1) 1 0 1 v.val)) (pkO a (rpk (-1) 1 0 1 v.val) : List Vt) pm0 (by kernel_rfl) (by kernel_rfl) (by kernel_rfl) (by kernel_rfl) RowIs.nil (Arr.pick (Rd.arr hr _) c hc (rpk (-1) 1 0 1 v.val)) (by unfold maxLen; first | omega | (simp; omega)) (by first | omega | (simp; omega)) tv3 (fun A16 c17 Hr18 hrow19 => T.pu 6 (.slice A16 ((([] : List Vt) ++ (pkO a (rpk (-1) 1 0 1 v.val))).length) c17) (T.nil (QN.seq (W.ret (QN.done (.inl rfl) 6 (.slice A16 ((([] : List Vt) ++ (pkO a (rpk (-1) 1 0 1 v.val))).length) c17) rfl (by kernel_rfl) (fun w hw => ?_))))))))))))))
   exact (have e1 : (([] : List Vt) ++ (pkO a (rpk (-1) 1 0 1 v.val))) = rneedL m a v := need_end1  h9 h14; by rw [← e1]; exact ⟨A16, c17, Hr18, rfl, hrow19, hw.part (List.sublist_append_left _ _)⟩)
  ·
   refine W.seq (W.rg od9 (T.pu 71 (.pointer (some ⟨b1, 0, none⟩)) (T.ld false 72 (.int .i64 v.kind) 3 b1 0 (fun w h => St.cellM h (List.mem_append_right _ mm0) (by kernel_rfl)) (T.pb 73 (v.kind == 4) (T.pb 74 (v.kind == 4) (T.bk [(4, false), (5, false), (6, false)] [(7, false), (8, false)] 3 true (v.kind == 4) 74 77 (.bool (v.choice == 2)) (fun hg20 => ?_) ?_))))))
   ·
    have hg20_ := hg20
    refine T.pu 75 (.pointer (some ⟨b1, 3, none⟩)) (T.ld false 76 (.int .i64 v.choice) 3 b1 3 (fun w h => St.cellM h (List.mem_append_right _ mm0) (by kernel_rfl)) (T.pb 77 (v.choice == 2) ?_))
    exact T.blkEnd (by kernel_rfl) (fun w h => h)
   refine T.an 78 (v.kind == 4) (v.choice == 2) (T.pb 70 ((v.kind == 4) && (v.choice == 2)) (T.nil (QN.seq (W.cd ((v.kind == 4) && (v.choice == 2)) (fun h21 => ?_) (fun h21 => ?_)))))
   ·
    have h21l := (Bool.and_eq_true_iff.1 h21).1
    have h21r := (Bool.and_eq_true_iff.1 h21).2
    refine W.rg od4 ?_
    have hml := mixR_len v a
    refine T.lr false 79 v.cs 43 b1 0 (fun w h => St.rangeM h v.cs (List.mem_append_right _ mm0) (by kernel_rfl)) (T.pu 80 (.slice A a.length c) (T.callR 81 55 #[.agg v.cs, .slice A a.length c] 43 22 (mixR v a).length (cells (mixR v a)) (by kernel_rfl) (by kernel_rfl) ent55 (fun w hw => mixture_c v a A c w (by first | assumption | exact w64_and _ _ | exact w64_or _ _ | exact w64_andNot _ _ | exact w64_rwho _ _ _ _ | (unfold W64; omega)) (by first | omega | (simp; done) | (simp; omega)) (Arr.rd (Rd.arr hr _) hw)) tv3 (fun A22 c23 Hr24 hrow25 => T.pu 7 (.slice A22 ((mixR v a).length) c23) (T.nil (QN.blkNormal (QN.seq (W.seq (W.rg od3 (T.pu 147 (.slice A22 ((mixR v a).length) c23) (T.appD 148 25 43 64 none 0 ([] : List Vt) [] A22 c23 (mixR v a : List Vt) pm0 (by kernel_rfl) (by kernel_rfl) (by kernel_rfl) (by kernel_rfl) RowIs.nil (show Arr (St w (Hr24 ++ (Hr4 ++ [(b1, Obj.cells v.cs 43 (0, 0))]))) A22 (mixR v a) from (Arr.row hrow25 rfl rfl _)) (by unfold maxLen; first | omega | (simp; omega)) (by first | omega | (simp; omega)) tv3 (fun A26 c27 Hr28 hrow29 => T.pu 6 (.slice A26 ((([] : List Vt) ++ (mixR v a)).length) c27) (T.nil (QN.seq (W.ret (QN.done (.inl rfl) 6 (.slice A26 ((([] : List Vt) ++ (mixR v a)).length) c27) rfl (by kernel_rfl) (fun w hw => ?_))))))))))))))))
    exact (have e1 : (([] : List Vt) ++ (mixR v a)) = rneedL m a v := need_end2  h9 h14 h21; by rw [← e1]; exact ⟨A26, c27, Hr28, rfl, hrow29, hw.part (List.sublist_append_left _ _)⟩)
   ·
    refine W.seq (W.rg od9 (T.pu 83 (.pointer (some ⟨b1, 0, none⟩)) (T.ld false 84 (.int .i64 v.kind) 3 b1 0 (fun w h => St.cellM h (List.mem_append_right _ mm0) (by kernel_rfl)) (T.pb 85 (v.kind == 3) (T.pb 86 (v.kind == 3) (T.bk [(4, false), (5, false), (6, false)] [(7, false), (8, false)] 3 true (v.kind == 3) 86 89 (.bool (decide (1 < v.round))) (fun hg30 => ?_) ?_))))))
    ·
     have hg30_ := hg30
     refine T.pu 87 (.pointer (some ⟨b1, 2, none⟩)) (T.ld false 88 (.int .i64 v.round) 3 b1 2 (fun w h => St.cellM h (List.mem_append_right _ mm0) (by kernel_rfl)) (T.pb 89 (decide (1 < v.round)) ?_))
     exact T.blkEnd (by kernel_rfl) (fun w h => h)
    refine T.an 90 (v.kind == 3) (decide (1 < v.round)) (T.pb 82 ((v.kind == 3) && (decide (1 < v.round))) (T.nil (QN.seq (W.cd ((v.kind == 3) && (decide (1 < v.round))) (fun h31 => ?_) (fun h31 => ?_)))))
    ·
     have h31l := (Bool.and_eq_true_iff.1 h31).1
     have h31r := (Bool.and_eq_true_iff.1 h31).2
     have h31r' := of_decide_eq_true h31r
     refine W.seq (W.rg od5 ?_)
     have hr1 : 1 ≤ v.round := by omega
     have hr2 := hvr.2
     refine T.pi 91 m (T.lr false 92 v.cs 43 b1 0 (fun w h => St.rangeM h v.cs (List.mem_append_right _ mm0) (by kernel_rfl)) (T.pu 93 (.slice A a.length c) (T.cp 94 56 #[.int .i64 m, .agg v.cs, .slice A a.length c] (.bool (adoptR m v a)) ent56 (fun w hw => adopts_c _ _ _ _ _ (by assumption) hvs (by first | omega | (simp; done) | (simp; omega)) w (Arr.rd (Rd.arr hr _) hw) hr1 hr2) tv2 (T.pb 9 (adoptR m v a) (T.nil (QN.seq (W.seq (W.seq (W.rg od1 (T.pi 10 0 (T.nil (QN.seq (W.block (W.loop (σ := Nat × List Vt × Option Addr × Nat × List (Nat × Obj)) (fun gs => gs.1 ≤ (idsI v.support).length ∧ gs.2.1 = ((idsI v.support).take gs.1).flatMap (rG a v (adoptR m v a)) ∧ RowIs 43 22 gs.2.2.1 gs.2.1.length gs.2.2.2.1 (cells gs.2.1) gs.2.2.2.2) (fun gs => [(2, .slice A a.length c), (4, .pointer (some ⟨b1, 0, none⟩)), (6, .slice none 0 0), (7, .slice gs.2.2.1 gs.2.1.length gs.2.2.2.1), (8, .slice A2 ((idsI v.support).length) c3), (9, .bool (adoptR m v a)), (10, .int .i64 (gs.1 : Int))]) (fun gs => St w (gs.2.2.2.2 ++ (Hr4 ++ [(b1, Obj.cells v.cs 43 (0, 0))]))) (fun gs => (idsI v.support).length - gs.1) (0, [], none, 0, []) ?_ (by kernel_rfl) (fun w h => h) ?_))))))))))))))
     ·
      try dsimp only
      exact ⟨Nat.zero_le _, rfl, RowIs.nil⟩
     rintro ⟨j, out, Ao, co, Hro⟩ hI_
     obtain ⟨hj, hout, hrowo⟩ : j ≤ (idsI v.support).length ∧ out = ((idsI v.support).take j).flatMap (rG a v (adoptR m v a)) ∧ RowIs 43 22 Ao out.length co (cells out) Hro := hI_
     have hol : out.length ≤ j := by rw [hout]; exact fm_len (fun i => rG_len a v _ i) _ _
     refine W.seq (W.seq (W.rg od4 (T.pi 95 j (T.pu 96 (.slice A2 ((idsI v.support).length) c3) (T.pi 97 (((idsI v.support).length : Nat) : Int) (T.pb 98 (decide ((j : Int) < (((idsI v.support).length : Nat) : Int))) (T.nil (QN.seq (W.cd (decide ((j : Int) < (((idsI v.support).length : Nat) : Int))) (fun h32 => ?_) (fun h32 => ?_))))))))))
     ·
      have h32' := of_decide_eq_true h32
      have hl33 : j < (idsI v.support).length := by omega
      refine W.skip (QN.seq (W.seq (W.block (W.seq (W.drawn (Ψ := St w (Hro ++ (Hr4 ++ [(b1, Obj.cells v.cs 43 (0, 0))]))) (St w (Hro ++ (Hr4 ++ [(b1, Obj.cells v.cs 43 (0, 0))]))) [(0, true), (1, true), (2, true), (3, true), (4, true), (5, true), (6, true), (7, true), (8, true), (9, true), (10, true), (11, true), (12, false), (13, false)] hmx (by kernel_rfl) (NoPanic.then (NoPanic.inBlock (NoPanic.then (NoPanic.then (NoPanic.inBlock (NoPanic.then (NoPanic.inBlock (NoPanic.then NoPanic.body)))))))) (fun w h => h.drew) (fun w h => h) (T.pu 101 (.slice A a.length c) (T.pu 102 (.slice A2 ((idsI v.support).length) c3) (T.pi 103 j ?_))))))))
      obtain ⟨b34, o35, hA36, hr37⟩ := (show Arr (St _ (Hro ++ (Hr4 ++ [(b1, Obj.cells v.cs 43 (0, 0))]))) A2 (idsI v.support) from (Arr.row hrow5 rfl rfl (Hro ++ [(b1, Obj.cells v.cs 43 (0, 0))])).weak (fun w h => h.perm ((pm0.append_left Hro).trans (List.perm_append_comm_assoc _ _ _)))) j hl33
      refine T.ix 104 44 3 1 A2 ((idsI v.support).length) c3 (j : Int) j b34 o35 hA36 rfl (by omega) (T.ld true 105 (.int .i64 ((idsI v.support)[j]'hl33)) 3 b34 (o35 + j * 1) (fun w h => cell_of_range (hr37 w h) 0 (by kernel_rfl)) (T.pu 106 (.pointer (some ⟨b1, 2, none⟩)) (T.ld true 107 (.int .i64 v.round) 3 b1 2 (fun w h => St.cellM h (List.mem_append_right _ (List.mem_append_right _ mm0)) (by kernel_rfl)) (T.pw 108 (v.round - 1) (T.pu 109 (.pointer (some ⟨b1, 3, none⟩)) (T.ld true 110 (.int .i64 v.choice) 3 b1 3 (fun w h => St.cellM h (List.mem_append_right _ (List.mem_append_right _ mm0)) (by kernel_rfl)) (T.pu 111 (.pointer (some ⟨b1, 14, none⟩)) (T.lr true 112 v.val.cs 24 b1 14 (fun w h => St.rangeM h v.val.cs (List.mem_append_right _ (List.mem_append_right _ mm0)) (by kernel_rfl)) ?_))))))))
      have hpk38 := pkO_len a (rpk ((idsI v.support)[j]'hl33) 4 (v.round - 1) v.choice v.val)
      refine T.cp 113 31 #[.slice A a.length c, .int .i64 ((idsI v.support)[j]'hl33), .int .i64 4, .int .i64 (v.round - 1), .int .i64 v.choice, .agg v.val.cs] (.slice (pkA A c a (rpk ((idsI v.support)[j]'hl33) 4 (v.round - 1) v.choice v.val)) ((pkO a (rpk ((idsI v.support)[j]'hl33) 4 (v.round - 1) v.choice v.val)).length) (pkC c a (rpk ((idsI v.support)[j]'hl33) 4 (v.round - 1) v.choice v.val))) ent31 (fun w hw => pick_c a ((idsI v.support)[j]'hl33) 4 (v.round - 1) v.choice v.val A c w (by first | omega | (simp; done) | (simp; omega)) hc (Arr.rd (Rd.arr hr _) hw)) (fun w h => h) (T.pu 11 (.slice (pkA A c a (rpk ((idsI v.support)[j]'hl33) 4 (v.round - 1) v.choice v.val)) ((pkO a (rpk ((idsI v.support)[j]'hl33) 4 (v.round - 1) v.choice v.val)).length) (pkC c a (rpk ((idsI v.support)[j]'hl33) 4 (v.round - 1) v.choice v.val))) (T.nil (QN.seq (W.seq (W.seq (W.rg od7 (T.pb 114 (adoptR m v a) (T.pb 115 (!(adoptR m v a)) (T.pb 116 (!(adoptR m v a)) (T.bk [(3, false), (4, false), (5, false)] [(6, false)] 2 false (!(adoptR m v a)) 116 119 (.bool ((((pkO a (rpk ((idsI v.support)[j]'hl33) 4 (v.round - 1) v.choice v.val)).length : Nat) : Int) == 0)) (fun hg39 => ?_) ?_))))))))))
      ·
       have hg39_ := hg39
       have hg39n := not_eq_false hg39
       refine T.pu 117 (.slice (pkA A c a (rpk ((idsI v.support)[j]'hl33) 4 (v.round - 1) v.choice v.val)) ((pkO a (rpk ((idsI v.support)[j]'hl33) 4 (v.round - 1) v.choice v.val)).length) (pkC c a (rpk ((idsI v.support)[j]'hl33) 4 (v.round - 1) v.choice v.val))) (T.pi 118 (((pkO a (rpk ((idsI v.support)[j]'hl33) 4 (v.round - 1) v.choice v.val)).length : Nat) : Int) (T.pb 119 ((((pkO a (rpk ((idsI v.support)[j]'hl33) 4 (v.round - 1) v.choice v.val)).length : Nat) : Int) == 0) ?_))
       exact T.blkEnd (by kernel_rfl) (fun w h => h)
      refine T.oo 120 (!(adoptR m v a)) ((((pkO a (rpk ((idsI v.support)[j]'hl33) 4 (v.round - 1) v.choice v.val)).length : Nat) : Int) == 0) (T.nil (QN.seq (W.cd ((!(adoptR m v a)) || ((((pkO a (rpk ((idsI v.support)[j]'hl33) 4 (v.round - 1) v.choice v.val)).length : Nat) : Int) == 0)) (fun h40 => ?_) (fun h40 => ?_))))
      ·
       refine W.drawn (Ψ := St w (Hro ++ (Hr4 ++ [(b1, Obj.cells v.cs 43 (0, 0))]))) (St w (Hro ++ (Hr4 ++ [(b1, Obj.cells v.cs 43 (0, 0))]))) [(0, true), (1, true), (2, true), (3, true), (4, true), (5, true), (6, true), (7, true), (8, true), (9, false), (10, false)] hmx (by kernel_rfl) (NoPanic.then (NoPanic.inBlock (NoPanic.then (NoPanic.then (NoPanic.inBlock (NoPanic.then (NoPanic.inBlock (NoPanic.then NoPanic.body)))))))) (fun w h => h.drew) (fun w h => h) (T.pu 121 (.slice A a.length c) (T.pu 122 (.slice A2 ((idsI v.support).length) c3) (T.pi 123 j ?_)))
       obtain ⟨b41, o42, hA43, hr44⟩ := (show Arr (St _ (Hro ++ (Hr4 ++ [(b1, Obj.cells v.cs 43 (0, 0))]))) A2 (idsI v.support) from (Arr.row hrow5 rfl rfl (Hro ++ [(b1, Obj.cells v.cs 43 (0, 0))])).weak (fun w h => h.perm ((pm0.append_left Hro).trans (List.perm_append_comm_assoc _ _ _)))) j hl33
       refine T.ix 124 44 3 1 A2 ((idsI v.support).length) c3 (j : Int) j b41 o42 hA43 rfl (by omega) (T.ld true 125 (.int .i64 ((idsI v.support)[j]'hl33)) 3 b41 (o42 + j * 1) (fun w h => cell_of_range (hr44 w h) 0 (by kernel_rfl)) (T.pu 126 (.pointer (some ⟨b1, 2, none⟩)) (T.ld true 127 (.int .i64 v.round) 3 b1 2 (fun w h => St.cellM h (List.mem_append_right _ (List.mem_append_right _ mm0)) (by kernel_rfl)) (T.pw 128 (v.round - 1) (T.pu 129 (.agg Nm.zero.cs) ?_)))))
       have hpk45 := pkO_len a (rpk ((idsI v.support)[j]'hl33) 4 (v.round - 1) 2 Nm.zero)
       refine T.cp 130 31 #[.slice A a.length c, .int .i64 ((idsI v.support)[j]'hl33), .int .i64 4, .int .i64 (v.round - 1), .int .i64 2, .agg Nm.zero.cs] (.slice (pkA A c a (rpk ((idsI v.support)[j]'hl33) 4 (v.round - 1) 2 Nm.zero)) ((pkO a (rpk ((idsI v.support)[j]'hl33) 4 (v.round - 1) 2 Nm.zero)).length) (pkC c a (rpk ((idsI v.support)[j]'hl33) 4 (v.round - 1) 2 Nm.zero))) ent31 (fun w hw => pick_c a ((idsI v.support)[j]'hl33) 4 (v.round - 1) 2 Nm.zero A c w (by first | omega | (simp; done) | (simp; omega)) hc (Arr.rd (Rd.arr hr _) hw)) (fun w h => h) (T.pu 11 (.slice (pkA A c a (rpk ((idsI v.support)[j]'hl33) 4 (v.round - 1) 2 Nm.zero)) ((pkO a (rpk ((idsI v.support)[j]'hl33) 4 (v.round - 1) 2 Nm.zero)).length) (pkC c a (rpk ((idsI v.support)[j]'hl33) 4 (v.round - 1) 2 Nm.zero))) (T.nil (QN.seq (W.rg od4 (T.pu 131 (.slice Ao out.length co) (T.pu 132 (.slice (pkA A c a (rpk ((idsI v.support)[j]'hl33) 4 (v.round - 1) 2 Nm.zero)) ((pkO a (rpk ((idsI v.support)[j]'hl33) 4 (v.round - 1) 2 Nm.zero)).length) (pkC c a (rpk ((idsI v.support)[j]'hl33) 4 (v.round - 1) 2 Nm.zero))) (T.appD 133 25 43 64 Ao co (out : List Vt) Hro (pkA A c a (rpk ((idsI v.support)[j]'hl33) 4 (v.round - 1) 2 Nm.zero)) (pkC c a (rpk ((idsI v.support)[j]'hl33) 4 (v.round - 1) 2 Nm.zero)) (pkO a (rpk ((idsI v.support)[j]'hl33) 4 (v.round - 1) 2 Nm.zero) : List Vt) pm0 (by kernel_rfl) (by kernel_rfl) (by kernel_rfl) (by kernel_rfl) hrowo (Arr.pick (Rd.arr hr _) c hc (rpk ((idsI v.support)[j]'hl33) 4 (v.round - 1) 2 Nm.zero)) (by unfold maxLen; first | omega | (simp; omega)) (by first | omega | (simp; omega)) tv3 (fun A46 c47 Hr48 hrow49 => T.pu 7 (.slice A46 ((out ++ (pkO a (rpk ((idsI v.support)[j]'hl33) 4 (v.round - 1) 2 Nm.zero))).length) c47) (T.nil (QN.blkNormal (QN.seq (W.rg od3 (T.pi 99 j (T.pw 100 ((j : Int) + 1) (T.pi 10 ((j : Int) + 1) (T.nil (QN.back (j + 1, out ++ (pkO a (rpk ((idsI v.support)[j]'hl33) 4 (v.round - 1) 2 Nm.zero)), A46, c47, Hr48) ?_ ?_ (by kernel_rfl) (fun w h => h))))))))))))))))))
       ·
        try dsimp only
        exact ⟨by omega, rG_yes (by omega) hout h40, hrow49⟩
       · show (idsI v.support).length - _ < (idsI v.support).length - _; omega
      ·
       have h40l := (Bool.or_eq_false_iff.1 h40).1
       have h40r := (Bool.or_eq_false_iff.1 h40).2
       have h40ln := not_eq_false h40l
       have h40r' := ne_of_beq_false h40r
       refine W.skip (QN.seq (W.rg od4 (T.pu 131 (.slice Ao out.length co) (T.pu 132 (.slice (pkA A c a (rpk ((idsI v.support)[j]'hl33) 4 (v.round - 1) v.choice v.val)) ((pkO a (rpk ((idsI v.support)[j]'hl33) 4 (v.round - 1) v.choice v.val)).length) (pkC c a (rpk ((idsI v.support)[j]'hl33) 4 (v.round - 1) v.choice v.val))) (T.appD 133 25 43 64 Ao co (out : List Vt) Hro (pkA A c a (rpk ((idsI v.support)[j]'hl33) 4 (v.round - 1) v.choice v.val)) (pkC c a (rpk ((idsI v.support)[j]'hl33) 4 (v.round - 1) v.choice v.val)) (pkO a (rpk ((idsI v.support)[j]'hl33) 4 (v.round - 1) v.choice v.val) : List Vt) pm0 (by kernel_rfl) (by kernel_rfl) (by kernel_rfl) (by kernel_rfl) hrowo (Arr.pick (Rd.arr hr _) c hc (rpk ((idsI v.support)[j]'hl33) 4 (v.round - 1) v.choice v.val)) (by unfold maxLen; first | omega | (simp; omega)) (by first | omega | (simp; omega)) tv3 (fun A50 c51 Hr52 hrow53 => T.pu 7 (.slice A50 ((out ++ (pkO a (rpk ((idsI v.support)[j]'hl33) 4 (v.round - 1) v.choice v.val))).length) c51) (T.nil (QN.blkNormal (QN.seq (W.rg od3 (T.pi 99 j (T.pw 100 ((j : Int) + 1) (T.pi 10 ((j : Int) + 1) (T.nil (QN.back (j + 1, out ++ (pkO a (rpk ((idsI v.support)[j]'hl33) 4 (v.round - 1) v.choice v.val)), A50, c51, Hr52) ?_ ?_ (by kernel_rfl) (fun w h => h))))))))))))))))
       ·
        try dsimp only
        exact ⟨by omega, rG_no (by omega) hout h40, hrow53⟩
       · show (idsI v.support).length - _ < (idsI v.support).length - _; omega
     ·
      have h32' := of_decide_eq_false h32
      refine W.exit (QN.thenExit (QN.thenExit (QN.blkHit (QN.seq (W.seq (W.rg od2 (T.pb 134 (adoptR m v a) (T.pb 135 (!(adoptR m v a)) (T.nil (QN.seq (W.cd (!(adoptR m v a)) (fun h54 => ?_) (fun h54 => ?_))))))))))))
      ·
       have h54n := not_eq_true h54
       refine W.rg od12 (T.pu 136 (.slice Ao out.length co) (T.pu 137 (.slice A a.length c) (T.pu 138 (.pointer (some ⟨b1, 2, none⟩)) (T.ld false 139 (.int .i64 v.round) 3 b1 2 (fun w h => St.cellM h (List.mem_append_right _ (List.mem_append_right _ mm0)) (by kernel_rfl)) (T.pw 140 (v.round - 1) (T.pu 141 (.pointer (some ⟨b1, 3, none⟩)) (T.ld false 142 (.int .i64 v.choice) 3 b1 3 (fun w h => St.cellM h (List.mem_append_right _ (List.mem_append_right _ mm0)) (by kernel_rfl)) (T.pu 143 (.pointer (some ⟨b1, 14, none⟩)) (T.lr false 144 v.val.cs 24 b1 14 (fun w h => St.rangeM h v.val.cs (List.mem_append_right _ (List.mem_append_right _ mm0)) (by kernel_rfl)) ?_)))))))))
       have hpk55 := pkO_len a (rpk (-1) 3 (v.round - 1) v.choice v.val)
       refine T.cp 145 31 #[.slice A a.length c, .int .i64 (-1), .int .i64 3, .int .i64 (v.round - 1), .int .i64 v.choice, .agg v.val.cs] (.slice (pkA A c a (rpk (-1) 3 (v.round - 1) v.choice v.val)) ((pkO a (rpk (-1) 3 (v.round - 1) v.choice v.val)).length) (pkC c a (rpk (-1) 3 (v.round - 1) v.choice v.val))) ent31 (fun w hw => pick_c a (-1) 3 (v.round - 1) v.choice v.val A c w (by first | omega | (simp; done) | (simp; omega)) hc (Arr.rd (Rd.arr hr _) hw)) tv2 (T.appD 146 25 43 64 Ao co (out : List Vt) Hro (pkA A c a (rpk (-1) 3 (v.round - 1) v.choice v.val)) (pkC c a (rpk (-1) 3 (v.round - 1) v.choice v.val)) (pkO a (rpk (-1) 3 (v.round - 1) v.choice v.val) : List Vt) pm0 (by kernel_rfl) (by kernel_rfl) (by kernel_rfl) (by kernel_rfl) hrowo (Arr.pick (Rd.arr hr _) c hc (rpk (-1) 3 (v.round - 1) v.choice v.val)) (by unfold maxLen; first | omega | (simp; omega)) (by first | omega | (simp; omega)) tv3 (fun A56 c57 Hr58 hrow59 => T.pu 7 (.slice A56 ((out ++ (pkO a (rpk (-1) 3 (v.round - 1) v.choice v.val))).length) c57) (T.nil (QN.blkNormal (QN.seq (W.seq (W.rg od3 (T.pu 147 (.slice A56 ((out ++ (pkO a (rpk (-1) 3 (v.round - 1) v.choice v.val))).length) c57) (T.appD 148 25 43 64 none 0 ([] : List Vt) [] A56 c57 (out ++ (pkO a (rpk (-1) 3 (v.round - 1) v.choice v.val)) : List Vt) pm0 (by kernel_rfl) (by kernel_rfl) (by kernel_rfl) (by kernel_rfl) RowIs.nil (show Arr (St w (Hr58 ++ (Hr4 ++ [(b1, Obj.cells v.cs 43 (0, 0))]))) A56 (out ++ (pkO a (rpk (-1) 3 (v.round - 1) v.choice v.val))) from (Arr.row hrow59 rfl rfl _)) (by unfold maxLen; first | omega | (simp; omega)) (by first | omega | (simp; omega)) tv3 (fun A60 c61 Hr62 hrow63 => T.pu 6 (.slice A60 ((([] : List Vt) ++ (out ++ (pkO a (rpk (-1) 3 (v.round - 1) v.choice v.val)))).length) c61) (T.nil (QN.seq (W.ret (QN.done (.inl rfl) 6 (.slice A60 ((([] : List Vt) ++ (out ++ (pkO a (rpk (-1) 3 (v.round - 1) v.choice v.val)))).length) c61) rfl (by kernel_rfl) (fun w hw => ?_)))))))))))))))
       exact (have e1 : (([] : List Vt) ++ (out ++ (pkO a (rpk (-1) 3 (v.round - 1) v.choice v.val)))) = rneedL m a v := need_end3 (fm_fin hout (by omega)) h9 h14 h21 h31 h54; by rw [← e1]; exact ⟨A60, c61, Hr62, rfl, hrow63, hw.part (List.sublist_append_left _ _)⟩)
      ·
       have h54n := not_eq_false h54
       refine W.skip (QN.blkNormal (QN.seq (W.seq (W.rg od3 (T.pu 147 (.slice Ao out.length co) (T.appD 148 25 43 64 none 0 ([] : List Vt) [] Ao co (out : List Vt) pm0 (by kernel_rfl) (by kernel_rfl) (by kernel_rfl) (by kernel_rfl) RowIs.nil (show Arr (St w (Hro ++ (Hr4 ++ [(b1, Obj.cells v.cs 43 (0, 0))]))) Ao out from (Arr.row hrowo rfl rfl _)) (by unfold maxLen; first | omega | (simp; omega)) (by first | omega | (simp; omega)) tv3 (fun A64 c65 Hr66 hrow67 => T.pu 6 (.slice A64 ((([] : List Vt) ++ out).length) c65) (T.nil (QN.seq (W.ret (QN.done (.inl rfl) 6 (.slice A64 ((([] : List Vt) ++ out).length) c65) rfl (by kernel_rfl) (fun w hw => ?_))))))))))))
       exact (have e1 : (([] : List Vt) ++ out) = rneedL m a v := need_end4 (fm_fin hout (by omega)) h9 h14 h21 h31 h54; by rw [← e1]; exact ⟨A64, c65, Hr66, rfl, hrow67, hw.part (List.sublist_append_left _ _)⟩)
    ·
     refine W.seq (W.drawn (Ψ := St w (Hr4 ++ [(b1, Obj.cells v.cs 43 (0, 0))])) (St w (Hr4 ++ [(b1, Obj.cells v.cs 43 (0, 0))])) [(0, true), (1, true), (2, false), (3, false)] hmx (by kernel_rfl) (NoPanic.then (NoPanic.inBlock (NoPanic.then NoPanic.body))) (fun w h => h.drew) (fun w h => h) (T.pu 18 (.pointer (some ⟨b1, 2, none⟩)) (T.ld true 19 (.int .i64 v.round) 3 b1 2 (fun w h => St.cellM h (List.mem_append_right _ mm0) (by kernel_rfl)) (T.pi 12 3 (T.pi 13 v.round (T.nil (QN.seq (W.seq (W.seq (W.rg od3 (T.pu 20 (.pointer (some ⟨b1, 0, none⟩)) (T.ld false 21 (.int .i64 v.kind) 3 b1 0 (fun w h => St.cellM h (List.mem_append_right _ mm0) (by kernel_rfl)) (T.pb 22 (v.kind == 3) (T.nil (QN.seq (W.cd (v.kind == 3) (fun h68 => ?_) (fun h68 => ?_)))))))))))))))))
     ·
      refine W.rg od2 (T.pi 12 2 (T.pi 13 0 (T.nil (QN.seq (W.seq (W.rg od1 (T.pi 14 0 (T.nil (QN.seq (W.block (W.loop (σ := Nat × List Vt × Option Addr × Nat × List (Nat × Obj)) (fun gs => gs.1 ≤ (idsI v.support).length ∧ gs.2.1 = ((idsI v.support).take gs.1).flatMap (fun i => pkO a (rpk i 2 0 v.choice v.val)) ∧ RowIs 43 22 gs.2.2.1 gs.2.1.length gs.2.2.2.1 (cells gs.2.1) gs.2.2.2.2) (fun gs => [(2, .slice A a.length c), (4, .pointer (some ⟨b1, 0, none⟩)), (6, .slice none 0 0), (7, .slice gs.2.2.1 gs.2.1.length gs.2.2.2.1), (8, .slice A2 ((idsI v.support).length) c3), (12, .int .i64 2), (13, .int .i64 0), (14, .int .i64 (gs.1 : Int))]) (fun gs => St w (gs.2.2.2.2 ++ (Hr4 ++ [(b1, Obj.cells v.cs 43 (0, 0))]))) (fun gs => (idsI v.support).length - gs.1) (0, [], none, 0, []) ?_ (by kernel_rfl) (fun w h => h) ?_)))))))))))
      ·
       try dsimp only
       exact ⟨Nat.zero_le _, rfl, RowIs.nil⟩
      rintro ⟨j, out, Ao, co, Hro⟩ hI_
      obtain ⟨hj, hout, hrowo⟩ : j ≤ (idsI v.support).length ∧ out = ((idsI v.support).take j).flatMap (fun i => pkO a (rpk i 2 0 v.choice v.val)) ∧ RowIs 43 22 Ao out.length co (cells out) Hro := hI_
      have hol : out.length ≤ j := by rw [hout]; exact fm_len (fun i => pkO_len a _) _ _
      refine W.seq (W.seq (W.rg od4 (T.pi 23 j (T.pu 24 (.slice A2 ((idsI v.support).length) c3) (T.pi 25 (((idsI v.support).length : Nat) : Int) (T.pb 26 (decide ((j : Int) < (((idsI v.support).length : Nat) : Int))) (T.nil (QN.seq (W.cd (decide ((j : Int) < (((idsI v.support).length : Nat) : Int))) (fun h69 => ?_) (fun h69 => ?_))))))))))
      ·
       have h69' := of_decide_eq_true h69
       have hl70 : j < (idsI v.support).length := by omega
       refine W.skip (QN.seq (W.seq (W.block (W.drawn (Ψ := St w (Hro ++ (Hr4 ++ [(b1, Obj.cells v.cs 43 (0, 0))]))) (St w (Hr4 ++ [(b1, Obj.cells v.cs 43 (0, 0))])) [(0, true), (1, true), (2, true), (3, true), (4, true), (5, true), (6, true), (7, true), (8, true), (9, true), (10, true), (11, true), (12, false), (13, false), (14, false)] hmx (by kernel_rfl) (NoPanic.inBlock (NoPanic.then (NoPanic.then (NoPanic.inBlock (NoPanic.inBlock (NoPanic.then NoPanic.body)))))) (fun w h => h.drew) (fun w h => (h.perm (((pm0.append_left Hro).trans (List.perm_append_comm_assoc _ _ _)).trans (((pm0.append_left Hro).trans List.perm_middle).append_left Hr4))).part (List.Sublist.append (List.Sublist.refl _) ns1)) (T.pu 29 (.slice Ao out.length co) (T.pu 30 (.slice A a.length c) (T.pu 31 (.slice A2 ((idsI v.support).length) c3) (T.pi 32 j ?_))))))))
       obtain ⟨b71, o72, hA73, hr74⟩ := (Arr.row hrow5 rfl rfl _) j hl70
       refine T.ix 33 44 3 1 A2 ((idsI v.support).length) c3 (j : Int) j b71 o72 hA73 rfl (by omega) (T.ld true 34 (.int .i64 ((idsI v.support)[j]'hl70)) 3 b71 (o72 + j * 1) (fun w h => cell_of_range (hr74 w h) 0 (by kernel_rfl)) (T.pi 35 2 (T.pi 36 0 (T.pu 37 (.pointer (some ⟨b1, 3, none⟩)) (T.ld true 38 (.int .i64 v.choice) 3 b1 3 (fun w h => St.cellM h (List.mem_append_right _ mm0) (by kernel_rfl)) (T.pu 39 (.pointer (some ⟨b1, 14, none⟩)) (T.lr true 40 v.val.cs 24 b1 14 (fun w h => St.rangeM h v.val.cs (List.mem_append_right _ mm0) (by kernel_rfl)) ?_)))))))
       have hpk75 := pkO_len a (rpk ((idsI v.support)[j]'hl70) 2 0 v.choice v.val)
       refine T.cp 41 31 #[.slice A a.length c, .int .i64 ((idsI v.support)[j]'hl70), .int .i64 2, .int .i64 0, .int .i64 v.choice, .agg v.val.cs] (.slice (pkA A c a (rpk ((idsI v.support)[j]'hl70) 2 0 v.choice v.val)) ((pkO a (rpk ((idsI v.support)[j]'hl70) 2 0 v.choice v.val)).length) (pkC c a (rpk ((idsI v.support)[j]'hl70) 2 0 v.choice v.val))) ent31 (fun w hw => pick_c a ((idsI v.support)[j]'hl70) 2 0 v.choice v.val A c w (by first | omega | (simp; done) | (simp; omega)) hc (Arr.rd (Rd.arr hr _) hw)) (fun w h => (h.perm (((pm0.append_left Hro).trans (List.perm_append_comm_assoc _ _ _)).trans (((pm0.append_left Hro).trans List.perm_middle).append_left Hr4))).part (List.Sublist.append (List.Sublist.refl _) ns1)) (T.appD 42 25 43 64 Ao co (out : List Vt) Hro (pkA A c a (rpk ((idsI v.support)[j]'hl70) 2 0 v.choice v.val)) (pkC c a (rpk ((idsI v.support)[j]'hl70) 2 0 v.choice v.val)) (pkO a (rpk ((idsI v.support)[j]'hl70) 2 0 v.choice v.val) : List Vt) pm0 (by kernel_rfl) (by kernel_rfl) (by kernel_rfl) (by kernel_rfl) hrowo (Arr.pick (Rd.arr hr _) c hc (rpk ((idsI v.support)[j]'hl70) 2 0 v.choice v.val)) (by unfold maxLen; first | omega | (simp; omega)) (by first | omega | (simp; omega)) (fun Hr78 => (fun w h => (h.perm (((pm0.append_left Hr78).trans (List.perm_append_comm_assoc _ _ _)).trans (((pm0.append_left Hr78).trans List.perm_middle).append_left Hr4))).part (List.Sublist.append (List.Sublist.refl _) ns1))) (fun A76 c77 Hr78 hrow79 => T.pu 7 (.slice A76 ((out ++ (pkO a (rpk ((idsI v.support)[j]'hl70) 2 0 v.choice v.val))).length) c77) (T.nil (QN.blkNormal (QN.seq (W.rg od3 (T.pi 27 j (T.pw 28 ((j : Int) + 1) (T.pi 14 ((j : Int) + 1) (T.nil (QN.back (j + 1, out ++ (pkO a (rpk ((idsI v.support)[j]'hl70) 2 0 v.choice v.val)), A76, c77, Hr78) ?_ ?_ (by kernel_rfl) (fun w h => h))))))))))))
       ·
        try dsimp only
        exact ⟨by omega, fm_add (by omega) hout, hrow79⟩
       · show (idsI v.support).length - _ < (idsI v.support).length - _; omega
      ·
       have h69' := of_decide_eq_false h69
       refine W.exit (QN.thenExit (QN.thenExit (QN.blkHit (QN.blkNormal (QN.seq (W.seq (W.rg od3 (T.pu 147 (.slice Ao out.length co) (T.appD 148 25 43 64 none 0 ([] : List Vt) [] Ao co (out : List Vt) pm0 (by kernel_rfl) (by kernel_rfl) (by kernel_rfl) (by kernel_rfl) RowIs.nil (show Arr (St w (Hro ++ (Hr4 ++ [(b1, Obj.cells v.cs 43 (0, 0))]))) Ao out from (Arr.row hrowo rfl rfl _)) (by unfold maxLen; first | omega | (simp; omega)) (by first | omega | (simp; omega)) tv3 (fun A80 c81 Hr82 hrow83 => T.pu 6 (.slice A80 ((([] : List Vt) ++ out).length) c81) (T.nil (QN.seq (W.ret (QN.done (.inl rfl) 6 (.slice A80 ((([] : List Vt) ++ out).length) c81) rfl (by kernel_rfl) (fun w hw => ?_)))))))))))))))
       exact (have e1 : (([] : List Vt) ++ out) = rneedL m a v := need_end5 (fm_fin hout (by omega)) h9 h14 h21 h31 h68; by rw [← e1]; exact ⟨A80, c81, Hr82, rfl, hrow83, hw.part (List.sublist_append_left _ _)⟩)
     ·
      refine W.skip (QN.seq (W.seq (W.rg od1 (T.pi 14 0 (T.nil (QN.seq (W.block (W.loop (σ := Nat × List Vt × Option Addr × Nat × List (Nat × Obj)) (fun gs => gs.1 ≤ (idsI v.support).length ∧ gs.2.1 = ((idsI v.support).take gs.1).flatMap (fun i => pkO a (rpk i 3 v.round v.choice v.val)) ∧ RowIs 43 22 gs.2.2.1 gs.2.1.length gs.2.2.2.1 (cells gs.2.1) gs.2.2.2.2) (fun gs => [(2, .slice A a.length c), (4, .pointer (some ⟨b1, 0, none⟩)), (6, .slice none 0 0), (7, .slice gs.2.2.1 gs.2.1.length gs.2.2.2.1), (8, .slice A2 ((idsI v.support).length) c3), (12, .int .i64 3), (13, .int .i64 v.round), (14, .int .i64 (gs.1 : Int))]) (fun gs => St w (gs.2.2.2.2 ++ (Hr4 ++ [(b1, Obj.cells v.cs 43 (0, 0))]))) (fun gs => (idsI v.support).length - gs.1) (0, [], none, 0, []) ?_ (by kernel_rfl) (fun w h => h) ?_))))))))
      ·
       try dsimp only
       exact ⟨Nat.zero_le _, rfl, RowIs.nil⟩
      rintro ⟨j, out, Ao, co, Hro⟩ hI_
      obtain ⟨hj, hout, hrowo⟩ : j ≤ (idsI v.support).length ∧ out = ((idsI v.support).take j).flatMap (fun i => pkO a (rpk i 3 v.round v.choice v.val)) ∧ RowIs 43 22 Ao out.length co (cells out) Hro := hI_
      have hol : out.length ≤ j := by rw [hout]; exact fm_len (fun i => pkO_len a _) _ _
      refine W.seq (W.seq (W.rg od4 (T.pi 23 j (T.pu 24 (.slice A2 ((idsI v.support).length) c3) (T.pi 25 (((idsI v.support).length : Nat) : Int) (T.pb 26 (decide ((j : Int) < (((idsI v.support).length : Nat) : Int))) (T.nil (QN.seq (W.cd (decide ((j : Int) < (((idsI v.support).length : Nat) : Int))) (fun h84 => ?_) (fun h84 => ?_))))))))))
      ·
       have h84' := of_decide_eq_true h84
       have hl85 : j < (idsI v.support).length := by omega
       refine W.skip (QN.seq (W.seq (W.block (W.drawn (Ψ := St w (Hro ++ (Hr4 ++ [(b1, Obj.cells v.cs 43 (0, 0))]))) (St w (Hr4 ++ [(b1, Obj.cells v.cs 43 (0, 0))])) [(0, true), (1, true), (2, true), (3, true), (4, true), (5, true), (6, true), (7, true), (8, true), (9, true), (10, true), (11, true), (12, false), (13, false), (14, false)] hmx (by kernel_rfl) (NoPanic.inBlock (NoPanic.then (NoPanic.then (NoPanic.inBlock (NoPanic.inBlock (NoPanic.then NoPanic.body)))))) (fun w h => h.drew) (fun w h => (h.perm (((pm0.append_left Hro).trans (List.perm_append_comm_assoc _ _ _)).trans (((pm0.append_left Hro).trans List.perm_middle).append_left Hr4))).part (List.Sublist.append (List.Sublist.refl _) ns1)) (T.pu 29 (.slice Ao out.length co) (T.pu 30 (.slice A a.length c) (T.pu 31 (.slice A2 ((idsI v.support).length) c3) (T.pi 32 j ?_))))))))
       obtain ⟨b86, o87, hA88, hr89⟩ := (Arr.row hrow5 rfl rfl _) j hl85
       refine T.ix 33 44 3 1 A2 ((idsI v.support).length) c3 (j : Int) j b86 o87 hA88 rfl (by omega) (T.ld true 34 (.int .i64 ((idsI v.support)[j]'hl85)) 3 b86 (o87 + j * 1) (fun w h => cell_of_range (hr89 w h) 0 (by kernel_rfl)) (T.pi 35 3 (T.pi 36 v.round (T.pu 37 (.pointer (some ⟨b1, 3, none⟩)) (T.ld true 38 (.int .i64 v.choice) 3 b1 3 (fun w h => St.cellM h (List.mem_append_right _ mm0) (by kernel_rfl)) (T.pu 39 (.pointer (some ⟨b1, 14, none⟩)) (T.lr true 40 v.val.cs 24 b1 14 (fun w h => St.rangeM h v.val.cs (List.mem_append_right _ mm0) (by kernel_rfl)) ?_)))))))
       have hpk90 := pkO_len a (rpk ((idsI v.support)[j]'hl85) 3 v.round v.choice v.val)
       refine T.cp 41 31 #[.slice A a.length c, .int .i64 ((idsI v.support)[j]'hl85), .int .i64 3, .int .i64 v.round, .int .i64 v.choice, .agg v.val.cs] (.slice (pkA A c a (rpk ((idsI v.support)[j]'hl85) 3 v.round v.choice v.val)) ((pkO a (rpk ((idsI v.support)[j]'hl85) 3 v.round v.choice v.val)).length) (pkC c a (rpk ((idsI v.support)[j]'hl85) 3 v.round v.choice v.val))) ent31 (fun w hw => pick_c a ((idsI v.support)[j]'hl85) 3 v.round v.choice v.val A c w (by first | omega | (simp; done) | (simp; omega)) hc (Arr.rd (Rd.arr hr _) hw)) (fun w h => (h.perm (((pm0.append_left Hro).trans (List.perm_append_comm_assoc _ _ _)).trans (((pm0.append_left Hro).trans List.perm_middle).append_left Hr4))).part (List.Sublist.append (List.Sublist.refl _) ns1)) (T.appD 42 25 43 64 Ao co (out : List Vt) Hro (pkA A c a (rpk ((idsI v.support)[j]'hl85) 3 v.round v.choice v.val)) (pkC c a (rpk ((idsI v.support)[j]'hl85) 3 v.round v.choice v.val)) (pkO a (rpk ((idsI v.support)[j]'hl85) 3 v.round v.choice v.val) : List Vt) pm0 (by kernel_rfl) (by kernel_rfl) (by kernel_rfl) (by kernel_rfl) hrowo (Arr.pick (Rd.arr hr _) c hc (rpk ((idsI v.support)[j]'hl85) 3 v.round v.choice v.val)) (by unfold maxLen; first | omega | (simp; omega)) (by first | omega | (simp; omega)) (fun Hr93 => (fun w h => (h.perm (((pm0.append_left Hr93).trans (List.perm_append_comm_assoc _ _ _)).trans (((pm0.append_left Hr93).trans List.perm_middle).append_left Hr4))).part (List.Sublist.append (List.Sublist.refl _) ns1))) (fun A91 c92 Hr93 hrow94 => T.pu 7 (.slice A91 ((out ++ (pkO a (rpk ((idsI v.support)[j]'hl85) 3 v.round v.choice v.val))).length) c92) (T.nil (QN.blkNormal (QN.seq (W.rg od3 (T.pi 27 j (T.pw 28 ((j : Int) + 1) (T.pi 14 ((j : Int) + 1) (T.nil (QN.back (j + 1, out ++ (pkO a (rpk ((idsI v.support)[j]'hl85) 3 v.round v.choice v.val)), A91, c92, Hr93) ?_ ?_ (by kernel_rfl) (fun w h => h))))))))))))
       ·
        try dsimp only
        exact ⟨by omega, fm_add (by omega) hout, hrow94⟩
       · show (idsI v.support).length - _ < (idsI v.support).length - _; omega
      ·
       have h84' := of_decide_eq_false h84
       refine W.exit (QN.thenExit (QN.thenExit (QN.blkHit (QN.blkNormal (QN.seq (W.seq (W.rg od3 (T.pu 147 (.slice Ao out.length co) (T.appD 148 25 43 64 none 0 ([] : List Vt) [] Ao co (out : List Vt) pm0 (by kernel_rfl) (by kernel_rfl) (by kernel_rfl) (by kernel_rfl) RowIs.nil (show Arr (St w (Hro ++ (Hr4 ++ [(b1, Obj.cells v.cs 43 (0, 0))]))) Ao out from (Arr.row hrowo rfl rfl _)) (by unfold maxLen; first | omega | (simp; omega)) (by first | omega | (simp; omega)) tv3 (fun A95 c96 Hr97 hrow98 => T.pu 6 (.slice A95 ((([] : List Vt) ++ out).length) c96) (T.nil (QN.seq (W.ret (QN.done (.inl rfl) 6 (.slice A95 ((([] : List Vt) ++ out).length) c96) rfl (by kernel_rfl) (fun w hw => ?_)))))))))))))))
       exact (have e1 : (([] : List Vt) ++ out) = rneedL m a v := need_end6 (fm_fin hout (by omega)) h9 h14 h21 h31 h68; by rw [← e1]; exact ⟨A95, c96, Hr97, rfl, hrow98, hw.part (List.sublist_append_left _ _)⟩)
end Go.Proofs.YtphnfhonmbbddaaGreat
