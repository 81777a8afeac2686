/- sort.Slice over a row. -/
import Derived.Test.YtphnfhonmbbddaaSrt5
import Derived.Test.YtphnfhonmbbddaaGA
namespace Go.Proofs.Ytphnfhonmbbddaa
open Go Go.RowKit
set_option linter.unusedVariables false

section
open Go.Lib Go.Extern
theorem valueOf_x {t e : TypeId} {ti : TypeInfo} (hi : Try.prog.info? t = some ti) (hdsc : ti.desc = .slice e) (A : Option Addr) (n c : Nat) {w00 : World} {H : List (Nat × Obj)} (w : World) (hw : St w00 H w) :
    ∃ (x : Nat) (w' : World), (callFunc 69 #[.iface t (.slice A n c)]).run Try.prog w = .ok (.value (.agg #[typeHandle Try.prog t, .pointer (some ⟨x, 0, none⟩), .int .u64 (151)])) w' ∧ St w00 ((x, .cells #[.slice A n c] t (0, 0)) :: H) w' := by
  refine ⟨w.heap.size, w.alloc (.cells #[.slice A n c] t), ?_, hw.alloc _⟩
  rw [run_callFunc_extern Try.func69 (by kernel_rfl) (by kernel_rfl) (by kernel_rfl) (e := fun args => Extern.ReflectliteValue.unpack (args.getD 0 (.tuple #[]))) (by kernel_rfl), show Sem.run Try.prog ((fun args : Array Value => Extern.ReflectliteValue.unpack (args.getD 0 (.tuple #[]))) #[.iface t (.slice A n c)]) w = _ from run_valueOf_slice (P := Try.prog) t e ti hi hdsc A n c w]
  rfl
theorem swapper_x {t e : TypeId} {ti ie : TypeInfo} (hi : Try.prog.info? t = some ti) (hdsc : ti.desc = .slice e) (hie : Try.prog.info? e = some ie) (ke : Nat) (hke : ∀ w, (Extern.Rtype.kind e).run Try.prog w = .ok ke w) (A : Option Addr) (n c : Nat) (sf : Nat) (hf : Try.prog.funcs.findIdx? (·.name == "internal/reflectlite" ++ ".Swapper$" ++ toString (swapperK n ie ke)) = some sf) (sb : Array Value) (hsb : (if swapperK n ie ke ≤ 2 then #[] else #[.slice A n c, typeHandle Try.prog e]) = sb) {w00 : World} {H : List (Nat × Obj)} (w : World) (hw : St w00 H w) :
    ∃ (x : Unit) (w' : World), (callFunc 70 #[.iface t (.slice A n c)]).run Try.prog w = .ok (.value (.func (.func sf) #[] sb)) w' ∧ St w00 H w' := by
  refine ⟨(), w, ?_, hw⟩
  rw [run_callFunc_extern Try.func70 (by kernel_rfl) (by kernel_rfl) (by kernel_rfl) (e := Extern.ReflectliteSwapper.swapper "internal/reflectlite" (Extern.ReflectliteValue.valueError "Swapper")) (by kernel_rfl), run_swapper_slice t e ti ie hi hdsc hie ke hke A n c sf hf w, hsb]
  rfl
theorem valueLen_x {t e : TypeId} {ti : TypeInfo} (hi : Try.prog.info? t = some ti) (hdsc : ti.desc = .slice e) (hpk : Try.prog.packed t = false) (A : Option Addr) (n c b : Nat) {w00 : World} {H : List (Nat × Obj)} (w : World) (hw : St w00 H w) (hb : (b, .cells #[.slice A n c] t (0, 0)) ∈ H) :
    ∃ (x : Unit) (w' : World), (callFunc 71 #[.agg #[typeHandle Try.prog t, .pointer (some ⟨b, 0, none⟩), .int .u64 (151)]]).run Try.prog w = .ok (.value (.int .i64 (n : Int))) w' ∧ St w00 H w' := by
  refine ⟨(), w, ?_, hw⟩
  rw [run_callFunc_extern Try.func71 (by kernel_rfl) (by kernel_rfl) (by kernel_rfl) (e := Extern.ReflectliteValue.method (Extern.ReflectliteValue.valueError "reflectlite.Value.Len" 0) Extern.ReflectliteValue.len) (by kernel_rfl), run_valueLen_slice t e ti hi hdsc hpk ⟨b, 0, none⟩ A n c w (hw.cellM hb rfl)]
  rfl
end
set_option maxRecDepth 100000 in
set_option maxHeartbeats 2000000 in
theorem slice_w {t e : TypeId} {ti ie : TypeInfo} (hi : Try.prog.info? t = some ti) (hdsc : ti.desc = .slice e) (hpk : Try.prog.packed t = false) (hie : Try.prog.info? e = some ie) (ke : Nat) (hke : ∀ w, (Extern.Rtype.kind e).run Try.prog w = .ok ke w) (A : Option Addr) (n c : Nat) (hn : n < 65536) (sf : Nat) (hf : Try.prog.funcs.findIdx? (·.name == "internal/reflectlite" ++ ".Swapper$" ++ toString (Lib.swapperK n ie ke)) = some sf) (sb : Array Value) (hsb : (if Lib.swapperK n ie ke ≤ 2 then #[] else #[.slice A n c, typeHandle Try.prog e]) = sb) (kf : Nat) (lb : Array Value) {w00 : World} {H : List (Nat × Obj)} {γ : Type} (p : γ → Prop) (F : γ → List (Nat × Obj))
  (hp : ∀ (q r : Nat) (w : World), St w00 ((q, .cells #[typeHandle Try.prog t, .pointer (some ⟨r, 0, none⟩), .int .u64 151] 109 (0, 0)) :: (r, .cells #[.slice A n c] t (0, 0)) :: H) w → Calls Try.prog 73 #[.agg (LS kf lb sf sb), .int .i64 0, .int .i64 n, .int .i64 ((Sort.bitsLen n : Nat) : Int)] w fun rr w' => ∃ x, p x ∧ rr = .returned (.tuple #[]) ∧ St w00 (F x) w') (w : World) (hst : St w00 H w) : Calls Try.prog 52 #[.iface t (.slice A n c), .func (.func kf) #[] lb] w (fun rr w' => ∃ x, p x ∧ rr = .returned (.tuple #[]) ∧ St w00 (F x) w') := by
 refine calls_W (n := 23) Try.func52 rfl [(0, .iface t (.slice A n c)), (1, .func (.func kf) #[] lb)] rfl ⟨by kernel_rfl, by kernel_rfl⟩ (W.weak (Ψ := St w00 H) (fun w' h => by rw [h]; exact hst) (W.seq (W.rg od4 (T.pu 8 (.iface t (.slice A n c)) (T.callVG (β := Nat) 9 69 #[.iface t (.slice A n c)] (fun r => .agg #[typeHandle Try.prog t, .pointer (some ⟨r, 0, none⟩), .int .u64 151]) (fun r => St w00 ((r, Obj.cells #[.slice A n c] t (0, 0)) :: H)) (by kernel_rfl) (by kernel_rfl) ?_ tv3 ?_)))))
 · exact fun w hw => valueOf_x hi hdsc A n c w hw
 intro r
 refine T.al 4 109 #[.pointer none, .pointer none, .int .u64 0] tv3 (fun b1 => T.sp 109 b1 0 (.agg #[typeHandle Try.prog t, .pointer (some ⟨r, 0, none⟩), .int .u64 151]) #[.pointer none, .pointer none, .int .u64 0] #[typeHandle Try.prog t, .pointer (some ⟨r, 0, none⟩), .int .u64 151] 109 pm0 tv2 (T.nil (QN.seq (W.seq (W.rg od3 (T.pu 10 (.iface t (.slice A n c)) (T.callVG (β := Unit) 11 70 #[.iface t (.slice A n c)] (fun _ => .func (.func sf) #[] sb) (fun _ => St w00 ((b1, Obj.cells #[typeHandle Try.prog t, .pointer (some ⟨r, 0, none⟩), .int .u64 151] 109 (0, 0)) :: ((r, Obj.cells #[.slice A n c] t (0, 0)) :: H))) (by kernel_rfl) (by kernel_rfl) ?_ tv3 ?_)))))))
 · exact fun w hw => swapper_x hi hdsc hie ke hke A n c sf hf sb hsb w hw
 intro _
 refine T.pu 5 (.func (.func sf) #[] sb) (T.nil (QN.seq (W.seq (W.rg od3 (T.lr false 12 #[typeHandle Try.prog t, .pointer (some ⟨r, 0, none⟩), .int .u64 151] 109 b1 0 (fun w h => St.rangeM h #[typeHandle Try.prog t, .pointer (some ⟨r, 0, none⟩), .int .u64 151] mm0 (by kernel_rfl)) (T.callVG (β := Unit) 13 71 #[.agg #[typeHandle Try.prog t, .pointer (some ⟨r, 0, none⟩), .int .u64 151]] (fun _ => .int .i64 n) (fun _ => St w00 ((b1, Obj.cells #[typeHandle Try.prog t, .pointer (some ⟨r, 0, none⟩), .int .u64 151] 109 (0, 0)) :: ((r, Obj.cells #[.slice A n c] t (0, 0)) :: H))) (by kernel_rfl) (by kernel_rfl) ?_ tv3 ?_))))))
 · exact fun w hw => valueLen_x hi hdsc hpk A n c r w hw mm1
 intro _
 refine T.pi 6 n (T.nil (QN.seq (W.seq (W.rg od4 (T.pi 14 n (T.pe 15 (.int .u64 (IntKind.u64.wrap (n : Int))) (.int .u64 (n : Int)) (wrapu_int (by omega) (by omega)) (T.cp 16 72 #[.int .u64 (n : Int)] (.int .i64 ((Sort.bitsLen n : Nat) : Int)) ent72 (fun w hw => len_c n hn w) tv2 (T.pi 7 ((Sort.bitsLen n : Nat) : Int) (T.nil (QN.seq (W.rg od6 (T.pu 17 (.func (.func kf) #[] lb) (T.pu 18 (.func (.func sf) #[] sb) (T.pu 19 (.agg (LS kf lb sf sb)) (T.pi 20 n (T.pi 21 ((Sort.bitsLen n : Nat) : Int) (T.callG (β := γ) 22 73 #[.agg (LS kf lb sf sb), .int .i64 0, .int .i64 n, .int .i64 ((Sort.bitsLen n : Nat) : Int)] (fun gs => .tuple #[]) (fun gs => St w00 (F gs)) (fun gs => p gs) (by kernel_rfl) (by kernel_rfl) ent73 ?_ tv3 ?_)))))))))))))))))
 · exact fun w hw => hp b1 r w ((fun w h => h) w hw)
 rintro xx hp_
 have hp2 : p xx := hp_
 refine T.nil (QN.done0 (.inr rfl) rfl (fun w hw => ?_))
 exact ⟨_, hp2, rfl, hw⟩
theorem swap_one (w : World) : (callFunc 92 #[.int .i64 0, .int .i64 0]).run Try.prog w = .ok (.value (.tuple #[])) w := by kernel_rfl
theorem swp_one {α : Type} [Inhabited α] (d : Array α) (hd : d.size = 1) : Sort.swp d 0 0 = d := by
  obtain ⟨x, rfl⟩ := Array.size_eq_one_iff.1 hd
  rfl
/-- What is known of the element type of a slice that is sorted. -/
structure SortTy (t e : TypeId) (sz : Nat) : Prop where
  ex : ∃ ti ie ke, Try.prog.info? t = some ti ∧ ti.desc = .slice e ∧ Try.prog.packed t = false ∧ Try.prog.info? e = some ie ∧ (∀ w, (Extern.Rtype.kind e).run Try.prog w = .ok ke w) ∧ ie.size = sz ∧ (∀ w, (isAgg e).run Try.prog w = .ok true w) ∧ ((∀ n, 2 ≤ n → Lib.swapperK n ie ke = 9) ∨ ∀ n, 2 ≤ n → Lib.swapperK n ie ke = 5)
section
variable {α : Type} [Cel α] [Inhabited α]
theorem slice_c {t e : TypeId} (hT : SortTy t e (Cel.sz α)) {w00 : World} {g n c : Nat} {ty : TypeId} {tail : List Value} {lt : α → α → Bool} {kf : Nat} {lb : Array Value} {H0 : List (Nat × Obj)} (hn0 : 1 ≤ n) (hn : n ≤ 1000) (hent : Enters Try.prog kf)
    (hless : ∀ (H' : List (Nat × Obj)) (d : Array α) (w : World) (x y : Int) (i j : Nat), d.size = n → x = (i : Int) → y = (j : Int) → i < n → j < n → St w00 ((g, .cells (rowb d tail) ty (0, 0)) :: (H' ++ H0)) w → Ret Try.prog kf (#[.int .i64 x, .int .i64 y] ++ lb) w (.bool (lt d[i]! d[j]!))) (hswo : Sort.SWO lt)
    (d : Array α) (hd : d.size = n) (w : World) (hst : St w00 ((g, .cells (rowb d tail) ty (0, 0)) :: H0) w) :
    Calls Try.prog 52 #[.iface t (.slice (some ⟨g, 0, none⟩) n c), .func (.func kf) #[] lb] w fun rr w' => ∃ gs : Array α, (Sort.PermIn 0 n d gs ∧ Sort.SortedIn lt 0 n gs) ∧ rr = .returned (.tuple #[]) ∧ St w00 ((g, .cells (rowb gs tail) ty (0, 0)) :: H0) w' := by
  obtain ⟨ti, ie, ke, hi, hdsc, hpk, hie, hke, hsz, hagg, hK⟩ := hT.ex
  have key : ∀ (sf : Nat) (sb : Array Value), Try.prog.funcs.findIdx? (·.name == "internal/reflectlite" ++ ".Swapper$" ++ toString (Lib.swapperK n ie ke)) = some sf → (if Lib.swapperK n ie ke ≤ 2 then #[] else #[.slice (some ⟨g, 0, none⟩) n c, typeHandle Try.prog e]) = sb →
      (∀ (H : List (Nat × Obj)) (d : Array α) (w : World) (x y : Int) (i j : Nat), d.size = n → x = (i : Int) → y = (j : Int) → i < n → j < n → St w00 ((g, .cells (rowb d tail) ty (0, 0)) :: H) w → ∃ w', (callFunc sf (#[.int .i64 x, .int .i64 y] ++ sb)).run Try.prog w = .ok (.value (.tuple #[])) w' ∧ St w00 ((g, .cells (rowb (Sort.swp d i j) tail) ty (0, 0)) :: H) w') →
      Calls Try.prog 52 #[.iface t (.slice (some ⟨g, 0, none⟩) n c), .func (.func kf) #[] lb] w fun rr w' => ∃ gs : Array α, (Sort.PermIn 0 n d gs ∧ Sort.SortedIn lt 0 n gs) ∧ rr = .returned (.tuple #[]) ∧ St w00 ((g, .cells (rowb gs tail) ty (0, 0)) :: H0) w' := by
    intro sf sb hf hsb hsw
    have hS : SortOk Try.prog α w00 g n ty tail lt kf lb sf sb H0 := ⟨hent, hless, fun H' d w x y i j => hsw (H' ++ H0) d w x y i j, hswo⟩
    refine slice_w hi hdsc hpk hie ke hke (some ⟨g, 0, none⟩) n c (by omega) sf hf sb hsb kf lb (γ := Array α) (fun gs => Sort.PermIn 0 n d gs ∧ Sort.SortedIn lt 0 n gs) (fun gs => (g, .cells (rowb gs tail) ty (0, 0)) :: H0) ?_ w hst
    intro q r w1 h1
    have hb := bl_bd n 10 (by omega)
    have h2 := h1.perm (H' := (g, .cells (rowb d tail) ty (0, 0)) :: ([(q, .cells #[typeHandle Try.prog t, .pointer (some ⟨r, 0, none⟩), .int .u64 (151)] 109 (0, 0)), (r, .cells #[.slice (some ⟨g, 0, none⟩) n c] t (0, 0))] ++ H0)) (((List.Perm.swap _ _ _).cons _).trans (List.Perm.swap _ _ _))
    refine (pdq_c hS hn (n + 1) d 0 n ((Sort.bitsLen n : Nat) : Int) hd (by omega) (by omega) (by omega) (by omega) (by omega) (Or.inl rfl) _ w1 h2).mono ?_
    rintro rr w' ⟨gs, h3, h4, h5⟩
    exact ⟨gs, h3, h4, h5.part (List.Sublist.cons_cons _ (List.sublist_append_right _ _))⟩
  by_cases h1 : n = 1
  · subst h1
    refine key 92 #[] (by kernel_rfl) rfl ?_
    intro H d w x y i j hd hx hy hi hj hw
    have hi0 : i = 0 := by omega
    have hj0 : j = 0 := by omega
    subst hi0 hj0
    subst hx hy
    exact ⟨w, swap_one w, by rw [swp_one d hd]; exact hw⟩
  · rcases hK with hK | hK
    · have h9 := hK n (by omega)
      refine key 99 #[.slice (some ⟨g, 0, none⟩) n c, typeHandle Try.prog e] (by rw [h9]; kernel_rfl) (by rw [h9]; rfl) ?_
      intro H d w x y i j hd hx hy hi hj hw
      subst hx hy
      obtain ⟨w', h1, h2⟩ := run_swapRow (P := Try.prog) (c := c) false e ie hie hsz hagg d hd i j hi hj w hw
      refine ⟨w', ?_, h2⟩
      rw [run_callFunc_extern Try.func99 (by kernel_rfl) (by kernel_rfl) (by kernel_rfl) (e := Extern.ReflectliteSwapper.swap false) (by kernel_rfl)]
      show Result.andThen (Sem.run Try.prog (Extern.ReflectliteSwapper.swap false #[.int .i64 i, .int .i64 j, .slice (some ⟨g, 0, none⟩) n c, typeHandle Try.prog e]) w) _ = _
      rw [h1]
      rfl
    · have h9 := hK n (by omega)
      refine key 95 #[.slice (some ⟨g, 0, none⟩) n c, typeHandle Try.prog e] (by rw [h9]; kernel_rfl) (by rw [h9]; rfl) ?_
      intro H d w x y i j hd hx hy hi hj hw
      subst hx hy
      obtain ⟨w', h1, h2⟩ := run_swapRow (P := Try.prog) (c := c) true e ie hie hsz hagg d hd i j hi hj w hw
      refine ⟨w', ?_, h2⟩
      rw [run_callFunc_extern Try.func95 (by kernel_rfl) (by kernel_rfl) (by kernel_rfl) (e := Extern.ReflectliteSwapper.swap true) (by kernel_rfl)]
      show Result.andThen (Sem.run Try.prog (Extern.ReflectliteSwapper.swap true #[.int .i64 i, .int .i64 j, .slice (some ⟨g, 0, none⟩) n c, typeHandle Try.prog e]) w) _ = _
      rw [h1]
      rfl
/-- A row of no elements. -/
theorem slice0_c {t e : TypeId} (hT : SortTy t e (Cel.sz α)) {w00 : World} {A : Option Addr} {c : Nat} {kf : Nat} {lb : Array Value} {H0 : List (Nat × Obj)} (hent : Enters Try.prog kf) (w : World) (hst : St w00 H0 w) :
    Calls Try.prog 52 #[.iface t (.slice A 0 c), .func (.func kf) #[] lb] w fun rr w' => rr = .returned (.tuple #[]) ∧ St w00 H0 w' := by
  obtain ⟨ti, ie, ke, hi, hdsc, hpk, hie, hke, hsz, hagg, hK⟩ := hT.ex
  refine (slice_w hi hdsc hpk hie ke hke A 0 c (by omega) 91 (by kernel_rfl) #[] rfl kf lb (γ := Unit) (fun _ => True) (fun _ => H0) ?_ w hst).mono (fun rr w' ⟨_, _, h1, h2⟩ => ⟨h1, h2⟩)
  intro q r w1 h1
  have hS : SortOk Try.prog α w00 r 0 t [.slice A 0 c] (fun _ _ => false) kf lb 91 #[] ([(q, .cells #[typeHandle Try.prog t, .pointer (some ⟨r, 0, none⟩), .int .u64 (151)] 109 (0, 0))] ++ H0) :=
    ⟨hent, fun _ _ _ _ _ _ _ _ _ _ h => absurd h (by omega), fun _ _ _ _ _ _ _ _ _ _ h => absurd h (by omega), ⟨fun _ => rfl, fun _ _ _ h => (by cases h), fun _ _ _ _ _ => rfl⟩⟩
  refine (pdq_c hS (by omega) 1 #[] 0 0 ((Sort.bitsLen 0 : Nat) : Int) rfl (by omega) (by omega) (by decide) (by decide) (by omega) (Or.inl rfl) [] w1 (h1.perm (List.Perm.swap _ _ _))).mono ?_
  rintro rr w' ⟨gs, h3, h4, h5⟩
  exact ⟨(), trivial, h4, h5.part (.cons _ (.cons _ (List.Sublist.refl _)))⟩
end
end Go.Proofs.Ytphnfhonmbbddaa

/- sort.Slice over a slice that the call owns. -/
namespace Go.Proofs.Ytphnfhonmbbddaa
open Go Go.RowKit
set_option linter.unusedVariables false

section
variable {α : Type} [Cel α] [Inhabited α]
omit [Inhabited α] in
theorem rowb_of {e : TypeId} {A : Option Addr} {c : Nat} {l : List α} {Hr : List (Nat × Obj)} (h : RowIs e (Cel.sz α) A l.length c (cells l) Hr) (h0 : 0 < l.length) :
    ∃ g tail, A = some ⟨g, 0, none⟩ ∧ Hr = [(g, .cells (rowb l.toArray tail) e (0, 0))] ∧ ∀ d : List α, d.length = l.length → RowIs e (Cel.sz α) A l.length c (cells d) [(g, .cells (rowb d.toArray tail) e (0, 0))] := by
  generalize hn : l.length = n at h
  generalize hx : cells l = xs at h
  cases h with
  | nil => omega
  | row g cap n cur xs h1 h2 h3 h4 h5 =>
    subst hn
    have hz := Cel.pos (α := α)
    refine ⟨g, cur.toList.drop (l.length * Cel.sz α), rfl, ?_, fun d hd => RowIs.row g c l.length _ (cells d) h1 h2 ?_ ?_ (by rw [cells_len, hd])⟩
    · have : rowb l.toArray (cur.toList.drop (l.length * Cel.sz α)) = cur := by
        unfold rowb
        rw [show l.toArray.toList = l from rfl, hx, ← h4, List.take_append_drop, Array.toArray_toList]
      rw [this]
    · rw [rowb_size]
      simp only [List.size_toArray, List.length_drop, Array.length_toList, h3, hd]
      have : l.length * Cel.sz α ≤ c * Cel.sz α := Nat.mul_le_mul_right _ h1
      omega
    · unfold rowb
      rw [show (cells d.toArray.toList ++ cur.toList.drop (l.length * Cel.sz α)).toArray.toList = cells d ++ cur.toList.drop (l.length * Cel.sz α) from rfl, List.take_left' (by rw [cells_len, hd])]
/-- Ascending: no later one is less than an earlier one. -/
def Asc (lt : α → α → Bool) (l : List α) : Prop := ∀ i j (hi : i < l.length) (hj : j < l.length), i < j → lt l[j] l[i] = false
theorem sliceR_c {t e : TypeId} (hT : SortTy t e (Cel.sz α)) {w00 : World} {A : Option Addr} {c : Nat} {l : List α} {Hr H0 : List (Nat × Obj)} {lt : α → α → Bool} {kf : Nat} {lb : Array Value} (hrow : RowIs e (Cel.sz α) A l.length c (cells l) Hr) (hn : l.length ≤ 1000) (hent : Enters Try.prog kf)
    (hless : ∀ (d : List α) (w : World) (i j : Nat) (hi : i < d.length) (hj : j < d.length), d.length = l.length → Rd w A d → (∀ p ∈ H0, w.heap[p.1]? = some p.2) → Ret Try.prog kf (#[.int .i64 (i : Int), .int .i64 (j : Int)] ++ lb) w (.bool (lt d[i] d[j]))) (hswo : Sort.SWO lt) (w : World) (hst : St w00 (Hr ++ H0) w) :
    Calls Try.prog 52 #[.iface t (.slice A l.length c), .func (.func kf) #[] lb] w fun rr w' => ∃ gs : List α × List (Nat × Obj), (gs.1.Perm l ∧ Asc lt gs.1 ∧ RowIs e (Cel.sz α) A l.length c (cells gs.1) gs.2) ∧ rr = .returned (.tuple #[]) ∧ St w00 (gs.2 ++ H0) w' := by
  by_cases h0 : l.length = 0
  · rw [h0]
    refine (slice0_c (α := α) hT hent w hst).mono ?_
    rintro rr w' ⟨h1, h2⟩
    refine ⟨(l, Hr), ⟨List.Perm.refl _, fun i j hi => by simp only at hi; omega, ?_⟩, h1, h2⟩
    rw [← h0]; exact hrow
  · obtain ⟨g, tail, hA, hHr, hall⟩ := rowb_of hrow (by omega)
    subst hA hHr
    refine (slice_c (α := α) (tail := tail) (lt := lt) hT (by omega) hn hent ?_ hswo l.toArray (by simp) w hst).mono ?_
    · intro H' d w x y i j hd hx hy hi hj hw
      subst hx hy
      have hr := hall d.toList (by simpa using hd)
      have hi' : i < d.toList.length := by simp; omega
      have hj' : j < d.toList.length := by simp; omega
      have hrd : Rd w (some ⟨g, 0, none⟩) d.toList := (Arr.row (w0 := w00) hr rfl (by simpa using hd.symm) (H' ++ H0)).rd hw
      have := hless d.toList w i j hi' hj' (by simpa using hd) hrd (fun p hp => (hw.has p (List.mem_cons_of_mem _ (List.mem_append_right _ hp))).2)
      rw [getElem!_pos d i (by omega), getElem!_pos d j (by omega)]
      simpa using this
    · rintro rr w' ⟨gs, ⟨h1, h2⟩, h3, h4⟩
      have hsz : gs.size = l.length := by simpa using h1.1
      refine ⟨(gs.toList, [(g, .cells (rowb gs tail) e (0, 0))]), ⟨?_, ?_, ?_⟩, h3, h4⟩
      · have h5 := h1.2.2
        rw [Array.extract_eq_self_of_le (by omega), Array.extract_eq_self_of_le (by simp)] at h5
        exact h5
      · intro i j hi hj hij
        have hi' : i < gs.size := by simpa using hi
        have hj' : j < gs.size := by simpa using hj
        have := h2 i j (by omega) hij (by omega)
        rw [getElem!_pos gs i hi', getElem!_pos gs j hj'] at this
        simpa using this
      · exact hall gs.toList (by simpa using hsz)
end
end Go.Proofs.Ytphnfhonmbbddaa

/- The order of names and of votes. -/
namespace Go.Proofs.Ytphnfhonmbbddaa
open Go Go.RowKit
set_option linter.unusedVariables false

def Nm.at (a : Nm) (j : Nat) : UInt8 := match j with | 0 => a.b0 | 1 => a.b1 | 2 => a.b2 | 3 => a.b3 | 4 => a.b4 | 5 => a.b5 | 6 => a.b6 | _ => a.b7
/-- The number of the first j bytes. -/
def Nm.up (a : Nm) : Nat → Nat
  | 0 => 0
  | j + 1 => a.up j * 256 + (a.at j).toNat
theorem Nm.up_lt (a : Nm) : ∀ j, a.up j < 256 ^ j
  | 0 => by simp [Nm.up]
  | j + 1 => by
    have := a.up_lt j
    have h := (a.at j).toNat_lt
    rw [Nm.up, Nat.pow_succ]
    omega
theorem Nm.up_small (a : Nm) (j : Nat) (h : j < 8) : a.up j < 72057594037927936 := Nat.lt_of_lt_of_le (a.up_lt j) (Nat.pow_le_pow_right (by decide) (show j ≤ 7 by omega))
def Nm.num (a : Nm) : Nat := a.up 8
theorem Nm.num_inj {a b : Nm} (h : a.num = b.num) : a = b := by
  have l : ∀ x : UInt8, x.toNat < 256 := fun x => x.toNat_lt
  simp only [Nm.num, Nm.up, Nm.at] at h
  have q0 := l a.b0; have q1 := l a.b1; have q2 := l a.b2; have q3 := l a.b3; have q4 := l a.b4; have q5 := l a.b5; have q6 := l a.b6; have q7 := l a.b7
  have r0 := l b.b0; have r1 := l b.b1; have r2 := l b.b2; have r3 := l b.b3; have r4 := l b.b4; have r5 := l b.b5; have r6 := l b.b6; have r7 := l b.b7
  cases a; cases b
  simp only [Nm.mk.injEq, ← UInt8.toNat_inj] at *
  omega
theorem lt8 {j : Nat} (h : j < 8) : j = 0 ∨ j = 1 ∨ j = 2 ∨ j = 3 ∨ j = 4 ∨ j = 5 ∨ j = 6 ∨ j = 7 := by omega
theorem lt5 {j : Nat} (h : j < 5) : j = 0 ∨ j = 1 ∨ j = 2 ∨ j = 3 ∨ j = 4 := by omega
theorem shl8 (x : Nat) (h : x < 72057594037927936) : Value.int .u64 (IntKind.u64.wrap ((x : Int) * 2 ^ min (Int.toNat 8) IntKind.u64.bits)) = .int .u64 (((x * 256 : Nat) : Int)) := by
  rw [show (2 : Int) ^ min (Int.toNat 8) IntKind.u64.bits = 256 from rfl, IntKind.wrap_u64]
  congr 1
  omega
theorem or8 (x b : Nat) (h : x < 72057594037927936) (hb : b < 256) : bits .or .u64 (((x * 256 : Nat) : Int)) ((b : Nat) : Int) = ((x * 256 + b : Nat) : Int) := by
  show IntKind.u64.wrap ((BitVec.ofInt 64 (((x * 256 : Nat) : Int)) ||| BitVec.ofInt 64 ((b : Nat) : Int)).toNat : Int) = _
  have e1 : (BitVec.ofInt 64 (((x * 256 : Nat) : Int))).toNat = x * 256 := by rw [BitVec.toNat_ofInt]; omega
  have e2 : (BitVec.ofInt 64 ((b : Nat) : Int)).toNat = b := by rw [BitVec.toNat_ofInt]; omega
  rw [BitVec.toNat_or, e1, e2]
  have e3 : x * 256 ||| b = x * 256 + b := by
    have := Nat.shiftLeft_add_eq_or_of_lt (i := 8) (b := b) (by omega) x
    rw [Nat.shiftLeft_eq] at this
    exact this.symm
  rw [e3, IntKind.wrap_u64]
  omega
set_option maxRecDepth 100000 in
set_option maxHeartbeats 2000000 in
theorem number_c (a : Nm) (w : World) : Calls Try.prog 110 #[.agg a.cs] w (fun rr w' => rr = .returned (.int .u64 ((a.num : Nat) : Int)) ∧ Below w.heap.size w w') := by
 refine calls_W (n := 17) Try.func110 rfl [(0, .agg a.cs)] rfl ⟨by kernel_rfl, by kernel_rfl⟩ (W.weak (Ψ := St w []) (fun w' h => by rw [h]; exact St.start w) (W.seq (W.rg od2 (T.bx 1 54 (.agg a.cs) (a.cs) tv3 (fun b1 => T.pu 2 (.int .u64 0) (T.nil (QN.seq (W.seq (W.rg od1 (T.pu 3 (.int .u64 0) (T.nil (QN.seq (W.seq (W.seq (W.rg od2 (T.lr false 6 a.cs 54 b1 0 (fun w h => St.rangeM h a.cs mm0 (by kernel_rfl)) (T.pi 7 0 (T.nil (QN.seq (W.block (W.loop (σ := Nat) (fun gs => gs ≤ 8) (fun gs => [(2, .int .u64 0), (3, .int .u64 ((a.up gs : Nat) : Int)), (6, .agg a.cs), (7, .int .i64 gs)]) (fun gs => St w [(b1, Obj.cells a.cs 54 (0, 0))]) (fun gs => 8 - gs) 0 ?_ (by kernel_rfl) (fun w h => h) ?_)))))))))))))))))))))
 ·
  try dsimp only
  exact Nat.zero_le _
 rintro j hI_
 have hj : j ≤ 8 := hI_
 refine W.seq (W.rg od1 (T.pb 8 (decide ((j : Int) < 8)) (T.nil (QN.seq (W.seq (W.cd (decide ((j : Int) < 8)) (fun h2 => ?_) (fun h2 => ?_)))))))
 ·
  have h2' := of_decide_eq_true h2
  refine W.skip (QN.seq (W.seq (W.block (W.seq (W.rg od2 ?_)))))
  have hj8 : j < 8 := by omega
  refine T.pure 9 (.int .u8 ((a.at j).toNat : Int)) (by kernel_rfl) (fun w => ?_) ?_
  · rcases lt8 hj8 with rfl | rfl | rfl | rfl | rfl | rfl | rfl | rfl <;> kernel_rfl
  refine T.pu 5 (.int .u8 ((a.at j).toNat : Int)) (T.nil (QN.seq (W.rg od6 (T.pu 10 (.int .u64 ((a.up j : Nat) : Int)) ?_))))
  have hj8 : j < 8 := by omega
  refine T.shl 11 .u64 .u64 ((a.up j : Nat) : Int) 8 (.int .u64 ((a.up j * 256 : Nat) : Int)) (by kernel_rfl) (by kernel_rfl) (by omega) (shl8 _ (a.up_small j hj8)) (T.pu 12 (.int .u8 ((a.at j).toNat : Int)) (T.pe 13 (.int .u64 (IntKind.u64.wrap ((a.at j).toNat : Int))) (.int .u64 ((a.at j).toNat : Int)) (wrapu_int (by omega) (by have := (a.at j).toNat_lt; omega)) (T.pe 14 (.int .u64 (bits .or .u64 ((a.up j * 256 : Nat) : Int) ((a.at j).toNat : Int))) (.int .u64 ((a.up (j + 1) : Nat) : Int)) (int_eq (or8 _ _ (a.up_small j hj8) (a.at j).toNat_lt)) (T.pu 3 (.int .u64 ((a.up (j + 1) : Nat) : Int)) (T.nil (QN.blkNormal (QN.seq (W.rg od2 (T.pw 15 ((j : Int) + 1) (T.pi 7 ((j : Int) + 1) (T.nil (QN.back (j + 1) ?_ ?_ (by kernel_rfl) (fun w h => h)))))))))))))
  ·
   show (j + 1) ≤ 8
   omega
  · show 8 - _ < 8 - _; omega
 ·
  have h2' := of_decide_eq_false h2
  refine W.exit (QN.thenExit (QN.thenExit (QN.blkHit (QN.seq (W.seq (W.rg od2 (T.pu 16 (.int .u64 ((a.up j : Nat) : Int)) (T.pu 2 (.int .u64 ((a.up j : Nat) : Int)) (T.nil (QN.seq (W.ret (QN.done (.inl rfl) 2 (.int .u64 ((a.up j : Nat) : Int)) rfl (by kernel_rfl) (fun w hw => ⟨?_, hw.below⟩)))))))))))))
  (have e8 : j = 8 := (by omega); rw [e8]; rfl)
def hless (a b : Nm) : Bool := decide (((a.num : Nat) : Int) < ((b.num : Nat) : Int))
theorem hless_self (a : Nm) : hless a a = false := by simp [hless]
set_option maxRecDepth 100000 in
set_option maxHeartbeats 2000000 in
theorem hless_c (a b : Nm) (w : World) : Calls Try.prog 74 #[.agg a.cs, .agg b.cs] w (fun rr w' => rr = .returned (.bool (hless a b)) ∧ Below w.heap.size w w') := by
 refine calls_W (n := 13) Try.func74 rfl [(0, .agg a.cs), (1, .agg b.cs)] rfl ⟨by kernel_rfl, by kernel_rfl⟩ (W.weak (Ψ := St w []) (fun w' h => by rw [h]; exact St.start w) (W.seq (W.rg od3 (T.bx 2 54 (.agg a.cs) (a.cs) tv3 (fun b1 => T.bx 3 54 (.agg b.cs) (b.cs) tv3 (fun b2 => T.pb 4 false (T.nil (QN.seq (W.seq (W.seq (W.rg od3 (T.lr false 5 a.cs 54 b1 0 (fun w h => St.rangeM h a.cs mm1 (by kernel_rfl)) (T.lr false 6 b.cs 54 b2 0 (fun w h => St.rangeM h b.cs mm0 (by kernel_rfl)) (T.eqq 7 (a == b) (a == b) false 54 a.cs b.cs (by kernel_rfl) (by kernel_rfl) (by kernel_rfl) (by kernel_rfl) (fun w => eq_nm w a b) (T.nil (QN.seq (W.cd (a == b) (fun h3 => ?_) (fun h3 => ?_))))))))))))))))))
 ·
  refine W.seq (W.rg od1 (T.pb 4 false (T.nil (QN.seq (W.ret (QN.thenRet (QN.done (.inl rfl) 4 (.bool false) rfl (by kernel_rfl) (fun w hw => ⟨?_, hw.below⟩))))))))
  (have h0 : a = b := (by simpa using h3); rw [h0, hless_self])
 ·
  refine W.skip (QN.seq (W.seq (W.drawn (Ψ := St w [(b2, Obj.cells b.cs 54 (0, 0)), (b1, Obj.cells a.cs 54 (0, 0))]) (St w [(b2, Obj.cells b.cs 54 (0, 0)), (b1, Obj.cells a.cs 54 (0, 0))]) [(0, true), (2, true), (1, false), (3, false), (4, true), (5, false)] hmx (by kernel_rfl) (NoPanic.then NoPanic.body) (fun w h => h.drew) (fun w h => h) (T.lr true 8 a.cs 54 b1 0 (fun w h => St.rangeM h a.cs mm1 (by kernel_rfl)) (T.lr true 10 b.cs 54 b2 0 (fun w h => St.rangeM h b.cs mm0 (by kernel_rfl)) (T.cp 9 110 #[.agg a.cs] (.int .u64 ((a.num : Nat) : Int)) ent110 (fun w hw => number_c a w) (fun w h => h) (T.cp 11 110 #[.agg b.cs] (.int .u64 ((b.num : Nat) : Int)) ent110 (fun w hw => number_c b w) (fun w h => h) (T.pb 12 (decide (((a.num : Nat) : Int) < ((b.num : Nat) : Int))) (T.pb 4 (decide (((a.num : Nat) : Int) < ((b.num : Nat) : Int))) (T.nil (QN.seq (W.ret (QN.done (.inl rfl) 4 (.bool (decide (((a.num : Nat) : Int) < ((b.num : Nat) : Int)))) rfl (by kernel_rfl) (fun w hw => ⟨?_, hw.below⟩))))))))))))))
  exact rfl
def key5 (x : Vt) (j : Nat) : Int := match j with | 0 => x.slot | 1 => x.round | 2 => x.kind | 3 => x.signer | _ => x.choice
def lexLt : List Int → List Int → Bool
  | a :: l, b :: m => if a = b then lexLt l m else decide (a < b)
  | _, _ => false
def keyL (x : Vt) : List Int := [(x.par.num : Int), x.slot, x.round, x.kind, x.signer, x.choice, (x.val.num : Int), x.support]
/-- The order of votes. -/
def vless (x y : Vt) : Bool := lexLt (keyL x) (keyL y)
theorem lexLt_ne {a b : Int} {l m : List Int} (h : a ≠ b) : lexLt (a :: l) (b :: m) = decide (a < b) := by simp [lexLt, h]
theorem lexLt_eq {a : Int} {l m : List Int} : lexLt (a :: l) (a :: m) = lexLt l m := by simp [lexLt]
theorem vless_par {x y : Vt} (h : x.par ≠ y.par) : vless x y = hless x.par y.par := by
  have : (x.par.num : Int) ≠ (y.par.num : Int) := fun e => h (Nm.num_inj (by omega))
  rw [vless, keyL, keyL, lexLt_ne this]; rfl
theorem vless_key {x y : Vt} (h : x.par = y.par) (j : Nat) (hj : j < 5) (hk : ∀ k, k < j → key5 x k = key5 y k) (hn : key5 x j ≠ key5 y j) : vless x y = decide (key5 x j < key5 y j) := by
  rw [vless, keyL, keyL, h, lexLt_eq]
  rcases lt5 hj with rfl | rfl | rfl | rfl | rfl
  · exact lexLt_ne hn
  · have h0 : x.slot = y.slot := hk 0 (by omega)
    rw [h0, lexLt_eq]; exact lexLt_ne hn
  · have h0 : x.slot = y.slot := hk 0 (by omega)
    have h1 : x.round = y.round := hk 1 (by omega)
    rw [h0, h1, lexLt_eq, lexLt_eq]; exact lexLt_ne hn
  · have h0 : x.slot = y.slot := hk 0 (by omega)
    have h1 : x.round = y.round := hk 1 (by omega)
    have h2 : x.kind = y.kind := hk 2 (by omega)
    rw [h0, h1, h2, lexLt_eq, lexLt_eq, lexLt_eq]; exact lexLt_ne hn
  · have h0 : x.slot = y.slot := hk 0 (by omega)
    have h1 : x.round = y.round := hk 1 (by omega)
    have h2 : x.kind = y.kind := hk 2 (by omega)
    have h3 : x.signer = y.signer := hk 3 (by omega)
    rw [h0, h1, h2, h3, lexLt_eq, lexLt_eq, lexLt_eq, lexLt_eq]; exact lexLt_ne hn
theorem vless_end {x y : Vt} (h : x.par = y.par) (hk : ∀ k, k < 5 → key5 x k = key5 y k) : vless x y = if x.val = y.val then decide (x.support < y.support) else hless x.val y.val := by
  have h0 : x.slot = y.slot := hk 0 (by omega)
  have h1 : x.round = y.round := hk 1 (by omega)
  have h2 : x.kind = y.kind := hk 2 (by omega)
  have h3 : x.signer = y.signer := hk 3 (by omega)
  have h4 : x.choice = y.choice := hk 4 (by omega)
  rw [vless, keyL, keyL, h, h0, h1, h2, h3, h4, lexLt_eq, lexLt_eq, lexLt_eq, lexLt_eq, lexLt_eq, lexLt_eq]
  by_cases hv : x.val = y.val
  · rw [hv, lexLt_eq, if_pos rfl]
    by_cases hs : x.support = y.support
    · rw [hs, lexLt_eq]; simp [lexLt]
    · rw [lexLt_ne hs]
  · have : (x.val.num : Int) ≠ (y.val.num : Int) := fun e => hv (Nm.num_inj (by omega))
    rw [if_neg hv, lexLt_ne this]; rfl
theorem key_bk {x y : Vt} {j : Nat} (hk : ∀ k, k < j → key5 x k = key5 y k) (h : key5 x j = key5 y j) : ∀ k, k < j + 1 → key5 x k = key5 y k := fun k hl => by
  rcases Nat.lt_or_eq_of_le (Nat.lt_succ_iff.1 hl) with h1 | rfl
  · exact hk k h1
  · exact h
set_option maxRecDepth 100000 in
set_option maxHeartbeats 2000000 in
theorem vless_c (x y : Vt) (w : World) : Calls Try.prog 63 #[.agg x.cs, .agg y.cs] w (fun rr w' => rr = .returned (.bool (vless x y)) ∧ Below w.heap.size w w') := by
 refine calls_W (n := 73) Try.func63 rfl [(0, .agg x.cs), (1, .agg y.cs)] rfl ⟨by kernel_rfl, by kernel_rfl⟩ (W.weak (Ψ := St w []) (fun w' h => by rw [h]; exact St.start w) (W.seq (W.rg od3 (T.bx 2 68 (.agg x.cs) (x.cs) tv3 (fun b1 => T.bx 3 68 (.agg y.cs) (y.cs) tv3 (fun b2 => T.pb 4 false (T.nil (QN.seq (W.seq (W.seq (W.rg od5 (T.pu 8 (.pointer (some ⟨b1, 6, none⟩)) (T.lr false 9 x.par.cs 54 b1 6 (fun w h => St.rangeM h x.par.cs mm1 (by kernel_rfl)) (T.pu 10 (.pointer (some ⟨b2, 6, none⟩)) (T.lr false 11 y.par.cs 54 b2 6 (fun w h => St.rangeM h y.par.cs mm0 (by kernel_rfl)) (T.eqq 12 (x.par != y.par) (x.par == y.par) true 54 x.par.cs y.par.cs (by kernel_rfl) (by kernel_rfl) (by kernel_rfl) (by kernel_rfl) (fun w => eq_nm w x.par y.par) (T.nil (QN.seq (W.cd (x.par != y.par) (fun h3 => ?_) (fun h3 => ?_))))))))))))))))))))
 ·
  refine W.seq (W.rg od6 (T.pu 13 (.pointer (some ⟨b1, 6, none⟩)) (T.lr false 14 x.par.cs 54 b1 6 (fun w h => St.rangeM h x.par.cs mm1 (by kernel_rfl)) (T.pu 15 (.pointer (some ⟨b2, 6, none⟩)) (T.lr false 16 y.par.cs 54 b2 6 (fun w h => St.rangeM h y.par.cs mm0 (by kernel_rfl)) (T.cp 17 74 #[.agg x.par.cs, .agg y.par.cs] (.bool (hless x.par y.par)) ent74 (fun w hw => hless_c x.par y.par w) tv2 (T.pb 4 (hless x.par y.par) (T.nil (QN.seq (W.ret (QN.thenRet (QN.done (.inl rfl) 4 (.bool (hless x.par y.par)) rfl (by kernel_rfl) (fun w hw => ⟨?_, hw.below⟩)))))))))))))
  exact congrArg (fun b => Ending.returned (.bool b)) (vless_par (by simpa using h3)).symm
 ·
  refine W.skip (QN.seq (W.seq (W.rg od13 (T.pu 18 (.pointer (some ⟨b1, 1, none⟩)) (T.ld false 19 (.int .i64 x.slot) 3 b1 1 (fun w h => St.cellM h mm1 (by kernel_rfl)) (T.pu 20 (.pointer (some ⟨b1, 2, none⟩)) (T.ld false 21 (.int .i64 x.round) 3 b1 2 (fun w h => St.cellM h mm1 (by kernel_rfl)) (T.pu 22 (.pointer (some ⟨b1, 0, none⟩)) (T.ld false 23 (.int .i64 x.kind) 3 b1 0 (fun w h => St.cellM h mm1 (by kernel_rfl)) (T.pu 24 (.pointer (some ⟨b1, 4, none⟩)) (T.ld false 25 (.int .i64 x.signer) 3 b1 4 (fun w h => St.cellM h mm1 (by kernel_rfl)) (T.pu 26 (.pointer (some ⟨b1, 3, none⟩)) (T.ld false 27 (.int .i64 x.choice) 3 b1 3 (fun w h => St.cellM h mm1 (by kernel_rfl)) (T.pu 28 (.agg #[.int .i64 x.slot, .int .i64 x.round, .int .i64 x.kind, .int .i64 x.signer, .int .i64 x.choice]) (T.al 5 126 #[.int .i64 0, .int .i64 0, .int .i64 0, .int .i64 0, .int .i64 0] tv3 (fun b4 => T.sp 126 b4 0 (.agg #[.int .i64 x.slot, .int .i64 x.round, .int .i64 x.kind, .int .i64 x.signer, .int .i64 x.choice]) #[.int .i64 0, .int .i64 0, .int .i64 0, .int .i64 0, .int .i64 0] #[.int .i64 x.slot, .int .i64 x.round, .int .i64 x.kind, .int .i64 x.signer, .int .i64 x.choice] 126 pm0 tv2 (T.nil (QN.seq (W.seq (W.rg od13 (T.pu 29 (.pointer (some ⟨b2, 1, none⟩)) (T.ld false 30 (.int .i64 y.slot) 3 b2 1 (fun w h => St.cellM h mm1 (by kernel_rfl)) (T.pu 31 (.pointer (some ⟨b2, 2, none⟩)) (T.ld false 32 (.int .i64 y.round) 3 b2 2 (fun w h => St.cellM h mm1 (by kernel_rfl)) (T.pu 33 (.pointer (some ⟨b2, 0, none⟩)) (T.ld false 34 (.int .i64 y.kind) 3 b2 0 (fun w h => St.cellM h mm1 (by kernel_rfl)) (T.pu 35 (.pointer (some ⟨b2, 4, none⟩)) (T.ld false 36 (.int .i64 y.signer) 3 b2 4 (fun w h => St.cellM h mm1 (by kernel_rfl)) (T.pu 37 (.pointer (some ⟨b2, 3, none⟩)) (T.ld false 38 (.int .i64 y.choice) 3 b2 3 (fun w h => St.cellM h mm1 (by kernel_rfl)) (T.pu 39 (.agg #[.int .i64 y.slot, .int .i64 y.round, .int .i64 y.kind, .int .i64 y.signer, .int .i64 y.choice]) (T.al 6 126 #[.int .i64 0, .int .i64 0, .int .i64 0, .int .i64 0, .int .i64 0] tv3 (fun b5 => T.sp 126 b5 0 (.agg #[.int .i64 y.slot, .int .i64 y.round, .int .i64 y.kind, .int .i64 y.signer, .int .i64 y.choice]) #[.int .i64 0, .int .i64 0, .int .i64 0, .int .i64 0, .int .i64 0] #[.int .i64 y.slot, .int .i64 y.round, .int .i64 y.kind, .int .i64 y.signer, .int .i64 y.choice] 126 pm0 tv2 (T.nil (QN.seq (W.seq (W.seq (W.rg od1 (T.pi 40 0 (T.nil (QN.seq (W.block (W.loop (σ := Nat) (fun gs => gs ≤ 5 ∧ ∀ k, k < gs → key5 x k = key5 y k) (fun gs => [(2, .pointer (some ⟨b1, 0, none⟩)), (3, .pointer (some ⟨b2, 0, none⟩)), (5, .pointer (some ⟨b4, 0, none⟩)), (6, .pointer (some ⟨b5, 0, none⟩)), (40, .int .i64 gs)]) (fun gs => St w [(b5, Obj.cells #[.int .i64 y.slot, .int .i64 y.round, .int .i64 y.kind, .int .i64 y.signer, .int .i64 y.choice] 126 (0, 0)), (b4, Obj.cells #[.int .i64 x.slot, .int .i64 x.round, .int .i64 x.kind, .int .i64 x.signer, .int .i64 x.choice] 126 (0, 0)), (b2, Obj.cells y.cs 68 (0, 0)), (b1, Obj.cells x.cs 68 (0, 0))]) (fun gs => 5 - gs) 0 ?_ (by kernel_rfl) (fun w h => h) ?_)))))))))))))))))))))))))))))))))))))))))))
  ·
   try dsimp only
   exact ⟨Nat.zero_le _, fun k hk => absurd hk (by omega)⟩
  rintro j hI_
  obtain ⟨hj, hk⟩ : j ≤ 5 ∧ ∀ k, k < j → key5 x k = key5 y k := hI_
  refine W.seq (W.rg od1 (T.pb 41 (decide ((j : Int) < 5)) (T.nil (QN.seq (W.seq (W.cd (decide ((j : Int) < 5)) (fun h6 => ?_) (fun h6 => ?_)))))))
  ·
   have h6' := of_decide_eq_true h6
   refine W.skip (QN.seq (W.seq (W.block (W.seq (W.rg od2 (T.pi 42 j (T.pi 7 j (T.nil (QN.seq (W.seq (W.drawn (Ψ := St w [(b5, Obj.cells #[.int .i64 y.slot, .int .i64 y.round, .int .i64 y.kind, .int .i64 y.signer, .int .i64 y.choice] 126 (0, 0)), (b4, Obj.cells #[.int .i64 x.slot, .int .i64 x.round, .int .i64 x.kind, .int .i64 x.signer, .int .i64 x.choice] 126 (0, 0)), (b2, Obj.cells y.cs 68 (0, 0)), (b1, Obj.cells x.cs 68 (0, 0))]) (St w [(b5, Obj.cells #[.int .i64 y.slot, .int .i64 y.round, .int .i64 y.kind, .int .i64 y.signer, .int .i64 y.choice] 126 (0, 0)), (b4, Obj.cells #[.int .i64 x.slot, .int .i64 x.round, .int .i64 x.kind, .int .i64 x.signer, .int .i64 x.choice] 126 (0, 0)), (b2, Obj.cells y.cs 68 (0, 0)), (b1, Obj.cells x.cs 68 (0, 0))]) [(0, true), (1, true), (2, true), (3, true), (4, true), (5, true), (6, true)] hmx (by kernel_rfl) (NoPanic.then (NoPanic.inBlock (NoPanic.then (NoPanic.then (NoPanic.inBlock (NoPanic.then NoPanic.body)))))) (fun w h => h.drew) (fun w h => h) (T.pi 43 j ?_))))))))))))
   have hj5 : j < 5 := by omega
   refine T.pure 44 (.pointer (some ⟨b4, j, none⟩)) (by kernel_rfl) (fun w => ?_) ?_
   · rcases lt5 hj5 with rfl | rfl | rfl | rfl | rfl <;> kernel_rfl
   refine T.ld true 45 (.int .i64 (key5 x j)) 3 b4 j (fun w h => St.cellM h mm1 ?_) ?_
   · rcases lt5 hj5 with rfl | rfl | rfl | rfl | rfl <;> rfl
   refine T.pi 46 j ?_
   have hj5 : j < 5 := by omega
   refine T.pure 47 (.pointer (some ⟨b5, j, none⟩)) (by kernel_rfl) (fun w => ?_) ?_
   · rcases lt5 hj5 with rfl | rfl | rfl | rfl | rfl <;> kernel_rfl
   refine T.ld true 48 (.int .i64 (key5 y j)) 3 b5 j (fun w h => St.cellM h mm0 ?_) ?_
   · rcases lt5 hj5 with rfl | rfl | rfl | rfl | rfl <;> rfl
   refine T.pb 49 ((key5 x j) != (key5 y j)) (T.nil (QN.seq (W.cd ((key5 x j) != (key5 y j)) (fun h7 => ?_) (fun h7 => ?_))))
   ·
    refine W.seq (W.drawn (Ψ := St w [(b5, Obj.cells #[.int .i64 y.slot, .int .i64 y.round, .int .i64 y.kind, .int .i64 y.signer, .int .i64 y.choice] 126 (0, 0)), (b4, Obj.cells #[.int .i64 x.slot, .int .i64 x.round, .int .i64 x.kind, .int .i64 x.signer, .int .i64 x.choice] 126 (0, 0)), (b2, Obj.cells y.cs 68 (0, 0)), (b1, Obj.cells x.cs 68 (0, 0))]) (St w [(b5, Obj.cells #[.int .i64 y.slot, .int .i64 y.round, .int .i64 y.kind, .int .i64 y.signer, .int .i64 y.choice] 126 (0, 0)), (b4, Obj.cells #[.int .i64 x.slot, .int .i64 x.round, .int .i64 x.kind, .int .i64 x.signer, .int .i64 x.choice] 126 (0, 0)), (b2, Obj.cells y.cs 68 (0, 0)), (b1, Obj.cells x.cs 68 (0, 0))]) [(0, true), (1, true), (2, true), (3, true), (4, true), (5, true), (6, true), (7, false)] hmx (by kernel_rfl) (NoPanic.then (NoPanic.inBlock (NoPanic.then (NoPanic.then (NoPanic.inBlock (NoPanic.then NoPanic.body)))))) (fun w h => h.drew) (fun w h => h) (T.pi 50 j ?_))
    have hj5 : j < 5 := by omega
    refine T.pure 51 (.pointer (some ⟨b4, j, none⟩)) (by kernel_rfl) (fun w => ?_) ?_
    · rcases lt5 hj5 with rfl | rfl | rfl | rfl | rfl <;> kernel_rfl
    refine T.ld true 52 (.int .i64 (key5 x j)) 3 b4 j (fun w h => St.cellM h mm1 ?_) ?_
    · rcases lt5 hj5 with rfl | rfl | rfl | rfl | rfl <;> rfl
    refine T.pi 53 j ?_
    have hj5 : j < 5 := by omega
    refine T.pure 54 (.pointer (some ⟨b5, j, none⟩)) (by kernel_rfl) (fun w => ?_) ?_
    · rcases lt5 hj5 with rfl | rfl | rfl | rfl | rfl <;> kernel_rfl
    refine T.ld true 55 (.int .i64 (key5 y j)) 3 b5 j (fun w h => St.cellM h mm0 ?_) ?_
    · rcases lt5 hj5 with rfl | rfl | rfl | rfl | rfl <;> rfl
    refine T.pb 56 (decide ((key5 x j) < (key5 y j))) (T.pb 4 (decide ((key5 x j) < (key5 y j))) (T.nil (QN.seq (W.ret (QN.blkRet (QN.thenRet (QN.thenRet (QN.blkRet (QN.thenRet (QN.done (.inl rfl) 4 (.bool (decide ((key5 x j) < (key5 y j)))) rfl (by kernel_rfl) (fun w hw => ⟨?_, hw.below⟩)))))))))))
    exact congrArg (fun b => Ending.returned (.bool b)) (vless_key (by simpa using h3) j (by omega) hk (by simpa using h7)).symm
   ·
    refine W.skip (QN.blkNormal (QN.seq (W.rg od2 (T.pw 57 ((j : Int) + 1) (T.pi 40 ((j : Int) + 1) (T.nil (QN.back (j + 1) ?_ ?_ (by kernel_rfl) (fun w h => h))))))))
    ·
     try dsimp only
     exact ⟨by omega, key_bk hk (by simpa using h7)⟩
    · show 5 - _ < 5 - _; omega
  ·
   have h6' := of_decide_eq_false h6
   refine W.exit (QN.thenExit (QN.thenExit (QN.blkHit (QN.seq (W.seq (W.seq (W.rg od5 (T.pu 58 (.pointer (some ⟨b1, 14, none⟩)) (T.lr false 59 x.val.cs 54 b1 14 (fun w h => St.rangeM h x.val.cs mm3 (by kernel_rfl)) (T.pu 60 (.pointer (some ⟨b2, 14, none⟩)) (T.lr false 61 y.val.cs 54 b2 14 (fun w h => St.rangeM h y.val.cs mm2 (by kernel_rfl)) (T.eqq 62 (x.val != y.val) (x.val == y.val) true 54 x.val.cs y.val.cs (by kernel_rfl) (by kernel_rfl) (by kernel_rfl) (by kernel_rfl) (fun w => eq_nm w x.val y.val) (T.nil (QN.seq (W.cd (x.val != y.val) (fun h8 => ?_) (fun h8 => ?_))))))))))))))))
   ·
    refine W.seq (W.rg od6 (T.pu 63 (.pointer (some ⟨b1, 14, none⟩)) (T.lr false 64 x.val.cs 54 b1 14 (fun w h => St.rangeM h x.val.cs mm3 (by kernel_rfl)) (T.pu 65 (.pointer (some ⟨b2, 14, none⟩)) (T.lr false 66 y.val.cs 54 b2 14 (fun w h => St.rangeM h y.val.cs mm2 (by kernel_rfl)) (T.cp 67 74 #[.agg x.val.cs, .agg y.val.cs] (.bool (hless x.val y.val)) ent74 (fun w hw => hless_c x.val y.val w) tv2 (T.pb 4 (hless x.val y.val) (T.nil (QN.seq (W.ret (QN.thenRet (QN.done (.inl rfl) 4 (.bool (hless x.val y.val)) rfl (by kernel_rfl) (fun w hw => ⟨?_, hw.below⟩)))))))))))))
    (have e5 : j = 5 := (by omega); subst e5; have hv : x.val ≠ y.val := (by simpa using h8); rw [vless_end (by simpa using h3) hk, if_neg hv])
   ·
    refine W.skip (QN.seq (W.seq (W.rg od6 (T.pu 68 (.pointer (some ⟨b1, 5, none⟩)) (T.ld false 69 (.int .i64 x.support) 32 b1 5 (fun w h => St.cellM h mm3 (by kernel_rfl)) (T.pu 70 (.pointer (some ⟨b2, 5, none⟩)) (T.ld false 71 (.int .i64 y.support) 32 b2 5 (fun w h => St.cellM h mm2 (by kernel_rfl)) (T.pb 72 (decide (x.support < y.support)) (T.pb 4 (decide (x.support < y.support)) (T.nil (QN.seq (W.ret (QN.done (.inl rfl) 4 (.bool (decide (x.support < y.support))) rfl (by kernel_rfl) (fun w hw => ⟨?_, hw.below⟩))))))))))))))
    (have e5 : j = 5 := (by omega); subst e5; have hv : x.val = y.val := (by simpa using h8); rw [vless_end (by simpa using h3) hk, if_pos hv])
theorem lex_irr : ∀ l : List Int, lexLt l l = false
  | [] => rfl
  | a :: l => by rw [lexLt_eq]; exact lex_irr l
theorem lex_trans : ∀ l m k : List Int, lexLt l m = true → lexLt m k = true → lexLt l k = true
  | [], _, _, h, _ => by simp [lexLt] at h
  | _ :: _, [], _, h, _ => by simp [lexLt] at h
  | _ :: _, _ :: _, [], _, h => by simp [lexLt] at h
  | a :: l, b :: m, c :: k, h1, h2 => by
    by_cases e1 : a = b
    · subst e1
      by_cases e2 : a = c
      · subst e2
        rw [lexLt_eq] at *
        exact lex_trans l m k h1 h2
      · rw [lexLt_ne e2] at *; exact h2
    · rw [lexLt_ne e1] at h1
      by_cases e2 : b = c
      · subst e2; rw [lexLt_ne e1]; exact h1
      · rw [lexLt_ne e2] at h2
        simp only [decide_eq_true_eq] at h1 h2
        rw [lexLt_ne (by omega)]
        simp only [decide_eq_true_eq]; omega
theorem lex_tot : ∀ l m : List Int, l.length = m.length → lexLt l m = false → lexLt m l = false → l = m
  | [], [], _, _, _ => rfl
  | [], _ :: _, h, _, _ => by simp at h
  | _ :: _, [], h, _, _ => by simp at h
  | a :: l, b :: m, h, h1, h2 => by
    by_cases e1 : a = b
    · subst e1
      rw [lexLt_eq] at *
      rw [lex_tot l m (by simpa using h) h1 h2]
    · rw [lexLt_ne e1] at h1
      rw [lexLt_ne (Ne.symm e1)] at h2
      simp only [decide_eq_false_iff_not] at h1 h2
      omega
theorem vless_tot {x y : Vt} (h1 : vless x y = false) (h2 : vless y x = false) : x = y := by
  have h := lex_tot (keyL x) (keyL y) (by simp [keyL]) h1 h2
  simp only [keyL, List.cons.injEq, and_true] at h
  obtain ⟨a1, a2, a3, a4, a5, a6, a7, a8⟩ := h
  have b1 : x.par = y.par := Nm.num_inj (by omega)
  have b2 : x.val = y.val := Nm.num_inj (by omega)
  cases x; cases y; simp_all
theorem vless_swo : Sort.SWO vless where
  irrefl := fun x => lex_irr _
  trans := fun x y z => lex_trans _ _ _
  ntrans := fun x y z h1 h2 => by
    by_cases h3 : vless x z = true
    · exfalso
      by_cases h4 : vless y x = true
      · exact absurd (lex_trans _ _ _ h4 h3) (by simpa [vless] using h2)
      · have := vless_tot h1 (by simpa using h4)
        subst this
        exact absurd h3 (by simpa using h2)
    · simpa using h3
end Go.Proofs.Ytphnfhonmbbddaa

/- The votes above a parent, ascending, each once. -/
namespace Go.Proofs.Ytphnfhonmbbddaa
open Go Go.RowKit
set_option linter.unusedVariables false

set_option maxRecDepth 100000 in
set_option maxHeartbeats 2000000 in
theorem ascl_c (d : List Vt) (A : Option Addr) (c q5 i j : Nat) (w : World) (hi : i < d.length) (hj : j < d.length) (hd : d.length ≤ 1000) (hr : Rd w A d) (hb : w.cell? ⟨q5, 0, none⟩ = some (.slice A d.length c)) (hbl : q5 < w.heap.size) : Calls Try.prog 75 #[.int .i64 i, .int .i64 j, .pointer (some ⟨q5, 0, none⟩)] w (fun rr w' => rr = .returned (.bool (vless d[i] d[j])) ∧ Below w.heap.size w w') := by
 refine calls_W (n := 15) Try.func75 rfl [(0, .int .i64 i), (1, .int .i64 j), (2, .pointer (some ⟨q5, 0, none⟩))] rfl ⟨by kernel_rfl, by kernel_rfl⟩ (W.weak (Ψ := St w []) (fun w' h => by rw [h]; exact St.start w) (W.seq (W.rg od1 (T.pb 5 false (T.nil (QN.seq (W.seq (W.drawn (Ψ := St w []) (St w []) [(0, true), (1, true), (2, true), (3, true), (4, true), (5, true), (6, true), (7, true), (8, false), (9, false)] hmx (by kernel_rfl) (NoPanic.then NoPanic.body) (fun w h => h.drew) (fun w h => h) (T.ld true 6 (.slice A d.length c) 55 q5 0 (fun w h => (h.below.cell (p := ⟨q5, 0, none⟩) hbl).trans hb) (T.pi 7 i ?_))))))))))
 have hl5 : i < d.length := by omega
 obtain ⟨b1, o2, hA3, hr4⟩ := (Rd.arr hr _) i hl5
 refine T.ix 8 55 68 22 A d.length c (i : Int) i b1 o2 hA3 rfl (by omega) (T.lr true 9 (d[i]'hl5).cs 68 b1 (o2 + i * 22) hr4 (T.ld true 10 (.slice A d.length c) 55 q5 0 (fun w h => (h.below.cell (p := ⟨q5, 0, none⟩) hbl).trans hb) (T.pi 11 j ?_)))
 have hl10 : j < d.length := by omega
 obtain ⟨b6, o7, hA8, hr9⟩ := (Rd.arr hr _) j hl10
 refine T.ix 12 55 68 22 A d.length c (j : Int) j b6 o7 hA8 rfl (by omega) (T.lr true 13 (d[j]'hl10).cs 68 b6 (o7 + j * 22) hr9 (T.cp 14 63 #[.agg (d[i]'hl5).cs, .agg (d[j]'hl10).cs] (.bool (vless (d[i]'hl5) (d[j]'hl10))) ent63 (fun w hw => vless_c (d[i]'hl5) (d[j]'hl10) w) (fun w h => h) (T.pb 5 (vless (d[i]'hl5) (d[j]'hl10)) (T.nil (QN.seq (W.ret (QN.done (.inl rfl) 5 (.bool (vless (d[i]'hl5) (d[j]'hl10))) rfl (by kernel_rfl) (fun w hw => ⟨?_, hw.below⟩))))))))
 exact rfl
instance inhVt : Inhabited Vt := ⟨Vt.zero⟩
theorem asc_less {all : List Vt} {A : Option Addr} {c q5 : Nat} {H0 : List (Nat × Obj)} (hmem : (q5, .cells #[.slice A all.length c] 55 (0, 0)) ∈ H0) (hle : all.length ≤ 1000) (d : List Vt) (w : World) (i j : Nat) (hi : i < d.length) (hj : j < d.length) (hd : d.length = all.length) (hr : Rd w A d) (hH : ∀ p ∈ H0, w.heap[p.1]? = some p.2) :
    Ret Try.prog 75 (#[.int .i64 (i : Int), .int .i64 (j : Int)] ++ #[.pointer (some ⟨q5, 0, none⟩)]) w (.bool (vless d[i] d[j])) := by
  have h1 := hH _ hmem
  simp only at h1
  refine ascl_c d A c q5 i j w hi hj (by omega) hr ?_ (Array.getElem?_eq_some_iff.1 h1).1
  rw [hd]
  simp [World.cell?, h1]
noncomputable def svT : TypeInfo := (Try.prog.info? 55).get (by kernel_rfl)
noncomputable def svE : TypeInfo := (Try.prog.info? 68).get (by kernel_rfl)
theorem svK (n : Nat) (h2 : 2 ≤ n) : Lib.swapperK n svE 25 = 9 := by
  have a : svE.hasPointers = false := by kernel_rfl
  have b : svE.bytes = 64 := by kernel_rfl
  have c : (n == 0) = false := by simp; omega
  have d : (n == 1) = false := by simp; omega
  simp [Lib.swapperK, a, b, c, d]
theorem sortVt : SortTy 55 68 (Cel.sz Vt) := ⟨svT, svE, 25, by kernel_rfl, by kernel_rfl, by kernel_rfl, by kernel_rfl, fun _ => by kernel_rfl, by kernel_rfl, fun _ => by kernel_rfl, .inl svK⟩
def insV (x : Vt) : List Vt → List Vt
  | [] => [x]
  | y :: r => if vless x y then x :: y :: r else if x = y then y :: r else y :: insV x r
/-- The votes above p, ascending, each once. -/
def ascV (p : Nm) (l : List Vt) : List Vt := (l.filter fun x => x.par == p).foldr insV []
def Strict (l : List Vt) : Prop := l.Pairwise fun x y => vless x y = true
theorem vless_asym {x y : Vt} (h : vless x y = true) : vless y x = false := by
  by_cases h2 : vless y x = true
  · have := vless_swo.trans _ _ _ h h2
    rw [vless_swo.irrefl] at this; cases this
  · simpa using h2
theorem insV_mem (x z : Vt) : ∀ r : List Vt, z ∈ insV x r ↔ z = x ∨ z ∈ r
  | [] => by simp [insV]
  | y :: r => by
    unfold insV
    split
    · simp
    · split
      · rename_i h; subst h; simp
      · simp only [List.mem_cons, insV_mem x z r]
        constructor
        · rintro (h | h | h) <;> simp [h]
        · rintro (h | h | h) <;> simp [h]
theorem insV_strict (x : Vt) : ∀ r : List Vt, Strict r → Strict (insV x r)
  | [], _ => by simp [insV, Strict]
  | y :: r, h => by
    have h' := h
    unfold Strict at h
    rw [List.pairwise_cons] at h
    unfold insV
    split
    · rename_i hx
      refine List.pairwise_cons.2 ⟨fun z hz => ?_, h'⟩
      rcases List.mem_cons.1 hz with rfl | hz
      · exact hx
      · exact vless_swo.trans _ _ _ hx (h.1 z hz)
    · rename_i hx
      split
      · exact h'
      · rename_i hne
        refine List.pairwise_cons.2 ⟨fun z hz => ?_, insV_strict x r h.2⟩
        rcases (insV_mem x z r).1 hz with rfl | hz
        · by_cases h3 : vless y z = true
          · exact h3
          · exact absurd (vless_tot (by simpa using hx) (by simpa using h3)) hne
        · exact h.1 z hz
theorem ascV_mem (p : Nm) (l : List Vt) (z : Vt) : z ∈ ascV p l ↔ z ∈ l ∧ z.par = p := by
  have : ∀ r : List Vt, z ∈ r.foldr insV [] ↔ z ∈ r := by
    intro r
    induction r with
    | nil => simp
    | cons a r ih => simp [insV_mem, ih]
  rw [ascV, this]; simp
theorem ascV_strict (p : Nm) (l : List Vt) : Strict (ascV p l) := by
  have : ∀ r : List Vt, Strict (r.foldr insV []) := by
    intro r
    induction r with
    | nil => simp [Strict]
    | cons a r ih => exact insV_strict _ _ ih
  exact this _
theorem strict_ext : ∀ {a b : List Vt}, Strict a → Strict b → (∀ x, x ∈ a ↔ x ∈ b) → a = b
  | [], [], _, _, _ => rfl
  | [], y :: b, _, _, h => absurd ((h y).2 (by simp)) (by simp)
  | x :: a, [], _, _, h => absurd ((h x).1 (by simp)) (by simp)
  | x :: a, y :: b, ha, hb, h => by
    unfold Strict at ha hb
    rw [List.pairwise_cons] at ha hb
    have hxy : x = y := by
      rcases List.mem_cons.1 ((h x).1 (by simp)) with e | h1
      · exact e
      · rcases List.mem_cons.1 ((h y).2 (by simp)) with e | h2
        · exact e.symm
        · have := vless_asym (hb.1 x h1)
          rw [ha.1 y h2] at this; cases this
    subst hxy
    rw [strict_ext ha.2 hb.2 (fun z => ?_)]
    constructor
    · intro hz
      rcases List.mem_cons.1 ((h z).1 (by simp [hz])) with e | h1
      · subst e; have := ha.1 z hz; rw [vless_swo.irrefl] at this; cases this
      · exact h1
    · intro hz
      rcases List.mem_cons.1 ((h z).2 (by simp [hz])) with e | h1
      · subst e; have := hb.1 z hz; rw [vless_swo.irrefl] at this; cases this
      · exact h1
theorem filt_yes {p : Vt → Bool} {l all : List Vt} {j : Nat} (hj : j < l.length) (h : all = (l.take j).filter p) (hp : p l[j] = true) : all ++ [l[j]] = (l.take (j + 1)).filter p := by
  rw [List.take_succ_eq_append_getElem hj, List.filter_append, h]; simp [hp]
theorem filt_no {p : Vt → Bool} {l all : List Vt} {j : Nat} (hj : j < l.length) (h : all = (l.take j).filter p) (hp : p l[j] = false) : all = (l.take (j + 1)).filter p := by
  rw [List.take_succ_eq_append_getElem hj, List.filter_append, h]; simp [hp]
theorem ded_yes {so r : List Vt} {j : Nat} (hj : j < so.length) (ha : Asc vless so) (hs : Strict r) (hm : ∀ x, x ∈ r ↔ x ∈ so.take j) (hn : j = 0 ∨ ∃ h : j - 1 < so.length, so[j] ≠ so[j - 1]) : Strict (r ++ [so[j]]) ∧ ∀ x, x ∈ r ++ [so[j]] ↔ x ∈ so.take (j + 1) := by
  refine ⟨List.pairwise_append.2 ⟨hs, by simp, fun x hx y hy => ?_⟩, fun x => ?_⟩
  · simp only [List.mem_singleton] at hy
    subst hy
    obtain ⟨k, hk, rfl⟩ := List.mem_iff_getElem.1 ((hm x).1 hx)
    simp only [List.length_take] at hk
    rw [List.getElem_take]
    by_cases h1 : vless so[k] so[j] = true
    · exact h1
    · exfalso
      have e := vless_tot (by simpa using h1) (ha k j _ hj (by omega))
      rcases hn with h0 | ⟨h2, hne⟩
      · omega
      · apply hne
        refine vless_tot (ha (j - 1) j h2 hj (by omega)) ?_
        rw [← e]
        by_cases hk2 : k = j - 1
        · subst hk2; exact vless_swo.irrefl _
        · exact ha k (j - 1) (by omega) h2 (by omega)
  · rw [List.take_succ_eq_append_getElem hj, List.mem_append, List.mem_append, hm]
theorem ded_no {so r : List Vt} {j : Nat} (hj : j < so.length) (hm : ∀ x, x ∈ r ↔ x ∈ so.take j) (h0 : 0 < j) (h1 : j - 1 < so.length) (he : so[j] = so[j - 1]) : ∀ x, x ∈ r ↔ x ∈ so.take (j + 1) := fun x => by
  rw [List.take_succ_eq_append_getElem hj, hm, List.mem_append, List.mem_singleton, he]
  constructor
  · exact fun h => .inl h
  · rintro (h | rfl)
    · exact h
    · exact List.mem_iff_getElem.2 ⟨j - 1, by simp; omega, by simp⟩
theorem ded_or {so : List Vt} {j : Nat} {hj : j < so.length} {hj' : j - 1 < so.length} (h : (((j : Int) == 0) || (so[j] != so[j - 1])) = true) (hl : j - 1 < so.length) : j = 0 ∨ ∃ h : j - 1 < so.length, so[j] ≠ so[j - 1] := by
  simp only [Bool.or_eq_true, beq_iff_eq, bne_iff_ne] at h
  rcases h with h | h
  · exact .inl (by omega)
  · exact .inr ⟨hl, h⟩
theorem ded_nor {so : List Vt} {j : Nat} {hj : j < so.length} {hj' : j - 1 < so.length} (h : (((j : Int) == 0) || (so[j] != so[j - 1])) = false) (hl : j - 1 < so.length) : 0 < j ∧ so[j] = so[j - 1] := by
  simp only [Bool.or_eq_false_iff, beq_eq_false_iff_ne, bne_eq_false_iff_eq] at h
  exact ⟨by omega, h.2⟩
theorem asc_fin {p : Nm} {l all so r : List Vt} (hs : Strict r) (hm : ∀ x, x ∈ r ↔ x ∈ so.take so.length) (hp : so.Perm all) (ha : all = (l.take l.length).filter (fun x => x.par == p)) : r = ascV p l := by
  refine strict_ext hs (ascV_strict p l) (fun x => ?_)
  rw [hm, List.take_length, hp.mem_iff, ha, List.take_length, ascV_mem]; simp
set_option maxRecDepth 100000 in
set_option maxHeartbeats 2000000 in
theorem asc_c (p : Nm) (l : List Vt) (A : Option Addr) (c : Nat) (w : World) (hl : l.length ≤ 1000) (hr : Rd w A l) : Calls Try.prog 55 #[.agg p.cs, .slice A l.length c] w (fun r w' => ∃ A c Hr, r = .returned (.slice A (ascV p l).length c) ∧ RowIs 68 22 A (ascV p l).length c (cells (ascV p l)) Hr ∧ St w Hr w') := by
 refine calls_W (n := 54) Try.func55 rfl [(0, .agg p.cs), (1, .slice A l.length c)] rfl ⟨by kernel_rfl, by kernel_rfl⟩ (W.weak (Ψ := St w []) (fun w' h => by rw [h]; exact St.start w) (W.seq (W.rg od2 (T.bx 2 54 (.agg p.cs) (p.cs) tv3 (fun b1 => T.pu 4 (.slice none 0 0) (T.nil (QN.seq (W.seq (W.rg od1 (T.al 5 55 #[.slice none 0 0] tv3 (fun b2 => T.nil (QN.seq (W.seq (W.seq (W.rg od3 (T.pu 11 (.slice A l.length c) (T.pi 12 ((l.length : Nat) : Int) (T.pi 13 0 (T.nil (QN.seq (W.block (W.loop (σ := Nat × List Vt × Option Addr × Nat × List (Nat × Obj)) (fun gs => gs.1 ≤ l.length ∧ gs.2.1 = (l.take gs.1).filter (fun x => x.par == p) ∧ RowIs 68 22 gs.2.2.1 gs.2.1.length gs.2.2.2.1 (cells gs.2.1) gs.2.2.2.2) (fun gs => [(2, .pointer (some ⟨b1, 0, none⟩)), (4, .slice none 0 0), (5, .pointer (some ⟨b2, 0, none⟩)), (11, .slice A l.length c), (12, .int .i64 ((l.length : Nat) : Int)), (13, .int .i64 (gs.1 : Int))]) (fun gs => St w (gs.2.2.2.2 ++ [(b2, Obj.cells #[.slice gs.2.2.1 gs.2.1.length gs.2.2.2.1] 55 (0, 0)), (b1, Obj.cells p.cs 54 (0, 0))])) (fun gs => l.length - gs.1) (0, [], none, 0, []) ?_ (by kernel_rfl) (fun w h => h) ?_))))))))))))))))))))))
 ·
  try dsimp only
  exact ⟨Nat.zero_le _, rfl, RowIs.nil⟩
 rintro ⟨k, all, A9, c9, Hr9⟩ hI_
 obtain ⟨hk, hall, hrow9⟩ : k ≤ l.length ∧ all = (l.take k).filter (fun x => x.par == p) ∧ RowIs 68 22 A9 all.length c9 (cells all) Hr9 := hI_
 have hal : all.length ≤ k := by rw [hall]; exact Nat.le_trans (List.length_filter_le _ _) (List.length_take_le _ _)
 refine W.seq (W.rg od1 (T.pb 14 (decide ((k : Int) < ((l.length : Nat) : Int))) (T.nil (QN.seq (W.seq (W.cd (decide ((k : Int) < ((l.length : Nat) : Int))) (fun h3 => ?_) (fun h3 => ?_)))))))
 ·
  have h3' := of_decide_eq_true h3
  have hl4 : k < l.length := by omega
  refine W.skip (QN.seq (W.seq (W.block (W.seq (W.rg od4 ?_)))))
  obtain ⟨b5, o6, hA7, hr8⟩ := (Rd.arr hr _) k hl4
  refine T.ix 15 55 68 22 A l.length c (k : Int) k b5 o6 hA7 rfl (by omega) (T.lr false 16 (l[k]'hl4).cs 68 b5 (o6 + k * 22) hr8 (T.al 7 68 Vt.zero.cs tv3 (fun b9 => T.sp 68 b9 0 (.agg (l[k]'hl4).cs) Vt.zero.cs (l[k]'hl4).cs 68 pm0 tv2 (T.nil (QN.seq (W.seq (W.rg od4 (T.pu 17 (.pointer (some ⟨b9, 6, none⟩)) (T.lr false 18 ((l[k]'hl4).par).cs 54 b9 6 (fun w h => St.rangeM h ((l[k]'hl4).par).cs mm0 (by kernel_rfl)) (T.lr false 19 p.cs 54 b1 0 (fun w h => St.rangeM h p.cs (.tail _ (List.mem_append_right _ mm1)) (by kernel_rfl)) (T.eqq 20 (((l[k]'hl4).par) == p) (((l[k]'hl4).par) == p) false 54 ((l[k]'hl4).par).cs p.cs (by kernel_rfl) (by kernel_rfl) (by kernel_rfl) (by kernel_rfl) (fun w => eq_nm w ((l[k]'hl4).par) p) (T.nil (QN.seq (W.cd (((l[k]'hl4).par) == p) (fun h10 => ?_) (fun h10 => ?_)))))))))))))))
  ·
   refine W.rg od5 (T.ld false 21 (.slice A9 all.length c9) 55 b2 0 (fun w h => St.cellM h (.tail _ (List.mem_append_right _ mm0)) (by kernel_rfl)) (T.lr false 22 (l[k]'hl4).cs 68 b9 0 (fun w h => St.rangeM h (l[k]'hl4).cs mm0 (by kernel_rfl)) (T.lit 23 55 68 1 #[(0, .agg (l[k]'hl4).cs)] (cells ([(l[k]'hl4)] : List Vt)).toArray (by kernel_rfl) (by kernel_rfl) (by kernel_rfl) (by kernel_rfl) tv3 (fun b11 => T.appC 24 55 68 64 A9 c9 (all : List Vt) Hr9 b11 0 1 ([(l[k]'hl4)] : List Vt) ((((pm0.cons _).trans List.perm_middle.symm).cons _).trans List.perm_middle.symm) (by kernel_rfl) (by kernel_rfl) (by kernel_rfl) (by kernel_rfl) hrow9 (fun w h => St.rangeM h (cells ([(l[k]'hl4)] : List Vt)).toArray (List.mem_append_right _ mm0) (by kernel_rfl)) (by unfold maxLen; first | omega | (simp; omega)) (by first | omega | (simp; omega)) tv3 (fun A12 c13 Hr14 hrow15 => T.sp 55 b2 0 (.slice A12 ((all ++ ([(l[k]'hl4)])).length) c13) #[.slice A9 all.length c9] #[.slice A12 ((all ++ ([(l[k]'hl4)])).length) c13] 55 ((pm2.append_left Hr14).trans List.perm_middle) tv2 (T.nil (QN.blkNormal (QN.seq (W.rg od2 (T.pw 25 ((k : Int) + 1) (T.pi 13 ((k : Int) + 1) (T.nil (QN.back (k + 1, all ++ ([(l[k]'hl4)]), A12, c13, Hr14) ?_ ?_ (by kernel_rfl) (fun w h => (h.perm (((pm0.cons _).trans List.perm_middle.symm).trans ((pm0.trans (pm2.cons _)).append_left Hr14))).part (List.Sublist.append (List.Sublist.refl _) ns2)))))))))))))))
   ·
    try dsimp only
    exact ⟨by omega, filt_yes (by omega) hall h10, hrow15⟩
   · show l.length - _ < l.length - _; omega
  ·
   refine W.skip (QN.blkNormal (QN.seq (W.rg od2 (T.pw 25 ((k : Int) + 1) (T.pi 13 ((k : Int) + 1) (T.nil (QN.back (k + 1, all, A9, c9, Hr9) ?_ ?_ (by kernel_rfl) (fun w h => (h.perm (((pm0.cons _).trans List.perm_middle.symm).trans ((pm1.trans (pm1.cons _)).append_left Hr9))).part (List.Sublist.append (List.Sublist.refl _) ns2)))))))))
   ·
    try dsimp only
    exact ⟨by omega, filt_no (by omega) hall h10, hrow9⟩
   · show l.length - _ < l.length - _; omega
 ·
  have h3' := of_decide_eq_false h3
  refine W.exit (QN.thenExit (QN.thenExit (QN.blkHit (QN.seq (W.seq (W.rg od4 (T.ld false 26 (.slice A9 all.length c9) 55 b2 0 (fun w h => St.cellM h (List.mem_append_right _ mm0) (by kernel_rfl)) (T.pu 27 (.iface 55 (.slice A9 all.length c9)) (T.pu 28 (.func (.func 75) #[] #[.pointer (some ⟨b2, 0, none⟩)]) (T.callG (β := List Vt × List (Nat × Obj)) 29 52 #[.iface 55 (.slice A9 all.length c9), .func (.func 75) #[] #[.pointer (some ⟨b2, 0, none⟩)]] (fun gs => .tuple #[]) (fun gs => St w (gs.2 ++ [(b2, Obj.cells #[.slice A9 all.length c9] 55 (0, 0)), (b1, Obj.cells p.cs 54 (0, 0))])) (fun gs => gs.1.Perm all ∧ Asc vless gs.1 ∧ RowIs 68 22 A9 all.length c9 (cells gs.1) gs.2) (by kernel_rfl) (by kernel_rfl) ent52 ?_ tv3 ?_))))))))))
  · exact fun w hw => sliceR_c (α := Vt) (H0 := [(b2, Obj.cells #[.slice A9 all.length c9] 55 (0, 0)), (b1, Obj.cells p.cs 54 (0, 0))]) sortVt hrow9 (by omega) ent75 (asc_less mm0 (by omega)) vless_swo w ((fun w h => h) w hw)
  rintro ⟨so, Hg⟩ hp_
  have hp16 : so.Perm all ∧ Asc vless so ∧ RowIs 68 22 A9 all.length c9 (cells so) Hg := hp_
  refine T.nil (QN.seq (W.seq (W.rg od1 (T.pu 8 (.slice none 0 0) (T.nil (QN.seq (W.seq (W.seq (W.rg od3 (T.ld false 30 (.slice A9 all.length c9) 55 b2 0 (fun w h => St.cellM h (List.mem_append_right _ mm0) (by kernel_rfl)) (T.pi 31 ((all.length : Nat) : Int) (T.pi 32 0 (T.nil (QN.seq (W.block ?_)))))))))))))))
  have hso := hp16
  have hsl : all.length = so.length := hso.1.length_eq.symm
  have hkl : k = l.length := by omega
  refine W.loop (σ := Nat × List Vt × Option Addr × Nat × List (Nat × Obj)) (fun gs => gs.1 ≤ all.length ∧ gs.2.1.length ≤ gs.1 ∧ Strict gs.2.1 ∧ (∀ x, x ∈ gs.2.1 ↔ x ∈ so.take gs.1) ∧ RowIs 68 22 gs.2.2.1 gs.2.1.length gs.2.2.2.1 (cells gs.2.1) gs.2.2.2.2) (fun gs => [(4, .slice none 0 0), (5, .pointer (some ⟨b2, 0, none⟩)), (8, .slice gs.2.2.1 gs.2.1.length gs.2.2.2.1), (30, .slice A9 all.length c9), (31, .int .i64 ((all.length : Nat) : Int)), (32, .int .i64 (gs.1 : Int))]) (fun gs => St w (gs.2.2.2.2 ++ (Hg ++ [(b2, Obj.cells #[.slice A9 all.length c9] 55 (0, 0)), (b1, Obj.cells p.cs 54 (0, 0))]))) (fun gs => all.length - gs.1) (0, [], none, 0, []) ?_ (by kernel_rfl) (fun w h => h) ?_
  ·
   try dsimp only
   exact ⟨Nat.zero_le _, Nat.le_refl _, List.Pairwise.nil, fun x => by simp, RowIs.nil⟩
  rintro ⟨j, r, A8, c8, Hr8⟩ hI_
  obtain ⟨hj, hrj, hst, hmm, hrow8⟩ : j ≤ all.length ∧ r.length ≤ j ∧ Strict r ∧ (∀ x, x ∈ r ↔ x ∈ so.take j) ∧ RowIs 68 22 A8 r.length c8 (cells r) Hr8 := hI_
  refine W.seq (W.rg od1 (T.pb 33 (decide ((j : Int) < ((all.length : Nat) : Int))) (T.nil (QN.seq (W.seq (W.cd (decide ((j : Int) < ((all.length : Nat) : Int))) (fun h17 => ?_) (fun h17 => ?_)))))))
  ·
   have h17' := of_decide_eq_true h17
   have hl18 : j < so.length := by omega
   refine W.skip (QN.seq (W.seq (W.block (W.seq (W.rg od6 (T.pi 34 j ?_))))))
   obtain ⟨b19, o20, hA21, hr22⟩ := (show Arr (St _ (Hr8 ++ (Hg ++ [(b2, Obj.cells #[.slice A9 all.length c9] 55 (0, 0)), (b1, Obj.cells p.cs 54 (0, 0))]))) A9 so from (Arr.row hso.2.2 rfl hsl (Hr8 ++ [(b2, Obj.cells #[.slice A9 all.length c9] 55 (0, 0)), (b1, Obj.cells p.cs 54 (0, 0))])).weak (fun w h => h.perm ((pm0.append_left Hr8).trans (List.perm_append_comm_assoc _ _ _)))) j hl18
   refine T.ix 35 55 68 22 A9 all.length c9 (j : Int) j b19 o20 hA21 rfl (by omega) (T.lr false 36 (so[j]'hl18).cs 68 b19 (o20 + j * 22) hr22 (T.al 10 68 Vt.zero.cs tv3 (fun b23 => T.pi 9 j (T.sp 68 b23 0 (.agg (so[j]'hl18).cs) Vt.zero.cs (so[j]'hl18).cs 68 pm0 tv2 (T.nil (QN.seq (W.seq (W.drawn (Ψ := St w ((b23, Obj.cells (so[j]'hl18).cs 68 (0, 0)) :: (Hr8 ++ (Hg ++ [(b2, Obj.cells #[.slice A9 all.length c9] 55 (0, 0)), (b1, Obj.cells p.cs 54 (0, 0))])))) (St w ((b23, Obj.cells (so[j]'hl18).cs 68 (0, 0)) :: (Hr8 ++ (Hg ++ [(b2, Obj.cells #[.slice A9 all.length c9] 55 (0, 0)), (b1, Obj.cells p.cs 54 (0, 0))])))) [(0, true), (1, true), (2, true), (3, true), (4, true), (5, true), (6, true), (7, true), (8, true), (9, true), (10, true)] hmx (by kernel_rfl) (NoPanic.then (NoPanic.inBlock (NoPanic.then (NoPanic.then (NoPanic.inBlock (NoPanic.then NoPanic.body)))))) (fun w h => h.drew) (fun w h => h) ?_))))))))
   have hlp : j - 1 < so.length := by omega
   refine T.pi 37 j (T.pb 38 ((j : Int) == 0) (T.pb 39 ((j : Int) == 0) (T.bk [(3, true), (4, true), (5, true), (6, true), (7, true), (8, true), (9, true)] [(10, true)] 2 false ((j : Int) == 0) 39 46 (.bool ((so[j]'hl18) != (so[(j - 1)]'hlp))) (fun hg24 => ?_) ?_)))
   ·
    have hg24_ := hg24
    have hg24' := ne_of_beq_false hg24
    refine T.lr true 40 (so[j]'hl18).cs 68 b23 0 (fun w h => St.rangeM h (so[j]'hl18).cs mm0 (by kernel_rfl)) (T.ld true 41 (.slice A9 all.length c9) 55 b2 0 (fun w h => St.cellM h (.tail _ (List.mem_append_right _ (List.mem_append_right _ mm0))) (by kernel_rfl)) (T.pi 42 j (T.pw 43 ((j : Int) - 1) ?_)))
    obtain ⟨b25, o26, hA27, hr28⟩ := (show Arr (St _ ((b23, Obj.cells (so[j]'hl18).cs 68 (0, 0)) :: (Hr8 ++ (Hg ++ [(b2, Obj.cells #[.slice A9 all.length c9] 55 (0, 0)), (b1, Obj.cells p.cs 54 (0, 0))])))) A9 so from (Arr.row hso.2.2 rfl hsl ((b23, Obj.cells (so[j]'hl18).cs 68 (0, 0)) :: (Hr8 ++ [(b2, Obj.cells #[.slice A9 all.length c9] 55 (0, 0)), (b1, Obj.cells p.cs 54 (0, 0))]))).weak (fun w h => h.perm ((((pm0.append_left Hr8).trans (List.perm_append_comm_assoc _ _ _)).cons _).trans List.perm_middle.symm))) (j - 1) hlp
    refine T.ix 44 55 68 22 A9 all.length c9 ((j : Int) - 1) (j - 1) b25 o26 hA27 (by first | rfl | omega) (by omega) (T.lr true 45 (so[(j - 1)]'hlp).cs 68 b25 (o26 + (j - 1) * 22) hr28 (T.eqq 46 ((so[j]'hl18) != (so[(j - 1)]'hlp)) ((so[j]'hl18) == (so[(j - 1)]'hlp)) true 68 (so[j]'hl18).cs (so[(j - 1)]'hlp).cs (by kernel_rfl) (by kernel_rfl) (by kernel_rfl) (by kernel_rfl) (fun w => eq_vt w (so[j]'hl18) (so[(j - 1)]'hlp)) ?_))
    exact T.blkEnd (by kernel_rfl) (fun w h => h)
   refine T.oo 47 ((j : Int) == 0) ((so[j]'hl18) != (so[(j - 1)]'hlp)) (T.nil (QN.seq (W.cd (((j : Int) == 0) || ((so[j]'hl18) != (so[(j - 1)]'hlp))) (fun h29 => ?_) (fun h29 => ?_))))
   ·
    refine W.rg od5 (T.pu 48 (.slice A8 r.length c8) (T.lr false 49 (so[j]'hl18).cs 68 b23 0 (fun w h => St.rangeM h (so[j]'hl18).cs mm0 (by kernel_rfl)) (T.lit 50 55 68 1 #[(0, .agg (so[j]'hl18).cs)] (cells ([(so[j]'hl18)] : List Vt)).toArray (by kernel_rfl) (by kernel_rfl) (by kernel_rfl) (by kernel_rfl) tv3 (fun b30 => T.appC 51 55 68 64 A8 c8 (r : List Vt) Hr8 b30 0 1 ([(so[j]'hl18)] : List Vt) ((((pm0.cons _).trans List.perm_middle.symm).cons _).trans List.perm_middle.symm) (by kernel_rfl) (by kernel_rfl) (by kernel_rfl) (by kernel_rfl) hrow8 (fun w h => St.rangeM h (cells ([(so[j]'hl18)] : List Vt)).toArray (List.mem_append_right _ mm0) (by kernel_rfl)) (by unfold maxLen; first | omega | (simp; omega)) (by first | omega | (simp; omega)) tv3 (fun A31 c32 Hr33 hrow34 => T.pu 8 (.slice A31 ((r ++ ([(so[j]'hl18)])).length) c32) (T.nil (QN.blkNormal (QN.seq (W.rg od2 (T.pw 52 ((j : Int) + 1) (T.pi 32 ((j : Int) + 1) (T.nil (QN.back (j + 1, r ++ ([(so[j]'hl18)]), A31, c32, Hr33) ?_ ?_ (by kernel_rfl) (fun w h => (h.perm (pm0.trans ((((((pm0.cons _).trans List.perm_middle.symm).cons _).trans List.perm_middle.symm).trans ((pm2.trans (pm2.cons _)).append_left Hg)).append_left Hr33))).part (List.Sublist.append (List.Sublist.refl _) (List.Sublist.append (List.Sublist.refl _) ns2))))))))))))))))
    ·
     try dsimp only
     exact ⟨by omega, by rw [List.length_append, List.length_singleton]; omega, (ded_yes (by omega) hso.2.1 hst hmm (ded_or h29 hlp)).1, (ded_yes (by omega) hso.2.1 hst hmm (ded_or h29 hlp)).2, hrow34⟩
    · show all.length - _ < all.length - _; omega
   ·
    have h29l := (Bool.or_eq_false_iff.1 h29).1
    have h29r := (Bool.or_eq_false_iff.1 h29).2
    have h29l' := ne_of_beq_false h29l
    refine W.skip (QN.blkNormal (QN.seq (W.rg od2 (T.pw 52 ((j : Int) + 1) (T.pi 32 ((j : Int) + 1) (T.nil (QN.back (j + 1, r, A8, c8, Hr8) ?_ ?_ (by kernel_rfl) (fun w h => (h.perm (((pm0.cons _).trans List.perm_middle.symm).trans ((((pm0.cons _).trans List.perm_middle.symm).trans ((pm1.trans (pm1.cons _)).append_left Hg)).append_left Hr8))).part (List.Sublist.append (List.Sublist.refl _) (List.Sublist.append (List.Sublist.refl _) ns2))))))))))
    ·
     try dsimp only
     exact ⟨by omega, by omega, hst, ded_no (by omega) hmm (ded_nor h29 hlp).1 hlp (ded_nor h29 hlp).2, hrow8⟩
    · show all.length - _ < all.length - _; omega
  ·
   have h17' := of_decide_eq_false h17
   refine W.exit (QN.thenExit (QN.thenExit (QN.blkHit (QN.seq (W.seq (W.rg od2 (T.pu 53 (.slice A8 r.length c8) (T.pu 4 (.slice A8 r.length c8) (T.nil (QN.seq (W.ret (QN.done (.inl rfl) 4 (.slice A8 r.length c8) rfl (by kernel_rfl) (fun w hw => ?_)))))))))))))
   exact (have e1 : r = ascV p l := asc_fin hst (by rw [← hsl]; have e2 : j = all.length := (by omega); rw [← e2]; exact hmm) hso.1 (by rw [← hkl]; exact hall); by rw [← e1]; exact ⟨A8, c8, Hr8, rfl, hrow8, hw.part (List.sublist_append_left _ _)⟩)
end Go.Proofs.Ytphnfhonmbbddaa
