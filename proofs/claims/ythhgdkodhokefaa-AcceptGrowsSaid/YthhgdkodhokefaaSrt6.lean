/- sort.Slice over a row. -/
import Derived.Test.YthhgdkodhokefaaSrt5
import Derived.Test.YthhgdkodhokefaaSwap
namespace Go.Proofs.Ythhgdkodhokefaa
open Go Go.RowKit
set_option linter.unusedVariables false

section
open Go.Lib Go.Extern
theorem valueOf_x {t e : TypeId} {ti : TypeInfo} (hi : Try.prog.info? t = some ti) (hdsc : ti.desc = .slice e) (A : Option Addr) (n c : Nat) {w00 : World} {H : List (Nat × Obj)} (w : World) (hw : St w00 H w) :
    ∃ (x : Nat) (w' : World), (callFunc 86 #[.iface t (.slice A n c)]).run Try.prog w = .ok (.value (.agg #[typeHandle Try.prog t, .pointer (some ⟨x, 0, none⟩), .int .u64 (151)])) w' ∧ St w00 ((x, .cells #[.slice A n c] t (0, 0)) :: H) w' := by
  refine ⟨w.heap.size, w.alloc (.cells #[.slice A n c] t), ?_, hw.alloc _⟩
  rw [run_callFunc_extern Try.func86 (by kernel_rfl) (by kernel_rfl) (by kernel_rfl) (e := fun args => Extern.ReflectliteValue.unpack (args.getD 0 (.tuple #[]))) (by kernel_rfl), show Sem.run Try.prog ((fun args : Array Value => Extern.ReflectliteValue.unpack (args.getD 0 (.tuple #[]))) #[.iface t (.slice A n c)]) w = _ from run_valueOf_slice (P := Try.prog) t e ti hi hdsc A n c w]
  rfl
theorem swapper_x {t e : TypeId} {ti ie : TypeInfo} (hi : Try.prog.info? t = some ti) (hdsc : ti.desc = .slice e) (hie : Try.prog.info? e = some ie) (ke : Nat) (hke : ∀ w, (Extern.Rtype.kind e).run Try.prog w = .ok ke w) (A : Option Addr) (n c : Nat) (sf : Nat) (hf : Try.prog.funcs.findIdx? (·.name == "internal/reflectlite" ++ ".Swapper$" ++ toString (swapperK n ie ke)) = some sf) (sb : Array Value) (hsb : (if swapperK n ie ke ≤ 2 then #[] else #[.slice A n c, typeHandle Try.prog e]) = sb) {w00 : World} {H : List (Nat × Obj)} (w : World) (hw : St w00 H w) :
    ∃ (x : Unit) (w' : World), (callFunc 87 #[.iface t (.slice A n c)]).run Try.prog w = .ok (.value (.func (.func sf) #[] sb)) w' ∧ St w00 H w' := by
  refine ⟨(), w, ?_, hw⟩
  rw [run_callFunc_extern Try.func87 (by kernel_rfl) (by kernel_rfl) (by kernel_rfl) (e := Extern.ReflectliteSwapper.swapper "internal/reflectlite" (Extern.ReflectliteValue.valueError "Swapper")) (by kernel_rfl), run_swapper_slice t e ti ie hi hdsc hie ke hke A n c sf hf w, hsb]
  rfl
theorem valueLen_x {t e : TypeId} {ti : TypeInfo} (hi : Try.prog.info? t = some ti) (hdsc : ti.desc = .slice e) (hpk : Try.prog.packed t = false) (A : Option Addr) (n c b : Nat) {w00 : World} {H : List (Nat × Obj)} (w : World) (hw : St w00 H w) (hb : (b, .cells #[.slice A n c] t (0, 0)) ∈ H) :
    ∃ (x : Unit) (w' : World), (callFunc 88 #[.agg #[typeHandle Try.prog t, .pointer (some ⟨b, 0, none⟩), .int .u64 (151)]]).run Try.prog w = .ok (.value (.int .i64 (n : Int))) w' ∧ St w00 H w' := by
  refine ⟨(), w, ?_, hw⟩
  rw [run_callFunc_extern Try.func88 (by kernel_rfl) (by kernel_rfl) (by kernel_rfl) (e := Extern.ReflectliteValue.method (Extern.ReflectliteValue.valueError "reflectlite.Value.Len" 0) Extern.ReflectliteValue.len) (by kernel_rfl), run_valueLen_slice t e ti hi hdsc hpk ⟨b, 0, none⟩ A n c w (hw.cellM hb rfl)]
  rfl
end
set_option maxRecDepth 100000 in
set_option maxHeartbeats 2000000 in
theorem slice_w {t e : TypeId} {ti ie : TypeInfo} (hi : Try.prog.info? t = some ti) (hdsc : ti.desc = .slice e) (hpk : Try.prog.packed t = false) (hie : Try.prog.info? e = some ie) (ke : Nat) (hke : ∀ w, (Extern.Rtype.kind e).run Try.prog w = .ok ke w) (A : Option Addr) (n c : Nat) (hn : n < 65536) (sf : Nat) (hf : Try.prog.funcs.findIdx? (·.name == "internal/reflectlite" ++ ".Swapper$" ++ toString (Lib.swapperK n ie ke)) = some sf) (sb : Array Value) (hsb : (if Lib.swapperK n ie ke ≤ 2 then #[] else #[.slice A n c, typeHandle Try.prog e]) = sb) (kf : Nat) (lb : Array Value) {w00 : World} {H : List (Nat × Obj)} {γ : Type} (p : γ → Prop) (F : γ → List (Nat × Obj))
    (hp : ∀ (q r : Nat) (w : World), St w00 ((q, .cells #[typeHandle Try.prog t, .pointer (some ⟨r, 0, none⟩), .int .u64 (151)] 112 (0, 0)) :: (r, .cells #[.slice A n c] t (0, 0)) :: H) w → Calls Try.prog 90 #[.agg #[.func (.func kf) #[] lb, .func (.func sf) #[] sb], .int .i64 (0), .int .i64 ((n : Int)), .int .i64 (((Sort.bitsLen n : Nat) : Int))] w fun rr w' => ∃ x, p x ∧ rr = .returned (.tuple #[]) ∧ St w00 (F x) w') (w : World) (hst : St w00 H w) : Calls Try.prog 67 #[.iface t (.slice A n c), .func (.func kf) #[] lb] w (fun rr w' => ∃ x, p x ∧ rr = .returned (.tuple #[]) ∧ St w00 (F x) w') := by
  refine calls_W (n := 23) Try.func67 rfl [(0, .iface t (.slice A n c)), (1, .func (.func kf) #[] lb)] rfl ⟨by kernel_rfl, by kernel_rfl⟩ ?_
  refine W.weak (Ψ := St w00 H) (fun w' h => by rw [h]; exact hst) ?_
  refine W.seq ?_
  refine W.region [(0, false), (1, false), (2, false), (3, false)] (by kernel_rfl) ?_
  refine T.pure 8 (.iface t (.slice A n c)) (by kernel_rfl) (fun w => by kernel_rfl) ?_
  refine T.callVG (β := Nat) 9 86 #[.iface t (.slice A n c)] (fun r => .agg #[typeHandle Try.prog t, .pointer (some ⟨r, 0, none⟩), .int .u64 (151)]) (fun r => St w00 ((r, .cells #[.slice A n c] t (0, 0)) :: H)) (by kernel_rfl) (by kernel_rfl) ?_ (fun _ _ _ => trivial) ?_
  · exact fun w hw => valueOf_x hi hdsc A n c w hw
  intro r
  refine T.alloc 4 112 #[.pointer none, .pointer none, .int .u64 (0)] (by kernel_rfl) (by kernel_rfl) (by kernel_rfl) (fun _ _ _ => trivial) (fun b1 => ?_)
  refine T.storeP 112 b1 0 (.agg #[typeHandle Try.prog t, .pointer (some ⟨r, 0, none⟩), .int .u64 (151)]) #[.pointer none, .pointer none, .int .u64 (0)] #[typeHandle Try.prog t, .pointer (some ⟨r, 0, none⟩), .int .u64 (151)] 112 (by kernel_rfl) (by kernel_rfl) (by kernel_rfl) (by kernel_rfl) (by kernel_rfl) (by kernel_rfl) (List.Perm.refl _) (fun _ _ => trivial) ?_
  refine T.nil ?_
  refine QN.seq ?_
  refine W.seq ?_
  refine W.region [(0, false), (1, false), (2, false)] (by kernel_rfl) ?_
  refine T.pure 10 (.iface t (.slice A n c)) (by kernel_rfl) (fun w => by kernel_rfl) ?_
  refine T.callVG (β := Unit) 11 87 #[.iface t (.slice A n c)] (fun _ => .func (.func sf) #[] sb) (fun _ => St w00 ((b1, .cells #[typeHandle Try.prog t, .pointer (some ⟨r, 0, none⟩), .int .u64 (151)] 112 (0, 0)) :: ((r, .cells #[.slice A n c] t (0, 0)) :: H))) (by kernel_rfl) (by kernel_rfl) ?_ (fun _ _ _ => trivial) ?_
  · exact fun w hw => swapper_x hi hdsc hie ke hke A n c sf hf sb hsb w hw
  intro _
  refine T.pure 5 (.func (.func sf) #[] sb) (by kernel_rfl) (fun w => by kernel_rfl) ?_
  refine T.nil ?_
  refine QN.seq ?_
  refine W.seq ?_
  refine W.region [(0, false), (1, false), (2, false)] (by kernel_rfl) ?_
  refine T.loadR false 12 #[typeHandle Try.prog t, .pointer (some ⟨r, 0, none⟩), .int .u64 (151)] 112 b1 0 (by kernel_rfl) (by kernel_rfl) (by kernel_rfl) (by kernel_rfl) (fun w h => St.rangeM h #[typeHandle Try.prog t, .pointer (some ⟨r, 0, none⟩), .int .u64 (151)] (.head _) (by kernel_rfl)) ?_
  refine T.callVG (β := Unit) 13 88 #[.agg #[typeHandle Try.prog t, .pointer (some ⟨r, 0, none⟩), .int .u64 (151)]] (fun _ => .int .i64 ((n : Int))) (fun _ => St w00 ((b1, .cells #[typeHandle Try.prog t, .pointer (some ⟨r, 0, none⟩), .int .u64 (151)] 112 (0, 0)) :: ((r, .cells #[.slice A n c] t (0, 0)) :: H))) (by kernel_rfl) (by kernel_rfl) ?_ (fun _ _ _ => trivial) ?_
  · exact fun w hw => valueLen_x hi hdsc hpk A n c r w hw (.tail _ (.head _))
  intro _
  refine T.pure 6 (.int .i64 ((n : Int))) (by kernel_rfl) (fun w => by kernel_rfl) ?_
  refine T.nil ?_
  refine QN.seq ?_
  refine W.seq ?_
  refine W.region [(0, false), (1, false), (2, false), (3, false)] (by kernel_rfl) ?_
  refine T.pure 14 (.int .i64 ((n : Int))) (by kernel_rfl) (fun w => by kernel_rfl) ?_
  refine T.pureE 15 (.int .u64 (IntKind.u64.wrap (n : Int))) (.int .u64 ((n : Int))) (by kernel_rfl) (fun w => by kernel_rfl) (wrapu_int (by omega) (by omega)) ?_
  refine T.callP 16 89 #[.int .u64 ((n : Int))] (.int .i64 (((Sort.bitsLen n : Nat) : Int))) (by kernel_rfl) (by kernel_rfl) ent89 (fun w hw => len_c n hn w) (fun _ _ => trivial) ?_
  refine T.pure 7 (.int .i64 (((Sort.bitsLen n : Nat) : Int))) (by kernel_rfl) (fun w => by kernel_rfl) ?_
  refine T.nil ?_
  refine QN.seq ?_
  refine W.region [(0, false), (1, false), (2, false), (3, false), (4, false), (5, false)] (by kernel_rfl) ?_
  refine T.pure 17 (.func (.func kf) #[] lb) (by kernel_rfl) (fun w => by kernel_rfl) ?_
  refine T.pure 18 (.func (.func sf) #[] sb) (by kernel_rfl) (fun w => by kernel_rfl) ?_
  refine T.pure 19 (.agg #[.func (.func kf) #[] lb, .func (.func sf) #[] sb]) (by kernel_rfl) (fun w => by kernel_rfl) ?_
  refine T.pure 20 (.int .i64 ((n : Int))) (by kernel_rfl) (fun w => by kernel_rfl) ?_
  refine T.pure 21 (.int .i64 (((Sort.bitsLen n : Nat) : Int))) (by kernel_rfl) (fun w => by kernel_rfl) ?_
  refine T.callG (β := γ) 22 90 #[.agg #[.func (.func kf) #[] lb, .func (.func sf) #[] sb], .int .i64 (0), .int .i64 ((n : Int)), .int .i64 (((Sort.bitsLen n : Nat) : Int))] (fun gs => .tuple #[]) (fun gs => St w00 (F gs)) (fun gs => p gs) (by kernel_rfl) (by kernel_rfl) ent90 ?_ (fun _ _ _ => trivial) ?_
  · exact fun w hw => hp b1 r w ((fun w h => h) w hw)
  rintro xx hp_
  have hp2 : p xx := hp_
  refine T.nil ?_
  refine QN.done0 (.inr rfl) rfl (fun w hw => ?_)
  exact ⟨_, hp2, rfl, hw⟩
theorem swap_one (w : World) : (callFunc 95 #[.int .i64 0, .int .i64 0]).run Try.prog w = .ok (.value (.tuple #[])) w := by kernel_rfl
theorem swp_one {α : Type} [Inhabited α] (d : Array α) (hd : d.size = 1) : Sort.swp d 0 0 = d := by
  obtain ⟨x, rfl⟩ := Array.size_eq_one_iff.1 hd
  rfl
/-- What is known of the element type of a slice that is sorted. -/
structure SortTy (t e : TypeId) (sz : Nat) : Prop where
  ex : ∃ ti ie ke, Try.prog.info? t = some ti ∧ ti.desc = .slice e ∧ Try.prog.packed t = false ∧ Try.prog.info? e = some ie ∧ (∀ w, (Extern.Rtype.kind e).run Try.prog w = .ok ke w) ∧ ie.size = sz ∧ (∀ w, (isAgg e).run Try.prog w = .ok true w) ∧ ∀ n, 2 ≤ n → Lib.swapperK n ie ke = 9
section
variable {α : Type} [Cel α] [Inhabited α]
theorem slice_c {t e : TypeId} (hT : SortTy t e (Cel.sz α)) {w00 : World} {g n c : Nat} {ty : TypeId} {tail : List Value} {lt : α → α → Bool} {kf : Nat} {lb : Array Value} {H0 : List (Nat × Obj)} (hn0 : 1 ≤ n) (hn : n ≤ 1000) (hent : Enters Try.prog kf)
    (hless : ∀ (H' : List (Nat × Obj)) (d : Array α) (w : World) (x y : Int) (i j : Nat), d.size = n → x = (i : Int) → y = (j : Int) → i < n → j < n → St w00 ((g, .cells (rowb d tail) ty (0, 0)) :: (H' ++ H0)) w → Ret Try.prog kf (#[.int .i64 x, .int .i64 y] ++ lb) w (.bool (lt d[i]! d[j]!))) (hswo : Sort.SWO lt)
    (d : Array α) (hd : d.size = n) (w : World) (hst : St w00 ((g, .cells (rowb d tail) ty (0, 0)) :: H0) w) :
    Calls Try.prog 67 #[.iface t (.slice (some ⟨g, 0, none⟩) n c), .func (.func kf) #[] lb] w fun rr w' => ∃ gs : Array α, (Sort.PermIn 0 n d gs ∧ Sort.SortedIn lt 0 n gs) ∧ rr = .returned (.tuple #[]) ∧ St w00 ((g, .cells (rowb gs tail) ty (0, 0)) :: H0) w' := by
  obtain ⟨ti, ie, ke, hi, hdsc, hpk, hie, hke, hsz, hagg, hK⟩ := hT.ex
  have key : ∀ (sf : Nat) (sb : Array Value), Try.prog.funcs.findIdx? (·.name == "internal/reflectlite" ++ ".Swapper$" ++ toString (Lib.swapperK n ie ke)) = some sf → (if Lib.swapperK n ie ke ≤ 2 then #[] else #[.slice (some ⟨g, 0, none⟩) n c, typeHandle Try.prog e]) = sb →
      (∀ (H : List (Nat × Obj)) (d : Array α) (w : World) (x y : Int) (i j : Nat), d.size = n → x = (i : Int) → y = (j : Int) → i < n → j < n → St w00 ((g, .cells (rowb d tail) ty (0, 0)) :: H) w → ∃ w', (callFunc sf (#[.int .i64 x, .int .i64 y] ++ sb)).run Try.prog w = .ok (.value (.tuple #[])) w' ∧ St w00 ((g, .cells (rowb (Sort.swp d i j) tail) ty (0, 0)) :: H) w') →
      Calls Try.prog 67 #[.iface t (.slice (some ⟨g, 0, none⟩) n c), .func (.func kf) #[] lb] w fun rr w' => ∃ gs : Array α, (Sort.PermIn 0 n d gs ∧ Sort.SortedIn lt 0 n gs) ∧ rr = .returned (.tuple #[]) ∧ St w00 ((g, .cells (rowb gs tail) ty (0, 0)) :: H0) w' := by
    intro sf sb hf hsb hsw
    have hS : SortOk Try.prog α w00 g n ty tail lt kf lb sf sb H0 := ⟨hent, hless, fun H' d w x y i j => hsw (H' ++ H0) d w x y i j, hswo⟩
    refine slice_w hi hdsc hpk hie ke hke (some ⟨g, 0, none⟩) n c (by omega) sf hf sb hsb kf lb (γ := Array α) (fun gs => Sort.PermIn 0 n d gs ∧ Sort.SortedIn lt 0 n gs) (fun gs => (g, .cells (rowb gs tail) ty (0, 0)) :: H0) ?_ w hst
    intro q r w1 h1
    have hb := bl_bd n 10 (by omega)
    have h2 := h1.perm (H' := (g, .cells (rowb d tail) ty (0, 0)) :: ([(q, .cells #[typeHandle Try.prog t, .pointer (some ⟨r, 0, none⟩), .int .u64 (151)] 112 (0, 0)), (r, .cells #[.slice (some ⟨g, 0, none⟩) n c] t (0, 0))] ++ H0)) (((List.Perm.swap _ _ _).cons _).trans (List.Perm.swap _ _ _))
    refine (pdq_c hS hn (n + 1) d 0 n ((Sort.bitsLen n : Nat) : Int) hd (by omega) (by omega) (by omega) (by omega) (by omega) (Or.inl rfl) _ w1 h2).mono ?_
    rintro rr w' ⟨gs, h3, h4, h5⟩
    exact ⟨gs, h3, h4, h5.part (List.Sublist.cons_cons _ (List.sublist_append_right _ _))⟩
  by_cases h1 : n = 1
  · subst h1
    refine key 95 #[] (by kernel_rfl) rfl ?_
    intro H d w x y i j hd hx hy hi hj hw
    have hi0 : i = 0 := by omega
    have hj0 : j = 0 := by omega
    subst hi0 hj0
    subst hx hy
    exact ⟨w, swap_one w, by rw [swp_one d hd]; exact hw⟩
  · have h9 := hK n (by omega)
    refine key 102 #[.slice (some ⟨g, 0, none⟩) n c, typeHandle Try.prog e] (by rw [h9]; kernel_rfl) (by rw [h9]; rfl) ?_
    intro H d w x y i j hd hx hy hi hj hw
    subst hx hy
    obtain ⟨w', h1, h2⟩ := run_swapRow (P := Try.prog) (c := c) false e ie hie hsz hagg d hd i j hi hj w hw
    refine ⟨w', ?_, h2⟩
    rw [run_callFunc_extern Try.func102 (by kernel_rfl) (by kernel_rfl) (by kernel_rfl) (e := Extern.ReflectliteSwapper.swap false) (by kernel_rfl)]
    show Result.andThen (Sem.run Try.prog (Extern.ReflectliteSwapper.swap false #[.int .i64 i, .int .i64 j, .slice (some ⟨g, 0, none⟩) n c, typeHandle Try.prog e]) w) _ = _
    rw [h1]
    rfl
/-- A row of no elements. -/
theorem slice0_c {t e : TypeId} (hT : SortTy t e (Cel.sz α)) {w00 : World} {A : Option Addr} {c : Nat} {kf : Nat} {lb : Array Value} {H0 : List (Nat × Obj)} (hent : Enters Try.prog kf) (w : World) (hst : St w00 H0 w) :
    Calls Try.prog 67 #[.iface t (.slice A 0 c), .func (.func kf) #[] lb] w fun rr w' => rr = .returned (.tuple #[]) ∧ St w00 H0 w' := by
  obtain ⟨ti, ie, ke, hi, hdsc, hpk, hie, hke, hsz, hagg, hK⟩ := hT.ex
  refine (slice_w hi hdsc hpk hie ke hke A 0 c (by omega) 94 (by kernel_rfl) #[] rfl kf lb (γ := Unit) (fun _ => True) (fun _ => H0) ?_ w hst).mono (fun rr w' ⟨_, _, h1, h2⟩ => ⟨h1, h2⟩)
  intro q r w1 h1
  have hS : SortOk Try.prog α w00 r 0 t [.slice A 0 c] (fun _ _ => false) kf lb 94 #[] ([(q, .cells #[typeHandle Try.prog t, .pointer (some ⟨r, 0, none⟩), .int .u64 (151)] 112 (0, 0))] ++ H0) :=
    ⟨hent, fun _ _ _ _ _ _ _ _ _ _ h => absurd h (by omega), fun _ _ _ _ _ _ _ _ _ _ h => absurd h (by omega), ⟨fun _ => rfl, fun _ _ _ h => (by cases h), fun _ _ _ _ _ => rfl⟩⟩
  refine (pdq_c hS (by omega) 1 #[] 0 0 ((Sort.bitsLen 0 : Nat) : Int) rfl (by omega) (by omega) (by decide) (by decide) (by omega) (Or.inl rfl) [] w1 (h1.perm (List.Perm.swap _ _ _))).mono ?_
  rintro rr w' ⟨gs, h3, h4, h5⟩
  exact ⟨(), trivial, h4, h5.part (.cons _ (.cons _ (List.Sublist.refl _)))⟩
end
end Go.Proofs.Ythhgdkodhokefaa
