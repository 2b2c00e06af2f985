/- The contract of smear.find. -/
import Derived.Test.YtcnenkhgbifmmaaDoorSmC
set_option linter.unusedVariables false
namespace Go.Proofs.YtcnenkhgbifmmaaDoor
open Go.RowKit Go.Shelf
attribute [local go_sem] Oper.semAt_some
/-- the last window that has come -/
def lastP {m : Nat} (pre : List (Wx m)) : Nat := match pre.getLast? with | none => 0 | some x => x.1
theorem lastP_snoc {m : Nat} (pre : List (Wx m)) (x : Wx m) : lastP (pre ++ [x]) = x.1 := by unfold lastP; simp
def noneP {m : Nat} (l : Lpm.LL) (h t : Int) (pre : List (Wx m)) : Prop := ∀ k, pre.map (·.1) = List.range k → ∀ j, j < k → Smm.inW l h t j = false
theorem none_snoc {m : Nat} {l : Lpm.LL} {h t : Int} {pre : List (Wx m)} {x : Wx m} (hp : noneP l h t pre) (hx : Smm.inW l h t x.1 = false) : noneP l h t (pre ++ [x]) := by
  intro k hk j hj
  obtain ⟨rfl, h3, h4⟩ := snoc_parts hk
  rcases Nat.lt_or_ge j pre.length with e | e
  · exact hp _ h3 j e
  · rw [show j = x.1 by omega]; exact hx
theorem wi_hit {m : Nat} {l : Lpm.LL} {h t : Int} {pre : List (Wx m)} {x : Wx m} (hlen : l.length = m) (hp : noneP l h t pre) (hx : Smm.inW l h t x.1 = true) {k : Nat} (hk : (pre ++ [x]).map (·.1) = List.range k) : Smm.wi l h t = some x.1 := by
  obtain ⟨rfl, h3, h4⟩ := snoc_parts hk
  unfold Smm.wi
  rw [List.find?_range_eq_some]
  refine ⟨hx, List.mem_range.2 (by have := x.2; omega), fun j hj => ?_⟩
  simpa using hp _ h3 j (by omega)
theorem wi_none {m : Nat} {l : Lpm.LL} {h t : Int} {ys : List (Wx m)} (hlen : l.length = m) (hy : ys.map (·.1) = List.range m) (hp : noneP l h t ys) : Smm.wi l h t = none := by
  unfold Smm.wi
  rw [List.find?_eq_none]
  intro j hj
  have := hp m hy j (by have := List.mem_range.1 hj; omega)
  simpa using this
theorem has_inW {l : Lpm.LL} {h t : Int} {k : Nat} : hasB (Smm.mid l k - h) h t = Smm.inW l h t k := by
  unfold hasB Smm.inW; rw [show Smm.mid l k - h + 2 * h = Smm.mid l k + h by omega]
/-- what find returns -/
noncomputable def fndV (l : Lpm.LL) (h t : Int) : Value := match Smm.wi l h t with | some k => .tuple #[winV l h k, .bool true] | none => .tuple #[A4 0 0 0 0, .bool false]
theorem set_heap {w : World} {b : Nat} {cs : Array Value} {t : TypeId} {j : Nat} {u : Value} (h : w.heap[b]? = some (.cells cs t)) : (w.setCell ⟨b, j, none⟩ u).heap[b]? = some (.cells (cs.setIfInBounds j u) t) := by
  have hlt := lt_of_heap h
  have h' : w.heap[b] = .cells cs t := by simpa [Array.getElem?_eq_getElem hlt] using h
  show (w.heap.modify b _)[b]? = _
  rw [Array.getElem?_eq_getElem (by simpa using hlt), Array.getElem_modify_self, h']
  rfl
theorem st4 {W : World} {k : Nat} {x y z u : Value} {t : TypeId} (h : W.heap[k]? = some (.cells #[x, y, z, u] t)) (a b c d : Value) : ((((W.setCell ⟨k, 0, none⟩ a).setCell ⟨k, 1, none⟩ b).setCell ⟨k, 2, none⟩ c).setCell ⟨k, 3, none⟩ d).heap[k]? = some (.cells #[a, b, c, d] t) := set_heap (set_heap (set_heap (set_heap h)))
theorem st4o {W : World} {k k' : Nat} {o : Obj} (h : W.heap[k']? = some o) (hne : k' ≠ k) (a b c d : Value) : ((((W.setCell ⟨k, 0, none⟩ a).setCell ⟨k, 1, none⟩ b).setCell ⟨k, 2, none⟩ c).setCell ⟨k, 3, none⟩ d).heap[k']? = some o := by
  rw [Below.heap_setCell _ _ _ _ hne, Below.heap_setCell _ _ _ _ hne, Below.heap_setCell _ _ _ _ hne, Below.heap_setCell _ _ _ _ hne]; exact h
theorem st1o {W : World} {k k' : Nat} {o : Obj} (h : W.heap[k']? = some o) (hne : k' ≠ k) (a : Value) : (W.setCell ⟨k, 0, none⟩ a).heap[k']? = some o := by rw [Below.heap_setCell _ _ _ _ hne]; exact h
theorem blk_own {β : Type} (B : Nat) (f : β → Obj) (hf : ∀ s, (f s).isCells = true) : Own (fun s W => W.heap[B]? = some (f s)) := fun s X Y row hs hg hr =>
  (hg.block B (lt_of_heap hs) (fun e => by obtain ⟨o, ho, hc⟩ := hr B e.symm; rw [hs] at ho; cases ho; rw [hf] at hc; cases hc)).trans hs
theorem keeps5 {B : Nat} {W W2 : World} (hb : Below W.heap.size W W2) {k k' : Nat} (a b c d e : Value) : KeepsFrom B W (((((W2.setCell ⟨k, 0, none⟩ a).setCell ⟨k, 1, none⟩ b).setCell ⟨k, 2, none⟩ c).setCell ⟨k, 3, none⟩ d).setCell ⟨k', 0, none⟩ e) :=
  ((KeepsOthers.of_grownBy (grown_below hb none) (fun j o e => by cases e)).trans (((((KeepsOthers.setCell _ _ _).trans (KeepsOthers.setCell _ _ _)).trans (KeepsOthers.setCell _ _ _)).trans (KeepsOthers.setCell _ _ _)).trans (KeepsOthers.setCell _ _ _))).from _
theorem below5 {w W : World} {B : Nat} (hb : Below B w W) {k k' : Nat} (hk : B ≤ k) (hk' : B ≤ k') (a b c d e : Value) : Below B w (((((W.setCell ⟨k, 0, none⟩ a).setCell ⟨k, 1, none⟩ b).setCell ⟨k, 2, none⟩ c).setCell ⟨k, 3, none⟩ d).setCell ⟨k', 0, none⟩ e) :=
  ((((hb.setCell hk _).setCell hk _).setCell hk _).setCell hk _).setCell hk' _
set_option maxRecDepth 100000 in
set_option maxHeartbeats 4000000 in
theorem find_in (n : Nat) (hn : 6 ≤ n) (A : Option Addr) (m c : Nat) (tl : Lpm.LL) (h t : Int) (w : World) (hL : Lp w.heap.size w A m tl) (hm : m ≤ 110) (hv : Lpm.valid tl = true) (hh1 : 1000000 ≤ h) (hh2 : h ≤ 43200000000) :
    CallsIn Fence.wide n Tryd.prog 41 #[.slice A m c, .int .i64 h, .int .i64 t] w (RetB (fndV tl h t) w) := by
  have h1 : 1 ≤ n := by omega
  have HV := Lib.hid hv
  clear hv
  refine callsIn_of_wp_marks Tryd.func41 rfl trivial ?_ rfl
  simp only [Tryd.ntmps41, List.size_toArray, List.length_cons, List.length_nil, Nat.reduceAdd, Nat.reduceSub, Array.replicate_succ, Array.replicate_zero, List.push_toArray, List.append_toArray, List.nil_append, List.cons_append]
  gi_wp2_with (refine ⟨trivial, ?_⟩; gi_at_call 58; refine (windows_in _ _ _ _ _ _).mono ?_; rintro e w' ⟨rfl, rfl⟩)
  have bE := keepN (keepN (keepN (keepN (heap_new w (.cells #[.int .i64 t] 3)) (oW 0 0 0 0)) (.cells #[.bool false] 4)) (.cells #[.slice A m c] 22)) (.cells #[.int .i64 h] 3)
  have bW := keepN (keepN (keepN (heap_new (w.alloc (.cells #[.int .i64 t] 3)) (oW 0 0 0 0)) (.cells #[.bool false] 4)) (.cells #[.slice A m c] 22)) (.cells #[.int .i64 h] 3)
  have bR := keepN (keepN (heap_new ((w.alloc (.cells #[.int .i64 t] 3)).alloc (oW 0 0 0 0)) (.cells #[.bool false] 4)) (.cells #[.slice A m c] 22)) (.cells #[.int .i64 h] 3)
  have bL := keepN (heap_new (((w.alloc (.cells #[.int .i64 t] 3)).alloc (oW 0 0 0 0)).alloc (.cells #[.bool false] 4)) (.cells #[.slice A m c] 22)) (.cells #[.int .i64 h] 3)
  have bD := heap_new ((((w.alloc (.cells #[.int .i64 t] 3)).alloc (oW 0 0 0 0)).alloc (.cells #[.bool false] 4)).alloc (.cells #[.slice A m c] 22)) (.cells #[.int .i64 h] 3)
  have hB0 := Below.goN (Below.goN (Below.goN (Below.goN (Below.goN (Below.refl w.heap.size w) (.cells #[.int .i64 t] 3)) (oW 0 0 0 0)) (.cells #[.bool false] 4)) (.cells #[.slice A m c] 22)) (.cells #[.int .i64 h] 3)
  simp only [World.size_alloc] at bW bR bL bD
  have hsz : (((((w.alloc (.cells #[.int .i64 t] 3)).alloc (oW 0 0 0 0)).alloc (.cells #[.bool false] 4)).alloc (.cells #[.slice A m c] 22)).alloc (.cells #[.int .i64 h] 3)).heap.size = w.heap.size + 5 := by simp
  obtain ⟨W0, hW0⟩ : ∃ W0, ((((w.alloc (.cells #[.int .i64 t] 3)).alloc (oW 0 0 0 0)).alloc (.cells #[.bool false] 4)).alloc (.cells #[.slice A m c] 22)).alloc (.cells #[.int .i64 h] 3) = W0 := ⟨_, rfl⟩
  rw [hW0] at bE bW bR bL bD hB0 hsz ⊢
  clear hW0
  refine wpIn_rangeFunc_ownH rfl h1 (gf := 76) (lb := #[.pointer (some ⟨w.heap.size + 1 + 1 + 1, 0, none⟩), .pointer (some ⟨w.heap.size + 1 + 1 + 1 + 1, 0, none⟩)]) rfl trivial (enters_of Tryd.func76 (by kernel_rfl) rfl)
    (windows_stops (n - 1) (by omega) (w.heap.size + 1 + 1 + 1) (w.heap.size + 1 + 1 + 1 + 1) w.heap.size A m c tl h hm HV.out hh1 hh2 W0 (by omega) bL bD (by omega) (hL.below hB0)) KpB.trans (KpB.put (by omega)) (Below.refl _ _) (fun _ => rfl)
    (fun pre W => ((Boxed W w.heap.size 3 (.int .i64 t) ∧ W.heap[w.heap.size + 1]? = some (oW 0 0 0 0) ∧ Boxed W (w.heap.size + 1 + 1) 4 (.bool false)) ∧ Below w.heap.size w W) ∧ Hid (w.heap.size + 5 ≤ W.heap.size ∧ noneP tl h t pre))
    (fun cd pre W => cd = .ret ∧ ((W.heap[w.heap.size + 1]? = some (oW (Smm.mid tl (lastP pre) - h) h (Smm.el tl (lastP pre)).2 (Smm.mid tl (lastP pre) - h - 1000000 * Smm.os tl (lastP pre))) ∧ Boxed W (w.heap.size + 1 + 1) 4 (.bool true)) ∧ Below w.heap.size w W) ∧ Hid (∀ k, pre.map (·.1) = List.range k → Smm.wi tl h t = some (lastP pre)))
    (OwnFrom.and (OwnFrom.and (OwnFrom.and (Own.from (boxed_own _ _ _) _) (OwnFrom.and (Own.from (blk_own _ (fun _ => oW 0 0 0 0) (fun _ => rfl)) _) (Own.from (boxed_own _ _ _) _))) (ownFrom_below (Nat.le_refl _) (by omega))) (fun s A B row hs hg hr => Lib.hid ⟨Nat.le_trans hs.out.1 hg.size, hs.out.2⟩))
    (fun cd => OwnFrom.and (ownFrom_pure _ _) (OwnFrom.and (OwnFrom.and (OwnFrom.and (Own.from (blk_own _ (fun pre => oW (Smm.mid tl (lastP pre) - h) h (Smm.el tl (lastP pre)).2 (Smm.mid tl (lastP pre) - h - 1000000 * Smm.os tl (lastP pre))) (fun _ => rfl)) _) (Own.from (boxed_own _ _ _) _)) (ownFrom_below (Nat.le_refl _) (by omega))) (ownFrom_pure _ _)))
    ⟨⟨⟨bE, bW, bR⟩, hB0⟩, Lib.hid ⟨by omega, fun k hk j hj => by have := congrArg List.length hk; simp at this; omega⟩⟩
    (fun x a' W => ∃ Bx : Nat, W.heap[Bx]? = some (oW (Smm.mid tl x.1 - h) h (Smm.el tl x.1).2 (Smm.mid tl x.1 - h - 1000000 * Smm.os tl x.1)) ∧ a' = { tmps := #[.slice A m c, .int .i64 h, .int .i64 t, undef, undef, .pointer (some ⟨w.heap.size, 0, none⟩), .pointer (some ⟨w.heap.size + 1, 0, none⟩), .pointer (some ⟨w.heap.size + 1 + 1, 0, none⟩), .pointer (some ⟨Bx, 0, none⟩), undef, .slice A m c, .int .i64 h, .func (.func 76) #[] #[.pointer (some ⟨w.heap.size + 1 + 1 + 1, 0, none⟩), .pointer (some ⟨w.heap.size + 1 + 1 + 1 + 1, 0, none⟩)], winV tl h x.1, undef, undef, undef, undef, undef, undef, undef], defers := [] })
    (fun x a' _ X Y row hs hg hr => by obtain ⟨Bx, h2, h3⟩ := hs; exact ⟨Bx, blk_own Bx (fun _ : Unit => oW (Smm.mid tl x.1 - h) h (Smm.el tl x.1).2 (Smm.mid tl x.1 - h - 1000000 * Smm.os tl x.1)) (fun _ => rfl) () X Y row h2 hg (fun r e => (hr r e).2), h3⟩)
    ?assign ?body ?done ?stop
  case assign =>
    rintro l pre x W K ⟨⟨⟨bE1, bW1, bR1⟩, hB1⟩, hs1'⟩ hK
    gi_wp2
    exact hK _ _ ((KeepsOthers.alloc _ _).from _) ((KpB.refl _ _ W).below hB1.size ((Below.refl _ _).alloc (Nat.le_refl _) _)) ⟨⟨⟨bE1.alloc _, keepN bW1 _, bR1.alloc _⟩, hB1.alloc hB1.size _⟩, Lib.hid ⟨by have := hs1'.out.1; simp; omega, hs1'.out.2⟩⟩ ⟨W.heap.size, heap_new _ _, rfl⟩
  case body =>
    rintro l pre x a' W hl ⟨r, hr⟩ ⟨⟨⟨bE1, bW1, bR1⟩, hB1⟩, hs1'⟩ ⟨Bx, bX, rfl⟩ hlt
    have cE := bE1.cell
    obtain ⟨⟨x0, x1, x2, x3⟩, -⟩ := blk4 bX
    have hmd := Smm.mid_bd HV.out (k := x.1) (by rw [hL.1]; exact x.2)
    have hme := Smm.end_bd HV.out
    have hob := Smm.os_bd HV.out x.1
    have hHas := Lib.hid (has_any (Smm.mid tl x.1 - h) h (Smm.el tl x.1).2 (Smm.mid tl x.1 - h - 1000000 * Smm.os tl x.1) t W (by omega) (by omega))
    rw [has_inW] at hHas
    have hl1 : Hid (lastP (pre ++ [x]) = x.1) := Lib.hid (lastP_snoc _ _)
    have HX := Lib.hid bX
    have BW := Lib.hid bW1
    have BR := Lib.hid bR1
    have BE := Lib.hid bE1
    have h1' : 1 ≤ n - 1 - 1 := by omega
    clear bX bW1 bR1 bE1
    cases hi : Smm.inW tl h t x.1
    · have hn2 : Hid (noneP tl h t (pre ++ [x])) := Lib.hid (none_snoc hs1'.out.2 hi)
      rw [hi] at hHas
      generalize Smm.mid tl x.1 = M at *
      generalize Smm.os tl x.1 = O at *
      generalize (Smm.el tl x.1).2 = s at *
      gi_wp2_with (refine ⟨trivial, ?_⟩; gi_at_call 59; refine (CallsIn.inRound l (callsIn_wide.2 hHas.out)).mono ?_; rintro e w2 ⟨rfl, hb2⟩)
      exact ⟨(KeepsOthers.of_grownBy (grown_below hb2 none) (fun j o e => by cases e)).from _, (KpB.refl _ _ W).below hB1.size hb2, ⟨⟨⟨keep' BE.out hb2, keep' BW.out hb2, keep' BR.out hb2⟩, Below.go hB1 hb2⟩, Lib.hid ⟨by have := hs1'.out.1; have := hb2.size; omega, hn2.out⟩⟩⟩
    · have hh2' : Hid (∀ k, (pre ++ [x]).map (·.1) = List.range k → Smm.wi tl h t = some x.1) := Lib.hid fun k hk => wi_hit hL.1 hs1'.out.2 hi hk
      rw [hi] at hHas
      rw [← hl1.out] at hh2'
      have hix : Hid (oW (Smm.mid tl (lastP (pre ++ [x])) - h) h (Smm.el tl (lastP (pre ++ [x]))).2 (Smm.mid tl (lastP (pre ++ [x])) - h - 1000000 * Smm.os tl (lastP (pre ++ [x]))) = oW (Smm.mid tl x.1 - h) h (Smm.el tl x.1).2 (Smm.mid tl x.1 - h - 1000000 * Smm.os tl x.1)) := Lib.hid (by rw [hl1.out])
      generalize Smm.mid tl x.1 = M at *
      generalize Smm.os tl x.1 = O at *
      generalize (Smm.el tl x.1).2 = s at *
      gi_wp2_with (refine ⟨trivial, ?_⟩; gi_at_call 59; refine (CallsIn.inRound l (callsIn_wide.2 hHas.out)).mono ?_; rintro e w2 ⟨rfl, hb2⟩; obtain ⟨⟨y0, y1, y2, y3⟩, -⟩ := blk4 (keep' HX.out hb2); obtain ⟨⟨z0, z1, z2, z3⟩, zf0, zf1, zf2, zf3⟩ := blk4 (keep' BW.out hb2); have cR := blk1 (keep' BR.out hb2); have fR := frz1 (keep' BR.out hb2))
      have hb3 := Below.go hB1 hb2
      refine ⟨keeps5 hb2 _ _ _ _ _, rfl, ⟨⟨?_, ?_⟩, below5 hb3 (by omega) (by omega) _ _ _ _ _⟩, hh2'⟩
      · rw [hix.out]; exact st1o (st4 (keep' BW.out hb2) _ _ _ _) (by omega) _
      · exact set_heap (st4o (keep' BR.out hb2) (by omega) _ _ _ _)
  case done =>
    rintro D ys W hD hys ⟨⟨⟨bE1, bW1, bR1⟩, hB1⟩, hs1'⟩ hK
    have hno := Lib.hid (wi_none hL.1 hys hs1'.out.2)
    obtain ⟨⟨z0, z1, z2, z3⟩, zf0, zf1, zf2, zf3⟩ := blk4 bW1
    have cR := bR1.cell
    have fR := bR1.frozen
    have BW := Lib.hid bW1
    have BR := Lib.hid bR1
    clear bW1 bR1 bE1
    gi_wp2
    have hK2 := (keeps5 (B := 0) (k := w.heap.size + 1) (k' := w.heap.size + 1 + 1) (Below.refl W.heap.size W) (.int .i64 0) (.int .i64 0) (.int .i64 0) (.int .i64 0) (.bool false)).same D _ (Nat.zero_le _) hK rfl
    refine ⟨by simp, .inl ⟨_, _, rfl, run_takeDeferred hK2, ?_⟩⟩
    have hw5 := (World.putObj_heap_other (o := .deferred none) (show w.heap.size + 1 ≠ D by omega)).trans (st1o (k := w.heap.size + 1 + 1) (st4 BW.out (.int .i64 0) (.int .i64 0) (.int .i64 0) (.int .i64 0)) (by omega) (.bool false))
    have hw6 := (World.putObj_heap_other (o := .deferred none) (show w.heap.size + 1 + 1 ≠ D by omega)).trans (set_heap (j := 0) (u := .bool false) (st4o (k := w.heap.size + 1) BR.out (by omega) (.int .i64 0) (.int .i64 0) (.int .i64 0) (.int .i64 0)))
    obtain ⟨⟨v0, v1, v2, v3⟩, -⟩ := blk4 hw5
    have v4 := blk1 hw6
    exact ⟨.tuple #[A4 0 0 0 0, .bool false], by simp [results, Tryd.results41, go_sem, v0, v1, v2, v3, v4], by unfold fndV; rw [hno.out]; exact ⟨rfl, (below5 hB1 (by omega) (by omega) _ _ _ _ _).trans (belowK_b (w := w) (Nat.le_refl _) _ D _ _ (by omega) hK2 rfl rfl)⟩⟩
  case stop =>
    rintro D cd pre W hD ⟨k, hk⟩ ⟨rfl, ⟨⟨bW1, bR1⟩, hB1⟩, hwi⟩ hK
    have hz := Lib.hid (hwi.out k hk)
    gi_wp2
    have hw5 := (World.putObj_heap_other (o := .deferred none) (show w.heap.size + 1 ≠ D by omega)).trans bW1
    have hw6 := (World.putObj_heap_other (o := .deferred none) (show w.heap.size + 1 + 1 ≠ D by omega)).trans bR1
    obtain ⟨⟨v0, v1, v2, v3⟩, -⟩ := blk4 hw5
    have v4 := blk1 hw6
    refine ⟨by simp, .inl ⟨_, _, rfl, run_takeDeferred hK, ?_⟩⟩
    exact ⟨.tuple #[winV tl h (lastP pre), .bool true], by simp [results, Tryd.results41, go_sem, v0, v1, v2, v3, v4], by unfold fndV; rw [hz.out]; exact ⟨rfl, hB1.trans (belowK_b (w := w) (Nat.le_refl _) _ D _ _ (by omega) hK rfl rfl)⟩⟩
theorem find_any (A : Option Addr) (m c : Nat) (tl : Lpm.LL) (h t : Int) (w : World) (hL : Lp w.heap.size w A m tl) (hm : m ≤ 110) (hv : Lpm.valid tl = true) (hh1 : 1000000 ≤ h) (hh2 : h ≤ 43200000000) :
    Calls Tryd.prog 41 #[.slice A m c, .int .i64 h, .int .i64 t] w (RetB (fndV tl h t) w) :=
  (callsIn_wide (n := 8)).1 (find_in 8 (by omega) A m c tl h t w hL hm hv hh1 hh2)
end Go.Proofs.YtcnenkhgbifmmaaDoor
