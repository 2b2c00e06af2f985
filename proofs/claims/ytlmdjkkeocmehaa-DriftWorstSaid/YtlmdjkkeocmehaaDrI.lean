/- The contracts of drift.Worst, drift.Rate and drift.Several. -/
import Derived.Test.YtlmdjkkeocmehaaDrH
import Derived.Test.YtlmdjkkeocmehaaDrTab2
import Derived.Laws.EntriesVeiled
set_option linter.unusedVariables false
namespace Go.Proofs.Ytlmdjkkeocmehaa
open Go.RowKit
theorem Worst_any (v : TabV) (t : Tab.Tb) (x1 x2 y1 y2 : Int) (w : World) (ht : TabIn w v t) :
    Calls Try.prog 15 #[T3 v, I2 x1 x2, I2 y1 y2] w (RetB (.tuple #[.int .i64 (Tab.wV t x1 x2 y1 y2), .int .i64 (Tab.wE t x1 x2 y1 y2)]) w) := by
  cases h : Tab.wB t x1 x2 y1 y2
  · exact Worst_no v t x1 x2 y1 y2 w ht h
  cases h2 : Tab.wN t x1 y1
  · exact Worst_nn v t x1 x2 y1 y2 w ht h h2
  · exact Worst_ok v t x1 x2 y1 y2 w ht h h2
set_option maxHeartbeats 1000000 in
theorem Rate_any (v : TabV) (t : Tab.Tb) (x y : Int) (w : World) (ht : TabIn w v t) :
    Calls Try.prog 11 #[T3 v, .int .i64 x, .int .i64 y] w (RetB (.tuple #[.int .i64 (Tab.wV t x x y y), .int .i64 (Tab.wE t x x y y)]) w) := by
  have hb0 : Below w.heap.size w (w.alloc (oT v)) := (Below.refl _ _).alloc (Nat.le_refl _) _
  have hw := Lib.hid (Worst_any v t x x y y _ (ht.alloc (oT v)))
  clear ht
  obtain ⟨A1, n1, c1, A2, n2, c2, A3, n3, c3⟩ := v
  go_enter Try.func11, Try.ntmps11
  go_wp2_with fail
  refine hw.out.mono ?_
  rintro e w1 ⟨rfl, hb1⟩
  have hb := Below.go hb0 hb1
  go_wp2
  go_ret2
  exact ⟨rfl, hb⟩
/-! segments in memory -/
def Lg (B : Nat) (W : World) (A : Option Addr) (n : Nat) (l : List Tab.Sg) : Prop :=
  l.length = n ∧ (0 < n → ∃ b off, A = some ⟨b, off, none⟩ ∧ b < B ∧ ∀ j, j < n → W.cell? ⟨b, off + j * 5, none⟩ = some (.int .i64 (Tab.sAt l j).n) ∧ W.cell? ⟨b, off + j * 5 + 1, none⟩ = some (.int .i64 (Tab.sAt l j).x1) ∧ W.cell? ⟨b, off + j * 5 + 2, none⟩ = some (.int .i64 (Tab.sAt l j).x2) ∧ W.cell? ⟨b, off + j * 5 + 3, none⟩ = some (.int .i64 (Tab.sAt l j).y1) ∧ W.cell? ⟨b, off + j * 5 + 4, none⟩ = some (.int .i64 (Tab.sAt l j).y2))
theorem Lg.below {B : Nat} {W W' : World} {A : Option Addr} {n : Nat} {l : List Tab.Sg} (h : Lg B W A n l) (hb : Below B W W') : Lg B W' A n l :=
  ⟨h.1, fun hn => by
    obtain ⟨b, off, e, hB, hc⟩ := h.2 hn
    refine ⟨b, off, e, hB, fun j hj => ?_⟩
    obtain ⟨h0, h1, h2, h3, h4⟩ := hc j hj
    exact ⟨(hb.cell (p := ⟨b, off + j * 5, none⟩) hB).trans h0, (hb.cell (p := ⟨b, off + j * 5 + 1, none⟩) hB).trans h1, (hb.cell (p := ⟨b, off + j * 5 + 2, none⟩) hB).trans h2, (hb.cell (p := ⟨b, off + j * 5 + 3, none⟩) hB).trans h3, (hb.cell (p := ⟨b, off + j * 5 + 4, none⟩) hB).trans h4⟩⟩
theorem Lg.mono {B B' : Nat} {W : World} {A : Option Addr} {n : Nat} {l : List Tab.Sg} (h : Lg B W A n l) (hB : B ≤ B') : Lg B' W A n l :=
  ⟨h.1, fun hn => by obtain ⟨b, off, e, hb, hc⟩ := h.2 hn; exact ⟨b, off, e, by omega, hc⟩⟩
theorem set_heap {w : World} {b : Nat} {cs : Array Value} {t : TypeId} {j : Nat} {u : Value} (h : w.heap[b]? = some (.cells cs t)) : (w.setCell ⟨b, j, none⟩ u).heap[b]? = some (.cells (cs.setIfInBounds j u) t) := by
  have hlt := lt_of_heap h
  have h' : w.heap[b] = .cells cs t := by simpa [Array.getElem?_eq_getElem hlt] using h
  show (w.heap.modify b _)[b]? = _
  rw [Array.getElem?_eq_getElem (by simpa using hlt), Array.getElem_modify_self, h']
  rfl
theorem st2 {W : World} {k : Nat} {x y : Value} {t : TypeId} (h : W.heap[k]? = some (.cells #[x, y] t)) (a b : Value) : ((W.setCell ⟨k, 0, none⟩ a).setCell ⟨k, 1, none⟩ b).heap[k]? = some (.cells #[a, b] t) := set_heap (set_heap h)
theorem st2o {W : World} {k k' : Nat} {o : Obj} (h : W.heap[k']? = some o) (hne : k' ≠ k) (a b : Value) : ((W.setCell ⟨k, 0, none⟩ a).setCell ⟨k, 1, none⟩ b).heap[k']? = some o := by
  rw [Below.heap_setCell _ _ _ _ hne, Below.heap_setCell _ _ _ _ hne]; exact h
theorem Below.set2 {w W : World} {k : Nat} (hb : Below w.heap.size w W) (a b : Value) (hk : w.heap.size ≤ k) : Below w.heap.size w ((W.setCell ⟨k, 0, none⟩ a).setCell ⟨k, 1, none⟩ b) := (hb.setCell hk _).setCell hk _
abbrev oBd (x y : Int) : Obj := .cells #[.int .i64 x, .int .i64 y] 54
set_option maxHeartbeats 1000000 in
theorem plus_any (a b c d : Int) (w : World) (h1 : -1000000000000000000 ≤ a ∧ a ≤ 1000000000000000000) (h2 : -1000000000000000000 ≤ b ∧ b ≤ 1000000000000000000) (h3 : -1000000000000000000 ≤ c ∧ c ≤ 1000000000000000000) (h4 : -1000000000000000000 ≤ d ∧ d ≤ 1000000000000000000) :
    Calls Try.prog 42 #[I2 a b, I2 c d] w (RetB (I2 (a + c) (b + d)) w) := by
  obtain ⟨a1, a2⟩ := h1
  obtain ⟨b1, b2⟩ := h2
  obtain ⟨c1, c2⟩ := h3
  obtain ⟨d1, d2⟩ := h4
  go_enter Try.func42, Try.ntmps42
  go_wp2
  exact bodyPost_ret (v := I2 (a + c) (b + d)) (by simp [results, Try.results42, go_sem]) rfl ⟨rfl, below3 _ _ _ _⟩
theorem ret_v3 {r : Tab.R3} {a b e : Int} (h : r = (a, b, e)) : Ending.returned (.tuple #[I2 a b, .int .i64 e]) = .returned (.tuple #[I2 r.1 r.2.1, .int .i64 r.2.2]) := by rw [h]
theorem below2 (w : World) (o p : Obj) : Below w.heap.size w ((w.alloc o).alloc p) := ((Below.refl _ _).alloc (Nat.le_refl _) _).alloc (by simp) _
set_option maxHeartbeats 1000000 in
set_option maxRecDepth 100000 in
theorem Several_no (v : TabV) (t : Tab.Tb) (A : Option Addr) (n c : Nat) (l : List Tab.Sg) (w : World) (ht : TabIn w v t) (h : Tab.valid t = false) :
    Calls Try.prog 21 #[T3 v, .slice A n c] w (RetB (.tuple #[I2 (Tab.several t l).1 (Tab.several t l).2.1, .int .i64 (Tab.several t l).2.2]) w) := by
  have hb0 := below2 w (oT v) (oRg 0 0)
  have k1 := Lib.hid (new1 w (oT v) (oRg 0 0))
  have hval := Lib.hid (Valid_any v t _ (ht.below hb0))
  rw [h] at hval
  have hz : Hid (Tab.several t l = (0, 0, 1)) := Lib.hid (by unfold Tab.several; rw [h]; rfl)
  clear ht h
  obtain ⟨A1, n1, c1, A2, n2, c2, A3, n3, c3⟩ := v
  go_enter Try.func21, Try.ntmps21
  go_wp2_with fail
  refine hval.out.mono ?_
  rintro e w1 ⟨rfl, hb1⟩
  have hb := Below.go hb0 hb1
  obtain ⟨⟨d0, d1⟩, f0, f1⟩ := blk2 (keep' k1.out hb1)
  go_wp2
  exact bodyPost_ret (v := .tuple #[I2 0 0, .int .i64 1]) (by simp [results, Try.results21, go_sem, d0, d1]) rfl ⟨ret_v3 hz.out, by (repeat (with_reducible first | exact hb | refine Below.drew ?_ | refine Below.setCell ?_ ?_ _)); all_goals (first | omega | (simp; done) | (simp; omega))⟩
set_option maxHeartbeats 1000000 in
set_option maxRecDepth 100000 in
theorem Several_long (v : TabV) (t : Tab.Tb) (A : Option Addr) (n c : Nat) (l : List Tab.Sg) (w : World) (ht : TabIn w v t) (h : Tab.valid t = true) (hl : l.length = n) (hn : 64 < n) :
    Calls Try.prog 21 #[T3 v, .slice A n c] w (RetB (.tuple #[I2 (Tab.several t l).1 (Tab.several t l).2.1, .int .i64 (Tab.several t l).2.2]) w) := by
  have hb0 := below2 w (oT v) (oRg 0 0)
  have k1 := Lib.hid (new1 w (oT v) (oRg 0 0))
  have hval := Lib.hid (Valid_any v t _ (ht.below hb0))
  rw [h] at hval
  have hz : Hid (Tab.several t l = (0, 0, 2)) := Lib.hid (by unfold Tab.several; rw [h, if_pos rfl, if_pos (by omega)])
  have q : decide (64 < n) = true := decide_eq_true hn
  clear ht h hl
  obtain ⟨A1, n1, c1, A2, n2, c2, A3, n3, c3⟩ := v
  go_enter Try.func21, Try.ntmps21
  go_wp2_with fail
  refine hval.out.mono ?_
  rintro e w1 ⟨rfl, hb1⟩
  have hb := Below.go hb0 hb1
  obtain ⟨⟨d0, d1⟩, f0, f1⟩ := blk2 (keep' k1.out hb1)
  go_wp2
  exact bodyPost_ret (v := .tuple #[I2 0 0, .int .i64 2]) (by simp [results, Try.results21, go_sem, d0, d1]) rfl ⟨ret_v3 hz.out, by (repeat (with_reducible first | exact hb | refine Below.drew ?_ | refine Below.setCell ?_ ?_ _)); all_goals (first | omega | (simp; done) | (simp; omega))⟩
end Go.Proofs.Ytlmdjkkeocmehaa
