/- The walks of the laws BeliefNothing, BeliefMeets, BeliefWider, BeliefSteps: each returns true for all beliefs, intervals and numbers; nothing that was there has changed. -/
import Derived.Test.YtiagdbahokgonaaBeE
set_option linter.unusedVariables false
namespace Go.Proofs.Ytiagdbahokgonaa
open Go.RowKit
theorem hasB_yes {x y t : Int} (h : x ≤ t ∧ t ≤ y) : hasB x y t = true := decide_eq_true h
theorem hasB_no {x y t : Int} (h : ¬ (x ≤ t ∧ t ≤ y)) : hasB x y t = false := decide_eq_false h
set_option maxHeartbeats 2000000 in
set_option maxRecDepth 100000 in
theorem nothing_core (t x lo hi : Int) (w : World) : Calls Try.prog 8 #[.int .i64 t, .int .i64 x, I2 lo hi] w (LawPost w) := by
  have hb := (Below.refl w.heap.size w).alloc (Nat.le_refl _) (.cells #[.int .i64 lo, .int .i64 hi] 23)
  have ki := Lib.hid (heap_new w (.cells #[.int .i64 lo, .int .i64 hi] 23))
  have co := @cell_old
  cases hv : Blm.tT t
  · have o1 : oE false = 1 := rfl
    have hn := Blm.tT_no hv
    have hc : decide (t < 0) = true ∨ decide (t < 0) = false ∧ decide (3000000000000000 < t) = true := or_ways (by simp; omega)
    rcases hc with c | ⟨c, c'⟩
    all_goals
      go_enter Try.func8, Try.ntmps8
      go_wp2_with fail
      refine (head_any _).mono ?_
      rintro e wN ⟨rfl, hn⟩
      have hb := (by first | exact Below.go hb hn | exact Below.goA hb hn | exact Below.goAA hb hn : Below w.heap.size w wN)
      have ki := Lib.hid (by first | exact keep' ki.out hn | exact keepA ki.out hn | exact keepAA ki.out hn)
      clear hn
      obtain ⟨⟨ki0, ki1⟩, -⟩ := blk2 ki.out
      have kiz := lt_of_heap ki.out
      go_wp2_with fail
      refine (bStart_any _ _).mono ?_
      rintro e wN ⟨rfl, hn⟩
      have hb := (by first | exact Below.go hb hn | exact Below.goA hb hn | exact Below.goAA hb hn : Below w.heap.size w wN)
      have ki := Lib.hid (by first | exact keep' ki.out hn | exact keepA ki.out hn | exact keepAA ki.out hn)
      clear hn
      obtain ⟨⟨ki0, ki1⟩, -⟩ := blk2 ki.out
      have kiz := lt_of_heap ki.out
      go_wp2
      go_ret
      exact ⟨rfl, hb.alloc hb.size _⟩
  · have o1 : oE true = 0 := rfl
    have o2 : oB true t = t := rfl
    have o3 : oB true 3000000000000000 = 3000000000000000 := rfl
    obtain ⟨t1, t2⟩ := Blm.tT_bd hv
    have hx : hasB 0 3000000000000000 x = (decide (0 ≤ x) && decide (x ≤ 3000000000000000)) := by unfold hasB; rw [Bool.eq_iff_iff]; simp
    have hxw : decide (0 ≤ x) = false ∧ hasB 0 3000000000000000 x = false ∨ decide (0 ≤ x) = true ∧ decide (x ≤ 3000000000000000) = false ∧ hasB 0 3000000000000000 x = false ∨ decide (0 ≤ x) = true ∧ decide (x ≤ 3000000000000000) = true ∧ hasB 0 3000000000000000 x = true := by
      rw [hx]; cases decide (0 ≤ x) <;> cases decide (x ≤ 3000000000000000) <;> simp
    clear hx
    have vb := Blm.vB_yes (a := t) (x := 0) (y := 3000000000000000) ⟨t1, t2⟩ (by omega)
    cases hi' : Blm.iV lo hi
    · have hV : Blm.meV t 0 3000000000000000 lo hi = false := by unfold Blm.meV; rw [hi']; simp
      have m5 : Blm.meE t 0 3000000000000000 lo hi = 1 := by unfold Blm.meE; rw [hV]; rfl
      clear hV
      rcases hxw with ⟨c1, c2⟩ | ⟨c1, c2, c3⟩ | ⟨c1, c2, c3⟩
      all_goals
        go_enter Try.func8, Try.ntmps8
        go_wp2_with fail
        refine (head_any _).mono ?_
        rintro e wN ⟨rfl, hn⟩
        have hb := (by first | exact Below.go hb hn | exact Below.goA hb hn | exact Below.goAA hb hn : Below w.heap.size w wN)
        have ki := Lib.hid (by first | exact keep' ki.out hn | exact keepA ki.out hn | exact keepAA ki.out hn)
        clear hn
        obtain ⟨⟨ki0, ki1⟩, -⟩ := blk2 ki.out
        have kiz := lt_of_heap ki.out
        go_wp2_with fail
        refine (bStart_any _ _).mono ?_
        rintro e wN ⟨rfl, hn⟩
        have hb := (by first | exact Below.go hb hn | exact Below.goA hb hn | exact Below.goAA hb hn : Below w.heap.size w wN)
        have ki := Lib.hid (by first | exact keep' ki.out hn | exact keepA ki.out hn | exact keepAA ki.out hn)
        clear hn
        obtain ⟨⟨ki0, ki1⟩, -⟩ := blk2 ki.out
        have kiz := lt_of_heap ki.out
        go_wp2_with fail
        refine (Has_any _ _ _ _).mono ?_
        rintro e wN ⟨rfl, hn⟩
        have hb := (by first | exact Below.go hb hn | exact Below.goA hb hn | exact Below.goAA hb hn : Below w.heap.size w wN)
        have kb := Lib.hid (keep' (heap_new _ _) hn)
        have ki := Lib.hid (by first | exact keep' ki.out hn | exact keepA ki.out hn | exact keepAA ki.out hn)
        clear hn
        obtain ⟨⟨kb0, kb1, kb2⟩, -⟩ := blk3 kb.out
        have kbz := lt_of_heap kb.out
        obtain ⟨⟨ki0, ki1⟩, -⟩ := blk2 ki.out
        have kiz := lt_of_heap ki.out
        go_wp2_with fail
        refine (Meet_any _ _ _ _ _ _).mono ?_
        rintro e wN ⟨rfl, hn⟩
        have hb := (by first | exact Below.go hb hn | exact Below.goA hb hn | exact Below.goAA hb hn : Below w.heap.size w wN)
        have kb := Lib.hid (by first | exact keep' kb.out hn | exact keepA kb.out hn | exact keepAA kb.out hn)
        have ki := Lib.hid (by first | exact keep' ki.out hn | exact keepA ki.out hn | exact keepAA ki.out hn)
        clear hn
        obtain ⟨⟨kb0, kb1, kb2⟩, -⟩ := blk3 kb.out
        have kbz := lt_of_heap kb.out
        obtain ⟨⟨ki0, ki1⟩, -⟩ := blk2 ki.out
        have kiz := lt_of_heap ki.out
        go_wp2_with fail
        refine (rIV_any _ _ _).mono ?_
        rintro e wN ⟨rfl, hn⟩
        have hb := (by first | exact Below.go hb hn | exact Below.goA hb hn | exact Below.goAA hb hn : Below w.heap.size w wN)
        have kc := Lib.hid (keep' (heap_new _ _) hn)
        have ki := Lib.hid (by first | exact keep' ki.out hn | exact keepA ki.out hn | exact keepAA ki.out hn)
        clear hn
        obtain ⟨⟨kc0, kc1, kc2⟩, -⟩ := blk3 kc.out
        have kcz := lt_of_heap kc.out
        obtain ⟨⟨ki0, ki1⟩, -⟩ := blk2 ki.out
        have kiz := lt_of_heap ki.out
        go_wp2
        go_ret
        exact ⟨rfl, hb⟩
    · obtain ⟨i1, i2, i3⟩ := Blm.iV_bd hi'
      have hV : Blm.meV t 0 3000000000000000 lo hi = true := by unfold Blm.meV; rw [hi', vb]; rfl
      have e1 : Blm.mxA 0 lo = lo := by unfold Blm.mxA; split <;> omega
      have e2 : Blm.mnA 3000000000000000 hi = hi := by unfold Blm.mnA; split <;> omega
      have hS : Blm.meS t 0 3000000000000000 lo hi = true := by unfold Blm.meS; rw [hV, e1, e2]; simp; exact i2
      have m1 : Blm.meA t 0 3000000000000000 lo hi = t := by unfold Blm.meA; rw [hV]; rfl
      have m2 : Blm.meLo t 0 3000000000000000 lo hi = lo := by unfold Blm.meLo; rw [hV, hS, e1]; rfl
      have m3 : Blm.meHi t 0 3000000000000000 lo hi = hi := by unfold Blm.meHi; rw [hV, hS, e2]; rfl
      have m5 : Blm.meE t 0 3000000000000000 lo hi = 0 := by unfold Blm.meE; rw [hV]; rfl
      clear hV e1 e2
      rcases hxw with ⟨c1, c2⟩ | ⟨c1, c2, c3⟩ | ⟨c1, c2, c3⟩
      all_goals
        go_enter Try.func8, Try.ntmps8
        go_wp2_with fail
        refine (head_any _).mono ?_
        rintro e wN ⟨rfl, hn⟩
        have hb := (by first | exact Below.go hb hn | exact Below.goA hb hn | exact Below.goAA hb hn : Below w.heap.size w wN)
        have ki := Lib.hid (by first | exact keep' ki.out hn | exact keepA ki.out hn | exact keepAA ki.out hn)
        clear hn
        obtain ⟨⟨ki0, ki1⟩, -⟩ := blk2 ki.out
        have kiz := lt_of_heap ki.out
        go_wp2_with fail
        refine (bStart_any _ _).mono ?_
        rintro e wN ⟨rfl, hn⟩
        have hb := (by first | exact Below.go hb hn | exact Below.goA hb hn | exact Below.goAA hb hn : Below w.heap.size w wN)
        have ki := Lib.hid (by first | exact keep' ki.out hn | exact keepA ki.out hn | exact keepAA ki.out hn)
        clear hn
        obtain ⟨⟨ki0, ki1⟩, -⟩ := blk2 ki.out
        have kiz := lt_of_heap ki.out
        go_wp2_with fail
        refine (Has_any _ _ _ _).mono ?_
        rintro e wN ⟨rfl, hn⟩
        have hb := (by first | exact Below.go hb hn | exact Below.goA hb hn | exact Below.goAA hb hn : Below w.heap.size w wN)
        have kb := Lib.hid (keep' (heap_new _ _) hn)
        have ki := Lib.hid (by first | exact keep' ki.out hn | exact keepA ki.out hn | exact keepAA ki.out hn)
        clear hn
        obtain ⟨⟨kb0, kb1, kb2⟩, -⟩ := blk3 kb.out
        have kbz := lt_of_heap kb.out
        obtain ⟨⟨ki0, ki1⟩, -⟩ := blk2 ki.out
        have kiz := lt_of_heap ki.out
        go_wp2_with fail
        refine (Meet_any _ _ _ _ _ _).mono ?_
        rintro e wN ⟨rfl, hn⟩
        have hb := (by first | exact Below.go hb hn | exact Below.goA hb hn | exact Below.goAA hb hn : Below w.heap.size w wN)
        have kb := Lib.hid (by first | exact keep' kb.out hn | exact keepA kb.out hn | exact keepAA kb.out hn)
        have ki := Lib.hid (by first | exact keep' ki.out hn | exact keepA ki.out hn | exact keepAA ki.out hn)
        clear hn
        obtain ⟨⟨kb0, kb1, kb2⟩, -⟩ := blk3 kb.out
        have kbz := lt_of_heap kb.out
        obtain ⟨⟨ki0, ki1⟩, -⟩ := blk2 ki.out
        have kiz := lt_of_heap ki.out
        go_wp2_with fail
        refine (rIV_any _ _ _).mono ?_
        rintro e wN ⟨rfl, hn⟩
        have hb := (by first | exact Below.go hb hn | exact Below.goA hb hn | exact Below.goAA hb hn : Below w.heap.size w wN)
        have kc := Lib.hid (keep' (heap_new _ _) hn)
        have ki := Lib.hid (by first | exact keep' ki.out hn | exact keepA ki.out hn | exact keepAA ki.out hn)
        clear hn
        obtain ⟨⟨kc0, kc1, kc2⟩, -⟩ := blk3 kc.out
        have kcz := lt_of_heap kc.out
        obtain ⟨⟨ki0, ki1⟩, -⟩ := blk2 ki.out
        have kiz := lt_of_heap ki.out
        go_wp2
        go_ret
        exact ⟨rfl, hb⟩
theorem nothing_law (t x : Int) (v : Value) (i : Int × Int) (w : World) (h1 : (Lit.int .i64 t).wf = true) (h2 : (Lit.int .i64 x).wf = true) (hv : IsI2 v i) : Calls Try.prog 8 #[.int .i64 t, .int .i64 x, v] w (LawPost w) := by
  obtain ⟨lo, hi⟩ := i
  obtain ⟨rfl, -, -⟩ := hv
  exact nothing_core t x lo hi w
/-- two arguments boxed -/
theorem two_box (w : World) (o p : Obj) : Below w.heap.size w ((w.alloc o).alloc p) := ((Below.refl _ _).alloc (Nat.le_refl _) _).alloc (by simp) _
set_option maxHeartbeats 2000000 in
set_option maxRecDepth 100000 in
theorem meets_bad (a lo hi x y t : Int) (w : World) (hv : Blm.vB a lo hi = false ∨ Blm.vB a lo hi = true ∧ Blm.iV x y = false) : Calls Try.prog 6 #[B3 a lo hi, I2 x y, .int .i64 t] w (LawPost w) := by
  have hb := two_box w (.cells #[.int .i64 a, .int .i64 lo, .int .i64 hi] 25) (.cells #[.int .i64 x, .int .i64 y] 23)
  have kb := Lib.hid (new0 w (.cells #[.int .i64 a, .int .i64 lo, .int .i64 hi] 25) (.cells #[.int .i64 x, .int .i64 y] 23))
  have ki := Lib.hid (new1 w (.cells #[.int .i64 a, .int .i64 lo, .int .i64 hi] 25) (.cells #[.int .i64 x, .int .i64 y] 23))
  rcases hv with h1 | ⟨h1, h2⟩
  · go_enter Try.func6, Try.ntmps6
    go_wp2_with fail
    refine (head_any _).mono ?_
    rintro e wN ⟨rfl, hn⟩
    have hb := (by first | exact Below.go hb hn | exact Below.goA hb hn | exact Below.goAA hb hn : Below w.heap.size w wN)
    have kb := Lib.hid (by first | exact keep' kb.out hn | exact keepA kb.out hn | exact keepAA kb.out hn)
    have ki := Lib.hid (by first | exact keep' ki.out hn | exact keepA ki.out hn | exact keepAA ki.out hn)
    clear hn
    obtain ⟨⟨kb0, kb1, kb2⟩, -⟩ := blk3 kb.out
    have kbz := lt_of_heap kb.out
    obtain ⟨⟨ki0, ki1⟩, -⟩ := blk2 ki.out
    have kiz := lt_of_heap ki.out
    go_wp2_with fail
    refine (rValid_any _ _ _ _).mono ?_
    rintro e wN ⟨rfl, hn⟩
    have hb := (by first | exact Below.go hb hn | exact Below.goA hb hn | exact Below.goAA hb hn : Below w.heap.size w wN)
    have kb := Lib.hid (by first | exact keep' kb.out hn | exact keepA kb.out hn | exact keepAA kb.out hn)
    have ki := Lib.hid (by first | exact keep' ki.out hn | exact keepA ki.out hn | exact keepAA ki.out hn)
    clear hn
    obtain ⟨⟨kb0, kb1, kb2⟩, -⟩ := blk3 kb.out
    have kbz := lt_of_heap kb.out
    obtain ⟨⟨ki0, ki1⟩, -⟩ := blk2 ki.out
    have kiz := lt_of_heap ki.out
    go_wp2
    go_ret
    exact ⟨rfl, hb⟩
  · go_enter Try.func6, Try.ntmps6
    go_wp2_with fail
    refine (head_any _).mono ?_
    rintro e wN ⟨rfl, hn⟩
    have hb := (by first | exact Below.go hb hn | exact Below.goA hb hn | exact Below.goAA hb hn : Below w.heap.size w wN)
    have kb := Lib.hid (by first | exact keep' kb.out hn | exact keepA kb.out hn | exact keepAA kb.out hn)
    have ki := Lib.hid (by first | exact keep' ki.out hn | exact keepA ki.out hn | exact keepAA ki.out hn)
    clear hn
    obtain ⟨⟨kb0, kb1, kb2⟩, -⟩ := blk3 kb.out
    have kbz := lt_of_heap kb.out
    obtain ⟨⟨ki0, ki1⟩, -⟩ := blk2 ki.out
    have kiz := lt_of_heap ki.out
    go_wp2_with fail
    refine (rValid_any _ _ _ _).mono ?_
    rintro e wN ⟨rfl, hn⟩
    have hb := (by first | exact Below.go hb hn | exact Below.goA hb hn | exact Below.goAA hb hn : Below w.heap.size w wN)
    have kb := Lib.hid (by first | exact keep' kb.out hn | exact keepA kb.out hn | exact keepAA kb.out hn)
    have ki := Lib.hid (by first | exact keep' ki.out hn | exact keepA ki.out hn | exact keepAA ki.out hn)
    clear hn
    obtain ⟨⟨kb0, kb1, kb2⟩, -⟩ := blk3 kb.out
    have kbz := lt_of_heap kb.out
    obtain ⟨⟨ki0, ki1⟩, -⟩ := blk2 ki.out
    have kiz := lt_of_heap ki.out
    go_wp2_with fail
    refine (rIV_any _ _ _).mono ?_
    rintro e wN ⟨rfl, hn⟩
    have hb := (by first | exact Below.go hb hn | exact Below.goA hb hn | exact Below.goAA hb hn : Below w.heap.size w wN)
    have kb := Lib.hid (by first | exact keep' kb.out hn | exact keepA kb.out hn | exact keepAA kb.out hn)
    have ki := Lib.hid (by first | exact keep' ki.out hn | exact keepA ki.out hn | exact keepAA ki.out hn)
    clear hn
    obtain ⟨⟨kb0, kb1, kb2⟩, -⟩ := blk3 kb.out
    have kbz := lt_of_heap kb.out
    obtain ⟨⟨ki0, ki1⟩, -⟩ := blk2 ki.out
    have kiz := lt_of_heap ki.out
    go_wp2
    go_ret
    exact ⟨rfl, hb⟩
set_option maxHeartbeats 2000000 in
set_option maxRecDepth 100000 in
theorem meets_yes (a lo hi x y t X Y : Int) (w : World) (v1 : Blm.vB a lo hi = true) (v2 : Blm.iV x y = true) (m1 : Blm.meA a lo hi x y = a) (m2 : Blm.meLo a lo hi x y = X) (m3 : Blm.meHi a lo hi x y = Y) (m4 : Blm.meS a lo hi x y = true) (m5 : Blm.meE a lo hi x y = 0) (v3 : Blm.vB a X Y = true)
    (hh : hasB lo hi t = false ∧ hasB X Y t = false ∨ hasB lo hi t = true ∧ hasB x y t = false ∧ hasB X Y t = false ∨ hasB lo hi t = true ∧ hasB x y t = true ∧ hasB X Y t = true) :
    Calls Try.prog 6 #[B3 a lo hi, I2 x y, .int .i64 t] w (LawPost w) := by
  have hb := two_box w (.cells #[.int .i64 a, .int .i64 lo, .int .i64 hi] 25) (.cells #[.int .i64 x, .int .i64 y] 23)
  have kb := Lib.hid (new0 w (.cells #[.int .i64 a, .int .i64 lo, .int .i64 hi] 25) (.cells #[.int .i64 x, .int .i64 y] 23))
  have ki := Lib.hid (new1 w (.cells #[.int .i64 a, .int .i64 lo, .int .i64 hi] 25) (.cells #[.int .i64 x, .int .i64 y] 23))
  have co := @cell_old
  rcases hh with ⟨c1, c2⟩ | ⟨c1, c2, c3⟩ | ⟨c1, c2, c3⟩
  · go_enter Try.func6, Try.ntmps6
    go_wp2_with fail
    refine (head_any _).mono ?_
    rintro e wN ⟨rfl, hn⟩
    have hb := (by first | exact Below.go hb hn | exact Below.goA hb hn | exact Below.goAA hb hn : Below w.heap.size w wN)
    have kb := Lib.hid (by first | exact keep' kb.out hn | exact keepA kb.out hn | exact keepAA kb.out hn)
    have ki := Lib.hid (by first | exact keep' ki.out hn | exact keepA ki.out hn | exact keepAA ki.out hn)
    clear hn
    obtain ⟨⟨kb0, kb1, kb2⟩, -⟩ := blk3 kb.out
    have kbz := lt_of_heap kb.out
    obtain ⟨⟨ki0, ki1⟩, -⟩ := blk2 ki.out
    have kiz := lt_of_heap ki.out
    go_wp2_with fail
    refine (rValid_any _ _ _ _).mono ?_
    rintro e wN ⟨rfl, hn⟩
    have hb := (by first | exact Below.go hb hn | exact Below.goA hb hn | exact Below.goAA hb hn : Below w.heap.size w wN)
    have kb := Lib.hid (by first | exact keep' kb.out hn | exact keepA kb.out hn | exact keepAA kb.out hn)
    have ki := Lib.hid (by first | exact keep' ki.out hn | exact keepA ki.out hn | exact keepAA ki.out hn)
    clear hn
    obtain ⟨⟨kb0, kb1, kb2⟩, -⟩ := blk3 kb.out
    have kbz := lt_of_heap kb.out
    obtain ⟨⟨ki0, ki1⟩, -⟩ := blk2 ki.out
    have kiz := lt_of_heap ki.out
    go_wp2_with fail
    refine (rIV_any _ _ _).mono ?_
    rintro e wN ⟨rfl, hn⟩
    have hb := (by first | exact Below.go hb hn | exact Below.goA hb hn | exact Below.goAA hb hn : Below w.heap.size w wN)
    have kb := Lib.hid (by first | exact keep' kb.out hn | exact keepA kb.out hn | exact keepAA kb.out hn)
    have ki := Lib.hid (by first | exact keep' ki.out hn | exact keepA ki.out hn | exact keepAA ki.out hn)
    clear hn
    obtain ⟨⟨kb0, kb1, kb2⟩, -⟩ := blk3 kb.out
    have kbz := lt_of_heap kb.out
    obtain ⟨⟨ki0, ki1⟩, -⟩ := blk2 ki.out
    have kiz := lt_of_heap ki.out
    go_wp2_with fail
    refine (Meet_any _ _ _ _ _ _).mono ?_
    rintro e wN ⟨rfl, hn⟩
    have hb := (by first | exact Below.go hb hn | exact Below.goA hb hn | exact Below.goAA hb hn : Below w.heap.size w wN)
    have kb := Lib.hid (by first | exact keep' kb.out hn | exact keepA kb.out hn | exact keepAA kb.out hn)
    have ki := Lib.hid (by first | exact keep' ki.out hn | exact keepA ki.out hn | exact keepAA ki.out hn)
    clear hn
    obtain ⟨⟨kb0, kb1, kb2⟩, -⟩ := blk3 kb.out
    have kbz := lt_of_heap kb.out
    obtain ⟨⟨ki0, ki1⟩, -⟩ := blk2 ki.out
    have kiz := lt_of_heap ki.out
    go_wp2_with fail
    refine (Has_any _ _ _ _).mono ?_
    rintro e wN ⟨rfl, hn⟩
    have hb := (by first | exact Below.go hb hn | exact Below.goA hb hn | exact Below.goAA hb hn : Below w.heap.size w wN)
    have kc := Lib.hid (keep' (heap_new _ _) hn)
    have kb := Lib.hid (by first | exact keep' kb.out hn | exact keepA kb.out hn | exact keepAA kb.out hn)
    have ki := Lib.hid (by first | exact keep' ki.out hn | exact keepA ki.out hn | exact keepAA ki.out hn)
    clear hn
    obtain ⟨⟨kc0, kc1, kc2⟩, -⟩ := blk3 kc.out
    have kcz := lt_of_heap kc.out
    obtain ⟨⟨kb0, kb1, kb2⟩, -⟩ := blk3 kb.out
    have kbz := lt_of_heap kb.out
    obtain ⟨⟨ki0, ki1⟩, -⟩ := blk2 ki.out
    have kiz := lt_of_heap ki.out
    go_wp2_with fail
    refine (rValid_any _ _ _ _).mono ?_
    rintro e wN ⟨rfl, hn⟩
    have hb := (by first | exact Below.go hb hn | exact Below.goA hb hn | exact Below.goAA hb hn : Below w.heap.size w wN)
    have kc := Lib.hid (by first | exact keep' kc.out hn | exact keepA kc.out hn | exact keepAA kc.out hn)
    have kb := Lib.hid (by first | exact keep' kb.out hn | exact keepA kb.out hn | exact keepAA kb.out hn)
    have ki := Lib.hid (by first | exact keep' ki.out hn | exact keepA ki.out hn | exact keepAA ki.out hn)
    clear hn
    obtain ⟨⟨kc0, kc1, kc2⟩, -⟩ := blk3 kc.out
    have kcz := lt_of_heap kc.out
    obtain ⟨⟨kb0, kb1, kb2⟩, -⟩ := blk3 kb.out
    have kbz := lt_of_heap kb.out
    obtain ⟨⟨ki0, ki1⟩, -⟩ := blk2 ki.out
    have kiz := lt_of_heap ki.out
    go_wp2_with fail
    refine (Has_any _ _ _ _).mono ?_
    rintro e wN ⟨rfl, hn⟩
    have hb := (by first | exact Below.go hb hn | exact Below.goA hb hn | exact Below.goAA hb hn : Below w.heap.size w wN)
    have kc := Lib.hid (by first | exact keep' kc.out hn | exact keepA kc.out hn | exact keepAA kc.out hn)
    have kb := Lib.hid (by first | exact keep' kb.out hn | exact keepA kb.out hn | exact keepAA kb.out hn)
    have ki := Lib.hid (by first | exact keep' ki.out hn | exact keepA ki.out hn | exact keepAA ki.out hn)
    clear hn
    obtain ⟨⟨kc0, kc1, kc2⟩, -⟩ := blk3 kc.out
    have kcz := lt_of_heap kc.out
    obtain ⟨⟨kb0, kb1, kb2⟩, -⟩ := blk3 kb.out
    have kbz := lt_of_heap kb.out
    obtain ⟨⟨ki0, ki1⟩, -⟩ := blk2 ki.out
    have kiz := lt_of_heap ki.out
    go_wp2
    go_ret
    exact ⟨rfl, hb⟩
  all_goals
    go_enter Try.func6, Try.ntmps6
    go_wp2_with fail
    refine (head_any _).mono ?_
    rintro e wN ⟨rfl, hn⟩
    have hb := (by first | exact Below.go hb hn | exact Below.goA hb hn | exact Below.goAA hb hn : Below w.heap.size w wN)
    have kb := Lib.hid (by first | exact keep' kb.out hn | exact keepA kb.out hn | exact keepAA kb.out hn)
    have ki := Lib.hid (by first | exact keep' ki.out hn | exact keepA ki.out hn | exact keepAA ki.out hn)
    clear hn
    obtain ⟨⟨kb0, kb1, kb2⟩, -⟩ := blk3 kb.out
    have kbz := lt_of_heap kb.out
    obtain ⟨⟨ki0, ki1⟩, -⟩ := blk2 ki.out
    have kiz := lt_of_heap ki.out
    go_wp2_with fail
    refine (rValid_any _ _ _ _).mono ?_
    rintro e wN ⟨rfl, hn⟩
    have hb := (by first | exact Below.go hb hn | exact Below.goA hb hn | exact Below.goAA hb hn : Below w.heap.size w wN)
    have kb := Lib.hid (by first | exact keep' kb.out hn | exact keepA kb.out hn | exact keepAA kb.out hn)
    have ki := Lib.hid (by first | exact keep' ki.out hn | exact keepA ki.out hn | exact keepAA ki.out hn)
    clear hn
    obtain ⟨⟨kb0, kb1, kb2⟩, -⟩ := blk3 kb.out
    have kbz := lt_of_heap kb.out
    obtain ⟨⟨ki0, ki1⟩, -⟩ := blk2 ki.out
    have kiz := lt_of_heap ki.out
    go_wp2_with fail
    refine (rIV_any _ _ _).mono ?_
    rintro e wN ⟨rfl, hn⟩
    have hb := (by first | exact Below.go hb hn | exact Below.goA hb hn | exact Below.goAA hb hn : Below w.heap.size w wN)
    have kb := Lib.hid (by first | exact keep' kb.out hn | exact keepA kb.out hn | exact keepAA kb.out hn)
    have ki := Lib.hid (by first | exact keep' ki.out hn | exact keepA ki.out hn | exact keepAA ki.out hn)
    clear hn
    obtain ⟨⟨kb0, kb1, kb2⟩, -⟩ := blk3 kb.out
    have kbz := lt_of_heap kb.out
    obtain ⟨⟨ki0, ki1⟩, -⟩ := blk2 ki.out
    have kiz := lt_of_heap ki.out
    go_wp2_with fail
    refine (Meet_any _ _ _ _ _ _).mono ?_
    rintro e wN ⟨rfl, hn⟩
    have hb := (by first | exact Below.go hb hn | exact Below.goA hb hn | exact Below.goAA hb hn : Below w.heap.size w wN)
    have kb := Lib.hid (by first | exact keep' kb.out hn | exact keepA kb.out hn | exact keepAA kb.out hn)
    have ki := Lib.hid (by first | exact keep' ki.out hn | exact keepA ki.out hn | exact keepAA ki.out hn)
    clear hn
    obtain ⟨⟨kb0, kb1, kb2⟩, -⟩ := blk3 kb.out
    have kbz := lt_of_heap kb.out
    obtain ⟨⟨ki0, ki1⟩, -⟩ := blk2 ki.out
    have kiz := lt_of_heap ki.out
    go_wp2_with fail
    refine (Has_any _ _ _ _).mono ?_
    rintro e wN ⟨rfl, hn⟩
    have hb := (by first | exact Below.go hb hn | exact Below.goA hb hn | exact Below.goAA hb hn : Below w.heap.size w wN)
    have kc := Lib.hid (keep' (heap_new _ _) hn)
    have kb := Lib.hid (by first | exact keep' kb.out hn | exact keepA kb.out hn | exact keepAA kb.out hn)
    have ki := Lib.hid (by first | exact keep' ki.out hn | exact keepA ki.out hn | exact keepAA ki.out hn)
    clear hn
    obtain ⟨⟨kc0, kc1, kc2⟩, -⟩ := blk3 kc.out
    have kcz := lt_of_heap kc.out
    obtain ⟨⟨kb0, kb1, kb2⟩, -⟩ := blk3 kb.out
    have kbz := lt_of_heap kb.out
    obtain ⟨⟨ki0, ki1⟩, -⟩ := blk2 ki.out
    have kiz := lt_of_heap ki.out
    go_wp2_with fail
    refine (Has_any _ _ _ _).mono ?_
    rintro e wN ⟨rfl, hn⟩
    have hb := (by first | exact Below.go hb hn | exact Below.goA hb hn | exact Below.goAA hb hn : Below w.heap.size w wN)
    have kc := Lib.hid (by first | exact keep' kc.out hn | exact keepA kc.out hn | exact keepAA kc.out hn)
    have kb := Lib.hid (by first | exact keep' kb.out hn | exact keepA kb.out hn | exact keepAA kb.out hn)
    have ki := Lib.hid (by first | exact keep' ki.out hn | exact keepA ki.out hn | exact keepAA ki.out hn)
    clear hn
    obtain ⟨⟨kc0, kc1, kc2⟩, -⟩ := blk3 kc.out
    have kcz := lt_of_heap kc.out
    obtain ⟨⟨kb0, kb1, kb2⟩, -⟩ := blk3 kb.out
    have kbz := lt_of_heap kb.out
    obtain ⟨⟨ki0, ki1⟩, -⟩ := blk2 ki.out
    have kiz := lt_of_heap ki.out
    go_wp2_with fail
    refine (rValid_any _ _ _ _).mono ?_
    rintro e wN ⟨rfl, hn⟩
    have hb := (by first | exact Below.go hb hn | exact Below.goA hb hn | exact Below.goAA hb hn : Below w.heap.size w wN)
    have kc := Lib.hid (by first | exact keep' kc.out hn | exact keepA kc.out hn | exact keepAA kc.out hn)
    have kb := Lib.hid (by first | exact keep' kb.out hn | exact keepA kb.out hn | exact keepAA kb.out hn)
    have ki := Lib.hid (by first | exact keep' ki.out hn | exact keepA ki.out hn | exact keepAA ki.out hn)
    clear hn
    obtain ⟨⟨kc0, kc1, kc2⟩, -⟩ := blk3 kc.out
    have kcz := lt_of_heap kc.out
    obtain ⟨⟨kb0, kb1, kb2⟩, -⟩ := blk3 kb.out
    have kbz := lt_of_heap kb.out
    obtain ⟨⟨ki0, ki1⟩, -⟩ := blk2 ki.out
    have kiz := lt_of_heap ki.out
    go_wp2_with fail
    refine (Has_any _ _ _ _).mono ?_
    rintro e wN ⟨rfl, hn⟩
    have hb := (by first | exact Below.go hb hn | exact Below.goA hb hn | exact Below.goAA hb hn : Below w.heap.size w wN)
    have kc := Lib.hid (by first | exact keep' kc.out hn | exact keepA kc.out hn | exact keepAA kc.out hn)
    have kb := Lib.hid (by first | exact keep' kb.out hn | exact keepA kb.out hn | exact keepAA kb.out hn)
    have ki := Lib.hid (by first | exact keep' ki.out hn | exact keepA ki.out hn | exact keepAA ki.out hn)
    clear hn
    obtain ⟨⟨kc0, kc1, kc2⟩, -⟩ := blk3 kc.out
    have kcz := lt_of_heap kc.out
    obtain ⟨⟨kb0, kb1, kb2⟩, -⟩ := blk3 kb.out
    have kbz := lt_of_heap kb.out
    obtain ⟨⟨ki0, ki1⟩, -⟩ := blk2 ki.out
    have kiz := lt_of_heap ki.out
    go_wp2
    go_ret
    exact ⟨rfl, hb⟩
set_option maxHeartbeats 2000000 in
set_option maxRecDepth 100000 in
theorem meets_no (a lo hi x y t : Int) (w : World) (v1 : Blm.vB a lo hi = true) (v2 : Blm.iV x y = true) (m1 : Blm.meA a lo hi x y = a) (m2 : Blm.meLo a lo hi x y = lo) (m3 : Blm.meHi a lo hi x y = hi) (m4 : Blm.meS a lo hi x y = false) (m5 : Blm.meE a lo hi x y = 0)
    (hh : hasB lo hi t = false ∨ hasB lo hi t = true ∧ hasB x y t = false) (hd : decide (hi < x) = true ∨ decide (hi < x) = false ∧ decide (y < lo) = true) :
    Calls Try.prog 6 #[B3 a lo hi, I2 x y, .int .i64 t] w (LawPost w) := by
  have hb := two_box w (.cells #[.int .i64 a, .int .i64 lo, .int .i64 hi] 25) (.cells #[.int .i64 x, .int .i64 y] 23)
  have kb := Lib.hid (new0 w (.cells #[.int .i64 a, .int .i64 lo, .int .i64 hi] 25) (.cells #[.int .i64 x, .int .i64 y] 23))
  have ki := Lib.hid (new1 w (.cells #[.int .i64 a, .int .i64 lo, .int .i64 hi] 25) (.cells #[.int .i64 x, .int .i64 y] 23))
  have co := @cell_old
  rcases hh with c1 | ⟨c1, c2⟩
  · rcases hd with d1 | ⟨d1, d2⟩
    all_goals
      go_enter Try.func6, Try.ntmps6
      go_wp2_with fail
      refine (head_any _).mono ?_
      rintro e wN ⟨rfl, hn⟩
      have hb := (by first | exact Below.go hb hn | exact Below.goA hb hn | exact Below.goAA hb hn : Below w.heap.size w wN)
      have kb := Lib.hid (by first | exact keep' kb.out hn | exact keepA kb.out hn | exact keepAA kb.out hn)
      have ki := Lib.hid (by first | exact keep' ki.out hn | exact keepA ki.out hn | exact keepAA ki.out hn)
      clear hn
      obtain ⟨⟨kb0, kb1, kb2⟩, -⟩ := blk3 kb.out
      have kbz := lt_of_heap kb.out
      obtain ⟨⟨ki0, ki1⟩, -⟩ := blk2 ki.out
      have kiz := lt_of_heap ki.out
      go_wp2_with fail
      refine (rValid_any _ _ _ _).mono ?_
      rintro e wN ⟨rfl, hn⟩
      have hb := (by first | exact Below.go hb hn | exact Below.goA hb hn | exact Below.goAA hb hn : Below w.heap.size w wN)
      have kb := Lib.hid (by first | exact keep' kb.out hn | exact keepA kb.out hn | exact keepAA kb.out hn)
      have ki := Lib.hid (by first | exact keep' ki.out hn | exact keepA ki.out hn | exact keepAA ki.out hn)
      clear hn
      obtain ⟨⟨kb0, kb1, kb2⟩, -⟩ := blk3 kb.out
      have kbz := lt_of_heap kb.out
      obtain ⟨⟨ki0, ki1⟩, -⟩ := blk2 ki.out
      have kiz := lt_of_heap ki.out
      go_wp2_with fail
      refine (rIV_any _ _ _).mono ?_
      rintro e wN ⟨rfl, hn⟩
      have hb := (by first | exact Below.go hb hn | exact Below.goA hb hn | exact Below.goAA hb hn : Below w.heap.size w wN)
      have kb := Lib.hid (by first | exact keep' kb.out hn | exact keepA kb.out hn | exact keepAA kb.out hn)
      have ki := Lib.hid (by first | exact keep' ki.out hn | exact keepA ki.out hn | exact keepAA ki.out hn)
      clear hn
      obtain ⟨⟨kb0, kb1, kb2⟩, -⟩ := blk3 kb.out
      have kbz := lt_of_heap kb.out
      obtain ⟨⟨ki0, ki1⟩, -⟩ := blk2 ki.out
      have kiz := lt_of_heap ki.out
      go_wp2_with fail
      refine (Meet_any _ _ _ _ _ _).mono ?_
      rintro e wN ⟨rfl, hn⟩
      have hb := (by first | exact Below.go hb hn | exact Below.goA hb hn | exact Below.goAA hb hn : Below w.heap.size w wN)
      have kb := Lib.hid (by first | exact keep' kb.out hn | exact keepA kb.out hn | exact keepAA kb.out hn)
      have ki := Lib.hid (by first | exact keep' ki.out hn | exact keepA ki.out hn | exact keepAA ki.out hn)
      clear hn
      obtain ⟨⟨kb0, kb1, kb2⟩, -⟩ := blk3 kb.out
      have kbz := lt_of_heap kb.out
      obtain ⟨⟨ki0, ki1⟩, -⟩ := blk2 ki.out
      have kiz := lt_of_heap ki.out
      go_wp2_with fail
      refine (Has_any _ _ _ _).mono ?_
      rintro e wN ⟨rfl, hn⟩
      have hb := (by first | exact Below.go hb hn | exact Below.goA hb hn | exact Below.goAA hb hn : Below w.heap.size w wN)
      have kc := Lib.hid (keep' (heap_new _ _) hn)
      have kb := Lib.hid (by first | exact keep' kb.out hn | exact keepA kb.out hn | exact keepAA kb.out hn)
      have ki := Lib.hid (by first | exact keep' ki.out hn | exact keepA ki.out hn | exact keepAA ki.out hn)
      clear hn
      obtain ⟨⟨kc0, kc1, kc2⟩, -⟩ := blk3 kc.out
      have kcz := lt_of_heap kc.out
      obtain ⟨⟨kb0, kb1, kb2⟩, -⟩ := blk3 kb.out
      have kbz := lt_of_heap kb.out
      obtain ⟨⟨ki0, ki1⟩, -⟩ := blk2 ki.out
      have kiz := lt_of_heap ki.out
      go_wp2_with fail
      refine (rValid_any _ _ _ _).mono ?_
      rintro e wN ⟨rfl, hn⟩
      have hb := (by first | exact Below.go hb hn | exact Below.goA hb hn | exact Below.goAA hb hn : Below w.heap.size w wN)
      have kc := Lib.hid (by first | exact keep' kc.out hn | exact keepA kc.out hn | exact keepAA kc.out hn)
      have kb := Lib.hid (by first | exact keep' kb.out hn | exact keepA kb.out hn | exact keepAA kb.out hn)
      have ki := Lib.hid (by first | exact keep' ki.out hn | exact keepA ki.out hn | exact keepAA ki.out hn)
      clear hn
      obtain ⟨⟨kc0, kc1, kc2⟩, -⟩ := blk3 kc.out
      have kcz := lt_of_heap kc.out
      obtain ⟨⟨kb0, kb1, kb2⟩, -⟩ := blk3 kb.out
      have kbz := lt_of_heap kb.out
      obtain ⟨⟨ki0, ki1⟩, -⟩ := blk2 ki.out
      have kiz := lt_of_heap ki.out
      go_wp2
      go_ret
      exact ⟨rfl, hb⟩
  · rcases hd with d1 | ⟨d1, d2⟩
    all_goals
      go_enter Try.func6, Try.ntmps6
      go_wp2_with fail
      refine (head_any _).mono ?_
      rintro e wN ⟨rfl, hn⟩
      have hb := (by first | exact Below.go hb hn | exact Below.goA hb hn | exact Below.goAA hb hn : Below w.heap.size w wN)
      have kb := Lib.hid (by first | exact keep' kb.out hn | exact keepA kb.out hn | exact keepAA kb.out hn)
      have ki := Lib.hid (by first | exact keep' ki.out hn | exact keepA ki.out hn | exact keepAA ki.out hn)
      clear hn
      obtain ⟨⟨kb0, kb1, kb2⟩, -⟩ := blk3 kb.out
      have kbz := lt_of_heap kb.out
      obtain ⟨⟨ki0, ki1⟩, -⟩ := blk2 ki.out
      have kiz := lt_of_heap ki.out
      go_wp2_with fail
      refine (rValid_any _ _ _ _).mono ?_
      rintro e wN ⟨rfl, hn⟩
      have hb := (by first | exact Below.go hb hn | exact Below.goA hb hn | exact Below.goAA hb hn : Below w.heap.size w wN)
      have kb := Lib.hid (by first | exact keep' kb.out hn | exact keepA kb.out hn | exact keepAA kb.out hn)
      have ki := Lib.hid (by first | exact keep' ki.out hn | exact keepA ki.out hn | exact keepAA ki.out hn)
      clear hn
      obtain ⟨⟨kb0, kb1, kb2⟩, -⟩ := blk3 kb.out
      have kbz := lt_of_heap kb.out
      obtain ⟨⟨ki0, ki1⟩, -⟩ := blk2 ki.out
      have kiz := lt_of_heap ki.out
      go_wp2_with fail
      refine (rIV_any _ _ _).mono ?_
      rintro e wN ⟨rfl, hn⟩
      have hb := (by first | exact Below.go hb hn | exact Below.goA hb hn | exact Below.goAA hb hn : Below w.heap.size w wN)
      have kb := Lib.hid (by first | exact keep' kb.out hn | exact keepA kb.out hn | exact keepAA kb.out hn)
      have ki := Lib.hid (by first | exact keep' ki.out hn | exact keepA ki.out hn | exact keepAA ki.out hn)
      clear hn
      obtain ⟨⟨kb0, kb1, kb2⟩, -⟩ := blk3 kb.out
      have kbz := lt_of_heap kb.out
      obtain ⟨⟨ki0, ki1⟩, -⟩ := blk2 ki.out
      have kiz := lt_of_heap ki.out
      go_wp2_with fail
      refine (Meet_any _ _ _ _ _ _).mono ?_
      rintro e wN ⟨rfl, hn⟩
      have hb := (by first | exact Below.go hb hn | exact Below.goA hb hn | exact Below.goAA hb hn : Below w.heap.size w wN)
      have kb := Lib.hid (by first | exact keep' kb.out hn | exact keepA kb.out hn | exact keepAA kb.out hn)
      have ki := Lib.hid (by first | exact keep' ki.out hn | exact keepA ki.out hn | exact keepAA ki.out hn)
      clear hn
      obtain ⟨⟨kb0, kb1, kb2⟩, -⟩ := blk3 kb.out
      have kbz := lt_of_heap kb.out
      obtain ⟨⟨ki0, ki1⟩, -⟩ := blk2 ki.out
      have kiz := lt_of_heap ki.out
      go_wp2_with fail
      refine (Has_any _ _ _ _).mono ?_
      rintro e wN ⟨rfl, hn⟩
      have hb := (by first | exact Below.go hb hn | exact Below.goA hb hn | exact Below.goAA hb hn : Below w.heap.size w wN)
      have kc := Lib.hid (keep' (heap_new _ _) hn)
      have kb := Lib.hid (by first | exact keep' kb.out hn | exact keepA kb.out hn | exact keepAA kb.out hn)
      have ki := Lib.hid (by first | exact keep' ki.out hn | exact keepA ki.out hn | exact keepAA ki.out hn)
      clear hn
      obtain ⟨⟨kc0, kc1, kc2⟩, -⟩ := blk3 kc.out
      have kcz := lt_of_heap kc.out
      obtain ⟨⟨kb0, kb1, kb2⟩, -⟩ := blk3 kb.out
      have kbz := lt_of_heap kb.out
      obtain ⟨⟨ki0, ki1⟩, -⟩ := blk2 ki.out
      have kiz := lt_of_heap ki.out
      go_wp2_with fail
      refine (Has_any _ _ _ _).mono ?_
      rintro e wN ⟨rfl, hn⟩
      have hb := (by first | exact Below.go hb hn | exact Below.goA hb hn | exact Below.goAA hb hn : Below w.heap.size w wN)
      have kc := Lib.hid (by first | exact keep' kc.out hn | exact keepA kc.out hn | exact keepAA kc.out hn)
      have kb := Lib.hid (by first | exact keep' kb.out hn | exact keepA kb.out hn | exact keepAA kb.out hn)
      have ki := Lib.hid (by first | exact keep' ki.out hn | exact keepA ki.out hn | exact keepAA ki.out hn)
      clear hn
      obtain ⟨⟨kc0, kc1, kc2⟩, -⟩ := blk3 kc.out
      have kcz := lt_of_heap kc.out
      obtain ⟨⟨kb0, kb1, kb2⟩, -⟩ := blk3 kb.out
      have kbz := lt_of_heap kb.out
      obtain ⟨⟨ki0, ki1⟩, -⟩ := blk2 ki.out
      have kiz := lt_of_heap ki.out
      go_wp2_with fail
      refine (rValid_any _ _ _ _).mono ?_
      rintro e wN ⟨rfl, hn⟩
      have hb := (by first | exact Below.go hb hn | exact Below.goA hb hn | exact Below.goAA hb hn : Below w.heap.size w wN)
      have kc := Lib.hid (by first | exact keep' kc.out hn | exact keepA kc.out hn | exact keepAA kc.out hn)
      have kb := Lib.hid (by first | exact keep' kb.out hn | exact keepA kb.out hn | exact keepAA kb.out hn)
      have ki := Lib.hid (by first | exact keep' ki.out hn | exact keepA ki.out hn | exact keepAA ki.out hn)
      clear hn
      obtain ⟨⟨kc0, kc1, kc2⟩, -⟩ := blk3 kc.out
      have kcz := lt_of_heap kc.out
      obtain ⟨⟨kb0, kb1, kb2⟩, -⟩ := blk3 kb.out
      have kbz := lt_of_heap kb.out
      obtain ⟨⟨ki0, ki1⟩, -⟩ := blk2 ki.out
      have kiz := lt_of_heap ki.out
      go_wp2
      go_ret
      exact ⟨rfl, hb⟩
theorem meets_law (v : Value) (b : Int × Int × Int) (u : Value) (i : Int × Int) (t : Int) (w : World) (hv : IsB3 v b) (hu : IsI2 u i) (h1 : (Lit.int .i64 t).wf = true) : Calls Try.prog 6 #[v, u, .int .i64 t] w (LawPost w) := by
  obtain ⟨a, lo, hi⟩ := b
  obtain ⟨x, y⟩ := i
  obtain ⟨rfl, -, -, -⟩ := hv
  obtain ⟨rfl, -, -⟩ := hu
  show Calls Try.prog 6 #[B3 a lo hi, I2 x y, .int .i64 t] w (LawPost w)
  cases v1 : Blm.vB a lo hi
  · exact meets_bad a lo hi x y t w (.inl v1)
  cases v2 : Blm.iV x y
  · exact meets_bad a lo hi x y t w (.inr ⟨v1, v2⟩)
  have hV : Blm.meV a lo hi x y = true := by unfold Blm.meV; rw [v1, v2]; rfl
  have m1 : Blm.meA a lo hi x y = a := by unfold Blm.meA; rw [hV]; rfl
  have m5 : Blm.meE a lo hi x y = 0 := by unfold Blm.meE; rw [hV]; rfl
  obtain ⟨⟨a1, a2⟩, l1, l2, l3⟩ := Blm.vB_bd v1
  obtain ⟨i1, i2, i3⟩ := Blm.iV_bd v2
  have b1 := Blm.mx_bd lo x
  have b2 := Blm.mnA_bd hi y
  cases m4 : Blm.meS a lo hi x y
  · have hn : ¬ Blm.mxA lo x ≤ Blm.mnA hi y := by unfold Blm.meS at m4; rw [hV, Bool.true_and] at m4; exact of_decide_eq_false m4
    refine meets_no a lo hi x y t w v1 v2 m1 (by unfold Blm.meLo; rw [hV, m4]; rfl) (by unfold Blm.meHi; rw [hV, m4]; rfl) m4 m5 ?_ (or_ways (by simp; omega))
    cases c : hasB lo hi t
    · exact .inl rfl
    · have := of_decide_eq_true c
      exact .inr ⟨rfl, hasB_no (by omega)⟩
  · have hn : Blm.mxA lo x ≤ Blm.mnA hi y := by unfold Blm.meS at m4; rw [hV, Bool.true_and] at m4; exact of_decide_eq_true m4
    refine meets_yes a lo hi x y t _ _ w v1 v2 m1 (by unfold Blm.meLo; rw [hV, m4]; rfl) (by unfold Blm.meHi; rw [hV, m4]; rfl) m4 m5 (Blm.vB_yes ⟨a1, a2⟩ ⟨by omega, hn, by omega⟩) ?_
    cases c : hasB lo hi t
    · have := of_decide_eq_false c
      exact .inl ⟨rfl, hasB_no (by omega)⟩
    · have := of_decide_eq_true c
      cases d : hasB x y t
      · have := of_decide_eq_false d
        exact .inr (.inl ⟨rfl, rfl, hasB_no (by omega)⟩)
      · have := of_decide_eq_true d
        exact .inr (.inr ⟨rfl, rfl, hasB_yes (by omega)⟩)
end Go.Proofs.Ytiagdbahokgonaa
