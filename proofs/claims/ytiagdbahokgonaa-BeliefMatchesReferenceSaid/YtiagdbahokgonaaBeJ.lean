/- The contracts of the references of chapters 2, 7 and 8: for all arguments they return the same plain values; nothing that was there has changed. -/
import Derived.Test.YtiagdbahokgonaaBeG
import Derived.Test.YtiagdbahokgonaaScS
set_option linter.unusedVariables false
namespace Go.Proofs.Ytiagdbahokgonaa
open Go.RowKit
theorem rBound_any (v : Int) (w : World) : Calls Try.prog 41 #[.int .i64 v] w (Ret (.bool (Drm.rB v)) w) := by
  go_enter Try.func41, Try.ntmps41
  go_wp2
  all_goals go_ret
  all_goals exact ⟨ret_bool (by unfold Drm.rB; rw [Bool.eq_iff_iff]; simp; try omega), rfl⟩
theorem rStretch_any (v : Int) (w : World) : Calls Try.prog 42 #[.int .i64 v] w (Ret (.bool (Drm.sB v)) w) := by
  go_enter Try.func42, Try.ntmps42
  go_wp2
  all_goals go_ret
  all_goals exact ⟨ret_bool (by unfold Drm.sB; rw [Bool.eq_iff_iff]; simp; try omega), rfl⟩
set_option maxHeartbeats 2000000 in
set_option maxRecDepth 100000 in
theorem rElapsed_any (r n : Int) (w : World) : Calls Try.prog 32 #[.int .i64 r, .int .i64 n] w (RetB (.tuple #[I2 (Drm.eLo r n) (Drm.eHi r n), .int .i64 (Drm.eE r n)]) w) := by
  have hb0 : Below w.heap.size w (w.alloc (.cells #[.int .i64 0, .int .i64 0] 49)) := (Below.refl _ _).alloc (Nat.le_refl _) _
  cases h : Drm.okE r n
  · have hz := Lib.hid (Drm.okE_no h)
    rcases okE_ways h with h1 | ⟨h1, h2⟩
    all_goals
      clear h
      go_enter Try.func32, Try.ntmps32
      go_wp2_with (first | (go_at_call 41; refine (rBound_any _ _).mono ?_; rintro e w' ⟨rfl, rfl⟩) | (go_at_call 42; refine (rStretch_any _ _).mono ?_; rintro e w' ⟨rfl, rfl⟩))
      exact bodyPost_ret (v := .tuple #[I2 0 0, .int .i64 1]) (by simp [results, Try.results32, go_sem]) rfl ⟨ret_i2 hz.out.2.1.symm hz.out.2.2.1.symm hz.out.1.symm, by (repeat (with_reducible first | exact hb0 | exact Below.refl _ _ | refine Below.drew ?_ | refine Below.setCell ?_ ?_ _ | refine Below.alloc ?_ ?_ _)); all_goals simp⟩
  obtain ⟨⟨r1, r2⟩, n1, n2⟩ := Drm.okE_bd h
  have hz := Lib.hid (Drm.okE_yes h)
  have b1 := Drm.rB_yes ⟨r1, r2⟩
  have b2 := Drm.sB_yes ⟨n1, n2⟩
  have hbd := Drm.el_bd r1 r2 n1
  have o1 := okB_yes (a := n - 1) (n := 1000000000) (d := 1000000000 + r) ⟨by omega, by omega, by omega, by omega, by omega, by omega⟩
  have o2 := okB_yes (a := n + 1) (n := 1000000000) (d := 1000000000 - r) ⟨by omega, by omega, by omega, by omega, by omega, by omega⟩
  have l1 := Drm.el_lo (n := n) r1
  have l2 := Drm.el_hi (n := n) r1 r2
  obtain ⟨f1, f2⟩ := Scm.r_yes (v := Scm.sF (n - 1) 1000000000 (1000000000 + r)) o1 (isT_yes (by omega))
  obtain ⟨g1, g2⟩ := Scm.r_yes (v := Scm.sC (n + 1) 1000000000 (1000000000 - r)) o2 (isT_yes (by omega))
  rw [show Scm.sF (n - 1) 1000000000 (1000000000 + r) = Drm.elLo r n - 1 by omega] at f1 f2
  rw [show Scm.sC (n + 1) 1000000000 (1000000000 - r) = Drm.elHi r n + 1 by omega] at g1 g2
  have k1 : Scm.sF (n - 1) 1000000000 (1000000000 + r) = Drm.elLo r n - 1 := by omega
  have k2 : Scm.sC (n + 1) 1000000000 (1000000000 - r) = Drm.elHi r n + 1 := by omega
  clear o1 o2 l1 l2 h
  generalize Drm.elLo r n = L at *
  generalize Drm.elHi r n = H at *
  by_cases hp : 0 < n
  · go_enter Try.func32, Try.ntmps32
    go_wp2_with (first | (go_at_call 41; refine (rBound_any _ _).mono ?_; rintro e w' ⟨rfl, rfl⟩) | (go_at_call 42; refine (rStretch_any _ _).mono ?_; rintro e w' ⟨rfl, rfl⟩) | (go_at_call 43; refine (rFloor_any _ _ _ _).mono ?_; rintro e w1 ⟨rfl, hb1⟩) | (go_at_call 44; refine (rCeil_any _ _ _ _).mono ?_; rintro e w2 ⟨rfl, hb2⟩; have hbase := Below.go (Below.go hb0 hb1) hb2; obtain ⟨⟨c0, c1⟩, d0, d1⟩ := blk2 (keep' (keep' (heap_new w _) hb1) hb2)))
    exact bodyPost_ret (v := .tuple #[I2 L H, .int .i64 0]) (by simp [results, Try.results32, go_sem, c0, c1]) rfl ⟨ret_i2 hz.out.2.1.symm hz.out.2.2.1.symm hz.out.1.symm, by (repeat (with_reducible first | exact hbase | refine Below.drew ?_ | refine Below.setCell ?_ ?_ _)); all_goals simp⟩
  · obtain rfl : L = 0 := by omega
    go_enter Try.func32, Try.ntmps32
    go_wp2_with (first | (go_at_call 41; refine (rBound_any _ _).mono ?_; rintro e w' ⟨rfl, rfl⟩) | (go_at_call 42; refine (rStretch_any _ _).mono ?_; rintro e w' ⟨rfl, rfl⟩) | (go_at_call 44; refine (rCeil_any _ _ _ _).mono ?_; rintro e w2 ⟨rfl, hb2⟩; have hbase := Below.go hb0 hb2; obtain ⟨⟨c0, c1⟩, d0, d1⟩ := blk2 (keep' (heap_new w _) hb2)))
    exact bodyPost_ret (v := .tuple #[I2 0 H, .int .i64 0]) (by simp [results, Try.results32, go_sem, c0, c1]) rfl ⟨ret_i2 hz.out.2.1.symm hz.out.2.2.1.symm hz.out.1.symm, by (repeat (with_reducible first | exact hbase | refine Below.drew ?_ | refine Below.setCell ?_ ?_ _)); all_goals simp⟩
set_option maxHeartbeats 1000000 in
theorem rStart_any (t : Int) (w : World) : Calls Try.prog 13 #[.int .i64 t] w (RetB (.tuple #[B3 (oB (Blm.tT t) t) 0 (oB (Blm.tT t) 3000000000000000), .int .i64 (oE (Blm.tT t))]) w) := by
  cases h : Blm.tT t
  · go_enter Try.func13, Try.ntmps13
    go_wp2_with (go_at_call 28; refine (rTime8_any _ _).mono ?_; rintro e w' ⟨rfl, rfl⟩)
    exact bodyPost_ret (v := .tuple #[B3 0 0 0, .int .i64 1]) (by simp [results, Try.results13, go_sem]) rfl ⟨rfl, (Below.refl _ _).alloc (Nat.le_refl _) _⟩
  · go_enter Try.func13, Try.ntmps13
    go_wp2_with (go_at_call 28; refine (rTime8_any _ _).mono ?_; rintro e w' ⟨rfl, rfl⟩)
    exact bodyPost_ret (v := .tuple #[B3 t 0 3000000000000000, .int .i64 0]) (by simp [results, Try.results13, go_sem]) rfl ⟨rfl, (Below.refl _ _).alloc (Nat.le_refl _) _⟩
/-- what the walk of the reference's At knows: the belief that came in, and the result -/
theorem rat_facts {w w1 : World} {x y a s r : Value} {t t' : TypeId} (hb : Below ((w.alloc (.cells #[a, s, r] t')).alloc (.cells #[x, y] t)).heap.size ((w.alloc (.cells #[a, s, r] t')).alloc (.cells #[x, y] t)) w1) :
    w1.heap[w.heap.size]? = some (.cells #[a, s, r] t') ∧ w1.heap[w.heap.size + 1]? = some (.cells #[x, y] t) ∧ Below w.heap.size w w1 :=
  ⟨keep' (new0 _ _ _) hb, keep' (new1 _ _ _) hb, Below.go (two_box w _ _) hb⟩
theorem mn_rule2 (x : Int) : (if x < (3000000000000000 : Int) then x else 3000000000000000) = Blm.mn x := by unfold Blm.mn; split <;> split <;> omega
set_option maxHeartbeats 2000000 in
set_option maxRecDepth 100000 in
theorem rAt_any (a x y r t : Int) (w : World) : Calls Try.prog 15 #[B3 a x y, .int .i64 r, .int .i64 t] w (RetB (.tuple #[I2 (Blm.atLo a x y r t) (Blm.atHi a x y r t), .int .i64 (Blm.atE a x y r t)]) w) := by
  cases hB : Blm.atB a x y r t
  · have hz : Hid (Blm.atE a x y r t = 1) := Lib.hid (by unfold Blm.atE; rw [hB]; rfl)
    have hz2 := Lib.hid (Blm.at_off (a := a) (lo := x) (hi := y) (r := r) (t := t) (by rw [hz.out]; omega))
    rcases atB_ways hB with h1 | ⟨h1, h2⟩ | ⟨h1, h2, h3⟩
    all_goals
      clear hB
      go_enter Try.func15, Try.ntmps15
      go_wp2_with (first | (go_at_call 22; refine (rValid_any _ _ _ _).mono ?_; rintro e w1 ⟨rfl, hb1⟩; obtain ⟨k0, k1, hbase⟩ := rat_facts hb1; obtain ⟨⟨c0, c1, c2⟩, -⟩ := blk3 k0; obtain ⟨⟨d0, d1⟩, f0, f1⟩ := blk2 k1; clear k0 k1) | (go_at_call 28; refine (rTime8_any _ _).mono ?_; rintro e w' ⟨rfl, rfl⟩))
      all_goals exact bodyPost_ret (v := .tuple #[I2 0 0, .int .i64 1]) (by simp [results, Try.results15, go_sem, d0, d1]) rfl ⟨ret_i2 hz2.out.1.symm hz2.out.2.1.symm hz.out.symm, by (repeat (with_reducible first | exact hbase | refine Below.drew ?_ | refine Below.setCell ?_ ?_ _)); all_goals simp⟩
  obtain ⟨⟨⟨a1, a2⟩, x1, x2, x3⟩, ⟨t1, t2⟩, r1, r2⟩ := Blm.atB_bd hB
  have v1 := Blm.vB_yes ⟨a1, a2⟩ ⟨x1, x2, x3⟩
  have v2 := Blm.tT_yes ⟨t1, t2⟩
  have hE : Blm.atE a x y r t = if t < a then 30 else if t - a ≤ 1000000000000000 then 0 else 3 := by unfold Blm.atE; rw [hB]; rfl
  by_cases h3 : t < a
  · rw [if_pos h3] at hE
    have hz2 := Lib.hid (Blm.at_off (a := a) (lo := x) (hi := y) (r := r) (t := t) (by rw [hE]; omega))
    have hz := Lib.hid hE
    clear hE hB
    go_enter Try.func15, Try.ntmps15
    go_wp2_with (first | (go_at_call 22; refine (rValid_any _ _ _ _).mono ?_; rintro e w1 ⟨rfl, hb1⟩; obtain ⟨k0, k1, hbase⟩ := rat_facts hb1; obtain ⟨⟨c0, c1, c2⟩, -⟩ := blk3 k0; obtain ⟨⟨d0, d1⟩, f0, f1⟩ := blk2 k1; clear k0 k1) | (go_at_call 28; refine (rTime8_any _ _).mono ?_; rintro e w' ⟨rfl, rfl⟩))
    exact bodyPost_ret (v := .tuple #[I2 0 0, .int .i64 30]) (by simp [results, Try.results15, go_sem, d0, d1]) rfl ⟨ret_i2 hz2.out.1.symm hz2.out.2.1.symm hz.out.symm, by (repeat (with_reducible first | exact hbase | refine Below.drew ?_ | refine Below.setCell ?_ ?_ _)); all_goals simp⟩
  rw [if_neg h3] at hE
  have hb := two_box w (.cells #[.int .i64 a, .int .i64 x, .int .i64 y] 25) (.cells #[.int .i64 0, .int .i64 0] 23)
  have kb := Lib.hid (new0 w (.cells #[.int .i64 a, .int .i64 x, .int .i64 y] 25) (.cells #[.int .i64 0, .int .i64 0] 23))
  have kr := Lib.hid (new1 w (.cells #[.int .i64 a, .int .i64 x, .int .i64 y] 25) (.cells #[.int .i64 0, .int .i64 0] 23))
  have co := @cell_old
  have fo := @frozen_old
  by_cases h4 : t - a ≤ 1000000000000000
  · rw [if_pos h4] at hE
    obtain ⟨-, -, -, q1, q2, -⟩ := Blm.at_ok hE
    have hz := Lib.hid ((⟨hE, q1, q2⟩ : _ ∧ _ ∧ _))
    obtain ⟨e1, e2, e3, -⟩ := Drm.okE_yes (Drm.okE_mk (r := r) (n := t - a) ⟨r1, r2⟩ ⟨by omega, by omega⟩)
    have hbd := Drm.el_bd (r := r) (n := t - a) r1 r2 (by omega)
    clear hE hB q1 q2
    generalize Drm.elLo r (t - a) = L at *
    generalize Drm.elHi r (t - a) = H at *
    have m1 := mn_rule2 (x + L)
    have m2 := mn_rule2 (y + H)
    go_enter Try.func15, Try.ntmps15
    go_wp2_with fail
    refine (rValid_any _ _ _ _).mono ?_
    rintro e wN ⟨rfl, hn⟩
    have hb := (by first | exact Below.go hb hn | exact Below.goA hb hn | exact Below.goAA hb hn | exact Below.goD hb hn | exact Below.goAD hb hn : Below w.heap.size w wN)
    have kb := Lib.hid (by first | exact keep' kb.out hn | exact keepA kb.out hn | exact keepAA kb.out hn | exact keepD kb.out hn | exact keepAD kb.out hn)
    have kr := Lib.hid (by first | exact keep' kr.out hn | exact keepA kr.out hn | exact keepAA kr.out hn | exact keepD kr.out hn | exact keepAD kr.out hn)
    clear hn
    obtain ⟨⟨kb0, kb1, kb2⟩, -⟩ := blk3 kb.out
    have kbz := lt_of_heap kb.out
    obtain ⟨⟨kr0, kr1⟩, krf0, krf1⟩ := blk2 kr.out
    have krz := lt_of_heap kr.out
    go_wp2_with fail
    refine (rTime8_any _ _).mono ?_
    rintro e w' ⟨rfl, rfl⟩
    go_wp2_with fail
    refine (rElapsed_any _ _ _).mono ?_
    rintro e wN ⟨rfl, hn⟩
    have hb := (by first | exact Below.go hb hn | exact Below.goA hb hn | exact Below.goAA hb hn | exact Below.goD hb hn | exact Below.goAD hb hn : Below w.heap.size w wN)
    have kb := Lib.hid (by first | exact keep' kb.out hn | exact keepA kb.out hn | exact keepAA kb.out hn | exact keepD kb.out hn | exact keepAD kb.out hn)
    have kr := Lib.hid (by first | exact keep' kr.out hn | exact keepA kr.out hn | exact keepAA kr.out hn | exact keepD kr.out hn | exact keepAD kr.out hn)
    clear hn
    obtain ⟨⟨kb0, kb1, kb2⟩, -⟩ := blk3 kb.out
    have kbz := lt_of_heap kb.out
    obtain ⟨⟨kr0, kr1⟩, krf0, krf1⟩ := blk2 kr.out
    have krz := lt_of_heap kr.out
    go_wp2
    exact bodyPost_ret (v := .tuple #[I2 (Blm.mn (x + L)) (Blm.mn (y + H)), .int .i64 0]) (by simp [results, Try.results15, go_sem, kr0, kr1, cell_old, krz]) rfl ⟨ret_i2 hz.out.2.1.symm hz.out.2.2.symm hz.out.1.symm, by (repeat (with_reducible first | exact hb | refine Below.drew ?_ | refine Below.setCell ?_ ?_ _ | refine Below.alloc ?_ ?_ _)); all_goals simp; all_goals first | exact hb.size | omega⟩
  · rw [if_neg h4] at hE
    have hz2 := Lib.hid (Blm.at_off (a := a) (lo := x) (hi := y) (r := r) (t := t) (by rw [hE]; omega))
    have hz := Lib.hid hE
    have hn : Drm.sB (t - a) = false := decide_eq_false (by omega)
    obtain ⟨e1, e2, e3, -⟩ := Drm.okE_no (r := r) (n := t - a) (by unfold Drm.okE; rw [hn]; simp)
    clear hE hB hn
    go_enter Try.func15, Try.ntmps15
    go_wp2_with fail
    refine (rValid_any _ _ _ _).mono ?_
    rintro e wN ⟨rfl, hn⟩
    have hb := (by first | exact Below.go hb hn | exact Below.goA hb hn | exact Below.goAA hb hn | exact Below.goD hb hn | exact Below.goAD hb hn : Below w.heap.size w wN)
    have kb := Lib.hid (by first | exact keep' kb.out hn | exact keepA kb.out hn | exact keepAA kb.out hn | exact keepD kb.out hn | exact keepAD kb.out hn)
    have kr := Lib.hid (by first | exact keep' kr.out hn | exact keepA kr.out hn | exact keepAA kr.out hn | exact keepD kr.out hn | exact keepAD kr.out hn)
    clear hn
    obtain ⟨⟨kb0, kb1, kb2⟩, -⟩ := blk3 kb.out
    have kbz := lt_of_heap kb.out
    obtain ⟨⟨kr0, kr1⟩, krf0, krf1⟩ := blk2 kr.out
    have krz := lt_of_heap kr.out
    go_wp2_with fail
    refine (rTime8_any _ _).mono ?_
    rintro e w' ⟨rfl, rfl⟩
    go_wp2_with fail
    refine (rElapsed_any _ _ _).mono ?_
    rintro e wN ⟨rfl, hn⟩
    have hb := (by first | exact Below.go hb hn | exact Below.goA hb hn | exact Below.goAA hb hn | exact Below.goD hb hn | exact Below.goAD hb hn : Below w.heap.size w wN)
    have kb := Lib.hid (by first | exact keep' kb.out hn | exact keepA kb.out hn | exact keepAA kb.out hn | exact keepD kb.out hn | exact keepAD kb.out hn)
    have kr := Lib.hid (by first | exact keep' kr.out hn | exact keepA kr.out hn | exact keepAA kr.out hn | exact keepD kr.out hn | exact keepAD kr.out hn)
    clear hn
    obtain ⟨⟨kb0, kb1, kb2⟩, -⟩ := blk3 kb.out
    have kbz := lt_of_heap kb.out
    obtain ⟨⟨kr0, kr1⟩, krf0, krf1⟩ := blk2 kr.out
    have krz := lt_of_heap kr.out
    go_wp2
    exact bodyPost_ret (v := .tuple #[I2 0 0, .int .i64 3]) (by simp [results, Try.results15, go_sem, kr0, kr1, cell_old, krz]) rfl ⟨ret_i2 hz2.out.1.symm hz2.out.2.1.symm hz.out.symm, by (repeat (with_reducible first | exact hb | refine Below.drew ?_ | refine Below.setCell ?_ ?_ _ | refine Below.alloc ?_ ?_ _)); all_goals simp; all_goals first | exact hb.size | omega⟩
end Go.Proofs.Ytiagdbahokgonaa
