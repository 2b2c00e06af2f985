/- The contracts of the references' Advance, Meet and Worst; the walk of the law BeliefMatchesReference. -/
import Derived.Test.YtiagdbahokgonaaBeJ
set_option linter.unusedVariables false
namespace Go.Proofs.Ytiagdbahokgonaa
open Go.RowKit
set_option maxHeartbeats 1000000 in
theorem rAdvance_any (a x y r t : Int) (w : World) : Calls Try.prog 17 #[B3 a x y, .int .i64 r, .int .i64 t] w (RetB (.tuple #[B3 (Blm.adA a x y r t) (Blm.atLo a x y r t) (Blm.atHi a x y r t), .int .i64 (Blm.atE a x y r t)]) w) := by
  by_cases h : Blm.atE a x y r t = 0
  · obtain ⟨-, -, -, -, -, q3⟩ := Blm.at_ok h
    have hz := Lib.hid q3
    clear q3
    go_enter Try.func17, Try.ntmps17
    go_wp2_with (go_at_call 15; refine (rAt_any _ _ _ _ _ _).mono ?_; rintro e w1 ⟨rfl, hb1⟩; obtain ⟨⟨⟨d0, d1, d2⟩, f0, f1, f2⟩, ⟨⟨p0, p1, p2⟩, q0, q1, q2⟩, hsz, hbase⟩ := adv_facts hb1)
    exact bodyPost_ret (v := .tuple #[B3 t (Blm.atLo a x y r t) (Blm.atHi a x y r t), .int .i64 0]) (by simp [results, Try.results17, go_sem, d0, d1, d2, cell_old, hsz]) rfl ⟨ret_i3 hz.out.symm rfl rfl h.symm, by (repeat (with_reducible first | exact hbase | refine Below.drew ?_ | refine Below.setCell ?_ ?_ _ | refine Below.alloc ?_ ?_ _)); all_goals simp; all_goals exact hbase.size⟩
  · have hn := bne_of h
    have hz := Lib.hid (Blm.at_off h)
    clear h
    go_enter Try.func17, Try.ntmps17
    go_wp2_with (go_at_call 15; refine (rAt_any _ _ _ _ _ _).mono ?_; rintro e w1 ⟨rfl, hb1⟩; obtain ⟨⟨⟨d0, d1, d2⟩, f0, f1, f2⟩, ⟨⟨p0, p1, p2⟩, q0, q1, q2⟩, hsz, hbase⟩ := adv_facts hb1)
    exact bodyPost_ret (v := .tuple #[B3 0 0 0, .int .i64 (Blm.atE a x y r t)]) (by simp [results, Try.results17, go_sem, d0, d1, d2, cell_old, hsz]) rfl ⟨ret_i3 hz.out.2.2.symm hz.out.1.symm hz.out.2.1.symm rfl, by (repeat (with_reducible first | exact hbase | refine Below.drew ?_ | refine Below.setCell ?_ ?_ _ | refine Below.alloc ?_ ?_ _)); all_goals simp; all_goals exact hbase.size⟩
set_option maxHeartbeats 1000000 in
theorem rWorst_any (x y s : Int) (w : World) : Calls Try.prog 21 #[I2 x y, .int .i64 s] w (RetB (.tuple #[.int .i64 (Blm.woV x y s), .int .i64 (Blm.woE x y s)]) w) := by
  have hb0 : Below w.heap.size w (w.alloc (.cells #[.int .i64 x, .int .i64 y] 23)) := (Below.refl _ _).alloc (Nat.le_refl _) _
  have hE : Hid (Blm.woE x y s = if Blm.iV x y && Blm.tT s then 0 else 1) := Lib.hid rfl
  have hV : Hid (Blm.woV x y s = if Blm.iV x y && Blm.tT s then Blm.mxA (s - x) (y - s) else 0) := Lib.hid rfl
  cases h1 : Blm.iV x y
  · rw [h1] at hE hV
    go_enter Try.func21, Try.ntmps21
    go_wp2_with (first | (go_at_call 23; refine (rIV_any _ _ _).mono ?_; rintro e w1 ⟨rfl, hb1⟩) | (go_at_call 28; refine (rTime8_any _ _).mono ?_; rintro e w' ⟨rfl, rfl⟩))
    go_ret2
    exact ⟨ret_two (by rw [hV.out]; rfl) (by rw [hE.out]; rfl), Below.go hb0 hb1⟩
  cases h2 : Blm.tT s
  · rw [h1, h2] at hE hV
    go_enter Try.func21, Try.ntmps21
    go_wp2_with (first | (go_at_call 23; refine (rIV_any _ _ _).mono ?_; rintro e w1 ⟨rfl, hb1⟩) | (go_at_call 28; refine (rTime8_any _ _).mono ?_; rintro e w' ⟨rfl, rfl⟩))
    go_ret2
    exact ⟨ret_two (by rw [hV.out]; rfl) (by rw [hE.out]; rfl), Below.go hb0 hb1⟩
  · rw [h1, h2] at hE hV
    obtain ⟨x1, x2, x3⟩ := Blm.iV_bd h1
    obtain ⟨s1, s2⟩ := Blm.tT_bd h2
    have e1 : (if s - x < y - s then y - s else s - x) = Blm.mxA (s - x) (y - s) := rfl
    go_enter Try.func21, Try.ntmps21
    go_wp2_with (first | (go_at_call 23; refine (rIV_any _ _ _).mono ?_; rintro e w1 ⟨rfl, hb1⟩; obtain ⟨⟨c0, c1⟩, -⟩ := blk2 (keep' (heap_new w _) hb1)) | (go_at_call 28; refine (rTime8_any _ _).mono ?_; rintro e w' ⟨rfl, rfl⟩))
    go_ret2
    exact ⟨ret_two (by rw [hV.out]; rfl) (by rw [hE.out]; rfl), Below.go hb0 hb1⟩
set_option maxHeartbeats 2000000 in
set_option maxRecDepth 100000 in
theorem riMeet_any (x y x2 y2 : Int) (w : World) (v1 : Blm.iV x y = true) (v2 : Blm.iV x2 y2 = true) : Calls Try.prog 35 #[I2 x y, I2 x2 y2] w (RetB (.tuple #[I2 (oB (mtS x y x2 y2) (Blm.mxA x x2)) (oB (mtS x y x2 y2) (Blm.mnA y y2)), .bool (mtS x y x2 y2), .int .i64 0]) w) := by
  have e1 : (if x < x2 then x2 else x) = Blm.mxA x x2 := rfl
  have e2 : (if y2 < y then y2 else y) = Blm.mnA y y2 := rfl
  have hm : mtS x y x2 y2 = decide (Blm.mxA x x2 ≤ Blm.mnA y y2) := rfl
  generalize Blm.mxA x x2 = X at *
  generalize Blm.mnA y y2 = Y at *
  have hb := (two_box w (.cells #[.int .i64 x, .int .i64 y] 23) (.cells #[.int .i64 x2, .int .i64 y2] 23)).alloc (two_box w (.cells #[.int .i64 x, .int .i64 y] 23) (.cells #[.int .i64 x2, .int .i64 y2] 23)).size (.cells #[.int .i64 0, .int .i64 0] 23)
  have ka := Lib.hid (new30 w (.cells #[.int .i64 x, .int .i64 y] 23) (.cells #[.int .i64 x2, .int .i64 y2] 23) (.cells #[.int .i64 0, .int .i64 0] 23))
  have kc := Lib.hid (new31 w (.cells #[.int .i64 x, .int .i64 y] 23) (.cells #[.int .i64 x2, .int .i64 y2] 23) (.cells #[.int .i64 0, .int .i64 0] 23))
  have kr := Lib.hid (new32 w (.cells #[.int .i64 x, .int .i64 y] 23) (.cells #[.int .i64 x2, .int .i64 y2] 23) (.cells #[.int .i64 0, .int .i64 0] 23))
  cases hs : mtS x y x2 y2
  · rw [hs] at hm
    have hlt : ¬ X ≤ Y := of_decide_eq_false hm.symm
    clear hm
    go_enter Try.func35, Try.ntmps35
    go_wp2_with fail
    refine (rIV_any _ _ _).mono ?_
    rintro e wN ⟨rfl, hn⟩
    have hb := (by first | exact Below.go hb hn | exact Below.goA hb hn | exact Below.goAA hb hn | exact Below.goD hb hn | exact Below.goAD hb hn : Below w.heap.size w wN)
    have ka := Lib.hid (by first | exact keep' ka.out hn | exact keepA ka.out hn | exact keepAA ka.out hn | exact keepD ka.out hn | exact keepAD ka.out hn)
    have kc := Lib.hid (by first | exact keep' kc.out hn | exact keepA kc.out hn | exact keepAA kc.out hn | exact keepD kc.out hn | exact keepAD kc.out hn)
    have kr := Lib.hid (by first | exact keep' kr.out hn | exact keepA kr.out hn | exact keepAA kr.out hn | exact keepD kr.out hn | exact keepAD kr.out hn)
    clear hn
    obtain ⟨⟨ka0, ka1⟩, -⟩ := blk2 ka.out
    have kaz := lt_of_heap ka.out
    obtain ⟨⟨kc0, kc1⟩, -⟩ := blk2 kc.out
    have kcz := lt_of_heap kc.out
    obtain ⟨⟨kr0, kr1⟩, krf0, krf1⟩ := blk2 kr.out
    have krz := lt_of_heap kr.out
    go_wp2_with fail
    refine (rIV_any _ _ _).mono ?_
    rintro e wN ⟨rfl, hn⟩
    have hb := (by first | exact Below.go hb hn | exact Below.goA hb hn | exact Below.goAA hb hn | exact Below.goD hb hn | exact Below.goAD hb hn : Below w.heap.size w wN)
    have ka := Lib.hid (by first | exact keep' ka.out hn | exact keepA ka.out hn | exact keepAA ka.out hn | exact keepD ka.out hn | exact keepAD ka.out hn)
    have kc := Lib.hid (by first | exact keep' kc.out hn | exact keepA kc.out hn | exact keepAA kc.out hn | exact keepD kc.out hn | exact keepAD kc.out hn)
    have kr := Lib.hid (by first | exact keep' kr.out hn | exact keepA kr.out hn | exact keepAA kr.out hn | exact keepD kr.out hn | exact keepAD kr.out hn)
    clear hn
    obtain ⟨⟨ka0, ka1⟩, -⟩ := blk2 ka.out
    have kaz := lt_of_heap ka.out
    obtain ⟨⟨kc0, kc1⟩, -⟩ := blk2 kc.out
    have kcz := lt_of_heap kc.out
    obtain ⟨⟨kr0, kr1⟩, krf0, krf1⟩ := blk2 kr.out
    have krz := lt_of_heap kr.out
    go_wp2
    exact bodyPost_ret (v := .tuple #[I2 0 0, .bool false, .int .i64 0]) (by simp [results, Try.results35, go_sem, kr0, kr1]) rfl ⟨rfl, by (repeat (with_reducible first | exact hb | refine Below.drew ?_ | refine Below.setCell ?_ ?_ _)); all_goals simp; all_goals try omega⟩
  · rw [hs] at hm
    have hlt : X ≤ Y := of_decide_eq_true hm.symm
    clear hm
    go_enter Try.func35, Try.ntmps35
    go_wp2_with fail
    refine (rIV_any _ _ _).mono ?_
    rintro e wN ⟨rfl, hn⟩
    have hb := (by first | exact Below.go hb hn | exact Below.goA hb hn | exact Below.goAA hb hn | exact Below.goD hb hn | exact Below.goAD hb hn : Below w.heap.size w wN)
    have ka := Lib.hid (by first | exact keep' ka.out hn | exact keepA ka.out hn | exact keepAA ka.out hn | exact keepD ka.out hn | exact keepAD ka.out hn)
    have kc := Lib.hid (by first | exact keep' kc.out hn | exact keepA kc.out hn | exact keepAA kc.out hn | exact keepD kc.out hn | exact keepAD kc.out hn)
    have kr := Lib.hid (by first | exact keep' kr.out hn | exact keepA kr.out hn | exact keepAA kr.out hn | exact keepD kr.out hn | exact keepAD kr.out hn)
    clear hn
    obtain ⟨⟨ka0, ka1⟩, -⟩ := blk2 ka.out
    have kaz := lt_of_heap ka.out
    obtain ⟨⟨kc0, kc1⟩, -⟩ := blk2 kc.out
    have kcz := lt_of_heap kc.out
    obtain ⟨⟨kr0, kr1⟩, krf0, krf1⟩ := blk2 kr.out
    have krz := lt_of_heap kr.out
    go_wp2_with fail
    refine (rIV_any _ _ _).mono ?_
    rintro e wN ⟨rfl, hn⟩
    have hb := (by first | exact Below.go hb hn | exact Below.goA hb hn | exact Below.goAA hb hn | exact Below.goD hb hn | exact Below.goAD hb hn : Below w.heap.size w wN)
    have ka := Lib.hid (by first | exact keep' ka.out hn | exact keepA ka.out hn | exact keepAA ka.out hn | exact keepD ka.out hn | exact keepAD ka.out hn)
    have kc := Lib.hid (by first | exact keep' kc.out hn | exact keepA kc.out hn | exact keepAA kc.out hn | exact keepD kc.out hn | exact keepAD kc.out hn)
    have kr := Lib.hid (by first | exact keep' kr.out hn | exact keepA kr.out hn | exact keepAA kr.out hn | exact keepD kr.out hn | exact keepAD kr.out hn)
    clear hn
    obtain ⟨⟨ka0, ka1⟩, -⟩ := blk2 ka.out
    have kaz := lt_of_heap ka.out
    obtain ⟨⟨kc0, kc1⟩, -⟩ := blk2 kc.out
    have kcz := lt_of_heap kc.out
    obtain ⟨⟨kr0, kr1⟩, krf0, krf1⟩ := blk2 kr.out
    have krz := lt_of_heap kr.out
    go_wp2
    exact bodyPost_ret (v := .tuple #[I2 X Y, .bool true, .int .i64 0]) (by simp [results, Try.results35, go_sem, kr0, kr1]) rfl ⟨rfl, by (repeat (with_reducible first | exact hb | refine Below.drew ?_ | refine Below.setCell ?_ ?_ _)); all_goals simp; all_goals try omega⟩
set_option maxHeartbeats 2000000 in
set_option maxRecDepth 100000 in
theorem rMeet_any (a x y x2 y2 : Int) (w : World) : Calls Try.prog 19 #[B3 a x y, I2 x2 y2] w (RetB (.tuple #[B3 (Blm.meA a x y x2 y2) (Blm.meLo a x y x2 y2) (Blm.meHi a x y x2 y2), .bool (Blm.meS a x y x2 y2), .int .i64 (Blm.meE a x y x2 y2)]) w) := by
  have hb := (two_box w (.cells #[.int .i64 a, .int .i64 x, .int .i64 y] 25) (.cells #[.int .i64 x2, .int .i64 y2] 23)).alloc (two_box w (.cells #[.int .i64 a, .int .i64 x, .int .i64 y] 25) (.cells #[.int .i64 x2, .int .i64 y2] 23)).size (.cells #[.int .i64 0, .int .i64 0, .int .i64 0] 25)
  have ka := Lib.hid (new30 w (.cells #[.int .i64 a, .int .i64 x, .int .i64 y] 25) (.cells #[.int .i64 x2, .int .i64 y2] 23) (.cells #[.int .i64 0, .int .i64 0, .int .i64 0] 25))
  have kc := Lib.hid (new31 w (.cells #[.int .i64 a, .int .i64 x, .int .i64 y] 25) (.cells #[.int .i64 x2, .int .i64 y2] 23) (.cells #[.int .i64 0, .int .i64 0, .int .i64 0] 25))
  have kr := Lib.hid (new32 w (.cells #[.int .i64 a, .int .i64 x, .int .i64 y] 25) (.cells #[.int .i64 x2, .int .i64 y2] 23) (.cells #[.int .i64 0, .int .i64 0, .int .i64 0] 25))
  have co := @cell_old
  have fo := @frozen_old
  cases hV : Blm.meV a x y x2 y2
  · have hz : Hid (Blm.meA a x y x2 y2 = 0 ∧ Blm.meLo a x y x2 y2 = 0 ∧ Blm.meHi a x y x2 y2 = 0 ∧ Blm.meS a x y x2 y2 = false ∧ Blm.meE a x y x2 y2 = 1) := Lib.hid (by unfold Blm.meA Blm.meLo Blm.meHi Blm.meE; unfold Blm.meS; rw [hV]; simp)
    rcases meV_ways hV with h1 | ⟨h1, h2⟩
    all_goals
      clear hV
      go_enter Try.func19, Try.ntmps19
      go_wp2_with fail
      refine (rValid_any _ _ _ _).mono ?_
      rintro e wN ⟨rfl, hn⟩
      have hb := (by first | exact Below.go hb hn | exact Below.goA hb hn | exact Below.goAA hb hn | exact Below.goD hb hn | exact Below.goAD hb hn : Below w.heap.size w wN)
      have ka := Lib.hid (by first | exact keep' ka.out hn | exact keepA ka.out hn | exact keepAA ka.out hn | exact keepD ka.out hn | exact keepAD ka.out hn)
      have kc := Lib.hid (by first | exact keep' kc.out hn | exact keepA kc.out hn | exact keepAA kc.out hn | exact keepD kc.out hn | exact keepAD kc.out hn)
      have kr := Lib.hid (by first | exact keep' kr.out hn | exact keepA kr.out hn | exact keepAA kr.out hn | exact keepD kr.out hn | exact keepAD kr.out hn)
      clear hn
      obtain ⟨⟨ka0, ka1, ka2⟩, -⟩ := blk3 ka.out
      have kaz := lt_of_heap ka.out
      obtain ⟨⟨kc0, kc1⟩, -⟩ := blk2 kc.out
      have kcz := lt_of_heap kc.out
      obtain ⟨⟨kr0, kr1, kr2⟩, krf0, krf1, krf2⟩ := blk3 kr.out
      have krz := lt_of_heap kr.out
      go_wp2_with fail
      refine (rIV_any _ _ _).mono ?_
      rintro e wN ⟨rfl, hn⟩
      have hb := (by first | exact Below.go hb hn | exact Below.goA hb hn | exact Below.goAA hb hn | exact Below.goD hb hn | exact Below.goAD hb hn : Below w.heap.size w wN)
      have ka := Lib.hid (by first | exact keep' ka.out hn | exact keepA ka.out hn | exact keepAA ka.out hn | exact keepD ka.out hn | exact keepAD ka.out hn)
      have kc := Lib.hid (by first | exact keep' kc.out hn | exact keepA kc.out hn | exact keepAA kc.out hn | exact keepD kc.out hn | exact keepAD kc.out hn)
      have kr := Lib.hid (by first | exact keep' kr.out hn | exact keepA kr.out hn | exact keepAA kr.out hn | exact keepD kr.out hn | exact keepAD kr.out hn)
      clear hn
      obtain ⟨⟨ka0, ka1, ka2⟩, -⟩ := blk3 ka.out
      have kaz := lt_of_heap ka.out
      obtain ⟨⟨kc0, kc1⟩, -⟩ := blk2 kc.out
      have kcz := lt_of_heap kc.out
      obtain ⟨⟨kr0, kr1, kr2⟩, krf0, krf1, krf2⟩ := blk3 kr.out
      have krz := lt_of_heap kr.out
      go_wp2
      exact bodyPost_ret (v := .tuple #[B3 0 0 0, .bool false, .int .i64 1]) (by simp [results, Try.results19, go_sem, kr0, kr1, kr2]) rfl ⟨ret_m3 hz.out.1.symm hz.out.2.1.symm hz.out.2.2.1.symm hz.out.2.2.2.1.symm hz.out.2.2.2.2.symm, by (repeat (with_reducible first | exact hb | refine Below.drew ?_ | refine Below.setCell ?_ ?_ _)); all_goals simp; all_goals try omega⟩
  obtain ⟨v1, v2⟩ := Blm.meV_bd hV
  obtain ⟨⟨a1, a2⟩, x1, x2', x3⟩ := Blm.vB_bd v1
  have v3 := Blm.iV_yes ⟨x1, x2', x3⟩
  have hS : Blm.meS a x y x2 y2 = mtS x y x2 y2 := by unfold Blm.meS; rw [hV]; rfl
  cases hs : mtS x y x2 y2
  · have hz : Hid (Blm.meA a x y x2 y2 = a ∧ Blm.meLo a x y x2 y2 = x ∧ Blm.meHi a x y x2 y2 = y ∧ Blm.meS a x y x2 y2 = false ∧ Blm.meE a x y x2 y2 = 0) := Lib.hid (by unfold Blm.meA Blm.meLo Blm.meHi Blm.meE; rw [hS, hs, hV]; simp)
    have o1 : oB false (Blm.mxA x x2) = 0 := rfl
    have o2 : oB false (Blm.mnA y y2) = 0 := rfl
    clear hS hV
    go_enter Try.func19, Try.ntmps19
    go_wp2_with fail
    refine (rValid_any _ _ _ _).mono ?_
    rintro e wN ⟨rfl, hn⟩
    have hb := (by first | exact Below.go hb hn | exact Below.goA hb hn | exact Below.goAA hb hn | exact Below.goD hb hn | exact Below.goAD hb hn : Below w.heap.size w wN)
    have ka := Lib.hid (by first | exact keep' ka.out hn | exact keepA ka.out hn | exact keepAA ka.out hn | exact keepD ka.out hn | exact keepAD ka.out hn)
    have kc := Lib.hid (by first | exact keep' kc.out hn | exact keepA kc.out hn | exact keepAA kc.out hn | exact keepD kc.out hn | exact keepAD kc.out hn)
    have kr := Lib.hid (by first | exact keep' kr.out hn | exact keepA kr.out hn | exact keepAA kr.out hn | exact keepD kr.out hn | exact keepAD kr.out hn)
    clear hn
    obtain ⟨⟨ka0, ka1, ka2⟩, -⟩ := blk3 ka.out
    have kaz := lt_of_heap ka.out
    obtain ⟨⟨kc0, kc1⟩, -⟩ := blk2 kc.out
    have kcz := lt_of_heap kc.out
    obtain ⟨⟨kr0, kr1, kr2⟩, krf0, krf1, krf2⟩ := blk3 kr.out
    have krz := lt_of_heap kr.out
    go_wp2_with fail
    refine (rIV_any _ _ _).mono ?_
    rintro e wN ⟨rfl, hn⟩
    have hb := (by first | exact Below.go hb hn | exact Below.goA hb hn | exact Below.goAA hb hn | exact Below.goD hb hn | exact Below.goAD hb hn : Below w.heap.size w wN)
    have ka := Lib.hid (by first | exact keep' ka.out hn | exact keepA ka.out hn | exact keepAA ka.out hn | exact keepD ka.out hn | exact keepAD ka.out hn)
    have kc := Lib.hid (by first | exact keep' kc.out hn | exact keepA kc.out hn | exact keepAA kc.out hn | exact keepD kc.out hn | exact keepAD kc.out hn)
    have kr := Lib.hid (by first | exact keep' kr.out hn | exact keepA kr.out hn | exact keepAA kr.out hn | exact keepD kr.out hn | exact keepAD kr.out hn)
    clear hn
    obtain ⟨⟨ka0, ka1, ka2⟩, -⟩ := blk3 ka.out
    have kaz := lt_of_heap ka.out
    obtain ⟨⟨kc0, kc1⟩, -⟩ := blk2 kc.out
    have kcz := lt_of_heap kc.out
    obtain ⟨⟨kr0, kr1, kr2⟩, krf0, krf1, krf2⟩ := blk3 kr.out
    have krz := lt_of_heap kr.out
    go_wp2_with fail
    refine (riMeet_any _ _ _ _ _ v3 v2).mono ?_
    rintro e wN ⟨rfl, hn⟩
    have hb := (by first | exact Below.go hb hn | exact Below.goA hb hn | exact Below.goAA hb hn | exact Below.goD hb hn | exact Below.goAD hb hn : Below w.heap.size w wN)
    have ka := Lib.hid (by first | exact keep' ka.out hn | exact keepA ka.out hn | exact keepAA ka.out hn | exact keepD ka.out hn | exact keepAD ka.out hn)
    have kc := Lib.hid (by first | exact keep' kc.out hn | exact keepA kc.out hn | exact keepAA kc.out hn | exact keepD kc.out hn | exact keepAD kc.out hn)
    have kr := Lib.hid (by first | exact keep' kr.out hn | exact keepA kr.out hn | exact keepAA kr.out hn | exact keepD kr.out hn | exact keepAD kr.out hn)
    clear hn
    obtain ⟨⟨ka0, ka1, ka2⟩, -⟩ := blk3 ka.out
    have kaz := lt_of_heap ka.out
    obtain ⟨⟨kc0, kc1⟩, -⟩ := blk2 kc.out
    have kcz := lt_of_heap kc.out
    obtain ⟨⟨kr0, kr1, kr2⟩, krf0, krf1, krf2⟩ := blk3 kr.out
    have krz := lt_of_heap kr.out
    go_wp2
    exact bodyPost_ret (v := .tuple #[B3 a x y, .bool false, .int .i64 0]) (by simp [results, Try.results19, go_sem, kr0, kr1, kr2, cell_old, krz]) rfl ⟨ret_m3 hz.out.1.symm hz.out.2.1.symm hz.out.2.2.1.symm hz.out.2.2.2.1.symm hz.out.2.2.2.2.symm, by (repeat (with_reducible first | exact hb | refine Below.drew ?_ | refine Below.setCell ?_ ?_ _ | refine Below.alloc ?_ ?_ _)); all_goals simp; all_goals first | exact hb.size | omega⟩
  · have hz : Hid (Blm.meA a x y x2 y2 = a ∧ Blm.meLo a x y x2 y2 = Blm.mxA x x2 ∧ Blm.meHi a x y x2 y2 = Blm.mnA y y2 ∧ Blm.meS a x y x2 y2 = true ∧ Blm.meE a x y x2 y2 = 0) := Lib.hid (by unfold Blm.meA Blm.meLo Blm.meHi Blm.meE; rw [hS, hs, hV]; simp)
    have o1 : oB true (Blm.mxA x x2) = Blm.mxA x x2 := rfl
    have o2 : oB true (Blm.mnA y y2) = Blm.mnA y y2 := rfl
    clear hS hV
    go_enter Try.func19, Try.ntmps19
    go_wp2_with fail
    refine (rValid_any _ _ _ _).mono ?_
    rintro e wN ⟨rfl, hn⟩
    have hb := (by first | exact Below.go hb hn | exact Below.goA hb hn | exact Below.goAA hb hn | exact Below.goD hb hn | exact Below.goAD hb hn : Below w.heap.size w wN)
    have ka := Lib.hid (by first | exact keep' ka.out hn | exact keepA ka.out hn | exact keepAA ka.out hn | exact keepD ka.out hn | exact keepAD ka.out hn)
    have kc := Lib.hid (by first | exact keep' kc.out hn | exact keepA kc.out hn | exact keepAA kc.out hn | exact keepD kc.out hn | exact keepAD kc.out hn)
    have kr := Lib.hid (by first | exact keep' kr.out hn | exact keepA kr.out hn | exact keepAA kr.out hn | exact keepD kr.out hn | exact keepAD kr.out hn)
    clear hn
    obtain ⟨⟨ka0, ka1, ka2⟩, -⟩ := blk3 ka.out
    have kaz := lt_of_heap ka.out
    obtain ⟨⟨kc0, kc1⟩, -⟩ := blk2 kc.out
    have kcz := lt_of_heap kc.out
    obtain ⟨⟨kr0, kr1, kr2⟩, krf0, krf1, krf2⟩ := blk3 kr.out
    have krz := lt_of_heap kr.out
    go_wp2_with fail
    refine (rIV_any _ _ _).mono ?_
    rintro e wN ⟨rfl, hn⟩
    have hb := (by first | exact Below.go hb hn | exact Below.goA hb hn | exact Below.goAA hb hn | exact Below.goD hb hn | exact Below.goAD hb hn : Below w.heap.size w wN)
    have ka := Lib.hid (by first | exact keep' ka.out hn | exact keepA ka.out hn | exact keepAA ka.out hn | exact keepD ka.out hn | exact keepAD ka.out hn)
    have kc := Lib.hid (by first | exact keep' kc.out hn | exact keepA kc.out hn | exact keepAA kc.out hn | exact keepD kc.out hn | exact keepAD kc.out hn)
    have kr := Lib.hid (by first | exact keep' kr.out hn | exact keepA kr.out hn | exact keepAA kr.out hn | exact keepD kr.out hn | exact keepAD kr.out hn)
    clear hn
    obtain ⟨⟨ka0, ka1, ka2⟩, -⟩ := blk3 ka.out
    have kaz := lt_of_heap ka.out
    obtain ⟨⟨kc0, kc1⟩, -⟩ := blk2 kc.out
    have kcz := lt_of_heap kc.out
    obtain ⟨⟨kr0, kr1, kr2⟩, krf0, krf1, krf2⟩ := blk3 kr.out
    have krz := lt_of_heap kr.out
    go_wp2_with fail
    refine (riMeet_any _ _ _ _ _ v3 v2).mono ?_
    rintro e wN ⟨rfl, hn⟩
    have hb := (by first | exact Below.go hb hn | exact Below.goA hb hn | exact Below.goAA hb hn | exact Below.goD hb hn | exact Below.goAD hb hn : Below w.heap.size w wN)
    have ka := Lib.hid (by first | exact keep' ka.out hn | exact keepA ka.out hn | exact keepAA ka.out hn | exact keepD ka.out hn | exact keepAD ka.out hn)
    have kc := Lib.hid (by first | exact keep' kc.out hn | exact keepA kc.out hn | exact keepAA kc.out hn | exact keepD kc.out hn | exact keepAD kc.out hn)
    have kr := Lib.hid (by first | exact keep' kr.out hn | exact keepA kr.out hn | exact keepAA kr.out hn | exact keepD kr.out hn | exact keepAD kr.out hn)
    clear hn
    obtain ⟨⟨ka0, ka1, ka2⟩, -⟩ := blk3 ka.out
    have kaz := lt_of_heap ka.out
    obtain ⟨⟨kc0, kc1⟩, -⟩ := blk2 kc.out
    have kcz := lt_of_heap kc.out
    obtain ⟨⟨kr0, kr1, kr2⟩, krf0, krf1, krf2⟩ := blk3 kr.out
    have krz := lt_of_heap kr.out
    go_wp2
    exact bodyPost_ret (v := .tuple #[B3 a (Blm.mxA x x2) (Blm.mnA y y2), .bool true, .int .i64 0]) (by simp [results, Try.results19, go_sem, kr0, kr1, kr2, cell_old, krz]) rfl ⟨ret_m3 hz.out.1.symm hz.out.2.1.symm hz.out.2.2.1.symm hz.out.2.2.2.1.symm hz.out.2.2.2.2.symm, by (repeat (with_reducible first | exact hb | refine Below.drew ?_ | refine Below.setCell ?_ ?_ _ | refine Below.alloc ?_ ?_ _)); all_goals simp; all_goals first | exact hb.size | omega⟩
theorem set_heap {w : World} {b : Nat} {cs : Array Value} {t : TypeId} {j : Nat} {u : Value} (h : w.heap[b]? = some (.cells cs t)) : (w.setCell ⟨b, j, none⟩ u).heap[b]? = some (.cells (cs.setIfInBounds j u) t) := by
  have hlt := lt_of_heap h
  have h' : w.heap[b] = .cells cs t := by simpa [Array.getElem?_eq_getElem hlt] using h
  show (w.heap.modify b _)[b]? = _
  rw [Array.getElem?_eq_getElem (by simpa using hlt), Array.getElem_modify_self, h']
  rfl
theorem st3 {W : World} {k : Nat} {x y z : Value} {t : TypeId} (h : W.heap[k]? = some (.cells #[x, y, z] t)) (a b c : Value) : (((W.setCell ⟨k, 0, none⟩ a).setCell ⟨k, 1, none⟩ b).setCell ⟨k, 2, none⟩ c).heap[k]? = some (.cells #[a, b, c] t) := set_heap (set_heap (set_heap h))
theorem st3o {W : World} {k k' : Nat} {o : Obj} (h : W.heap[k']? = some o) (hne : k' ≠ k) (a b c : Value) : (((W.setCell ⟨k, 0, none⟩ a).setCell ⟨k, 1, none⟩ b).setCell ⟨k, 2, none⟩ c).heap[k']? = some o := by
  rw [Below.heap_setCell _ _ _ _ hne, Below.heap_setCell _ _ _ _ hne, Below.heap_setCell _ _ _ _ hne]; exact h
theorem Below.set3 {w W : World} {k : Nat} (hb : Below w.heap.size w W) (a b c : Value) (hk : w.heap.size ≤ k) : Below w.heap.size w (((W.setCell ⟨k, 0, none⟩ a).setCell ⟨k, 1, none⟩ b).setCell ⟨k, 2, none⟩ c) := ((hb.setCell hk _).setCell hk _).setCell hk _
set_option maxHeartbeats 2000000 in
set_option maxRecDepth 100000 in
theorem matches_core (a lo hi x y r t s : Int) (w : World) : Calls Try.prog 3 #[B3 a lo hi, I2 x y, .int .i64 r, .int .i64 t, .int .i64 s] w (LawPost w) := by
  have hb := two_box w (.cells #[.int .i64 a, .int .i64 lo, .int .i64 hi] 25) (.cells #[.int .i64 x, .int .i64 y] 23)
  have kb := Lib.hid (new0 w (.cells #[.int .i64 a, .int .i64 lo, .int .i64 hi] 25) (.cells #[.int .i64 x, .int .i64 y] 23))
  have ki := Lib.hid (new1 w (.cells #[.int .i64 a, .int .i64 lo, .int .i64 hi] 25) (.cells #[.int .i64 x, .int .i64 y] 23))
  have co := @cell_old
  go_enter Try.func3, Try.ntmps3
  go_wp2_with fail
  refine (head_any _).mono ?_
  rintro e wN ⟨rfl, hn⟩
  have hb := (by first | exact Below.go hb hn | exact Below.goA hb hn | exact Below.goAA hb hn | exact Below.goD hb hn | exact Below.goAD hb hn : Below w.heap.size w wN)
  have kb := Lib.hid (by first | exact keep' kb.out hn | exact keepA kb.out hn | exact keepAA kb.out hn | exact keepD kb.out hn | exact keepAD kb.out hn)
  have ki := Lib.hid (by first | exact keep' ki.out hn | exact keepA ki.out hn | exact keepAA ki.out hn | exact keepD ki.out hn | exact keepAD ki.out hn)
  clear hn
  obtain ⟨⟨kb0, kb1, kb2⟩, -⟩ := blk3 kb.out
  have kbz := lt_of_heap kb.out
  obtain ⟨⟨ki0, ki1⟩, -⟩ := blk2 ki.out
  have kiz := lt_of_heap ki.out
  go_wp2_with fail
  refine (bStart_any _ _).mono ?_
  rintro e wN ⟨rfl, hn⟩
  have hb := (by first | exact Below.go hb hn | exact Below.goA hb hn | exact Below.goAA hb hn | exact Below.goD hb hn | exact Below.goAD hb hn : Below w.heap.size w wN)
  have kb := Lib.hid (by first | exact keep' kb.out hn | exact keepA kb.out hn | exact keepAA kb.out hn | exact keepD kb.out hn | exact keepAD kb.out hn)
  have ki := Lib.hid (by first | exact keep' ki.out hn | exact keepA ki.out hn | exact keepAA ki.out hn | exact keepD ki.out hn | exact keepAD ki.out hn)
  clear hn
  obtain ⟨⟨kb0, kb1, kb2⟩, -⟩ := blk3 kb.out
  have kbz := lt_of_heap kb.out
  obtain ⟨⟨ki0, ki1⟩, -⟩ := blk2 ki.out
  have kiz := lt_of_heap ki.out
  go_wp2_with fail
  refine (rStart_any _ _).mono ?_
  rintro e wN ⟨rfl, hn⟩
  have hb := (by first | exact Below.go hb hn | exact Below.goA hb hn | exact Below.goAA hb hn | exact Below.goD hb hn | exact Below.goAD hb hn : Below w.heap.size w wN)
  have kc := Lib.hid (by first | exact keep' (heap_new _ _) hn | exact newAD hn)
  have kb := Lib.hid (by first | exact keep' kb.out hn | exact keepA kb.out hn | exact keepAA kb.out hn | exact keepD kb.out hn | exact keepAD kb.out hn)
  have ki := Lib.hid (by first | exact keep' ki.out hn | exact keepA ki.out hn | exact keepAA ki.out hn | exact keepD ki.out hn | exact keepAD ki.out hn)
  clear hn
  obtain ⟨⟨kc0, kc1, kc2⟩, kcf0, kcf1, kcf2⟩ := blk3 kc.out
  have kcz := lt_of_heap kc.out
  obtain ⟨⟨kb0, kb1, kb2⟩, -⟩ := blk3 kb.out
  have kbz := lt_of_heap kb.out
  obtain ⟨⟨ki0, ki1⟩, -⟩ := blk2 ki.out
  have kiz := lt_of_heap ki.out
  go_wp2_with fail
  refine (At_any _ _ _ _ _ _).mono ?_
  rintro e wN ⟨rfl, hn⟩
  have hb := (by first | exact Below.go hb hn | exact Below.goA hb hn | exact Below.goAA hb hn | exact Below.goD hb hn | exact Below.goAD hb hn : Below w.heap.size w wN)
  have kd := Lib.hid (by first | exact keep' (heap_new _ _) hn | exact newAD hn)
  have kc := Lib.hid (by first | exact keep' kc.out hn | exact keepA kc.out hn | exact keepAA kc.out hn | exact keepD kc.out hn | exact keepAD kc.out hn)
  have kb := Lib.hid (by first | exact keep' kb.out hn | exact keepA kb.out hn | exact keepAA kb.out hn | exact keepD kb.out hn | exact keepAD kb.out hn)
  have ki := Lib.hid (by first | exact keep' ki.out hn | exact keepA ki.out hn | exact keepAA ki.out hn | exact keepD ki.out hn | exact keepAD ki.out hn)
  clear hn
  obtain ⟨⟨kd0, kd1, kd2⟩, kdf0, kdf1, kdf2⟩ := blk3 kd.out
  have kdz := lt_of_heap kd.out
  obtain ⟨⟨kc0, kc1, kc2⟩, kcf0, kcf1, kcf2⟩ := blk3 kc.out
  have kcz := lt_of_heap kc.out
  obtain ⟨⟨kb0, kb1, kb2⟩, -⟩ := blk3 kb.out
  have kbz := lt_of_heap kb.out
  obtain ⟨⟨ki0, ki1⟩, -⟩ := blk2 ki.out
  have kiz := lt_of_heap ki.out
  go_wp2_with fail
  refine (rAt_any _ _ _ _ _ _).mono ?_
  rintro e wN ⟨rfl, hn⟩
  have hb := (by first | exact Below.go hb hn | exact Below.goA hb hn | exact Below.goAA hb hn | exact Below.goD hb hn | exact Below.goAD hb hn : Below w.heap.size w wN)
  have ke := Lib.hid (by first | exact keep' (heap_new _ _) hn | exact newAD hn)
  have kd := Lib.hid (by first | exact keep' kd.out hn | exact keepA kd.out hn | exact keepAA kd.out hn | exact keepD kd.out hn | exact keepAD kd.out hn)
  have kc := Lib.hid (by first | exact keep' kc.out hn | exact keepA kc.out hn | exact keepAA kc.out hn | exact keepD kc.out hn | exact keepAD kc.out hn)
  have kb := Lib.hid (by first | exact keep' kb.out hn | exact keepA kb.out hn | exact keepAA kb.out hn | exact keepD kb.out hn | exact keepAD kb.out hn)
  have ki := Lib.hid (by first | exact keep' ki.out hn | exact keepA ki.out hn | exact keepAA ki.out hn | exact keepD ki.out hn | exact keepAD ki.out hn)
  clear hn
  obtain ⟨⟨ke0, ke1⟩, -⟩ := blk2 ke.out
  have kez := lt_of_heap ke.out
  obtain ⟨⟨kd0, kd1, kd2⟩, kdf0, kdf1, kdf2⟩ := blk3 kd.out
  have kdz := lt_of_heap kd.out
  obtain ⟨⟨kc0, kc1, kc2⟩, kcf0, kcf1, kcf2⟩ := blk3 kc.out
  have kcz := lt_of_heap kc.out
  obtain ⟨⟨kb0, kb1, kb2⟩, -⟩ := blk3 kb.out
  have kbz := lt_of_heap kb.out
  obtain ⟨⟨ki0, ki1⟩, -⟩ := blk2 ki.out
  have kiz := lt_of_heap ki.out
  go_wp2_with fail
  refine (Advance_any _ _ _ _ _ _).mono ?_
  rintro e wN ⟨rfl, hn⟩
  have hb := (by first | exact Below.go hb hn | exact Below.goA hb hn | exact Below.goAA hb hn | exact Below.goD hb hn | exact Below.goAD hb hn : Below w.heap.size w wN)
  have kf := Lib.hid (by first | exact keep' (heap_new _ _) hn | exact newAD hn)
  have ke := Lib.hid (by first | exact keep' ke.out hn | exact keepA ke.out hn | exact keepAA ke.out hn | exact keepD ke.out hn | exact keepAD ke.out hn)
  have kd := Lib.hid (by first | exact keep' kd.out hn | exact keepA kd.out hn | exact keepAA kd.out hn | exact keepD kd.out hn | exact keepAD kd.out hn)
  have kc := Lib.hid (by first | exact keep' kc.out hn | exact keepA kc.out hn | exact keepAA kc.out hn | exact keepD kc.out hn | exact keepAD kc.out hn)
  have kb := Lib.hid (by first | exact keep' kb.out hn | exact keepA kb.out hn | exact keepAA kb.out hn | exact keepD kb.out hn | exact keepAD kb.out hn)
  have ki := Lib.hid (by first | exact keep' ki.out hn | exact keepA ki.out hn | exact keepAA ki.out hn | exact keepD ki.out hn | exact keepAD ki.out hn)
  clear hn
  obtain ⟨⟨kf0, kf1⟩, -⟩ := blk2 kf.out
  have kfz := lt_of_heap kf.out
  obtain ⟨⟨ke0, ke1⟩, -⟩ := blk2 ke.out
  have kez := lt_of_heap ke.out
  obtain ⟨⟨kd0, kd1, kd2⟩, kdf0, kdf1, kdf2⟩ := blk3 kd.out
  have kdz := lt_of_heap kd.out
  obtain ⟨⟨kc0, kc1, kc2⟩, kcf0, kcf1, kcf2⟩ := blk3 kc.out
  have kcz := lt_of_heap kc.out
  obtain ⟨⟨kb0, kb1, kb2⟩, -⟩ := blk3 kb.out
  have kbz := lt_of_heap kb.out
  obtain ⟨⟨ki0, ki1⟩, -⟩ := blk2 ki.out
  have kiz := lt_of_heap ki.out
  go_wp2_with fail
  refine (rAdvance_any _ _ _ _ _ _).mono ?_
  rintro e wN ⟨rfl, hn⟩
  have hb := (Below.go (Below.set3 hb _ _ _ (by omega)) hn : Below w.heap.size w wN)
  have kc := Lib.hid (keep' (st3 kc.out _ _ _) hn)
  have kf := Lib.hid (keep' (st3o kf.out (by omega) _ _ _) hn)
  have ke := Lib.hid (keep' (st3o ke.out (by omega) _ _ _) hn)
  have kd := Lib.hid (keep' (st3o kd.out (by omega) _ _ _) hn)
  have kb := Lib.hid (keep' (st3o kb.out (by omega) _ _ _) hn)
  have ki := Lib.hid (keep' (st3o ki.out (by omega) _ _ _) hn)
  clear hn
  obtain ⟨⟨kc0, kc1, kc2⟩, kcf0, kcf1, kcf2⟩ := blk3 kc.out
  have kcz := lt_of_heap kc.out
  obtain ⟨⟨kf0, kf1⟩, -⟩ := blk2 kf.out
  have kfz := lt_of_heap kf.out
  obtain ⟨⟨ke0, ke1⟩, -⟩ := blk2 ke.out
  have kez := lt_of_heap ke.out
  obtain ⟨⟨kd0, kd1, kd2⟩, kdf0, kdf1, kdf2⟩ := blk3 kd.out
  have kdz := lt_of_heap kd.out
  obtain ⟨⟨kb0, kb1, kb2⟩, -⟩ := blk3 kb.out
  have kbz := lt_of_heap kb.out
  obtain ⟨⟨ki0, ki1⟩, -⟩ := blk2 ki.out
  have kiz := lt_of_heap ki.out
  go_wp2_with fail
  refine (Meet_any _ _ _ _ _ _).mono ?_
  rintro e wN ⟨rfl, hn⟩
  have hb := (Below.go (Below.set3 hb _ _ _ (by omega)) hn : Below w.heap.size w wN)
  have kd := Lib.hid (keep' (st3 kd.out _ _ _) hn)
  have kc := Lib.hid (keep' (st3o kc.out (by omega) _ _ _) hn)
  have kb := Lib.hid (keep' (st3o kb.out (by omega) _ _ _) hn)
  have ki := Lib.hid (keep' (st3o ki.out (by omega) _ _ _) hn)
  clear hn
  obtain ⟨⟨kd0, kd1, kd2⟩, kdf0, kdf1, kdf2⟩ := blk3 kd.out
  have kdz := lt_of_heap kd.out
  obtain ⟨⟨kc0, kc1, kc2⟩, kcf0, kcf1, kcf2⟩ := blk3 kc.out
  have kcz := lt_of_heap kc.out
  obtain ⟨⟨kb0, kb1, kb2⟩, -⟩ := blk3 kb.out
  have kbz := lt_of_heap kb.out
  obtain ⟨⟨ki0, ki1⟩, -⟩ := blk2 ki.out
  have kiz := lt_of_heap ki.out
  go_wp2_with fail
  refine (rMeet_any _ _ _ _ _ _).mono ?_
  rintro e wN ⟨rfl, hn⟩
  have hb := (Below.go (Below.set3 hb _ _ _ (by omega)) hn : Below w.heap.size w wN)
  have kc := Lib.hid (keep' (st3 kc.out _ _ _) hn)
  have kd := Lib.hid (keep' (st3o kd.out (by omega) _ _ _) hn)
  have kb := Lib.hid (keep' (st3o kb.out (by omega) _ _ _) hn)
  have ki := Lib.hid (keep' (st3o ki.out (by omega) _ _ _) hn)
  clear hn
  obtain ⟨⟨kc0, kc1, kc2⟩, kcf0, kcf1, kcf2⟩ := blk3 kc.out
  have kcz := lt_of_heap kc.out
  obtain ⟨⟨kd0, kd1, kd2⟩, kdf0, kdf1, kdf2⟩ := blk3 kd.out
  have kdz := lt_of_heap kd.out
  obtain ⟨⟨kb0, kb1, kb2⟩, -⟩ := blk3 kb.out
  have kbz := lt_of_heap kb.out
  obtain ⟨⟨ki0, ki1⟩, -⟩ := blk2 ki.out
  have kiz := lt_of_heap ki.out
  go_wp2_with fail
  refine (Worst_any _ _ _ _).mono ?_
  rintro e wN ⟨rfl, hn⟩
  have hb := (Below.go (Below.set3 hb _ _ _ (by omega)) hn : Below w.heap.size w wN)
  have kd := Lib.hid (keep' (st3 kd.out _ _ _) hn)
  have kc := Lib.hid (keep' (st3o kc.out (by omega) _ _ _) hn)
  have kb := Lib.hid (keep' (st3o kb.out (by omega) _ _ _) hn)
  have ki := Lib.hid (keep' (st3o ki.out (by omega) _ _ _) hn)
  clear hn
  obtain ⟨⟨kd0, kd1, kd2⟩, kdf0, kdf1, kdf2⟩ := blk3 kd.out
  have kdz := lt_of_heap kd.out
  obtain ⟨⟨kc0, kc1, kc2⟩, kcf0, kcf1, kcf2⟩ := blk3 kc.out
  have kcz := lt_of_heap kc.out
  obtain ⟨⟨kb0, kb1, kb2⟩, -⟩ := blk3 kb.out
  have kbz := lt_of_heap kb.out
  obtain ⟨⟨ki0, ki1⟩, -⟩ := blk2 ki.out
  have kiz := lt_of_heap ki.out
  go_wp2_with fail
  refine (rWorst_any _ _ _ _).mono ?_
  rintro e wN ⟨rfl, hn⟩
  have hb := (by first | exact Below.go hb hn | exact Below.goA hb hn | exact Below.goAA hb hn | exact Below.goD hb hn | exact Below.goAD hb hn : Below w.heap.size w wN)
  have kd := Lib.hid (by first | exact keep' kd.out hn | exact keepA kd.out hn | exact keepAA kd.out hn | exact keepD kd.out hn | exact keepAD kd.out hn)
  have kc := Lib.hid (by first | exact keep' kc.out hn | exact keepA kc.out hn | exact keepAA kc.out hn | exact keepD kc.out hn | exact keepAD kc.out hn)
  have kb := Lib.hid (by first | exact keep' kb.out hn | exact keepA kb.out hn | exact keepAA kb.out hn | exact keepD kb.out hn | exact keepAD kb.out hn)
  have ki := Lib.hid (by first | exact keep' ki.out hn | exact keepA ki.out hn | exact keepAA ki.out hn | exact keepD ki.out hn | exact keepAD ki.out hn)
  clear hn
  obtain ⟨⟨kd0, kd1, kd2⟩, kdf0, kdf1, kdf2⟩ := blk3 kd.out
  have kdz := lt_of_heap kd.out
  obtain ⟨⟨kc0, kc1, kc2⟩, kcf0, kcf1, kcf2⟩ := blk3 kc.out
  have kcz := lt_of_heap kc.out
  obtain ⟨⟨kb0, kb1, kb2⟩, -⟩ := blk3 kb.out
  have kbz := lt_of_heap kb.out
  obtain ⟨⟨ki0, ki1⟩, -⟩ := blk2 ki.out
  have kiz := lt_of_heap ki.out
  go_wp2
  go_ret
  exact ⟨rfl, hb⟩
theorem matches_law (v : Value) (b : Int × Int × Int) (u : Value) (i : Int × Int) (r t s : Int) (w : World) (hv : IsB3 v b) (hu : IsI2 u i) (h1 : (Lit.int .i64 r).wf = true) (h2 : (Lit.int .i64 t).wf = true) (h3 : (Lit.int .i64 s).wf = true) : Calls Try.prog 3 #[v, u, .int .i64 r, .int .i64 t, .int .i64 s] w (LawPost w) := by
  obtain ⟨a, lo, hi⟩ := b
  obtain ⟨x, y⟩ := i
  obtain ⟨rfl, -, -, -⟩ := hv
  obtain ⟨rfl, -, -⟩ := hu
  exact matches_core a lo hi x y r t s w
end Go.Proofs.Ytiagdbahokgonaa
