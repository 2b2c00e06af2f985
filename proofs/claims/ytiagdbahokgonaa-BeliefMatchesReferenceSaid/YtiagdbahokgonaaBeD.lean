/- The contracts of the references that chapter 8's laws use, of inside, and of the head of the laws. -/
import Derived.Test.YtiagdbahokgonaaBeC
set_option linter.unusedVariables false
namespace Go.Proofs.Ytiagdbahokgonaa
open Go.RowKit
theorem rIV_any (x y : Int) (w : World) : Calls Try.prog 23 #[I2 x y] w (RetB (.bool (Blm.iV x y)) w) := by
  go_enter Try.func23, Try.ntmps23
  go_wp2
  all_goals go_ret
  all_goals exact ⟨ret_bool (by unfold Blm.iV; rw [Bool.eq_iff_iff]; simp; try omega), (Below.refl _ _).alloc (Nat.le_refl _) _⟩
def hasB (x y t : Int) : Bool := decide (x ≤ t ∧ t ≤ y)
theorem Has_any (x y t : Int) (w : World) : Calls Try.prog 24 #[I2 x y, .int .i64 t] w (RetB (.bool (hasB x y t)) w) := by
  go_enter Try.func24, Try.ntmps24
  go_wp2
  all_goals go_ret
  all_goals exact ⟨ret_bool (by unfold hasB; rw [Bool.eq_iff_iff]; simp; try omega), (Below.refl _ _).alloc (Nat.le_refl _) _⟩
theorem rTime8_any (v : Int) (w : World) : Calls Try.prog 28 #[.int .i64 v] w (Ret (.bool (Blm.tT v)) w) := by
  go_enter Try.func28, Try.ntmps28
  go_wp2
  all_goals go_ret
  all_goals exact ⟨ret_bool (by unfold Blm.tT; rw [Bool.eq_iff_iff]; simp; try omega), rfl⟩
set_option maxHeartbeats 1000000 in
theorem rValid_any (a x y : Int) (w : World) : Calls Try.prog 22 #[B3 a x y] w (RetB (.bool (Blm.vB a x y)) w) := by
  have hv : Hid (Blm.vB a x y = (Blm.tT a && Blm.iV x y)) := Lib.hid rfl
  have hb0 : Below w.heap.size w (w.alloc (.cells #[.int .i64 a, .int .i64 x, .int .i64 y] 25)) := (Below.refl _ _).alloc (Nat.le_refl _) _
  cases h1 : Blm.tT a
  · rw [h1] at hv
    go_enter Try.func22, Try.ntmps22
    go_wp2_with (first | (go_at_call 28; refine (rTime8_any _ _).mono ?_; rintro e w' ⟨rfl, rfl⟩) | (go_at_call 23; refine (rIV_any _ _ _).mono ?_; rintro e w1 ⟨rfl, hb1⟩))
    go_ret
    exact ⟨ret_bool (by rw [hv.out]; rfl), Below.go hb0 hb1⟩
  · rw [h1] at hv
    go_enter Try.func22, Try.ntmps22
    go_wp2_with (first | (go_at_call 28; refine (rTime8_any _ _).mono ?_; rintro e w' ⟨rfl, rfl⟩) | (go_at_call 23; refine (rIV_any _ _ _).mono ?_; rintro e w1 ⟨rfl, hb1⟩))
    go_ret
    exact ⟨ret_bool (by rw [hv.out]; rfl), Below.go hb0 hb1⟩
set_option maxHeartbeats 1000000 in
theorem inside_any (x y n : Int) (w : World) (hv : Blm.iV x y = true) (n1 : 0 ≤ n) (n2 : n < 18446744073709551616) : Calls Try.prog 25 #[I2 x y, .int .u64 n] w (RetB (.int .i64 (x + n % (y - x + 1))) w) := by
  obtain ⟨x1, x2, x3⟩ := Blm.iV_bd hv
  have m0 := Int.emod_nonneg n (show y - x + 1 ≠ 0 by omega)
  have m1 := Int.emod_lt_of_pos n (show 0 < y - x + 1 by omega)
  have ht : n.tmod (y - x + 1) = n % (y - x + 1) := Int.tmod_eq_emod_of_nonneg n1
  obtain ⟨D, hD⟩ : ∃ d, y - x + 1 = d := ⟨_, rfl⟩
  rw [hD] at m0 m1 ht ⊢
  obtain ⟨M, hM⟩ : ∃ d, n % D = d := ⟨_, rfl⟩
  rw [hM] at m0 m1 ht ⊢
  have hz : (D == 0) = false := by simp; omega
  have hz2 : ¬ D = 0 := by omega
  have w1 : IntKind.i64.wrap (y - x) = y - x := IntWalk.i64_in _ (by omega)
  have w2 : IntKind.i64.wrap (y - x + 1) = D := by rw [hD]; exact IntWalk.i64_in _ (by omega)
  have w3 : IntKind.u64.wrap D = D := by rw [wrap_u64]; omega
  have w4 : IntKind.u64.wrap M = M := by rw [wrap_u64]; omega
  have w5 : IntKind.i64.wrap M = M := IntWalk.i64_in _ (by omega)
  have w6 : IntKind.i64.wrap (x + M) = x + M := IntWalk.i64_in _ (by omega)
  clear hM
  go_enter Try.func25, Try.ntmps25
  go_wp2
  go_quiet (fail)
  go_wp2
  go_ret
  exact ⟨rfl, below_drewN ((Below.refl _ _).alloc (Nat.le_refl _) _) _⟩
set_option maxHeartbeats 2000000 in
set_option maxRecDepth 100000 in
theorem head_any (w : World) : Calls Try.prog 11 #[] w (RetB (.bool true) w) := by
  have a1 : Blm.atLo 5 100 200 50000 1000005 = 1000050 := by decide
  have a2 : Blm.atHi 5 100 200 50000 1000005 = 1000251 := by decide
  have a3 : Blm.atE 5 100 200 50000 1000005 = 0 := by decide
  have a4 : Blm.adA 5 100 200 50000 1000005 = 1000005 := by decide
  have b1 : Blm.meA 5 100 200 150 300 = 5 := by decide
  have b2 : Blm.meLo 5 100 200 150 300 = 150 := by decide
  have b3 : Blm.meHi 5 100 200 150 300 = 200 := by decide
  have b4 : Blm.meS 5 100 200 150 300 = true := by decide
  have b5 : Blm.meE 5 100 200 150 300 = 0 := by decide
  have c1 : Blm.meA 5 100 200 201 300 = 5 := by decide
  have c2 : Blm.meLo 5 100 200 201 300 = 100 := by decide
  have c3 : Blm.meHi 5 100 200 201 300 = 200 := by decide
  have c4 : Blm.meS 5 100 200 201 300 = false := by decide
  have c5 : Blm.meE 5 100 200 201 300 = 0 := by decide
  have d1 : Blm.woV 100 200 140 = 60 := by decide
  have d2 : Blm.woE 100 200 140 = 0 := by decide
  have e1 : Blm.tT 7 = true := by decide
  have e2 : oB true 7 = 7 := by decide
  have e3 : oB true 3000000000000000 = 3000000000000000 := by decide
  have e4 : oE true = 0 := by decide
  have f1 : Blm.atE 5 100 200 50000 4 = 30 := by decide
  have co := @cell_old
  have hb := Below.refl w.heap.size w
  go_enter Try.func11, Try.ntmps11
  go_wp2_with fail
  refine (At_any _ _ _ _ _ _).mono ?_
  rintro e wN ⟨rfl, hn⟩
  have hb := (by first | exact Below.go hb hn | exact Below.goA hb hn | exact Below.goAA hb hn : Below w.heap.size w wN)
  have kb := Lib.hid (keep' (heap_new _ _) hn)
  clear hn
  obtain ⟨⟨kb0, kb1, kb2⟩, -⟩ := blk3 kb.out
  have kbz := lt_of_heap kb.out
  go_wp2_with fail
  refine (Advance_any _ _ _ _ _ _).mono ?_
  rintro e wN ⟨rfl, hn⟩
  have hb := (by first | exact Below.go hb hn | exact Below.goA hb hn | exact Below.goAA hb hn : Below w.heap.size w wN)
  have ki := Lib.hid (keep' (heap_new _ _) hn)
  have kb := Lib.hid (by first | exact keep' kb.out hn | exact keepA kb.out hn | exact keepAA kb.out hn)
  clear hn
  obtain ⟨⟨ki0, ki1⟩, -⟩ := blk2 ki.out
  have kiz := lt_of_heap ki.out
  obtain ⟨⟨kb0, kb1, kb2⟩, -⟩ := blk3 kb.out
  have kbz := lt_of_heap kb.out
  go_wp2_with fail
  refine (Meet_any _ _ _ _ _ _).mono ?_
  rintro e wN ⟨rfl, hn⟩
  have hb := (by first | exact Below.go hb hn | exact Below.goA hb hn | exact Below.goAA hb hn : Below w.heap.size w wN)
  have kc := Lib.hid (keep' (heap_new _ _) hn)
  have ki := Lib.hid (by first | exact keep' ki.out hn | exact keepA ki.out hn | exact keepAA ki.out hn)
  have kb := Lib.hid (by first | exact keep' kb.out hn | exact keepA kb.out hn | exact keepAA kb.out hn)
  clear hn
  obtain ⟨⟨kc0, kc1, kc2⟩, -⟩ := blk3 kc.out
  have kcz := lt_of_heap kc.out
  obtain ⟨⟨ki0, ki1⟩, -⟩ := blk2 ki.out
  have kiz := lt_of_heap ki.out
  obtain ⟨⟨kb0, kb1, kb2⟩, -⟩ := blk3 kb.out
  have kbz := lt_of_heap kb.out
  go_wp2_with fail
  refine (Meet_any _ _ _ _ _ _).mono ?_
  rintro e wN ⟨rfl, hn⟩
  have hb := (by first | exact Below.go hb hn | exact Below.goA hb hn | exact Below.goAA hb hn : Below w.heap.size w wN)
  have km := Lib.hid (keep' (heap_new _ _) hn)
  have kc := Lib.hid (by first | exact keep' kc.out hn | exact keepA kc.out hn | exact keepAA kc.out hn)
  have ki := Lib.hid (by first | exact keep' ki.out hn | exact keepA ki.out hn | exact keepAA ki.out hn)
  have kb := Lib.hid (by first | exact keep' kb.out hn | exact keepA kb.out hn | exact keepAA kb.out hn)
  clear hn
  obtain ⟨⟨km0, km1, km2⟩, -⟩ := blk3 km.out
  have kmz := lt_of_heap km.out
  obtain ⟨⟨kc0, kc1, kc2⟩, -⟩ := blk3 kc.out
  have kcz := lt_of_heap kc.out
  obtain ⟨⟨ki0, ki1⟩, -⟩ := blk2 ki.out
  have kiz := lt_of_heap ki.out
  obtain ⟨⟨kb0, kb1, kb2⟩, -⟩ := blk3 kb.out
  have kbz := lt_of_heap kb.out
  go_wp2_with fail
  refine (Worst_any _ _ _ _).mono ?_
  rintro e wN ⟨rfl, hn⟩
  have hb := (by first | exact Below.go hb hn | exact Below.goA hb hn | exact Below.goAA hb hn : Below w.heap.size w wN)
  have kn := Lib.hid (keep' (heap_new _ _) hn)
  have km := Lib.hid (by first | exact keep' km.out hn | exact keepA km.out hn | exact keepAA km.out hn)
  have kc := Lib.hid (by first | exact keep' kc.out hn | exact keepA kc.out hn | exact keepAA kc.out hn)
  have ki := Lib.hid (by first | exact keep' ki.out hn | exact keepA ki.out hn | exact keepAA ki.out hn)
  have kb := Lib.hid (by first | exact keep' kb.out hn | exact keepA kb.out hn | exact keepAA kb.out hn)
  clear hn
  obtain ⟨⟨kn0, kn1, kn2⟩, -⟩ := blk3 kn.out
  have knz := lt_of_heap kn.out
  obtain ⟨⟨km0, km1, km2⟩, -⟩ := blk3 km.out
  have kmz := lt_of_heap km.out
  obtain ⟨⟨kc0, kc1, kc2⟩, -⟩ := blk3 kc.out
  have kcz := lt_of_heap kc.out
  obtain ⟨⟨ki0, ki1⟩, -⟩ := blk2 ki.out
  have kiz := lt_of_heap ki.out
  obtain ⟨⟨kb0, kb1, kb2⟩, -⟩ := blk3 kb.out
  have kbz := lt_of_heap kb.out
  go_wp2_with fail
  refine (bStart_any _ _).mono ?_
  rintro e wN ⟨rfl, hn⟩
  have hb := (by first | exact Below.go hb hn | exact Below.goA hb hn | exact Below.goAA hb hn : Below w.heap.size w wN)
  have kn := Lib.hid (by first | exact keep' kn.out hn | exact keepA kn.out hn | exact keepAA kn.out hn)
  have km := Lib.hid (by first | exact keep' km.out hn | exact keepA km.out hn | exact keepAA km.out hn)
  have kc := Lib.hid (by first | exact keep' kc.out hn | exact keepA kc.out hn | exact keepAA kc.out hn)
  have ki := Lib.hid (by first | exact keep' ki.out hn | exact keepA ki.out hn | exact keepAA ki.out hn)
  have kb := Lib.hid (by first | exact keep' kb.out hn | exact keepA kb.out hn | exact keepAA kb.out hn)
  clear hn
  obtain ⟨⟨kn0, kn1, kn2⟩, -⟩ := blk3 kn.out
  have knz := lt_of_heap kn.out
  obtain ⟨⟨km0, km1, km2⟩, -⟩ := blk3 km.out
  have kmz := lt_of_heap km.out
  obtain ⟨⟨kc0, kc1, kc2⟩, -⟩ := blk3 kc.out
  have kcz := lt_of_heap kc.out
  obtain ⟨⟨ki0, ki1⟩, -⟩ := blk2 ki.out
  have kiz := lt_of_heap ki.out
  obtain ⟨⟨kb0, kb1, kb2⟩, -⟩ := blk3 kb.out
  have kbz := lt_of_heap kb.out
  go_wp2_with fail
  refine (At_any _ _ _ _ _ _).mono ?_
  rintro e wN ⟨rfl, hn⟩
  have hb := (by first | exact Below.go hb hn | exact Below.goA hb hn | exact Below.goAA hb hn : Below w.heap.size w wN)
  have ks := Lib.hid (keep' (heap_new _ _) hn)
  have kn := Lib.hid (by first | exact keep' kn.out hn | exact keepA kn.out hn | exact keepAA kn.out hn)
  have km := Lib.hid (by first | exact keep' km.out hn | exact keepA km.out hn | exact keepAA km.out hn)
  have kc := Lib.hid (by first | exact keep' kc.out hn | exact keepA kc.out hn | exact keepAA kc.out hn)
  have ki := Lib.hid (by first | exact keep' ki.out hn | exact keepA ki.out hn | exact keepAA ki.out hn)
  have kb := Lib.hid (by first | exact keep' kb.out hn | exact keepA kb.out hn | exact keepAA kb.out hn)
  clear hn
  obtain ⟨⟨ks0, ks1, ks2⟩, -⟩ := blk3 ks.out
  have ksz := lt_of_heap ks.out
  obtain ⟨⟨kn0, kn1, kn2⟩, -⟩ := blk3 kn.out
  have knz := lt_of_heap kn.out
  obtain ⟨⟨km0, km1, km2⟩, -⟩ := blk3 km.out
  have kmz := lt_of_heap km.out
  obtain ⟨⟨kc0, kc1, kc2⟩, -⟩ := blk3 kc.out
  have kcz := lt_of_heap kc.out
  obtain ⟨⟨ki0, ki1⟩, -⟩ := blk2 ki.out
  have kiz := lt_of_heap ki.out
  obtain ⟨⟨kb0, kb1, kb2⟩, -⟩ := blk3 kb.out
  have kbz := lt_of_heap kb.out
  go_wp2
  go_ret
  exact ⟨rfl, hb.alloc hb.size _⟩
end Go.Proofs.Ytiagdbahokgonaa
