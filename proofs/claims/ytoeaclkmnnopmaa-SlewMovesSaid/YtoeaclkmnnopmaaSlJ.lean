/- The walk of the law SlewMoves: it returns true for all clocks and integers; nothing that was there has changed. -/
import Derived.Test.YtoeaclkmnnopmaaSlI
set_option linter.unusedVariables false
namespace Go.Proofs.Ytoeaclkmnnopmaa
open Go.RowKit
def farB (n : Int) : Bool := decide (n < 2000000000000 ∨ 2998000000000000 < n)
theorem far_no {n : Int} (h : farB n = false) : 2000000000000 ≤ n ∧ n ≤ 2998000000000000 := by have := of_decide_eq_false h; omega
theorem far_any (n : Int) (w : World) : Calls Try.prog 15 #[.int .i64 n] w (Ret (.bool (farB n)) w) := by
  go_enter Try.func15, Try.ntmps15
  go_wp2
  all_goals go_ret
  all_goals exact ⟨ret_bool (by unfold farB; rw [Bool.eq_iff_iff]; simp; try omega), rfl⟩
theorem blk3A {W : World} {k : Nat} {x y z : Value} {t : TypeId} (h : W.heap[k]? = some (.cells #[x, y, z] t)) :
    (∀ o, (W.alloc o).cell? ⟨k, 0, none⟩ = some x) ∧ (∀ o, (W.alloc o).cell? ⟨k, 1, none⟩ = some y) ∧ (∀ o, (W.alloc o).cell? ⟨k, 2, none⟩ = some z) := by
  have hk : k < W.heap.size := by
    rcases Nat.lt_or_ge k W.heap.size with h1 | h1
    · exact h1
    · rw [Array.getElem?_eq_none h1] at h; cases h
  have := fun o => (blk3 ((Below.heap_alloc W o k hk).trans h)).1
  exact ⟨fun o => (this o).1, fun o => (this o).2.1, fun o => (this o).2.2⟩
set_option maxHeartbeats 2000000 in
set_option maxRecDepth 100000 in
theorem moves_far (a s r t want l h y n : Int) (w : World) (hf : farB a = true ∨ (farB a = false ∧ farB s = true) ∨ (farB a = false ∧ farB s = false ∧ farB t = true) ∨ (farB a = false ∧ farB s = false ∧ farB t = false ∧ farB want = true)) :
    Calls Try.prog 7 #[O3 a s r, .int .i64 t, .int .i64 want, .int .i64 l, .int .i64 h, .int .i32 y, .int .i32 n] w (LawPost w) := by
  have hb := Below.refl (boxO w a s r).heap.size (boxO w a s r)
  rcases hf with h1 | ⟨h1, h2⟩ | ⟨h1, h2, h3⟩ | ⟨h1, h2, h3, h4⟩
  all_goals
    go_enter Try.func7, Try.ntmps7
    go_wp2_with (first | (go_at_call 9; refine (head_c (by assumption)).mono ?_; rintro e w1 ⟨rfl, hb⟩; obtain ⟨c0, c1, c2⟩ := box3 hb) | (go_at_call 15; refine (far_any _ _).mono ?_; rintro e w' ⟨rfl, rfl⟩))
    go_ret
    exact ⟨rfl, fin_box hb⟩
set_option maxHeartbeats 2000000 in
set_option maxRecDepth 100000 in
theorem moves_mid (a s r t want l h y n N E1 E2 : Int) (w : World) (f1 : farB a = false) (f2 : farB s = false) (f3 : farB t = false) (f4 : farB want = false) (y1 : -2147483648 ≤ y) (y2 : y ≤ 2147483647) (n1 : -2147483648 ≤ n) (n2 : n ≤ 2147483647)
    (e1 : Slm.stE a s r t want l h = E1) (e2 : Slm.stE (a + y) (s + n) r (t + y) (want + n) l h = E2) (hN : Slm.stS a s r t want l h = N)
    (hc : (E1 != 0) = true ∨ (E1 != 0) = false ∧ (E2 != 0) = true ∨ (E1 != 0) = false ∧ (E2 != 0) = false ∧ farB N = true)
    (hd : (E1 == E2) = true ∨ (E1 == E2) = false ∧ (E1 == 3) = true ∨ (E1 == E2) = false ∧ (E1 == 3) = false ∧ (E2 == 3) = true ∨ (E1 == E2) = false ∧ (E1 == 3) = false ∧ (E2 == 3) = false ∧ farB N = true) :
    Calls Try.prog 7 #[O3 a s r, .int .i64 t, .int .i64 want, .int .i64 l, .int .i64 h, .int .i32 y, .int .i32 n] w (LawPost w) := by
  have hb := Below.refl (boxO w a s r).heap.size (boxO w a s r)
  obtain ⟨a1, a2⟩ := far_no f1
  obtain ⟨s1, s2⟩ := far_no f2
  obtain ⟨t1, t2⟩ := far_no f3
  obtain ⟨w1, w2⟩ := far_no f4
  go_enter Try.func7, Try.ntmps7
  go_wp2_with (first | (go_at_call 9; refine (head_c (by assumption)).mono ?_; rintro e w1 ⟨rfl, hb⟩; obtain ⟨c0, c1, c2⟩ := box3 hb; obtain ⟨d0, d1, d2⟩ := box3A hb) | (go_at_call 15; refine (far_any _ _).mono ?_; rintro e w' ⟨rfl, rfl⟩))
  refine (Steer_any _ _ _ _ _ _ _ _).mono ?_
  rintro e w2 ⟨rfl, hn⟩
  have pb2 := Lib.hid (keep' (heap_new _ _) hn)
  have hb2 := Below.goA hb hn
  clear hn
  obtain ⟨p0, p1, p2⟩ := blk3A pb2.out
  go_wp2_with fail
  refine (Steer_any _ _ _ _ _ _ _ _).mono ?_
  rintro e w3 ⟨rfl, hn⟩
  have ab3 := Lib.hid (keep' (heap_new _ _) hn)
  have hb3 := Below.goA hb2 hn
  clear hn
  obtain ⟨q0, q1, q2⟩ := blk3A ab3.out
  rcases hc with g1 | ⟨g1, g2⟩ | ⟨g1, g2, g3⟩
  all_goals rcases hd with i1 | ⟨i1, i2⟩ | ⟨i1, i2, i3⟩ | ⟨i1, i2, i3, i4⟩
  all_goals
    go_wp2_with (go_at_call 15; refine (far_any _ _).mono ?_; rintro e w' ⟨rfl, rfl⟩)
    all_goals go_ret
    all_goals exact ⟨rfl, fin_box (hb3.alloc hb3.size _)⟩
set_option maxHeartbeats 2000000 in
set_option maxRecDepth 100000 in
theorem moves_main (a s r t want l h y n N R LF : Int) (w : World) (f1 : farB a = false) (f2 : farB s = false) (f3 : farB t = false) (f4 : farB want = false) (y1 : -2147483648 ≤ y) (y2 : y ≤ 2147483647) (n1 : -2147483648 ≤ n) (n2 : n ≤ 2147483647)
    (e1 : Slm.stE a s r t want l h = 0) (e2 : Slm.stE (a + y) (s + n) r (t + y) (want + n) l h = 0) (hA : Slm.stA a s r t want l h = t) (hN : Slm.stS a s r t want l h = N) (hR : Slm.stR a s r t want l h = R)
    (hA2 : Slm.stA (a + y) (s + n) r (t + y) (want + n) l h = t + y) (hN2 : Slm.stS (a + y) (s + n) r (t + y) (want + n) l h = N + n) (hR2 : Slm.stR (a + y) (s + n) r (t + y) (want + n) l h = R)
    (f5 : farB N = false) (g1 : Slm.lfE a s r t want l h = 0) (g2 : Slm.lfE (a + y) (s + n) r (t + y) (want + n) l h = 0) (g3 : Slm.lfV a s r t want l h = LF) (g4 : Slm.lfV (a + y) (s + n) r (t + y) (want + n) l h = LF) :
    Calls Try.prog 7 #[O3 a s r, .int .i64 t, .int .i64 want, .int .i64 l, .int .i64 h, .int .i32 y, .int .i32 n] w (LawPost w) := by
  have hb := Below.refl (boxO w a s r).heap.size (boxO w a s r)
  obtain ⟨a1, a2⟩ := far_no f1
  obtain ⟨s1, s2⟩ := far_no f2
  obtain ⟨t1, t2⟩ := far_no f3
  obtain ⟨w1, w2⟩ := far_no f4
  obtain ⟨z1, z2⟩ := far_no f5
  go_enter Try.func7, Try.ntmps7
  go_wp2_with (first | (go_at_call 9; refine (head_c (by assumption)).mono ?_; rintro e w1 ⟨rfl, hb⟩; obtain ⟨c0, c1, c2⟩ := box3 hb; obtain ⟨d0, d1, d2⟩ := box3A hb) | (go_at_call 15; refine (far_any _ _).mono ?_; rintro e w' ⟨rfl, rfl⟩))
  refine (Steer_any _ _ _ _ _ _ _ _).mono ?_
  rintro e w2 ⟨rfl, hn⟩
  have pb2 := Lib.hid (keep' (heap_new _ _) hn)
  have hb2 := Below.goA hb hn
  clear hn
  obtain ⟨p0, p1, p2⟩ := blk3A pb2.out
  go_wp2_with fail
  refine (Steer_any _ _ _ _ _ _ _ _).mono ?_
  rintro e w3 ⟨rfl, hn⟩
  have ab3 := Lib.hid (keep' (heap_new _ _) hn)
  have pb3 := Lib.hid (keepA pb2.out hn)
  have hb3 := Below.goA hb2 hn
  clear hn
  obtain ⟨q0, q1, q2⟩ := blk3A ab3.out
  obtain ⟨k0, k1, k2⟩ := box3A hb3
  go_wp2_with (go_at_call 15; refine (far_any _ _).mono ?_; rintro e w' ⟨rfl, rfl⟩)
  refine (Left_any _ _ _ _ _ _ _ _).mono ?_
  rintro e w4 ⟨rfl, hn⟩
  have bb4 := Lib.hid (keep' (heap_new _ _) hn)
  have ab4 := Lib.hid (keepA ab3.out hn)
  have pb4 := Lib.hid (keepA pb3.out hn)
  have hb4 := Below.goA hb3 hn
  clear hn
  obtain ⟨⟨m0, m1, m2⟩, _⟩ := blk3 pb4.out
  go_wp2_with fail
  refine (Left_any _ _ _ _ _ _ _ _).mono ?_
  rintro e w5 ⟨rfl, hn⟩
  have bb5 := Lib.hid (keep' bb4.out hn)
  have ab5 := Lib.hid (keep' ab4.out hn)
  have hb5 := Below.go hb4 hn
  clear hn
  obtain ⟨⟨u0, u1, u2⟩, _⟩ := blk3 bb5.out
  obtain ⟨⟨v0, v1, v2⟩, _⟩ := blk3 ab5.out
  go_wp2
  go_ret
  exact ⟨rfl, fin_box hb5⟩
theorem lf_near {a s r t want l h : Int} (e : Slm.stE a s r t want l h = 0) (h1 : t ≤ 2998100000000000) (h2 : want ≤ 2998100000000000) (h3 : Slm.shn a s r t ≤ 2998100000000000) :
    Slm.lfE a s r t want l h = 0 ∧ Slm.lfV a s r t want l h = want - Slm.shn a s r t - Slm.part h (Slm.spd (want - Slm.shn a s r t) l h) := by
  obtain ⟨hB, hs0, q3, q4, q5⟩ := Slm.st_ok e
  obtain ⟨v1, ⟨t1, t2⟩, ⟨w1, w2⟩, ⟨l1, l2⟩, h5, h6⟩ := Slm.stB_bd hB
  obtain ⟨_, _, p1, p2, p3⟩ := Slm.sh_ok hs0
  have p4 := Slm.shn_bd v1 p1
  have p5 := (Slm.vO_bd v1).2.1.1
  have hR := Slm.spd_bd (d := want - Slm.shn a s r t) (l := l) (h := h) h5 l1
  have hP := Slm.part_bd (n := h) (r := Slm.spd (want - Slm.shn a s r t) l h) (by omega) (by omega) (by omega)
  have hn : Slm.shn t (Slm.shn a s r t) (Slm.spd (want - Slm.shn a s r t) l h) (t + h) = Slm.shn a s r t + h + Slm.part h (Slm.spd (want - Slm.shn a s r t) l h) := by
    show Slm.shn a s r t + (t + h - t) + Slm.part (t + h - t) _ = _
    rw [show t + h - t = h by omega]
  have f : Slm.lfE a s r t want l h = 0 := by
    have g := (Slm.sh_yes (a := t) (s := Slm.shn a s r t) (r := Slm.spd (want - Slm.shn a s r t) l h) (t := t + h) (Slm.vO_yes ⟨t1, t2⟩ ⟨by omega, p2⟩ ⟨by omega, by omega⟩) (Slm.tT_yes ⟨by omega, by omega⟩) (by omega) (by rw [hn]; omega)).1
    unfold Slm.lfE
    rw [if_pos e, if_neg (by omega)]
    exact g
  exact ⟨f, (Slm.lf_ok f).2.2.2⟩
theorem moved {a s r t y n : Int} : Slm.shn (a + y) (s + n) r (t + y) = Slm.shn a s r t + n := by
  show s + n + (t + y - (a + y)) + Slm.part (t + y - (a + y)) r = s + (t - a) + Slm.part (t - a) r + n
  rw [show t + y - (a + y) = t - a by omega]; omega
theorem stB_yes {a s r t want l h : Int} (h1 : Slm.vO a s r = true) (h2 : 0 ≤ t ∧ t ≤ 3000000000000000) (h3 : 0 ≤ want ∧ want ≤ 3000000000000000) (h4 : 0 ≤ l) (h5 : l ≤ 100000000) (h6 : 1 ≤ h) (h7 : h ≤ 1000000000000) : Slm.stB a s r t want l h = true := by
  unfold Slm.stB; rw [h1, Slm.tT_yes h2, Slm.tT_yes h3, decide_eq_true h4, decide_eq_true h5, decide_eq_true h6, decide_eq_true h7]; rfl
theorem moves_law (v : Value) (x : Int × Int × Int) (t want l h y n : Int) (w : World) (hv : IsO3 v x) (h1 : (Lit.int .i64 t).wf = true) (h2 : (Lit.int .i64 want).wf = true) (h3 : (Lit.int .i64 l).wf = true) (h4 : (Lit.int .i64 h).wf = true) (h5 : (Lit.int .i32 y).wf = true) (h6 : (Lit.int .i32 n).wf = true) :
    Calls Try.prog 7 #[v, .int .i64 t, .int .i64 want, .int .i64 l, .int .i64 h, .int .i32 y, .int .i32 n] w (LawPost w) := by
  obtain ⟨a, s, r⟩ := x
  obtain rfl : v = O3 a s r := hv
  have y12 := bounds_i32 h5
  have n12 := bounds_i32 h6
  clear h1 h2 h3 h4 h5 h6
  cases f1 : farB a
  rotate_left
  · exact moves_far a s r t want l h y n w (.inl f1)
  cases f2 : farB s
  rotate_left
  · exact moves_far a s r t want l h y n w (.inr (.inl ⟨f1, f2⟩))
  cases f3 : farB t
  rotate_left
  · exact moves_far a s r t want l h y n w (.inr (.inr (.inl ⟨f1, f2, f3⟩)))
  cases f4 : farB want
  rotate_left
  · exact moves_far a s r t want l h y n w (.inr (.inr (.inr ⟨f1, f2, f3, f4⟩)))
  obtain ⟨a1, a2⟩ := far_no f1
  obtain ⟨s1, s2⟩ := far_no f2
  obtain ⟨t1, t2⟩ := far_no f3
  obtain ⟨w1, w2⟩ := far_no f4
  by_cases e1 : Slm.stE a s r t want l h = 0
  rotate_left
  · refine moves_mid a s r t want l h y n _ _ _ w f1 f2 f3 f4 (by omega) (by omega) (by omega) (by omega) rfl rfl (Slm.st_off e1).2.1 (.inl (bne_of e1)) ?_
    have hz : farB 0 = true := by decide
    rw [hz]
    cases (Slm.stE a s r t want l h == Slm.stE (a + y) (s + n) r (t + y) (want + n) l h) <;> cases (Slm.stE a s r t want l h == 3) <;> cases (Slm.stE (a + y) (s + n) r (t + y) (want + n) l h == 3) <;> simp
  obtain ⟨hB, hs0, q3, q4, q5⟩ := Slm.st_ok e1
  obtain ⟨v1, _, _, ⟨l1, l2⟩, h5, h6⟩ := Slm.stB_bd hB
  obtain ⟨_, _, p1, p2, p3⟩ := Slm.sh_ok hs0
  have v2 : Slm.vO (a + y) (s + n) r = true := Slm.vO_yes ⟨by omega, by omega⟩ ⟨by omega, by omega⟩ (Slm.vO_bd v1).2.2
  have hB2 : Slm.stB (a + y) (s + n) r (t + y) (want + n) l h = true := stB_yes v2 ⟨by omega, by omega⟩ ⟨by omega, by omega⟩ l1 l2 h5 h6
  have hE2 : Slm.stE (a + y) (s + n) r (t + y) (want + n) l h = Slm.shE (a + y) (s + n) r (t + y) := by unfold Slm.stE; rw [hB2]; rfl
  by_cases e2 : Slm.stE (a + y) (s + n) r (t + y) (want + n) l h = 0
  rotate_left
  · have hT := Slm.tT_yes (x := t + y) ⟨by omega, by omega⟩
    have h3 : Slm.stE (a + y) (s + n) r (t + y) (want + n) l h = 3 := by
      by_cases hf : Slm.shn (a + y) (s + n) r (t + y) ≤ 3000000000000000
      · exact absurd (hE2.trans (Slm.sh_yes v2 hT (by omega) hf).1) e2
      · rw [hE2]; unfold Slm.shE; rw [v2, hT, Bool.true_and, if_pos rfl, if_neg (by omega), if_pos (by omega)]
    exact moves_mid a s r t want l h y n _ 0 3 w f1 f2 f3 f4 (by omega) (by omega) (by omega) (by omega) e1 h3 q4 (.inr (.inl ⟨rfl, rfl⟩)) (.inr (.inr (.inl ⟨rfl, rfl, rfl⟩)))
  cases f5 : farB (Slm.shn a s r t)
  · obtain ⟨n1, n2⟩ := far_no f5
    obtain ⟨_, _, r3, r4, r5⟩ := Slm.st_ok e2
    obtain ⟨g1, g3⟩ := lf_near e1 (by omega) (by omega) (by omega)
    obtain ⟨g2, g4⟩ := lf_near e2 (by omega) (by omega) (by rw [moved]; omega)
    rw [moved] at r4 r5 g4
    rw [show want + n - (Slm.shn a s r t + n) = want - Slm.shn a s r t by omega] at r5 g4
    exact moves_main a s r t want l h y n _ _ _ w f1 f2 f3 f4 (by omega) (by omega) (by omega) (by omega) e1 e2 q3 q4 q5 r3 r4 r5 f5 g1 g2 g3 g4
  · exact moves_mid a s r t want l h y n _ 0 0 w f1 f2 f3 f4 (by omega) (by omega) (by omega) (by omega) e1 e2 q4 (.inr (.inr ⟨rfl, rfl, f5⟩)) (.inl rfl)
end Go.Proofs.Ytoeaclkmnnopmaa
