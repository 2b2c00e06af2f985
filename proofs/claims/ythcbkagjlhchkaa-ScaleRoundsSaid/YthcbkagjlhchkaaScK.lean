/- The walk of the law on roundings of chapter 1: it returns true for all integers; nothing that was there has changed. -/
import Derived.Test.YthcbkagjlhchkaaScE
import Derived.Test.YthcbkagjlhchkaaScMath4
import Derived.OpenShut
set_option linter.unusedVariables false
namespace Go.Proofs.Ythcbkagjlhchkaa
open Go.RowKit

theorem rE_03 {a n d : Int} (v : Int) (ho : Scm.okB a n d = true) : (Scm.rE a n d v = 0 ∧ Scm.rV a n d v = v ∧ -3000000000000000 ≤ v ∧ v ≤ 3000000000000000) ∨ Scm.rE a n d v = 3 := by
  cases hv : Scm.isT v
  · right; exact (Scm.r_far ho hv).2
  · left; exact ⟨(Scm.r_yes ho hv).2, (Scm.r_yes ho hv).1, Scm.isT_bd hv⟩
theorem abs_prod {a n K : Int} (h1 : 1 ≤ n) (hK : 4000000000000000000 / n = K) (ha : a ≤ K) (ha' : -a ≤ K) : -4000000000000000000 ≤ a * n ∧ a * n ≤ 4000000000000000000 := by
  have h := Int.ediv_mul_le 4000000000000000000 (show n ≠ 0 by omega)
  rw [hK] at h
  have h2 := Int.mul_le_mul_of_nonneg_right ha (show 0 ≤ n by omega)
  have h3 := Int.mul_le_mul_of_nonneg_right ha' (show 0 ≤ n by omega)
  rw [Int.neg_mul] at h3
  omega
theorem max_of {x B : Int} (h1 : -B ≤ x) (h2 : x ≤ B) : ∃ m, (if x < -x then -x else x) = m ∧ m ≤ B ∧ 0 ≤ m := by
  by_cases h : x < -x
  · exact ⟨-x, if_pos h, by omega, by omega⟩
  · exact ⟨x, if_neg h, h2, by omega⟩
set_option maxHeartbeats 2000000 in
set_option maxRecDepth 100000 in
theorem rounds_bad (a n d : Int) (w : World) (h1 : (Lit.int .i64 a).wf = true) (h2 : (Lit.int .i64 n).wf = true) (h3 : (Lit.int .i64 d).wf = true)
    (hg : ¬ ((-3000000000000000 ≤ a ∧ a ≤ 3000000000000000) ∧ (1 ≤ n ∧ n ≤ 2000000000) ∧ 1 ≤ d ∧ d ≤ 2000000000)) :
    Calls Try.prog 4 #[.int .i64 a, .int .i64 n, .int .i64 d] w (LawPost w) := by
  have hb := Below.refl w.heap.size w
  go_enter Try.func4, Try.ntmps4
  go_wp2_with (first | (go_at_call 10; refine (head_c (by assumption)).mono ?_; rintro e w1 ⟨rfl, hb⟩) | (go_at_call 11; refine (Floor_c (by assumption)).mono ?_; rintro e w1 ⟨rfl, hb⟩) | (go_at_call 13; refine (Ceil_c (by assumption)).mono ?_; rintro e w1 ⟨rfl, hb⟩) | (go_at_call 15; refine (Near_c (by assumption)).mono ?_; rintro e w1 ⟨rfl, hb⟩) | (go_at_call 17; ((with_reducible refine (Sum3_c (by assumption)).mono ?_); rintro e w1 ⟨rfl, hb⟩)) | (go_at_call 17; ((with_reducible refine (Sum2_c (by assumption)).mono ?_); rintro e w1 ⟨rfl, hb⟩)))
  all_goals go_ret
  all_goals exact ⟨rfl, by assumption⟩
set_option maxHeartbeats 2000000 in
set_option maxRecDepth 100000 in
theorem rounds_far (a n d K : Int) (w : World) (a1 : -3000000000000000 ≤ a) (a2 : a ≤ 3000000000000000) (n1 : 1 ≤ n) (n2 : n ≤ 2000000000) (d1 : 1 ≤ d) (d2 : d ≤ 2000000000)
    (hK : 4000000000000000000 / n = K) (hk : ¬ (a ≤ K ∧ -a ≤ K)) :
    Calls Try.prog 4 #[.int .i64 a, .int .i64 n, .int .i64 d] w (LawPost w) := by
  have hb := Below.refl w.heap.size w
  obtain ⟨MA, hMA, m1, m2⟩ := max_of a1 a2
  have hMK : K < MA := by by_cases s : a < -a <;> simp only [s, if_true, if_false] at hMA <;> omega
  go_enter Try.func4, Try.ntmps4
  go_wp2_with (first | (go_at_call 10; refine (head_c (by assumption)).mono ?_; rintro e w1 ⟨rfl, hb⟩) | (go_at_call 11; refine (Floor_c (by assumption)).mono ?_; rintro e w1 ⟨rfl, hb⟩) | (go_at_call 13; refine (Ceil_c (by assumption)).mono ?_; rintro e w1 ⟨rfl, hb⟩) | (go_at_call 15; refine (Near_c (by assumption)).mono ?_; rintro e w1 ⟨rfl, hb⟩) | (go_at_call 17; ((with_reducible refine (Sum3_c (by assumption)).mono ?_); rintro e w1 ⟨rfl, hb⟩)) | (go_at_call 17; ((with_reducible refine (Sum2_c (by assumption)).mono ?_); rintro e w1 ⟨rfl, hb⟩)))
  all_goals go_ret
  all_goals exact ⟨rfl, by assumption⟩
set_option maxHeartbeats 2000000 in
set_option maxRecDepth 100000 in
theorem rounds_err (a n d K : Int) (w : World) (a1 : -3000000000000000 ≤ a) (a2 : a ≤ 3000000000000000) (n1 : 1 ≤ n) (n2 : n ≤ 2000000000) (d1 : 1 ≤ d) (d2 : d ≤ 2000000000)
    (hK : 4000000000000000000 / n = K) (k1 : a ≤ K) (k2 : -a ≤ K)
    (he : Scm.rE a n d (Scm.sF a n d) = 3 ∨ Scm.rE a n d (Scm.sF a n d) = 0 ∧ (Scm.rE a n d (Scm.sC a n d) = 3 ∨ Scm.rE a n d (Scm.sC a n d) = 0 ∧ Scm.rE a n d (Scm.sN a n d) = 3)) :
    Calls Try.prog 4 #[.int .i64 a, .int .i64 n, .int .i64 d] w (LawPost w) := by
  have hb := Below.refl w.heap.size w
  obtain ⟨MA, hMA, m1, m2⟩ := max_of a1 a2
  have hMK : MA ≤ K := by by_cases s : a < -a <;> simp only [s, if_true, if_false] at hMA <;> omega
  rcases he with e1 | ⟨e1, e2 | ⟨e2, e3⟩⟩
  · skip
    go_enter Try.func4, Try.ntmps4
    go_wp2_with (first | (go_at_call 10; refine (head_c (by assumption)).mono ?_; rintro e w1 ⟨rfl, hb⟩) | (go_at_call 11; refine (Floor_c (by assumption)).mono ?_; rintro e w1 ⟨rfl, hb⟩) | (go_at_call 13; refine (Ceil_c (by assumption)).mono ?_; rintro e w1 ⟨rfl, hb⟩) | (go_at_call 15; refine (Near_c (by assumption)).mono ?_; rintro e w1 ⟨rfl, hb⟩) | (go_at_call 17; ((with_reducible refine (Sum3_c (by assumption)).mono ?_); rintro e w1 ⟨rfl, hb⟩)) | (go_at_call 17; ((with_reducible refine (Sum2_c (by assumption)).mono ?_); rintro e w1 ⟨rfl, hb⟩)))
    all_goals go_ret
    all_goals exact ⟨rfl, by assumption⟩
  · skip
    go_enter Try.func4, Try.ntmps4
    go_wp2_with (first | (go_at_call 10; refine (head_c (by assumption)).mono ?_; rintro e w1 ⟨rfl, hb⟩) | (go_at_call 11; refine (Floor_c (by assumption)).mono ?_; rintro e w1 ⟨rfl, hb⟩) | (go_at_call 13; refine (Ceil_c (by assumption)).mono ?_; rintro e w1 ⟨rfl, hb⟩) | (go_at_call 15; refine (Near_c (by assumption)).mono ?_; rintro e w1 ⟨rfl, hb⟩) | (go_at_call 17; ((with_reducible refine (Sum3_c (by assumption)).mono ?_); rintro e w1 ⟨rfl, hb⟩)) | (go_at_call 17; ((with_reducible refine (Sum2_c (by assumption)).mono ?_); rintro e w1 ⟨rfl, hb⟩)))
    all_goals go_ret
    all_goals exact ⟨rfl, by assumption⟩
  · skip
    go_enter Try.func4, Try.ntmps4
    go_wp2_with (first | (go_at_call 10; refine (head_c (by assumption)).mono ?_; rintro e w1 ⟨rfl, hb⟩) | (go_at_call 11; refine (Floor_c (by assumption)).mono ?_; rintro e w1 ⟨rfl, hb⟩) | (go_at_call 13; refine (Ceil_c (by assumption)).mono ?_; rintro e w1 ⟨rfl, hb⟩) | (go_at_call 15; refine (Near_c (by assumption)).mono ?_; rintro e w1 ⟨rfl, hb⟩) | (go_at_call 17; ((with_reducible refine (Sum3_c (by assumption)).mono ?_); rintro e w1 ⟨rfl, hb⟩)) | (go_at_call 17; ((with_reducible refine (Sum2_c (by assumption)).mono ?_); rintro e w1 ⟨rfl, hb⟩)))
    all_goals go_ret
    all_goals exact ⟨rfl, by assumption⟩
set_option maxHeartbeats 2000000 in
set_option maxRecDepth 100000 in
theorem rounds_ok (a n d K P X Y Z XD : Int) (w : World) (a1 : -3000000000000000 ≤ a) (a2 : a ≤ 3000000000000000) (n1 : 1 ≤ n) (n2 : n ≤ 2000000000) (d1 : 1 ≤ d) (d2 : d ≤ 2000000000)
    (hK : 4000000000000000000 / n = K) (k1 : a ≤ K) (k2 : -a ≤ K)
    (hP : a * n = P) (p1 : -4000000000000000000 ≤ P) (p2 : P ≤ 4000000000000000000) (hXD : X * d = XD)
    (x0 : Scm.rE a n d (Scm.sF a n d) = 0) (xv : Scm.rV a n d (Scm.sF a n d) = X) (x1 : -3000000000000000 ≤ X) (x2 : X ≤ 3000000000000000)
    (y0 : Scm.rE a n d (Scm.sC a n d) = 0) (yv : Scm.rV a n d (Scm.sC a n d) = Y) (y1 : -3000000000000000 ≤ Y) (y2 : Y ≤ 3000000000000000)
    (z0 : Scm.rE a n d (Scm.sN a n d) = 0) (zv : Scm.rV a n d (Scm.sN a n d) = Z) (z1 : -3000000000000000 ≤ Z) (z2 : Z ≤ 3000000000000000)
    (r1 : 0 ≤ P - XD) (r2 : P - XD < d) (hc : (P - XD = 0 ∧ Y = X) ∨ (0 < P - XD ∧ Y = X + 1)) (hn : (Z = X ∧ 2 * (P - XD) ≤ d) ∨ (Z = Y ∧ d ≤ 2 * (P - XD))) :
    Calls Try.prog 4 #[.int .i64 a, .int .i64 n, .int .i64 d] w (LawPost w) := by
  have hb := Below.refl w.heap.size w
  obtain ⟨MA, hMA, m1, m2⟩ := max_of a1 a2
  have hMK : MA ≤ K := by by_cases s : a < -a <;> simp only [s, if_true, if_false] at hMA <;> omega
  obtain ⟨MX, hMX, mx1, mx2⟩ := max_of x1 x2
  obtain ⟨MY, hMY, my1, my2⟩ := max_of y1 y2
  obtain ⟨MZ, hMZ, mz1, mz2⟩ := max_of z1 z2
  have q1 : (Y - X == (if (1 : Int) < P - XD then 1 else P - XD)) = true := by
    rw [beq_iff_eq]; split <;> omega
  have q2 : (Z == X) = true ∧ decide (2 * (P - XD) ≤ d) = true ∨ (Z == X) = true ∧ decide (2 * (P - XD) ≤ d) = false ∧ (Z == Y) = true ∧ decide (d ≤ 2 * (P - XD)) = true ∨ (Z == X) = false ∧ (Z == Y) = true ∧ decide (d ≤ 2 * (P - XD)) = true := by
    simp only [beq_iff_eq, decide_eq_true_eq, decide_eq_false_iff_not, beq_eq_false_iff_ne, ne_eq]; omega
  clear hc hn
  rcases q2 with ⟨c1, c2⟩ | ⟨c1, c2, c3, c4⟩ | ⟨c1, c2, c3⟩
  all_goals
    go_enter Try.func4, Try.ntmps4
    go_wp2_with (first | (go_at_call 10; refine (head_c (by assumption)).mono ?_; rintro e w1 ⟨rfl, hb⟩) | (go_at_call 11; refine (Floor_c (by assumption)).mono ?_; rintro e w1 ⟨rfl, hb⟩) | (go_at_call 13; refine (Ceil_c (by assumption)).mono ?_; rintro e w1 ⟨rfl, hb⟩) | (go_at_call 15; refine (Near_c (by assumption)).mono ?_; rintro e w1 ⟨rfl, hb⟩) | (go_at_call 17; ((with_reducible refine (Sum3_c (by assumption)).mono ?_); rintro e w1 ⟨rfl, hb⟩)) | (go_at_call 17; ((with_reducible refine (Sum2_c (by assumption)).mono ?_); rintro e w1 ⟨rfl, hb⟩)))
    all_goals go_ret
    all_goals exact ⟨rfl, by assumption⟩
theorem rounds_law (a n d : Int) (w : World) (h1 : (Lit.int .i64 a).wf = true) (h2 : (Lit.int .i64 n).wf = true) (h3 : (Lit.int .i64 d).wf = true) :
    Calls Try.prog 4 #[.int .i64 a, .int .i64 n, .int .i64 d] w (LawPost w) := by
  by_cases hg : (-3000000000000000 ≤ a ∧ a ≤ 3000000000000000) ∧ (1 ≤ n ∧ n ≤ 2000000000) ∧ 1 ≤ d ∧ d ≤ 2000000000
  rotate_left
  · exact rounds_bad a n d w h1 h2 h3 hg
  obtain ⟨⟨a1, a2⟩, ⟨n1, n2⟩, d1, d2⟩ := hg
  by_cases hk : a ≤ 4000000000000000000 / n ∧ -a ≤ 4000000000000000000 / n
  rotate_left
  · exact rounds_far a n d _ w a1 a2 n1 n2 d1 d2 rfl hk
  obtain ⟨k1, k2⟩ := hk
  have hPb := abs_prod n1 rfl k1 k2
  have ho := okB_yes (a := a) (n := n) (d := d) ⟨a1, a2, by omega, n2, d1, d2⟩
  rcases rE_03 (Scm.sF a n d) ho with ⟨x0, xv, x1, x2⟩ | x0
  rotate_left
  · exact rounds_err a n d _ w a1 a2 n1 n2 d1 d2 rfl k1 k2 (.inl x0)
  rcases rE_03 (Scm.sC a n d) ho with ⟨y0, yv, y1, y2⟩ | y0
  rotate_left
  · exact rounds_err a n d _ w a1 a2 n1 n2 d1 d2 rfl k1 k2 (.inr ⟨x0, .inl y0⟩)
  rcases rE_03 (Scm.sN a n d) ho with ⟨z0, zv, z1, z2⟩ | z0
  rotate_left
  · exact rounds_err a n d _ w a1 a2 n1 n2 d1 d2 rfl k1 k2 (.inr ⟨x0, .inr ⟨y0, z0⟩⟩)
  have hr := Scm.sF_rest (a := a) (n := n) d1
  exact rounds_ok a n d _ _ _ _ _ _ w a1 a2 n1 n2 d1 d2 rfl k1 k2 rfl hPb.1 hPb.2 rfl x0 xv x1 x2 y0 yv y1 y2 z0 zv z1 z2 hr.1 hr.2 (Scm.sC_eq (a := a) (n := n) d1) (Scm.sN_ways (a := a) (n := n) d1)
end Go.Proofs.Ythcbkagjlhchkaa
