/- The walk of the law on units of chapter 1: it returns true for all integers; nothing that was there has changed. -/
import Derived.Test.YthcbkagjlhchkaaScE
import Derived.Test.YthcbkagjlhchkaaScMath4
import Derived.OpenShut
set_option linter.unusedVariables false
namespace Go.Proofs.Ythcbkagjlhchkaa
open Go.RowKit

theorem r_all {a n d v : Int} (ho : Scm.okB a n d = true) (hv : -3000000000000000 ≤ v ∧ v ≤ 3000000000000000) : Scm.rV a n d v = v ∧ Scm.rE a n d v = 0 := Scm.r_yes ho (isT_yes hv)
theorem prod_bd {k d A B : Int} (h1 : -A ≤ k) (h2 : k ≤ A) (h3 : 0 ≤ d) (h4 : d ≤ B) : -A * B ≤ k * d ∧ k * d ≤ A * B := by
  have hA : 0 ≤ A := by omega
  have e1 := Int.mul_le_mul_of_nonneg_right h1 h3
  have e2 := Int.mul_le_mul_of_nonneg_right h2 h3
  have e3 := Int.mul_le_mul_of_nonneg_left h4 hA
  rw [Int.neg_mul] at e1
  rw [Int.neg_mul]; omega
set_option maxHeartbeats 2000000 in
set_option maxRecDepth 100000 in
theorem units_law (a n k d : Int) (w : World) (h1 : (Lit.int .i64 a).wf = true) (h2 : (Lit.int .i64 n).wf = true) (h3 : (Lit.int .i64 k).wf = true) (h4 : (Lit.int .i64 d).wf = true) :
    Calls Try.prog 8 #[.int .i64 a, .int .i64 n, .int .i64 k, .int .i64 d] w (LawPost w) := by
  have hb := Below.refl w.heap.size w
  by_cases m1 : -3000000000000000 ≤ a ∧ a ≤ 3000000000000000 ∧ 1 ≤ n ∧ n ≤ 2000000000
  · obtain ⟨a1, a2, a3, a4⟩ := m1
    have ho := okB_yes (a := a) (n := n) (d := n) ⟨a1, a2, by omega, a4, a3, a4⟩
    obtain ⟨x1, x2, x3⟩ := Scm.s_mult (a := a) (n := n) (d := n) (m := a) a3 rfl
    obtain ⟨y1, y2⟩ := r_all ho ⟨a1, a2⟩
    clear ho
    by_cases m2 : 0 ≤ n ∧ n ≤ 1000000 ∧ 1 ≤ d ∧ d ≤ 1000000 ∧ -1000000000 ≤ k ∧ k ≤ 1000000000
    · obtain ⟨b1, b2, b3, b4, b5, b6⟩ := m2
      obtain ⟨KD, hKD⟩ : ∃ x, k * d = x := ⟨_, rfl⟩
      obtain ⟨KN, hKN⟩ : ∃ x, k * n = x := ⟨_, rfl⟩
      have c1 : -1000000000 * 1000000 ≤ KD ∧ KD ≤ 1000000000 * 1000000 := by rw [← hKD]; exact prod_bd b5 b6 (by omega) b4
      have c2 : -1000000000 * 1000000 ≤ KN ∧ KN ≤ 1000000000 * 1000000 := by rw [← hKN]; exact prod_bd b5 b6 b1 b2
      have ho := okB_yes (a := KD) (n := n) (d := d) ⟨by omega, by omega, by omega, by omega, b3, by omega⟩
      obtain ⟨u1, u2, u3⟩ := Scm.s_mult (a := KD) (n := n) (d := d) (m := KN) b3 (by rw [← hKD, ← hKN, Int.mul_assoc, Int.mul_assoc, Int.mul_comm d n])
      obtain ⟨z1, z2⟩ := r_all (v := KN) ho ⟨by omega, by omega⟩
      clear ho
      go_enter Try.func8, Try.ntmps8
      go_wp2_with (first | (go_at_call 10; refine (head_c (by assumption)).mono ?_; rintro e w1 ⟨rfl, hb⟩) | (go_at_call 11; refine (Floor_c (by assumption)).mono ?_; rintro e w1 ⟨rfl, hb⟩) | (go_at_call 13; refine (Ceil_c (by assumption)).mono ?_; rintro e w1 ⟨rfl, hb⟩) | (go_at_call 15; refine (Near_c (by assumption)).mono ?_; rintro e w1 ⟨rfl, hb⟩) | (go_at_call 17; ((with_reducible refine (Sum3_c (by assumption)).mono ?_); rintro e w1 ⟨rfl, hb⟩)) | (go_at_call 17; ((with_reducible refine (Sum2_c (by assumption)).mono ?_); rintro e w1 ⟨rfl, hb⟩)))
      all_goals go_ret
      all_goals exact ⟨rfl, by assumption⟩
    · skip
      go_enter Try.func8, Try.ntmps8
      go_wp2_with (first | (go_at_call 10; refine (head_c (by assumption)).mono ?_; rintro e w1 ⟨rfl, hb⟩) | (go_at_call 11; refine (Floor_c (by assumption)).mono ?_; rintro e w1 ⟨rfl, hb⟩) | (go_at_call 13; refine (Ceil_c (by assumption)).mono ?_; rintro e w1 ⟨rfl, hb⟩) | (go_at_call 15; refine (Near_c (by assumption)).mono ?_; rintro e w1 ⟨rfl, hb⟩) | (go_at_call 17; ((with_reducible refine (Sum3_c (by assumption)).mono ?_); rintro e w1 ⟨rfl, hb⟩)) | (go_at_call 17; ((with_reducible refine (Sum2_c (by assumption)).mono ?_); rintro e w1 ⟨rfl, hb⟩)))
      all_goals go_ret
      all_goals exact ⟨rfl, by assumption⟩
  · by_cases m2 : 0 ≤ n ∧ n ≤ 1000000 ∧ 1 ≤ d ∧ d ≤ 1000000 ∧ -1000000000 ≤ k ∧ k ≤ 1000000000
    · obtain ⟨b1, b2, b3, b4, b5, b6⟩ := m2
      obtain ⟨KD, hKD⟩ : ∃ x, k * d = x := ⟨_, rfl⟩
      obtain ⟨KN, hKN⟩ : ∃ x, k * n = x := ⟨_, rfl⟩
      have c1 : -1000000000 * 1000000 ≤ KD ∧ KD ≤ 1000000000 * 1000000 := by rw [← hKD]; exact prod_bd b5 b6 (by omega) b4
      have c2 : -1000000000 * 1000000 ≤ KN ∧ KN ≤ 1000000000 * 1000000 := by rw [← hKN]; exact prod_bd b5 b6 b1 b2
      have ho := okB_yes (a := KD) (n := n) (d := d) ⟨by omega, by omega, by omega, by omega, b3, by omega⟩
      obtain ⟨u1, u2, u3⟩ := Scm.s_mult (a := KD) (n := n) (d := d) (m := KN) b3 (by rw [← hKD, ← hKN, Int.mul_assoc, Int.mul_assoc, Int.mul_comm d n])
      obtain ⟨z1, z2⟩ := r_all (v := KN) ho ⟨by omega, by omega⟩
      clear ho
      go_enter Try.func8, Try.ntmps8
      go_wp2_with (first | (go_at_call 10; refine (head_c (by assumption)).mono ?_; rintro e w1 ⟨rfl, hb⟩) | (go_at_call 11; refine (Floor_c (by assumption)).mono ?_; rintro e w1 ⟨rfl, hb⟩) | (go_at_call 13; refine (Ceil_c (by assumption)).mono ?_; rintro e w1 ⟨rfl, hb⟩) | (go_at_call 15; refine (Near_c (by assumption)).mono ?_; rintro e w1 ⟨rfl, hb⟩) | (go_at_call 17; ((with_reducible refine (Sum3_c (by assumption)).mono ?_); rintro e w1 ⟨rfl, hb⟩)) | (go_at_call 17; ((with_reducible refine (Sum2_c (by assumption)).mono ?_); rintro e w1 ⟨rfl, hb⟩)))
      all_goals go_ret
      all_goals exact ⟨rfl, by assumption⟩
    · skip
      go_enter Try.func8, Try.ntmps8
      go_wp2_with (first | (go_at_call 10; refine (head_c (by assumption)).mono ?_; rintro e w1 ⟨rfl, hb⟩) | (go_at_call 11; refine (Floor_c (by assumption)).mono ?_; rintro e w1 ⟨rfl, hb⟩) | (go_at_call 13; refine (Ceil_c (by assumption)).mono ?_; rintro e w1 ⟨rfl, hb⟩) | (go_at_call 15; refine (Near_c (by assumption)).mono ?_; rintro e w1 ⟨rfl, hb⟩) | (go_at_call 17; ((with_reducible refine (Sum3_c (by assumption)).mono ?_); rintro e w1 ⟨rfl, hb⟩)) | (go_at_call 17; ((with_reducible refine (Sum2_c (by assumption)).mono ?_); rintro e w1 ⟨rfl, hb⟩)))
      all_goals go_ret
      all_goals exact ⟨rfl, by assumption⟩
end Go.Proofs.Ythcbkagjlhchkaa
