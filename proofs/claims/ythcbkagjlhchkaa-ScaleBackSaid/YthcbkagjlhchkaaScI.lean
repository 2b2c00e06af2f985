/- The walk of the law on scaling back of chapter 1: it returns true for all integers; nothing that was there has changed. -/
import Derived.Test.YthcbkagjlhchkaaScE
import Derived.Test.YthcbkagjlhchkaaScMath4
import Derived.OpenShut
set_option linter.unusedVariables false
namespace Go.Proofs.Ythcbkagjlhchkaa
open Go.RowKit

theorem le_of_mul {x y n : Int} (hn : 1 ≤ n) (h : x * n ≤ y * n) : x ≤ y := Int.le_of_mul_le_mul_right h (by omega)
theorem lt_of_mul {x y n : Int} (hn : 1 ≤ n) (h : x * n < y * n) : x < y := Int.lt_of_mul_lt_mul_right h (by omega)
theorem sC_rest {a n d : Int} (hd : 1 ≤ d) : a * n ≤ Scm.sC a n d * d ∧ Scm.sC a n d * d < a * n + d := by
  have := Scm.sF_rest (a := -a) (n := n) hd
  rw [Scm.sF_neg, Int.neg_mul, Int.neg_mul] at this; omega
/-- what the first half asks -/
theorem back_ways {a n d : Int} (h0 : 0 ≤ a) (h1 : 1 ≤ n) (h2 : 1 ≤ d) :
    ((Scm.rE a n d (Scm.sF a n d) == 0) = false) ∨ (Scm.rE a n d (Scm.sF a n d) = 0 ∧ ∃ x : Int, Scm.rV a n d (Scm.sF a n d) = x ∧ -3000000000000000 ≤ x ∧ x ≤ 3000000000000000 ∧
      ((Scm.rE x d n (Scm.sF x d n) != 0) = true ∨ Scm.rE x d n (Scm.sF x d n) = 0 ∧ decide (Scm.rV x d n (Scm.sF x d n) ≤ a) = true) ∧
      ((Scm.rE (x + 1) d n (Scm.sC (x + 1) d n) != 0) = true ∨ Scm.rE (x + 1) d n (Scm.sC (x + 1) d n) = 0 ∧ decide (a < Scm.rV (x + 1) d n (Scm.sC (x + 1) d n)) = true)) := by
  by_cases e : Scm.rE a n d (Scm.sF a n d) = 0
  · right
    obtain ⟨o, t, v⟩ := Scm.r_ok e
    have hb := Scm.isT_bd t
    have hr := Scm.sF_rest (a := a) (n := n) h2
    refine ⟨e, _, v, hb.1, hb.2, ?_, ?_⟩
    · by_cases g : Scm.rE (Scm.sF a n d) d n (Scm.sF (Scm.sF a n d) d n) = 0
      · right
        refine ⟨g, ?_⟩
        rw [(Scm.r_ok g).2.2]
        have hq := Scm.sF_rest (a := Scm.sF a n d) (n := d) h1
        have := le_of_mul h1 (show Scm.sF (Scm.sF a n d) d n * n ≤ a * n by omega)
        simpa using this
      · left; simpa using g
    · by_cases g : Scm.rE (Scm.sF a n d + 1) d n (Scm.sC (Scm.sF a n d + 1) d n) = 0
      · right
        refine ⟨g, ?_⟩
        rw [(Scm.r_ok g).2.2]
        have hq := sC_rest (a := Scm.sF a n d + 1) (n := d) h1
        rw [Int.add_mul, Int.one_mul] at hq
        have := lt_of_mul h1 (show a * n < Scm.sC (Scm.sF a n d + 1) d n * n by omega)
        simpa using this
      · left; simpa using g
  · left; simpa using e
theorem back_ways2 {a n d : Int} (h1 : 1 ≤ n) (h2 : 1 ≤ d) :
    ((Scm.rE a n d (Scm.sC a n d) == 0) = false) ∨ (Scm.rE a n d (Scm.sC a n d) = 0 ∧ ∃ y : Int, Scm.rV a n d (Scm.sC a n d) = y ∧
      ((Scm.rE y d n (Scm.sC y d n) != 0) = true ∨ Scm.rE y d n (Scm.sC y d n) = 0 ∧ decide (a ≤ Scm.rV y d n (Scm.sC y d n)) = true)) := by
  by_cases e : Scm.rE a n d (Scm.sC a n d) = 0
  · right
    obtain ⟨o, t, v⟩ := Scm.r_ok e
    have hr := sC_rest (a := a) (n := n) h2
    refine ⟨e, _, v, ?_⟩
    by_cases g : Scm.rE (Scm.sC a n d) d n (Scm.sC (Scm.sC a n d) d n) = 0
    · right
      refine ⟨g, ?_⟩
      rw [(Scm.r_ok g).2.2]
      have hq := sC_rest (a := Scm.sC a n d) (n := d) h1
      have := le_of_mul h1 (show a * n ≤ Scm.sC (Scm.sC a n d) d n * n by omega)
      simpa using this
    · left; simpa using g
  · left; simpa using e
set_option maxHeartbeats 2000000 in
set_option maxRecDepth 100000 in
theorem back_law (a n d : Int) (w : World) (h1 : (Lit.int .i64 a).wf = true) (h2 : (Lit.int .i64 n).wf = true) (h3 : (Lit.int .i64 d).wf = true) :
    Calls Try.prog 7 #[.int .i64 a, .int .i64 n, .int .i64 d] w (LawPost w) := by
  have hb := Below.refl w.heap.size w
  by_cases hm : 0 ≤ a ∧ 1 ≤ n ∧ 1 ≤ d
  rotate_left
  · skip
    go_enter Try.func7, Try.ntmps7
    go_wp2_with (first | (go_at_call 10; refine (head_c (by assumption)).mono ?_; rintro e w1 ⟨rfl, hb⟩) | (go_at_call 11; refine (Floor_c (by assumption)).mono ?_; rintro e w1 ⟨rfl, hb⟩) | (go_at_call 13; refine (Ceil_c (by assumption)).mono ?_; rintro e w1 ⟨rfl, hb⟩) | (go_at_call 15; refine (Near_c (by assumption)).mono ?_; rintro e w1 ⟨rfl, hb⟩) | (go_at_call 17; ((with_reducible refine (Sum3_c (by assumption)).mono ?_); rintro e w1 ⟨rfl, hb⟩)) | (go_at_call 17; ((with_reducible refine (Sum2_c (by assumption)).mono ?_); rintro e w1 ⟨rfl, hb⟩)))
    all_goals go_ret
    all_goals exact ⟨rfl, by assumption⟩
  obtain ⟨m1, m2, m3⟩ := hm
  rcases back_ways m1 m2 m3 with e | ⟨e, x, hx, x1, x2, g | ⟨g, g'⟩, h | ⟨h, h'⟩⟩
  all_goals rcases back_ways2 (a := a) m2 m3 with f | ⟨f, y, hy, k | ⟨k, k'⟩⟩
  all_goals
    go_enter Try.func7, Try.ntmps7
    go_wp2_with (first | (go_at_call 10; refine (head_c (by assumption)).mono ?_; rintro e w1 ⟨rfl, hb⟩) | (go_at_call 11; refine (Floor_c (by assumption)).mono ?_; rintro e w1 ⟨rfl, hb⟩) | (go_at_call 13; refine (Ceil_c (by assumption)).mono ?_; rintro e w1 ⟨rfl, hb⟩) | (go_at_call 15; refine (Near_c (by assumption)).mono ?_; rintro e w1 ⟨rfl, hb⟩) | (go_at_call 17; ((with_reducible refine (Sum3_c (by assumption)).mono ?_); rintro e w1 ⟨rfl, hb⟩)) | (go_at_call 17; ((with_reducible refine (Sum2_c (by assumption)).mono ?_); rintro e w1 ⟨rfl, hb⟩)))
    all_goals go_ret
    all_goals exact ⟨rfl, by assumption⟩
end Go.Proofs.Ythcbkagjlhchkaa
