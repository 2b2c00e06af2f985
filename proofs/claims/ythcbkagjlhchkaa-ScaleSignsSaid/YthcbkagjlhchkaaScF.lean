/- The walks of laws of chapter 1: each returns true for all integers; nothing that was there has changed. -/
import Derived.Test.YthcbkagjlhchkaaScE
import Derived.Test.YthcbkagjlhchkaaScMath2
import Derived.OpenShut
set_option linter.unusedVariables false
namespace Go.Proofs.Ythcbkagjlhchkaa
open Go.RowKit

set_option maxHeartbeats 2000000 in
set_option maxRecDepth 100000 in
theorem signs_law (a n d : Int) (w : World) (h1 : (Lit.int .i64 a).wf = true) (h2 : (Lit.int .i64 n).wf = true) (h3 : (Lit.int .i64 d).wf = true) :
    Calls Try.prog 5 #[.int .i64 a, .int .i64 n, .int .i64 d] w (LawPost w) := by
  have hb := Below.refl w.heap.size w
  by_cases ha : 3000000000000000 < a
  · skip
    go_enter Try.func5, Try.ntmps5
    go_wp2_with (first | (go_at_call 10; refine (head_c (by assumption)).mono ?_; rintro e w1 ⟨rfl, hb⟩) | (go_at_call 11; refine (Floor_c (by assumption)).mono ?_; rintro e w1 ⟨rfl, hb⟩) | (go_at_call 13; refine (Ceil_c (by assumption)).mono ?_; rintro e w1 ⟨rfl, hb⟩) | (go_at_call 15; refine (Near_c (by assumption)).mono ?_; rintro e w1 ⟨rfl, hb⟩))
    all_goals go_ret
    all_goals exact ⟨rfl, by assumption⟩
  by_cases ha' : a < -3000000000000000
  · skip
    go_enter Try.func5, Try.ntmps5
    go_wp2_with (first | (go_at_call 10; refine (head_c (by assumption)).mono ?_; rintro e w1 ⟨rfl, hb⟩) | (go_at_call 11; refine (Floor_c (by assumption)).mono ?_; rintro e w1 ⟨rfl, hb⟩) | (go_at_call 13; refine (Ceil_c (by assumption)).mono ?_; rintro e w1 ⟨rfl, hb⟩) | (go_at_call 15; refine (Near_c (by assumption)).mono ?_; rintro e w1 ⟨rfl, hb⟩))
    all_goals go_ret
    all_goals exact ⟨rfl, by assumption⟩
  have e1 : Scm.rV (-a) n d (Scm.sC (-a) n d) = -(Scm.rV a n d (Scm.sF a n d)) := by rw [Scm.sC_neg, Scm.rV_neg]
  have e2 : Scm.rE (-a) n d (Scm.sC (-a) n d) = Scm.rE a n d (Scm.sF a n d) := by rw [Scm.sC_neg, Scm.rE_neg]
  have f1 : Scm.rV (-a) n d (Scm.sF (-a) n d) = -(Scm.rV a n d (Scm.sC a n d)) := by rw [Scm.sF_neg, Scm.rV_neg]
  have f2 : Scm.rE (-a) n d (Scm.sF (-a) n d) = Scm.rE a n d (Scm.sC a n d) := by rw [Scm.sF_neg, Scm.rE_neg]
  obtain ⟨g1, g2⟩ := Scm.N_neg a n d
  have b1 := Scm.rV_bd a n d (Scm.sF a n d)
  have b2 := Scm.rV_bd a n d (Scm.sC a n d)
  have b3 := Scm.rV_bd a n d (Scm.sN a n d)
  go_enter Try.func5, Try.ntmps5
  go_wp2_with (first | (go_at_call 10; refine (head_c (by assumption)).mono ?_; rintro e w1 ⟨rfl, hb⟩) | (go_at_call 11; refine (Floor_c (by assumption)).mono ?_; rintro e w1 ⟨rfl, hb⟩) | (go_at_call 13; refine (Ceil_c (by assumption)).mono ?_; rintro e w1 ⟨rfl, hb⟩) | (go_at_call 15; refine (Near_c (by assumption)).mono ?_; rintro e w1 ⟨rfl, hb⟩))
  all_goals go_ret
  all_goals exact ⟨rfl, by assumption⟩
end Go.Proofs.Ythcbkagjlhchkaa
