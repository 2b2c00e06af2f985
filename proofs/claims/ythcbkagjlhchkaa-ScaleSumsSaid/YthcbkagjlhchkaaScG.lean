/- The walk of the law on sums of chapter 1: it returns true for all integers; nothing that was there has changed. -/
import Derived.Test.YthcbkagjlhchkaaScE
import Derived.Test.YthcbkagjlhchkaaScMath3
import Derived.OpenShut
set_option linter.unusedVariables false
namespace Go.Proofs.Ythcbkagjlhchkaa
open Go.RowKit

set_option maxHeartbeats 2000000 in
set_option maxRecDepth 100000 in
theorem sums_law (a b c n d : Int) (w : World) (h1 : (Lit.int .i64 a).wf = true) (h2 : (Lit.int .i64 b).wf = true) (h3 : (Lit.int .i64 c).wf = true) (h4 : (Lit.int .i64 n).wf = true) (h5 : (Lit.int .i64 d).wf = true) :
    Calls Try.prog 9 #[.int .i64 a, .int .i64 b, .int .i64 c, .int .i64 n, .int .i64 d] w (LawPost w) := by
  have hb := Below.refl w.heap.size w
  obtain ⟨p1, p2⟩ := Scm.su_cab a b c
  obtain ⟨q1, q2⟩ := Scm.su_bac a b c
  by_cases hs : Scm.suE [a, b] = 0
  rotate_left
  · have hs' : (Scm.suE [a, b] != 0) = true := by simpa using hs
    clear hs
    go_enter Try.func9, Try.ntmps9
    go_wp2_with (first | (go_at_call 10; refine (head_c (by assumption)).mono ?_; rintro e w1 ⟨rfl, hb⟩) | (go_at_call 11; refine (Floor_c (by assumption)).mono ?_; rintro e w1 ⟨rfl, hb⟩) | (go_at_call 13; refine (Ceil_c (by assumption)).mono ?_; rintro e w1 ⟨rfl, hb⟩) | (go_at_call 15; refine (Near_c (by assumption)).mono ?_; rintro e w1 ⟨rfl, hb⟩) | (go_at_call 17; ((with_reducible refine (Sum3_c (by assumption)).mono ?_); rintro e w1 ⟨rfl, hb⟩)) | (go_at_call 17; ((with_reducible refine (Sum2_c (by assumption)).mono ?_); rintro e w1 ⟨rfl, hb⟩)))
    all_goals go_ret
    all_goals exact ⟨rfl, by assumption⟩
  have hs1 := Scm.su_two hs
  by_cases e1 : Scm.rE a n d (Scm.sF a n d) = 0
  rotate_left
  · have e' : (Scm.rE a n d (Scm.sF a n d) != 0) = true := by simpa using e1
    clear e1
    go_enter Try.func9, Try.ntmps9
    go_wp2_with (first | (go_at_call 10; refine (head_c (by assumption)).mono ?_; rintro e w1 ⟨rfl, hb⟩) | (go_at_call 11; refine (Floor_c (by assumption)).mono ?_; rintro e w1 ⟨rfl, hb⟩) | (go_at_call 13; refine (Ceil_c (by assumption)).mono ?_; rintro e w1 ⟨rfl, hb⟩) | (go_at_call 15; refine (Near_c (by assumption)).mono ?_; rintro e w1 ⟨rfl, hb⟩) | (go_at_call 17; ((with_reducible refine (Sum3_c (by assumption)).mono ?_); rintro e w1 ⟨rfl, hb⟩)) | (go_at_call 17; ((with_reducible refine (Sum2_c (by assumption)).mono ?_); rintro e w1 ⟨rfl, hb⟩)))
    all_goals go_ret
    all_goals exact ⟨rfl, by assumption⟩
  by_cases e2 : Scm.rE b n d (Scm.sF b n d) = 0
  rotate_left
  · have e' : (Scm.rE b n d (Scm.sF b n d) != 0) = true := by simpa using e2
    clear e2
    go_enter Try.func9, Try.ntmps9
    go_wp2_with (first | (go_at_call 10; refine (head_c (by assumption)).mono ?_; rintro e w1 ⟨rfl, hb⟩) | (go_at_call 11; refine (Floor_c (by assumption)).mono ?_; rintro e w1 ⟨rfl, hb⟩) | (go_at_call 13; refine (Ceil_c (by assumption)).mono ?_; rintro e w1 ⟨rfl, hb⟩) | (go_at_call 15; refine (Near_c (by assumption)).mono ?_; rintro e w1 ⟨rfl, hb⟩) | (go_at_call 17; ((with_reducible refine (Sum3_c (by assumption)).mono ?_); rintro e w1 ⟨rfl, hb⟩)) | (go_at_call 17; ((with_reducible refine (Sum2_c (by assumption)).mono ?_); rintro e w1 ⟨rfl, hb⟩)))
    all_goals go_ret
    all_goals exact ⟨rfl, by assumption⟩
  by_cases e3 : Scm.rE (a + b) n d (Scm.sF (a + b) n d) = 0
  rotate_left
  · have e' : (Scm.rE (a + b) n d (Scm.sF (a + b) n d) != 0) = true := by simpa using e3
    clear e3
    go_enter Try.func9, Try.ntmps9
    go_wp2_with (first | (go_at_call 10; refine (head_c (by assumption)).mono ?_; rintro e w1 ⟨rfl, hb⟩) | (go_at_call 11; refine (Floor_c (by assumption)).mono ?_; rintro e w1 ⟨rfl, hb⟩) | (go_at_call 13; refine (Ceil_c (by assumption)).mono ?_; rintro e w1 ⟨rfl, hb⟩) | (go_at_call 15; refine (Near_c (by assumption)).mono ?_; rintro e w1 ⟨rfl, hb⟩) | (go_at_call 17; ((with_reducible refine (Sum3_c (by assumption)).mono ?_); rintro e w1 ⟨rfl, hb⟩)) | (go_at_call 17; ((with_reducible refine (Sum2_c (by assumption)).mono ?_); rintro e w1 ⟨rfl, hb⟩)))
    all_goals go_ret
    all_goals exact ⟨rfl, by assumption⟩
  obtain ⟨o1, t1, v1⟩ := Scm.r_ok e1
  obtain ⟨o2, t2, v2⟩ := Scm.r_ok e2
  obtain ⟨o3, t3, v3⟩ := Scm.r_ok e3
  have b1 := Scm.isT_bd t1
  have b2 := Scm.isT_bd t2
  have b3 := Scm.isT_bd t3
  have hsum := Scm.sF_sum (a := a) (b := b) (n := n) (Scm.okB_d o1).2.2.2.2.1
  clear o1 o2 o3 t1 t2 t3
  rcases hsum with h | h
  · have hq : (Scm.sF (a + b) n d == Scm.sF a n d + Scm.sF b n d) = true := by simpa using h
    clear h
    go_enter Try.func9, Try.ntmps9
    go_wp2_with (first | (go_at_call 10; refine (head_c (by assumption)).mono ?_; rintro e w1 ⟨rfl, hb⟩) | (go_at_call 11; refine (Floor_c (by assumption)).mono ?_; rintro e w1 ⟨rfl, hb⟩) | (go_at_call 13; refine (Ceil_c (by assumption)).mono ?_; rintro e w1 ⟨rfl, hb⟩) | (go_at_call 15; refine (Near_c (by assumption)).mono ?_; rintro e w1 ⟨rfl, hb⟩) | (go_at_call 17; ((with_reducible refine (Sum3_c (by assumption)).mono ?_); rintro e w1 ⟨rfl, hb⟩)) | (go_at_call 17; ((with_reducible refine (Sum2_c (by assumption)).mono ?_); rintro e w1 ⟨rfl, hb⟩)))
    all_goals go_ret
    all_goals exact ⟨rfl, by assumption⟩
  · have hq : (Scm.sF (a + b) n d == Scm.sF a n d + Scm.sF b n d) = false := by simp; omega
    have hq' : (Scm.sF (a + b) n d == Scm.sF a n d + Scm.sF b n d + 1) = true := by simpa using h
    clear h
    go_enter Try.func9, Try.ntmps9
    go_wp2_with (first | (go_at_call 10; refine (head_c (by assumption)).mono ?_; rintro e w1 ⟨rfl, hb⟩) | (go_at_call 11; refine (Floor_c (by assumption)).mono ?_; rintro e w1 ⟨rfl, hb⟩) | (go_at_call 13; refine (Ceil_c (by assumption)).mono ?_; rintro e w1 ⟨rfl, hb⟩) | (go_at_call 15; refine (Near_c (by assumption)).mono ?_; rintro e w1 ⟨rfl, hb⟩) | (go_at_call 17; ((with_reducible refine (Sum3_c (by assumption)).mono ?_); rintro e w1 ⟨rfl, hb⟩)) | (go_at_call 17; ((with_reducible refine (Sum2_c (by assumption)).mono ?_); rintro e w1 ⟨rfl, hb⟩)))
    all_goals go_ret
    all_goals exact ⟨rfl, by assumption⟩
end Go.Proofs.Ythcbkagjlhchkaa
