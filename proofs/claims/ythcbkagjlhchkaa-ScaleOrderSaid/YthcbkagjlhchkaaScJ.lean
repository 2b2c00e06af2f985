/- The walk of the law on order of chapter 1: it returns true for all integers; nothing that was there has changed. -/
import Derived.Test.YthcbkagjlhchkaaScE
import Derived.Test.YthcbkagjlhchkaaScMath4
import Derived.OpenShut
import Derived.Deep.Cut
import Derived.Deep.CutRange
import Derived.Deep.DeepCutAuto
set_option linter.unusedVariables false
namespace Go.Proofs.Ythcbkagjlhchkaa
open Go.RowKit

theorem or3 {A B C : Bool} (h : A = false → B = false → C = true) : A = true ∨ (A = false ∧ B = true) ∨ (A = false ∧ B = false ∧ C = true) := by cases A <;> cases B <;> simp_all
theorem bne_f {x : Int} (h : (x != 0) = false) : x = 0 := by simpa using h
/-- where two roundings are times, they are what they are, and the factors are factors -/
theorem two_ok {a b n d u v : Int} (h1 : (Scm.rE a n d u != 0) = false) (h2 : (Scm.rE b n d v != 0) = false) : Scm.rV a n d u = u ∧ Scm.rV b n d v = v ∧ 0 ≤ n ∧ 1 ≤ d := by
  obtain ⟨o, _, e⟩ := Scm.r_ok (bne_f h1)
  obtain ⟨_, _, f⟩ := Scm.r_ok (bne_f h2)
  have := Scm.okB_d o
  exact ⟨e, f, by omega, by omega⟩
theorem ord_F {a b n d : Int} (h : a ≤ b) (h1 : (Scm.rE a n d (Scm.sF a n d) != 0) = false) (h2 : (Scm.rE b n d (Scm.sF b n d) != 0) = false) : decide (Scm.rV a n d (Scm.sF a n d) ≤ Scm.rV b n d (Scm.sF b n d)) = true := by
  obtain ⟨e, f, hn, hd⟩ := two_ok h1 h2
  rw [e, f]; exact decide_eq_true (Scm.sF_mono hn hd h)
theorem ord_C {a b n d : Int} (h : a ≤ b) (h1 : (Scm.rE a n d (Scm.sC a n d) != 0) = false) (h2 : (Scm.rE b n d (Scm.sC b n d) != 0) = false) : decide (Scm.rV a n d (Scm.sC a n d) ≤ Scm.rV b n d (Scm.sC b n d)) = true := by
  obtain ⟨e, f, hn, hd⟩ := two_ok h1 h2
  rw [e, f]; exact decide_eq_true (Scm.sC_mono hn hd h)
theorem ord_N {a b n d : Int} (h : a ≤ b) (h1 : (Scm.rE a n d (Scm.sN a n d) != 0) = false) (h2 : (Scm.rE b n d (Scm.sN b n d) != 0) = false) : decide (Scm.rV a n d (Scm.sN a n d) ≤ Scm.rV b n d (Scm.sN b n d)) = true := by
  obtain ⟨e, f, hn, hd⟩ := two_ok h1 h2
  rw [e, f]; exact decide_eq_true (Scm.sN_mono hn hd h)
theorem ord_FN {a n d : Int} (h1 : (Scm.rE a n d (Scm.sF a n d) != 0) = false) (h2 : (Scm.rE a n d (Scm.sN a n d) != 0) = false) : decide (Scm.rV a n d (Scm.sF a n d) ≤ Scm.rV a n d (Scm.sN a n d)) = true := by
  obtain ⟨e, f, hn, hd⟩ := two_ok h1 h2
  rw [e, f]; refine decide_eq_true ?_
  have := Scm.sC_eq (a := a) (n := n) hd
  have := Scm.sN_ways (a := a) (n := n) hd
  omega
theorem ord_NC {a n d : Int} (h1 : (Scm.rE a n d (Scm.sN a n d) != 0) = false) (h2 : (Scm.rE a n d (Scm.sC a n d) != 0) = false) : decide (Scm.rV a n d (Scm.sN a n d) ≤ Scm.rV a n d (Scm.sC a n d)) = true := by
  obtain ⟨e, f, hn, hd⟩ := two_ok h1 h2
  rw [e, f]; refine decide_eq_true ?_
  have := Scm.sC_eq (a := a) (n := n) hd
  have := Scm.sN_ways (a := a) (n := n) hd
  omega
set_option maxHeartbeats 2000000 in
set_option maxRecDepth 100000 in
theorem order_law (a b n d : Int) (w : World) (h1 : (Lit.int .i64 a).wf = true) (h2 : (Lit.int .i64 b).wf = true) (h3 : (Lit.int .i64 n).wf = true) (h4 : (Lit.int .i64 d).wf = true) :
    Calls Try.prog 6 #[.int .i64 a, .int .i64 b, .int .i64 n, .int .i64 d] w (LawPost w) := by
  have hb := Below.refl w.heap.size w
  obtain ⟨lo, hlo⟩ : ∃ lo, (if b < a then b else a) = lo := ⟨_, rfl⟩
  obtain ⟨hi, hhi⟩ : ∃ hi, (if a < b then b else a) = hi := ⟨_, rfl⟩
  have hle : lo ≤ hi := by subst hlo hhi; split <;> split <;> omega
  go_enter Try.func6, Try.ntmps6
  go_upto_region 5 with (first | (go_at_call 10; refine (head_c (by assumption)).mono ?_; rintro e w1 ⟨rfl, hb⟩) | (go_at_call 11; refine (Floor_c (by assumption)).mono ?_; rintro e w1 ⟨rfl, hb⟩) | (go_at_call 13; refine (Ceil_c (by assumption)).mono ?_; rintro e w1 ⟨rfl, hb⟩) | (go_at_call 15; refine (Near_c (by assumption)).mono ?_; rintro e w1 ⟨rfl, hb⟩) | (go_at_call 17; ((with_reducible refine (Sum3_c (by assumption)).mono ?_); rintro e w1 ⟨rfl, hb⟩)) | (go_at_call 17; ((with_reducible refine (Sum2_c (by assumption)).mono ?_); rintro e w1 ⟨rfl, hb⟩)))
  go_cut [9] (fun s9 wc => s9 = .bool true ∧ Below w.heap.size w wc)
  case first =>
    rcases or3 (ord_F (n := n) (d := d) hle) with c1 | ⟨c1, c2⟩ | ⟨c1, c2, c3⟩
    all_goals (go_wp2; go_meet; exact ⟨congrArg Value.bool (by first | rfl | assumption), by assumption⟩)
  case rest =>
    obtain ⟨rfl, hb⟩ := hcut
    go_upto_region 8 with (first | (go_at_call 10; refine (head_c (by assumption)).mono ?_; rintro e w1 ⟨rfl, hb⟩) | (go_at_call 11; refine (Floor_c (by assumption)).mono ?_; rintro e w1 ⟨rfl, hb⟩) | (go_at_call 13; refine (Ceil_c (by assumption)).mono ?_; rintro e w1 ⟨rfl, hb⟩) | (go_at_call 15; refine (Near_c (by assumption)).mono ?_; rintro e w1 ⟨rfl, hb⟩) | (go_at_call 17; ((with_reducible refine (Sum3_c (by assumption)).mono ?_); rintro e w1 ⟨rfl, hb⟩)) | (go_at_call 17; ((with_reducible refine (Sum2_c (by assumption)).mono ?_); rintro e w1 ⟨rfl, hb⟩)))
    go_cut [9] (fun s9 wc => s9 = .bool true ∧ Below w.heap.size w wc)
    case first =>
      rcases or3 (ord_N (n := n) (d := d) hle) with c1 | ⟨c1, c2⟩ | ⟨c1, c2, c3⟩
      all_goals rcases or3 (ord_FN (a := lo) (n := n) (d := d)) with e1 | ⟨e1, e2⟩ | ⟨e1, e2, e3⟩
      all_goals try (cases c1.symm.trans e2)
      all_goals (go_wp2; go_meet; exact ⟨congrArg Value.bool (by first | rfl | assumption), by assumption⟩)
    case rest =>
      obtain ⟨rfl, hb⟩ := hcut
      go_upto_region 11 with (first | (go_at_call 10; refine (head_c (by assumption)).mono ?_; rintro e w1 ⟨rfl, hb⟩) | (go_at_call 11; refine (Floor_c (by assumption)).mono ?_; rintro e w1 ⟨rfl, hb⟩) | (go_at_call 13; refine (Ceil_c (by assumption)).mono ?_; rintro e w1 ⟨rfl, hb⟩) | (go_at_call 15; refine (Near_c (by assumption)).mono ?_; rintro e w1 ⟨rfl, hb⟩) | (go_at_call 17; ((with_reducible refine (Sum3_c (by assumption)).mono ?_); rintro e w1 ⟨rfl, hb⟩)) | (go_at_call 17; ((with_reducible refine (Sum2_c (by assumption)).mono ?_); rintro e w1 ⟨rfl, hb⟩)))
      rcases or3 (ord_C (n := n) (d := d) hle) with c1 | ⟨c1, c2⟩ | ⟨c1, c2, c3⟩
      all_goals rcases or3 (ord_NC (a := lo) (n := n) (d := d)) with e1 | ⟨e1, e2⟩ | ⟨e1, e2, e3⟩
      all_goals try (cases c1.symm.trans e2)
      all_goals (go_wp2; go_ret; exact ⟨ret_bool (by first | rfl | assumption), by assumption⟩)
end Go.Proofs.Ythcbkagjlhchkaa
