/- The contracts of the reference's Floor, Ceil, Near and Sum of chapter 1: for all integers they return the plain roundings and sums; nothing that was there has changed. -/
import Derived.Test.YtlmdjkkeocmehaaScR
set_option linter.unusedVariables false
namespace Go.Proofs.Ytlmdjkkeocmehaa
open Go.RowKit
theorem res_yes {a n d v : Int} (ho : Scm.okB a n d = true) : resV v true = Scm.rV a n d v ∧ resE v true = Scm.rE a n d v := by
  unfold resV resE Scm.rV Scm.rE; rw [ho]; simp
theorem res_no {a n d v : Int} (ho : Scm.okB a n d = true) (hv : Scm.isT v = false) (x : Int) : resV x false = Scm.rV a n d v ∧ resE x false = Scm.rE a n d v := by
  unfold resV resE Scm.rV Scm.rE; rw [ho, hv]; simp
/-- the ways of the reference's functions: no arguments; by far; a quotient -/
theorem ref_ways (a n d : Int) : Scm.okB a n d = false ∨
    (Scm.okB a n d = true ∧ 1 ≤ n ∧ (3000000000000000 / n < a / d ∨ 3000000000000000 / n + 1 < -(a / d)) ∧ Scm.isT (Scm.sF a n d) = false ∧ Scm.isT (Scm.sC a n d) = false ∧ Scm.isT (Scm.sN a n d) = false) ∨
    (Scm.okB a n d = true ∧ (n = 0 ∨ 1 ≤ n ∧ a / d ≤ 3000000000000000 / n ∧ -(a / d) ≤ 3000000000000000 / n + 1)) := by
  cases ho : Scm.okB a n d
  · exact .inl rfl
  · have hb := Scm.okB_d ho
    right
    by_cases hz : n = 0
    · exact .inr ⟨rfl, .inl hz⟩
    by_cases hf : 3000000000000000 / n < a / d ∨ 3000000000000000 / n + 1 < -(a / d)
    · have d1 := hb.2.2.2.2.1
      have e1 := (Scm.sF_div (a := a) (n := n) d1).1
      have e2 := Scm.sC_div (a := a) (n := n) d1
      have e3 := Scm.sN_exact (a := a) (n := n) (by omega) d1
      refine .inl ⟨rfl, by omega, hf, ?_, ?_, ?_⟩
      · exact Scm.far_no d1 hb.2.2.2.2.2 (by omega) hb.2.2.2.1 (.inl e1) hf
      · refine Scm.far_no d1 hb.2.2.2.2.2 (by omega) hb.2.2.2.1 ?_ hf
        rw [e2]; split
        · exact .inr rfl
        · exact .inl rfl
      · refine Scm.far_no d1 hb.2.2.2.2.2 (by omega) hb.2.2.2.1 ?_ hf
        rw [e3]; split
        · exact .inr rfl
        · exact .inl rfl
    · exact .inr ⟨rfl, .inr ⟨by omega, by omega, by omega⟩⟩
set_option maxHeartbeats 2000000 in
theorem rFloor_any (a n d : Int) (w : World) :
    Calls Try.prog 40 #[.int .i64 a, .int .i64 n, .int .i64 d] w (RetB (.tuple #[.int .i64 (Scm.rV a n d (Scm.sF a n d)), .int .i64 (Scm.rE a n d (Scm.sF a n d))]) w) := by
  rcases ref_ways a n d with ho | ⟨ho, n1, hf, v1, v2, v3⟩ | ⟨ho, hf⟩
  · have hz := Lib.hid (Scm.r_no (v := Scm.sF a n d) ho)
    go_enter Try.func40, Try.ntmps40
    go_wp2_with (go_at_call 49; refine (right_any _ _ _ _).mono ?_; rintro e w' ⟨rfl, rfl⟩)
    go_ret2
    exact ⟨ret_two hz.out.1.symm hz.out.2.symm, Below.refl _ _⟩
  · have hz := Lib.hid (res_no ho v1 0)
    obtain ⟨a1, a2, _, n2, d1, d2⟩ := Scm.okB_d ho
    have Hf := Lib.hid hf
    clear hf v1 v2 v3
    go_enter Try.func40, Try.ntmps40
    go_wp2_with (first | (go_at_call 49; refine (right_any _ _ _ _).mono ?_; rintro e w' ⟨rfl, rfl⟩) | (go_at_call 50; refine (split_no _ _ _ _ a1 a2 n1 n2 d1 d2 Hf.out).mono ?_; rintro e w' ⟨rfl, rfl⟩) | (go_at_call 51; refine (res_any _ _ _).mono ?_; rintro e w' ⟨rfl, rfl⟩))
    go_ret2
    exact ⟨ret_two hz.out.1 hz.out.2, Below.refl _ _⟩
  · have hz := Lib.hid (res_yes (v := Scm.sF a n d) ho)
    obtain ⟨a1, a2, n1, n2, d1, d2⟩ := Scm.okB_d ho
    have Hf := Lib.hid hf
    clear hf
    have hm0 := Int.emod_nonneg (a * n) (show d ≠ 0 by omega)
    have hm1 := Int.emod_lt_of_pos (a * n) (show 0 < d by omega)
    have hs : a * n / d = a / d * n + a % d * n / d := (Scm.split_eq (a := a) (n := n) d1).1
    have hw1 : -3000002000000001 ≤ a * n / d ∧ a * n / d ≤ 3000002000000001 := by
      have h0 := Int.emod_nonneg a (show d ≠ 0 by omega)
      have h1 := Int.emod_lt_of_pos a (show 0 < d by omega)
      have hp := Scm.part_bd d1 d2 h0 h1 n1 n2
      rcases Hf.out with h | ⟨h, u1, u2⟩
      · subst h; simp
      · have e1 := Scm.near_bd h u1
        have e2 := Scm.near_bd (Q := -(a / d) - 1) h (by omega)
        rw [Int.sub_mul, Int.neg_mul] at e2; omega
    clear hs
    have HS : Hid (Scm.sF a n d = a * n / d) := Lib.hid (Scm.sF_div d1).1
    obtain ⟨W, hW⟩ : ∃ x, a * n / d = x := ⟨_, rfl⟩
    obtain ⟨R, hR⟩ : ∃ x, a * n % d = x := ⟨_, rfl⟩
    rw [hW] at HS hw1
    skip
    rw [hR] at hm0 hm1
    have sp := Lib.hid (split_yes a n d w a1 a2 n1 n2 d1 d2 Hf.out)
    rw [hW, hR] at sp
    clear hW hR
    obtain ⟨w1, w2⟩ := hw1
    go_enter Try.func40, Try.ntmps40
    go_wp2_with (first | (go_at_call 49; refine (right_any _ _ _ _).mono ?_; rintro e w' ⟨rfl, rfl⟩) | (go_at_call 50; refine sp.out.mono ?_; rintro e w1 ⟨rfl, hb⟩) | (go_at_call 51; refine (res_any _ _ _).mono ?_; rintro e w' ⟨rfl, rfl⟩))
    go_ret2
    exact ⟨ret_two (by rw [← hz.out.1, HS.out]) (by rw [← hz.out.2, HS.out]), hb⟩
set_option maxHeartbeats 2000000 in
theorem rCeil_any (a n d : Int) (w : World) :
    Calls Try.prog 41 #[.int .i64 a, .int .i64 n, .int .i64 d] w (RetB (.tuple #[.int .i64 (Scm.rV a n d (Scm.sC a n d)), .int .i64 (Scm.rE a n d (Scm.sC a n d))]) w) := by
  rcases ref_ways a n d with ho | ⟨ho, n1, hf, v1, v2, v3⟩ | ⟨ho, hf⟩
  · have hz := Lib.hid (Scm.r_no (v := Scm.sC a n d) ho)
    go_enter Try.func41, Try.ntmps41
    go_wp2_with (go_at_call 49; refine (right_any _ _ _ _).mono ?_; rintro e w' ⟨rfl, rfl⟩)
    go_ret2
    exact ⟨ret_two hz.out.1.symm hz.out.2.symm, Below.refl _ _⟩
  · have hz := Lib.hid (res_no ho v2 0)
    obtain ⟨a1, a2, _, n2, d1, d2⟩ := Scm.okB_d ho
    have Hf := Lib.hid hf
    clear hf v1 v2 v3
    go_enter Try.func41, Try.ntmps41
    go_wp2_with (first | (go_at_call 49; refine (right_any _ _ _ _).mono ?_; rintro e w' ⟨rfl, rfl⟩) | (go_at_call 50; refine (split_no _ _ _ _ a1 a2 n1 n2 d1 d2 Hf.out).mono ?_; rintro e w' ⟨rfl, rfl⟩) | (go_at_call 51; refine (res_any _ _ _).mono ?_; rintro e w' ⟨rfl, rfl⟩))
    go_ret2
    exact ⟨ret_two hz.out.1 hz.out.2, Below.refl _ _⟩
  · have hz := Lib.hid (res_yes (v := Scm.sC a n d) ho)
    obtain ⟨a1, a2, n1, n2, d1, d2⟩ := Scm.okB_d ho
    have Hf := Lib.hid hf
    clear hf
    have hm0 := Int.emod_nonneg (a * n) (show d ≠ 0 by omega)
    have hm1 := Int.emod_lt_of_pos (a * n) (show 0 < d by omega)
    have hs : a * n / d = a / d * n + a % d * n / d := (Scm.split_eq (a := a) (n := n) d1).1
    have hw1 : -3000002000000001 ≤ a * n / d ∧ a * n / d ≤ 3000002000000001 := by
      have h0 := Int.emod_nonneg a (show d ≠ 0 by omega)
      have h1 := Int.emod_lt_of_pos a (show 0 < d by omega)
      have hp := Scm.part_bd d1 d2 h0 h1 n1 n2
      rcases Hf.out with h | ⟨h, u1, u2⟩
      · subst h; simp
      · have e1 := Scm.near_bd h u1
        have e2 := Scm.near_bd (Q := -(a / d) - 1) h (by omega)
        rw [Int.sub_mul, Int.neg_mul] at e2; omega
    clear hs
    have HS : Hid (Scm.sC a n d = if 0 < a * n % d then a * n / d + 1 else a * n / d) := Lib.hid (Scm.sC_div d1)
    obtain ⟨W, hW⟩ : ∃ x, a * n / d = x := ⟨_, rfl⟩
    obtain ⟨R, hR⟩ : ∃ x, a * n % d = x := ⟨_, rfl⟩
    rw [hW] at HS hw1
    rw [hR] at HS
    rw [hR] at hm0 hm1
    have sp := Lib.hid (split_yes a n d w a1 a2 n1 n2 d1 d2 Hf.out)
    rw [hW, hR] at sp
    clear hW hR
    obtain ⟨w1, w2⟩ := hw1
    by_cases hc : 0 < R
    · rw [if_pos hc] at HS
      go_enter Try.func41, Try.ntmps41
      go_wp2_with (first | (go_at_call 49; refine (right_any _ _ _ _).mono ?_; rintro e w' ⟨rfl, rfl⟩) | (go_at_call 50; refine sp.out.mono ?_; rintro e w1 ⟨rfl, hb⟩) | (go_at_call 51; refine (res_any _ _ _).mono ?_; rintro e w' ⟨rfl, rfl⟩))
      go_ret2
      exact ⟨ret_two (by rw [← hz.out.1, HS.out]) (by rw [← hz.out.2, HS.out]), hb⟩
    · rw [if_neg hc] at HS
      go_enter Try.func41, Try.ntmps41
      go_wp2_with (first | (go_at_call 49; refine (right_any _ _ _ _).mono ?_; rintro e w' ⟨rfl, rfl⟩) | (go_at_call 50; refine sp.out.mono ?_; rintro e w1 ⟨rfl, hb⟩) | (go_at_call 51; refine (res_any _ _ _).mono ?_; rintro e w' ⟨rfl, rfl⟩))
      go_ret2
      exact ⟨ret_two (by rw [← hz.out.1, HS.out]) (by rw [← hz.out.2, HS.out]), hb⟩
end Go.Proofs.Ytlmdjkkeocmehaa
