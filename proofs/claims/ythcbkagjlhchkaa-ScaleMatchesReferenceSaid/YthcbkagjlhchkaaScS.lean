/- The contracts of the reference's Floor, Ceil, Near and Sum of chapter 1: for all integers they return the plain roundings and sums; nothing that was there has changed. -/
import Derived.Test.YthcbkagjlhchkaaScR
set_option linter.unusedVariables false
namespace Go.Proofs.Ythcbkagjlhchkaa
open Go.RowKit
theorem res_yes {a n d v : Int} (ho : Scm.okB a n d = true) : resV v true = Scm.rV a n d v ∧ resE v true = Scm.rE a n d v := by
  unfold resV resE Scm.rV Scm.rE; rw [ho]; simp
theorem res_no {a n d v : Int} (ho : Scm.okB a n d = true) (hv : Scm.isT v = false) (x : Int) : resV x false = Scm.rV a n d v ∧ resE x false = Scm.rE a n d v := by
  unfold resV resE Scm.rV Scm.rE; rw [ho, hv]; simp
/-- the ways of the reference's functions: no arguments; by far; a quotient -/
theorem ref_ways (a n d : Int) : Scm.okB a n d = false ∨
    (Scm.okB a n d = true ∧ 1 ≤ n ∧ (3000000000000000 / n < a / d ∨ 3000000000000000 / n + 1 < -(a / d)) ∧ Scm.isT (Scm.sF a n d) = false ∧ Scm.isT (Scm.sC a n d) = false ∧ Scm.isT (Scm.sN a n d) = false) ∨
    (Scm.okB a n d = true ∧ (n = 0 ∨ 1 ≤ n ∧ a / d ≤ 3000000000000000 / n ∧ -(a / d) ≤ 3000000000000000 / n + 1)) := by
  cases ho : Scm.okB a n d
  · exact .inl rfl
  · have hb := Scm.okB_d ho
    right
    by_cases hz : n = 0
    · exact .inr ⟨rfl, .inl hz⟩
    by_cases hf : 3000000000000000 / n < a / d ∨ 3000000000000000 / n + 1 < -(a / d)
    · have d1 := hb.2.2.2.2.1
      have e1 := (Scm.sF_div (a := a) (n := n) d1).1
      have e2 := Scm.sC_div (a := a) (n := n) d1
      have e3 := Scm.sN_exact (a := a) (n := n) (by omega) d1
      refine .inl ⟨rfl, by omega, hf, ?_, ?_, ?_⟩
      · exact Scm.far_no d1 hb.2.2.2.2.2 (by omega) hb.2.2.2.1 (.inl e1) hf
      · refine Scm.far_no d1 hb.2.2.2.2.2 (by omega) hb.2.2.2.1 ?_ hf
        rw [e2]; split
        · exact .inr rfl
        · exact .inl rfl
      · refine Scm.far_no d1 hb.2.2.2.2.2 (by omega) hb.2.2.2.1 ?_ hf
        rw [e3]; split
        · exact .inr rfl
        · exact .inl rfl
    · exact .inr ⟨rfl, .inr ⟨by omega, by omega, by omega⟩⟩
set_option maxHeartbeats 2000000 in
theorem rFloor_any (a n d : Int) (w : World) :
    Calls Try.prog 12 #[.int .i64 a, .int .i64 n, .int .i64 d] w (RetB (.tuple #[.int .i64 (Scm.rV a n d (Scm.sF a n d)), .int .i64 (Scm.rE a n d (Scm.sF a n d))]) w) := by
  rcases ref_ways a n d with ho | ⟨ho, n1, hf, v1, v2, v3⟩ | ⟨ho, hf⟩
  · have hz := Lib.hid (Scm.r_no (v := Scm.sF a n d) ho)
    go_enter Try.func12, Try.ntmps12
    go_wp2_with (go_at_call 21; refine (right_any _ _ _ _).mono ?_; rintro e w' ⟨rfl, rfl⟩)
    go_ret2
    exact ⟨ret_two hz.out.1.symm hz.out.2.symm, Below.refl _ _⟩
  · have hz := Lib.hid (res_no ho v1 0)
    obtain ⟨a1, a2, _, n2, d1, d2⟩ := Scm.okB_d ho
    have Hf := Lib.hid hf
    clear hf v1 v2 v3
    go_enter Try.func12, Try.ntmps12
    go_wp2_with (first | (go_at_call 21; refine (right_any _ _ _ _).mono ?_; rintro e w' ⟨rfl, rfl⟩) | (go_at_call 22; refine (split_no _ _ _ _ a1 a2 n1 n2 d1 d2 Hf.out).mono ?_; rintro e w' ⟨rfl, rfl⟩) | (go_at_call 23; refine (res_any _ _ _).mono ?_; rintro e w' ⟨rfl, rfl⟩))
    go_ret2
    exact ⟨ret_two hz.out.1 hz.out.2, Below.refl _ _⟩
  · have hz := Lib.hid (res_yes (v := Scm.sF a n d) ho)
    obtain ⟨a1, a2, n1, n2, d1, d2⟩ := Scm.okB_d ho
    have Hf := Lib.hid hf
    clear hf
    have hm0 := Int.emod_nonneg (a * n) (show d ≠ 0 by omega)
    have hm1 := Int.emod_lt_of_pos (a * n) (show 0 < d by omega)
    have hs : a * n / d = a / d * n + a % d * n / d := (Scm.split_eq (a := a) (n := n) d1).1
    have hw1 : -3000002000000001 ≤ a * n / d ∧ a * n / d ≤ 3000002000000001 := by
      have h0 := Int.emod_nonneg a (show d ≠ 0 by omega)
      have h1 := Int.emod_lt_of_pos a (show 0 < d by omega)
      have hp := Scm.part_bd d1 d2 h0 h1 n1 n2
      rcases Hf.out with h | ⟨h, u1, u2⟩
      · subst h; simp
      · have e1 := Scm.near_bd h u1
        have e2 := Scm.near_bd (Q := -(a / d) - 1) h (by omega)
        rw [Int.sub_mul, Int.neg_mul] at e2; omega
    clear hs
    have HS : Hid (Scm.sF a n d = a * n / d) := Lib.hid (Scm.sF_div d1).1
    obtain ⟨W, hW⟩ : ∃ x, a * n / d = x := ⟨_, rfl⟩
    obtain ⟨R, hR⟩ : ∃ x, a * n % d = x := ⟨_, rfl⟩
    rw [hW] at HS hw1
    skip
    rw [hR] at hm0 hm1
    have sp := Lib.hid (split_yes a n d w a1 a2 n1 n2 d1 d2 Hf.out)
    rw [hW, hR] at sp
    clear hW hR
    obtain ⟨w1, w2⟩ := hw1
    go_enter Try.func12, Try.ntmps12
    go_wp2_with (first | (go_at_call 21; refine (right_any _ _ _ _).mono ?_; rintro e w' ⟨rfl, rfl⟩) | (go_at_call 22; refine sp.out.mono ?_; rintro e w1 ⟨rfl, hb⟩) | (go_at_call 23; refine (res_any _ _ _).mono ?_; rintro e w' ⟨rfl, rfl⟩))
    go_ret2
    exact ⟨ret_two (by rw [← hz.out.1, HS.out]) (by rw [← hz.out.2, HS.out]), hb⟩
set_option maxHeartbeats 2000000 in
theorem rCeil_any (a n d : Int) (w : World) :
    Calls Try.prog 14 #[.int .i64 a, .int .i64 n, .int .i64 d] w (RetB (.tuple #[.int .i64 (Scm.rV a n d (Scm.sC a n d)), .int .i64 (Scm.rE a n d (Scm.sC a n d))]) w) := by
  rcases ref_ways a n d with ho | ⟨ho, n1, hf, v1, v2, v3⟩ | ⟨ho, hf⟩
  · have hz := Lib.hid (Scm.r_no (v := Scm.sC a n d) ho)
    go_enter Try.func14, Try.ntmps14
    go_wp2_with (go_at_call 21; refine (right_any _ _ _ _).mono ?_; rintro e w' ⟨rfl, rfl⟩)
    go_ret2
    exact ⟨ret_two hz.out.1.symm hz.out.2.symm, Below.refl _ _⟩
  · have hz := Lib.hid (res_no ho v2 0)
    obtain ⟨a1, a2, _, n2, d1, d2⟩ := Scm.okB_d ho
    have Hf := Lib.hid hf
    clear hf v1 v2 v3
    go_enter Try.func14, Try.ntmps14
    go_wp2_with (first | (go_at_call 21; refine (right_any _ _ _ _).mono ?_; rintro e w' ⟨rfl, rfl⟩) | (go_at_call 22; refine (split_no _ _ _ _ a1 a2 n1 n2 d1 d2 Hf.out).mono ?_; rintro e w' ⟨rfl, rfl⟩) | (go_at_call 23; refine (res_any _ _ _).mono ?_; rintro e w' ⟨rfl, rfl⟩))
    go_ret2
    exact ⟨ret_two hz.out.1 hz.out.2, Below.refl _ _⟩
  · have hz := Lib.hid (res_yes (v := Scm.sC a n d) ho)
    obtain ⟨a1, a2, n1, n2, d1, d2⟩ := Scm.okB_d ho
    have Hf := Lib.hid hf
    clear hf
    have hm0 := Int.emod_nonneg (a * n) (show d ≠ 0 by omega)
    have hm1 := Int.emod_lt_of_pos (a * n) (show 0 < d by omega)
    have hs : a * n / d = a / d * n + a % d * n / d := (Scm.split_eq (a := a) (n := n) d1).1
    have hw1 : -3000002000000001 ≤ a * n / d ∧ a * n / d ≤ 3000002000000001 := by
      have h0 := Int.emod_nonneg a (show d ≠ 0 by omega)
      have h1 := Int.emod_lt_of_pos a (show 0 < d by omega)
      have hp := Scm.part_bd d1 d2 h0 h1 n1 n2
      rcases Hf.out with h | ⟨h, u1, u2⟩
      · subst h; simp
      · have e1 := Scm.near_bd h u1
        have e2 := Scm.near_bd (Q := -(a / d) - 1) h (by omega)
        rw [Int.sub_mul, Int.neg_mul] at e2; omega
    clear hs
    have HS : Hid (Scm.sC a n d = if 0 < a * n % d then a * n / d + 1 else a * n / d) := Lib.hid (Scm.sC_div d1)
    obtain ⟨W, hW⟩ : ∃ x, a * n / d = x := ⟨_, rfl⟩
    obtain ⟨R, hR⟩ : ∃ x, a * n % d = x := ⟨_, rfl⟩
    rw [hW] at HS hw1
    rw [hR] at HS
    rw [hR] at hm0 hm1
    have sp := Lib.hid (split_yes a n d w a1 a2 n1 n2 d1 d2 Hf.out)
    rw [hW, hR] at sp
    clear hW hR
    obtain ⟨w1, w2⟩ := hw1
    by_cases hc : 0 < R
    · rw [if_pos hc] at HS
      go_enter Try.func14, Try.ntmps14
      go_wp2_with (first | (go_at_call 21; refine (right_any _ _ _ _).mono ?_; rintro e w' ⟨rfl, rfl⟩) | (go_at_call 22; refine sp.out.mono ?_; rintro e w1 ⟨rfl, hb⟩) | (go_at_call 23; refine (res_any _ _ _).mono ?_; rintro e w' ⟨rfl, rfl⟩))
      go_ret2
      exact ⟨ret_two (by rw [← hz.out.1, HS.out]) (by rw [← hz.out.2, HS.out]), hb⟩
    · rw [if_neg hc] at HS
      go_enter Try.func14, Try.ntmps14
      go_wp2_with (first | (go_at_call 21; refine (right_any _ _ _ _).mono ?_; rintro e w' ⟨rfl, rfl⟩) | (go_at_call 22; refine sp.out.mono ?_; rintro e w1 ⟨rfl, hb⟩) | (go_at_call 23; refine (res_any _ _ _).mono ?_; rintro e w' ⟨rfl, rfl⟩))
      go_ret2
      exact ⟨ret_two (by rw [← hz.out.1, HS.out]) (by rw [← hz.out.2, HS.out]), hb⟩
set_option maxHeartbeats 2000000 in
theorem rNear_any (a n d : Int) (w : World) :
    Calls Try.prog 16 #[.int .i64 a, .int .i64 n, .int .i64 d] w (RetB (.tuple #[.int .i64 (Scm.rV a n d (Scm.sN a n d)), .int .i64 (Scm.rE a n d (Scm.sN a n d))]) w) := by
  rcases ref_ways a n d with ho | ⟨ho, n1, hf, v1, v2, v3⟩ | ⟨ho, hf⟩
  · have hz := Lib.hid (Scm.r_no (v := Scm.sN a n d) ho)
    go_enter Try.func16, Try.ntmps16
    go_wp2_with (go_at_call 21; refine (right_any _ _ _ _).mono ?_; rintro e w' ⟨rfl, rfl⟩)
    go_ret2
    exact ⟨ret_two hz.out.1.symm hz.out.2.symm, Below.refl _ _⟩
  · have hz := Lib.hid (res_no ho v3 0)
    obtain ⟨a1, a2, _, n2, d1, d2⟩ := Scm.okB_d ho
    have Hf := Lib.hid hf
    clear hf v1 v2 v3
    go_enter Try.func16, Try.ntmps16
    go_wp2_with (first | (go_at_call 21; refine (right_any _ _ _ _).mono ?_; rintro e w' ⟨rfl, rfl⟩) | (go_at_call 22; refine (split_no _ _ _ _ a1 a2 n1 n2 d1 d2 Hf.out).mono ?_; rintro e w' ⟨rfl, rfl⟩) | (go_at_call 23; refine (res_any _ _ _).mono ?_; rintro e w' ⟨rfl, rfl⟩))
    go_ret2
    exact ⟨ret_two hz.out.1 hz.out.2, Below.refl _ _⟩
  · have hz := Lib.hid (res_yes (v := Scm.sN a n d) ho)
    obtain ⟨a1, a2, n1, n2, d1, d2⟩ := Scm.okB_d ho
    have Hf := Lib.hid hf
    clear hf
    have hm0 := Int.emod_nonneg (a * n) (show d ≠ 0 by omega)
    have hm1 := Int.emod_lt_of_pos (a * n) (show 0 < d by omega)
    have hs : a * n / d = a / d * n + a % d * n / d := (Scm.split_eq (a := a) (n := n) d1).1
    have hw1 : -3000002000000001 ≤ a * n / d ∧ a * n / d ≤ 3000002000000001 := by
      have h0 := Int.emod_nonneg a (show d ≠ 0 by omega)
      have h1 := Int.emod_lt_of_pos a (show 0 < d by omega)
      have hp := Scm.part_bd d1 d2 h0 h1 n1 n2
      rcases Hf.out with h | ⟨h, u1, u2⟩
      · subst h; simp
      · have e1 := Scm.near_bd h u1
        have e2 := Scm.near_bd (Q := -(a / d) - 1) h (by omega)
        rw [Int.sub_mul, Int.neg_mul] at e2; omega
    clear hs
    have HS : Hid (Scm.sN a n d = if d < 2 * (a * n % d) ∨ 2 * (a * n % d) = d ∧ 0 ≤ a * n / d then a * n / d + 1 else a * n / d) := Lib.hid (Scm.sN_exact n1 d1)
    obtain ⟨W, hW⟩ : ∃ x, a * n / d = x := ⟨_, rfl⟩
    obtain ⟨R, hR⟩ : ∃ x, a * n % d = x := ⟨_, rfl⟩
    rw [hW] at HS hw1
    rw [hR] at HS
    rw [hR] at hm0 hm1
    have sp := Lib.hid (split_yes a n d w a1 a2 n1 n2 d1 d2 Hf.out)
    rw [hW, hR] at sp
    clear hW hR
    obtain ⟨w1, w2⟩ := hw1
    by_cases hc : d < 2 * R
    · rw [if_pos (.inl hc)] at HS
      go_enter Try.func16, Try.ntmps16
      go_wp2_with (first | (go_at_call 21; refine (right_any _ _ _ _).mono ?_; rintro e w' ⟨rfl, rfl⟩) | (go_at_call 22; refine sp.out.mono ?_; rintro e w1 ⟨rfl, hb⟩) | (go_at_call 23; refine (res_any _ _ _).mono ?_; rintro e w' ⟨rfl, rfl⟩))
      go_ret2
      exact ⟨ret_two (by rw [← hz.out.1, HS.out]) (by rw [← hz.out.2, HS.out]), hb⟩
    by_cases hc2 : 2 * R = d
    · by_cases hc3 : 0 ≤ W
      · rw [if_pos (.inr ⟨hc2, hc3⟩)] at HS
        have hq : (2 * R == d) = true := by simpa using hc2
        have hq2 : decide (0 ≤ W) = true := decide_eq_true hc3
        clear hc2
        go_enter Try.func16, Try.ntmps16
        go_wp2_with (first | (go_at_call 21; refine (right_any _ _ _ _).mono ?_; rintro e w' ⟨rfl, rfl⟩) | (go_at_call 22; refine sp.out.mono ?_; rintro e w1 ⟨rfl, hb⟩) | (go_at_call 23; refine (res_any _ _ _).mono ?_; rintro e w' ⟨rfl, rfl⟩))
        go_ret2
        exact ⟨ret_two (by rw [← hz.out.1, HS.out]) (by rw [← hz.out.2, HS.out]), hb⟩
      · rw [if_neg (by omega)] at HS
        have hq : (2 * R == d) = true := by simpa using hc2
        have hq2 : decide (0 ≤ W) = false := decide_eq_false hc3
        clear hc2
        go_enter Try.func16, Try.ntmps16
        go_wp2_with (first | (go_at_call 21; refine (right_any _ _ _ _).mono ?_; rintro e w' ⟨rfl, rfl⟩) | (go_at_call 22; refine sp.out.mono ?_; rintro e w1 ⟨rfl, hb⟩) | (go_at_call 23; refine (res_any _ _ _).mono ?_; rintro e w' ⟨rfl, rfl⟩))
        go_ret2
        exact ⟨ret_two (by rw [← hz.out.1, HS.out]) (by rw [← hz.out.2, HS.out]), hb⟩
    · rw [if_neg (by omega)] at HS
      have hq : (2 * R == d) = false := by simpa using hc2
      clear hc2
      go_enter Try.func16, Try.ntmps16
      go_wp2_with (first | (go_at_call 21; refine (right_any _ _ _ _).mono ?_; rintro e w' ⟨rfl, rfl⟩) | (go_at_call 22; refine sp.out.mono ?_; rintro e w1 ⟨rfl, hb⟩) | (go_at_call 23; refine (res_any _ _ _).mono ?_; rintro e w' ⟨rfl, rfl⟩))
      go_ret2
      exact ⟨ret_two (by rw [← hz.out.1, HS.out]) (by rw [← hz.out.2, HS.out]), hb⟩
theorem allT_nil : Scm.allT [] = true := rfl
set_option maxHeartbeats 1000000 in
theorem rSum_any (B : Nat) (A : Option Addr) (n c : Nat) (l : List Int) (w : World) (hl : Is B w A n l) (hn : n ≤ 1000) :
    Calls Try.prog 18 #[.slice A n c] w (RetB (.tuple #[.int .i64 (Scm.suV l), .int .i64 (Scm.suE l)]) w) := by
  obtain ⟨hlen, hcell⟩ := hl
  have Hlen := Lib.hid hlen
  clear hlen
  go_enter Try.func18, Try.ntmps18
  go_wp2
  go_loop [4, 5] (fun t i => ∃ k : Nat, k ≤ n ∧ i = .int .i64 k ∧ Hid (Scm.allT (l.take k) = true) ∧ t = .int .i64 (Scm.tot (l.take k))) (fun _ i => n - (intOf i).toNat)
  case atStart => exact ⟨0, Nat.zero_le _, rfl, Lib.hid rfl, rfl⟩
  case round =>
    obtain ⟨k, hk, rfl, hall, rfl⟩ := hrel
    have hbd := Scm.tot_bd hall.out
    have hlk : ((l.take k).length : Int) ≤ 1000 := by have := Hlen.out; simp; omega
    have hb1 : -3000000000000000000 ≤ Scm.tot (l.take k) := by omega
    have hb2 : Scm.tot (l.take k) ≤ 3000000000000000000 := by omega
    clear hbd hlk
    by_cases hlt : k < n
    · obtain ⟨b, off, rfl, hbB, hc⟩ := hcell (by omega)
      have c0 := hc k hlt
      have hts := take_snoc Hlen.out hlt
      have has := allT_snoc Hlen.out hlt
      generalize l[k]?.getD 0 = x at *
      have Hts : Hid (Scm.tot (l.take (k + 1)) = Scm.tot (l.take k) + x) := Lib.hid (by rw [hts, Scm.tot_append]; simp [Scm.tot])
      rw [hall.out, Bool.true_and] at has
      have Has := Lib.hid has
      clear hc hcell hts has
      cases hx : Scm.isT x
      · have hz := Lib.hid (Scm.su_no (allT_false (Has.out.trans hx)))
        go_wp2_with (go_at_call 27; refine (rTime_any _ _).mono ?_; rintro e w' ⟨rfl, rfl⟩)
        go_ret2
        exact ⟨ret_two hz.out.1.symm hz.out.2.symm, Below.refl _ _⟩
      · have hxb := Scm.isT_bd hx
        have hal := Lib.hid (Has.out.trans hx)
        go_wp2_with (go_at_call 27; refine (rTime_any _ _).mono ?_; rintro e w' ⟨rfl, rfl⟩)
        go_round
        case rel => exact ⟨k + 1, by omega, by go_num, hal, by rw [Hts.out]⟩
        case measure => simp [intOf]; omega
    · obtain rfl : k = n := by omega
      have e : l.take k = l := List.take_of_length_le (by rw [Hlen.out]; omega)
      rw [e] at hall hb1 hb2 ⊢
      cases ht : Scm.isT (Scm.tot l)
      · have hz := Lib.hid (Scm.su_far hall.out ht)
        go_wp2_with (go_at_call 27; refine (rTime_any _ _).mono ?_; rintro e w' ⟨rfl, rfl⟩)
        go_ret2
        exact ⟨ret_two hz.out.1.symm hz.out.2.symm, Below.refl _ _⟩
      · have hz := Lib.hid (Scm.su_yes hall.out ht)
        go_wp2_with (go_at_call 27; refine (rTime_any _ _).mono ?_; rintro e w' ⟨rfl, rfl⟩)
        go_ret2
        exact ⟨ret_two hz.out.1.symm hz.out.2.symm, Below.refl _ _⟩
end Go.Proofs.Ythcbkagjlhchkaa
