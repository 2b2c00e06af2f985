/- The contracts of slew.Show, slew.Start and slew.speed. -/
import Derived.Test.YtoeaclkmnnopmaaSlA
set_option linter.unusedVariables false
namespace Go.Proofs.Ytoeaclkmnnopmaa
open Go.RowKit
set_option maxHeartbeats 1000000 in
theorem Show_any (a s r t : Int) (w : World) : Calls Try.prog 10 #[O3 a s r, .int .i64 t] w (RetB (.tuple #[.int .i64 (Slm.shV a s r t), .int .i64 (Slm.shE a s r t)]) w) := by
  have hb0 : Below w.heap.size w (w.alloc (.cells #[.int .i64 a, .int .i64 s, .int .i64 r] 23)) := (Below.refl _ _).alloc (Nat.le_refl _) _
  go_enter Try.func10, Try.ntmps10
  go_wp2_with (go_at_call 17; refine (shows_any _ _ _ _ _).mono ?_; rintro e w1 ⟨rfl, hb1⟩)
  go_ret2
  exact ⟨rfl, hb0.trans (hb1.mono hb0.size)⟩
theorem Show_c {a s r t : Int} {w0 w : World} (hb : Below w0.heap.size w0 w) : Calls Try.prog 10 #[O3 a s r, .int .i64 t] w (RetB (.tuple #[.int .i64 (Slm.shV a s r t), .int .i64 (Slm.shE a s r t)]) w0) := chain hb (Show_any a s r t w)
theorem on_any (s n : Int) (w : World) (hs : s = 1 ∨ s = -1) (h0 : 0 ≤ n) (h1 : n ≤ 1000000000) : Calls Try.prog 23 #[.int .i64 s, .int .i64 n] w (Ret (.int .i64 (s * n)) w) := by
  rcases hs with rfl | rfl
  all_goals
    go_enter Try.func23, Try.ntmps23
    go_wp2
    go_ret
    exact ⟨ret_int (by omega), rfl⟩
theorem speed_far (d l h : Int) (h1 : 1 ≤ h) (hl : l ≤ 100000000) : (d < 0 → h ≤ -d → Slm.spd d l h = -l) ∧ (0 ≤ d → h ≤ d → Slm.spd d l h = l) := by
  constructor
  · intro h0 hd; unfold Slm.spd; rw [if_pos h0, Slm.nr9_far h1 hd hl]
  · intro h0 hd; unfold Slm.spd; rw [if_neg (by omega), Slm.nr9_far h1 hd hl]
/-- the steps of the division, named -/
theorem speed_steps {D l h : Int} (h0 : 0 ≤ D) (h1 : 1 ≤ h) (hD : D < h) (h2 : h ≤ 1000000000000) : ∃ Q R Q2 R2 : Int, D * 100000 / h = Q ∧ D * 100000 % h = R ∧ R * 10000 / h = Q2 ∧ R * 10000 % h = R2 ∧ 0 ≤ Q ∧ Q < 100000 ∧ 0 ≤ R ∧ R < h ∧ 0 ≤ Q2 ∧ Q2 < 10000 ∧ 0 ≤ R2 ∧ R2 < h ∧
    Slm.nr9 D h = if h ≤ 2 * R2 then Q * 10000 + Q2 + 1 else Q * 10000 + Q2 := by
  obtain ⟨e1, e2⟩ := Slm.nr9_steps h0 h1
  have e3 := Slm.nr9_eq h0 h1
  rw [← e1, ← e2] at e3
  have b1 := Int.emod_nonneg (D * 100000) (show h ≠ 0 by omega)
  have b2 := Int.emod_lt_of_pos (D * 100000) (show 0 < h by omega)
  refine ⟨_, _, _, _, rfl, rfl, rfl, rfl, Int.ediv_nonneg (by omega) (by omega), Int.ediv_lt_of_lt_mul (by omega) (by omega), b1, b2, Int.ediv_nonneg (by omega) (by omega), Int.ediv_lt_of_lt_mul (by omega) (by omega), Int.emod_nonneg _ (by omega), Int.emod_lt_of_pos _ (by omega), e3⟩
set_option maxHeartbeats 2000000 in
theorem speed_any (d l h : Int) (w : World) (d1 : -3000000000000000 ≤ d) (d2 : d ≤ 3000000000000000) (l1 : 0 ≤ l) (l2 : l ≤ 100000000) (h1 : 1 ≤ h) (h2 : h ≤ 1000000000000) :
    Calls Try.prog 21 #[.int .i64 d, .int .i64 l, .int .i64 h] w (RetB (.int .i64 (Slm.spd d l h)) w) := by
  have hhz : (h == 0) = false := by simp; omega
  have hz : ¬ h = 0 := by omega
  by_cases s : d < 0
  · by_cases f : h ≤ -d
    · have HS := Lib.hid ((speed_far d l h h1 l2).1 s f)
      go_enter Try.func21, Try.ntmps21
      go_wp2_with (go_at_call 23; refine (on_any _ _ _ (by simp) (by omega) (by omega)).mono ?_; rintro e w' ⟨rfl, rfl⟩)
      go_ret
      exact ⟨ret_int (by rw [HS.out] <;> omega), Below.refl _ _⟩
    · obtain ⟨Q, R, Q2, R2, q1, q2, q3, q4, b1, b2, b3, b4, b5, b6, b7, b8, hN⟩ := speed_steps (D := -d) (l := l) (by omega) h1 (by omega) h2
      have HS : Hid (Slm.spd d l h = -(if l < Slm.nr9 (-d) h then l else Slm.nr9 (-d) h)) := Lib.hid (by unfold Slm.spd Slm.cut; rw [if_pos s])
      rw [hN] at HS
      clear hN
      have ht1 : (-d * 100000).tdiv h = Q := by rw [Int.tdiv_eq_ediv_of_nonneg (by omega)]; exact q1
      have ht2 : (-d * 100000).tmod h = R := by rw [Int.tmod_eq_emod_of_nonneg (by omega)]; exact q2
      have w0 : IntKind.i64.wrap (-d * 100000) = -d * 100000 := IntWalk.i64_in _ (by omega)
      have w1 : IntKind.i64.wrap Q = Q := IntWalk.i64_in _ (by omega)
      have w2 : IntKind.i64.wrap R = R := IntWalk.i64_in _ (by omega)
      by_cases c : h ≤ 2 * R2
      · rw [if_pos c] at HS
        by_cases c2 : l < Q * 10000 + Q2 + 1
        all_goals
          go_enter Try.func21, Try.ntmps21
          go_wp2
          go_quiet (fail)
          clear ht1 ht2 w0 w1 w2 q1 q2
          go_wp2_with (go_at_call 23; refine (on_any _ _ _ (by simp) (by omega) (by omega)).mono ?_; rintro e w' ⟨rfl, rfl⟩)
          go_ret
          exact ⟨ret_int (by rw [HS.out]; split <;> omega), below_drewN (Below.refl _ _) _⟩
      · rw [if_neg c] at HS
        by_cases c2 : l < Q * 10000 + Q2
        all_goals
          go_enter Try.func21, Try.ntmps21
          go_wp2
          go_quiet (fail)
          clear ht1 ht2 w0 w1 w2 q1 q2
          go_wp2_with (go_at_call 23; refine (on_any _ _ _ (by simp) (by omega) (by omega)).mono ?_; rintro e w' ⟨rfl, rfl⟩)
          go_ret
          exact ⟨ret_int (by rw [HS.out]; split <;> omega), below_drewN (Below.refl _ _) _⟩
  · by_cases f : h ≤ d
    · have HS := Lib.hid ((speed_far d l h h1 l2).2 (by omega) f)
      go_enter Try.func21, Try.ntmps21
      go_wp2_with (go_at_call 23; refine (on_any _ _ _ (by simp) (by omega) (by omega)).mono ?_; rintro e w' ⟨rfl, rfl⟩)
      go_ret
      exact ⟨ret_int (by rw [HS.out] <;> omega), Below.refl _ _⟩
    · obtain ⟨Q, R, Q2, R2, q1, q2, q3, q4, b1, b2, b3, b4, b5, b6, b7, b8, hN⟩ := speed_steps (D := d) (l := l) (by omega) h1 (by omega) h2
      have HS : Hid (Slm.spd d l h = (if l < Slm.nr9 d h then l else Slm.nr9 d h)) := Lib.hid (by unfold Slm.spd Slm.cut; rw [if_neg s])
      rw [hN] at HS
      clear hN
      have ht1 : (d * 100000).tdiv h = Q := by rw [Int.tdiv_eq_ediv_of_nonneg (by omega)]; exact q1
      have ht2 : (d * 100000).tmod h = R := by rw [Int.tmod_eq_emod_of_nonneg (by omega)]; exact q2
      have w0 : IntKind.i64.wrap (d * 100000) = d * 100000 := IntWalk.i64_in _ (by omega)
      have w1 : IntKind.i64.wrap Q = Q := IntWalk.i64_in _ (by omega)
      have w2 : IntKind.i64.wrap R = R := IntWalk.i64_in _ (by omega)
      by_cases c : h ≤ 2 * R2
      · rw [if_pos c] at HS
        by_cases c2 : l < Q * 10000 + Q2 + 1
        all_goals
          go_enter Try.func21, Try.ntmps21
          go_wp2
          go_quiet (fail)
          clear ht1 ht2 w0 w1 w2 q1 q2
          go_wp2_with (go_at_call 23; refine (on_any _ _ _ (by simp) (by omega) (by omega)).mono ?_; rintro e w' ⟨rfl, rfl⟩)
          go_ret
          exact ⟨ret_int (by rw [HS.out]; split <;> omega), below_drewN (Below.refl _ _) _⟩
      · rw [if_neg c] at HS
        by_cases c2 : l < Q * 10000 + Q2
        all_goals
          go_enter Try.func21, Try.ntmps21
          go_wp2
          go_quiet (fail)
          clear ht1 ht2 w0 w1 w2 q1 q2
          go_wp2_with (go_at_call 23; refine (on_any _ _ _ (by simp) (by omega) (by omega)).mono ?_; rintro e w' ⟨rfl, rfl⟩)
          go_ret
          exact ⟨ret_int (by rw [HS.out]; split <;> omega), below_drewN (Below.refl _ _) _⟩
end Go.Proofs.Ytoeaclkmnnopmaa
