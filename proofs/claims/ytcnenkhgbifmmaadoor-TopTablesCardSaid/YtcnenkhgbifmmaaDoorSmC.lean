/- The contracts of a window's methods and of smear.find. -/
import Derived.Test.YtcnenkhgbifmmaaDoorSmB
set_option linter.unusedVariables false
namespace Go.Proofs.YtcnenkhgbifmmaaDoor
open Go.RowKit Go.Shelf
attribute [local go_sem] Oper.semAt_some
abbrev A4 (a b c d : Int) : Value := .agg #[.int .i64 a, .int .i64 b, .int .i64 c, .int .i64 d]
abbrev oW (a b c d : Int) : Obj := .cells #[.int .i64 a, .int .i64 b, .int .i64 c, .int .i64 d] 90
def hasB (b h t : Int) : Bool := decide (b ≤ t) && decide (t < b + 2 * h)
set_option maxHeartbeats 1000000 in
theorem has_any (b h s e t : Int) (w : World) (hb1 : -1000000000000000000 ≤ b ∧ b ≤ 1000000000000000000) (hh : 0 ≤ h ∧ h ≤ 1000000000000000000) : Calls Tryd.prog 59 #[A4 b h s e, .int .i64 t] w (RetB (.bool (hasB b h t)) w) := by
  obtain ⟨b1, b2⟩ := hb1
  obtain ⟨h1, h2⟩ := hh
  have hb0 : Below w.heap.size w (w.alloc (oW b h s e)) := (Below.refl _ _).alloc (Nat.le_refl _) _
  have hz : Hid (hasB b h t = (decide (b ≤ t) && decide (t < b + 2 * h))) := Lib.hid rfl
  by_cases c1 : b ≤ t
  · by_cases c2 : t < b + 2 * h
    · have q1 : decide (b ≤ t) = true := decide_eq_true c1
      have q2 : decide (t < b + 2 * h) = true := decide_eq_true c2
      have hz2 : Hid (hasB b h t = true) := Lib.hid (by rw [hz.out, q1, q2]; rfl)
      go_enter Tryd.func59, Tryd.ntmps59
      go_wp2
      go_ret
      exact ⟨ret_bool hz2.out.symm, hb0⟩
    · have q1 : decide (b ≤ t) = true := decide_eq_true c1
      have q2 : decide (t < b + 2 * h) = false := decide_eq_false c2
      have hz2 : Hid (hasB b h t = false) := Lib.hid (by rw [hz.out, q1, q2]; rfl)
      go_enter Tryd.func59, Tryd.ntmps59
      go_wp2
      go_ret
      exact ⟨ret_bool hz2.out.symm, hb0⟩
  · have q1 : decide (b ≤ t) = false := decide_eq_false c1
    have hz2 : Hid (hasB b h t = false) := Lib.hid (by rw [hz.out, q1]; rfl)
    go_enter Tryd.func59, Tryd.ntmps59
    go_wp2
    go_ret
    exact ⟨ret_bool hz2.out.symm, hb0⟩
theorem smeared_math {h x : Int} (hh : 1000000 ≤ h) (h0 : 0 ≤ x) (h1 : x < 2 * h) (h2 : h ≤ 43200000000) :
    (x * 1000000).tdiv (2 * h) = x * 1000000 / (2 * h) ∧ (x * 1000000).tmod (2 * h) = x * 1000000 % (2 * h) ∧ 0 ≤ x * 1000000 / (2 * h) ∧ x * 1000000 / (2 * h) ≤ 1000000 ∧ 0 ≤ x * 1000000 % (2 * h) ∧ x * 1000000 % (2 * h) < 2 * h ∧
    Smm.adj h 1 x = x * 1000000 / (2 * h) + (if 0 < x * 1000000 % (2 * h) then 1 else 0) ∧ Smm.adj h (-1) x = -(x * 1000000 / (2 * h)) := by
  have p0 : 0 ≤ x * 1000000 := by omega
  have e := Int.mul_ediv_add_emod (x * 1000000) (2 * h)
  have e0 := Int.emod_nonneg (x * 1000000) (show 2 * h ≠ 0 by omega)
  have e1 := Int.emod_lt_of_pos (x * 1000000) (show 0 < 2 * h by omega)
  refine ⟨Int.tdiv_eq_ediv_of_nonneg p0, Int.tmod_eq_emod_of_nonneg p0, Int.ediv_nonneg p0 (by omega), Int.ediv_le_of_le_mul (by omega) (by omega), e0, e1, ?_, ?_⟩
  · unfold Smm.adj; rw [if_neg (by omega)]
    generalize hq : x * 1000000 / (2 * h) = q at *
    generalize hr : x * 1000000 % (2 * h) = r at *
    have hx : x * 1000000 + (2 * h - 1) = (r + (2 * h - 1)) + q * (2 * h) := by rw [← e, Int.mul_comm q]; omega
    rw [hx, Int.add_mul_ediv_right _ _ (by omega)]
    split
    · rw [show r + (2 * h - 1) = (r - 1) + 1 * (2 * h) by omega, Int.add_mul_ediv_right _ _ (by omega), Int.ediv_eq_zero_of_lt (by omega) (by omega)]; omega
    · rw [Int.ediv_eq_zero_of_lt (by omega) (by omega)]; omega
  · unfold Smm.adj; rw [if_pos (by omega)]
set_option maxHeartbeats 1000000 in
theorem smeared_any (b h s e t : Int) (w : World) (hb1 : 0 ≤ b ∧ b ≤ 1000000000000000000) (hh1 : 1000000 ≤ h) (hh2 : h ≤ 43200000000) (hs : s = 1 ∨ s = -1) (he : -1000000000000000000 ≤ e ∧ e ≤ 1000000000000000000) (h0 : b ≤ t) (h1 : t < b + 2 * h) :
    Calls Tryd.prog 42 #[A4 b h s e, .int .i64 t] w (RetB (.int .i64 (e + (t - b) - Smm.adj h s (t - b))) w) := by
  obtain ⟨b1, b2⟩ := hb1
  obtain ⟨e1, e2⟩ := he
  have hb0 : Below w.heap.size w (w.alloc (oW b h s e)) := (Below.refl _ _).alloc (Nat.le_refl _) _
  obtain ⟨m1, m2, m3, m4, m5, m6, m7, m8⟩ := smeared_math (x := t - b) hh1 (by omega) (by omega) hh2
  have M7 := Lib.hid m7
  have M8 := Lib.hid m8
  clear m7 m8
  obtain ⟨X, hX⟩ : ∃ X, t - b = X := ⟨_, rfl⟩
  rw [hX] at m1 m2 m3 m4 m5 m6 M7 M8 ⊢
  have x0 : 0 ≤ X := by omega
  have x1 : X < 2 * h := by omega
  obtain ⟨q, hq⟩ : ∃ q, X * 1000000 / (2 * h) = q := ⟨_, rfl⟩
  obtain ⟨r, hr⟩ : ∃ r, X * 1000000 % (2 * h) = r := ⟨_, rfl⟩
  rw [hq] at m1 m3 m4 M7 M8
  rw [hr] at m2 m5 m6 M7
  have hz : (2 * h == 0) = false := by simp; omega
  have hz2 : ¬ 2 * h = 0 := by omega
  have w1 : IntKind.i64.wrap (X * 1000000) = X * 1000000 := IntWalk.i64_in _ (by omega)
  have w2 : IntKind.i64.wrap (2 * h) = 2 * h := IntWalk.i64_in _ (by omega)
  have w3 : IntKind.i64.wrap q = q := IntWalk.i64_in _ (by omega)
  have w4 : IntKind.i64.wrap r = r := IntWalk.i64_in _ (by omega)
  clear hq hr
  rcases hs with rfl | rfl
  · by_cases hp : 0 < r
    · have q1 : decide (0 < r) = true := decide_eq_true hp
      have hv : Hid (e + X - Smm.adj h 1 X = e + X - (q + 1)) := Lib.hid (by rw [M7.out, if_pos hp])
      go_enter Tryd.func42, Tryd.ntmps42
      go_wp2_with fail
      go_quiet (fail)
      go_wp2
      go_ret
      exact ⟨ret_int hv.out.symm, below_drewN hb0 _⟩
    · have q1 : decide (0 < r) = false := decide_eq_false hp
      have hv : Hid (e + X - Smm.adj h 1 X = e + X - q) := Lib.hid (by rw [M7.out, if_neg hp]; omega)
      go_enter Tryd.func42, Tryd.ntmps42
      go_wp2_with fail
      go_quiet (fail)
      go_wp2
      go_ret
      exact ⟨ret_int hv.out.symm, below_drewN hb0 _⟩
  · have hv : Hid (e + X - Smm.adj h (-1) X = e + X + q) := Lib.hid (by rw [M8.out]; omega)
    go_enter Tryd.func42, Tryd.ntmps42
    go_wp2_with fail
    go_quiet (fail)
    go_wp2
    go_ret
    exact ⟨ret_int hv.out.symm, below_drewN hb0 _⟩
end Go.Proofs.YtcnenkhgbifmmaaDoor
