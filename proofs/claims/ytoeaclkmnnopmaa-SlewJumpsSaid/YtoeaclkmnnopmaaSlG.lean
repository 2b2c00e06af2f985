/- The walk of the law SlewForward: it returns true for all clocks and readings; nothing that was there has changed. -/
import Derived.Test.YtoeaclkmnnopmaaSlF
set_option linter.unusedVariables false
namespace Go.Proofs.Ytoeaclkmnnopmaa
open Go.RowKit
theorem part_c {n r : Int} {w0 w : World} (hb : Below w0.heap.size w0 w) (n1 : 0 ≤ n) (n2 : n ≤ 3000000000000000) (r1 : -100000000 ≤ r) (r2 : r ≤ 100000000) : Calls Try.prog 11 #[.int .i64 n, .int .i64 r] w (RetB (.int .i64 (Slm.part n r)) w0) := chain hb (part_any n r w n1 n2 r1 r2)
/-- the world with the clock that came in, boxed -/
abbrev boxO (w : World) (a s r : Int) : World := w.alloc (.cells #[.int .i64 a, .int .i64 s, .int .i64 r] 23)
theorem fin_box {w : World} {a s r : Int} {w' : World} (hb : Below (boxO w a s r).heap.size (boxO w a s r) w') : Below w.heap.size w w' := Below.goA (Below.refl _ _) hb
theorem bne_of {x : Int} (h : x ≠ 0) : (x != 0) = true := by simpa using h
theorem box3A {w0 w1 : World} {a s r : Int} {t : TypeId} (hb : Below (w0.alloc (.cells #[.int .i64 a, .int .i64 s, .int .i64 r] t)).heap.size (w0.alloc (.cells #[.int .i64 a, .int .i64 s, .int .i64 r] t)) w1) :
    (∀ o, (w1.alloc o).cell? ⟨w0.heap.size, 0, none⟩ = some (.int .i64 a)) ∧ (∀ o, (w1.alloc o).cell? ⟨w0.heap.size, 1, none⟩ = some (.int .i64 s)) ∧ (∀ o, (w1.alloc o).cell? ⟨w0.heap.size, 2, none⟩ = some (.int .i64 r)) :=
  ⟨fun o => (box3 (hb.alloc hb.size o)).1, fun o => (box3 (hb.alloc hb.size o)).2.1, fun o => (box3 (hb.alloc hb.size o)).2.2⟩
set_option maxHeartbeats 2000000 in
set_option maxRecDepth 100000 in
theorem forward_core (a s r t u : Int) (w : World) : Calls Try.prog 3 #[O3 a s r, .int .i64 t, .int .i64 u] w (LawPost w) := by
  have hb := Below.refl (boxO w a s r).heap.size (boxO w a s r)
  by_cases hu : u < t
  · go_enter Try.func3, Try.ntmps3
    go_wp2_with (first | (go_at_call 9; refine (head_c (by assumption)).mono ?_; rintro e w1 ⟨rfl, hb⟩; obtain ⟨c0, c1, c2⟩ := box3 hb) | (go_at_call 10; refine (Show_c (by assumption)).mono ?_; rintro e w1 ⟨rfl, hb⟩; obtain ⟨c0, c1, c2⟩ := box3 hb) | (go_at_call 12; refine (Steer_c (by assumption)).mono ?_; rintro e w1 ⟨rfl, hb⟩; obtain ⟨c0, c1, c2⟩ := box3 hb) | (go_at_call 13; refine (Left_c (by assumption)).mono ?_; rintro e w1 ⟨rfl, hb⟩; obtain ⟨c0, c1, c2⟩ := box3 hb) | (go_at_call 11; refine (part_c (by assumption) (by omega) (by omega) (by omega) (by omega)).mono ?_; rintro e w1 ⟨rfl, hb⟩; obtain ⟨c0, c1, c2⟩ := box3 hb) | (go_at_call 14; refine (abs_any _ _ (by omega) (by omega)).mono ?_; rintro e w' ⟨rfl, rfl⟩))
    go_ret
    exact ⟨rfl, fin_box hb⟩
  by_cases e1 : Slm.shE a s r t = 0
  rotate_left
  · have e1' := bne_of e1
    clear e1
    go_enter Try.func3, Try.ntmps3
    go_wp2_with (first | (go_at_call 9; refine (head_c (by assumption)).mono ?_; rintro e w1 ⟨rfl, hb⟩; obtain ⟨c0, c1, c2⟩ := box3 hb) | (go_at_call 10; refine (Show_c (by assumption)).mono ?_; rintro e w1 ⟨rfl, hb⟩; obtain ⟨c0, c1, c2⟩ := box3 hb) | (go_at_call 12; refine (Steer_c (by assumption)).mono ?_; rintro e w1 ⟨rfl, hb⟩; obtain ⟨c0, c1, c2⟩ := box3 hb) | (go_at_call 13; refine (Left_c (by assumption)).mono ?_; rintro e w1 ⟨rfl, hb⟩; obtain ⟨c0, c1, c2⟩ := box3 hb) | (go_at_call 11; refine (part_c (by assumption) (by omega) (by omega) (by omega) (by omega)).mono ?_; rintro e w1 ⟨rfl, hb⟩; obtain ⟨c0, c1, c2⟩ := box3 hb) | (go_at_call 14; refine (abs_any _ _ (by omega) (by omega)).mono ?_; rintro e w' ⟨rfl, rfl⟩))
    go_ret
    exact ⟨rfl, fin_box hb⟩
  by_cases e2 : Slm.shE a s r u = 0
  rotate_left
  · have e2' := bne_of e2
    clear e2
    go_enter Try.func3, Try.ntmps3
    go_wp2_with (first | (go_at_call 9; refine (head_c (by assumption)).mono ?_; rintro e w1 ⟨rfl, hb⟩; obtain ⟨c0, c1, c2⟩ := box3 hb) | (go_at_call 10; refine (Show_c (by assumption)).mono ?_; rintro e w1 ⟨rfl, hb⟩; obtain ⟨c0, c1, c2⟩ := box3 hb) | (go_at_call 12; refine (Steer_c (by assumption)).mono ?_; rintro e w1 ⟨rfl, hb⟩; obtain ⟨c0, c1, c2⟩ := box3 hb) | (go_at_call 13; refine (Left_c (by assumption)).mono ?_; rintro e w1 ⟨rfl, hb⟩; obtain ⟨c0, c1, c2⟩ := box3 hb) | (go_at_call 11; refine (part_c (by assumption) (by omega) (by omega) (by omega) (by omega)).mono ?_; rintro e w1 ⟨rfl, hb⟩; obtain ⟨c0, c1, c2⟩ := box3 hb) | (go_at_call 14; refine (abs_any _ _ (by omega) (by omega)).mono ?_; rintro e w' ⟨rfl, rfl⟩))
    go_ret
    exact ⟨rfl, fin_box hb⟩
  obtain ⟨v1, t1, t2, t3, t4⟩ := Slm.sh_ok e1
  obtain ⟨_, u1, u2, u3, u4⟩ := Slm.sh_ok e2
  obtain ⟨⟨a1, a2⟩, ⟨s1, s2⟩, r1, r2⟩ := Slm.vO_bd v1
  have t5 := Slm.tT_bd t1
  have u5 := Slm.tT_bd u1
  have t6 := Slm.shn_bd v1 t2
  have u6 := Slm.shn_bd v1 u2
  have hlo := Slm.part_lo (n := u - t) (r := r) (by omega) r1 r2
  have hbd := Slm.part_bd (n := u - t) (r := r) (by omega) r1 r2
  have hadd := Slm.part_add (t - a) (u - t) r
  rw [show t - a + (u - t) = u - a by omega] at hadd
  have hA : Slm.shn a s r t = s + (t - a) + Slm.part (t - a) r := rfl
  have hB : Slm.shn a s r u = s + (u - a) + Slm.part (u - a) r := rfl
  have key : (Slm.shn a s r u - Slm.shn a s r t - (u - t) - Slm.part (u - t) r = 0 ∨ Slm.shn a s r u - Slm.shn a s r t - (u - t) - Slm.part (u - t) r = 1) ∧ Slm.shn a s r t ≤ Slm.shn a s r u := by rw [hA, hB]; omega
  clear hadd hA hB v1 t1 u1
  generalize Slm.shn a s r t = A at *
  generalize Slm.shn a s r u = B at *
  obtain ⟨P, hP⟩ : ∃ p, Slm.part (u - t) r = p := ⟨_, rfl⟩
  rw [hP] at key hlo hbd
  obtain ⟨k1, k2⟩ := key
  have k3 : decide (A ≤ B) = true := decide_eq_true k2
  rcases k1 with k | k
  · have q1 : (B - A - (u - t) - P == 0) = true := by simpa using k
    clear k
    go_enter Try.func3, Try.ntmps3
    go_wp2_with (first | (go_at_call 9; refine (head_c (by assumption)).mono ?_; rintro e w1 ⟨rfl, hb⟩; obtain ⟨c0, c1, c2⟩ := box3 hb) | (go_at_call 10; refine (Show_c (by assumption)).mono ?_; rintro e w1 ⟨rfl, hb⟩; obtain ⟨c0, c1, c2⟩ := box3 hb) | (go_at_call 12; refine (Steer_c (by assumption)).mono ?_; rintro e w1 ⟨rfl, hb⟩; obtain ⟨c0, c1, c2⟩ := box3 hb) | (go_at_call 13; refine (Left_c (by assumption)).mono ?_; rintro e w1 ⟨rfl, hb⟩; obtain ⟨c0, c1, c2⟩ := box3 hb) | (go_at_call 11; refine (part_c (by assumption) (by omega) (by omega) (by omega) (by omega)).mono ?_; rintro e w1 ⟨rfl, hb⟩; obtain ⟨c0, c1, c2⟩ := box3 hb) | (go_at_call 14; refine (abs_any _ _ (by omega) (by omega)).mono ?_; rintro e w' ⟨rfl, rfl⟩))
    go_ret
    exact ⟨rfl, fin_box hb⟩
  · have q1 : (B - A - (u - t) - P == 0) = false := by rw [k]; rfl
    have q2 : (B - A - (u - t) - P == 1) = true := by simpa using k
    clear k
    go_enter Try.func3, Try.ntmps3
    go_wp2_with (first | (go_at_call 9; refine (head_c (by assumption)).mono ?_; rintro e w1 ⟨rfl, hb⟩; obtain ⟨c0, c1, c2⟩ := box3 hb) | (go_at_call 10; refine (Show_c (by assumption)).mono ?_; rintro e w1 ⟨rfl, hb⟩; obtain ⟨c0, c1, c2⟩ := box3 hb) | (go_at_call 12; refine (Steer_c (by assumption)).mono ?_; rintro e w1 ⟨rfl, hb⟩; obtain ⟨c0, c1, c2⟩ := box3 hb) | (go_at_call 13; refine (Left_c (by assumption)).mono ?_; rintro e w1 ⟨rfl, hb⟩; obtain ⟨c0, c1, c2⟩ := box3 hb) | (go_at_call 11; refine (part_c (by assumption) (by omega) (by omega) (by omega) (by omega)).mono ?_; rintro e w1 ⟨rfl, hb⟩; obtain ⟨c0, c1, c2⟩ := box3 hb) | (go_at_call 14; refine (abs_any _ _ (by omega) (by omega)).mono ?_; rintro e w' ⟨rfl, rfl⟩))
    go_ret
    exact ⟨rfl, fin_box hb⟩
theorem forward_law (v : Value) (x : Int × Int × Int) (t u : Int) (w : World) (hv : IsO3 v x) (h1 : (Lit.int .i64 t).wf = true) (h2 : (Lit.int .i64 u).wf = true) : Calls Try.prog 3 #[v, .int .i64 t, .int .i64 u] w (LawPost w) := by
  obtain ⟨a, s, r⟩ := x
  obtain rfl : v = O3 a s r := hv
  exact forward_core a s r t u w
end Go.Proofs.Ytoeaclkmnnopmaa
