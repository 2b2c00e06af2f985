/- The walks of the laws SlewJumps, SlewReaches, SlewLimits: each returns true for all clocks and integers; nothing that was there has changed. -/
import Derived.Test.YtoeaclkmnnopmaaSlG
import Derived.Test.YtoeaclkmnnopmaaSlMath2
set_option linter.unusedVariables false
namespace Go.Proofs.Ytoeaclkmnnopmaa
open Go.RowKit
set_option maxHeartbeats 2000000 in
set_option maxRecDepth 100000 in
theorem jumps_off (a s r t want l h : Int) (w : World) (e1 : Slm.stE a s r t want l h ≠ 0) : Calls Try.prog 4 #[O3 a s r, .int .i64 t, .int .i64 want, .int .i64 l, .int .i64 h] w (LawPost w) := by
  have hb := Below.refl (boxO w a s r).heap.size (boxO w a s r)
  have e1' := bne_of e1
  obtain ⟨z1, z2, z3⟩ := Slm.st_off e1
  clear e1
  go_enter Try.func4, Try.ntmps4
  go_wp2_with (first | (go_at_call 9; refine (head_c (by assumption)).mono ?_; rintro e w1 ⟨rfl, hb⟩; obtain ⟨c0, c1, c2⟩ := box3 hb) | (go_at_call 10; refine (Show_c (by assumption)).mono ?_; rintro e w1 ⟨rfl, hb⟩; obtain ⟨c0, c1, c2⟩ := box3 hb) | (go_at_call 12; refine (Steer_c (by assumption)).mono ?_; rintro e w1 ⟨rfl, hb⟩; obtain ⟨c0, c1, c2⟩ := box3 hb) | (go_at_call 13; refine (Left_c (by assumption)).mono ?_; rintro e w1 ⟨rfl, hb⟩; obtain ⟨c0, c1, c2⟩ := box3 hb) | (go_at_call 11; refine (part_c (by assumption) (by omega) (by omega) (by omega) (by omega)).mono ?_; rintro e w1 ⟨rfl, hb⟩; obtain ⟨c0, c1, c2⟩ := box3 hb) | (go_at_call 14; refine (abs_any _ _ (by omega) (by omega)).mono ?_; rintro e w' ⟨rfl, rfl⟩))
  go_ret
  exact ⟨rfl, fin_box (hb.alloc hb.size _)⟩
set_option maxHeartbeats 2000000 in
set_option maxRecDepth 100000 in
theorem jumps_on (a s r t want l h N R : Int) (w : World) (h1 : Slm.stE a s r t want l h = 0) (h2 : Slm.stA a s r t want l h = t) (h3 : Slm.stS a s r t want l h = N) (h4 : Slm.stR a s r t want l h = R)
    (g1 : Slm.shE a s r t = 0) (g2 : Slm.shV a s r t = N) (g3 : Slm.shE t N R t = 0) (g4 : Slm.shV t N R t = N) (b1 : -l ≤ R) (b2 : R ≤ l) (b3 : 0 ≤ l) (b4 : l ≤ 100000000)
    (hs : want < N ∧ R ≤ 0 ∨ want = N ∧ R = 0 ∨ N < want ∧ 0 ≤ R) : Calls Try.prog 4 #[O3 a s r, .int .i64 t, .int .i64 want, .int .i64 l, .int .i64 h] w (LawPost w) := by
  have hb := Below.refl (boxO w a s r).heap.size (boxO w a s r)
  have k1 : decide (-l ≤ R) = true := decide_eq_true b1
  have k2 : decide (R ≤ l) = true := decide_eq_true b2
  rcases hs with ⟨s1, s2⟩ | ⟨s1, s2⟩ | ⟨s1, s2⟩
  · have k3 : decide (want ≤ N) = true := decide_eq_true (by omega)
    have k4 : decide (N ≤ want) = false := decide_eq_false (by omega)
    have k5 : decide (R ≤ 0) = true := decide_eq_true s2
    have k6 : (want != N) = true := by simp; omega
    go_enter Try.func4, Try.ntmps4
    go_wp2_with (first | (go_at_call 9; refine (head_c (by assumption)).mono ?_; rintro e w1 ⟨rfl, hb⟩; obtain ⟨c0, c1, c2⟩ := box3 hb) | (go_at_call 12; refine (Steer_c (by assumption)).mono ?_; rintro e w1 ⟨rfl, hb⟩; obtain ⟨c0, c1, c2⟩ := box3 hb; obtain ⟨d0, d1, d2⟩ := box3A hb) | (go_at_call 10; refine (Show_any _ _ _ _ _).mono ?_; rintro e w1 ⟨rfl, hn⟩; (first | (have hb := Below.goA hb hn; have sb := Lib.hid (keep' (heap_new _ _) hn)) | (have hb := Below.go hb hn; have sb := Lib.hid (keep' sb.out hn))); clear hn; obtain ⟨c0, c1, c2⟩ := box3 hb; obtain ⟨⟨s0, s1, s2⟩, _⟩ := blk3 sb.out) | (go_at_call 13; refine (Left_any _ _ _ _ _ _ _ _).mono ?_; rintro e w1 ⟨rfl, hn⟩; (first | (have hb := Below.goA hb hn; have sb := Lib.hid (keep' (heap_new _ _) hn)) | (have hb := Below.go hb hn; have sb := Lib.hid (keep' sb.out hn))); clear hn; obtain ⟨c0, c1, c2⟩ := box3 hb; obtain ⟨⟨s0, s1, s2⟩, _⟩ := blk3 sb.out) | (go_at_call 11; refine (part_any _ _ _ (by omega) (by omega) (by omega) (by omega)).mono ?_; rintro e w1 ⟨rfl, hn⟩; (first | (have hb := Below.goA hb hn; have sb := Lib.hid (keep' (heap_new _ _) hn)) | (have hb := Below.go hb hn; have sb := Lib.hid (keep' sb.out hn))); clear hn; obtain ⟨c0, c1, c2⟩ := box3 hb; obtain ⟨⟨s0, s1, s2⟩, _⟩ := blk3 sb.out) | (go_at_call 14; refine (abs_any _ _ (by omega) (by omega)).mono ?_; rintro e w' ⟨rfl, rfl⟩))
    go_ret
    exact ⟨rfl, fin_box hb⟩
  · subst s1 s2
    go_enter Try.func4, Try.ntmps4
    go_wp2_with (first | (go_at_call 9; refine (head_c (by assumption)).mono ?_; rintro e w1 ⟨rfl, hb⟩; obtain ⟨c0, c1, c2⟩ := box3 hb) | (go_at_call 12; refine (Steer_c (by assumption)).mono ?_; rintro e w1 ⟨rfl, hb⟩; obtain ⟨c0, c1, c2⟩ := box3 hb; obtain ⟨d0, d1, d2⟩ := box3A hb) | (go_at_call 10; refine (Show_any _ _ _ _ _).mono ?_; rintro e w1 ⟨rfl, hn⟩; (first | (have hb := Below.goA hb hn; have sb := Lib.hid (keep' (heap_new _ _) hn)) | (have hb := Below.go hb hn; have sb := Lib.hid (keep' sb.out hn))); clear hn; obtain ⟨c0, c1, c2⟩ := box3 hb; obtain ⟨⟨s0, s1, s2⟩, _⟩ := blk3 sb.out) | (go_at_call 13; refine (Left_any _ _ _ _ _ _ _ _).mono ?_; rintro e w1 ⟨rfl, hn⟩; (first | (have hb := Below.goA hb hn; have sb := Lib.hid (keep' (heap_new _ _) hn)) | (have hb := Below.go hb hn; have sb := Lib.hid (keep' sb.out hn))); clear hn; obtain ⟨c0, c1, c2⟩ := box3 hb; obtain ⟨⟨s0, s1, s2⟩, _⟩ := blk3 sb.out) | (go_at_call 11; refine (part_any _ _ _ (by omega) (by omega) (by omega) (by omega)).mono ?_; rintro e w1 ⟨rfl, hn⟩; (first | (have hb := Below.goA hb hn; have sb := Lib.hid (keep' (heap_new _ _) hn)) | (have hb := Below.go hb hn; have sb := Lib.hid (keep' sb.out hn))); clear hn; obtain ⟨c0, c1, c2⟩ := box3 hb; obtain ⟨⟨s0, s1, s2⟩, _⟩ := blk3 sb.out) | (go_at_call 14; refine (abs_any _ _ (by omega) (by omega)).mono ?_; rintro e w' ⟨rfl, rfl⟩))
    go_ret
    exact ⟨rfl, fin_box hb⟩
  · have k3 : decide (want ≤ N) = false := decide_eq_false (by omega)
    have k4 : decide (N ≤ want) = true := decide_eq_true (by omega)
    have k5 : decide (0 ≤ R) = true := decide_eq_true s2
    have k6 : (want != N) = true := by simp; omega
    go_enter Try.func4, Try.ntmps4
    go_wp2_with (first | (go_at_call 9; refine (head_c (by assumption)).mono ?_; rintro e w1 ⟨rfl, hb⟩; obtain ⟨c0, c1, c2⟩ := box3 hb) | (go_at_call 12; refine (Steer_c (by assumption)).mono ?_; rintro e w1 ⟨rfl, hb⟩; obtain ⟨c0, c1, c2⟩ := box3 hb; obtain ⟨d0, d1, d2⟩ := box3A hb) | (go_at_call 10; refine (Show_any _ _ _ _ _).mono ?_; rintro e w1 ⟨rfl, hn⟩; (first | (have hb := Below.goA hb hn; have sb := Lib.hid (keep' (heap_new _ _) hn)) | (have hb := Below.go hb hn; have sb := Lib.hid (keep' sb.out hn))); clear hn; obtain ⟨c0, c1, c2⟩ := box3 hb; obtain ⟨⟨s0, s1, s2⟩, _⟩ := blk3 sb.out) | (go_at_call 13; refine (Left_any _ _ _ _ _ _ _ _).mono ?_; rintro e w1 ⟨rfl, hn⟩; (first | (have hb := Below.goA hb hn; have sb := Lib.hid (keep' (heap_new _ _) hn)) | (have hb := Below.go hb hn; have sb := Lib.hid (keep' sb.out hn))); clear hn; obtain ⟨c0, c1, c2⟩ := box3 hb; obtain ⟨⟨s0, s1, s2⟩, _⟩ := blk3 sb.out) | (go_at_call 11; refine (part_any _ _ _ (by omega) (by omega) (by omega) (by omega)).mono ?_; rintro e w1 ⟨rfl, hn⟩; (first | (have hb := Below.goA hb hn; have sb := Lib.hid (keep' (heap_new _ _) hn)) | (have hb := Below.go hb hn; have sb := Lib.hid (keep' sb.out hn))); clear hn; obtain ⟨c0, c1, c2⟩ := box3 hb; obtain ⟨⟨s0, s1, s2⟩, _⟩ := blk3 sb.out) | (go_at_call 14; refine (abs_any _ _ (by omega) (by omega)).mono ?_; rintro e w' ⟨rfl, rfl⟩))
    go_ret
    exact ⟨rfl, fin_box hb⟩
theorem jumps_law (v : Value) (x : Int × Int × Int) (t want l h : Int) (w : World) (hv : IsO3 v x) (h1 : (Lit.int .i64 t).wf = true) (h2 : (Lit.int .i64 want).wf = true) (h3 : (Lit.int .i64 l).wf = true) (h4 : (Lit.int .i64 h).wf = true) :
    Calls Try.prog 4 #[v, .int .i64 t, .int .i64 want, .int .i64 l, .int .i64 h] w (LawPost w) := by
  obtain ⟨a, s, r⟩ := x
  obtain rfl : v = O3 a s r := hv
  by_cases e : Slm.stE a s r t want l h = 0
  · obtain ⟨hB, hs0, q3, q4, q5⟩ := Slm.st_ok e
    obtain ⟨v1, ⟨t1, t2⟩, ⟨w1, w2⟩, ⟨l1, l2⟩, h5, h6⟩ := Slm.stB_bd hB
    obtain ⟨_, _, p1, p2, p3⟩ := Slm.sh_ok hs0
    have p4 := Slm.shn_bd v1 p1
    have p5 := (Slm.vO_bd v1).2.1.1
    have hR := Slm.spd_bd (d := want - Slm.shn a s r t) (l := l) (h := h) h5 l1
    have hn : Slm.shn t (Slm.shn a s r t) (Slm.spd (want - Slm.shn a s r t) l h) t = Slm.shn a s r t := by
      show Slm.shn a s r t + (t - t) + Slm.part (t - t) _ = Slm.shn a s r t
      rw [Int.sub_self, Slm.part_zero]; omega
    obtain ⟨g3, g4⟩ := Slm.sh_yes (a := t) (s := Slm.shn a s r t) (r := Slm.spd (want - Slm.shn a s r t) l h) (t := t) (Slm.vO_yes ⟨t1, t2⟩ ⟨by omega, p2⟩ ⟨by omega, by omega⟩) (Slm.tT_yes ⟨t1, t2⟩) (Int.le_refl _) (by rw [hn]; exact p2)
    refine jumps_on a s r t want l h _ _ w e q3 q4 q5 hs0 p3 g3 (g4.trans hn) hR.1 hR.2 l1 l2 ?_
    rcases Int.lt_trichotomy want (Slm.shn a s r t) with c | c | c
    · exact .inl ⟨c, Slm.spd_neg h5 l1 (by omega)⟩
    · exact .inr (.inl ⟨c, by rw [show want - Slm.shn a s r t = 0 by omega]; exact Slm.spd_zero h5 l1⟩)
    · exact .inr (.inr ⟨c, Slm.spd_pos h5 l1 (by omega)⟩)
  · exact jumps_off a s r t want l h w e
end Go.Proofs.Ytoeaclkmnnopmaa
