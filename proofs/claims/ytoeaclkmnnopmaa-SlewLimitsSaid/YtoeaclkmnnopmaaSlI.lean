/- The walks of the laws SlewReaches and SlewLimits: each returns true for all clocks and integers; nothing that was there has changed. -/
import Derived.Test.YtoeaclkmnnopmaaSlH
set_option linter.unusedVariables false
namespace Go.Proofs.Ytoeaclkmnnopmaa
open Go.RowKit
theorem beq_of {x : Int} (h : x ≠ 0) : (x == 0) = false := by simpa using h
set_option maxHeartbeats 2000000 in
set_option maxRecDepth 100000 in
theorem Reaches_off (a s r t want l h : Int) (w : World) (e1 : Slm.stE a s r t want l h ≠ 0) : Calls Try.prog 5 #[O3 a s r, .int .i64 t, .int .i64 want, .int .i64 l, .int .i64 h] w (LawPost w) := by
  have hb := Below.refl (boxO w a s r).heap.size (boxO w a s r)
  have e1' := bne_of e1
  have e2 := beq_of e1
  have e3 := Slm.lf_off e1
  clear e1
  go_enter Try.func5, Try.ntmps5
  go_wp2_with (first | (go_at_call 9; refine (head_c (by assumption)).mono ?_; rintro e w1 ⟨rfl, hb⟩; obtain ⟨c0, c1, c2⟩ := box3 hb) | (go_at_call 12; refine (Steer_c (by assumption)).mono ?_; rintro e w1 ⟨rfl, hb⟩; obtain ⟨c0, c1, c2⟩ := box3 hb; obtain ⟨d0, d1, d2⟩ := box3A hb) | (go_at_call 10; refine (Show_any _ _ _ _ _).mono ?_; rintro e w1 ⟨rfl, hn⟩; (first | (have hb := Below.goA hb hn; have sb := Lib.hid (keep' (heap_new _ _) hn)) | (have hb := Below.go hb hn; have sb := Lib.hid (keep' sb.out hn))); clear hn; obtain ⟨c0, c1, c2⟩ := box3 hb; obtain ⟨⟨s0, s1, s2⟩, _⟩ := blk3 sb.out) | (go_at_call 13; refine (Left_any _ _ _ _ _ _ _ _).mono ?_; rintro e w1 ⟨rfl, hn⟩; (first | (have hb := Below.goA hb hn; have sb := Lib.hid (keep' (heap_new _ _) hn)) | (have hb := Below.go hb hn; have sb := Lib.hid (keep' sb.out hn))); clear hn; obtain ⟨c0, c1, c2⟩ := box3 hb; obtain ⟨⟨s0, s1, s2⟩, _⟩ := blk3 sb.out) | (go_at_call 11; refine (part_any _ _ _ (by omega) (by omega) (by omega) (by omega)).mono ?_; rintro e w1 ⟨rfl, hn⟩; (first | (have hb := Below.goA hb hn; have sb := Lib.hid (keep' (heap_new _ _) hn)) | (have hb := Below.go hb hn; have sb := Lib.hid (keep' sb.out hn))); clear hn; obtain ⟨c0, c1, c2⟩ := box3 hb; obtain ⟨⟨s0, s1, s2⟩, _⟩ := blk3 sb.out) | (go_at_call 14; refine (abs_any _ _ (by omega) (by omega)).mono ?_; rintro e w' ⟨rfl, rfl⟩))
  go_ret
  exact ⟨rfl, fin_box hb⟩
set_option maxHeartbeats 2000000 in
set_option maxRecDepth 100000 in
theorem Reaches_mid (a s r t want l h : Int) (w : World) (e1 : Slm.stE a s r t want l h = 0) (e2 : Slm.lfE a s r t want l h ≠ 0) : Calls Try.prog 5 #[O3 a s r, .int .i64 t, .int .i64 want, .int .i64 l, .int .i64 h] w (LawPost w) := by
  have hb := Below.refl (boxO w a s r).heap.size (boxO w a s r)
  have e2' := bne_of e2
  clear e2
  go_enter Try.func5, Try.ntmps5
  go_wp2_with (first | (go_at_call 9; refine (head_c (by assumption)).mono ?_; rintro e w1 ⟨rfl, hb⟩; obtain ⟨c0, c1, c2⟩ := box3 hb) | (go_at_call 12; refine (Steer_c (by assumption)).mono ?_; rintro e w1 ⟨rfl, hb⟩; obtain ⟨c0, c1, c2⟩ := box3 hb; obtain ⟨d0, d1, d2⟩ := box3A hb) | (go_at_call 10; refine (Show_any _ _ _ _ _).mono ?_; rintro e w1 ⟨rfl, hn⟩; (first | (have hb := Below.goA hb hn; have sb := Lib.hid (keep' (heap_new _ _) hn)) | (have hb := Below.go hb hn; have sb := Lib.hid (keep' sb.out hn))); clear hn; obtain ⟨c0, c1, c2⟩ := box3 hb; obtain ⟨⟨s0, s1, s2⟩, _⟩ := blk3 sb.out) | (go_at_call 13; refine (Left_any _ _ _ _ _ _ _ _).mono ?_; rintro e w1 ⟨rfl, hn⟩; (first | (have hb := Below.goA hb hn; have sb := Lib.hid (keep' (heap_new _ _) hn)) | (have hb := Below.go hb hn; have sb := Lib.hid (keep' sb.out hn))); clear hn; obtain ⟨c0, c1, c2⟩ := box3 hb; obtain ⟨⟨s0, s1, s2⟩, _⟩ := blk3 sb.out) | (go_at_call 11; refine (part_any _ _ _ (by omega) (by omega) (by omega) (by omega)).mono ?_; rintro e w1 ⟨rfl, hn⟩; (first | (have hb := Below.goA hb hn; have sb := Lib.hid (keep' (heap_new _ _) hn)) | (have hb := Below.go hb hn; have sb := Lib.hid (keep' sb.out hn))); clear hn; obtain ⟨c0, c1, c2⟩ := box3 hb; obtain ⟨⟨s0, s1, s2⟩, _⟩ := blk3 sb.out) | (go_at_call 14; refine (abs_any _ _ (by omega) (by omega)).mono ?_; rintro e w' ⟨rfl, rfl⟩))
  go_ret
  exact ⟨rfl, fin_box hb⟩
set_option maxHeartbeats 2000000 in
set_option maxRecDepth 100000 in
theorem reaches_main (a s r t want l h R LF : Int) (w : World) (e : Slm.stE a s r t want l h = 0) (f : Slm.lfE a s r t want l h = 0) (hR : Slm.stR a s r t want l h = R) (hL : Slm.lfV a s r t want l h = LF)
    (b1 : -100000000 ≤ R) (b2 : R ≤ 100000000) (b3 : -10000000000000000 ≤ LF) (b4 : LF ≤ 10000000000000000) (h1 : 1 ≤ h) (h2 : h ≤ 1000000000000)
    (hc : decide (l ≤ ab R) = true ∨ decide (l ≤ ab R) = false ∧ decide (ab LF ≤ h / 2000000000 + 1) = true) :
    Calls Try.prog 5 #[O3 a s r, .int .i64 t, .int .i64 want, .int .i64 l, .int .i64 h] w (LawPost w) := by
  have hb := Below.refl (boxO w a s r).heap.size (boxO w a s r)
  rcases hc with c | ⟨c, d⟩
  all_goals
    go_enter Try.func5, Try.ntmps5
    go_wp2_with (first | (go_at_call 9; refine (head_c (by assumption)).mono ?_; rintro e w1 ⟨rfl, hb⟩; obtain ⟨c0, c1, c2⟩ := box3 hb) | (go_at_call 12; refine (Steer_c (by assumption)).mono ?_; rintro e w1 ⟨rfl, hb⟩; obtain ⟨c0, c1, c2⟩ := box3 hb; obtain ⟨d0, d1, d2⟩ := box3A hb) | (go_at_call 10; refine (Show_any _ _ _ _ _).mono ?_; rintro e w1 ⟨rfl, hn⟩; (first | (have hb := Below.goA hb hn; have sb := Lib.hid (keep' (heap_new _ _) hn)) | (have hb := Below.go hb hn; have sb := Lib.hid (keep' sb.out hn))); clear hn; obtain ⟨c0, c1, c2⟩ := box3 hb; obtain ⟨⟨s0, s1, s2⟩, _⟩ := blk3 sb.out) | (go_at_call 13; refine (Left_any _ _ _ _ _ _ _ _).mono ?_; rintro e w1 ⟨rfl, hn⟩; (first | (have hb := Below.goA hb hn; have sb := Lib.hid (keep' (heap_new _ _) hn)) | (have hb := Below.go hb hn; have sb := Lib.hid (keep' sb.out hn))); clear hn; obtain ⟨c0, c1, c2⟩ := box3 hb; obtain ⟨⟨s0, s1, s2⟩, _⟩ := blk3 sb.out) | (go_at_call 11; refine (part_any _ _ _ (by omega) (by omega) (by omega) (by omega)).mono ?_; rintro e w1 ⟨rfl, hn⟩; (first | (have hb := Below.goA hb hn; have sb := Lib.hid (keep' (heap_new _ _) hn)) | (have hb := Below.go hb hn; have sb := Lib.hid (keep' sb.out hn))); clear hn; obtain ⟨c0, c1, c2⟩ := box3 hb; obtain ⟨⟨s0, s1, s2⟩, _⟩ := blk3 sb.out) | (go_at_call 14; refine (abs_any _ _ (by omega) (by omega)).mono ?_; rintro e w' ⟨rfl, rfl⟩))
    go_ret
    exact ⟨rfl, fin_box hb⟩
set_option maxHeartbeats 2000000 in
set_option maxRecDepth 100000 in
theorem limits_main (a s r t want l h N R LF P : Int) (w : World) (e : Slm.stE a s r t want l h = 0) (f : Slm.lfE a s r t want l h = 0) (hN : Slm.stS a s r t want l h = N) (hR : Slm.stR a s r t want l h = R) (hL : Slm.lfV a s r t want l h = LF) (hP : Slm.part h R = P)
    (b1 : -100000000 ≤ R) (b2 : R ≤ 100000000) (b3 : -10000000000000000 ≤ LF) (b4 : LF ≤ 10000000000000000) (h1 : 1 ≤ h) (h2 : h ≤ 1000000000000) (n1 : 0 ≤ N) (n2 : N ≤ 3000000000000000) (w1 : 0 ≤ want) (w2 : want ≤ 3000000000000000)
    (p1 : -1000000000000 ≤ P) (p2 : P ≤ 1000000000000) (z1 : 0 ≤ ab (want - N)) (z2 : ab (want - N) ≤ 3000000000000000)
    (hc : (ab R != l) = true ∨ (ab R != l) = false ∧ (LF == want - N - P) = true ∧ decide (ab LF ≤ ab (want - N) + h / 2000000000 + 1) = true) :
    Calls Try.prog 6 #[O3 a s r, .int .i64 t, .int .i64 want, .int .i64 l, .int .i64 h] w (LawPost w) := by
  have hb := Below.refl (boxO w a s r).heap.size (boxO w a s r)
  rcases hc with c | ⟨c, d, d'⟩
  all_goals
    go_enter Try.func6, Try.ntmps6
    go_wp2_with (first | (go_at_call 9; refine (head_c (by assumption)).mono ?_; rintro e w1 ⟨rfl, hb⟩; obtain ⟨c0, c1, c2⟩ := box3 hb) | (go_at_call 12; refine (Steer_c (by assumption)).mono ?_; rintro e w1 ⟨rfl, hb⟩; obtain ⟨c0, c1, c2⟩ := box3 hb; obtain ⟨d0, d1, d2⟩ := box3A hb) | (go_at_call 10; refine (Show_any _ _ _ _ _).mono ?_; rintro e w1 ⟨rfl, hn⟩; (first | (have hb := Below.goA hb hn; have sb := Lib.hid (keep' (heap_new _ _) hn)) | (have hb := Below.go hb hn; have sb := Lib.hid (keep' sb.out hn))); clear hn; obtain ⟨c0, c1, c2⟩ := box3 hb; obtain ⟨⟨s0, s1, s2⟩, _⟩ := blk3 sb.out) | (go_at_call 13; refine (Left_any _ _ _ _ _ _ _ _).mono ?_; rintro e w1 ⟨rfl, hn⟩; (first | (have hb := Below.goA hb hn; have sb := Lib.hid (keep' (heap_new _ _) hn)) | (have hb := Below.go hb hn; have sb := Lib.hid (keep' sb.out hn))); clear hn; obtain ⟨c0, c1, c2⟩ := box3 hb; obtain ⟨⟨s0, s1, s2⟩, _⟩ := blk3 sb.out) | (go_at_call 11; refine (part_any _ _ _ (by omega) (by omega) (by omega) (by omega)).mono ?_; rintro e w1 ⟨rfl, hn⟩; (first | (have hb := Below.goA hb hn; have sb := Lib.hid (keep' (heap_new _ _) hn)) | (have hb := Below.go hb hn; have sb := Lib.hid (keep' sb.out hn))); clear hn; obtain ⟨c0, c1, c2⟩ := box3 hb; obtain ⟨⟨s0, s1, s2⟩, _⟩ := blk3 sb.out) | (go_at_call 14; refine (abs_any _ _ (by omega) (by omega)).mono ?_; rintro e w' ⟨rfl, rfl⟩))
    go_ret
    exact ⟨rfl, fin_box hb⟩
set_option maxHeartbeats 2000000 in
set_option maxRecDepth 100000 in
theorem Limits_off (a s r t want l h : Int) (w : World) (e1 : Slm.stE a s r t want l h ≠ 0) : Calls Try.prog 6 #[O3 a s r, .int .i64 t, .int .i64 want, .int .i64 l, .int .i64 h] w (LawPost w) := by
  have hb := Below.refl (boxO w a s r).heap.size (boxO w a s r)
  have e1' := bne_of e1
  have e2 := beq_of e1
  have e3 := Slm.lf_off e1
  clear e1
  go_enter Try.func6, Try.ntmps6
  go_wp2_with (first | (go_at_call 9; refine (head_c (by assumption)).mono ?_; rintro e w1 ⟨rfl, hb⟩; obtain ⟨c0, c1, c2⟩ := box3 hb) | (go_at_call 12; refine (Steer_c (by assumption)).mono ?_; rintro e w1 ⟨rfl, hb⟩; obtain ⟨c0, c1, c2⟩ := box3 hb; obtain ⟨d0, d1, d2⟩ := box3A hb) | (go_at_call 10; refine (Show_any _ _ _ _ _).mono ?_; rintro e w1 ⟨rfl, hn⟩; (first | (have hb := Below.goA hb hn; have sb := Lib.hid (keep' (heap_new _ _) hn)) | (have hb := Below.go hb hn; have sb := Lib.hid (keep' sb.out hn))); clear hn; obtain ⟨c0, c1, c2⟩ := box3 hb; obtain ⟨⟨s0, s1, s2⟩, _⟩ := blk3 sb.out) | (go_at_call 13; refine (Left_any _ _ _ _ _ _ _ _).mono ?_; rintro e w1 ⟨rfl, hn⟩; (first | (have hb := Below.goA hb hn; have sb := Lib.hid (keep' (heap_new _ _) hn)) | (have hb := Below.go hb hn; have sb := Lib.hid (keep' sb.out hn))); clear hn; obtain ⟨c0, c1, c2⟩ := box3 hb; obtain ⟨⟨s0, s1, s2⟩, _⟩ := blk3 sb.out) | (go_at_call 11; refine (part_any _ _ _ (by omega) (by omega) (by omega) (by omega)).mono ?_; rintro e w1 ⟨rfl, hn⟩; (first | (have hb := Below.goA hb hn; have sb := Lib.hid (keep' (heap_new _ _) hn)) | (have hb := Below.go hb hn; have sb := Lib.hid (keep' sb.out hn))); clear hn; obtain ⟨c0, c1, c2⟩ := box3 hb; obtain ⟨⟨s0, s1, s2⟩, _⟩ := blk3 sb.out) | (go_at_call 14; refine (abs_any _ _ (by omega) (by omega)).mono ?_; rintro e w' ⟨rfl, rfl⟩))
  go_ret
  exact ⟨rfl, fin_box hb⟩
set_option maxHeartbeats 2000000 in
set_option maxRecDepth 100000 in
theorem Limits_mid (a s r t want l h : Int) (w : World) (e1 : Slm.stE a s r t want l h = 0) (e2 : Slm.lfE a s r t want l h ≠ 0) : Calls Try.prog 6 #[O3 a s r, .int .i64 t, .int .i64 want, .int .i64 l, .int .i64 h] w (LawPost w) := by
  have hb := Below.refl (boxO w a s r).heap.size (boxO w a s r)
  have e2' := bne_of e2
  clear e2
  go_enter Try.func6, Try.ntmps6
  go_wp2_with (first | (go_at_call 9; refine (head_c (by assumption)).mono ?_; rintro e w1 ⟨rfl, hb⟩; obtain ⟨c0, c1, c2⟩ := box3 hb) | (go_at_call 12; refine (Steer_c (by assumption)).mono ?_; rintro e w1 ⟨rfl, hb⟩; obtain ⟨c0, c1, c2⟩ := box3 hb; obtain ⟨d0, d1, d2⟩ := box3A hb) | (go_at_call 10; refine (Show_any _ _ _ _ _).mono ?_; rintro e w1 ⟨rfl, hn⟩; (first | (have hb := Below.goA hb hn; have sb := Lib.hid (keep' (heap_new _ _) hn)) | (have hb := Below.go hb hn; have sb := Lib.hid (keep' sb.out hn))); clear hn; obtain ⟨c0, c1, c2⟩ := box3 hb; obtain ⟨⟨s0, s1, s2⟩, _⟩ := blk3 sb.out) | (go_at_call 13; refine (Left_any _ _ _ _ _ _ _ _).mono ?_; rintro e w1 ⟨rfl, hn⟩; (first | (have hb := Below.goA hb hn; have sb := Lib.hid (keep' (heap_new _ _) hn)) | (have hb := Below.go hb hn; have sb := Lib.hid (keep' sb.out hn))); clear hn; obtain ⟨c0, c1, c2⟩ := box3 hb; obtain ⟨⟨s0, s1, s2⟩, _⟩ := blk3 sb.out) | (go_at_call 11; refine (part_any _ _ _ (by omega) (by omega) (by omega) (by omega)).mono ?_; rintro e w1 ⟨rfl, hn⟩; (first | (have hb := Below.goA hb hn; have sb := Lib.hid (keep' (heap_new _ _) hn)) | (have hb := Below.go hb hn; have sb := Lib.hid (keep' sb.out hn))); clear hn; obtain ⟨c0, c1, c2⟩ := box3 hb; obtain ⟨⟨s0, s1, s2⟩, _⟩ := blk3 sb.out) | (go_at_call 14; refine (abs_any _ _ (by omega) (by omega)).mono ?_; rintro e w' ⟨rfl, rfl⟩))
  go_ret
  exact ⟨rfl, fin_box hb⟩
/-- what both laws need where both calls went well -/
theorem lim_facts {a s r t want l h : Int} (f : Slm.lfE a s r t want l h = 0) : Slm.stE a s r t want l h = 0 ∧ ∃ N R LF P : Int, Slm.stS a s r t want l h = N ∧ Slm.stR a s r t want l h = R ∧ Slm.lfV a s r t want l h = LF ∧ Slm.part h R = P ∧
    -100000000 ≤ R ∧ R ≤ 100000000 ∧ -10000000000000000 ≤ LF ∧ LF ≤ 10000000000000000 ∧ 1 ≤ h ∧ h ≤ 1000000000000 ∧ 0 ≤ N ∧ N ≤ 3000000000000000 ∧ 0 ≤ want ∧ want ≤ 3000000000000000 ∧ -1000000000000 ≤ P ∧ P ≤ 1000000000000 ∧ 0 ≤ l ∧
    LF = want - N - P ∧ (-l < R → R < l → ab LF ≤ h / 2000000000 + 1) ∧ ab LF ≤ ab (want - N) + h / 2000000000 + 1 := by
  obtain ⟨e, g1, g2, g3⟩ := Slm.lf_ok f
  obtain ⟨hB, hs0, q3, q4, q5⟩ := Slm.st_ok e
  obtain ⟨v1, ⟨t1, t2⟩, ⟨w1, w2⟩, ⟨l1, l2⟩, h5, h6⟩ := Slm.stB_bd hB
  obtain ⟨_, _, p1, p2, p3⟩ := Slm.sh_ok hs0
  have p4 := Slm.shn_bd v1 p1
  have p5 := (Slm.vO_bd v1).2.1.1
  have hR := Slm.spd_bd (d := want - Slm.shn a s r t) (l := l) (h := h) h5 l1
  have hP := Slm.part_bd (n := h) (r := Slm.spd (want - Slm.shn a s r t) l h) (by omega) (by omega) (by omega)
  have hc := Slm.left_cut (d := want - Slm.shn a s r t) (l := l) (h := h) h5 l1
  have hf := Slm.left_free (d := want - Slm.shn a s r t) (l := l) (h := h) h5 l1
  have ha : ∀ x y : Int, -y ≤ x → x ≤ y → ab x ≤ y := fun x y h1 h2 => (ab_bd h1 h2).2
  have hz : Slm.abz (want - Slm.shn a s r t) = ab (want - Slm.shn a s r t) := rfl
  rw [hz] at hc
  refine ⟨e, _, _, _, _, q4, q5, g3, rfl, by omega, by omega, ?_, ?_, h5, h6, by omega, by omega, w1, w2, by omega, by omega, l1, rfl, ?_, ?_⟩
  · omega
  · omega
  · intro r1 r2; exact ha _ _ (hf r1 r2).1 (hf r1 r2).2
  · exact ha _ _ hc.1 hc.2
theorem ab_lt {x l : Int} (h : ¬ l ≤ ab x) : -l < x ∧ x < l := by unfold ab at h; split at h <;> omega
theorem reaches_law (v : Value) (x : Int × Int × Int) (t want l h : Int) (w : World) (hv : IsO3 v x) (h1 : (Lit.int .i64 t).wf = true) (h2 : (Lit.int .i64 want).wf = true) (h3 : (Lit.int .i64 l).wf = true) (h4 : (Lit.int .i64 h).wf = true) :
    Calls Try.prog 5 #[v, .int .i64 t, .int .i64 want, .int .i64 l, .int .i64 h] w (LawPost w) := by
  obtain ⟨a, s, r⟩ := x
  obtain rfl : v = O3 a s r := hv
  by_cases e : Slm.stE a s r t want l h = 0
  · by_cases f : Slm.lfE a s r t want l h = 0
    · obtain ⟨_, N, R, LF, P, i1, i2, i3, i4, j1, j2, j3, j4, j5, j6, j7, j8, j9, j10, j11, j12, j13, j14, j15, j16⟩ := lim_facts f
      refine reaches_main a s r t want l h R LF w e f i2 i3 j1 j2 j3 j4 j5 j6 ?_
      by_cases c : l ≤ ab R
      · exact .inl (decide_eq_true c)
      · exact .inr ⟨decide_eq_false c, decide_eq_true (j15 (ab_lt c).1 (ab_lt c).2)⟩
    · exact Reaches_mid a s r t want l h w e f
  · exact Reaches_off a s r t want l h w e
theorem limits_law (v : Value) (x : Int × Int × Int) (t want l h : Int) (w : World) (hv : IsO3 v x) (h1 : (Lit.int .i64 t).wf = true) (h2 : (Lit.int .i64 want).wf = true) (h3 : (Lit.int .i64 l).wf = true) (h4 : (Lit.int .i64 h).wf = true) :
    Calls Try.prog 6 #[v, .int .i64 t, .int .i64 want, .int .i64 l, .int .i64 h] w (LawPost w) := by
  obtain ⟨a, s, r⟩ := x
  obtain rfl : v = O3 a s r := hv
  by_cases e : Slm.stE a s r t want l h = 0
  · by_cases f : Slm.lfE a s r t want l h = 0
    · obtain ⟨_, N, R, LF, P, i1, i2, i3, i4, j1, j2, j3, j4, j5, j6, j7, j8, j9, j10, j11, j12, j13, j14, j15, j16⟩ := lim_facts f
      have hz := ab_bd (n := want - N) (B := 3000000000000000) (by omega) (by omega)
      refine limits_main a s r t want l h N R LF P w e f i1 i2 i3 i4 j1 j2 j3 j4 j5 j6 j7 j8 j9 j10 j11 j12 hz.1 hz.2 ?_
      cases c : (ab R != l)
      · exact .inr ⟨rfl, by rw [j14]; simp, decide_eq_true j16⟩
      · exact .inl rfl
    · exact Limits_mid a s r t want l h w e f
  · exact Limits_off a s r t want l h w e
end Go.Proofs.Ytoeaclkmnnopmaa
