/- The walks of the laws DriftTruth and DriftOrder. -/
import Derived.Test.YtlmdjkkeocmehaaDrL
import Derived.OpenShut
set_option linter.unusedVariables false
namespace Go.Proofs.Ytlmdjkkeocmehaa
open Go.RowKit
def inB (n a b : Int) : Bool := decide (a ≤ n ∧ n ≤ b)
theorem inB_yes {n a b : Int} (h1 : a ≤ n) (h2 : n ≤ b) : inB n a b = true := decide_eq_true ⟨h1, h2⟩
theorem in_any (n a b : Int) (w : World) : Calls Try.prog 24 #[.int .i64 n, I2 a b] w (RetB (.bool (inB n a b)) w) := by
  have hb := (Below.refl w.heap.size w).alloc (Nat.le_refl _) (oRg a b)
  by_cases h1 : a ≤ n
  · by_cases h2 : n ≤ b
    · have e : Hid (inB n a b = true) := Lib.hid (inB_yes h1 h2)
      go_enter Try.func24, Try.ntmps24
      go_wp2
      go_ret
      exact ⟨ret_bool e.out.symm, hb⟩
    · have e : Hid (inB n a b = false) := Lib.hid (decide_eq_false (by omega))
      have q : decide (n ≤ b) = false := decide_eq_false h2
      go_enter Try.func24, Try.ntmps24
      go_wp2
      go_ret
      exact ⟨ret_bool e.out.symm, hb⟩
  · have e : Hid (inB n a b = false) := Lib.hid (decide_eq_false (by omega))
    have q : decide (a ≤ n) = false := decide_eq_false h1
    go_enter Try.func24, Try.ntmps24
    go_wp2
    go_ret
    exact ⟨ret_bool e.out.symm, hb⟩
theorem Floor_ok (a n d : Int) (w : World) (h : -3000000000000000 ≤ a ∧ a ≤ 3000000000000000 ∧ 0 ≤ n ∧ n ≤ 2000000000 ∧ 1 ≤ d ∧ d ≤ 2000000000) (hv : -3000000000000000 ≤ a * n / d ∧ a * n / d ≤ 3000000000000000) :
    Calls Try.prog 26 #[.int .i64 a, .int .i64 n, .int .i64 d] w (RetB (.tuple #[.int .i64 (a * n / d), .int .i64 0]) w) := by
  have e := (Scm.sF_div (a := a) (n := n) h.2.2.2.2.1).1
  have := Floor_any a n d w
  obtain ⟨r1, r2⟩ := Scm.r_yes (v := Scm.sF a n d) (okB_yes h) (isT_yes (by rw [e]; exact hv))
  rw [r1, r2, e] at this
  exact this
theorem Elapsed_ok (r n : Int) (w : World) (h1 : 0 ≤ r ∧ r ≤ 1000000) (h2 : 0 ≤ n ∧ n ≤ 1000000000000000) : Calls Try.prog 17 #[.int .i64 r, .int .i64 n] w (RetB (.tuple #[I2 (Drm.elLo r n) (Drm.elHi r n), .int .i64 0]) w) := by
  obtain ⟨e1, e2, e3, -, -⟩ := Drm.okE_yes (Drm.okE_mk h1 h2)
  have := Elapsed_any r n w
  rw [e1, e2, e3] at this
  exact this
theorem Counts_ok (r n : Int) (w : World) (h1 : 0 ≤ r ∧ r ≤ 1000000) (h2 : 0 ≤ n ∧ n ≤ 1000000000000000) : Calls Try.prog 19 #[.int .i64 r, .int .i64 n] w (RetB (.tuple #[I2 (Drm.coLo r n) (Drm.coHi r n), .int .i64 0]) w) := by
  obtain ⟨e1, -, -, e2, e3⟩ := Drm.okE_yes (Drm.okE_mk h1 h2)
  have := Counts_any r n w
  rw [e1, e2, e3] at this
  exact this
/-- what a counter with an error of up to r counts -/
theorem truth_math {r e one two : Int} (h0 : 0 ≤ r) (h1 : r ≤ 1000000) (h2 : -r ≤ e) (h3 : e ≤ r) (h4 : one ≤ two) :
    let n := two * (1000000000 + e) / 1000000000 - one * (1000000000 + e) / 1000000000
    0 ≤ n ∧ (Drm.elLo r n ≤ two - one ∧ two - one ≤ Drm.elHi r n) ∧ Drm.coLo r (two - one) ≤ n ∧ n ≤ Drm.coHi r (two - one) := by
  intro n
  have hd : 0 ≤ two - one := by omega
  have m1 : two * (1000000000 + e) = one * (1000000000 + e) + (two - one) * (1000000000 + e) := by rw [← Int.add_mul]; congr 1; omega
  have m2 := Int.mul_le_mul_of_nonneg_left (show 1000000000 + e ≤ 1000000000 + r by omega) hd
  have m3 := Int.mul_le_mul_of_nonneg_left (show 1000000000 - r ≤ 1000000000 + e by omega) hd
  have m4 := Int.mul_nonneg hd (show 0 ≤ 1000000000 - r by omega)
  have c1 : (n - 1) * 1000000000 < (two - one) * (1000000000 + r) := by show (two * (1000000000 + e) / 1000000000 - one * (1000000000 + e) / 1000000000 - 1) * 1000000000 < _; omega
  have c2 : (two - one) * (1000000000 - r) < (n + 1) * 1000000000 := by show _ < (two * (1000000000 + e) / 1000000000 - one * (1000000000 + e) / 1000000000 + 1) * 1000000000; omega
  refine ⟨by show 0 ≤ two * (1000000000 + e) / 1000000000 - one * (1000000000 + e) / 1000000000; omega, ⟨(Drm.lo_iff h0).2 c1, (Drm.hi_iff h1).2 c2⟩, Drm.colo_iff.2 c2, Drm.cohi_iff.2 c1⟩
theorem floor_bd {e x : Int} (h : -1000000 ≤ e) (h2 : e ≤ 1000000) (h3 : 0 ≤ x) (h4 : x ≤ 1000000000000000) : 0 ≤ x * (1000000000 + e) / 1000000000 ∧ x * (1000000000 + e) / 1000000000 ≤ 2000000000000000 := by
  have m1 := Int.mul_nonneg h3 (show 0 ≤ 1000000000 + e by omega)
  have m2 := Int.mul_le_mul_of_nonneg_left (show 1000000000 + e ≤ 1001000000 by omega) h3
  omega
theorem truth_ways (r e one two : Int) : (r < 0 ∨ 0 ≤ r ∧ 1000000 < r ∨ (0 ≤ r ∧ r ≤ 1000000) ∧ e < -r ∨ (0 ≤ r ∧ r ≤ 1000000) ∧ -r ≤ e ∧ r < e ∨ (0 ≤ r ∧ r ≤ 1000000) ∧ -r ≤ e ∧ e ≤ r ∧ one < 0 ∨ (0 ≤ r ∧ r ≤ 1000000) ∧ -r ≤ e ∧ e ≤ r ∧ 0 ≤ one ∧ two < one ∨ (0 ≤ r ∧ r ≤ 1000000) ∧ -r ≤ e ∧ e ≤ r ∧ 0 ≤ one ∧ one ≤ two ∧ 1000000000000000 < two) ∨ ((0 ≤ r ∧ r ≤ 1000000) ∧ -r ≤ e ∧ e ≤ r ∧ 0 ≤ one ∧ one ≤ two ∧ two ≤ 1000000000000000) := by omega
set_option maxHeartbeats 2000000 in
set_option maxRecDepth 100000 in
theorem truth_main (r e one two a b : Int) (w : World) (h : (0 ≤ r ∧ r ≤ 1000000) ∧ -r ≤ e ∧ e ≤ r ∧ 0 ≤ one ∧ one ≤ two ∧ two ≤ 1000000000000000) (ha : a = one * (1000000000 + e) / 1000000000) (hb' : b = two * (1000000000 + e) / 1000000000)
    (ba : 0 ≤ a ∧ a ≤ 2000000000000000) (bb : 0 ≤ b ∧ b ≤ 2000000000000000) (hn : 0 ≤ b - a) (hi1 : inB (two - one) (Drm.elLo r (b - a)) (Drm.elHi r (b - a)) = true) (hi2 : inB (b - a) (Drm.coLo r (two - one)) (Drm.coHi r (two - one)) = true) : Calls Try.prog 8 #[.int .i64 r, .int .i64 e, .int .i64 one, .int .i64 two] w (LawPost w) := by
  obtain ⟨⟨h1, h2⟩, h3, h4, h5, h6, h7⟩ := h
  obtain ⟨a1, a2⟩ := ba
  obtain ⟨b1, b2⟩ := bb
  have F1 : Hid (∀ W, Calls Try.prog 26 #[.int .i64 one, .int .i64 (1000000000 + e), .int .i64 1000000000] W (RetB (.tuple #[.int .i64 a, .int .i64 0]) W)) := Lib.hid fun W => by rw [ha]; exact Floor_ok _ _ _ W (by omega) (by rw [← ha]; omega)
  have F2 : Hid (∀ W, Calls Try.prog 26 #[.int .i64 two, .int .i64 (1000000000 + e), .int .i64 1000000000] W (RetB (.tuple #[.int .i64 b, .int .i64 0]) W)) := Lib.hid fun W => by rw [hb']; exact Floor_ok _ _ _ W (by omega) (by rw [← hb']; omega)
  clear ha hb'
  have hb := Below.refl w.heap.size w
  by_cases hd : 1000000000000000 < b - a
  · clear hi1 hi2
    go_enter Try.func8, Try.ntmps8
    go_wp2_with fail
    refine (head_any _).mono ?_
    rintro e wN ⟨rfl, hn⟩
    have hb := (by first | exact Below.go hb hn | exact Below.goA hb hn | exact Below.goAA hb hn | exact Below.goD hb hn | exact Below.goAD hb hn : Below w.heap.size w wN)
    clear hn
    go_wp2_with fail
    refine (F1.out _).mono ?_
    rintro e wN ⟨rfl, hn⟩
    have hb := (by first | exact Below.go hb hn | exact Below.goA hb hn | exact Below.goAA hb hn | exact Below.goD hb hn | exact Below.goAD hb hn : Below w.heap.size w wN)
    clear hn
    go_wp2_with fail
    refine (F2.out _).mono ?_
    rintro e wN ⟨rfl, hn⟩
    have hb := (by first | exact Below.go hb hn | exact Below.goA hb hn | exact Below.goAA hb hn | exact Below.goD hb hn | exact Below.goAD hb hn : Below w.heap.size w wN)
    clear hn
    go_wp2
    go_ret
    exact ⟨rfl, hb⟩
  · have E1 := Lib.hid (fun W => Elapsed_ok r (b - a) W ⟨h1, h2⟩ ⟨hn, by omega⟩)
    have C1 := Lib.hid (fun W => Counts_ok r (two - one) W ⟨h1, h2⟩ ⟨by omega, by omega⟩)
    generalize Drm.elLo r (b - a) = x1 at *
    generalize Drm.elHi r (b - a) = x2 at *
    generalize Drm.coLo r (two - one) = y1 at *
    generalize Drm.coHi r (two - one) = y2 at *
    have q : decide (1000000000000000 < b - a) = false := decide_eq_false hd
    go_enter Try.func8, Try.ntmps8
    go_wp2_with fail
    refine (head_any _).mono ?_
    rintro e wN ⟨rfl, hn⟩
    have hb := (by first | exact Below.go hb hn | exact Below.goA hb hn | exact Below.goAA hb hn | exact Below.goD hb hn | exact Below.goAD hb hn : Below w.heap.size w wN)
    clear hn
    go_wp2_with fail
    refine (F1.out _).mono ?_
    rintro e wN ⟨rfl, hn⟩
    have hb := (by first | exact Below.go hb hn | exact Below.goA hb hn | exact Below.goAA hb hn | exact Below.goD hb hn | exact Below.goAD hb hn : Below w.heap.size w wN)
    clear hn
    go_wp2_with fail
    refine (F2.out _).mono ?_
    rintro e wN ⟨rfl, hn⟩
    have hb := (by first | exact Below.go hb hn | exact Below.goA hb hn | exact Below.goAA hb hn | exact Below.goD hb hn | exact Below.goAD hb hn : Below w.heap.size w wN)
    clear hn
    go_wp2_with fail
    refine (E1.out _).mono ?_
    rintro e wN ⟨rfl, hn⟩
    have hb := (by first | exact Below.go hb hn | exact Below.goA hb hn | exact Below.goAA hb hn | exact Below.goD hb hn | exact Below.goAD hb hn : Below w.heap.size w wN)
    clear hn
    go_wp2_with fail
    refine (C1.out _).mono ?_
    rintro e wN ⟨rfl, hn⟩
    have hb := (by first | exact Below.go hb hn | exact Below.goA hb hn | exact Below.goAA hb hn | exact Below.goD hb hn | exact Below.goAD hb hn : Below w.heap.size w wN)
    have ka := Lib.hid (by first | exact keep' (heap_new _ _) hn | exact newAD hn)
    clear hn
    obtain ⟨⟨ka0, ka1⟩, -⟩ := blk2 ka.out
    have kaz := lt_of_heap ka.out
    go_wp2_with fail
    refine (in_any _ _ _ _).mono ?_
    rintro e wN ⟨rfl, hn⟩
    have hb := (by first | exact Below.go hb hn | exact Below.goA hb hn | exact Below.goAA hb hn | exact Below.goD hb hn | exact Below.goAD hb hn : Below w.heap.size w wN)
    have ka := Lib.hid (by first | exact keep' ka.out hn | exact keepA ka.out hn | exact keepAA ka.out hn | exact keepD ka.out hn | exact keepAD ka.out hn)
    have kb := Lib.hid (by first | exact keep' (heap_new _ _) hn | exact newAD hn)
    clear hn
    obtain ⟨⟨ka0, ka1⟩, -⟩ := blk2 ka.out
    have kaz := lt_of_heap ka.out
    obtain ⟨⟨kb0, kb1⟩, -⟩ := blk2 kb.out
    have kbz := lt_of_heap kb.out
    go_wp2_with fail
    refine (in_any _ _ _ _).mono ?_
    rintro e wN ⟨rfl, hn⟩
    have hb := (by first | exact Below.go hb hn | exact Below.goA hb hn | exact Below.goAA hb hn | exact Below.goD hb hn | exact Below.goAD hb hn : Below w.heap.size w wN)
    have ka := Lib.hid (by first | exact keep' ka.out hn | exact keepA ka.out hn | exact keepAA ka.out hn | exact keepD ka.out hn | exact keepAD ka.out hn)
    have kb := Lib.hid (by first | exact keep' kb.out hn | exact keepA kb.out hn | exact keepAA kb.out hn | exact keepD kb.out hn | exact keepAD kb.out hn)
    clear hn
    obtain ⟨⟨ka0, ka1⟩, -⟩ := blk2 ka.out
    have kaz := lt_of_heap ka.out
    obtain ⟨⟨kb0, kb1⟩, -⟩ := blk2 kb.out
    have kbz := lt_of_heap kb.out
    go_wp2
    go_ret
    exact ⟨rfl, hb⟩
set_option maxHeartbeats 2000000 in
set_option maxRecDepth 100000 in
theorem truth_law (r e one two : Int) (w : World) (w1 : (Lit.int .i64 r).wf = true) (w2 : (Lit.int .i64 e).wf = true) (w3 : (Lit.int .i64 one).wf = true) (w4 : (Lit.int .i64 two).wf = true) : Calls Try.prog 8 #[.int .i64 r, .int .i64 e, .int .i64 one, .int .i64 two] w (LawPost w) := by
  have q1 := bounds_i64 w1
  have q2 := bounds_i64 w2
  have q3 := bounds_i64 w3
  have q4 := bounds_i64 w4
  clear w1 w2 w3 w4
  rcases truth_ways r e one two with hw | hw
  · rcases hw with hw | hw | hw | hw | hw | hw | hw
    all_goals
      have hb := Below.refl w.heap.size w
      go_enter Try.func8, Try.ntmps8
      go_wp2_with fail
      refine (head_any _).mono ?_
      rintro e wN ⟨rfl, hn⟩
      have hb := (by first | exact Below.go hb hn | exact Below.goA hb hn | exact Below.goAA hb hn | exact Below.goD hb hn | exact Below.goAD hb hn : Below w.heap.size w wN)
      clear hn
      go_wp2
      go_ret
      exact ⟨rfl, hb⟩
  · obtain ⟨t1, ⟨t2, t3⟩, t4, t5⟩ := truth_math hw.1.1 hw.1.2 hw.2.1 hw.2.2.1 hw.2.2.2.2.1
    exact truth_main r e one two _ _ w hw rfl rfl (floor_bd (by omega) (by omega) (by omega) (by omega)) (floor_bd (by omega) (by omega) (by omega) (by omega)) t1 (inB_yes t2 t3) (inB_yes t4 t5)
end Go.Proofs.Ytlmdjkkeocmehaa
