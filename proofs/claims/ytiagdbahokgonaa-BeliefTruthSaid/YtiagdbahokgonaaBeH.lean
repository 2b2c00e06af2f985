/- The walk of the law BeliefTruth: it returns true for all beliefs and numbers; nothing that was there has changed. -/
import Derived.Test.YtiagdbahokgonaaBeG
set_option linter.unusedVariables false
namespace Go.Proofs.Ytiagdbahokgonaa
open Go.RowKit
set_option maxHeartbeats 2000000 in
set_option maxRecDepth 100000 in
theorem truth_bad (a lo hi rt el wh cn : Int) (w : World) (hv : Blm.vB a lo hi = false) : Calls Try.prog 9 #[B3 a lo hi, .int .u32 rt, .int .u64 el, .int .u64 wh, .int .u64 cn] w (LawPost w) := by
  have hb := (Below.refl w.heap.size w).alloc (Nat.le_refl _) (.cells #[.int .i64 a, .int .i64 lo, .int .i64 hi] 25)
  have kb := Lib.hid (heap_new w (.cells #[.int .i64 a, .int .i64 lo, .int .i64 hi] 25))
  go_enter Try.func9, Try.ntmps9
  go_wp2_with fail
  refine (head_any _).mono ?_
  rintro e wN ⟨rfl, hn⟩
  have hb := (by first | exact Below.go hb hn | exact Below.goA hb hn | exact Below.goAA hb hn | exact Below.goD hb hn | exact Below.goAD hb hn : Below w.heap.size w wN)
  have kb := Lib.hid (by first | exact keep' kb.out hn | exact keepA kb.out hn | exact keepAA kb.out hn | exact keepD kb.out hn | exact keepAD kb.out hn)
  clear hn
  obtain ⟨⟨kb0, kb1, kb2⟩, -⟩ := blk3 kb.out
  have kbz := lt_of_heap kb.out
  go_wp2_with fail
  refine (rValid_any _ _ _ _).mono ?_
  rintro e wN ⟨rfl, hn⟩
  have hb := (by first | exact Below.go hb hn | exact Below.goA hb hn | exact Below.goAA hb hn | exact Below.goD hb hn | exact Below.goAD hb hn : Below w.heap.size w wN)
  have kb := Lib.hid (by first | exact keep' kb.out hn | exact keepA kb.out hn | exact keepAA kb.out hn | exact keepD kb.out hn | exact keepAD kb.out hn)
  clear hn
  obtain ⟨⟨kb0, kb1, kb2⟩, -⟩ := blk3 kb.out
  have kbz := lt_of_heap kb.out
  go_wp2
  go_ret
  exact ⟨rfl, hb⟩
set_option maxHeartbeats 2000000 in
set_option maxRecDepth 100000 in
theorem truth_main (a lo hi rt el wh cn R e L H D M T : Int) (w : World) (v1 : Blm.vB a lo hi = true) (r0 : 0 ≤ rt) (r1 : rt < 4294967296) (e0 : 0 ≤ el) (e1 : el < 18446744073709551616) (c0 : 0 ≤ cn) (c1 : cn < 18446744073709551616)
    (hR : rt % 1000001 = R) (he : el % 750000000000000 = e) (hE : Drm.eE R e = 0) (hL : Drm.cLo R e = L) (hH : Drm.cHi R e = H) (l1 : 0 ≤ L) (l2 : L ≤ H) (l3 : H ≤ 1000000000000000) (hD : H - L + 1 = D) (hM : cn.tmod D = M) (m1 : 0 ≤ M) (m2 : M < D)
    (hin : ∀ w, Calls Try.prog 25 #[I2 lo hi, .int .u64 wh] w (RetB (.int .i64 T) w)) (t1 : lo ≤ T) (t2 : T ≤ hi)
    (hc : ¬ (a + (L + M) ≤ 3000000000000000 ∧ T + e ≤ 3000000000000000) ∨ (a + (L + M) ≤ 3000000000000000 ∧ T + e ≤ 3000000000000000) ∧ ∃ X Y, Blm.atE a lo hi R (a + (L + M)) = 0 ∧ Blm.atLo a lo hi R (a + (L + M)) = X ∧ Blm.atHi a lo hi R (a + (L + M)) = Y ∧ hasB X Y (T + e) = true) :
    Calls Try.prog 9 #[B3 a lo hi, .int .u32 rt, .int .u64 el, .int .u64 wh, .int .u64 cn] w (LawPost w) := by
  have hb := (Below.refl w.heap.size w).alloc (Nat.le_refl _) (.cells #[.int .i64 a, .int .i64 lo, .int .i64 hi] 25)
  have kb := Lib.hid (heap_new w (.cells #[.int .i64 a, .int .i64 lo, .int .i64 hi] 25))
  have co := @cell_old
  have Hin := Lib.hid hin
  clear hin
  obtain ⟨⟨a1, a2⟩, b1, b2, b3⟩ := Blm.vB_bd v1
  have z0 : 0 ≤ e := by omega
  have z1 : e < 750000000000000 := by omega
  have hz : (D == 0) = false := by simp; omega
  have hz2 : ¬ D = 0 := by omega
  rcases hc with hf | ⟨⟨g1, g2⟩, X, Y, k1, k2, k3, k4⟩
  · go_enter Try.func9, Try.ntmps9
    go_wp2_with fail
    refine (head_any _).mono ?_
    rintro e wN ⟨rfl, hn⟩
    have hb := (by first | exact Below.go hb hn | exact Below.goA hb hn | exact Below.goAA hb hn | exact Below.goD hb hn | exact Below.goAD hb hn : Below w.heap.size w wN)
    have kb := Lib.hid (by first | exact keep' kb.out hn | exact keepA kb.out hn | exact keepAA kb.out hn | exact keepD kb.out hn | exact keepAD kb.out hn)
    clear hn
    obtain ⟨⟨kb0, kb1, kb2⟩, -⟩ := blk3 kb.out
    have kbz := lt_of_heap kb.out
    go_wp2_with fail
    refine (rValid_any _ _ _ _).mono ?_
    rintro e wN ⟨rfl, hn⟩
    have hb := (by first | exact Below.go hb hn | exact Below.goA hb hn | exact Below.goAA hb hn | exact Below.goD hb hn | exact Below.goAD hb hn : Below w.heap.size w wN)
    have kb := Lib.hid (by first | exact keep' kb.out hn | exact keepA kb.out hn | exact keepAA kb.out hn | exact keepD kb.out hn | exact keepAD kb.out hn)
    clear hn
    obtain ⟨⟨kb0, kb1, kb2⟩, -⟩ := blk3 kb.out
    have kbz := lt_of_heap kb.out
    go_wp2_with fail
    refine (Counts_any _ _ _).mono ?_
    rintro e wN ⟨rfl, hn⟩
    have hb := (by first | exact Below.go hb hn | exact Below.goA hb hn | exact Below.goAA hb hn | exact Below.goD hb hn | exact Below.goAD hb hn : Below w.heap.size w wN)
    have kb := Lib.hid (by first | exact keep' kb.out hn | exact keepA kb.out hn | exact keepAA kb.out hn | exact keepD kb.out hn | exact keepAD kb.out hn)
    clear hn
    obtain ⟨⟨kb0, kb1, kb2⟩, -⟩ := blk3 kb.out
    have kbz := lt_of_heap kb.out
    go_wp2
    have w1 : IntKind.i64.wrap (H - L) = H - L := IntWalk.i64_in _ (by omega)
    have w2 : IntKind.i64.wrap (H - L + 1) = D := by rw [hD]; exact IntWalk.i64_in _ (by omega)
    have w3 : IntKind.u64.wrap D = D := by rw [wrap_u64]; omega
    have w4 : IntKind.u64.wrap M = M := by rw [wrap_u64]; omega
    have w5 : IntKind.i64.wrap M = M := IntWalk.i64_in _ (by omega)
    have w6 : IntKind.i64.wrap (L + M) = L + M := IntWalk.i64_in _ (by omega)
    go_quiet (fail)
    clear w1 w2 w3 w4 w5 w6
    go_wp2_with fail
    refine (Hin.out _).mono ?_
    rintro e wN ⟨rfl, hn⟩
    have hb := (by first | exact Below.go hb hn | exact Below.goA hb hn | exact Below.goAA hb hn | exact Below.goD hb hn | exact Below.goAD hb hn : Below w.heap.size w wN)
    have kb := Lib.hid (by first | exact keep' kb.out hn | exact keepA kb.out hn | exact keepAA kb.out hn | exact keepD kb.out hn | exact keepAD kb.out hn)
    clear hn
    obtain ⟨⟨kb0, kb1, kb2⟩, -⟩ := blk3 kb.out
    have kbz := lt_of_heap kb.out
    go_wp2
    all_goals go_ret
    all_goals exact ⟨rfl, hb⟩
  · go_enter Try.func9, Try.ntmps9
    go_wp2_with fail
    refine (head_any _).mono ?_
    rintro e wN ⟨rfl, hn⟩
    have hb := (by first | exact Below.go hb hn | exact Below.goA hb hn | exact Below.goAA hb hn | exact Below.goD hb hn | exact Below.goAD hb hn : Below w.heap.size w wN)
    have kb := Lib.hid (by first | exact keep' kb.out hn | exact keepA kb.out hn | exact keepAA kb.out hn | exact keepD kb.out hn | exact keepAD kb.out hn)
    clear hn
    obtain ⟨⟨kb0, kb1, kb2⟩, -⟩ := blk3 kb.out
    have kbz := lt_of_heap kb.out
    go_wp2_with fail
    refine (rValid_any _ _ _ _).mono ?_
    rintro e wN ⟨rfl, hn⟩
    have hb := (by first | exact Below.go hb hn | exact Below.goA hb hn | exact Below.goAA hb hn | exact Below.goD hb hn | exact Below.goAD hb hn : Below w.heap.size w wN)
    have kb := Lib.hid (by first | exact keep' kb.out hn | exact keepA kb.out hn | exact keepAA kb.out hn | exact keepD kb.out hn | exact keepAD kb.out hn)
    clear hn
    obtain ⟨⟨kb0, kb1, kb2⟩, -⟩ := blk3 kb.out
    have kbz := lt_of_heap kb.out
    go_wp2_with fail
    refine (Counts_any _ _ _).mono ?_
    rintro e wN ⟨rfl, hn⟩
    have hb := (by first | exact Below.go hb hn | exact Below.goA hb hn | exact Below.goAA hb hn | exact Below.goD hb hn | exact Below.goAD hb hn : Below w.heap.size w wN)
    have kb := Lib.hid (by first | exact keep' kb.out hn | exact keepA kb.out hn | exact keepAA kb.out hn | exact keepD kb.out hn | exact keepAD kb.out hn)
    clear hn
    obtain ⟨⟨kb0, kb1, kb2⟩, -⟩ := blk3 kb.out
    have kbz := lt_of_heap kb.out
    go_wp2
    have w1 : IntKind.i64.wrap (H - L) = H - L := IntWalk.i64_in _ (by omega)
    have w2 : IntKind.i64.wrap (H - L + 1) = D := by rw [hD]; exact IntWalk.i64_in _ (by omega)
    have w3 : IntKind.u64.wrap D = D := by rw [wrap_u64]; omega
    have w4 : IntKind.u64.wrap M = M := by rw [wrap_u64]; omega
    have w5 : IntKind.i64.wrap M = M := IntWalk.i64_in _ (by omega)
    have w6 : IntKind.i64.wrap (L + M) = L + M := IntWalk.i64_in _ (by omega)
    go_quiet (fail)
    clear w1 w2 w3 w4 w5 w6
    go_wp2_with fail
    refine (Hin.out _).mono ?_
    rintro e wN ⟨rfl, hn⟩
    have hb := (by first | exact Below.go hb hn | exact Below.goA hb hn | exact Below.goAA hb hn | exact Below.goD hb hn | exact Below.goAD hb hn : Below w.heap.size w wN)
    have kb := Lib.hid (by first | exact keep' kb.out hn | exact keepA kb.out hn | exact keepAA kb.out hn | exact keepD kb.out hn | exact keepAD kb.out hn)
    clear hn
    obtain ⟨⟨kb0, kb1, kb2⟩, -⟩ := blk3 kb.out
    have kbz := lt_of_heap kb.out
    go_wp2_with fail
    refine (At_any _ _ _ _ _ _).mono ?_
    rintro e wN ⟨rfl, hn⟩
    have hb := (by first | exact Below.go hb hn | exact Below.goA hb hn | exact Below.goAA hb hn | exact Below.goD hb hn | exact Below.goAD hb hn : Below w.heap.size w wN)
    have kb := Lib.hid (by first | exact keep' kb.out hn | exact keepA kb.out hn | exact keepAA kb.out hn | exact keepD kb.out hn | exact keepAD kb.out hn)
    clear hn
    obtain ⟨⟨kb0, kb1, kb2⟩, -⟩ := blk3 kb.out
    have kbz := lt_of_heap kb.out
    go_wp2_with fail
    refine (Has_any _ _ _ _).mono ?_
    rintro e wN ⟨rfl, hn⟩
    have hb := (by first | exact Below.go hb hn | exact Below.goA hb hn | exact Below.goAA hb hn | exact Below.goD hb hn | exact Below.goAD hb hn : Below w.heap.size w wN)
    have kb := Lib.hid (by first | exact keep' kb.out hn | exact keepA kb.out hn | exact keepAA kb.out hn | exact keepD kb.out hn | exact keepAD kb.out hn)
    clear hn
    obtain ⟨⟨kb0, kb1, kb2⟩, -⟩ := blk3 kb.out
    have kbz := lt_of_heap kb.out
    go_wp2
    go_ret
    exact ⟨rfl, hb⟩
theorem truth_law (v : Value) (b : Int × Int × Int) (rt el wh cn : Int) (w : World) (hv : IsB3 v b) (h1 : (Lit.int .u32 rt).wf = true) (h2 : (Lit.int .u64 el).wf = true) (h3 : (Lit.int .u64 wh).wf = true) (h4 : (Lit.int .u64 cn).wf = true) : Calls Try.prog 9 #[v, .int .u32 rt, .int .u64 el, .int .u64 wh, .int .u64 cn] w (LawPost w) := by
  obtain ⟨a, lo, hi⟩ := b
  obtain ⟨rfl, -, -, -⟩ := hv
  have q1 := bounds_u32 h1
  have q2 := bounds_u64 h2
  have q3 := bounds_u64 h3
  have q4 := bounds_u64 h4
  show Calls Try.prog 9 #[B3 a lo hi, .int .u32 rt, .int .u64 el, .int .u64 wh, .int .u64 cn] w (LawPost w)
  cases v1 : Blm.vB a lo hi
  · exact truth_bad a lo hi rt el wh cn w v1
  obtain ⟨⟨a1, a2⟩, b1, b2, b3⟩ := Blm.vB_bd v1
  obtain ⟨R, hR⟩ : ∃ d, rt % 1000001 = d := ⟨_, rfl⟩
  obtain ⟨e, he⟩ : ∃ d, el % 750000000000000 = d := ⟨_, rfl⟩
  have R0 : 0 ≤ R := by omega
  have R1 : R ≤ 1000000 := by omega
  have z0 : 0 ≤ e := by omega
  have z1 : e < 750000000000000 := by omega
  obtain ⟨hE, -, -, hL, hH⟩ := Drm.okE_yes (Drm.okE_mk ⟨R0, R1⟩ ⟨z0, by omega⟩)
  have hc := Drm.co_bd (r := R) (e := e) R0 R1 z0
  obtain ⟨D, hD⟩ : ∃ d, Drm.coHi R e - Drm.coLo R e + 1 = d := ⟨_, rfl⟩
  have hM : cn.tmod D = cn % D := Int.tmod_eq_emod_of_nonneg (by omega)
  have m1 := Int.emod_nonneg cn (show D ≠ 0 by omega)
  have m2 := Int.emod_lt_of_pos cn (show 0 < D by omega)
  have iv := Blm.iV_yes ⟨b1, b2, b3⟩
  have t1 := Int.emod_nonneg wh (show hi - lo + 1 ≠ 0 by omega)
  have t2 := Int.emod_lt_of_pos wh (show 0 < hi - lo + 1 by omega)
  refine truth_main a lo hi rt el wh cn R e _ _ D _ _ w v1 (by omega) (by omega) (by omega) (by omega) (by omega) (by omega) hR he hE hL hH (by omega) (by omega) (by omega) hD hM m1 m2 (fun w => inside_any lo hi wh w iv (by omega) (by omega)) (by omega) (by omega) ?_
  generalize wh % (hi - lo + 1) = U at *
  generalize cn % D = M at *
  by_cases hg : a + (Drm.coLo R e + M) ≤ 3000000000000000 ∧ lo + U + e ≤ 3000000000000000
  · right
    refine ⟨hg, _, _, ?_, rfl, rfl, ?_⟩
    · exact Blm.at_yes (Blm.atB_yes v1 ⟨by omega, hg.1⟩ ⟨R0, R1⟩) (by omega) (by omega)
    · have e1 := Blm.at_yes (Blm.atB_yes (a := a) (lo := lo) (hi := hi) (r := R) (t := a + (Drm.coLo R e + M)) v1 ⟨by omega, hg.1⟩ ⟨R0, R1⟩) (by omega) (by omega)
      obtain ⟨-, -, -, e3, e4, -⟩ := Blm.at_ok e1
      rw [show a + (Drm.coLo R e + M) - a = Drm.coLo R e + M by omega] at e3 e4
      have c1 := (Drm.colo_iff (r := R) (n := Drm.coLo R e + M) (e := e)).1 (by omega)
      have c2 := (Drm.cohi_iff (r := R) (n := Drm.coLo R e + M) (e := e)).1 (by omega)
      have d1 := (Drm.lo_iff (r := R) (n := Drm.coLo R e + M) (e := e) R0).2 c2
      have d2 := (Drm.hi_iff (r := R) (n := Drm.coLo R e + M) (e := e) R1).2 c1
      rw [e3, e4]
      refine hasB_yes ⟨?_, ?_⟩
      · have := Blm.mn_bd (x := lo + Drm.elLo R (Drm.coLo R e + M)) (by have := Drm.el_bd (r := R) (n := Drm.coLo R e + M) R0 R1 (by omega); omega)
        omega
      · have : lo + U + e = Blm.mn (lo + U + e) := by unfold Blm.mn; rw [if_neg (by omega)]
        rw [this]
        exact Blm.mn_mono (by omega)
  · exact .inl hg
end Go.Proofs.Ytiagdbahokgonaa
