/- The walks of the laws BeliefWider and BeliefSteps: each returns true for all beliefs, intervals and numbers; nothing that was there has changed. -/
import Derived.Test.YtiagdbahokgonaaBeF
set_option linter.unusedVariables false
namespace Go.Proofs.Ytiagdbahokgonaa
open Go.RowKit
theorem keepD {W W' : World} {k n : Nat} {o : Obj} (h : W.heap[k]? = some o) (hb : Below (W.drewN n).heap.size (W.drewN n) W') : W'.heap[k]? = some o := keep' (W := W.drewN n) h hb
theorem keepAD {W W' : World} {k n : Nat} {o p : Obj} (h : W.heap[k]? = some o) (hb : Below ((W.alloc p).drewN n).heap.size ((W.alloc p).drewN n) W') : W'.heap[k]? = some o := keep' (W := (W.alloc p).drewN n) (keepN h p) hb
theorem newAD {W W' : World} {n : Nat} {p : Obj} (hb : Below ((W.alloc p).drewN n).heap.size ((W.alloc p).drewN n) W') : W'.heap[W.heap.size]? = some p := keep' (W := (W.alloc p).drewN n) (heap_new W p) hb
theorem Below.goD {w0 W w : World} {n : Nat} (h : Below w0.heap.size w0 W) (hb : Below (W.drewN n).heap.size (W.drewN n) w) : Below w0.heap.size w0 w := Below.go (below_drewN h n) hb
theorem Below.goAD {w0 W w : World} {n : Nat} {o : Obj} (h : Below w0.heap.size w0 W) (hb : Below ((W.alloc o).drewN n).heap.size ((W.alloc o).drewN n) w) : Below w0.heap.size w0 w := Below.go (below_drewN (h.alloc h.size o) n) hb
set_option maxHeartbeats 2000000 in
set_option maxRecDepth 100000 in
theorem wider_bad (a lo hi x y rt mo t : Int) (w : World) (hv : Blm.vB a lo hi = false ∨ Blm.vB a lo hi = true ∧ Blm.iV x y = false ∨ Blm.vB a lo hi = true ∧ Blm.iV x y = true ∧ ¬ (x ≤ lo ∧ hi ≤ y)) : Calls Try.prog 5 #[B3 a lo hi, I2 x y, .int .u32 rt, .int .u32 mo, .int .i64 t] w (LawPost w) := by
  have hb := two_box w (.cells #[.int .i64 a, .int .i64 lo, .int .i64 hi] 25) (.cells #[.int .i64 x, .int .i64 y] 23)
  have kb := Lib.hid (new0 w (.cells #[.int .i64 a, .int .i64 lo, .int .i64 hi] 25) (.cells #[.int .i64 x, .int .i64 y] 23))
  have ki := Lib.hid (new1 w (.cells #[.int .i64 a, .int .i64 lo, .int .i64 hi] 25) (.cells #[.int .i64 x, .int .i64 y] 23))
  rcases hv with h1 | ⟨h1, h2⟩ | ⟨h1, h2, h3⟩
  · go_enter Try.func5, Try.ntmps5
    go_wp2_with fail
    refine (head_any _).mono ?_
    rintro e wN ⟨rfl, hn⟩
    have hb := (by first | exact Below.go hb hn | exact Below.goA hb hn | exact Below.goAA hb hn | exact Below.goD hb hn | exact Below.goAD hb hn : Below w.heap.size w wN)
    have kb := Lib.hid (by first | exact keep' kb.out hn | exact keepA kb.out hn | exact keepAA kb.out hn | exact keepD kb.out hn | exact keepAD kb.out hn)
    have ki := Lib.hid (by first | exact keep' ki.out hn | exact keepA ki.out hn | exact keepAA ki.out hn | exact keepD ki.out hn | exact keepAD ki.out hn)
    clear hn
    obtain ⟨⟨kb0, kb1, kb2⟩, -⟩ := blk3 kb.out
    have kbz := lt_of_heap kb.out
    obtain ⟨⟨ki0, ki1⟩, -⟩ := blk2 ki.out
    have kiz := lt_of_heap ki.out
    go_wp2_with fail
    refine (rValid_any _ _ _ _).mono ?_
    rintro e wN ⟨rfl, hn⟩
    have hb := (by first | exact Below.go hb hn | exact Below.goA hb hn | exact Below.goAA hb hn | exact Below.goD hb hn | exact Below.goAD hb hn : Below w.heap.size w wN)
    have kb := Lib.hid (by first | exact keep' kb.out hn | exact keepA kb.out hn | exact keepAA kb.out hn | exact keepD kb.out hn | exact keepAD kb.out hn)
    have ki := Lib.hid (by first | exact keep' ki.out hn | exact keepA ki.out hn | exact keepAA ki.out hn | exact keepD ki.out hn | exact keepAD ki.out hn)
    clear hn
    obtain ⟨⟨kb0, kb1, kb2⟩, -⟩ := blk3 kb.out
    have kbz := lt_of_heap kb.out
    obtain ⟨⟨ki0, ki1⟩, -⟩ := blk2 ki.out
    have kiz := lt_of_heap ki.out
    go_wp2
    go_ret
    exact ⟨rfl, hb⟩
  · go_enter Try.func5, Try.ntmps5
    go_wp2_with fail
    refine (head_any _).mono ?_
    rintro e wN ⟨rfl, hn⟩
    have hb := (by first | exact Below.go hb hn | exact Below.goA hb hn | exact Below.goAA hb hn | exact Below.goD hb hn | exact Below.goAD hb hn : Below w.heap.size w wN)
    have kb := Lib.hid (by first | exact keep' kb.out hn | exact keepA kb.out hn | exact keepAA kb.out hn | exact keepD kb.out hn | exact keepAD kb.out hn)
    have ki := Lib.hid (by first | exact keep' ki.out hn | exact keepA ki.out hn | exact keepAA ki.out hn | exact keepD ki.out hn | exact keepAD ki.out hn)
    clear hn
    obtain ⟨⟨kb0, kb1, kb2⟩, -⟩ := blk3 kb.out
    have kbz := lt_of_heap kb.out
    obtain ⟨⟨ki0, ki1⟩, -⟩ := blk2 ki.out
    have kiz := lt_of_heap ki.out
    go_wp2_with fail
    refine (rValid_any _ _ _ _).mono ?_
    rintro e wN ⟨rfl, hn⟩
    have hb := (by first | exact Below.go hb hn | exact Below.goA hb hn | exact Below.goAA hb hn | exact Below.goD hb hn | exact Below.goAD hb hn : Below w.heap.size w wN)
    have kb := Lib.hid (by first | exact keep' kb.out hn | exact keepA kb.out hn | exact keepAA kb.out hn | exact keepD kb.out hn | exact keepAD kb.out hn)
    have ki := Lib.hid (by first | exact keep' ki.out hn | exact keepA ki.out hn | exact keepAA ki.out hn | exact keepD ki.out hn | exact keepAD ki.out hn)
    clear hn
    obtain ⟨⟨kb0, kb1, kb2⟩, -⟩ := blk3 kb.out
    have kbz := lt_of_heap kb.out
    obtain ⟨⟨ki0, ki1⟩, -⟩ := blk2 ki.out
    have kiz := lt_of_heap ki.out
    go_wp2_with fail
    refine (rIV_any _ _ _).mono ?_
    rintro e wN ⟨rfl, hn⟩
    have hb := (by first | exact Below.go hb hn | exact Below.goA hb hn | exact Below.goAA hb hn | exact Below.goD hb hn | exact Below.goAD hb hn : Below w.heap.size w wN)
    have kb := Lib.hid (by first | exact keep' kb.out hn | exact keepA kb.out hn | exact keepAA kb.out hn | exact keepD kb.out hn | exact keepAD kb.out hn)
    have ki := Lib.hid (by first | exact keep' ki.out hn | exact keepA ki.out hn | exact keepAA ki.out hn | exact keepD ki.out hn | exact keepAD ki.out hn)
    clear hn
    obtain ⟨⟨kb0, kb1, kb2⟩, -⟩ := blk3 kb.out
    have kbz := lt_of_heap kb.out
    obtain ⟨⟨ki0, ki1⟩, -⟩ := blk2 ki.out
    have kiz := lt_of_heap ki.out
    go_wp2
    go_ret
    exact ⟨rfl, hb⟩
  · go_enter Try.func5, Try.ntmps5
    go_wp2_with fail
    refine (head_any _).mono ?_
    rintro e wN ⟨rfl, hn⟩
    have hb := (by first | exact Below.go hb hn | exact Below.goA hb hn | exact Below.goAA hb hn | exact Below.goD hb hn | exact Below.goAD hb hn : Below w.heap.size w wN)
    have kb := Lib.hid (by first | exact keep' kb.out hn | exact keepA kb.out hn | exact keepAA kb.out hn | exact keepD kb.out hn | exact keepAD kb.out hn)
    have ki := Lib.hid (by first | exact keep' ki.out hn | exact keepA ki.out hn | exact keepAA ki.out hn | exact keepD ki.out hn | exact keepAD ki.out hn)
    clear hn
    obtain ⟨⟨kb0, kb1, kb2⟩, -⟩ := blk3 kb.out
    have kbz := lt_of_heap kb.out
    obtain ⟨⟨ki0, ki1⟩, -⟩ := blk2 ki.out
    have kiz := lt_of_heap ki.out
    go_wp2_with fail
    refine (rValid_any _ _ _ _).mono ?_
    rintro e wN ⟨rfl, hn⟩
    have hb := (by first | exact Below.go hb hn | exact Below.goA hb hn | exact Below.goAA hb hn | exact Below.goD hb hn | exact Below.goAD hb hn : Below w.heap.size w wN)
    have kb := Lib.hid (by first | exact keep' kb.out hn | exact keepA kb.out hn | exact keepAA kb.out hn | exact keepD kb.out hn | exact keepAD kb.out hn)
    have ki := Lib.hid (by first | exact keep' ki.out hn | exact keepA ki.out hn | exact keepAA ki.out hn | exact keepD ki.out hn | exact keepAD ki.out hn)
    clear hn
    obtain ⟨⟨kb0, kb1, kb2⟩, -⟩ := blk3 kb.out
    have kbz := lt_of_heap kb.out
    obtain ⟨⟨ki0, ki1⟩, -⟩ := blk2 ki.out
    have kiz := lt_of_heap ki.out
    go_wp2_with fail
    refine (rIV_any _ _ _).mono ?_
    rintro e wN ⟨rfl, hn⟩
    have hb := (by first | exact Below.go hb hn | exact Below.goA hb hn | exact Below.goAA hb hn | exact Below.goD hb hn | exact Below.goAD hb hn : Below w.heap.size w wN)
    have kb := Lib.hid (by first | exact keep' kb.out hn | exact keepA kb.out hn | exact keepAA kb.out hn | exact keepD kb.out hn | exact keepAD kb.out hn)
    have ki := Lib.hid (by first | exact keep' ki.out hn | exact keepA ki.out hn | exact keepAA ki.out hn | exact keepD ki.out hn | exact keepAD ki.out hn)
    clear hn
    obtain ⟨⟨kb0, kb1, kb2⟩, -⟩ := blk3 kb.out
    have kbz := lt_of_heap kb.out
    obtain ⟨⟨ki0, ki1⟩, -⟩ := blk2 ki.out
    have kiz := lt_of_heap ki.out
    go_wp2
    all_goals go_ret
    all_goals exact ⟨rfl, hb⟩
set_option maxHeartbeats 2000000 in
set_option maxRecDepth 100000 in
theorem wider_main (a lo hi x y rt mo t R s E I1 I2' K1 K2 : Int) (w : World) (v1 : Blm.vB a lo hi = true) (v2 : Blm.iV x y = true) (x1 : x ≤ lo) (y1 : hi ≤ y) (r0 : 0 ≤ rt) (r1 : rt < 4294967296) (m0 : 0 ≤ mo) (m1 : mo < 4294967296)
    (hR : rt % 1000001 = R) (hs : (if R + mo % 1000000 < 1000000 then R + mo % 1000000 else 1000000) = s) (e1 : Blm.atE a lo hi R t = E) (e2 : Blm.atE a x y s t = E) (i1 : Blm.atLo a lo hi R t = I1) (i2 : Blm.atHi a lo hi R t = I2') (k1 : Blm.atLo a x y s t = K1) (k2 : Blm.atHi a x y s t = K2)
    (hc : (E != 0) = true ∨ (E != 0) = false ∧ decide (K1 ≤ I1) = true ∧ decide (I2' ≤ K2) = true ∧ decide (I1 ≤ I2') = true) :
    Calls Try.prog 5 #[B3 a lo hi, I2 x y, .int .u32 rt, .int .u32 mo, .int .i64 t] w (LawPost w) := by
  have hb := two_box w (.cells #[.int .i64 a, .int .i64 lo, .int .i64 hi] 25) (.cells #[.int .i64 x, .int .i64 y] 23)
  have kb := Lib.hid (new0 w (.cells #[.int .i64 a, .int .i64 lo, .int .i64 hi] 25) (.cells #[.int .i64 x, .int .i64 y] 23))
  have ki := Lib.hid (new1 w (.cells #[.int .i64 a, .int .i64 lo, .int .i64 hi] 25) (.cells #[.int .i64 x, .int .i64 y] 23))
  have co := @cell_old
  have R0 : 0 ≤ R := by omega
  have R1 : R ≤ 1000000 := by omega
  rcases hc with c | ⟨c, d1, d2, d3⟩
  all_goals
    go_enter Try.func5, Try.ntmps5
    go_wp2_with fail
    refine (head_any _).mono ?_
    rintro e wN ⟨rfl, hn⟩
    have hb := (by first | exact Below.go hb hn | exact Below.goA hb hn | exact Below.goAA hb hn | exact Below.goD hb hn | exact Below.goAD hb hn : Below w.heap.size w wN)
    have kb := Lib.hid (by first | exact keep' kb.out hn | exact keepA kb.out hn | exact keepAA kb.out hn | exact keepD kb.out hn | exact keepAD kb.out hn)
    have ki := Lib.hid (by first | exact keep' ki.out hn | exact keepA ki.out hn | exact keepAA ki.out hn | exact keepD ki.out hn | exact keepAD ki.out hn)
    clear hn
    obtain ⟨⟨kb0, kb1, kb2⟩, -⟩ := blk3 kb.out
    have kbz := lt_of_heap kb.out
    obtain ⟨⟨ki0, ki1⟩, -⟩ := blk2 ki.out
    have kiz := lt_of_heap ki.out
    go_wp2_with fail
    refine (rValid_any _ _ _ _).mono ?_
    rintro e wN ⟨rfl, hn⟩
    have hb := (by first | exact Below.go hb hn | exact Below.goA hb hn | exact Below.goAA hb hn | exact Below.goD hb hn | exact Below.goAD hb hn : Below w.heap.size w wN)
    have kb := Lib.hid (by first | exact keep' kb.out hn | exact keepA kb.out hn | exact keepAA kb.out hn | exact keepD kb.out hn | exact keepAD kb.out hn)
    have ki := Lib.hid (by first | exact keep' ki.out hn | exact keepA ki.out hn | exact keepAA ki.out hn | exact keepD ki.out hn | exact keepAD ki.out hn)
    clear hn
    obtain ⟨⟨kb0, kb1, kb2⟩, -⟩ := blk3 kb.out
    have kbz := lt_of_heap kb.out
    obtain ⟨⟨ki0, ki1⟩, -⟩ := blk2 ki.out
    have kiz := lt_of_heap ki.out
    go_wp2_with fail
    refine (rIV_any _ _ _).mono ?_
    rintro e wN ⟨rfl, hn⟩
    have hb := (by first | exact Below.go hb hn | exact Below.goA hb hn | exact Below.goAA hb hn | exact Below.goD hb hn | exact Below.goAD hb hn : Below w.heap.size w wN)
    have kb := Lib.hid (by first | exact keep' kb.out hn | exact keepA kb.out hn | exact keepAA kb.out hn | exact keepD kb.out hn | exact keepAD kb.out hn)
    have ki := Lib.hid (by first | exact keep' ki.out hn | exact keepA ki.out hn | exact keepAA ki.out hn | exact keepD ki.out hn | exact keepAD ki.out hn)
    clear hn
    obtain ⟨⟨kb0, kb1, kb2⟩, -⟩ := blk3 kb.out
    have kbz := lt_of_heap kb.out
    obtain ⟨⟨ki0, ki1⟩, -⟩ := blk2 ki.out
    have kiz := lt_of_heap ki.out
    go_wp2_with fail
    refine (At_any _ _ _ _ _ _).mono ?_
    rintro e wN ⟨rfl, hn⟩
    have hb := (by first | exact Below.go hb hn | exact Below.goA hb hn | exact Below.goAA hb hn | exact Below.goD hb hn | exact Below.goAD hb hn : Below w.heap.size w wN)
    have kb := Lib.hid (by first | exact keep' kb.out hn | exact keepA kb.out hn | exact keepAA kb.out hn | exact keepD kb.out hn | exact keepAD kb.out hn)
    have ki := Lib.hid (by first | exact keep' ki.out hn | exact keepA ki.out hn | exact keepAA ki.out hn | exact keepD ki.out hn | exact keepAD ki.out hn)
    clear hn
    obtain ⟨⟨kb0, kb1, kb2⟩, -⟩ := blk3 kb.out
    have kbz := lt_of_heap kb.out
    obtain ⟨⟨ki0, ki1⟩, -⟩ := blk2 ki.out
    have kiz := lt_of_heap ki.out
    go_wp2_with fail
    refine (At_any _ _ _ _ _ _).mono ?_
    rintro e wN ⟨rfl, hn⟩
    have hb := (by first | exact Below.go hb hn | exact Below.goA hb hn | exact Below.goAA hb hn | exact Below.goD hb hn | exact Below.goAD hb hn : Below w.heap.size w wN)
    have kc := Lib.hid (by first | exact keep' (heap_new _ _) hn | exact newAD hn)
    clear hn
    obtain ⟨⟨kc0, kc1⟩, -⟩ := blk2 kc.out
    have kcz := lt_of_heap kc.out
    go_wp2
    go_ret
    exact ⟨rfl, hb.alloc hb.size _⟩
theorem atB_same {a lo hi x y r s t : Int} (v1 : Blm.vB a lo hi = true) (v2 : Blm.vB a x y = true) (h1 : 0 ≤ r ∧ r ≤ 1000000) (h2 : 0 ≤ s ∧ s ≤ 1000000) : Blm.atE a x y s t = Blm.atE a lo hi r t := by
  unfold Blm.atE Blm.atB; rw [v1, v2, Drm.rB_yes h1, Drm.rB_yes h2]
theorem wider_law (v : Value) (b : Int × Int × Int) (u : Value) (i : Int × Int) (rt mo t : Int) (w : World) (hv : IsB3 v b) (hu : IsI2 u i) (h1 : (Lit.int .u32 rt).wf = true) (h2 : (Lit.int .u32 mo).wf = true) (h3 : (Lit.int .i64 t).wf = true) : Calls Try.prog 5 #[v, u, .int .u32 rt, .int .u32 mo, .int .i64 t] w (LawPost w) := by
  obtain ⟨a, lo, hi⟩ := b
  obtain ⟨x, y⟩ := i
  obtain ⟨rfl, -, -, -⟩ := hv
  obtain ⟨rfl, -, -⟩ := hu
  have b1 := bounds_u32 h1
  have b2 := bounds_u32 h2
  show Calls Try.prog 5 #[B3 a lo hi, I2 x y, .int .u32 rt, .int .u32 mo, .int .i64 t] w (LawPost w)
  cases v1 : Blm.vB a lo hi
  · exact wider_bad a lo hi x y rt mo t w (.inl v1)
  cases v2 : Blm.iV x y
  · exact wider_bad a lo hi x y rt mo t w (.inr (.inl ⟨v1, v2⟩))
  by_cases hw : x ≤ lo ∧ hi ≤ y
  rotate_left
  · exact wider_bad a lo hi x y rt mo t w (.inr (.inr ⟨v1, v2, hw⟩))
  obtain ⟨⟨a1, a2⟩, l1, l2, l3⟩ := Blm.vB_bd v1
  obtain ⟨i1, i2, i3⟩ := Blm.iV_bd v2
  have v3 : Blm.vB a x y = true := Blm.vB_yes ⟨a1, a2⟩ ⟨i1, i2, i3⟩
  obtain ⟨R, hR⟩ : ∃ d, rt % 1000001 = d := ⟨_, rfl⟩
  obtain ⟨s, hs⟩ : ∃ d, (if R + mo % 1000000 < 1000000 then R + mo % 1000000 else 1000000) = d := ⟨_, rfl⟩
  have R0 : 0 ≤ R := by omega
  have R1 : R ≤ 1000000 := by omega
  have s0 : R ≤ s ∧ s ≤ 1000000 := by rw [← hs]; split <;> omega
  have hE := atB_same (t := t) v1 v3 ⟨R0, R1⟩ (s := s) ⟨by omega, s0.2⟩
  refine wider_main a lo hi x y rt mo t R s _ _ _ _ _ w v1 v2 hw.1 hw.2 (by omega) (by omega) (by omega) (by omega) hR hs rfl hE rfl rfl rfl rfl ?_
  by_cases e : Blm.atE a lo hi R t = 0
  · obtain ⟨-, t1, t2, q1, q2, -⟩ := Blm.at_ok e
    obtain ⟨-, -, -, p1, p2, -⟩ := Blm.at_ok (hE.trans e)
    have m1 := Drm.elLo_mono (r := R) (s := s) (n := t - a) R0 s0.1 (by omega)
    have m2 := Drm.elHi_mono (r := R) (s := s) (n := t - a) R0 s0.1 s0.2 (by omega)
    have m3 := Drm.el_bd (r := R) (n := t - a) R0 R1 (by omega)
    refine .inr ⟨by rw [e]; rfl, decide_eq_true ?_, decide_eq_true ?_, decide_eq_true ?_⟩
    · rw [q1, p1]; exact Blm.mn_mono (by omega)
    · rw [q2, p2]; exact Blm.mn_mono (by omega)
    · rw [q1, q2]; exact Blm.mn_mono (by omega)
  · exact .inl (bne_of e)
set_option maxHeartbeats 2000000 in
set_option maxRecDepth 100000 in
theorem steps_bad (a lo hi rt on tw R m n : Int) (w : World) (r0 : 0 ≤ rt) (r1 : rt < 4294967296) (o0 : 0 ≤ on) (o1 : on < 18446744073709551616) (t0 : 0 ≤ tw) (t1 : tw < 18446744073709551616) (hR : rt % 1000001 = R) (hm : on % 100000000000000 = m) (hn : tw % 100000000000000 = n)
    (hv : Blm.vB a lo hi = false ∨ Blm.vB a lo hi = true ∧ 3000000000000000 < a + m + n) : Calls Try.prog 4 #[B3 a lo hi, .int .u32 rt, .int .u64 on, .int .u64 tw] w (LawPost w) := by
  have hb := (Below.refl w.heap.size w).alloc (Nat.le_refl _) (.cells #[.int .i64 a, .int .i64 lo, .int .i64 hi] 25)
  have kb := Lib.hid (heap_new w (.cells #[.int .i64 a, .int .i64 lo, .int .i64 hi] 25))
  have m0 : 0 ≤ m := by omega
  have m1 : m ≤ 100000000000000 := by omega
  have n0 : 0 ≤ n := by omega
  have n1 : n ≤ 100000000000000 := by omega
  rcases hv with h1 | ⟨h1, h2⟩
  · go_enter Try.func4, Try.ntmps4
    go_wp2_with fail
    refine (head_any _).mono ?_
    rintro e wN ⟨rfl, hn⟩
    have hb := (by first | exact Below.go hb hn | exact Below.goA hb hn | exact Below.goAA hb hn | exact Below.goD hb hn | exact Below.goAD hb hn : Below w.heap.size w wN)
    have kb := Lib.hid (by first | exact keep' kb.out hn | exact keepA kb.out hn | exact keepAA kb.out hn | exact keepD kb.out hn | exact keepAD kb.out hn)
    clear hn
    obtain ⟨⟨kb0, kb1, kb2⟩, -⟩ := blk3 kb.out
    have kbz := lt_of_heap kb.out
    go_wp2_with fail
    refine (rValid_any _ _ _ _).mono ?_
    rintro e wN ⟨rfl, hn⟩
    have hb := (by first | exact Below.go hb hn | exact Below.goA hb hn | exact Below.goAA hb hn | exact Below.goD hb hn | exact Below.goAD hb hn : Below w.heap.size w wN)
    have kb := Lib.hid (by first | exact keep' kb.out hn | exact keepA kb.out hn | exact keepAA kb.out hn | exact keepD kb.out hn | exact keepAD kb.out hn)
    clear hn
    obtain ⟨⟨kb0, kb1, kb2⟩, -⟩ := blk3 kb.out
    have kbz := lt_of_heap kb.out
    go_wp2
    go_ret
    exact ⟨rfl, hb⟩
  · obtain ⟨⟨a1, a2⟩, -, -, -⟩ := Blm.vB_bd h1
    go_enter Try.func4, Try.ntmps4
    go_wp2_with fail
    refine (head_any _).mono ?_
    rintro e wN ⟨rfl, hn⟩
    have hb := (by first | exact Below.go hb hn | exact Below.goA hb hn | exact Below.goAA hb hn | exact Below.goD hb hn | exact Below.goAD hb hn : Below w.heap.size w wN)
    have kb := Lib.hid (by first | exact keep' kb.out hn | exact keepA kb.out hn | exact keepAA kb.out hn | exact keepD kb.out hn | exact keepAD kb.out hn)
    clear hn
    obtain ⟨⟨kb0, kb1, kb2⟩, -⟩ := blk3 kb.out
    have kbz := lt_of_heap kb.out
    go_wp2_with fail
    refine (rValid_any _ _ _ _).mono ?_
    rintro e wN ⟨rfl, hn⟩
    have hb := (by first | exact Below.go hb hn | exact Below.goA hb hn | exact Below.goAA hb hn | exact Below.goD hb hn | exact Below.goAD hb hn : Below w.heap.size w wN)
    have kb := Lib.hid (by first | exact keep' kb.out hn | exact keepA kb.out hn | exact keepAA kb.out hn | exact keepD kb.out hn | exact keepAD kb.out hn)
    clear hn
    obtain ⟨⟨kb0, kb1, kb2⟩, -⟩ := blk3 kb.out
    have kbz := lt_of_heap kb.out
    go_wp2
    go_ret
    exact ⟨rfl, hb⟩
set_option maxHeartbeats 2000000 in
set_option maxRecDepth 100000 in
theorem steps_main (a lo hi rt on tw R m n C1 C2 D1 D2 I1 I2' : Int) (w : World) (r0 : 0 ≤ rt) (r1 : rt < 4294967296) (o0 : 0 ≤ on) (o1 : on < 18446744073709551616) (t0 : 0 ≤ tw) (t1 : tw < 18446744073709551616) (hR : rt % 1000001 = R) (hm : on % 100000000000000 = m) (hn : tw % 100000000000000 = n)
    (v1 : Blm.vB a lo hi = true) (h2 : a + m + n ≤ 3000000000000000)
    (e1 : Blm.atE a lo hi R (a + m) = 0) (e2 : Blm.adA a lo hi R (a + m) = a + m) (e3 : Blm.atLo a lo hi R (a + m) = C1) (e4 : Blm.atHi a lo hi R (a + m) = C2)
    (f1 : Blm.atE (a + m) C1 C2 R (a + m + n) = 0) (f2 : Blm.adA (a + m) C1 C2 R (a + m + n) = a + m + n) (f3 : Blm.atLo (a + m) C1 C2 R (a + m + n) = D1) (f4 : Blm.atHi (a + m) C1 C2 R (a + m + n) = D2)
    (g1 : Blm.atE a lo hi R (a + m + n) = 0) (g3 : Blm.atLo a lo hi R (a + m + n) = I1) (g4 : Blm.atHi a lo hi R (a + m + n) = I2')
    (c1 : decide (I2' ≤ D2) = true) (c2 : decide (0 < R) = true ∨ decide (0 < R) = false ∧ D1 = I1 ∧ D2 = I2') :
    Calls Try.prog 4 #[B3 a lo hi, .int .u32 rt, .int .u64 on, .int .u64 tw] w (LawPost w) := by
  have hb := (Below.refl w.heap.size w).alloc (Nat.le_refl _) (.cells #[.int .i64 a, .int .i64 lo, .int .i64 hi] 25)
  have kb := Lib.hid (heap_new w (.cells #[.int .i64 a, .int .i64 lo, .int .i64 hi] 25))
  have co := @cell_old
  have m0 : 0 ≤ m := by omega
  have m1 : m ≤ 100000000000000 := by omega
  have n0 : 0 ≤ n := by omega
  have n1 : n ≤ 100000000000000 := by omega
  have R0 : 0 ≤ R := by omega
  have R1 : R ≤ 1000000 := by omega
  obtain ⟨⟨a1, a2⟩, -, -, -⟩ := Blm.vB_bd v1
  rcases c2 with c2 | ⟨c2, c3, c4⟩
  · go_enter Try.func4, Try.ntmps4
    go_wp2_with fail
    refine (head_any _).mono ?_
    rintro e wN ⟨rfl, hn⟩
    have hb := (by first | exact Below.go hb hn | exact Below.goA hb hn | exact Below.goAA hb hn | exact Below.goD hb hn | exact Below.goAD hb hn : Below w.heap.size w wN)
    have kb := Lib.hid (by first | exact keep' kb.out hn | exact keepA kb.out hn | exact keepAA kb.out hn | exact keepD kb.out hn | exact keepAD kb.out hn)
    clear hn
    obtain ⟨⟨kb0, kb1, kb2⟩, -⟩ := blk3 kb.out
    have kbz := lt_of_heap kb.out
    go_wp2_with fail
    refine (rValid_any _ _ _ _).mono ?_
    rintro e wN ⟨rfl, hn⟩
    have hb := (by first | exact Below.go hb hn | exact Below.goA hb hn | exact Below.goAA hb hn | exact Below.goD hb hn | exact Below.goAD hb hn : Below w.heap.size w wN)
    have kb := Lib.hid (by first | exact keep' kb.out hn | exact keepA kb.out hn | exact keepAA kb.out hn | exact keepD kb.out hn | exact keepAD kb.out hn)
    clear hn
    obtain ⟨⟨kb0, kb1, kb2⟩, -⟩ := blk3 kb.out
    have kbz := lt_of_heap kb.out
    go_wp2_with fail
    refine (Advance_any _ _ _ _ _ _).mono ?_
    rintro e wN ⟨rfl, hn⟩
    have hb := (by first | exact Below.go hb hn | exact Below.goA hb hn | exact Below.goAA hb hn | exact Below.goD hb hn | exact Below.goAD hb hn : Below w.heap.size w wN)
    have kb := Lib.hid (by first | exact keep' kb.out hn | exact keepA kb.out hn | exact keepAA kb.out hn | exact keepD kb.out hn | exact keepAD kb.out hn)
    clear hn
    obtain ⟨⟨kb0, kb1, kb2⟩, -⟩ := blk3 kb.out
    have kbz := lt_of_heap kb.out
    go_wp2_with fail
    refine (Advance_any _ _ _ _ _ _).mono ?_
    rintro e wN ⟨rfl, hn⟩
    have hb := (by first | exact Below.go hb hn | exact Below.goA hb hn | exact Below.goAA hb hn | exact Below.goD hb hn | exact Below.goAD hb hn : Below w.heap.size w wN)
    have kc := Lib.hid (by first | exact keep' (heap_new _ _) hn | exact newAD hn)
    have kb := Lib.hid (by first | exact keep' kb.out hn | exact keepA kb.out hn | exact keepAA kb.out hn | exact keepD kb.out hn | exact keepAD kb.out hn)
    clear hn
    obtain ⟨⟨kc0, kc1, kc2⟩, -⟩ := blk3 kc.out
    have kcz := lt_of_heap kc.out
    obtain ⟨⟨kb0, kb1, kb2⟩, -⟩ := blk3 kb.out
    have kbz := lt_of_heap kb.out
    go_wp2_with fail
    refine (At_any _ _ _ _ _ _).mono ?_
    rintro e wN ⟨rfl, hn⟩
    have hb := (by first | exact Below.go hb hn | exact Below.goA hb hn | exact Below.goAA hb hn | exact Below.goD hb hn | exact Below.goAD hb hn : Below w.heap.size w wN)
    have kd := Lib.hid (by first | exact keep' (heap_new _ _) hn | exact newAD hn)
    have kb := Lib.hid (by first | exact keep' kb.out hn | exact keepA kb.out hn | exact keepAA kb.out hn | exact keepD kb.out hn | exact keepAD kb.out hn)
    clear hn
    obtain ⟨⟨kd0, kd1, kd2⟩, -⟩ := blk3 kd.out
    have kdz := lt_of_heap kd.out
    obtain ⟨⟨kb0, kb1, kb2⟩, -⟩ := blk3 kb.out
    have kbz := lt_of_heap kb.out
    go_wp2
    go_ret
    exact ⟨rfl, hb.alloc hb.size _⟩
  · subst c3 c4
    go_enter Try.func4, Try.ntmps4
    go_wp2_with fail
    refine (head_any _).mono ?_
    rintro e wN ⟨rfl, hn⟩
    have hb := (by first | exact Below.go hb hn | exact Below.goA hb hn | exact Below.goAA hb hn | exact Below.goD hb hn | exact Below.goAD hb hn : Below w.heap.size w wN)
    have kb := Lib.hid (by first | exact keep' kb.out hn | exact keepA kb.out hn | exact keepAA kb.out hn | exact keepD kb.out hn | exact keepAD kb.out hn)
    clear hn
    obtain ⟨⟨kb0, kb1, kb2⟩, -⟩ := blk3 kb.out
    have kbz := lt_of_heap kb.out
    go_wp2_with fail
    refine (rValid_any _ _ _ _).mono ?_
    rintro e wN ⟨rfl, hn⟩
    have hb := (by first | exact Below.go hb hn | exact Below.goA hb hn | exact Below.goAA hb hn | exact Below.goD hb hn | exact Below.goAD hb hn : Below w.heap.size w wN)
    have kb := Lib.hid (by first | exact keep' kb.out hn | exact keepA kb.out hn | exact keepAA kb.out hn | exact keepD kb.out hn | exact keepAD kb.out hn)
    clear hn
    obtain ⟨⟨kb0, kb1, kb2⟩, -⟩ := blk3 kb.out
    have kbz := lt_of_heap kb.out
    go_wp2_with fail
    refine (Advance_any _ _ _ _ _ _).mono ?_
    rintro e wN ⟨rfl, hn⟩
    have hb := (by first | exact Below.go hb hn | exact Below.goA hb hn | exact Below.goAA hb hn | exact Below.goD hb hn | exact Below.goAD hb hn : Below w.heap.size w wN)
    have kb := Lib.hid (by first | exact keep' kb.out hn | exact keepA kb.out hn | exact keepAA kb.out hn | exact keepD kb.out hn | exact keepAD kb.out hn)
    clear hn
    obtain ⟨⟨kb0, kb1, kb2⟩, -⟩ := blk3 kb.out
    have kbz := lt_of_heap kb.out
    go_wp2_with fail
    refine (Advance_any _ _ _ _ _ _).mono ?_
    rintro e wN ⟨rfl, hn⟩
    have hb := (by first | exact Below.go hb hn | exact Below.goA hb hn | exact Below.goAA hb hn | exact Below.goD hb hn | exact Below.goAD hb hn : Below w.heap.size w wN)
    have kc := Lib.hid (by first | exact keep' (heap_new _ _) hn | exact newAD hn)
    have kb := Lib.hid (by first | exact keep' kb.out hn | exact keepA kb.out hn | exact keepAA kb.out hn | exact keepD kb.out hn | exact keepAD kb.out hn)
    clear hn
    obtain ⟨⟨kc0, kc1, kc2⟩, -⟩ := blk3 kc.out
    have kcz := lt_of_heap kc.out
    obtain ⟨⟨kb0, kb1, kb2⟩, -⟩ := blk3 kb.out
    have kbz := lt_of_heap kb.out
    go_wp2_with fail
    refine (At_any _ _ _ _ _ _).mono ?_
    rintro e wN ⟨rfl, hn⟩
    have hb := (by first | exact Below.go hb hn | exact Below.goA hb hn | exact Below.goAA hb hn | exact Below.goD hb hn | exact Below.goAD hb hn : Below w.heap.size w wN)
    have kd := Lib.hid (by first | exact keep' (heap_new _ _) hn | exact newAD hn)
    have kb := Lib.hid (by first | exact keep' kb.out hn | exact keepA kb.out hn | exact keepAA kb.out hn | exact keepD kb.out hn | exact keepAD kb.out hn)
    clear hn
    obtain ⟨⟨kd0, kd1, kd2⟩, -⟩ := blk3 kd.out
    have kdz := lt_of_heap kd.out
    obtain ⟨⟨kb0, kb1, kb2⟩, -⟩ := blk3 kb.out
    have kbz := lt_of_heap kb.out
    go_wp2
    go_ret
    exact ⟨rfl, hb.alloc hb.size _⟩
theorem mn_two {x n : Int} (hn : 0 ≤ n) : Blm.mn (Blm.mn x + n) = Blm.mn (x + n) := by
  unfold Blm.mn
  by_cases h : 3000000000000000 < x
  · rw [if_pos h, if_pos (c := 3000000000000000 < x + n) (by omega)]; split <;> omega
  · rw [if_neg h]
theorem steps_law (v : Value) (b : Int × Int × Int) (rt on tw : Int) (w : World) (hv : IsB3 v b) (h1 : (Lit.int .u32 rt).wf = true) (h2 : (Lit.int .u64 on).wf = true) (h3 : (Lit.int .u64 tw).wf = true) : Calls Try.prog 4 #[v, .int .u32 rt, .int .u64 on, .int .u64 tw] w (LawPost w) := by
  obtain ⟨a, lo, hi⟩ := b
  obtain ⟨rfl, -, -, -⟩ := hv
  have b1 := bounds_u32 h1
  have b2 := bounds_u64 h2
  have b3 := bounds_u64 h3
  show Calls Try.prog 4 #[B3 a lo hi, .int .u32 rt, .int .u64 on, .int .u64 tw] w (LawPost w)
  obtain ⟨R, hR⟩ : ∃ d, rt % 1000001 = d := ⟨_, rfl⟩
  obtain ⟨m, hm⟩ : ∃ d, on % 100000000000000 = d := ⟨_, rfl⟩
  obtain ⟨n, hn⟩ : ∃ d, tw % 100000000000000 = d := ⟨_, rfl⟩
  have m0 : 0 ≤ m := by omega
  have m1 : m ≤ 100000000000000 := by omega
  have n0 : 0 ≤ n := by omega
  have n1 : n ≤ 100000000000000 := by omega
  have R0 : 0 ≤ R := by omega
  have R1 : R ≤ 1000000 := by omega
  cases v1 : Blm.vB a lo hi
  · exact steps_bad a lo hi rt on tw R m n w (by omega) (by omega) (by omega) (by omega) (by omega) (by omega) hR hm hn (.inl v1)
  by_cases h2 : a + m + n ≤ 3000000000000000
  rotate_left
  · exact steps_bad a lo hi rt on tw R m n w (by omega) (by omega) (by omega) (by omega) (by omega) (by omega) hR hm hn (.inr ⟨v1, by omega⟩)
  obtain ⟨⟨a1, a2⟩, l1, l2, l3⟩ := Blm.vB_bd v1
  have e1 := Blm.at_yes (Blm.atB_yes (a := a) (lo := lo) (hi := hi) (r := R) (t := a + m) v1 ⟨by omega, by omega⟩ ⟨R0, R1⟩) (by omega) (by omega)
  have g1 := Blm.at_yes (Blm.atB_yes (a := a) (lo := lo) (hi := hi) (r := R) (t := a + m + n) v1 ⟨by omega, by omega⟩ ⟨R0, R1⟩) (by omega) (by omega)
  obtain ⟨-, -, -, e3, e4, e2⟩ := Blm.at_ok e1
  obtain ⟨-, -, -, g3, g4, -⟩ := Blm.at_ok g1
  rw [show a + m - a = m by omega] at e3 e4
  rw [show a + m + n - a = m + n by omega] at g3 g4
  have bm := Drm.el_bd (r := R) (n := m) R0 R1 m0
  have bn := Drm.el_bd (r := R) (n := n) R0 R1 n0
  have vc : Blm.vB (a + m) (Blm.mn (lo + Drm.elLo R m)) (Blm.mn (hi + Drm.elHi R m)) = true := by
    have p1 := Blm.mn_bd (x := lo + Drm.elLo R m) (by omega)
    have p2 := Blm.mn_bd (x := hi + Drm.elHi R m) (by omega)
    exact Blm.vB_yes ⟨by omega, by omega⟩ ⟨by omega, Blm.mn_mono (by omega), by omega⟩
  have f1 := Blm.at_yes (Blm.atB_yes (r := R) (t := a + m + n) vc ⟨by omega, by omega⟩ ⟨R0, R1⟩) (by omega) (by omega)
  obtain ⟨-, -, -, f3, f4, f2⟩ := Blm.at_ok f1
  rw [show a + m + n - (a + m) = n by omega] at f3 f4
  refine steps_main a lo hi rt on tw R m n _ _ _ _ _ _ w (by omega) (by omega) (by omega) (by omega) (by omega) (by omega) hR hm hn v1 h2 e1 e2 e3 e4 f1 f2 f3 f4 g1 g3 g4 (decide_eq_true ?_) ?_
  · have := Drm.elHi_add (r := R) (m := m) (n := n) R0 R1
    rw [mn_two (by omega)]
    exact Blm.mn_mono (by omega)
  · by_cases hz : 0 < R
    · exact .inl (decide_eq_true hz)
    · obtain rfl : R = 0 := by omega
      refine .inr ⟨rfl, ?_, ?_⟩
      · rw [Drm.el_zero.1, Drm.el_zero.1, Drm.el_zero.1, mn_two n0]; congr 1; omega
      · rw [Drm.el_zero.2, Drm.el_zero.2, Drm.el_zero.2, mn_two n0]; congr 1; omega
end Go.Proofs.Ytiagdbahokgonaa
