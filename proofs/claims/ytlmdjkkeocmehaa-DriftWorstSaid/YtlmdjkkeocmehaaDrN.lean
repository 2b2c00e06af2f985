/- The walks of the laws DriftOrder and DriftExact. -/
import Derived.Test.YtlmdjkkeocmehaaDrM
set_option linter.unusedVariables false
namespace Go.Proofs.Ytlmdjkkeocmehaa
open Go.RowKit
def wiB (a b c d : Int) : Bool := decide (c ≤ a ∧ b ≤ d)
theorem wiB_yes {a b c d : Int} (h1 : c ≤ a) (h2 : b ≤ d) : wiB a b c d = true := decide_eq_true ⟨h1, h2⟩
theorem within_any (a b c d : Int) (w : World) : Calls Try.prog 25 #[I2 a b, I2 c d] w (RetB (.bool (wiB a b c d)) w) := by
  have hb := below2 w (oRg a b) (oRg c d)
  by_cases h1 : c ≤ a
  · by_cases h2 : b ≤ d
    · have e : Hid (wiB a b c d = true) := Lib.hid (wiB_yes h1 h2)
      go_enter Try.func25, Try.ntmps25
      go_wp2
      go_ret
      exact ⟨ret_bool e.out.symm, hb⟩
    · have e : Hid (wiB a b c d = false) := Lib.hid (decide_eq_false (by omega))
      have q : decide (b ≤ d) = false := decide_eq_false h2
      go_enter Try.func25, Try.ntmps25
      go_wp2
      go_ret
      exact ⟨ret_bool e.out.symm, hb⟩
  · have e : Hid (wiB a b c d = false) := Lib.hid (decide_eq_false (by omega))
    have q : decide (c ≤ a) = false := decide_eq_false h1
    go_enter Try.func25, Try.ntmps25
    go_wp2
    go_ret
    exact ⟨ret_bool e.out.symm, hb⟩
theorem okE_one {r n : Int} (h : Drm.okE r n = false) : Drm.eE r n = 1 := (Drm.okE_no h).1
set_option maxHeartbeats 2000000 in
set_option maxRecDepth 100000 in
theorem order_fail (rate other n m r s x y E1 E2 E3 a1 a2 b1 b2 c1 c2 : Int) (w : World) (hr : (if other < rate then other else rate) = r) (hs : (if rate < other then other else rate) = s) (hx : (if m < n then m else n) = x) (hy : (if n < m then m else n) = y)
    (F1 : Hid (∀ W, Calls Try.prog 17 #[.int .i64 r, .int .i64 x] W (RetB (.tuple #[I2 a1 a2, .int .i64 E1]) W))) (F2 : Hid (∀ W, Calls Try.prog 17 #[.int .i64 s, .int .i64 x] W (RetB (.tuple #[I2 b1 b2, .int .i64 E2]) W))) (F3 : Hid (∀ W, Calls Try.prog 17 #[.int .i64 r, .int .i64 y] W (RetB (.tuple #[I2 c1 c2, .int .i64 E3]) W)))
    (hE : E1 = 1 ∨ E1 = 0 ∧ E2 = 1 ∨ E1 = 0 ∧ E2 = 0 ∧ E3 = 1) : Calls Try.prog 5 #[.int .i64 rate, .int .i64 other, .int .i64 n, .int .i64 m] w (LawPost w) := by
  have hb := Below.refl w.heap.size w
  rcases hE with rfl | ⟨rfl, rfl⟩ | ⟨rfl, rfl, rfl⟩
  all_goals
    go_enter Try.func5, Try.ntmps5
    go_wp2_with fail
    refine (head_any _).mono ?_
    rintro e wN ⟨rfl, hn⟩
    have hb := (by first | exact Below.go hb hn | exact Below.goA hb hn | exact Below.goAA hb hn | exact Below.goD hb hn | exact Below.goAD hb hn : Below w.heap.size w wN)
    clear hn
    go_wp2_with fail
    refine (F1.out _).mono ?_
    rintro e wN ⟨rfl, hn⟩
    have hb := (by first | exact Below.go hb hn | exact Below.goA hb hn | exact Below.goAA hb hn | exact Below.goD hb hn | exact Below.goAD hb hn : Below w.heap.size w wN)
    clear hn
    go_wp2_with fail
    refine (F2.out _).mono ?_
    rintro e wN ⟨rfl, hn⟩
    have hb := (by first | exact Below.go hb hn | exact Below.goA hb hn | exact Below.goAA hb hn | exact Below.goD hb hn | exact Below.goAD hb hn : Below w.heap.size w wN)
    have ka := Lib.hid (by first | exact keep' (heap_new _ _) hn | exact newAD hn)
    clear hn
    obtain ⟨⟨ka0, ka1⟩, -⟩ := blk2 ka.out
    have kaz := lt_of_heap ka.out
    go_wp2_with fail
    refine (F3.out _).mono ?_
    rintro e wN ⟨rfl, hn⟩
    have hb := (by first | exact Below.go hb hn | exact Below.goA hb hn | exact Below.goAA hb hn | exact Below.goD hb hn | exact Below.goAD hb hn : Below w.heap.size w wN)
    have ka := Lib.hid (by first | exact keep' ka.out hn | exact keepA ka.out hn | exact keepAA ka.out hn | exact keepD ka.out hn | exact keepAD ka.out hn)
    have kb := Lib.hid (by first | exact keep' (heap_new _ _) hn | exact newAD hn)
    clear hn
    obtain ⟨⟨ka0, ka1⟩, -⟩ := blk2 ka.out
    have kaz := lt_of_heap ka.out
    obtain ⟨⟨kb0, kb1⟩, -⟩ := blk2 kb.out
    have kbz := lt_of_heap kb.out
    go_wp2
    go_ret
    exact ⟨rfl, hb.alloc hb.size _⟩
set_option maxHeartbeats 2000000 in
set_option maxRecDepth 100000 in
theorem order_main (rate other n m r s x y a1 a2 b1 b2 c1 c2 p1 p2 q1 q2 o1 o2 : Int) (w : World) (hr : (if other < rate then other else rate) = r) (hs : (if rate < other then other else rate) = s) (hx : (if m < n then m else n) = x) (hy : (if n < m then m else n) = y)
    (F1 : Hid (∀ W, Calls Try.prog 17 #[.int .i64 r, .int .i64 x] W (RetB (.tuple #[I2 a1 a2, .int .i64 0]) W))) (F2 : Hid (∀ W, Calls Try.prog 17 #[.int .i64 s, .int .i64 x] W (RetB (.tuple #[I2 b1 b2, .int .i64 0]) W))) (F3 : Hid (∀ W, Calls Try.prog 17 #[.int .i64 r, .int .i64 y] W (RetB (.tuple #[I2 c1 c2, .int .i64 0]) W)))
    (G1 : Hid (∀ W, Calls Try.prog 19 #[.int .i64 r, .int .i64 x] W (RetB (.tuple #[I2 p1 p2, .int .i64 0]) W))) (G2 : Hid (∀ W, Calls Try.prog 19 #[.int .i64 s, .int .i64 x] W (RetB (.tuple #[I2 q1 q2, .int .i64 0]) W))) (G3 : Hid (∀ W, Calls Try.prog 19 #[.int .i64 r, .int .i64 y] W (RetB (.tuple #[I2 o1 o2, .int .i64 0]) W)))
    (F0 : Hid (∀ W, Calls Try.prog 17 #[.int .i64 0, .int .i64 x] W (RetB (.tuple #[I2 x x, .int .i64 0]) W))) (G0 : Hid (∀ W, Calls Try.prog 19 #[.int .i64 0, .int .i64 x] W (RetB (.tuple #[I2 x x, .int .i64 0]) W)))
    (w1 : wiB a1 a2 b1 b2 = true) (w2 : wiB p1 p2 q1 q2 = true) (d1 : decide (a1 ≤ c1) = true) (d2 : decide (a2 ≤ c2) = true) (d3 : decide (p1 ≤ o1) = true) (d4 : decide (p2 ≤ o2) = true) (d5 : decide (a1 ≤ x) = true) (d6 : decide (x ≤ a2) = true) : Calls Try.prog 5 #[.int .i64 rate, .int .i64 other, .int .i64 n, .int .i64 m] w (LawPost w) := by
  have hb := Below.refl w.heap.size w
  have co := @cell_old
  go_enter Try.func5, Try.ntmps5
  go_wp2_with fail
  refine (head_any _).mono ?_
  rintro e wN ⟨rfl, hn⟩
  have hb := (by first | exact Below.go hb hn | exact Below.goA hb hn | exact Below.goAA hb hn | exact Below.goD hb hn | exact Below.goAD hb hn : Below w.heap.size w wN)
  clear hn
  go_wp2_with fail
  refine (F1.out _).mono ?_
  rintro e wN ⟨rfl, hn⟩
  have hb := (by first | exact Below.go hb hn | exact Below.goA hb hn | exact Below.goAA hb hn | exact Below.goD hb hn | exact Below.goAD hb hn : Below w.heap.size w wN)
  clear hn
  go_wp2_with fail
  refine (F2.out _).mono ?_
  rintro e wN ⟨rfl, hn⟩
  have hb := (by first | exact Below.go hb hn | exact Below.goA hb hn | exact Below.goAA hb hn | exact Below.goD hb hn | exact Below.goAD hb hn : Below w.heap.size w wN)
  have ka := Lib.hid (by first | exact keep' (heap_new _ _) hn | exact newAD hn)
  clear hn
  obtain ⟨⟨ka0, ka1⟩, -⟩ := blk2 ka.out
  have kaz := lt_of_heap ka.out
  go_wp2_with fail
  refine (F3.out _).mono ?_
  rintro e wN ⟨rfl, hn⟩
  have hb := (by first | exact Below.go hb hn | exact Below.goA hb hn | exact Below.goAA hb hn | exact Below.goD hb hn | exact Below.goAD hb hn : Below w.heap.size w wN)
  have ka := Lib.hid (by first | exact keep' ka.out hn | exact keepA ka.out hn | exact keepAA ka.out hn | exact keepD ka.out hn | exact keepAD ka.out hn)
  have kb := Lib.hid (by first | exact keep' (heap_new _ _) hn | exact newAD hn)
  clear hn
  obtain ⟨⟨ka0, ka1⟩, -⟩ := blk2 ka.out
  have kaz := lt_of_heap ka.out
  obtain ⟨⟨kb0, kb1⟩, -⟩ := blk2 kb.out
  have kbz := lt_of_heap kb.out
  go_wp2_with fail
  refine (G1.out _).mono ?_
  rintro e wN ⟨rfl, hn⟩
  have hb := (by first | exact Below.go hb hn | exact Below.goA hb hn | exact Below.goAA hb hn | exact Below.goD hb hn | exact Below.goAD hb hn : Below w.heap.size w wN)
  have ka := Lib.hid (by first | exact keep' ka.out hn | exact keepA ka.out hn | exact keepAA ka.out hn | exact keepD ka.out hn | exact keepAD ka.out hn)
  have kb := Lib.hid (by first | exact keep' kb.out hn | exact keepA kb.out hn | exact keepAA kb.out hn | exact keepD kb.out hn | exact keepAD kb.out hn)
  have kc := Lib.hid (by first | exact keep' (heap_new _ _) hn | exact newAD hn)
  clear hn
  obtain ⟨⟨ka0, ka1⟩, -⟩ := blk2 ka.out
  have kaz := lt_of_heap ka.out
  obtain ⟨⟨kb0, kb1⟩, -⟩ := blk2 kb.out
  have kbz := lt_of_heap kb.out
  obtain ⟨⟨kc0, kc1⟩, -⟩ := blk2 kc.out
  have kcz := lt_of_heap kc.out
  go_wp2_with fail
  refine (G2.out _).mono ?_
  rintro e wN ⟨rfl, hn⟩
  have hb := (by first | exact Below.go hb hn | exact Below.goA hb hn | exact Below.goAA hb hn | exact Below.goD hb hn | exact Below.goAD hb hn : Below w.heap.size w wN)
  have ka := Lib.hid (by first | exact keep' ka.out hn | exact keepA ka.out hn | exact keepAA ka.out hn | exact keepD ka.out hn | exact keepAD ka.out hn)
  have kb := Lib.hid (by first | exact keep' kb.out hn | exact keepA kb.out hn | exact keepAA kb.out hn | exact keepD kb.out hn | exact keepAD kb.out hn)
  have kc := Lib.hid (by first | exact keep' kc.out hn | exact keepA kc.out hn | exact keepAA kc.out hn | exact keepD kc.out hn | exact keepAD kc.out hn)
  have kp := Lib.hid (by first | exact keep' (heap_new _ _) hn | exact newAD hn)
  clear hn
  obtain ⟨⟨ka0, ka1⟩, -⟩ := blk2 ka.out
  have kaz := lt_of_heap ka.out
  obtain ⟨⟨kb0, kb1⟩, -⟩ := blk2 kb.out
  have kbz := lt_of_heap kb.out
  obtain ⟨⟨kc0, kc1⟩, -⟩ := blk2 kc.out
  have kcz := lt_of_heap kc.out
  obtain ⟨⟨kp0, kp1⟩, -⟩ := blk2 kp.out
  have kpz := lt_of_heap kp.out
  go_wp2_with fail
  refine (G3.out _).mono ?_
  rintro e wN ⟨rfl, hn⟩
  have hb := (by first | exact Below.go hb hn | exact Below.goA hb hn | exact Below.goAA hb hn | exact Below.goD hb hn | exact Below.goAD hb hn : Below w.heap.size w wN)
  have ka := Lib.hid (by first | exact keep' ka.out hn | exact keepA ka.out hn | exact keepAA ka.out hn | exact keepD ka.out hn | exact keepAD ka.out hn)
  have kb := Lib.hid (by first | exact keep' kb.out hn | exact keepA kb.out hn | exact keepAA kb.out hn | exact keepD kb.out hn | exact keepAD kb.out hn)
  have kc := Lib.hid (by first | exact keep' kc.out hn | exact keepA kc.out hn | exact keepAA kc.out hn | exact keepD kc.out hn | exact keepAD kc.out hn)
  have kp := Lib.hid (by first | exact keep' kp.out hn | exact keepA kp.out hn | exact keepAA kp.out hn | exact keepD kp.out hn | exact keepAD kp.out hn)
  have kq := Lib.hid (by first | exact keep' (heap_new _ _) hn | exact newAD hn)
  clear hn
  obtain ⟨⟨ka0, ka1⟩, -⟩ := blk2 ka.out
  have kaz := lt_of_heap ka.out
  obtain ⟨⟨kb0, kb1⟩, -⟩ := blk2 kb.out
  have kbz := lt_of_heap kb.out
  obtain ⟨⟨kc0, kc1⟩, -⟩ := blk2 kc.out
  have kcz := lt_of_heap kc.out
  obtain ⟨⟨kp0, kp1⟩, -⟩ := blk2 kp.out
  have kpz := lt_of_heap kp.out
  obtain ⟨⟨kq0, kq1⟩, -⟩ := blk2 kq.out
  have kqz := lt_of_heap kq.out
  go_wp2_with fail
  refine (F0.out _).mono ?_
  rintro e wN ⟨rfl, hn⟩
  have hb := (by first | exact Below.go hb hn | exact Below.goA hb hn | exact Below.goAA hb hn | exact Below.goD hb hn | exact Below.goAD hb hn : Below w.heap.size w wN)
  have ka := Lib.hid (by first | exact keep' ka.out hn | exact keepA ka.out hn | exact keepAA ka.out hn | exact keepD ka.out hn | exact keepAD ka.out hn)
  have kb := Lib.hid (by first | exact keep' kb.out hn | exact keepA kb.out hn | exact keepAA kb.out hn | exact keepD kb.out hn | exact keepAD kb.out hn)
  have kc := Lib.hid (by first | exact keep' kc.out hn | exact keepA kc.out hn | exact keepAA kc.out hn | exact keepD kc.out hn | exact keepAD kc.out hn)
  have kp := Lib.hid (by first | exact keep' kp.out hn | exact keepA kp.out hn | exact keepAA kp.out hn | exact keepD kp.out hn | exact keepAD kp.out hn)
  have kq := Lib.hid (by first | exact keep' kq.out hn | exact keepA kq.out hn | exact keepAA kq.out hn | exact keepD kq.out hn | exact keepAD kq.out hn)
  have ko := Lib.hid (by first | exact keep' (heap_new _ _) hn | exact newAD hn)
  clear hn
  obtain ⟨⟨ka0, ka1⟩, -⟩ := blk2 ka.out
  have kaz := lt_of_heap ka.out
  obtain ⟨⟨kb0, kb1⟩, -⟩ := blk2 kb.out
  have kbz := lt_of_heap kb.out
  obtain ⟨⟨kc0, kc1⟩, -⟩ := blk2 kc.out
  have kcz := lt_of_heap kc.out
  obtain ⟨⟨kp0, kp1⟩, -⟩ := blk2 kp.out
  have kpz := lt_of_heap kp.out
  obtain ⟨⟨kq0, kq1⟩, -⟩ := blk2 kq.out
  have kqz := lt_of_heap kq.out
  obtain ⟨⟨ko0, ko1⟩, -⟩ := blk2 ko.out
  have koz := lt_of_heap ko.out
  go_wp2_with fail
  refine (G0.out _).mono ?_
  rintro e wN ⟨rfl, hn⟩
  have hb := (by first | exact Below.go hb hn | exact Below.goA hb hn | exact Below.goAA hb hn | exact Below.goD hb hn | exact Below.goAD hb hn : Below w.heap.size w wN)
  have ka := Lib.hid (by first | exact keep' ka.out hn | exact keepA ka.out hn | exact keepAA ka.out hn | exact keepD ka.out hn | exact keepAD ka.out hn)
  have kb := Lib.hid (by first | exact keep' kb.out hn | exact keepA kb.out hn | exact keepAA kb.out hn | exact keepD kb.out hn | exact keepAD kb.out hn)
  have kc := Lib.hid (by first | exact keep' kc.out hn | exact keepA kc.out hn | exact keepAA kc.out hn | exact keepD kc.out hn | exact keepAD kc.out hn)
  have kp := Lib.hid (by first | exact keep' kp.out hn | exact keepA kp.out hn | exact keepAA kp.out hn | exact keepD kp.out hn | exact keepAD kp.out hn)
  have kq := Lib.hid (by first | exact keep' kq.out hn | exact keepA kq.out hn | exact keepAA kq.out hn | exact keepD kq.out hn | exact keepAD kq.out hn)
  have ko := Lib.hid (by first | exact keep' ko.out hn | exact keepA ko.out hn | exact keepAA ko.out hn | exact keepD ko.out hn | exact keepAD ko.out hn)
  have kz := Lib.hid (by first | exact keep' (heap_new _ _) hn | exact newAD hn)
  clear hn
  obtain ⟨⟨ka0, ka1⟩, -⟩ := blk2 ka.out
  have kaz := lt_of_heap ka.out
  obtain ⟨⟨kb0, kb1⟩, -⟩ := blk2 kb.out
  have kbz := lt_of_heap kb.out
  obtain ⟨⟨kc0, kc1⟩, -⟩ := blk2 kc.out
  have kcz := lt_of_heap kc.out
  obtain ⟨⟨kp0, kp1⟩, -⟩ := blk2 kp.out
  have kpz := lt_of_heap kp.out
  obtain ⟨⟨kq0, kq1⟩, -⟩ := blk2 kq.out
  have kqz := lt_of_heap kq.out
  obtain ⟨⟨ko0, ko1⟩, -⟩ := blk2 ko.out
  have koz := lt_of_heap ko.out
  obtain ⟨⟨kz0, kz1⟩, -⟩ := blk2 kz.out
  have kzz := lt_of_heap kz.out
  go_wp2_with fail
  refine (within_any _ _ _ _ _).mono ?_
  rintro e wN ⟨rfl, hn⟩
  have hb := (by first | exact Below.go hb hn | exact Below.goA hb hn | exact Below.goAA hb hn | exact Below.goD hb hn | exact Below.goAD hb hn : Below w.heap.size w wN)
  have ka := Lib.hid (by first | exact keep' ka.out hn | exact keepA ka.out hn | exact keepAA ka.out hn | exact keepD ka.out hn | exact keepAD ka.out hn)
  have kb := Lib.hid (by first | exact keep' kb.out hn | exact keepA kb.out hn | exact keepAA kb.out hn | exact keepD kb.out hn | exact keepAD kb.out hn)
  have kc := Lib.hid (by first | exact keep' kc.out hn | exact keepA kc.out hn | exact keepAA kc.out hn | exact keepD kc.out hn | exact keepAD kc.out hn)
  have kp := Lib.hid (by first | exact keep' kp.out hn | exact keepA kp.out hn | exact keepAA kp.out hn | exact keepD kp.out hn | exact keepAD kp.out hn)
  have kq := Lib.hid (by first | exact keep' kq.out hn | exact keepA kq.out hn | exact keepAA kq.out hn | exact keepD kq.out hn | exact keepAD kq.out hn)
  have ko := Lib.hid (by first | exact keep' ko.out hn | exact keepA ko.out hn | exact keepAA ko.out hn | exact keepD ko.out hn | exact keepAD ko.out hn)
  have kz := Lib.hid (by first | exact keep' kz.out hn | exact keepA kz.out hn | exact keepAA kz.out hn | exact keepD kz.out hn | exact keepAD kz.out hn)
  have kw := Lib.hid (by first | exact keep' (heap_new _ _) hn | exact newAD hn)
  clear hn
  obtain ⟨⟨ka0, ka1⟩, -⟩ := blk2 ka.out
  have kaz := lt_of_heap ka.out
  obtain ⟨⟨kb0, kb1⟩, -⟩ := blk2 kb.out
  have kbz := lt_of_heap kb.out
  obtain ⟨⟨kc0, kc1⟩, -⟩ := blk2 kc.out
  have kcz := lt_of_heap kc.out
  obtain ⟨⟨kp0, kp1⟩, -⟩ := blk2 kp.out
  have kpz := lt_of_heap kp.out
  obtain ⟨⟨kq0, kq1⟩, -⟩ := blk2 kq.out
  have kqz := lt_of_heap kq.out
  obtain ⟨⟨ko0, ko1⟩, -⟩ := blk2 ko.out
  have koz := lt_of_heap ko.out
  obtain ⟨⟨kz0, kz1⟩, -⟩ := blk2 kz.out
  have kzz := lt_of_heap kz.out
  obtain ⟨⟨kw0, kw1⟩, -⟩ := blk2 kw.out
  have kwz := lt_of_heap kw.out
  go_wp2_with fail
  refine (within_any _ _ _ _ _).mono ?_
  rintro e wN ⟨rfl, hn⟩
  have hb := (by first | exact Below.go hb hn | exact Below.goA hb hn | exact Below.goAA hb hn | exact Below.goD hb hn | exact Below.goAD hb hn : Below w.heap.size w wN)
  have ka := Lib.hid (by first | exact keep' ka.out hn | exact keepA ka.out hn | exact keepAA ka.out hn | exact keepD ka.out hn | exact keepAD ka.out hn)
  have kb := Lib.hid (by first | exact keep' kb.out hn | exact keepA kb.out hn | exact keepAA kb.out hn | exact keepD kb.out hn | exact keepAD kb.out hn)
  have kc := Lib.hid (by first | exact keep' kc.out hn | exact keepA kc.out hn | exact keepAA kc.out hn | exact keepD kc.out hn | exact keepAD kc.out hn)
  have kp := Lib.hid (by first | exact keep' kp.out hn | exact keepA kp.out hn | exact keepAA kp.out hn | exact keepD kp.out hn | exact keepAD kp.out hn)
  have kq := Lib.hid (by first | exact keep' kq.out hn | exact keepA kq.out hn | exact keepAA kq.out hn | exact keepD kq.out hn | exact keepAD kq.out hn)
  have ko := Lib.hid (by first | exact keep' ko.out hn | exact keepA ko.out hn | exact keepAA ko.out hn | exact keepD ko.out hn | exact keepAD ko.out hn)
  have kz := Lib.hid (by first | exact keep' kz.out hn | exact keepA kz.out hn | exact keepAA kz.out hn | exact keepD kz.out hn | exact keepAD kz.out hn)
  have kw := Lib.hid (by first | exact keep' kw.out hn | exact keepA kw.out hn | exact keepAA kw.out hn | exact keepD kw.out hn | exact keepAD kw.out hn)
  clear hn
  obtain ⟨⟨ka0, ka1⟩, -⟩ := blk2 ka.out
  have kaz := lt_of_heap ka.out
  obtain ⟨⟨kb0, kb1⟩, -⟩ := blk2 kb.out
  have kbz := lt_of_heap kb.out
  obtain ⟨⟨kc0, kc1⟩, -⟩ := blk2 kc.out
  have kcz := lt_of_heap kc.out
  obtain ⟨⟨kp0, kp1⟩, -⟩ := blk2 kp.out
  have kpz := lt_of_heap kp.out
  obtain ⟨⟨kq0, kq1⟩, -⟩ := blk2 kq.out
  have kqz := lt_of_heap kq.out
  obtain ⟨⟨ko0, ko1⟩, -⟩ := blk2 ko.out
  have koz := lt_of_heap ko.out
  obtain ⟨⟨kz0, kz1⟩, -⟩ := blk2 kz.out
  have kzz := lt_of_heap kz.out
  obtain ⟨⟨kw0, kw1⟩, -⟩ := blk2 kw.out
  have kwz := lt_of_heap kw.out
  go_wp2
  go_ret
  exact ⟨rfl, by (repeat (with_reducible first | exact hb | refine Below.alloc ?_ ?_ _)); all_goals (first | exact hb.size | (simp; omega))⟩
theorem order_law (rate other n m : Int) (w : World) (w1 : (Lit.int .i64 rate).wf = true) (w2 : (Lit.int .i64 other).wf = true) (w3 : (Lit.int .i64 n).wf = true) (w4 : (Lit.int .i64 m).wf = true) : Calls Try.prog 5 #[.int .i64 rate, .int .i64 other, .int .i64 n, .int .i64 m] w (LawPost w) := by
  obtain ⟨r, hr⟩ : ∃ d, (if other < rate then other else rate) = d := ⟨_, rfl⟩
  obtain ⟨s, hs⟩ : ∃ d, (if rate < other then other else rate) = d := ⟨_, rfl⟩
  obtain ⟨x, hx⟩ : ∃ d, (if m < n then m else n) = d := ⟨_, rfl⟩
  obtain ⟨y, hy⟩ : ∃ d, (if n < m then m else n) = d := ⟨_, rfl⟩
  have hrs : r ≤ s := by rw [← hr, ← hs]; split <;> split <;> omega
  have hxy : x ≤ y := by rw [← hx, ← hy]; split <;> split <;> omega
  cases o1 : Drm.okE r x
  · exact order_fail rate other n m r s x y _ _ _ _ _ _ _ _ _ w hr hs hx hy (Lib.hid fun W => Elapsed_any r x W) (Lib.hid fun W => Elapsed_any s x W) (Lib.hid fun W => Elapsed_any r y W) (.inl (okE_one o1))
  cases o2 : Drm.okE s x
  · exact order_fail rate other n m r s x y _ _ _ _ _ _ _ _ _ w hr hs hx hy (Lib.hid fun W => Elapsed_any r x W) (Lib.hid fun W => Elapsed_any s x W) (Lib.hid fun W => Elapsed_any r y W) (.inr (.inl ⟨(Drm.okE_yes o1).1, okE_one o2⟩))
  cases o3 : Drm.okE r y
  · exact order_fail rate other n m r s x y _ _ _ _ _ _ _ _ _ w hr hs hx hy (Lib.hid fun W => Elapsed_any r x W) (Lib.hid fun W => Elapsed_any s x W) (Lib.hid fun W => Elapsed_any r y W) (.inr (.inr ⟨(Drm.okE_yes o1).1, (Drm.okE_yes o2).1, okE_one o3⟩))
  obtain ⟨⟨r0, r1⟩, x0, x1⟩ := Drm.okE_bd o1
  obtain ⟨⟨s0, s1⟩, -, -⟩ := Drm.okE_bd o2
  obtain ⟨-, y0, y1⟩ := Drm.okE_bd o3
  have z1 := Drm.el_zero (n := x)
  have z2 := Drm.co_zero (n := x)
  have m1 := Drm.el_bd (r := r) (n := x) r0 r1 x0
  refine order_main rate other n m r s x y _ _ _ _ _ _ _ _ _ _ _ _ w hr hs hx hy (Lib.hid fun W => Elapsed_ok r x W ⟨r0, r1⟩ ⟨x0, x1⟩) (Lib.hid fun W => Elapsed_ok s x W ⟨s0, s1⟩ ⟨x0, x1⟩) (Lib.hid fun W => Elapsed_ok r y W ⟨r0, r1⟩ ⟨y0, y1⟩)
    (Lib.hid fun W => Counts_ok r x W ⟨r0, r1⟩ ⟨x0, x1⟩) (Lib.hid fun W => Counts_ok s x W ⟨s0, s1⟩ ⟨x0, x1⟩) (Lib.hid fun W => Counts_ok r y W ⟨r0, r1⟩ ⟨y0, y1⟩)
    (Lib.hid fun W => by have := Elapsed_ok 0 x W ⟨by omega, by omega⟩ ⟨x0, x1⟩; rw [z1.1, z1.2] at this; exact this) (Lib.hid fun W => by have := Counts_ok 0 x W ⟨by omega, by omega⟩ ⟨x0, x1⟩; rw [z2.1, z2.2] at this; exact this)
    (wiB_yes (Drm.elLo_mono r0 hrs x0) (Drm.elHi_mono r0 hrs s1 x0)) (wiB_yes (Drm.coLo_mono hrs x0) (Drm.coHi_mono hrs x0)) (decide_eq_true (Drm.elLo_up r0 hxy)) (decide_eq_true (Drm.elHi_up r1 hxy)) (decide_eq_true (Drm.coLo_up r1 hxy)) (decide_eq_true (Drm.coHi_up r0 hxy)) (decide_eq_true m1.2.1) (decide_eq_true m1.2.2.1)
end Go.Proofs.Ytlmdjkkeocmehaa
