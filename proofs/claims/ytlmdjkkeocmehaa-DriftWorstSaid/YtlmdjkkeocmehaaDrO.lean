/- The walk of the law DriftExact. -/
import Derived.Test.YtlmdjkkeocmehaaDrN
set_option linter.unusedVariables false
namespace Go.Proofs.Ytlmdjkkeocmehaa
open Go.RowKit
set_option maxHeartbeats 1000000 in
theorem can_any (r e n : Int) (w : World) (h1 : 0 ≤ r ∧ r ≤ 1000000) (h2 : -2 ≤ e ∧ e ≤ 2000000002) (h3 : -2 ≤ n ∧ n ≤ 2000000002) : Calls Try.prog 23 #[.int .i64 r, .int .i64 e, .int .i64 n] w (Ret (.bool (Drm.canB r e n)) w) := by
  obtain ⟨r0, r1⟩ := h1
  obtain ⟨e0, e1⟩ := h2
  obtain ⟨n0, n1⟩ := h3
  have hz : Hid (Drm.canB r e n = (decide ((n - 1) * 1000000000 < e * (1000000000 + r)) && decide (e * (1000000000 - r) < (n + 1) * 1000000000))) := Lib.hid rfl
  have m1 := Int.mul_le_mul_of_nonneg_right e1 (show 0 ≤ 1000000000 + r by omega)
  have m2 := Int.mul_le_mul_of_nonneg_right e0 (show 0 ≤ 1000000000 + r by omega)
  have m3 := Int.mul_le_mul_of_nonneg_right e1 (show 0 ≤ 1000000000 - r by omega)
  have m4 := Int.mul_le_mul_of_nonneg_right e0 (show 0 ≤ 1000000000 - r by omega)
  obtain ⟨P, hP⟩ : ∃ P, e * (1000000000 + r) = P := ⟨_, rfl⟩
  obtain ⟨Q, hQ⟩ : ∃ P, e * (1000000000 - r) = P := ⟨_, rfl⟩
  rw [hP] at hz m1 m2
  rw [hQ] at hz m3 m4
  by_cases c1 : (n - 1) * 1000000000 < P
  · by_cases c2 : Q < (n + 1) * 1000000000
    · have q1 : decide ((n - 1) * 1000000000 < P) = true := decide_eq_true c1
      have q2 : decide (Q < (n + 1) * 1000000000) = true := decide_eq_true c2
      have hz2 : Hid (Drm.canB r e n = true) := Lib.hid (by rw [hz.out, q1, q2]; rfl)
      go_enter Try.func23, Try.ntmps23
      go_wp2
      go_ret
      exact ⟨ret_bool hz2.out.symm, rfl⟩
    · have q1 : decide ((n - 1) * 1000000000 < P) = true := decide_eq_true c1
      have q2 : decide (Q < (n + 1) * 1000000000) = false := decide_eq_false c2
      have hz2 : Hid (Drm.canB r e n = false) := Lib.hid (by rw [hz.out, q1, q2]; rfl)
      go_enter Try.func23, Try.ntmps23
      go_wp2
      go_ret
      exact ⟨ret_bool hz2.out.symm, rfl⟩
  · have q1 : decide ((n - 1) * 1000000000 < P) = false := decide_eq_false c1
    have hz2 : Hid (Drm.canB r e n = false) := Lib.hid (by rw [hz.out, q1]; rfl)
    go_enter Try.func23, Try.ntmps23
    go_wp2
    go_ret
    exact ⟨ret_bool hz2.out.symm, rfl⟩
theorem in_el {r n e : Int} (h0 : 0 ≤ r) (h1 : r ≤ 1000000) : inB e (Drm.elLo r n) (Drm.elHi r n) = Drm.canB r e n := by
  unfold inB Drm.canB
  rw [Bool.eq_iff_iff]; simp only [decide_eq_true_eq, Bool.and_eq_true]; rw [Drm.lo_iff h0, Drm.hi_iff h1]
theorem in_co {r n e : Int} : inB n (Drm.coLo r e) (Drm.coHi r e) = Drm.canB r e n := by
  unfold inB Drm.canB
  rw [Bool.eq_iff_iff]; simp only [decide_eq_true_eq, Bool.and_eq_true]; rw [Drm.colo_iff, Drm.cohi_iff]; exact ⟨fun h => ⟨h.2, h.1⟩, fun h => ⟨h.2, h.1⟩⟩
abbrev oF (a b c d : Int) : Obj := .cells #[.int .i64 a, .int .i64 b, .int .i64 c, .int .i64 d] 3
theorem four {W : World} {b k : Nat} {x0 x1 x2 x3 : Int} (h : W.heap[b]? = some (oF x0 x1 x2 x3)) (hk : k < 4) : ∃ x : Int, W.cell? ⟨b, k, none⟩ = some (.int .i64 x) ∧ (x = x0 ∨ x = x1 ∨ x = x2 ∨ x = x3) := by
  rcases (show k = 0 ∨ k = 1 ∨ k = 2 ∨ k = 3 by omega) with rfl | rfl | rfl | rfl
  · exact ⟨x0, by simp [World.cell?, h], .inl rfl⟩
  · exact ⟨x1, by simp [World.cell?, h], .inr (.inl rfl)⟩
  · exact ⟨x2, by simp [World.cell?, h], .inr (.inr (.inl rfl))⟩
  · exact ⟨x3, by simp [World.cell?, h], .inr (.inr (.inr rfl))⟩
set_option maxHeartbeats 4000000 in
set_option maxRecDepth 100000 in
theorem exact_main (rate el ct a1 a2 b1 b2 : Int) (c : Bool) (w : World) (h1 : 0 ≤ rate ∧ rate ≤ 1000000) (h2 : 0 ≤ el ∧ el ≤ 1000000000) (h3 : 0 ≤ ct ∧ ct ≤ 1000000000) (ha : 0 ≤ a1 ∧ a1 ≤ a2 ∧ a2 ≤ 2000000000) (hb' : 0 ≤ b1 ∧ b1 ≤ b2 ∧ b2 ≤ 2000000000)
    (E1 : Hid (∀ W, Calls Try.prog 17 #[.int .i64 rate, .int .i64 ct] W (RetB (.tuple #[I2 a1 a2, .int .i64 0]) W))) (C1 : Hid (∀ W, Calls Try.prog 19 #[.int .i64 rate, .int .i64 el] W (RetB (.tuple #[I2 b1 b2, .int .i64 0]) W)))
    (hc : Hid (Drm.canB rate el ct = c)) (H1 : Hid (∀ x, inB x a1 a2 = Drm.canB rate x ct)) (H2 : Hid (∀ x, inB x b1 b2 = Drm.canB rate el x)) : Calls Try.prog 4 #[.int .i64 rate, .int .i64 el, .int .i64 ct] w (LawPost w) := by
  obtain ⟨r0, r1⟩ := h1
  obtain ⟨e0, e1⟩ := h2
  obtain ⟨n0, n1⟩ := h3
  obtain ⟨a10, a12, a20⟩ := ha
  obtain ⟨b10, b12, b20⟩ := hb'
  have hb := Below.refl w.heap.size w
  have Cn : Hid (∀ x y W, (-2 ≤ x ∧ x ≤ 2000000002) → (-2 ≤ y ∧ y ≤ 2000000002) → Calls Try.prog 23 #[.int .i64 rate, .int .i64 x, .int .i64 y] W (Ret (.bool (Drm.canB rate x y)) W)) := Lib.hid fun x y W p q => can_any rate x y W ⟨r0, r1⟩ p q
  have CN0 : Hid (∀ W, Calls Try.prog 23 #[.int .i64 rate, .int .i64 el, .int .i64 ct] W (Ret (.bool c) W)) := Lib.hid fun W => by rw [← hc.out]; exact Cn.out el ct W (by omega) (by omega)
  have I1 : Hid (∀ W, Calls Try.prog 24 #[.int .i64 el, I2 a1 a2] W (RetB (.bool c) W)) := Lib.hid fun W => by rw [← hc.out, ← H1.out]; exact in_any _ _ _ W
  have I2' : Hid (∀ W, Calls Try.prog 24 #[.int .i64 ct, I2 b1 b2] W (RetB (.bool c) W)) := Lib.hid fun W => by rw [← hc.out, ← H2.out]; exact in_any _ _ _ W
  go_enter Try.func4, Try.ntmps4
  go_wp2_with fail
  refine (head_any _).mono ?_
  rintro e w1 ⟨rfl, hn⟩
  have hb := (by first | exact Below.go hb hn | exact Below.goA hb hn | exact Below.goAA hb hn | exact Below.goD hb hn | exact Below.goAD hb hn : Below w.heap.size w w1)
  clear hn
  go_wp2_with fail
  refine (E1.out _).mono ?_
  rintro e w2 ⟨rfl, hn⟩
  have hb := (by first | exact Below.go hb hn | exact Below.goA hb hn | exact Below.goAA hb hn | exact Below.goD hb hn | exact Below.goAD hb hn : Below w.heap.size w w2)
  clear hn
  go_wp2_with fail
  refine (C1.out _).mono ?_
  rintro e w3 ⟨rfl, hn⟩
  have hb := (by first | exact Below.go hb hn | exact Below.goA hb hn | exact Below.goAA hb hn | exact Below.goD hb hn | exact Below.goAD hb hn : Below w.heap.size w w3)
  have ka := Lib.hid (by first | exact keep' (heap_new _ _) hn | exact newAD hn)
  clear hn
  obtain ⟨⟨ka0, ka1⟩, -⟩ := blk2 ka.out
  have kaz := lt_of_heap ka.out
  go_wp2_with fail
  refine (CN0.out _).mono ?_
  rintro e w' ⟨rfl, rfl⟩
  go_wp2_with fail
  refine (I1.out _).mono ?_
  rintro e w4 ⟨rfl, hn⟩
  have hb := (by first | exact Below.go hb hn | exact Below.goA hb hn | exact Below.goAA hb hn | exact Below.goD hb hn | exact Below.goAD hb hn : Below w.heap.size w w4)
  have ka := Lib.hid (by first | exact keep' ka.out hn | exact keepA ka.out hn | exact keepAA ka.out hn | exact keepD ka.out hn | exact keepAD ka.out hn)
  have kb := Lib.hid (by first | exact keep' (heap_new _ _) hn | exact newAD hn)
  clear hn
  obtain ⟨⟨ka0, ka1⟩, -⟩ := blk2 ka.out
  have kaz := lt_of_heap ka.out
  obtain ⟨⟨kb0, kb1⟩, -⟩ := blk2 kb.out
  have kbz := lt_of_heap kb.out
  go_wp2_with fail
  refine (I2'.out _).mono ?_
  rintro e w5 ⟨rfl, hn⟩
  have hb := (by first | exact Below.go hb hn | exact Below.goA hb hn | exact Below.goAA hb hn | exact Below.goD hb hn | exact Below.goAD hb hn : Below w.heap.size w w5)
  have ka := Lib.hid (by first | exact keep' ka.out hn | exact keepA ka.out hn | exact keepAA ka.out hn | exact keepD ka.out hn | exact keepAD ka.out hn)
  have kb := Lib.hid (by first | exact keep' kb.out hn | exact keepA kb.out hn | exact keepAA kb.out hn | exact keepD kb.out hn | exact keepAD kb.out hn)
  clear hn
  obtain ⟨⟨ka0, ka1⟩, -⟩ := blk2 ka.out
  have kaz := lt_of_heap ka.out
  obtain ⟨⟨kb0, kb1⟩, -⟩ := blk2 kb.out
  have kbz := lt_of_heap kb.out
  go_wp2_with fail
  go_loopg [7, 110] 4 (fun g s7 s110 wr => ∃ k : Nat, k + g = 4 ∧ s110 = .int .i64 k ∧ s7 = .bool true ∧ Hid (wr.heap[w2.heap.size]? = some (oRg a1 a2)) ∧ Hid (wr.heap[w3.heap.size]? = some (oRg b1 b2)) ∧ Hid (wr.heap[w5.heap.size]? = some (oF (a1 - 1) a1 a2 (a2 + 1))) ∧ Below w.heap.size w wr)
  case atStart => exact ⟨0, rfl, rfl, rfl, Lib.hid (keepN ka.out _), Lib.hid (keepN kb.out _), Lib.hid (heap_new _ _), Below.goN hb _⟩
  case round =>
    clear ka0 ka1 kb0 kb1 kaz kbz ka kb
    obtain ⟨k, hkg, rfl, rfl, KA, KB, KL, hbr⟩ := hrel
    obtain ⟨⟨ka0, ka1⟩, -⟩ := blk2 KA.out
    obtain ⟨⟨kb0, kb1⟩, -⟩ := blk2 KB.out
    cases gk with
    | zero =>
      obtain rfl : k = 4 := by omega
      go_wp2_with fail
      go_loopg [7, 142] 4 (fun g s7 s142 wq => ∃ k : Nat, k + g = 4 ∧ s142 = .int .i64 k ∧ s7 = .bool true ∧ Hid (wq.heap[w3.heap.size]? = some (oRg b1 b2)) ∧ Hid (wq.heap[wr.heap.size]? = some (oF (b1 - 1) b1 b2 (b2 + 1))) ∧ Below w.heap.size w wq)
      case atStart => exact ⟨0, rfl, rfl, rfl, Lib.hid (keepN KB.out _), Lib.hid (heap_new _ _), Below.goN hbr _⟩
      case round =>
        clear ka0 ka1 kb0 kb1 KA KB
        obtain ⟨k, hkg, rfl, rfl, KB, KL, hbq⟩ := hrel
        obtain ⟨⟨kb0, kb1⟩, -⟩ := blk2 KB.out
        cases gk with
        | zero =>
          obtain rfl : k = 4 := by omega
          go_wp2
          go_ret
          exact ⟨rfl, hbq⟩
        | succ g =>
          obtain ⟨x, cx, hx⟩ := four KL.out (show k < 4 by omega)
          have x0 : -2 ≤ x := by omega
          have x1 : x ≤ 2000000002 := by omega
          clear hx
          have j0 : (0 : Int) ≤ (k : Int) := by omega
          have j1 : (k : Int) < 4 := by omega
          by_cases hn : x < 0
          · have q : decide (x < 0) = true := decide_eq_true hn
            go_wp2
            go_roundg g
            case measure => omega
            case rel => exact ⟨k + 1, by omega, by go_num, rfl, KB, KL, hbq⟩
          · have q : decide (x < 0) = false := decide_eq_false hn
            have J1 : Hid (∀ W, Calls Try.prog 24 #[.int .i64 x, I2 b1 b2] W (RetB (.bool (Drm.canB rate el x)) W)) := Lib.hid fun W => by rw [← H2.out]; exact in_any _ _ _ W
            have J2 := Lib.hid (fun W => Cn.out el x W ⟨by omega, by omega⟩ ⟨x0, x1⟩)
            generalize Drm.canB rate el x = cc at *
            go_wp2_with fail
            refine (J1.out _).mono ?_
            rintro e w6 ⟨rfl, hb6⟩
            go_wp2_with fail
            refine (J2.out _).mono ?_
            rintro e w' ⟨rfl, rfl⟩
            go_wp2
            go_roundg g
            case measure => omega
            case rel => exact ⟨k + 1, by omega, by go_num, by simp, Lib.hid (keep' KB.out hb6), Lib.hid (keep' KL.out hb6), Below.go hbq hb6⟩
    | succ g =>
      obtain ⟨x, cx, hx⟩ := four KL.out (show k < 4 by omega)
      have x0 : -2 ≤ x := by omega
      have x1 : x ≤ 2000000002 := by omega
      clear hx
      have j0 : (0 : Int) ≤ (k : Int) := by omega
      have j1 : (k : Int) < 4 := by omega
      by_cases hn : x < 0
      · have q : decide (x < 0) = true := decide_eq_true hn
        go_wp2
        go_roundg g
        case measure => omega
        case rel => exact ⟨k + 1, by omega, by go_num, rfl, KA, KB, KL, hbr⟩
      · have q : decide (x < 0) = false := decide_eq_false hn
        have J1 : Hid (∀ W, Calls Try.prog 24 #[.int .i64 x, I2 a1 a2] W (RetB (.bool (Drm.canB rate x ct)) W)) := Lib.hid fun W => by rw [← H1.out]; exact in_any _ _ _ W
        have J2 := Lib.hid (fun W => Cn.out x ct W ⟨x0, x1⟩ ⟨by omega, by omega⟩)
        generalize Drm.canB rate x ct = cc at *
        go_wp2_with fail
        refine (J1.out _).mono ?_
        rintro e w6 ⟨rfl, hb6⟩
        go_wp2_with fail
        refine (J2.out _).mono ?_
        rintro e w' ⟨rfl, rfl⟩
        go_wp2
        go_roundg g
        case measure => omega
        case rel => exact ⟨k + 1, by omega, by go_num, by simp, Lib.hid (keep' KA.out hb6), Lib.hid (keep' KB.out hb6), Lib.hid (keep' KL.out hb6), Below.go hbr hb6⟩
theorem exact_ways (r e n : Int) : (r < 0 ∨ 0 ≤ r ∧ 1000000 < r ∨ (0 ≤ r ∧ r ≤ 1000000) ∧ e < 0 ∨ (0 ≤ r ∧ r ≤ 1000000) ∧ 0 ≤ e ∧ 1000000000 < e ∨ (0 ≤ r ∧ r ≤ 1000000) ∧ 0 ≤ e ∧ e ≤ 1000000000 ∧ n < 0 ∨ (0 ≤ r ∧ r ≤ 1000000) ∧ 0 ≤ e ∧ e ≤ 1000000000 ∧ 0 ≤ n ∧ 1000000000 < n) ∨ ((0 ≤ r ∧ r ≤ 1000000) ∧ (0 ≤ e ∧ e ≤ 1000000000) ∧ 0 ≤ n ∧ n ≤ 1000000000) := by omega
set_option maxHeartbeats 2000000 in
set_option maxRecDepth 100000 in
theorem exact_law (r e n : Int) (w : World) (w1 : (Lit.int .i64 r).wf = true) (w2 : (Lit.int .i64 e).wf = true) (w3 : (Lit.int .i64 n).wf = true) : Calls Try.prog 4 #[.int .i64 r, .int .i64 e, .int .i64 n] w (LawPost w) := by
  clear w1 w2 w3
  rcases exact_ways r e n with hw | hw
  · rcases hw with hw | hw | hw | hw | hw | hw
    all_goals
      have hb := Below.refl w.heap.size w
      go_enter Try.func4, Try.ntmps4
      go_wp2_with fail
      refine (head_any _).mono ?_
      rintro e wN ⟨rfl, hn⟩
      have hb := (by first | exact Below.go hb hn | exact Below.goA hb hn | exact Below.goAA hb hn | exact Below.goD hb hn | exact Below.goAD hb hn : Below w.heap.size w wN)
      clear hn
      go_wp2
      go_ret
      exact ⟨rfl, hb⟩
  · obtain ⟨h1, h2, h3⟩ := hw
    have b1 := Drm.el_bd (r := r) (n := n) h1.1 h1.2 h3.1
    have b2 := Drm.co_bd (r := r) (e := e) h1.1 h1.2 h2.1
    exact exact_main r e n _ _ _ _ _ w h1 h2 h3 ⟨b1.1, by omega, by omega⟩ ⟨b2.1, by omega, by omega⟩ (Lib.hid fun W => Elapsed_ok r n W h1 ⟨by omega, by omega⟩) (Lib.hid fun W => Counts_ok r e W h1 ⟨by omega, by omega⟩) (Lib.hid rfl) (Lib.hid fun x => in_el h1.1 h1.2) (Lib.hid fun x => in_co)
end Go.Proofs.Ytlmdjkkeocmehaa
