/- The law SmearInverse where From returns none. -/
import Derived.Test.YtcabegloipllhaaSmP
set_option linter.unusedVariables false
namespace Go.Proofs.Ytcabegloipllhaa
open Go.RowKit
set_option maxHeartbeats 8000000 in
set_option maxRecDepth 100000 in
theorem inv_none (A : Option Addr) (n c : Nat) (h t s a e X Y x E : Int) (i : Bool) (w : World) (hn : n ≤ 110) (s0 : 1 ≤ s) (s1 : s ≤ 3000000000000000) (Y0 : 0 ≤ Y ∧ Y ≤ 4000000000000000) (hC : Hid (CanC A n c h true w)) (hT : Hid (ToC A n c h t a e w)) (h1 : P1 A n c h t a e w) (hF : Hid (FrC A n c h s 0 0 false 0 w)) (hG : Hid (FrC A n c h (s - 1) X Y i 0 w)) (hX : Hid (ToC A n c h (Y + 1) x E w)) (hs : (E != 0) = true ∨ E = 0 ∧ decide (s < x) = true ∨ E = 0 ∧ decide (s < x) = false ∧ X = 0 ∧ Y = 0) : Calls Try.prog 5 #[.slice A n c, .int .i64 h, .int .i64 t, .int .i64 s] w (LawPost w) := by
  have hb := Below.refl w.heap.size w
  obtain ⟨Y1, Y2⟩ := Y0
  have m1 : (if 0 < s - 1 then s - 1 else 0) = s - 1 := by split <;> omega
  have m2 : (if 1 < s then s - 1 else 0) = s - 1 := by split <;> omega
  have m3 : (s == 0) = false := by simp; omega
  have m4 : ¬ s = 0 := by omega
  rcases h1 with he | ⟨rfl, F, G, p, q, EJ, EK, ⟨F0, F1, G0, G1⟩, k1, k2, k3, k4, k5, ⟨k6, k7⟩, k8, k9⟩
  · rcases hs with hs | ⟨rfl, hs⟩ | ⟨rfl, hs, rfl, rfl⟩
    all_goals
      go_enter Try.func5, Try.ntmps5
      go_wp2_with fail
      refine (head_any _).mono ?_
      rintro e wN ⟨rfl, hn⟩
      have hb := (by first | exact Below.go hb hn | exact Below.goA hb hn | exact Below.goAA hb hn | exact Below.goD hb hn | exact Below.goAD hb hn : Below w.heap.size w wN)
      clear hn
      go_wp2_with fail
      refine (few_q _ _ _ _ hn).mono ?_
      rintro e w' ⟨rfl, rfl⟩
      go_wp2_with fail
      refine (hC.out _ hb).mono ?_
      rintro e wN ⟨rfl, hn⟩
      have hb := (by first | exact Below.go hb hn | exact Below.goA hb hn | exact Below.goAA hb hn | exact Below.goD hb hn | exact Below.goAD hb hn : Below w.heap.size w wN)
      clear hn
      go_wp2_with fail
      refine (hT.out _ hb).mono ?_
      rintro e wN ⟨rfl, hn⟩
      have hb := (by first | exact Below.go hb hn | exact Below.goA hb hn | exact Below.goAA hb hn | exact Below.goD hb hn | exact Below.goAD hb hn : Below w.heap.size w wN)
      clear hn
      go_wp2_with fail
      refine (hF.out _ hb).mono ?_
      rintro e wN ⟨rfl, hn⟩
      have hb := (by first | exact Below.go hb hn | exact Below.goA hb hn | exact Below.goAA hb hn | exact Below.goD hb hn | exact Below.goAD hb hn : Below w.heap.size w wN)
      clear hn
      go_wp2_with fail
      refine (hG.out _ (Below.goN hb _)).mono ?_
      rintro e wN ⟨rfl, hn⟩
      have hb := (by first | exact Below.go hb hn | exact Below.goA hb hn | exact Below.goAA hb hn | exact Below.goD hb hn | exact Below.goAD hb hn : Below w.heap.size w wN)
      have kb := Lib.hid (by first | exact keep' (heap_new _ _) hn | exact newAD hn)
      clear hn
      obtain ⟨⟨kb0, kb1⟩, -⟩ := blk2 kb.out
      have kbz := lt_of_heap kb.out
      go_wp2_with fail
      refine (hX.out _ (Below.goN hb _)).mono ?_
      rintro e wN ⟨rfl, hn⟩
      have hb := (by first | exact Below.go hb hn | exact Below.goA hb hn | exact Below.goAA hb hn | exact Below.goD hb hn | exact Below.goAD hb hn : Below w.heap.size w wN)
      have kb := Lib.hid (by first | exact keep' kb.out hn | exact keepA kb.out hn | exact keepAA kb.out hn | exact keepD kb.out hn | exact keepAD kb.out hn)
      have kc := Lib.hid (by first | exact keep' (heap_new _ _) hn | exact newAD hn)
      clear hn
      obtain ⟨⟨kb0, kb1⟩, -⟩ := blk2 kb.out
      have kbz := lt_of_heap kb.out
      obtain ⟨⟨kc0, kc1⟩, -⟩ := blk2 kc.out
      have kcz := lt_of_heap kc.out
      go_wp2
      go_ret
      exact ⟨rfl, hb⟩
  · have K1 := Lib.hid k1
    have K2 := Lib.hid k2
    have K3 := Lib.hid k3
    have K4 := Lib.hid k4
    have K5 := Lib.hid k5
    clear k1 k2 k3 k4 k5
    rcases hs with hs | ⟨rfl, hs⟩ | ⟨rfl, hs, rfl, rfl⟩ <;> rcases k8 with k8 | ⟨rfl, k8⟩ <;> rcases k9 with k9 | ⟨rfl, k9⟩
    all_goals
      go_enter Try.func5, Try.ntmps5
      go_wp2_with fail
      refine (head_any _).mono ?_
      rintro e wN ⟨rfl, hn⟩
      have hb := (by first | exact Below.go hb hn | exact Below.goA hb hn | exact Below.goAA hb hn | exact Below.goD hb hn | exact Below.goAD hb hn : Below w.heap.size w wN)
      clear hn
      go_wp2_with fail
      refine (few_q _ _ _ _ hn).mono ?_
      rintro e w' ⟨rfl, rfl⟩
      go_wp2_with fail
      refine (hC.out _ hb).mono ?_
      rintro e wN ⟨rfl, hn⟩
      have hb := (by first | exact Below.go hb hn | exact Below.goA hb hn | exact Below.goAA hb hn | exact Below.goD hb hn | exact Below.goAD hb hn : Below w.heap.size w wN)
      clear hn
      go_wp2_with fail
      refine (hT.out _ hb).mono ?_
      rintro e wN ⟨rfl, hn⟩
      have hb := (by first | exact Below.go hb hn | exact Below.goA hb hn | exact Below.goAA hb hn | exact Below.goD hb hn | exact Below.goAD hb hn : Below w.heap.size w wN)
      clear hn
      go_wp2_with fail
      refine (K1.out _ hb).mono ?_
      rintro e wN ⟨rfl, hn⟩
      have hb := (by first | exact Below.go hb hn | exact Below.goA hb hn | exact Below.goAA hb hn | exact Below.goD hb hn | exact Below.goAD hb hn : Below w.heap.size w wN)
      clear hn
      go_wp2_with fail
      refine (K2.out _ (Below.goN hb _)).mono ?_
      rintro e wN ⟨rfl, hn⟩
      have hb := (by first | exact Below.go hb hn | exact Below.goA hb hn | exact Below.goAA hb hn | exact Below.goD hb hn | exact Below.goAD hb hn : Below w.heap.size w wN)
      have ka := Lib.hid (by first | exact keep' (heap_new _ _) hn | exact newAD hn)
      clear hn
      obtain ⟨⟨ka0, ka1⟩, -⟩ := blk2 ka.out
      have kaz := lt_of_heap ka.out
      go_wp2_with fail
      refine (K3.out _ hb).mono ?_
      rintro e wN ⟨rfl, hn⟩
      have hb := (by first | exact Below.go hb hn | exact Below.goA hb hn | exact Below.goAA hb hn | exact Below.goD hb hn | exact Below.goAD hb hn : Below w.heap.size w wN)
      have ka := Lib.hid (by first | exact keep' ka.out hn | exact keepA ka.out hn | exact keepAA ka.out hn | exact keepD ka.out hn | exact keepAD ka.out hn)
      clear hn
      obtain ⟨⟨ka0, ka1⟩, -⟩ := blk2 ka.out
      have kaz := lt_of_heap ka.out
      go_wp2_with fail
      refine (K4.out _ hb).mono ?_
      rintro e wN ⟨rfl, hn⟩
      have hb := (by first | exact Below.go hb hn | exact Below.goA hb hn | exact Below.goAA hb hn | exact Below.goD hb hn | exact Below.goAD hb hn : Below w.heap.size w wN)
      have ka := Lib.hid (by first | exact keep' ka.out hn | exact keepA ka.out hn | exact keepAA ka.out hn | exact keepD ka.out hn | exact keepAD ka.out hn)
      clear hn
      obtain ⟨⟨ka0, ka1⟩, -⟩ := blk2 ka.out
      have kaz := lt_of_heap ka.out
      go_wp2_with fail
      refine (K5.out _ hb).mono ?_
      rintro e wN ⟨rfl, hn⟩
      have hb := (by first | exact Below.go hb hn | exact Below.goA hb hn | exact Below.goAA hb hn | exact Below.goD hb hn | exact Below.goAD hb hn : Below w.heap.size w wN)
      have ka := Lib.hid (by first | exact keep' ka.out hn | exact keepA ka.out hn | exact keepAA ka.out hn | exact keepD ka.out hn | exact keepAD ka.out hn)
      clear hn
      obtain ⟨⟨ka0, ka1⟩, -⟩ := blk2 ka.out
      have kaz := lt_of_heap ka.out
      go_wp2_with fail
      refine (hF.out _ hb).mono ?_
      rintro e wN ⟨rfl, hn⟩
      have hb := (by first | exact Below.go hb hn | exact Below.goA hb hn | exact Below.goAA hb hn | exact Below.goD hb hn | exact Below.goAD hb hn : Below w.heap.size w wN)
      have ka := Lib.hid (by first | exact keep' ka.out hn | exact keepA ka.out hn | exact keepAA ka.out hn | exact keepD ka.out hn | exact keepAD ka.out hn)
      clear hn
      obtain ⟨⟨ka0, ka1⟩, -⟩ := blk2 ka.out
      have kaz := lt_of_heap ka.out
      go_wp2_with fail
      refine (hG.out _ (Below.goN hb _)).mono ?_
      rintro e wN ⟨rfl, hn⟩
      have hb := (by first | exact Below.go hb hn | exact Below.goA hb hn | exact Below.goAA hb hn | exact Below.goD hb hn | exact Below.goAD hb hn : Below w.heap.size w wN)
      have kb := Lib.hid (by first | exact keep' (heap_new _ _) hn | exact newAD hn)
      clear hn
      obtain ⟨⟨kb0, kb1⟩, -⟩ := blk2 kb.out
      have kbz := lt_of_heap kb.out
      go_wp2_with fail
      refine (hX.out _ (Below.goN hb _)).mono ?_
      rintro e wN ⟨rfl, hn⟩
      have hb := (by first | exact Below.go hb hn | exact Below.goA hb hn | exact Below.goAA hb hn | exact Below.goD hb hn | exact Below.goAD hb hn : Below w.heap.size w wN)
      have kb := Lib.hid (by first | exact keep' kb.out hn | exact keepA kb.out hn | exact keepAA kb.out hn | exact keepD kb.out hn | exact keepAD kb.out hn)
      have kc := Lib.hid (by first | exact keep' (heap_new _ _) hn | exact newAD hn)
      clear hn
      obtain ⟨⟨kb0, kb1⟩, -⟩ := blk2 kb.out
      have kbz := lt_of_heap kb.out
      obtain ⟨⟨kc0, kc1⟩, -⟩ := blk2 kc.out
      have kcz := lt_of_heap kc.out
      go_wp2
      go_ret
      exact ⟨rfl, hb⟩
end Go.Proofs.Ytcabegloipllhaa
