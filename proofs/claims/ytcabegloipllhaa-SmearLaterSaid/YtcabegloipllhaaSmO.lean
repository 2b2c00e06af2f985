/- The walk of the law SmearInverse. -/
import Derived.Test.YtcabegloipllhaaSmN
set_option linter.unusedVariables false
namespace Go.Proofs.Ytcabegloipllhaa
open Go.RowKit
abbrev FrC (A : Option Addr) (n c : Nat) (h t a b : Int) (i : Bool) (e : Int) (w : World) : Prop := ∀ W, Below w.heap.size w W → Calls Try.prog 17 #[.slice A n c, .int .i64 h, .int .i64 t] W (RetB (.tuple #[I2 a b, .bool i, .int .i64 e]) W)
/-- the first half of the law -/
def P1 (A : Option Addr) (n c : Nat) (h t a e : Int) (w : World) : Prop :=
  (e != 0) = true ∨ (e = 0 ∧ ∃ F G p q EJ EK : Int, (0 ≤ F ∧ F ≤ 4000000000000000 ∧ 0 ≤ G ∧ G ≤ 4000000000000000) ∧ FrC A n c h a F G true 0 w ∧ ToC A n c h F a 0 w ∧ ToC A n c h G a 0 w ∧ ToC A n c h (F - 1) p EJ w ∧ ToC A n c h (G + 1) q EK w ∧ (decide (F ≤ t) = true ∧ decide (t ≤ G) = true) ∧ ((EJ != 0) = true ∨ EJ = 0 ∧ decide (p < a) = true) ∧ ((EK != 0) = true ∨ EK = 0 ∧ decide (a < q) = true))
set_option maxHeartbeats 2000000 in
set_option maxRecDepth 100000 in
theorem inv_bad (A : Option Addr) (n c : Nat) (h t s : Int) (w : World) (b : Bool) (hm : n ≤ 9223372036854775807) (hC : Hid (n ≤ 110 → CanC A n c h b w)) (hw : ¬ n ≤ 110 ∨ n ≤ 110 ∧ b = false) : Calls Try.prog 5 #[.slice A n c, .int .i64 h, .int .i64 t, .int .i64 s] w (LawPost w) := by
  have hb := Below.refl w.heap.size w
  rcases hw with hn | ⟨hn, rfl⟩
  · go_enter Try.func5, Try.ntmps5
    go_wp2_with fail
    refine (head_any _).mono ?_
    rintro e wN ⟨rfl, hn⟩
    have hb := (by first | exact Below.go hb hn | exact Below.goA hb hn | exact Below.goAA hb hn | exact Below.goD hb hn | exact Below.goAD hb hn : Below w.heap.size w wN)
    clear hn
    go_wp2_with fail
    refine (few_no _ _ _ _ hn hm).mono ?_
    rintro e w' ⟨rfl, rfl⟩
    go_wp2
    go_ret
    exact ⟨rfl, hb⟩
  · have hC2 := Lib.hid (hC.out hn)
    go_enter Try.func5, Try.ntmps5
    go_wp2_with fail
    refine (head_any _).mono ?_
    rintro e wN ⟨rfl, hn⟩
    have hb := (by first | exact Below.go hb hn | exact Below.goA hb hn | exact Below.goAA hb hn | exact Below.goD hb hn | exact Below.goAD hb hn : Below w.heap.size w wN)
    clear hn
    go_wp2_with fail
    refine (few_q _ _ _ _ hn).mono ?_
    rintro e w' ⟨rfl, rfl⟩
    go_wp2_with fail
    refine (hC2.out _ hb).mono ?_
    rintro e wN ⟨rfl, hn⟩
    have hb := (by first | exact Below.go hb hn | exact Below.goA hb hn | exact Below.goAA hb hn | exact Below.goD hb hn | exact Below.goAD hb hn : Below w.heap.size w wN)
    clear hn
    go_wp2
    go_ret
    exact ⟨rfl, hb⟩
set_option maxHeartbeats 8000000 in
set_option maxRecDepth 100000 in
theorem inv_far (A : Option Addr) (n c : Nat) (h t s a e : Int) (w : World) (hn : n ≤ 110) (hC : Hid (CanC A n c h true w)) (hT : Hid (ToC A n c h t a e w)) (h1 : P1 A n c h t a e w) (hF : Hid (FrC A n c h s 0 0 false 1 w)) (hs : decide (s < 0) = true ∨ decide (s < 0) = false ∧ decide (3000000000000000 < s) = true) : Calls Try.prog 5 #[.slice A n c, .int .i64 h, .int .i64 t, .int .i64 s] w (LawPost w) := by
  have hb := Below.refl w.heap.size w
  rcases h1 with he | ⟨rfl, F, G, p, q, EJ, EK, ⟨F0, F1, G0, G1⟩, k1, k2, k3, k4, k5, ⟨k6, k7⟩, k8, k9⟩
  · rcases hs with hs | ⟨hs, hs2⟩
    all_goals
      go_enter Try.func5, Try.ntmps5
      go_wp2_with fail
      refine (head_any _).mono ?_
      rintro e wN ⟨rfl, hn⟩
      have hb := (by first | exact Below.go hb hn | exact Below.goA hb hn | exact Below.goAA hb hn | exact Below.goD hb hn | exact Below.goAD hb hn : Below w.heap.size w wN)
      clear hn
      go_wp2_with fail
      refine (few_q _ _ _ _ hn).mono ?_
      rintro e w' ⟨rfl, rfl⟩
      go_wp2_with fail
      refine (hC.out _ hb).mono ?_
      rintro e wN ⟨rfl, hn⟩
      have hb := (by first | exact Below.go hb hn | exact Below.goA hb hn | exact Below.goAA hb hn | exact Below.goD hb hn | exact Below.goAD hb hn : Below w.heap.size w wN)
      clear hn
      go_wp2_with fail
      refine (hT.out _ hb).mono ?_
      rintro e wN ⟨rfl, hn⟩
      have hb := (by first | exact Below.go hb hn | exact Below.goA hb hn | exact Below.goAA hb hn | exact Below.goD hb hn | exact Below.goAD hb hn : Below w.heap.size w wN)
      clear hn
      go_wp2_with fail
      refine (hF.out _ hb).mono ?_
      rintro e wN ⟨rfl, hn⟩
      have hb := (by first | exact Below.go hb hn | exact Below.goA hb hn | exact Below.goAA hb hn | exact Below.goD hb hn | exact Below.goAD hb hn : Below w.heap.size w wN)
      clear hn
      go_wp2
      go_ret
      exact ⟨rfl, hb.alloc hb.size _⟩
  · have K1 := Lib.hid k1
    have K2 := Lib.hid k2
    have K3 := Lib.hid k3
    have K4 := Lib.hid k4
    have K5 := Lib.hid k5
    clear k1 k2 k3 k4 k5
    rcases hs with hs | ⟨hs, hs2⟩ <;> rcases k8 with k8 | ⟨rfl, k8⟩ <;> rcases k9 with k9 | ⟨rfl, k9⟩
    all_goals
      go_enter Try.func5, Try.ntmps5
      go_wp2_with fail
      refine (head_any _).mono ?_
      rintro e wN ⟨rfl, hn⟩
      have hb := (by first | exact Below.go hb hn | exact Below.goA hb hn | exact Below.goAA hb hn | exact Below.goD hb hn | exact Below.goAD hb hn : Below w.heap.size w wN)
      clear hn
      go_wp2_with fail
      refine (few_q _ _ _ _ hn).mono ?_
      rintro e w' ⟨rfl, rfl⟩
      go_wp2_with fail
      refine (hC.out _ hb).mono ?_
      rintro e wN ⟨rfl, hn⟩
      have hb := (by first | exact Below.go hb hn | exact Below.goA hb hn | exact Below.goAA hb hn | exact Below.goD hb hn | exact Below.goAD hb hn : Below w.heap.size w wN)
      clear hn
      go_wp2_with fail
      refine (hT.out _ hb).mono ?_
      rintro e wN ⟨rfl, hn⟩
      have hb := (by first | exact Below.go hb hn | exact Below.goA hb hn | exact Below.goAA hb hn | exact Below.goD hb hn | exact Below.goAD hb hn : Below w.heap.size w wN)
      clear hn
      go_wp2_with fail
      refine (K1.out _ hb).mono ?_
      rintro e wN ⟨rfl, hn⟩
      have hb := (by first | exact Below.go hb hn | exact Below.goA hb hn | exact Below.goAA hb hn | exact Below.goD hb hn | exact Below.goAD hb hn : Below w.heap.size w wN)
      clear hn
      go_wp2_with fail
      refine (K2.out _ (Below.goN hb _)).mono ?_
      rintro e wN ⟨rfl, hn⟩
      have hb := (by first | exact Below.go hb hn | exact Below.goA hb hn | exact Below.goAA hb hn | exact Below.goD hb hn | exact Below.goAD hb hn : Below w.heap.size w wN)
      have ka := Lib.hid (by first | exact keep' (heap_new _ _) hn | exact newAD hn)
      clear hn
      obtain ⟨⟨ka0, ka1⟩, -⟩ := blk2 ka.out
      have kaz := lt_of_heap ka.out
      go_wp2_with fail
      refine (K3.out _ hb).mono ?_
      rintro e wN ⟨rfl, hn⟩
      have hb := (by first | exact Below.go hb hn | exact Below.goA hb hn | exact Below.goAA hb hn | exact Below.goD hb hn | exact Below.goAD hb hn : Below w.heap.size w wN)
      have ka := Lib.hid (by first | exact keep' ka.out hn | exact keepA ka.out hn | exact keepAA ka.out hn | exact keepD ka.out hn | exact keepAD ka.out hn)
      clear hn
      obtain ⟨⟨ka0, ka1⟩, -⟩ := blk2 ka.out
      have kaz := lt_of_heap ka.out
      go_wp2_with fail
      refine (K4.out _ hb).mono ?_
      rintro e wN ⟨rfl, hn⟩
      have hb := (by first | exact Below.go hb hn | exact Below.goA hb hn | exact Below.goAA hb hn | exact Below.goD hb hn | exact Below.goAD hb hn : Below w.heap.size w wN)
      have ka := Lib.hid (by first | exact keep' ka.out hn | exact keepA ka.out hn | exact keepAA ka.out hn | exact keepD ka.out hn | exact keepAD ka.out hn)
      clear hn
      obtain ⟨⟨ka0, ka1⟩, -⟩ := blk2 ka.out
      have kaz := lt_of_heap ka.out
      go_wp2_with fail
      refine (K5.out _ hb).mono ?_
      rintro e wN ⟨rfl, hn⟩
      have hb := (by first | exact Below.go hb hn | exact Below.goA hb hn | exact Below.goAA hb hn | exact Below.goD hb hn | exact Below.goAD hb hn : Below w.heap.size w wN)
      have ka := Lib.hid (by first | exact keep' ka.out hn | exact keepA ka.out hn | exact keepAA ka.out hn | exact keepD ka.out hn | exact keepAD ka.out hn)
      clear hn
      obtain ⟨⟨ka0, ka1⟩, -⟩ := blk2 ka.out
      have kaz := lt_of_heap ka.out
      go_wp2_with fail
      refine (hF.out _ hb).mono ?_
      rintro e wN ⟨rfl, hn⟩
      have hb := (by first | exact Below.go hb hn | exact Below.goA hb hn | exact Below.goAA hb hn | exact Below.goD hb hn | exact Below.goAD hb hn : Below w.heap.size w wN)
      have ka := Lib.hid (by first | exact keep' ka.out hn | exact keepA ka.out hn | exact keepAA ka.out hn | exact keepD ka.out hn | exact keepAD ka.out hn)
      clear hn
      obtain ⟨⟨ka0, ka1⟩, -⟩ := blk2 ka.out
      have kaz := lt_of_heap ka.out
      go_wp2
      go_ret
      exact ⟨rfl, hb.alloc hb.size _⟩
end Go.Proofs.Ytcabegloipllhaa
