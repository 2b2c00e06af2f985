/- The contract of math/bits.Div64 where the divisor has fewer than 32 bits: the quotient and the rest of two digits; the world stays as it was (but for draws). -/
import Derived.Test.YtlmdjkkeocmehaaScA
import Derived.WalkSmall
set_option linter.unusedVariables false
namespace Go.Proofs.Ytlmdjkkeocmehaa
open Go.RowKit

set_option maxRecDepth 100000 in
set_option maxHeartbeats 2000000 in
theorem div_big (hi lo y : Int) (w : World) (hx : 0 < hi) (hx1 : hi < y) (hy1 : y ≤ 2000000000) (h0 : 0 ≤ lo) (h1 : lo < 18446744073709551616) :
    Calls Try.prog 57 #[.int .u64 hi, .int .u64 lo, .int .u64 y] w (Ret (.tuple #[.int .u64 ((hi * 18446744073709551616 + lo) / y), .int .u64 ((hi * 18446744073709551616 + lo) % y)]) w) := by
  have hy0 : (y == 0) = false := by simp; omega
  have hh0 : (hi == 0) = false := by simp; omega
  go_enter Try.func57, Try.ntmps57
  go_wp2_with fail
  refine (lz_any _ _ (by omega) (by omega)).mono ?_
  rintro e w' ⟨s, s1, s2, s3, rfl, rfl⟩
  have hS : (2 : Int) ^ s * 2 ^ (64 - s) = 18446744073709551616 := by
    rw [← Int.pow_add, show s + (64 - s) = 64 by omega]; rfl
  have h33 : ∃ k, (2 : Int) ^ s = 8589934592 * k := ⟨2 ^ (s - 33), by
    have : (8589934592 : Int) = 2 ^ 33 := by rfl
    rw [this, ← Int.pow_add, show 33 + (s - 33) = s by omega]⟩
  have hSp : (0 : Int) < 2 ^ s := Int.pow_pos (by omega)
  obtain ⟨Y, Y1, V, L, L1, L0, Q1, P1, W2, Q0, P0, a1, a2, a3, a4, a5, a6, a7, b1, b2, b3, b4, b5, b6, b7, c1, c2, c3, c4, c5, d1, d2, d3, d4, d5, d6, d7, e1, e2, e3, e4, e5, e6, e7, e8, e9, e10, f1, f2, f3, g1, g2, g3, g4⟩ := Scm.div_core hSp hS h33 (by omega) hx1 s3 h0 h1
  -- the values of the slots, as rules
  have r1 : IntKind.u64.wrap (y * 2 ^ s) = Y := by rw [wrap_u64, a1]; omega
  have r3 : bits BinOp.and IntKind.u64 Y 4294967295 = 0 := by rw [and_mask a3 a2]; exact a5
  have r4 : bits BinOp.or IntKind.u64 (IntKind.u64.wrap (hi * 2 ^ s)) (lo / 2 ^ (64 - s)) = V := by
    rw [wrap_u64, show hi * 2 ^ s % 18446744073709551616 = hi * 2 ^ s by omega, or_add (by omega) b7 b4 b5 (by omega)]; exact b1
  have r5 : IntKind.u64.wrap (lo * 2 ^ s) = L := by rw [wrap_u64]; exact c1
  have r7 : bits BinOp.and IntKind.u64 L 4294967295 = L0 := by rw [and_mask c2 c3]; exact c5
  have n1 : (64 - (s : Int)).toNat = 64 - s := by omega
  have hL1 : 0 ≤ L1 ∧ L1 < 4294967296 := by omega
  have hL0 : 0 ≤ L0 ∧ L0 < 4294967296 := by omega
  have r10 : IntKind.u64.wrap (IntKind.u64.wrap (IntKind.u64.wrap (V * 4294967296) + L1) - IntKind.u64.wrap (Q1 * Y)) = W2 := by
    simp only [wrap_u64]; rw [f2]; omega
  have r11 : IntKind.u64.wrap (IntKind.u64.wrap (IntKind.u64.wrap (W2 * 4294967296) + L0) - IntKind.u64.wrap (Q0 * Y)) = (W2 - P0) * 4294967296 + L0 := by
    simp only [wrap_u64]; rw [f3]; omega
  have G1 := Lib.hid g1
  have G2 := Lib.hid g2
  have Hb := Lib.hid b1
  clear a1 a5 b1 b4 b5 b6 b7 c1 c5 e1 f1 f2 f3 g1 g2 hS h33
  have t24 : decide (y ≤ hi) = false := by simp; omega
  go_wp2
  go_loop [15, 16] (fun q r => q = .int .u64 Q1 ∧ r = .int .u64 (V - P1)) (fun _ _ => 0)
  case atStart => exact ⟨by rw [d1], rfl⟩
  case round =>
    obtain ⟨rfl, rfl⟩ := hrel
    go_wp2
    go_loop [16, 18] (fun r q => q = .int .u64 Q0 ∧ r = .int .u64 (W2 - P0)) (fun _ _ => 0)
    case atStart => exact ⟨by first | rfl | rw [e4], rfl⟩
    case round =>
      obtain ⟨rfl, rfl⟩ := hrel
      go_wp2
      go_ret2
      exact ⟨ret_u G1.out G2.out, rfl⟩
end Go.Proofs.Ytlmdjkkeocmehaa
