/- The contracts of math/bits.Mul64 and Div64 where the divisor has fewer than 32 bits: the product and the quotient of two digits; the world stays as it was. -/
import Derived.Test.YtlmdjkkeocmehaaRows
import Derived.Test.YtlmdjkkeocmehaaScMath
import Derived.WalkKit
import Derived.WalkSpells
import Derived.WalkLawsBesides
import Derived.Lib.Hide
import Derived.Below
import Derived.Deep.QuietTactic
import Derived.BigQuiet
import Derived.Laws.BitsAllLaws
set_option linter.unusedVariables false
namespace Go.Proofs.Ytlmdjkkeocmehaa
open Go.RowKit
def Ret (v : Value) (w : World) (e : Ending) (w' : World) : Prop := e = .returned v ∧ w = w'
theorem ret_int {k : IntKind} {a b : Int} (h : a = b) : Ending.returned (.int k a) = .returned (.int k b) := by rw [h]
theorem ret_u {a b a' b' : Int} (h1 : a = a') (h2 : b = b') : Ending.returned (.tuple #[.int .u64 a, .int .u64 b]) = .returned (.tuple #[.int .u64 a', .int .u64 b']) := by rw [h1, h2]

theorem and_mask {x : Int} (h0 : 0 ≤ x) (h1 : x < 18446744073709551616) : bits BinOp.and IntKind.u64 x 4294967295 = x % 4294967296 := by
  rw [u64_and x 4294967295 h0 h1 (by omega) (by omega)]
  rw [show (4294967295 : Int).toNat = 4294967295 from rfl, nat_mask32]; omega
theorem or_add {a b : Int} {s : Nat} (h0 : 0 ≤ a) (h1 : a * 2 ^ s < 18446744073709551616) (h2 : 0 ≤ b) (h3 : b < 2 ^ s) (h4 : b < 18446744073709551616) : bits BinOp.or IntKind.u64 (a * 2 ^ s) b = a * 2 ^ s + b := by
  obtain ⟨n, rfl⟩ := Int.eq_ofNat_of_zero_le h0
  obtain ⟨m, rfl⟩ := Int.eq_ofNat_of_zero_le h2
  have e : ((n : Int) * 2 ^ s) = ((n * 2 ^ s : Nat) : Int) := by simp
  have hb : m < 2 ^ s := by
    have : ((m : Nat) : Int) < ((2 ^ s : Nat) : Int) := by simpa using h3
    omega
  rw [e] at h1 ⊢
  rw [u64_or _ _ (by omega) h1 (by omega) h4]
  simp only [Int.toNat_natCast]
  rw [← Nat.shiftLeft_eq, ← Nat.shiftLeft_add_eq_or_of_lt hb]; simp
theorem wrap_u64 (x : Int) : IntKind.u64.wrap x = x % 18446744073709551616 := by simp [IntKind.wrap_u64]

set_option maxHeartbeats 400000 in
theorem mul_any (x y : Int) (w : World) (hx : 0 ≤ x) (hx1 : x ≤ 3000000000000000) (hy : 0 ≤ y) (hy1 : y ≤ 2000000000) :
    Calls Try.prog 56 #[.int .u64 x, .int .u64 y] w (Ret (.tuple #[.int .u64 (x * y / 18446744073709551616), .int .u64 (x * y % 18446744073709551616)]) w) := by
  have e0 : bits BinOp.and IntKind.u64 x 4294967295 = x % 4294967296 := and_mask hx (by omega)
  have e1 : bits BinOp.and IntKind.u64 y 4294967295 = y := by rw [and_mask hy (by omega)]; omega
  have e2 : y / 4294967296 = 0 := by omega
  obtain ⟨B, hB⟩ : ∃ B, x % 4294967296 * y = B := ⟨_, rfl⟩
  obtain ⟨A, hA⟩ : ∃ A, x / 4294967296 * y = A := ⟨_, rfl⟩
  have hB0 : 0 ≤ B := by rw [← hB]; exact Int.mul_nonneg (by omega) hy
  have hB1 : B ≤ 4294967296 * 2000000000 := by rw [← hB]; exact Int.mul_le_mul (by omega) hy1 hy (by omega)
  have hA0 : 0 ≤ A := by rw [← hA]; exact Int.mul_nonneg (by omega) hy
  have hA1 : A ≤ 698492 * 2000000000 := by rw [← hA]; exact Int.mul_le_mul (by omega) hy1 hy (by omega)
  have hxy : x * y = A * 4294967296 + B := by
    have : x * y = (4294967296 * (x / 4294967296) + x % 4294967296) * y := by rw [Int.mul_ediv_add_emod]
    rw [this, Int.add_mul, hB, Int.mul_assoc, hA]; omega
  have e3 : bits BinOp.and IntKind.u64 (A + B / 4294967296) 4294967295 = (A + B / 4294967296) % 4294967296 := and_mask (by omega) (by omega)
  have Hxy := Lib.hid hxy
  clear hxy
  go_enter Try.func56, Try.ntmps56
  go_wp2
  go_ret2
  exact ⟨ret_u (by rw [Hxy.out]; omega) (by rw [wrap_u64]), rfl⟩

set_option maxRecDepth 100000 in
/-- the table of lengths of a byte -/
noncomputable def lenTab : ByteArray := { data := #[0, 1, 2, 2, 3, 3, 3, 3, 4, 4, 4, 4, 4, 4, 4, 4, 5, 5, 5, 5, 5, 5, 5, 5, 5, 5, 5, 5, 5, 5, 5, 5, 6, 6, 6, 6, 6, 6, 6, 6, 6, 6, 6, 6, 6, 6, 6, 6, 6, 6, 6, 6, 6, 6, 6, 6, 6, 6, 6, 6, 6, 6, 6, 6, 7, 7, 7, 7, 7, 7, 7, 7, 7, 7, 7, 7, 7, 7, 7, 7, 7, 7, 7, 7, 7, 7, 7, 7, 7, 7, 7, 7, 7, 7, 7, 7, 7, 7, 7, 7, 7, 7, 7, 7, 7, 7, 7, 7, 7, 7, 7, 7, 7, 7, 7, 7, 7, 7, 7, 7, 7, 7, 7, 7, 7, 7, 7, 7, 8, 8, 8, 8, 8, 8, 8, 8, 8, 8, 8, 8, 8, 8, 8, 8, 8, 8, 8, 8, 8, 8, 8, 8, 8, 8, 8, 8, 8, 8, 8, 8, 8, 8, 8, 8, 8, 8, 8, 8, 8, 8, 8, 8, 8, 8, 8, 8, 8, 8, 8, 8, 8, 8, 8, 8, 8, 8, 8, 8, 8, 8, 8, 8, 8, 8, 8, 8, 8, 8, 8, 8, 8, 8, 8, 8, 8, 8, 8, 8, 8, 8, 8, 8, 8, 8, 8, 8, 8, 8, 8, 8, 8, 8, 8, 8, 8, 8, 8, 8, 8, 8, 8, 8, 8, 8, 8, 8, 8, 8, 8, 8, 8, 8, 8, 8, 8, 8, 8, 8, 8, 8, 8, 8, 8, 8, 8, 8] }
set_option maxRecDepth 100000 in
theorem lenTab_size : lenTab.size = 256 := by decide +kernel
set_option maxRecDepth 100000 in
theorem lenTab_fin : ∀ i : Fin 256, i.val < 2 ^ (lenTab.data[i.val]?.getD 0).toNat ∧ (lenTab.data[i.val]?.getD 0).toNat ≤ 8 ∧ (i.val < 128 → (lenTab.data[i.val]?.getD 0).toNat ≤ 7) ∧ (1 ≤ i.val → 1 ≤ (lenTab.data[i.val]?.getD 0).toNat) := by decide +kernel
theorem byte_at (T : ByteArray) {i : Nat} (h : i < T.size) : T.data[i]?.getD 0 = T[i] := by
  have h' : i < T.data.size := h
  rw [Array.getElem?_eq_getElem h']; rfl
set_option maxRecDepth 100000 in
theorem lenTab_at {i : Nat} (h : i < lenTab.size) : i < 2 ^ (lenTab[i]).toNat ∧ (lenTab[i]).toNat ≤ 8 ∧ (i < 128 → (lenTab[i]).toNat ≤ 7) ∧ (1 ≤ i → 1 ≤ (lenTab[i]).toNat) := by
  have hi : i < 256 := by rw [lenTab_size] at h; exact h
  have e : lenTab.data[i]?.getD 0 = lenTab[i] := byte_at lenTab h
  have := lenTab_fin ⟨i, hi⟩
  simp only [e] at this
  exact this
/-- it returns a length of y -/
def LenPost (y : Int) (w : World) (e : Ending) (w' : World) : Prop := ∃ n : Nat, 1 ≤ n ∧ n ≤ 31 ∧ y < 2 ^ n ∧ e = .returned (.int .i64 n) ∧ w = w'
theorem len_end {y : Int} {k n m : Nat} (hn : k < 2 ^ n) (h : y < ((k + 1) * 2 ^ m : Nat)) : y < 2 ^ (n + m) := by
  have : (k + 1) * 2 ^ m ≤ 2 ^ n * 2 ^ m := Nat.mul_le_mul_right _ hn
  rw [← Nat.pow_add] at this
  have h2 : ((2 ^ (n + m) : Nat) : Int) = 2 ^ (n + m) := by simp
  rw [← h2]; omega
theorem wrap_0 (n : Nat) (h : n ≤ 8) : wrap64 (wrap64 (n : Int)) = ((n + 0 : Nat) : Int) := by rw [IntWalk.wrap64_in (n : Int) ⟨by omega, by omega⟩, IntWalk.wrap64_in (n : Int) ⟨by omega, by omega⟩]; rfl
theorem wrap_8 (n : Nat) (h : n ≤ 8) : wrap64 (8 + wrap64 (n : Int)) = ((n + 8 : Nat) : Int) := by rw [IntWalk.wrap64_in (n : Int) ⟨by omega, by omega⟩, IntWalk.wrap64_in _ ⟨by omega, by omega⟩]; omega
theorem wrap_16 (n : Nat) (h : n ≤ 8) : wrap64 (16 + wrap64 (n : Int)) = ((n + 16 : Nat) : Int) := by rw [IntWalk.wrap64_in (n : Int) ⟨by omega, by omega⟩, IntWalk.wrap64_in _ ⟨by omega, by omega⟩]; omega
theorem wrap_24 (n : Nat) (h : n ≤ 8) : wrap64 (24 + wrap64 (n : Int)) = ((n + 24 : Nat) : Int) := by rw [IntWalk.wrap64_in (n : Int) ⟨by omega, by omega⟩, IntWalk.wrap64_in _ ⟨by omega, by omega⟩]; omega
set_option maxRecDepth 100000 in
set_option maxHeartbeats 1000000 in
theorem len_any (y : Int) (w : World) (h0 : 1 ≤ y) (h1 : y ≤ 2000000000) : Calls Try.prog 59 #[.int .u64 y] w (LenPost y w) := by
  by_cases c1 : y < 256
  · have hs : (y).toNat < lenTab.size := by rw [lenTab_size]; omega
    have hT := Lib.hid (lenTab_at hs)
    go_enter Try.func59, Try.ntmps59
    go_wp2
    go_ret
    have t := hT.out
    refine ⟨lenTab[(y).toNat].toNat + 0, by omega, by omega, len_end (k := (y).toNat) t.1 (by omega), ret_int (wrap_0 _ t.2.1), rfl⟩
  by_cases c2 : y < 65536
  · have hs : (y / 256).toNat < lenTab.size := by rw [lenTab_size]; omega
    have hT := Lib.hid (lenTab_at hs)
    go_enter Try.func59, Try.ntmps59
    go_wp2
    go_ret
    have t := hT.out
    refine ⟨lenTab[(y / 256).toNat].toNat + 8, by omega, by omega, len_end (k := (y / 256).toNat) t.1 (by omega), ret_int (wrap_8 _ t.2.1), rfl⟩
  by_cases c3 : y < 16777216
  · have hs : (y / 65536).toNat < lenTab.size := by rw [lenTab_size]; omega
    have hT := Lib.hid (lenTab_at hs)
    go_enter Try.func59, Try.ntmps59
    go_wp2
    go_ret
    have t := hT.out
    refine ⟨lenTab[(y / 65536).toNat].toNat + 16, by omega, by omega, len_end (k := (y / 65536).toNat) t.1 (by omega), ret_int (wrap_16 _ t.2.1), rfl⟩
  · have hs : (y / 65536 / 256).toNat < lenTab.size := by rw [lenTab_size]; omega
    have hT := Lib.hid (lenTab_at hs)
    go_enter Try.func59, Try.ntmps59
    go_wp2
    go_ret
    have t := hT.out
    refine ⟨lenTab[(y / 65536 / 256).toNat].toNat + 24, by omega, by omega, len_end (k := (y / 65536 / 256).toNat) t.1 (by omega), ret_int (wrap_24 _ t.2.1), rfl⟩

def LzPost (y : Int) (w : World) (e : Ending) (w' : World) : Prop := ∃ s : Nat, 33 ≤ s ∧ s ≤ 63 ∧ y < 2 ^ (64 - s) ∧ e = .returned (.int .i64 s) ∧ w = w'
set_option maxHeartbeats 1000000 in
theorem lz_any (y : Int) (w : World) (h0 : 1 ≤ y) (h1 : y ≤ 2000000000) : Calls Try.prog 58 #[.int .u64 y] w (LzPost y w) := by
  go_enter Try.func58, Try.ntmps58
  go_wp2_with (go_at_call 59; refine (len_any _ _ (by omega) (by omega)).mono ?_; rintro e w' ⟨n, n1, n2, n3, rfl, rfl⟩)
  go_ret
  exact ⟨64 - n, by omega, by omega, by rw [show 64 - (64 - n) = n by omega]; exact n3, ret_int (by omega), rfl⟩
end Go.Proofs.Ytlmdjkkeocmehaa
