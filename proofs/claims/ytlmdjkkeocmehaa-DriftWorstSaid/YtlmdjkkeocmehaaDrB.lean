/- Lists of integers in memory; the contracts of drift.all over integers, and of drift.band. -/
import Derived.Test.YtlmdjkkeocmehaaDrA
set_option linter.unusedVariables false
namespace Go.Proofs.Ytlmdjkkeocmehaa
open Go.RowKit
namespace Tab
def ai (l : List Int) (k : Nat) : Int := l[k]?.getD 0
theorem all_snoc {l : List Int} {k n : Nat} (p : Int → Bool) (h : l.length = n) (hk : k < n) : (l.take (k + 1)).all p = ((l.take k).all p && p (ai l k)) := by
  unfold ai; rw [List.take_succ_eq_append_getElem (by omega), List.all_append]; simp [show k < l.length by omega]
theorem all_no {l : List Int} {k : Nat} {p : Int → Bool} (h : (l.take k).all p = false) : l.all p = false := by
  rw [List.all_eq_false] at *; obtain ⟨x, hx, hp⟩ := h; exact ⟨x, List.mem_of_mem_take hx, hp⟩
/-- the band of a number among the first k integers -/
def bd (l : List Int) (n : Int) : Nat → Int
  | 0 => -1
  | k + 1 => if n < ai l k then bd l n k else k
end Tab
def Li (B : Nat) (W : World) (A : Option Addr) (n : Nat) (l : List Int) : Prop :=
  l.length = n ∧ (0 < n → ∃ b off, A = some ⟨b, off, none⟩ ∧ b < B ∧ ∀ j, j < n → W.cell? ⟨b, off + j, none⟩ = some (.int .i64 (Tab.ai l j)))
theorem Li.below {B : Nat} {W W' : World} {A : Option Addr} {n : Nat} {l : List Int} (h : Li B W A n l) (hb : Below B W W') : Li B W' A n l :=
  ⟨h.1, fun hn => by obtain ⟨b, off, e, hB, hc⟩ := h.2 hn; exact ⟨b, off, e, hB, fun j hj => (hb.cell (p := ⟨b, off + j, none⟩) hB).trans (hc j hj)⟩⟩
theorem Li.mono {B B' : Nat} {W : World} {A : Option Addr} {n : Nat} {l : List Int} (h : Li B W A n l) (hB : B ≤ B') : Li B' W A n l :=
  ⟨h.1, fun hn => by obtain ⟨b, off, e, hb, hc⟩ := h.2 hn; exact ⟨b, off, e, by omega, hc⟩⟩
set_option maxHeartbeats 2000000 in
theorem allB_any (A : Option Addr) (n c : Nat) (l : List Int) (w : World) (hl : Li w.heap.size w A n l) (hn : n ≤ 9223372036854775807) :
    Calls Try.prog 32 #[.slice A n c, .func (Fn.func 33) #[] #[]] w (RetB (.bool (l.all Drm.rB)) w) := by
  obtain ⟨hlen, hcell⟩ := hl
  have Hlen := Lib.hid hlen
  clear hlen
  go_enter Try.func32, Try.ntmps32
  go_wp2
  go_loopw [9] (fun i wr => ∃ k : Nat, k ≤ n ∧ i = .int .i64 k ∧ Hid ((l.take k).all Drm.rB = true) ∧ Below w.heap.size w wr) (fun i _ => n - (intOf i).toNat)
  case atStart => exact ⟨0, Nat.zero_le _, rfl, Lib.hid rfl, Below.refl _ _⟩
  case round =>
    obtain ⟨k, hk, rfl, hv, hb⟩ := hrel
    by_cases hlt : k < n
    · obtain ⟨b, off, rfl, hbB, hc⟩ := hcell (by omega)
      have c0 := (hb.cell (p := ⟨b, off + k, none⟩) hbB).trans (hc k hlt)
      have hs := Lib.hid (Tab.all_snoc Drm.rB Hlen.out hlt)
      clear hc hcell
      generalize Tab.ai l k = x at *
      have b0 : (0 : Int) ≤ (k : Int) := by omega
      have b1 : (k : Int) < (n : Int) := by omega
      cases hp : Drm.rB x
      · have hs2 : Hid (l.all Drm.rB = false) := Lib.hid (Tab.all_no (k := k + 1) (hs.out.trans (by rw [hp]; simp)))
        go_wp2_with fail
        refine (bound_any _ _).mono ?_
        rintro e w' ⟨rfl, rfl⟩
        go_wp2
        go_ret
        exact ⟨ret_bool hs2.out.symm, hb⟩
      · have hs2 : Hid ((l.take (k + 1)).all Drm.rB = true) := Lib.hid (hs.out.trans (by rw [hp, hv.out]; rfl))
        go_wp2_with fail
        refine (bound_any _ _).mono ?_
        rintro e w' ⟨rfl, rfl⟩
        go_wp2
        go_roundw
        case rel => exact ⟨k + 1, by omega, by go_num, hs2, hb⟩
        case measure => simp [intOf]; omega
    · obtain rfl : k = n := by omega
      have e : l.take k = l := List.take_of_length_le (by rw [Hlen.out]; omega)
      rw [e] at hv
      go_wp2
      go_ret
      exact ⟨ret_bool hv.out.symm, hb⟩
set_option maxHeartbeats 2000000 in
theorem band_q (A : Option Addr) (n c : Nat) (l : List Int) (x : Int) (w : World) (hl : Li w.heap.size w A n l) (hn : n ≤ 9223372036854775807) :
    Calls Try.prog 36 #[.slice A n c, .int .i64 x] w (Ret (.int .i64 (Tab.bd l x n)) w) := by
  obtain ⟨hlen, hcell⟩ := hl
  clear hlen
  go_enter Try.func36, Try.ntmps36
  go_wp2
  go_loop [5] (fun i => ∃ k : Nat, k ≤ n ∧ i = .int .i64 ((k : Int) - 1) ∧ Hid (Tab.bd l x n = Tab.bd l x k)) (fun i => (intOf i + 1).toNat)
  case atStart => exact ⟨n, Nat.le_refl _, by go_num, Lib.hid rfl⟩
  case round =>
    obtain ⟨k, hk, rfl, hv⟩ := hrel
    cases k with
    | zero =>
      go_wp2
      go_ret
      exact ⟨ret_int hv.out.symm, rfl⟩
    | succ k =>
      obtain ⟨b, off, rfl, hbB, hc⟩ := hcell (by omega)
      have c0 := hc k (by omega)
      have hs : Hid (Tab.bd l x (k + 1) = if x < Tab.ai l k then Tab.bd l x k else k) := Lib.hid rfl
      clear hc hcell
      have e : ((k + 1 : Nat) : Int) - 1 = (k : Int) := by omega
      simp only [e]
      generalize Tab.ai l k = y at *
      have b0 : (0 : Int) ≤ (k : Int) := by omega
      have b1 : (k : Int) < (n : Int) := by omega
      by_cases hp : x < y
      · rw [if_pos hp] at hs
        go_wp2
        go_round
        case rel => exact ⟨k, by omega, by go_num, Lib.hid (hv.out.trans hs.out)⟩
        case measure => simp [intOf]
      · rw [if_neg hp] at hs
        have hp2 : decide (x < y) = false := decide_eq_false hp
        go_wp2
        go_ret
        exact ⟨ret_int (hv.out.trans hs.out).symm, rfl⟩
end Go.Proofs.Ytlmdjkkeocmehaa
