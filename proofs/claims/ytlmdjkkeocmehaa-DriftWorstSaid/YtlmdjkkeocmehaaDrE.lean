/- The contracts of drift.rising, of drift.all over rows, and of drift.Valid. -/
import Derived.Test.YtlmdjkkeocmehaaDrD
import Derived.Test.YtlmdjkkeocmehaaDrTab
set_option linter.unusedVariables false
namespace Go.Proofs.Ytlmdjkkeocmehaa
open Go.RowKit
set_option maxHeartbeats 2000000 in
theorem rising_any (A : Option Addr) (n c : Nat) (l : List Int) (w : World) (hl : Li w.heap.size w A n l) (hn : n ≤ 9223372036854775807) :
    Calls Try.prog 29 #[.slice A n c] w (RetB (.bool (Tab.rising l)) w) := by
  have hR := Lib.hid (Tab.rising_n hl.1)
  by_cases h0 : n < 1
  · have hR2 : Hid (Tab.rising l = false) := Lib.hid (hR.out.trans (by rw [decide_eq_false (show ¬ 1 ≤ n by omega)]; simp))
    clear hl
    go_enter Try.func29, Try.ntmps29
    go_wp2
    go_ret
    exact ⟨ret_bool hR2.out.symm, Below.refl _ _⟩
  have h0' : 1 ≤ n := by omega
  have q0 : decide (n < 1) = false := decide_eq_false h0
  by_cases h8 : 8 < n
  · have hR2 : Hid (Tab.rising l = false) := Lib.hid (hR.out.trans (by rw [decide_eq_false (show ¬ n ≤ 8 by omega)]; simp))
    clear hl
    go_enter Try.func29, Try.ntmps29
    go_wp2
    go_ret
    exact ⟨ret_bool hR2.out.symm, Below.refl _ _⟩
  have h8' : n ≤ 8 := by omega
  have q8 : decide (8 < n) = false := decide_eq_false h8
  have HL := Lib.hid hl
  obtain ⟨b, off, rfl, hbB, hc⟩ := hl.2 (by omega)
  have c0 := hc 0 (by omega)
  have c1 := hc (n - 1) (by omega)
  rw [Nat.add_zero] at c0
  clear hl hc
  have b0 : (0 : Int) < (n : Int) := by omega
  have b1 : (0 : Int) ≤ (n : Int) - 1 := by omega
  have hP := Lib.hid (pairs_any (some ⟨b, off, none⟩) n c l w HL.out h0' (by omega))
  have hN := Lib.hid (Tab.nb_len l (n - 1))
  generalize Tab.nb l (n - 1) = F at *
  generalize Tab.ai l 0 = x at *
  generalize Tab.ai l (n - 1) = y at *
  by_cases hx : x < -1000000
  · have hR2 : Hid (Tab.rising l = false) := Lib.hid (hR.out.trans (by rw [decide_eq_false (show ¬ -1000000 ≤ x by omega)]; simp))
    go_enter Try.func29, Try.ntmps29
    go_wp2
    go_ret
    exact ⟨ret_bool hR2.out.symm, Below.refl _ _⟩
  have qx : decide (x < -1000000) = false := decide_eq_false hx
  by_cases hy : 1000000 < y
  · have hR2 : Hid (Tab.rising l = false) := Lib.hid (hR.out.trans (by rw [decide_eq_false (show ¬ y ≤ 1000000 by omega)]; simp))
    go_enter Try.func29, Try.ntmps29
    go_wp2
    go_ret
    exact ⟨ret_bool hR2.out.symm, Below.refl _ _⟩
  have qy : decide (1000000 < y) = false := decide_eq_false hy
  have hR2 : Hid (Tab.rising l = F.all Tab.lt2) := Lib.hid (hR.out.trans (by rw [decide_eq_true h0', decide_eq_true h8', decide_eq_true (show -1000000 ≤ x by omega), decide_eq_true (show y ≤ 1000000 by omega)]; rfl))
  go_enter Try.func29, Try.ntmps29
  go_wp2_with fail
  refine hP.out.mono ?_
  rintro e w1 ⟨v, rfl, hown, hb1⟩
  obtain ⟨A2, c2, rfl, hlq⟩ := hown.lq hN.out
  have HQ := Lib.hid hlq
  clear hlq hown
  go_wp2_with fail
  refine (all2_any A2 (n - 1) c2 F w1 HQ.out (by omega)).mono ?_
  rintro e w2 ⟨rfl, hb2⟩
  have hb := Below.go hb1 hb2
  clear hb1 hb2
  go_wp2
  go_ret
  exact ⟨ret_bool hR2.out.symm, hb⟩
/-- rows of integers in memory -/
def Lr (B : Nat) (W : World) (A : Option Addr) (n : Nat) (rs : List (List Int)) : Prop :=
  rs.length = n ∧ (0 < n → ∃ b off, A = some ⟨b, off, none⟩ ∧ b < B ∧ ∀ j, j < n → ∃ (A' : Option Addr) (m c : Nat), W.cell? ⟨b, off + j, none⟩ = some (.slice A' m c) ∧ Li B W A' m (Tab.row rs j) ∧ m ≤ c ∧ c ≤ 9223372036854775807)
theorem Lr.below {B : Nat} {W W' : World} {A : Option Addr} {n : Nat} {l : List (List Int)} (h : Lr B W A n l) (hb : Below B W W') : Lr B W' A n l :=
  ⟨h.1, fun hn => by
    obtain ⟨b, off, e, hB, hc⟩ := h.2 hn
    refine ⟨b, off, e, hB, fun j hj => ?_⟩
    obtain ⟨A', m, c, h1, h2, h3⟩ := hc j hj
    exact ⟨A', m, c, (hb.cell (p := ⟨b, off + j, none⟩) hB).trans h1, h2.below hb, h3⟩⟩
theorem Lr.mono {B B' : Nat} {W : World} {A : Option Addr} {n : Nat} {l : List (List Int)} (h : Lr B W A n l) (hB : B ≤ B') : Lr B' W A n l :=
  ⟨h.1, fun hn => by
    obtain ⟨b, off, e, hb, hc⟩ := h.2 hn
    refine ⟨b, off, e, by omega, fun j hj => ?_⟩
    obtain ⟨A', m, c, h1, h2, h3⟩ := hc j hj
    exact ⟨A', m, c, h1, h2.mono hB, h3⟩⟩
theorem okR_eq {n m : Nat} {l : List Int} (h : l.length = n) : Tab.okR m l = (decide (n = m) && l.all Drm.rB) := by unfold Tab.okR; rw [h]
set_option maxHeartbeats 2000000 in
theorem valid1_any (A : Option Addr) (n c : Nat) (l : List Int) (bt : Nat) (A2 : Option Addr) (n2 c2 : Nat) (w : World) (hl : Li w.heap.size w A n l) (hn : n ≤ 9223372036854775807) (hn2 : n2 ≤ 9223372036854775807) (ht : w.cell? ⟨bt, 1, none⟩ = some (.slice A2 n2 c2)) :
    Calls Try.prog 31 #[.slice A n c, .pointer (some ⟨bt, 0, none⟩)] w (RetB (.bool (Tab.okR n2 l)) w) := by
  have hR := Lib.hid (okR_eq (m := n2) hl.1)
  have HL := Lib.hid hl
  clear hl
  by_cases h : n = n2
  · have q : ((n : Int) == (n2 : Int)) = true := by simp; omega
    have hR2 : Hid (Tab.okR n2 l = l.all Drm.rB) := Lib.hid (hR.out.trans (by rw [decide_eq_true h]; rfl))
    clear h
    go_enter Try.func31, Try.ntmps31
    go_wp2_with fail
    refine (allB_any A n c l w HL.out hn).mono ?_
    rintro e w1 ⟨rfl, hb1⟩
    go_wp2
    go_ret
    exact ⟨ret_bool hR2.out.symm, hb1⟩
  · have q : ((n : Int) == (n2 : Int)) = false := by simp; omega
    have q2 : decide (n = n2) = false := decide_eq_false h
    have hR2 : Hid (Tab.okR n2 l = false) := Lib.hid (hR.out.trans (by rw [decide_eq_false h]; rfl))
    go_enter Try.func31, Try.ntmps31
    go_wp2
    go_ret
    exact ⟨ret_bool hR2.out.symm, Below.refl _ _⟩
end Go.Proofs.Ytlmdjkkeocmehaa
