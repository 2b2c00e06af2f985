/- The contract of the reference's Same. -/
import Derived.Test.YtfaceopjblpkeaaLeH
import Derived.Laws.StructEq
set_option linter.unusedVariables false
namespace Go.Proofs.Ytfaceopjblpkeaa
open Go.RowKit
theorem at_ext {a b : List Lem.T3} {n : Nat} (h1 : a.length = n) (h2 : b.length = n) (h : ∀ j, j < n → Lem.at' a j = Lem.at' b j) : a = b := by
  apply List.ext_getElem (by omega)
  intro i hi1 hi2
  have := h i (by omega)
  unfold Lem.at' at this
  simpa [List.getElem?_eq_getElem hi1, List.getElem?_eq_getElem hi2] using this
theorem at_ne {a b : List Lem.T3} {k : Nat} (h : Lem.at' a k ≠ Lem.at' b k) : a ≠ b := fun e => h (by rw [e])
def sameB (a b : List Lem.T3) : Bool := decide (a = b)
set_option maxHeartbeats 2000000 in
set_option maxRecDepth 100000 in
theorem Same_any (A1 : Option Addr) (n1 c1' : Nat) (a : List Lem.T3) (A2 : Option Addr) (n2 c2' : Nat) (b : List Lem.T3) (w : World) (h1 : Ls w.heap.size w A1 n1 a) (h2 : Ls w.heap.size w A2 n2 b) (hn1 : n1 ≤ 71) (hn2 : n2 ≤ 71) :
    Calls Try.prog 15 #[.slice A1 n1 c1', .slice A2 n2 c2'] w (RetB (.bool (sameB a b)) w) := by
  obtain ⟨hl1, hc1⟩ := h1
  obtain ⟨hl2, hc2⟩ := h2
  by_cases hne : n1 = n2
  rotate_left
  · have hq : ((n1 : Int) != (n2 : Int)) = true := by simp; omega
    have hz : Hid (sameB a b = false) := Lib.hid (decide_eq_false (fun e => hne (by rw [← hl1, ← hl2, e])))
    clear hl1 hl2 hc1 hc2 hne
    go_enter Try.func15, Try.ntmps15
    go_wp2
    go_ret
    exact ⟨ret_bool hz.out.symm, Below.refl _ _⟩
  · subst hne
    have hq : ((n1 : Int) != (n1 : Int)) = false := by simp
    have Hl1 := Lib.hid hl1
    have Hl2 := Lib.hid hl2
    clear hl1 hl2
    go_enter Try.func15, Try.ntmps15
    go_wp2
    go_loopw [5] (fun i wr => ∃ k : Nat, k ≤ n1 ∧ i = .int .i64 k ∧ Hid (∀ j, j < k → Lem.at' a j = Lem.at' b j) ∧ Below w.heap.size w wr) (fun i _ => n1 - (intOf i).toNat)
    case atStart => exact ⟨0, Nat.zero_le _, rfl, Lib.hid (fun j hj => absurd hj (by omega)), Below.refl _ _⟩
    case round =>
      obtain ⟨k, hk, rfl, hv, hb⟩ := hrel
      by_cases hlt : k < n1
      · obtain ⟨b1, off1, rfl, hB1, hd1⟩ := hc1 (by omega)
        obtain ⟨b2, off2, rfl, hB2, hd2⟩ := hc2 (by omega)
        obtain ⟨d0, d1, d2⟩ := hd1 k hlt
        obtain ⟨e0, e1, e2⟩ := hd2 k hlt
        have d0 := (hb.cell (p := ⟨b1, off1 + k * 3, none⟩) hB1).trans d0
        have d1 := (hb.cell (p := ⟨b1, off1 + k * 3 + 1, none⟩) hB1).trans d1
        have d2 := (hb.cell (p := ⟨b1, off1 + k * 3 + 2, none⟩) hB1).trans d2
        have e0 := (hb.cell (p := ⟨b2, off2 + k * 3, none⟩) hB2).trans e0
        have e1 := (hb.cell (p := ⟨b2, off2 + k * 3 + 1, none⟩) hB2).trans e1
        have e2 := (hb.cell (p := ⟨b2, off2 + k * 3 + 2, none⟩) hB2).trans e2
        have hno := Lib.hid (fun h => decide_eq_false (at_ne (a := a) (b := b) (k := k) h) : Lem.at' a k ≠ Lem.at' b k → sameB a b = false)
        have hyes : Hid (Lem.at' a k = Lem.at' b k → ∀ j, j < k + 1 → Lem.at' a j = Lem.at' b j) := Lib.hid (fun h j hj => by
          by_cases ej : j = k
          · rw [ej]; exact h
          · exact hv.out j (by omega))
        have g0 : (0 : Int) ≤ (k : Int) := by omega
        have g1 : (k : Int) < (n1 : Int) := by omega
        clear hd1 hd2 hc1 hc2
        generalize Lem.at' a k = x at *
        generalize Lem.at' b k = y at *
        obtain ⟨x0, x1, x2⟩ := x
        obtain ⟨y0, y1, y2⟩ := y
        by_cases q0 : x0 = y0
        · by_cases q1 : x1 = y1
          · by_cases q2 : x2 = y2
            · subst q0 q1 q2
              have hy2 := Lib.hid (hyes.out rfl)
              clear hyes hno
              go_wp2
              go_quiet (fail)
              go_wp2
              go_roundw
              case rel => exact ⟨k + 1, by omega, by go_num, hy2, below_drewN hb _⟩
              case measure => simp [intOf]; omega
            · subst q0 q1
              have p2 : (x2 == y2) = false := by simpa using q2
              go_wp2
              go_quiet (fail)
              go_wp2
              go_ret
              exact ⟨ret_bool (hno.out (by simp [q2])).symm, below_drewN hb _⟩
          · subst q0
            have p1 : (x1 == y1) = false := by simpa using q1
            go_wp2
            go_quiet (fail)
            go_wp2
            all_goals go_ret
            all_goals exact ⟨ret_bool (hno.out (by simp [q1])).symm, below_drewN hb _⟩
        · have p0 : (x0 == y0) = false := by simpa using q0
          go_wp2
          go_quiet (fail)
          go_wp2
          all_goals go_ret
          all_goals exact ⟨ret_bool (hno.out (by simp [q0])).symm, below_drewN hb _⟩
      · obtain rfl : k = n1 := by omega
        have hz : Hid (sameB a b = true) := Lib.hid (decide_eq_true (at_ext Hl1.out Hl2.out hv.out))
        go_wp2
        go_ret
        exact ⟨ret_bool hz.out.symm, hb⟩
end Go.Proofs.Ytfaceopjblpkeaa
