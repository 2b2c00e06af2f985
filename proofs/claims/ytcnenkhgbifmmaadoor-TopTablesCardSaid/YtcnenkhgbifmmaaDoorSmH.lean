/- The contracts of the reference's functions of chapter 19: the same plain values; nothing that was there has changed. -/
import Derived.Test.YtcnenkhgbifmmaaDoorSmG
set_option linter.unusedVariables false
namespace Go.Proofs.YtcnenkhgbifmmaaDoor
open Go.RowKit
theorem rStart_ok (B : Nat) (A : Option Addr) (n c : Nat) (l : Lpm.LL) (day : Int) (w : World) (hl : Lp B w A n l) (hB : B ≤ w.heap.size) (hn : n ≤ 110) (hv : Lpm.valid l = true) (h0 : 0 ≤ day) (h1 : day ≤ 34000) :
    Calls Tryd.prog 56 #[.slice A n c, .int .i64 day] w (RetB (.tuple #[.int .i64 (Lpm.start l day), .int .i64 0]) w) := by
  have h := refStart_c (day := day) hl hB hn (Below.refl w.heap.size w) (c := c)
  obtain ⟨e1, e2, -⟩ := Lpm.st_yes hv h0 h1
  rw [e1, e2] at h; exact h
set_option maxHeartbeats 1000000 in
theorem rMid_any (A : Option Addr) (n c : Nat) (l : Lpm.LL) (k : Nat) (w : World) (hl : Lp w.heap.size w A n l) (hn : n ≤ 110) (hv : Lpm.valid l = true) (hk : k < n) : Calls Tryd.prog 39 #[.slice A n c, .int .i64 (k : Int)] w (RetB (.int .i64 (Smm.mid l k)) w) := by
  obtain ⟨b, off, rfl, hbB, hc⟩ := hl.2 (by omega)
  have c0 := (hc k hk).1
  have hel := Smm.el_mem hv (k := k) (by rw [hl.1]; exact hk)
  have e0 : l[k]?.getD (0, 0) = Smm.el l k := rfl
  rw [e0] at c0
  have hS := Lib.hid (rStart_ok w.heap.size (some ⟨b, off, none⟩) n c l ((Smm.el l k).1 + 1) w hl (Nat.le_refl _) hn hv (by omega) (by omega))
  have hm : Hid (Smm.mid l k = Lpm.start l ((Smm.el l k).1 + 1)) := Lib.hid rfl
  rw [← hm.out] at hS
  obtain ⟨d0, d1, -⟩ := hel
  have j0 : (0 : Int) ≤ (k : Int) := by omega
  have j1 : (k : Int) < (n : Int) := by omega
  clear hc e0 hm
  generalize Smm.mid l k = M at *
  generalize (Smm.el l k).1 = d at *
  go_enter Tryd.func39, Tryd.ntmps39
  go_wp2_with fail
  refine hS.out.mono ?_
  rintro e w1 ⟨rfl, hb1⟩
  go_wp2
  go_ret
  exact ⟨rfl, hb1⟩
theorem rcan_ways (l : Lpm.LL) (h : Int) : (Lpm.valid l = false) ∨ (Lpm.valid l = true ∧ h < 1000000) ∨ (Lpm.valid l = true ∧ 1000000 ≤ h ∧ 43200000000 < h) ∨ (Lpm.valid l = true ∧ 1000000 ≤ h ∧ h ≤ 43200000000) := by
  cases hv : Lpm.valid l
  · exact .inl rfl
  · rcases half_ways h with e | e | e
    · exact .inr (.inl ⟨rfl, e⟩)
    · exact .inr (.inr (.inl ⟨rfl, e⟩))
    · exact .inr (.inr (.inr ⟨rfl, e⟩))
set_option maxHeartbeats 2000000 in
theorem rCan_any (A : Option Addr) (n c : Nat) (l : Lpm.LL) (h : Int) (w : World) (hl : Lp w.heap.size w A n l) (hn : n ≤ 110) : Calls Tryd.prog 17 #[.slice A n c, .int .i64 h] w (RetB (.bool (Smm.can l h)) w) := by
  have hV := Lib.hid (refValid_any w.heap.size A n c l w hl (Nat.le_refl _) hn)
  have hno : Hid (¬ (Lpm.valid l = true ∧ 1000000 ≤ h ∧ h ≤ 43200000000) → Smm.can l h = false) := Lib.hid can_false
  rcases rcan_ways l h with hv | ⟨hv, h1⟩ | ⟨hv, h1, h2⟩ | ⟨hv, h1, h2⟩
  · have hz := Lib.hid (hno.out (by rw [hv]; simp))
    rw [hv] at hV
    go_enter Tryd.func17, Tryd.ntmps17
    go_wp2_with fail
    refine hV.out.mono ?_
    rintro e w1 ⟨rfl, hb1⟩
    go_wp2
    go_ret
    exact ⟨ret_bool hz.out.symm, hb1⟩
  · have hz := Lib.hid (hno.out (by omega))
    rw [hv] at hV
    go_enter Tryd.func17, Tryd.ntmps17
    go_wp2_with fail
    refine hV.out.mono ?_
    rintro e w1 ⟨rfl, hb1⟩
    go_wp2
    go_ret
    exact ⟨ret_bool hz.out.symm, hb1⟩
  · have hz := Lib.hid (hno.out (by omega))
    rw [hv] at hV
    go_enter Tryd.func17, Tryd.ntmps17
    go_wp2_with fail
    refine hV.out.mono ?_
    rintro e w1 ⟨rfl, hb1⟩
    go_wp2
    go_ret
    exact ⟨ret_bool hz.out.symm, hb1⟩
  · rw [hv] at hV
    have HV := Lib.hid hv
    have hM : Hid (∀ W k, Below w.heap.size w W → k < n → Calls Tryd.prog 39 #[.slice A n c, .int .i64 ((k : Nat) : Int)] W (RetB (.int .i64 (Smm.mid l k)) W)) := Lib.hid fun W k hW hk => rMid_any A n c l k W ((hl.below hW).mono hW.size) hn hv hk
    have hlen := Lib.hid hl.1
    have u1 : decide (h < 1000000) = false := decide_eq_false (by omega)
    have u2 : decide (43200000000 < h) = false := decide_eq_false (by omega)
    clear hv hl hno
    go_enter Tryd.func17, Tryd.ntmps17
    go_wp2_with fail
    refine hV.out.mono ?_
    rintro e w1 ⟨rfl, hb1⟩
    go_wp2
    go_loopw [6] (fun i wr => ∃ k : Nat, 1 ≤ k ∧ (k ≤ n ∨ k = 1) ∧ i = .int .i64 k ∧ Hid (∀ j, j + 1 < k → Smm.mid l j + h ≤ Smm.mid l (j + 1) - h) ∧ Below w.heap.size w wr) (fun i _ => n - (intOf i).toNat)
    case atStart => exact ⟨1, by omega, .inr rfl, rfl, Lib.hid (fun j hj => by omega), hb1⟩
    case round =>
      obtain ⟨k, hk1, hk, rfl, hv, hb⟩ := hrel
      by_cases hlt : k < n
      · have hm1 := Smm.mid_bd HV.out (k := k) (by rw [hlen.out]; exact hlt)
        have hm2 := Smm.mid_bd HV.out (k := k - 1) (by rw [hlen.out]; omega)
        have hme := Smm.end_bd HV.out
        have hC1 := Lib.hid (fun W hW => hM.out W k hW hlt)
        have hC2 := Lib.hid (fun W hW => hM.out W (k - 1) hW (by omega))
        have ek : ((k - 1 : Nat) : Int) = (k : Int) - 1 := by omega
        rw [ek] at hC2
        have hbad : Hid (¬ (Smm.mid l (k - 1) + h ≤ Smm.mid l k - h) → Smm.can l h = false) := Lib.hid fun q => by
          cases e : Smm.can l h
          · rfl
          · have := (Smm.can_yes e).g (k - 1) (by rw [hlen.out]; omega)
            rw [show k - 1 + 1 = k by omega] at this
            exact absurd this q
        have hgood : Hid (Smm.mid l (k - 1) + h ≤ Smm.mid l k - h → ∀ j, j + 1 < k + 1 → Smm.mid l j + h ≤ Smm.mid l (j + 1) - h) := Lib.hid fun q j hj => by
          rcases Nat.lt_or_ge (j + 1) k with e | e
          · exact hv.out j e
          · obtain rfl : j = k - 1 := by omega
            rw [show k - 1 + 1 = k by omega]; exact q
        clear ek
        generalize Smm.mid l (k - 1) = P at *
        generalize Smm.mid l k = Q at *
        have j1 : decide ((k : Int) < (n : Int)) = true := decide_eq_true (by omega)
        by_cases hc : P + h ≤ Q - h
        · have hg := Lib.hid (hgood.out hc)
          have q : decide (Q - h < P + h) = false := decide_eq_false (by omega)
          go_wp2_with fail
          refine (hC1.out _ hb).mono ?_
          rintro e w2 ⟨rfl, hb2⟩
          go_wp2_with fail
          refine (hC2.out _ (Below.go hb hb2)).mono ?_
          rintro e w3 ⟨rfl, hb3⟩
          go_wp2
          go_roundw
          case rel => exact ⟨k + 1, by omega, by omega, by go_num, hg, Below.go (Below.go hb hb2) hb3⟩
          case measure => simp [intOf]; omega
        · have hz := Lib.hid (hbad.out hc)
          have q : decide (Q - h < P + h) = true := decide_eq_true (by omega)
          go_wp2_with fail
          refine (hC1.out _ hb).mono ?_
          rintro e w2 ⟨rfl, hb2⟩
          go_wp2_with fail
          refine (hC2.out _ (Below.go hb hb2)).mono ?_
          rintro e w3 ⟨rfl, hb3⟩
          go_wp2
          go_ret
          exact ⟨ret_bool hz.out.symm, Below.go (Below.go hb hb2) hb3⟩
      · have hz : Hid (Smm.can l h = true) := Lib.hid (Smm.can_mk ⟨HV.out, h1, h2, fun j hj => hv.out j (by have := hlen.out; omega)⟩)
        have j1 : decide ((k : Int) < (n : Int)) = false := decide_eq_false (by omega)
        go_wp2
        go_ret
        exact ⟨ret_bool hz.out.symm, hb⟩
namespace Smm
def wiI (l : Lpm.LL) (h t : Int) : Int := match wi l h t with | some k => (k : Int) | none => -1
end Smm
end Go.Proofs.YtcnenkhgbifmmaaDoor
