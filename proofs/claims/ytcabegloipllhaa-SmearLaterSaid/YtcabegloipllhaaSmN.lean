/- The walk of the law SmearWindow. -/
import Derived.Test.YtcabegloipllhaaSmM
set_option linter.unusedVariables false
namespace Go.Proofs.Ytcabegloipllhaa
open Go.RowKit
set_option maxHeartbeats 2000000 in
set_option maxRecDepth 100000 in
theorem win_bad (A : Option Addr) (n c : Nat) (h u : Int) (w : World) (b : Bool) (hm : n ≤ 9223372036854775807) (hC : Hid (n ≤ 110 → CanC A n c h b w)) (hw : ¬ n ≤ 110 ∨ n ≤ 110 ∧ b = false ∨ n ≤ 110 ∧ b = true ∧ n = 0) : Calls Try.prog 8 #[.slice A n c, .int .i64 h, .int .u8 u] w (LawPost w) := by
  have hb := Below.refl w.heap.size w
  rcases hw with hn | ⟨hn, rfl⟩ | ⟨hn, rfl, hz⟩
  · go_enter Try.func8, Try.ntmps8
    go_wp2_with fail
    refine (head_any _).mono ?_
    rintro e wN ⟨rfl, hn⟩
    have hb := (by first | exact Below.go hb hn | exact Below.goA hb hn | exact Below.goAA hb hn | exact Below.goD hb hn | exact Below.goAD hb hn : Below w.heap.size w wN)
    clear hn
    go_wp2_with fail
    refine (few_no _ _ _ _ hn hm).mono ?_
    rintro e w' ⟨rfl, rfl⟩
    go_wp2
    go_ret
    exact ⟨rfl, hb⟩
  · have hC2 := Lib.hid (hC.out hn)
    go_enter Try.func8, Try.ntmps8
    go_wp2_with fail
    refine (head_any _).mono ?_
    rintro e wN ⟨rfl, hn⟩
    have hb := (by first | exact Below.go hb hn | exact Below.goA hb hn | exact Below.goAA hb hn | exact Below.goD hb hn | exact Below.goAD hb hn : Below w.heap.size w wN)
    clear hn
    go_wp2_with fail
    refine (few_q _ _ _ _ hn).mono ?_
    rintro e w' ⟨rfl, rfl⟩
    go_wp2_with fail
    refine (hC2.out _ hb).mono ?_
    rintro e wN ⟨rfl, hn⟩
    have hb := (by first | exact Below.go hb hn | exact Below.goA hb hn | exact Below.goAA hb hn | exact Below.goD hb hn | exact Below.goAD hb hn : Below w.heap.size w wN)
    clear hn
    go_wp2
    go_ret
    exact ⟨rfl, hb⟩
  · have hC2 := Lib.hid (hC.out hn)
    have q : ((n : Int) == 0) = true := by simp [hz]
    have q2 : (n == 0) = true := by simp [hz]
    clear hz
    go_enter Try.func8, Try.ntmps8
    go_wp2_with fail
    refine (head_any _).mono ?_
    rintro e wN ⟨rfl, hn⟩
    have hb := (by first | exact Below.go hb hn | exact Below.goA hb hn | exact Below.goAA hb hn | exact Below.goD hb hn | exact Below.goAD hb hn : Below w.heap.size w wN)
    clear hn
    go_wp2_with fail
    refine (few_q _ _ _ _ hn).mono ?_
    rintro e w' ⟨rfl, rfl⟩
    go_wp2_with fail
    refine (hC2.out _ hb).mono ?_
    rintro e wN ⟨rfl, hn⟩
    have hb := (by first | exact Below.go hb hn | exact Below.goA hb hn | exact Below.goAA hb hn | exact Below.goD hb hn | exact Below.goAD hb hn : Below w.heap.size w wN)
    clear hn
    go_wp2
    go_ret
    exact ⟨rfl, hb⟩
set_option maxHeartbeats 2000000 in
set_option maxRecDepth 100000 in
theorem win_main (b off n c i : Nat) (h u M SA SB d s : Int) (w : World) (hn : n ≤ 110) (hi : i < n) (u0 : 0 ≤ u) (u1 : u ≤ 255) (hu : u % (n : Int) = (i : Int)) (h0 : 1000000 ≤ h) (h1 : h ≤ 43200000000) (m0 : 0 ≤ M) (m1 : M ≤ 4000000000000000) (a0 : -4000000000000000 ≤ SA ∧ SA ≤ 4000000000000000) (a1 : -4000000000000000 ≤ SB ∧ SB ≤ 4000000000000000) (d0 : 0 ≤ d ∧ d ≤ 40000) (hs : -1 ≤ s ∧ s ≤ 1)
    (hC : Hid (CanC (some ⟨b, off, none⟩) n c h true w)) (hM : Hid (MiC (some ⟨b, off, none⟩) n c (i : Int) M w)) (hA : Hid (ToC (some ⟨b, off, none⟩) n c h (M - h) SA 0 w)) (hB : Hid (ToC (some ⟨b, off, none⟩) n c h (M + h) SB 0 w)) (hP : Hid (ApC (some ⟨b, off, none⟩) n c h M (500000 * s) 0 w))
    (hD : Hid (∀ W, Below w.heap.size w W → Calls Try.prog 23 #[.slice (some ⟨b, off, none⟩) n c, .int .i64 M] W (RetB (.tuple #[.int .i64 (d + 1), .int .i64 0]) W)))
    (HC : Hid (∀ W, Below w.heap.size w W → W.cell? ⟨b, off + i * 2, none⟩ = some (.int .i64 d) ∧ W.cell? ⟨b, off + i * 2 + 1, none⟩ = some (.int .i64 s))) (he : (SB - SA == 2 * h - 1000000 * s) = true) : Calls Try.prog 8 #[.slice (some ⟨b, off, none⟩) n c, .int .i64 h, .int .u8 u] w (LawPost w) := by
  have hb := Below.refl w.heap.size w
  obtain ⟨a00, a01⟩ := a0
  obtain ⟨a10, a11⟩ := a1
  obtain ⟨d00, d01⟩ := d0
  obtain ⟨s0, s1⟩ := hs
  have j0 : (0 : Int) ≤ (i : Int) := by omega
  have j1 : (i : Int) < (n : Int) := by omega
  have q : ((n : Int) == 0) = false := by simp; omega
  have q2 : ¬ (n : Int) = 0 := by omega
  have q3 : (n == 0) = false := by simp; omega
  have q4 : ¬ n = 0 := by omega
  have hu2 : u.tmod (n : Int) = (i : Int) := by rw [Int.tmod_eq_emod_of_nonneg u0]; exact hu
  go_enter Try.func8, Try.ntmps8
  go_wp2_with fail
  refine (head_any _).mono ?_
  rintro e wN ⟨rfl, hn⟩
  have hb := (by first | exact Below.go hb hn | exact Below.goA hb hn | exact Below.goAA hb hn | exact Below.goD hb hn | exact Below.goAD hb hn : Below w.heap.size w wN)
  clear hn
  go_wp2_with fail
  refine (few_q _ _ _ _ hn).mono ?_
  rintro e w' ⟨rfl, rfl⟩
  go_wp2_with fail
  refine (hC.out _ hb).mono ?_
  rintro e wN ⟨rfl, hn⟩
  have hb := (by first | exact Below.go hb hn | exact Below.goA hb hn | exact Below.goAA hb hn | exact Below.goD hb hn | exact Below.goAD hb hn : Below w.heap.size w wN)
  clear hn
  go_wp2_with fail
  refine (hM.out _ hb).mono ?_
  rintro e wN ⟨rfl, hn⟩
  have hb := (by first | exact Below.go hb hn | exact Below.goA hb hn | exact Below.goAA hb hn | exact Below.goD hb hn | exact Below.goAD hb hn : Below w.heap.size w wN)
  clear hn
  go_wp2_with fail
  refine (hA.out _ hb).mono ?_
  rintro e wN ⟨rfl, hn⟩
  have hb := (by first | exact Below.go hb hn | exact Below.goA hb hn | exact Below.goAA hb hn | exact Below.goD hb hn | exact Below.goAD hb hn : Below w.heap.size w wN)
  clear hn
  go_wp2_with fail
  refine (hB.out _ hb).mono ?_
  rintro e wN ⟨rfl, hn⟩
  have hb := (by first | exact Below.go hb hn | exact Below.goA hb hn | exact Below.goAA hb hn | exact Below.goD hb hn | exact Below.goAD hb hn : Below w.heap.size w wN)
  clear hn
  go_wp2_with fail
  refine (hP.out _ hb).mono ?_
  rintro e wN ⟨rfl, hn⟩
  have hb := (by first | exact Below.go hb hn | exact Below.goA hb hn | exact Below.goAA hb hn | exact Below.goD hb hn | exact Below.goAD hb hn : Below w.heap.size w wN)
  clear hn
  go_wp2_with fail
  refine (hD.out _ hb).mono ?_
  rintro e wN ⟨rfl, hn⟩
  have hb := (by first | exact Below.go hb hn | exact Below.goA hb hn | exact Below.goAA hb hn | exact Below.goD hb hn | exact Below.goAD hb hn : Below w.heap.size w wN)
  clear hn
  obtain ⟨c0, c1⟩ := HC.out _ hb
  go_wp2
  go_ret
  exact ⟨by simp; try omega, hb⟩
theorem window_law (v : Value) (l : Lpm.LL) (h u : Int) (w : World) (ht : IsTab w v l) (h1 : (Lit.int .i64 h).wf = true) (h2 : (Lit.int .u8 u).wf = true) : Calls Try.prog 8 #[v, .int .i64 h, .int .u8 u] w (LawPost w) := by
  obtain ⟨A, n, c, rfl, hnc, hcm, hAc, hl⟩ := ht
  obtain ⟨u0, u1⟩ := bounds_u8 h2
  unfold maxLen at hcm
  have HL : Hid (LpC A n l w) := Lib.hid fun W hW => (hl.below hW).mono hW.size
  have hC : n ≤ 110 → CanC A n c h (Smm.can l h) w := fun hn W hW => rCan_any A n c l h W (HL.out W hW) hn
  by_cases hn : n ≤ 110
  rotate_left
  · exact win_bad A n c h u w _ (by omega) (Lib.hid hC) (.inl hn)
  cases hc : Smm.can l h
  · exact win_bad A n c h u w _ (by omega) (Lib.hid hC) (.inr (.inl ⟨hn, hc⟩))
  by_cases hz : n = 0
  · exact win_bad A n c h u w _ (by omega) (Lib.hid hC) (.inr (.inr ⟨hn, hc, hz⟩))
  have C := Smm.can_yes hc
  have hC := hC hn
  rw [hc] at hC
  obtain ⟨i, hi⟩ : ∃ i : Nat, u % (n : Int) = i := ⟨(u % (n : Int)).toNat, by have := Int.emod_nonneg u (b := (n : Int)) (by omega); omega⟩
  have hin : i < n := by have := Int.emod_lt_of_pos u (b := (n : Int)) (by omega); omega
  have hil : i < l.length := by rw [hl.1]; exact hin
  have hfb := Smm.fin_bd C
  have hfe : Smm.fin l = Lpm.start l 34001 := rfl
  obtain ⟨w1, w2, w3, w4, w5⟩ := Smm.window C hil
  have hh1 := C.h1
  have hh2 := C.h2
  have hel := Smm.el_mem C.v hil
  have tA := Smm.to_yes (t := Smm.mid l i - h) C w1 (by omega)
  have tB := Smm.to_yes (t := Smm.mid l i + h) C (by omega) w2
  have tM := Smm.to_all (t := Smm.mid l i) hc ((Smm.dE_zero C.v).2 ⟨by omega, by omega⟩)
  have nA := Smm.sm_near (t := Smm.mid l i - h) C w1 (by omega)
  have nB := Smm.sm_near (t := Smm.mid l i + h) C (by omega) (by omega)
  have dM := Lpm.d_yes (l := l) (t := Smm.mid l i) C.v (by omega) (by omega) (by rw [w5]; omega)
  obtain ⟨b, off, rfl, hbB, hcl⟩ := hl.2 (by omega)
  refine win_main b off n c i h u (Smm.mid l i) (Smm.smV l h (Smm.mid l i - h)) (Smm.smV l h (Smm.mid l i + h)) (Smm.el l i).1 (Smm.el l i).2 w hn hin u0 (by omega) hi hh1 hh2 (by omega) (by omega) (by omega) (by omega) (by omega) (by omega) (Lib.hid hC)
    (Lib.hid fun W hW => rMid_any _ n c l i W (HL.out W hW) hn C.v hin) (Lib.hid fun W hW => ?_) (Lib.hid fun W hW => ?_) (Lib.hid fun W hW => ?_) (Lib.hid fun W hW => ?_)
    (Lib.hid fun W hW => ⟨(hW.cell (p := ⟨b, off + i * 2, none⟩) hbB).trans (hcl i hin).1, (hW.cell (p := ⟨b, off + i * 2 + 1, none⟩) hbB).trans (hcl i hin).2⟩) (by rw [w3]; simp)
  · have := To_any _ n c l h (Smm.mid l i - h) W (HL.out W hW) hn
    rw [tA.1, tA.2] at this; exact this
  · have := To_any _ n c l h (Smm.mid l i + h) W (HL.out W hW) hn
    rw [tB.1, tB.2] at this; exact this
  · have := Apart_any _ n c l h (Smm.mid l i) W (HL.out W hW) hn
    rw [tM.1, tM.2.2.2.2, w4] at this; exact this
  · have := refDay_c (t := Smm.mid l i) (HL.out W hW) (Nat.le_refl _) hn (Below.refl _ _) (c := c)
    rw [dM.1, dM.2.1, w5] at this; exact this
end Go.Proofs.Ytcabegloipllhaa
