/- The contracts of the reference's To, Inside, Apart and From: the same plain values; nothing that was there has changed. -/
import Derived.Test.YtcabegloipllhaaSmH
set_option linter.unusedVariables false
namespace Go.Proofs.Ytcabegloipllhaa
open Go.RowKit
set_option maxHeartbeats 1000000 in
theorem rday_any (A : Option Addr) (n c : Nat) (l : Lpm.LL) (h t : Int) (w : World) (hl : Lp w.heap.size w A n l) (hn : n ≤ 110) : Calls Try.prog 27 #[.slice A n c, .int .i64 h, .int .i64 t] w (RetB (.int .i64 (Smm.toE l h t)) w) := by
  have hC := Lib.hid (rCan_any A n c l h w hl hn)
  have hD : Hid (∀ W, Below w.heap.size w W → Calls Try.prog 23 #[.slice A n c, .int .i64 t] W (RetB (.tuple #[.int .i64 (Lpm.dV l t), .int .i64 (Lpm.dE l t)]) W)) := Lib.hid fun W hW => refDay_c (hl.below hW) hW.size hn (Below.refl _ _)
  cases hc : Smm.can l h
  · rw [hc] at hC
    have hz : Hid (Smm.toE l h t = 1) := Lib.hid (Smm.to_bad hc).1
    go_enter Try.func27, Try.ntmps27
    go_wp2_with fail
    refine hC.out.mono ?_
    rintro e w1 ⟨rfl, hb1⟩
    go_wp2
    go_ret
    exact ⟨ret_int hz.out.symm, hb1⟩
  · rw [hc] at hC
    have hz : Hid (Smm.toE l h t = Lpm.dE l t) := Lib.hid (by unfold Smm.toE; rw [hc]; rfl)
    go_enter Try.func27, Try.ntmps27
    go_wp2_with fail
    refine hC.out.mono ?_
    rintro e w1 ⟨rfl, hb1⟩
    go_wp2_with fail
    refine (hD.out _ hb1).mono ?_
    rintro e w2 ⟨rfl, hb2⟩
    go_wp2
    go_ret
    exact ⟨ret_int hz.out.symm, Below.go hb1 hb2⟩
theorem toE_zero {l : Lpm.LL} {h t : Int} (e : Smm.toE l h t = 0) : Smm.can l h = true ∧ Lpm.dE l t = 0 := by
  cases hc : Smm.can l h
  · have := (Smm.to_bad (t := t) hc).1; omega
  · by_cases hd : Lpm.dE l t = 0
    · exact ⟨rfl, hd⟩
    · have := (Smm.to_far hc hd).1; omega
theorem toE_far {l : Lpm.LL} {h t : Int} (e : Smm.toE l h t ≠ 0) : Smm.toV l h t = 0 ∧ Smm.inV l h t = false ∧ Smm.apV l h t = 0 := by
  cases hc : Smm.can l h
  · have := Smm.to_bad (t := t) hc; exact ⟨this.2.1, this.2.2.2.1, this.2.2.2.2⟩
  · by_cases hd : Lpm.dE l t = 0
    · exact absurd (Smm.to_all hc hd).1 e
    · have := Smm.to_far hc hd; exact ⟨this.2.1, this.2.2.2.1, this.2.2.2.2⟩
set_option maxHeartbeats 1000000 in
theorem rInside_any (A : Option Addr) (n c : Nat) (l : Lpm.LL) (h t : Int) (w : World) (hl : Lp w.heap.size w A n l) (hn : n ≤ 110) : Calls Try.prog 16 #[.slice A n c, .int .i64 h, .int .i64 t] w (RetB (.tuple #[.bool (Smm.inV l h t), .int .i64 (Smm.toE l h t)]) w) := by
  have hD := Lib.hid (rday_any A n c l h t w hl hn)
  by_cases hE : Smm.toE l h t = 0
  · obtain ⟨hc, hd⟩ := toE_zero hE
    have C := Smm.can_yes hc
    have z := (Smm.to_all hc hd).2.2.2.1
    have hW : Hid (∀ W, Below w.heap.size w W → Calls Try.prog 21 #[.slice A n c, .int .i64 h, .int .i64 t] W (RetB (.int .i64 (Smm.wiI l h t)) W)) := Lib.hid fun W hW => rWin_any A n c l h t W ((hl.below hW).mono hW.size) hn C.v C.h1 C.h2
    have hI : Hid (decide (0 ≤ Smm.wiI l h t) = Smm.inV l h t) := Lib.hid (by
      rw [z]; unfold Smm.wiI
      cases Smm.wi l h t <;> simp)
    rw [hE] at hD ⊢
    clear hE z
    generalize Smm.wiI l h t = I at *
    generalize Smm.inV l h t = B at *
    go_enter Try.func16, Try.ntmps16
    go_wp2_with fail
    refine hD.out.mono ?_
    rintro e w1 ⟨rfl, hb1⟩
    go_wp2_with fail
    refine (hW.out _ hb1).mono ?_
    rintro e w2 ⟨rfl, hb2⟩
    go_wp2
    go_ret2
    exact ⟨ret_bi hI.out rfl, Below.go hb1 hb2⟩
  · have hz := Lib.hid (toE_far hE).2.1
    have hne := bne_of hE
    generalize Smm.toE l h t = E at *
    go_enter Try.func16, Try.ntmps16
    go_wp2_with fail
    refine hD.out.mono ?_
    rintro e w1 ⟨rfl, hb1⟩
    go_wp2
    go_ret2
    exact ⟨ret_bi hz.out.symm rfl, hb1⟩
namespace Smm
def cv (l : Lpm.LL) (t : Int) : Prop := True
noncomputable def civ (l : Lpm.LL) (t : Int) : Int := t - 1000000 * Lpm.ofs l (Lpm.dayNo l t)
/-- civil time at the beginning of a window -/
theorem civ_begin {l : Lpm.LL} {h : Int} (c : Can l h) {k : Nat} (hk : k < l.length) : 0 ≤ mid l k - h ∧ mid l k - h < fin l ∧ civ l (mid l k - h) = mid l k - h - 1000000 * os l k := by
  have hm := mid_bd c.v hk
  have he := end_bd c.v
  have hf : fin l = Lpm.start l 34001 := rfl
  have h1 := c.h1
  have h2 := c.h2
  refine ⟨by omega, by omega, ?_⟩
  unfold civ
  rw [ofs_at c.v (by omega) (by omega) (show k ≤ l.length by omega) (fun j hj => by have := c.le hj hk; omega) (fun _ => by omega)]
end Smm
set_option maxHeartbeats 1000000 in
theorem rcivil_any (A : Option Addr) (n c : Nat) (l : Lpm.LL) (t : Int) (w : World) (hl : Lp w.heap.size w A n l) (hn : n ≤ 110) (hv : Lpm.valid l = true) (h0 : 0 ≤ t) (h1 : t < Smm.fin l) : Calls Try.prog 29 #[.slice A n c, .int .i64 t] w (RetB (.int .i64 (Smm.civ l t)) w) := by
  have hO := Lib.hid (rOffset_ok w.heap.size A n c l t w hl (Nat.le_refl _) hn hv h0 h1)
  have hz : Hid (Smm.civ l t = t - 1000000 * Lpm.ofs l (Lpm.dayNo l t)) := Lib.hid rfl
  have hob := Lpm.ofs_bd (day := Lpm.dayNo l t) hv
  have he := Smm.end_bd hv
  have hf : Smm.fin l = Lpm.start l 34001 := rfl
  have t1 : t ≤ 3000000000000000 := by omega
  clear hf he h1
  generalize Lpm.ofs l (Lpm.dayNo l t) = O at *
  go_enter Try.func29, Try.ntmps29
  go_wp2_with fail
  refine hO.out.mono ?_
  rintro e w1 ⟨rfl, hb1⟩
  go_wp2
  go_ret
  exact ⟨ret_int hz.out.symm, hb1⟩
set_option maxHeartbeats 2000000 in
theorem rsmeared_any (A : Option Addr) (n c : Nat) (l : Lpm.LL) (h t : Int) (w : World) (hl : Lp w.heap.size w A n l) (hn : n ≤ 110) (hc : Smm.Can l h) (h0 : 0 ≤ t) (h1 : t < Smm.fin l) : Calls Try.prog 28 #[.slice A n c, .int .i64 h, .int .i64 t] w (RetB (.int .i64 (Smm.smV l h t)) w) := by
  have hW := Lib.hid (rWin_any A n c l h t w hl hn hc.v hc.h1 hc.h2)
  have hCv : Hid (∀ W u, Below w.heap.size w W → 0 ≤ u → u < Smm.fin l → Calls Try.prog 29 #[.slice A n c, .int .i64 u] W (RetB (.int .i64 (Smm.civ l u)) W)) := Lib.hid fun W u hW u0 u1 => rcivil_any A n c l u W ((hl.below hW).mono hW.size) hn hc.v u0 u1
  cases hw : Smm.wi l h t with
  | none =>
    have hI : Smm.wiI l h t = -1 := by unfold Smm.wiI; rw [hw]
    have hz : Hid (Smm.smV l h t = Smm.civ l t) := Lib.hid (Smm.smV_none hw)
    have hC1 := Lib.hid (fun W hW => hCv.out W t hW h0 h1)
    rw [hI] at hW
    go_enter Try.func28, Try.ntmps28
    go_wp2_with fail
    refine hW.out.mono ?_
    rintro e w1 ⟨rfl, hb1⟩
    go_wp2_with fail
    refine (hC1.out _ hb1).mono ?_
    rintro e w2 ⟨rfl, hb2⟩
    go_wp2
    go_ret
    exact ⟨ret_int hz.out.symm, Below.go hb1 hb2⟩
  | some k =>
    have hI : Smm.wiI l h t = (k : Int) := by unfold Smm.wiI; rw [hw]
    obtain ⟨hk, i1, i2⟩ := Smm.wi_some hw
    have hz : Hid (Smm.smV l h t = Smm.mid l k - h - 1000000 * Smm.os l k + (t - (Smm.mid l k - h)) - Smm.adj h (Smm.el l k).2 (t - (Smm.mid l k - h))) := Lib.hid (Smm.smV_some hw)
    obtain ⟨b0, b1, b2⟩ := Smm.civ_begin hc hk
    have hC1 : Hid (∀ W, Below w.heap.size w W → Calls Try.prog 29 #[.slice A n c, .int .i64 (Smm.mid l k - h)] W (RetB (.int .i64 (Smm.mid l k - h - 1000000 * Smm.os l k)) W)) := Lib.hid fun W hW => by rw [← b2]; exact hCv.out W _ hW b0 b1
    have hkn : k < n := by rw [← hl.1]; exact hk
    have hM : Hid (∀ W, Below w.heap.size w W → Calls Try.prog 22 #[.slice A n c, .int .i64 (k : Int)] W (RetB (.int .i64 (Smm.mid l k)) W)) := Lib.hid fun W hW => rMid_any A n c l k W ((hl.below hW).mono hW.size) hn hc.v hkn
    obtain ⟨b, off, rfl, hbB, hcl⟩ := hl.2 (by omega)
    have HC : Hid (∀ W, Below w.heap.size w W → W.cell? ⟨b, off + k * 2 + 1, none⟩ = some (.int .i64 (Smm.el l k).2)) := Lib.hid fun W hW => (hW.cell (p := ⟨b, off + k * 2 + 1, none⟩) hbB).trans (hcl k hkn).2
    have hmd := Smm.mid_bd hc.v hk
    have hme := Smm.end_bd hc.v
    have hob := Smm.os_bd hc.v k
    have hh1 := hc.h1
    have hh2 := hc.h2
    obtain ⟨m1, m2, m3, m4, m5, m6, m7, m8⟩ := smeared_math (x := t - (Smm.mid l k - h)) hh1 (by omega) (by omega) hh2
    have M7 := Lib.hid m7
    have M8 := Lib.hid m8
    have hs := (Smm.el_mem hc.v hk).2.2
    rw [hI] at hW
    clear hCv hw hcl hl hI m7 m8 b2 hc
    generalize Smm.os l k = O at *
    generalize (Smm.el l k).2 = s at *
    have j0 : (0 : Int) ≤ (k : Int) := by omega
    have j1 : (k : Int) < (n : Int) := by omega
    have j2 : decide ((k : Int) < 0) = false := decide_eq_false (by omega)
    obtain ⟨M, hMM⟩ : ∃ M, Smm.mid l k = M := ⟨_, rfl⟩
    rw [hMM] at m1 m2 m3 m4 m5 m6 M7 M8 hz b0 b1 hC1 hM hmd i1 i2
    obtain ⟨X, hX⟩ : ∃ X, t - (M - h) = X := ⟨_, rfl⟩
    rw [hX] at m1 m2 m3 m4 m5 m6 M7 M8 hz
    have x0 : 0 ≤ X := by omega
    have x1 : X < 2 * h := by omega
    obtain ⟨q, hq⟩ : ∃ q, X * 1000000 / (2 * h) = q := ⟨_, rfl⟩
    obtain ⟨r, hr⟩ : ∃ r, X * 1000000 % (2 * h) = r := ⟨_, rfl⟩
    rw [hq] at m1 m3 m4 M7 M8
    rw [hr] at m2 m5 m6 M7
    have hz1 : (2 * h == 0) = false := by simp; omega
    have hz2 : ¬ 2 * h = 0 := by omega
    have hz3 : ¬ h = 0 := by omega
    have w1 : IntKind.i64.wrap (X * 1000000) = X * 1000000 := IntWalk.i64_in _ (by omega)
    have w2 : IntKind.i64.wrap (2 * h) = 2 * h := IntWalk.i64_in _ (by omega)
    have w3 : IntKind.i64.wrap q = q := IntWalk.i64_in _ (by omega)
    have w4 : IntKind.i64.wrap r = r := IntWalk.i64_in _ (by omega)
    clear hq hr hMM
    rcases hs with rfl | rfl
    · by_cases hp : 0 < r
      · have q1 : decide (0 < r) = true := decide_eq_true hp
        have hv : Hid (Smm.smV l h t = M - h - 1000000 * O + X - (q + 1)) := Lib.hid (by rw [hz.out, M7.out, if_pos hp])
        go_enter Try.func28, Try.ntmps28
        go_wp2_with fail
        refine hW.out.mono ?_
        rintro e w1 ⟨rfl, hb1⟩
        go_wp2_with fail
        refine (hM.out _ hb1).mono ?_
        rintro e w2 ⟨rfl, hb2⟩
        have hb12 := Below.go hb1 hb2
        have c2 := HC.out _ hb12
        go_wp2_with fail
        refine (hC1.out _ hb12).mono ?_
        rintro e w3 ⟨rfl, hb3⟩
        go_wp2
        go_ret
        exact ⟨ret_int hv.out.symm, Below.go hb12 hb3⟩
      · have q1 : decide (0 < r) = false := decide_eq_false hp
        have hv : Hid (Smm.smV l h t = M - h - 1000000 * O + X - q) := Lib.hid (by rw [hz.out, M7.out, if_neg hp]; omega)
        go_enter Try.func28, Try.ntmps28
        go_wp2_with fail
        refine hW.out.mono ?_
        rintro e w1 ⟨rfl, hb1⟩
        go_wp2_with fail
        refine (hM.out _ hb1).mono ?_
        rintro e w2 ⟨rfl, hb2⟩
        have hb12 := Below.go hb1 hb2
        have c2 := HC.out _ hb12
        go_wp2_with fail
        refine (hC1.out _ hb12).mono ?_
        rintro e w3 ⟨rfl, hb3⟩
        go_wp2
        go_ret
        exact ⟨ret_int hv.out.symm, Below.go hb12 hb3⟩
    · have hv : Hid (Smm.smV l h t = M - h - 1000000 * O + X + q) := Lib.hid (by rw [hz.out, M8.out]; omega)
      go_enter Try.func28, Try.ntmps28
      go_wp2_with fail
      refine hW.out.mono ?_
      rintro e w1 ⟨rfl, hb1⟩
      go_wp2_with fail
      refine (hM.out _ hb1).mono ?_
      rintro e w2 ⟨rfl, hb2⟩
      have hb12 := Below.go hb1 hb2
      have c2 := HC.out _ hb12
      go_wp2_with fail
      refine (hC1.out _ hb12).mono ?_
      rintro e w3 ⟨rfl, hb3⟩
      go_wp2
      go_ret
      exact ⟨ret_int hv.out.symm, Below.go hb12 hb3⟩
end Go.Proofs.Ytcabegloipllhaa
