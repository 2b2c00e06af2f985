/- The contracts of the reference's Rate, Worst and Several: the same plain values; nothing that was there has changed. -/
import Derived.Test.YtlmdjkkeocmehaaDrQ
set_option linter.unusedVariables false
namespace Go.Proofs.Ytlmdjkkeocmehaa
open Go.RowKit
theorem wB_valid {t : Tab.Tb} {x y : Int} : Tab.wB t x x y y = Tab.valid t := by unfold Tab.wB; rw [decide_eq_true (Int.le_refl x), decide_eq_true (Int.le_refl y)]; simp
set_option maxHeartbeats 2000000 in
set_option maxRecDepth 100000 in
theorem rRate_any (v : TabV) (t : Tab.Tb) (x y : Int) (w : World) (ht : TabIn w v t) : Calls Try.prog 12 #[T3 v, .int .i64 x, .int .i64 y] w (RetB (.tuple #[.int .i64 (Tab.wV t x x y y), .int .i64 (Tab.wE t x x y y)]) w) := by
  have hb0 : Below w.heap.size w (w.alloc (oT v)) := (Below.refl _ _).alloc (Nat.le_refl _) _
  have HT := Lib.hid (ht.alloc (oT v))
  have k0 := Lib.hid (heap_new w (oT v))
  have hval := Lib.hid (rValid_any v t _ HT.out)
  have hq := Lib.hid (wB_valid (t := t) (x := x) (y := y))
  have q1 : Hid (∀ W, Below (w.alloc (oT v)).heap.size (w.alloc (oT v)) W → Calls Try.prog 28 #[s1 v, .int .i64 x] W (Ret (.int .i64 (Tab.bd t.te x v.n1)) W)) := Lib.hid fun W hW => rband_any _ _ _ _ _ W (HT.out.below hW).l1 HT.out.m1
  have q2 : Hid (∀ W, Below (w.alloc (oT v)).heap.size (w.alloc (oT v)) W → Calls Try.prog 28 #[s2 v, .int .i64 y] W (Ret (.int .i64 (Tab.bd t.ag y v.n2)) W)) := Lib.hid fun W hW => rband_any _ _ _ _ _ W (HT.out.below hW).l2 HT.out.m2
  have e1 := ht.l1.1
  have e2 := ht.l2.1
  have e3 := ht.l3.1
  have m1 := ht.m1
  have m2 := ht.m2
  have m3 := ht.m3
  clear ht
  obtain ⟨A1, n1, c1, A2, n2, c2, A3, n3, c3⟩ := v
  dsimp only [T3, s1, s2, s3, oT] at *
  cases hv : Tab.valid t
  · have hz := Lib.hid (Tab.wE_no (hq.out.trans hv))
    rw [hv] at hval
    go_enter Try.func12, Try.ntmps12
    go_wp2_with fail
    refine hval.out.mono ?_
    rintro e w1 ⟨rfl, hb1⟩
    have hb := Below.go hb0 hb1
    go_wp2
    go_ret2
    exact ⟨ret_two' hz.out.2.symm hz.out.1.symm, hb⟩
  have hB := hq.out.trans hv
  rw [hv] at hval
  cases hn : Tab.wN t x y
  · have hz := Lib.hid (Tab.wE_nn hB hn)
    have hw := Tab.wN_ways hn
    rw [e1, e2] at hw
    clear hn hB e1 e2 e3
    generalize Tab.bd t.te x n1 = I at *
    generalize Tab.bd t.ag y n2 = K at *
    rcases hw with h1 | ⟨h1, h2⟩
    all_goals
      go_enter Try.func12, Try.ntmps12
      go_wp2_with fail
      refine hval.out.mono ?_
      rintro e w1 ⟨rfl, hb1⟩
      obtain ⟨⟨t0, t1, t2⟩, -⟩ := blk3 (keep' k0.out hb1)
      have hb := Below.go hb0 hb1
      go_wp2_with fail
      refine (q1.out _ hb1).mono ?_
      rintro e w' ⟨rfl, rfl⟩
      go_wp2_with fail
      refine (q2.out _ hb1).mono ?_
      rintro e w' ⟨rfl, rfl⟩
      go_wp2
      go_ret2
      exact ⟨ret_two' hz.out.2.symm hz.out.1.symm, hb⟩
  have hok := Lib.hid (Tab.valid_ok hv)
  obtain ⟨i1, i2, i3, i4⟩ := Tab.wN_is hn
  have hE := Tab.wE_of hB hn
  have hz := Lib.hid (Tab.rate_is hE)
  have hE2 := Lib.hid hE
  rw [e1] at i1 i2
  rw [e2] at i3 i4
  rw [i1] at q1
  rw [i3] at q2
  have e4 : n3 = n1 := e3.symm.trans (hok.out.n.trans e1)
  have e5 := hok.out.r (Tab.wI t x) (by rw [e1]; exact i2)
  rw [e2] at e5
  have hcl : Hid (Tab.cellAt t (Tab.wI t x) (Tab.wK t y) = Tab.ai (Tab.row t.ra (Tab.wI t x)) (Tab.wK t y)) := Lib.hid rfl
  clear hB hn hE e1 e2 e3 i1 i3 hv hq
  generalize Tab.wI t x = i at *
  generalize Tab.wK t y = k at *
  obtain rfl := e4
  obtain ⟨b3, o3, rfl, hB3, hc3⟩ := HT.out.l3.2 (by first | omega | (simp only []; omega))
  obtain ⟨A4, m4, c4, hc4, hl4, hm4, hm5⟩ := hc3 i (by first | omega | (simp only []; omega))
  obtain rfl : m4 = n2 := by rw [← hl4.1, e5.1]
  obtain ⟨b4, o4, rfl, hB4, h4⟩ := hl4.2 (by omega)
  have h4 := h4 k i4
  have HC4 := Lib.hid hc4
  have H4 := Lib.hid h4
  clear hc3 hc4 hl4 e5 h4
  rw [hcl.out] at hz
  generalize Tab.ai (Tab.row t.ra i) k = r at *
  have g1 : (0 : Int) ≤ (i : Int) := by omega
  have g2 : (i : Int) < (n3 : Int) := by omega
  have g4 : (0 : Int) ≤ (k : Int) := by omega
  have g5 : (k : Int) < (m4 : Int) := by omega
  go_enter Try.func12, Try.ntmps12
  go_wp2_with fail
  refine hval.out.mono ?_
  rintro e w1 ⟨rfl, hb1⟩
  obtain ⟨⟨t0, t1, t2⟩, -⟩ := blk3 (keep' k0.out hb1)
  have hb := Below.go hb0 hb1
  have y3 := (hb1.cell (p := ⟨b3, o3 + i, none⟩) hB3).trans HC4.out
  have y4 := (hb1.cell (p := ⟨b4, o4 + k, none⟩) hB4).trans H4.out
  go_wp2_with fail
  refine (q1.out _ hb1).mono ?_
  rintro e w' ⟨rfl, rfl⟩
  go_wp2_with fail
  refine (q2.out _ hb1).mono ?_
  rintro e w' ⟨rfl, rfl⟩
  go_wp2
  go_ret2
  exact ⟨ret_two' hz.out.symm hE2.out.symm, hb⟩
set_option maxHeartbeats 2000000 in
set_option maxRecDepth 100000 in
theorem rWorst_no (v : TabV) (t : Tab.Tb) (x1 x2 y1 y2 : Int) (w : World) (ht : TabIn w v t) (h : Tab.wB t x1 x2 y1 y2 = false) :
    Calls Try.prog 16 #[T3 v, I2 x1 x2, I2 y1 y2] w (RetB (.tuple #[.int .i64 (Tab.wV t x1 x2 y1 y2), .int .i64 (Tab.wE t x1 x2 y1 y2)]) w) := by
  have hb0 := below3 w (oT v) (oRg x1 x2) (oRg y1 y2)
  have HT := Lib.hid (ht.below hb0)
  have k1 := Lib.hid (new31 w (oT v) (oRg x1 x2) (oRg y1 y2))
  have k2 := Lib.hid (new32 w (oT v) (oRg x1 x2) (oRg y1 y2))
  have hz := Lib.hid (Tab.wE_no h)
  have hval := Lib.hid (rValid_any v t _ HT.out)
  clear ht
  obtain ⟨A1, n1, c1, A2, n2, c2, A3, n3, c3⟩ := v
  rcases wB_ways h with h1 | ⟨h1, h2⟩ | ⟨h1, h2, h3⟩
  all_goals
    rw [h1] at hval
    clear h h1
    go_enter Try.func16, Try.ntmps16
    go_wp2_with fail
    refine hval.out.mono ?_
    rintro e w1 ⟨rfl, hb1⟩
    obtain ⟨⟨d0, d1⟩, -⟩ := blk2 (keep' k1.out hb1)
    obtain ⟨⟨e0, e1⟩, -⟩ := blk2 (keep' k2.out hb1)
    have hb := Below.go hb0 hb1
    go_wp2
    go_ret2
    exact ⟨ret_two' hz.out.2.symm hz.out.1.symm, hb⟩
set_option maxHeartbeats 2000000 in
set_option maxRecDepth 100000 in
theorem rWorst_nn (v : TabV) (t : Tab.Tb) (x1 x2 y1 y2 : Int) (w : World) (ht : TabIn w v t) (h : Tab.wB t x1 x2 y1 y2 = true) (hn : Tab.wN t x1 y1 = false) :
    Calls Try.prog 16 #[T3 v, I2 x1 x2, I2 y1 y2] w (RetB (.tuple #[.int .i64 (Tab.wV t x1 x2 y1 y2), .int .i64 (Tab.wE t x1 x2 y1 y2)]) w) := by
  have hb0 := below3 w (oT v) (oRg x1 x2) (oRg y1 y2)
  have HT := Lib.hid (ht.below hb0)
  have k0 := Lib.hid (new30 w (oT v) (oRg x1 x2) (oRg y1 y2))
  have k1 := Lib.hid (new31 w (oT v) (oRg x1 x2) (oRg y1 y2))
  have k2 := Lib.hid (new32 w (oT v) (oRg x1 x2) (oRg y1 y2))
  have hz := Lib.hid (Tab.wE_nn h hn)
  have hval := Lib.hid (rValid_any v t _ HT.out)
  obtain ⟨v1, v2, v3⟩ := wB_yes h
  rw [v1] at hval
  have hw := Tab.wN_ways hn
  rw [ht.l1.1, ht.l2.1] at hw
  have q1 : Hid (∀ W, Below (((w.alloc (oT v)).alloc (oRg x1 x2)).alloc (oRg y1 y2)).heap.size (((w.alloc (oT v)).alloc (oRg x1 x2)).alloc (oRg y1 y2)) W → Calls Try.prog 28 #[s1 v, .int .i64 x1] W (Ret (.int .i64 (Tab.bd t.te x1 v.n1)) W)) := Lib.hid fun W hW => rband_any _ _ _ _ _ W (HT.out.below hW).l1 HT.out.m1
  have q2 : Hid (∀ W, Below (((w.alloc (oT v)).alloc (oRg x1 x2)).alloc (oRg y1 y2)).heap.size (((w.alloc (oT v)).alloc (oRg x1 x2)).alloc (oRg y1 y2)) W → Calls Try.prog 28 #[s2 v, .int .i64 y1] W (Ret (.int .i64 (Tab.bd t.ag y1 v.n2)) W)) := Lib.hid fun W hW => rband_any _ _ _ _ _ W (HT.out.below hW).l2 HT.out.m2
  clear ht h hn v1
  obtain ⟨A1, n1, c1, A2, n2, c2, A3, n3, c3⟩ := v
  dsimp only [T3, s1, s2, s3, oT] at *
  generalize Tab.bd t.te x1 n1 = I at *
  generalize Tab.bd t.ag y1 n2 = K at *
  rcases hw with h1 | ⟨h1, h2⟩
  all_goals
    go_enter Try.func16, Try.ntmps16
    go_wp2_with fail
    refine hval.out.mono ?_
    rintro e w1 ⟨rfl, hb1⟩
    obtain ⟨⟨t0, t1, t2⟩, -⟩ := blk3 (keep' k0.out hb1)
    obtain ⟨⟨d0, d1⟩, -⟩ := blk2 (keep' k1.out hb1)
    obtain ⟨⟨e0, e1⟩, -⟩ := blk2 (keep' k2.out hb1)
    have hb := Below.go hb0 hb1
    go_wp2_with fail
    refine (q1.out _ hb1).mono ?_
    rintro e w' ⟨rfl, rfl⟩
    go_wp2_with fail
    refine (q2.out _ hb1).mono ?_
    rintro e w' ⟨rfl, rfl⟩
    go_wp2
    go_ret2
    exact ⟨ret_two' hz.out.2.symm hz.out.1.symm, hb⟩
set_option maxHeartbeats 4000000 in
set_option maxRecDepth 100000 in
theorem rWorst_ok (v : TabV) (t : Tab.Tb) (x1 x2 y1 y2 : Int) (w : World) (ht : TabIn w v t) (h : Tab.wB t x1 x2 y1 y2 = true) (hn : Tab.wN t x1 y1 = true) :
    Calls Try.prog 16 #[T3 v, I2 x1 x2, I2 y1 y2] w (RetB (.tuple #[.int .i64 (Tab.wV t x1 x2 y1 y2), .int .i64 (Tab.wE t x1 x2 y1 y2)]) w) := by
  have hb0 := below3 w (oT v) (oRg x1 x2) (oRg y1 y2)
  have HT := Lib.hid (ht.below hb0)
  have k0 := Lib.hid (new30 w (oT v) (oRg x1 x2) (oRg y1 y2))
  have k1 := Lib.hid (new31 w (oT v) (oRg x1 x2) (oRg y1 y2))
  have k2 := Lib.hid (new32 w (oT v) (oRg x1 x2) (oRg y1 y2))
  have hE := Lib.hid (Tab.wE_of h hn)
  have hval := Lib.hid (rValid_any v t _ HT.out)
  obtain ⟨v1, v2, v3⟩ := wB_yes h
  have hok := Lib.hid (Tab.valid_ok v1)
  rw [v1] at hval
  obtain ⟨i1, i2, i3, i4⟩ := Tab.wN_is hn
  obtain ⟨I, I1, I2', I3⟩ := Tab.wI_le hok.out hn v2
  obtain ⟨K, K1, K2, K3⟩ := Tab.wK_le hok.out hn v3
  have hfin : Hid (∀ m, Tab.Pr t (Tab.wI t x1) (Tab.wK t y1) K (I + 1) (Tab.wK t y1) m → Tab.wV t x1 x2 y1 y2 = m) := Lib.hid fun m hp => hp.worst hE.out I1 K1
  have e1 := ht.l1.1
  have e2 := ht.l2.1
  have e3 : v.n3 = v.n1 := ht.l3.1.symm.trans (hok.out.n.trans e1)
  have n1 := hok.out.a8
  have n2 := hok.out.b8
  have kc := ht.k3
  have kd := ht.k4
  rw [e1] at i1 i2 I1 I3 n1
  rw [e2] at i3 i4 K1 K3 n2
  have bq : Hid (∀ W, Below (((w.alloc (oT v)).alloc (oRg x1 x2)).alloc (oRg y1 y2)).heap.size (((w.alloc (oT v)).alloc (oRg x1 x2)).alloc (oRg y1 y2)) W → Calls Try.prog 28 #[s1 v, .int .i64 x1] W (Ret (.int .i64 (Tab.wI t x1)) W) ∧ Calls Try.prog 28 #[s2 v, .int .i64 y1] W (Ret (.int .i64 (Tab.wK t y1)) W) ∧ Calls Try.prog 28 #[s1 v, .int .i64 x2] W (Ret (.int .i64 I) W) ∧ Calls Try.prog 28 #[s2 v, .int .i64 y2] W (Ret (.int .i64 K) W)) :=
    Lib.hid fun W hW => ⟨by rw [← i1]; exact rband_any _ _ _ _ _ W (HT.out.below hW).l1 HT.out.m1, by rw [← i3]; exact rband_any _ _ _ _ _ W (HT.out.below hW).l2 HT.out.m2, by rw [← I1]; exact rband_any _ _ _ _ _ W (HT.out.below hW).l1 HT.out.m1, by rw [← K1]; exact rband_any _ _ _ _ _ W (HT.out.below hW).l2 HT.out.m2⟩
  clear ht h hn v1 i1 i3 e1 e2 I1 K1
  obtain ⟨A1, m1, c1, A2, m2, c2, A3, m3, c3⟩ := v
  dsimp only [T3, s1, s2, s3, oT] at *
  generalize Tab.wI t x1 = i at *
  generalize Tab.wK t y1 = k at *
  obtain rfl : m3 = m1 := e3
  obtain ⟨b3, o3, e3, hB3, hc3⟩ := HT.out.l3.2 (by first | omega | (simp only []; omega))
  (try simp only [] at e3)
  subst e3
  have Hc3 := Lib.hid hc3
  clear hc3
  have g1 : (0 : Int) ≤ (i : Int) := by omega
  have g4 : (0 : Int) ≤ (k : Int) := by omega
  have u1 : decide (x2 < x1) = false := decide_eq_false (by omega)
  have u2 : decide (y2 < y1) = false := decide_eq_false (by omega)
  have u3 : decide ((i : Int) < 0) = false := decide_eq_false (by omega)
  have u4 : decide ((k : Int) < 0) = false := decide_eq_false (by omega)
  go_enter Try.func16, Try.ntmps16
  go_wp2_with fail
  refine hval.out.mono ?_
  rintro e w1 ⟨rfl, hb1⟩
  obtain ⟨⟨t0, t1, t2⟩, -⟩ := blk3 (keep' k0.out hb1)
  obtain ⟨⟨d0, d1⟩, -⟩ := blk2 (keep' k1.out hb1)
  obtain ⟨⟨e0, e1⟩, -⟩ := blk2 (keep' k2.out hb1)
  go_wp2_with fail
  refine (bq.out _ hb1).1.mono ?_
  rintro e w' ⟨rfl, rfl⟩
  go_wp2_with fail
  refine (bq.out _ hb1).2.1.mono ?_
  rintro e w' ⟨rfl, rfl⟩
  go_wp2
  generalize (((w.alloc (oT ⟨A1, m3, c1, A2, m2, c2, some ⟨b3, o3, none⟩, m3, c3⟩)).alloc (oRg x1 x2)).alloc (oRg y1 y2)) = W0 at *
  have hres : Hid (Tab.wE t x1 x2 y1 y2 = 0) := hE
  go_loopg [11, 12] (I + 1 - i) (fun g s11 s12 wx => ∃ (a : Nat) (m : Int), a + g = I + 1 ∧ i ≤ a ∧ s12 = .int .i64 a ∧ s11 = .int .i64 m ∧ Hid (Tab.Pr t i k K a k m) ∧ Below W0.heap.size W0 wx)
  case atStart => exact ⟨i, 0, by omega, Nat.le_refl _, rfl, rfl, Lib.hid Tab.Pr.start, hb1⟩
  case round =>
    obtain ⟨a, m, hag, hia, rfl, rfl, HI, hbx⟩ := hrel
    clear t0 t1 t2 d0 d1 e0 e1
    obtain ⟨⟨t0, t1, t2⟩, -⟩ := blk3 (keep' k0.out hbx)
    obtain ⟨⟨d0, d1⟩, -⟩ := blk2 (keep' k1.out hbx)
    obtain ⟨⟨e0, e1⟩, -⟩ := blk2 (keep' k2.out hbx)
    have hb := Below.go hb0 hbx
    cases gk with
    | zero =>
      obtain rfl : a = I + 1 := by omega
      have q : decide (((I + 1 : Nat) : Int) ≤ (I : Int)) = false := decide_eq_false (by omega)
      have q' : decide ((I : Int) + 1 ≤ (I : Int)) = false := decide_eq_false (by omega)
      have hV : Hid (Tab.wV t x1 x2 y1 y2 = m) := Lib.hid (hfin.out m HI.out)
      go_wp2_with fail
      refine (bq.out _ hbx).2.2.1.mono ?_
      rintro e w' ⟨rfl, rfl⟩
      go_wp2
      go_ret2
      exact ⟨ret_two' hV.out.symm hres.out.symm, hb⟩
    | succ g =>
      obtain ⟨A4, m4, c4, hc4, hl4, hm4, hm5⟩ := Hc3.out a (by first | omega | (simp only []; omega))
      obtain ⟨hr1, hr2⟩ := hok.out.r a (by have := HT.out.l1.1; (try simp only [] at this); omega)
      have hag2 : t.ag.length = m2 := HT.out.l2.1
      obtain rfl : m4 = m2 := by rw [← hl4.1, hr1, hag2]
      obtain ⟨b4, o4, rfl, hB4, h4⟩ := hl4.2 (by omega)
      have r4 := (hbx.cell (p := ⟨b3, o3 + a, none⟩) hB3).trans hc4
      have Hc4 := Lib.hid h4
      have R4 := Lib.hid hc4
      clear h4 hl4 hc4 hr1 hr2 hag2 r4
      have j0 : (0 : Int) ≤ (a : Int) := by omega
      have j1 : decide ((a : Int) ≤ (I : Int)) = true := decide_eq_true (by omega)
      have j1n : decide (a ≤ I) = true := decide_eq_true (by omega)
      have j2 : (a : Int) < (m3 : Int) := by omega
      have HI2 : Hid (Tab.Pr t i k K a k m) := HI
      go_wp2_with fail
      refine (bq.out _ hbx).2.2.1.mono ?_
      rintro e w' ⟨rfl, rfl⟩
      go_wp2
      go_loopg [11, 13] (K + 1 - k) (fun g2 s11 s13 wy => ∃ (b : Nat) (m' : Int), b + g2 = K + 1 ∧ k ≤ b ∧ s13 = .int .i64 b ∧ s11 = .int .i64 m' ∧ Hid (Tab.Pr t i k K a b m') ∧ Below W0.heap.size W0 wy)
      case atStart => exact ⟨k, m, by omega, Nat.le_refl _, rfl, rfl, HI2, hbx⟩
      case round =>
        obtain ⟨b, m', hbg, hkb, rfl, rfl, HJ, hby⟩ := hrel
        clear t0 t1 t2 d0 d1 e0 e1
        obtain ⟨⟨t0, t1, t2⟩, -⟩ := blk3 (keep' k0.out hby)
        obtain ⟨⟨d0, d1⟩, -⟩ := blk2 (keep' k1.out hby)
        obtain ⟨⟨e0, e1⟩, -⟩ := blk2 (keep' k2.out hby)
        cases gk with
        | zero =>
          obtain rfl : b = K + 1 := by omega
          have q : decide (((K + 1 : Nat) : Int) ≤ (K : Int)) = false := decide_eq_false (by omega)
          have q' : decide ((K : Int) + 1 ≤ (K : Int)) = false := decide_eq_false (by omega)
          have HN : Hid (Tab.Pr t i k K (a + 1) k m') := Lib.hid HJ.out.next
          go_wp2_with fail
          refine (bq.out _ hby).2.2.2.mono ?_
          rintro e w' ⟨rfl, rfl⟩
          go_wp2
          go_roundg g
          case measure => omega
          case rel => exact ⟨a + 1, m', by omega, by omega, by go_num, rfl, HN, hby⟩
        | succ g2 =>
          have r4 := (hby.cell (p := ⟨b3, o3 + a, none⟩) hB3).trans R4.out
          have y4 := (hby.cell (p := ⟨b4, o4 + b, none⟩) hB4).trans (Hc4.out b (by omega))
          have HN : Hid (Tab.Pr t i k K a (b + 1) (Tab.mx m' (Tab.ai (Tab.row t.ra a) b))) := Lib.hid (HJ.out.step hia hkb (by omega))
          generalize Tab.ai (Tab.row t.ra a) b = r at *
          have z1 : (0 : Int) ≤ (b : Int) := by omega
          have z2 : (b : Int) < (m4 : Int) := by omega
          have z3 : decide ((b : Int) ≤ (K : Int)) = true := decide_eq_true (by omega)
          have z3n : decide (b ≤ K) = true := decide_eq_true (by omega)
          have em : (if m' < r then r else m') = Tab.mx m' r := rfl
          go_wp2_with fail
          refine (bq.out _ hby).2.2.2.mono ?_
          rintro e w' ⟨rfl, rfl⟩
          go_wp2
          go_roundg g2
          case measure => omega
          case rel => exact ⟨b + 1, Tab.mx m' r, by omega, by omega, by go_num, rfl, HN, hby⟩
theorem rWorst_any (v : TabV) (t : Tab.Tb) (x1 x2 y1 y2 : Int) (w : World) (ht : TabIn w v t) :
    Calls Try.prog 16 #[T3 v, I2 x1 x2, I2 y1 y2] w (RetB (.tuple #[.int .i64 (Tab.wV t x1 x2 y1 y2), .int .i64 (Tab.wE t x1 x2 y1 y2)]) w) := by
  cases h : Tab.wB t x1 x2 y1 y2
  · exact rWorst_no v t x1 x2 y1 y2 w ht h
  cases h2 : Tab.wN t x1 y1
  · exact rWorst_nn v t x1 x2 y1 y2 w ht h h2
  · exact rWorst_ok v t x1 x2 y1 y2 w ht h h2
end Go.Proofs.Ytlmdjkkeocmehaa
