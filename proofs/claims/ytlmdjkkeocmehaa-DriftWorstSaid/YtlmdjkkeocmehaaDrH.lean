/- The contract of drift.Worst where it answers. -/
import Derived.Test.YtlmdjkkeocmehaaDrG
set_option linter.unusedVariables false
namespace Go.Proofs.Ytlmdjkkeocmehaa
open Go.RowKit
set_option maxHeartbeats 4000000 in
set_option maxRecDepth 100000 in
theorem Worst_ok (v : TabV) (t : Tab.Tb) (x1 x2 y1 y2 : Int) (w : World) (ht : TabIn w v t) (h : Tab.wB t x1 x2 y1 y2 = true) (hn : Tab.wN t x1 y1 = true) :
    Calls Try.prog 15 #[T3 v, I2 x1 x2, I2 y1 y2] w (RetB (.tuple #[.int .i64 (Tab.wV t x1 x2 y1 y2), .int .i64 (Tab.wE t x1 x2 y1 y2)]) w) := by
  have hb0 := below3 w (oT v) (oRg x1 x2) (oRg y1 y2)
  have HT := Lib.hid (ht.below hb0)
  have k0 := Lib.hid (new30 w (oT v) (oRg x1 x2) (oRg y1 y2))
  have k1 := Lib.hid (new31 w (oT v) (oRg x1 x2) (oRg y1 y2))
  have k2 := Lib.hid (new32 w (oT v) (oRg x1 x2) (oRg y1 y2))
  have hz := Lib.hid (Tab.wE_ok h hn)
  have hval := Lib.hid (Valid_any v t _ HT.out)
  obtain ⟨v1, v2, v3⟩ := wB_yes h
  have hok := Lib.hid (Tab.valid_ok v1)
  rw [v1] at hval
  obtain ⟨i1, i2, i3, i4⟩ := Tab.wN_is hn
  have e1 := ht.l1.1
  have e2 := ht.l2.1
  have e3 : v.n3 = v.n1 := ht.l3.1.symm.trans (hok.out.n.trans e1)
  have n1 := hok.out.a8
  have n2 := hok.out.b8
  have kc := ht.k3
  have kd := ht.k4
  have q1 : Hid (∀ W q, Below (((w.alloc (oT v)).alloc (oRg x1 x2)).alloc (oRg y1 y2)).heap.size (((w.alloc (oT v)).alloc (oRg x1 x2)).alloc (oRg y1 y2)) W → Calls Try.prog 36 #[s1 v, .int .i64 x1] (W.drewN q) fun e w'' => e = .returned (.int .i64 (Tab.wI t x1)) ∧ ∃ m, w'' = W.drewN m) :=
    Lib.hid fun W q hW => by rw [← i1, e1]; exact band_drewN _ _ _ _ _ W q (HT.out.below hW).l1 HT.out.m1
  have q2 : Hid (∀ W q, Below (((w.alloc (oT v)).alloc (oRg x1 x2)).alloc (oRg y1 y2)).heap.size (((w.alloc (oT v)).alloc (oRg x1 x2)).alloc (oRg y1 y2)) W → Calls Try.prog 36 #[s2 v, .int .i64 y1] (W.drewN q) fun e w'' => e = .returned (.int .i64 (Tab.wK t y1)) ∧ ∃ m, w'' = W.drewN m) :=
    Lib.hid fun W q hW => by rw [← i3, e2]; exact band_drewN _ _ _ _ _ W q (HT.out.below hW).l2 HT.out.m2
  rw [e1] at hz i2 n1
  rw [e2] at i4 n2
  clear ht h hn v1 i1 i3 e1 e2
  obtain ⟨A1, m1, c1, A2, m2, c2, A3, m3, c3⟩ := v
  dsimp only [T3, s1, s2, s3, oT] at *
  generalize Tab.wI t x1 = i at *
  generalize Tab.wK t y1 = k at *
  obtain rfl : m3 = m1 := e3
  obtain ⟨b3, o3, e3, hB3, hc3⟩ := HT.out.l3.2 (by first | omega | (simp only []; omega))
  (try simp only [] at e3)
  subst e3
  have Hc3 := Lib.hid hc3
  obtain ⟨b1, o1, e3, hB1, hc1⟩ := HT.out.l1.2 (by first | omega | (simp only []; omega))
  (try simp only [] at e3)
  subst e3
  have Hc1 := Lib.hid hc1
  obtain ⟨b2, o2, e3, hB2, hc2⟩ := HT.out.l2.2 (by first | omega | (simp only []; omega))
  (try simp only [] at e3)
  subst e3
  have Hc2 := Lib.hid hc2
  clear hc1 hc2 hc3
  have g1 : (0 : Int) ≤ (i : Int) := by omega
  have g2 : (i : Int) < (m3 : Int) := by omega
  have g2' : (i : Int) ≤ (m3 : Int) := by omega
  have g3 : (i : Int) < (c3 : Int) := by omega
  have g4 : (0 : Int) ≤ (k : Int) := by omega
  have g5 : (k : Int) < (m2 : Int) := by omega
  go_enter Try.func15, Try.ntmps15
  go_wp2_with fail
  go_step3
  go_wp2_with fail
  refine hval.out.mono ?_
  rintro e w1 ⟨rfl, hb1⟩
  obtain ⟨⟨t0, t1, t2⟩, -⟩ := blk3 (keep' k0.out hb1)
  obtain ⟨⟨d0, d1⟩, -⟩ := blk2 (keep' k1.out hb1)
  obtain ⟨⟨e0, e1⟩, -⟩ := blk2 (keep' k2.out hb1)
  go_wp2_with fail
  go_quiet ((go_at_call 36; first | (with_reducible exact q1.out _ _ hb1) | (with_reducible exact q2.out _ _ hb1)))
  go_wp2
  go_step3
  go_wp2
  have hb2 := Below.drewN hb1 nq
  clear t0 t1 t2 d0 d1 e0 e1
  generalize w1.drewN nq = w2 at *
  clear hb1 hval q1 q2
  generalize (((w.alloc (oT ⟨some ⟨b1, o1, none⟩, m3, c1, some ⟨b2, o2, none⟩, m2, c2, some ⟨b3, o3, none⟩, m3, c3⟩)).alloc (oRg x1 x2)).alloc (oRg y1 y2)) = W0 at *
  go_loopg [10, 53] (m3 - i) (fun g s10 s53 wx => ∃ (a : Nat) (m : Int), a + g = m3 - i ∧ s53 = .int .i64 a ∧ s10 = .int .i64 m ∧ Hid (Tab.out t x2 y2 k (m3 - i) i 0 = Tab.out t x2 y2 k g (i + a) m) ∧ Below W0.heap.size W0 wx)
  case atStart => exact ⟨0, 0, by omega, rfl, rfl, Lib.hid rfl, hb2⟩
  case round =>
    obtain ⟨a, m, hag, rfl, rfl, HI, hbx⟩ := hrel
    cases gk with
    | zero =>
      have q : decide (a < m3 - i) = false := decide_eq_false (by omega)
      have hV : Hid (Tab.wV t x1 x2 y1 y2 = m) := Lib.hid (hz.out.2.trans HI.out)
      have hb := Below.go hb0 hbx
      go_wp2
      try rw [Exit.noGoto_ret]
      go_ret2
      exact ⟨ret_two' hV.out.symm hz.out.1.symm, hb⟩
    | succ g =>
      obtain ⟨A4, m4, c4, hc4, hl4, hm4, hm5⟩ := Hc3.out (i + a) (by first | omega | (simp only []; omega))
      obtain ⟨hr1, hr2⟩ := hok.out.r (i + a) (by have := HT.out.l1.1; (try simp only [] at this); omega)
      have hag2 : Hid (t.ag.length = m2) := Lib.hid HT.out.l2.1
      obtain rfl : m4 = m2 := by rw [← hl4.1, hr1, hag2.out]
      obtain ⟨b4, o4, rfl, hB4, h4⟩ := hl4.2 (by omega)
      have r4 := (hbx.cell (p := ⟨b3, o3 + (i + a), none⟩) hB3).trans hc4
      rw [← Nat.add_assoc] at r4
      have Hc4 := Lib.hid h4
      clear h4 hl4 hc4 hr1 hr2
      have j0 : (0 : Int) ≤ (a : Int) := by omega
      have j1 : decide (a < m3 - i) = true := decide_eq_true (by omega)
      have j2 : (a : Int) < ((m3 - i : Nat) : Int) := by omega
      have j3 : (k : Int) ≤ (m4 : Int) := by omega
      have j4 : (k : Int) < (c4 : Int) := by omega
      have te1 := Lib.hid (Hc1.out (i + a) (by first | omega | (simp only []; omega)))
      have hOs : Hid (∀ (h : x2 < Tab.ai t.te (i + a)), Tab.out t x2 y2 k (g + 1) (i + a) m = m) := Lib.hid fun h => Tab.out_stop h
      have hOg : Hid (∀ (h : ¬ x2 < Tab.ai t.te (i + a)), Tab.out t x2 y2 k (g + 1) (i + a) m = Tab.out t x2 y2 k g (i + a + 1) (Tab.inn t.ag (Tab.row t.ra (i + a)) y2 (m4 - k) k m)) := Lib.hid fun h => by rw [Tab.out_go h, hag2.out]
      generalize Tab.ai t.te (i + a) = X at *
      generalize Tab.row t.ra (i + a) = R at *
      have w1' : IntKind.i64.wrap ((i : Int) + (a : Int)) = (i : Int) + (a : Int) := IntWalk.i64_in _ (by omega)
      have W1' := Lib.hid w1'
      clear w1'
      have z1 : (0 : Int) ≤ (i : Int) + (a : Int) := by omega
      have z2 : (i : Int) + (a : Int) < (m3 : Int) := by omega
      by_cases hx : x2 < X
      · have hV : Hid (Tab.wV t x1 x2 y1 y2 = m) := Lib.hid (hz.out.2.trans (HI.out.trans (hOs.out hx)))
        have qx : decide (x2 < X) = true := decide_eq_true hx
        go_wp2_with fail
        go_loopg [10, 62] 1 (fun g2 s10 s62 wy => s62 = .int .i64 0 ∧ s10 = .int .i64 m ∧ Below W0.heap.size W0 wy)
        case atStart => exact ⟨rfl, rfl, hbx⟩
        case round =>
          obtain ⟨rfl, rfl, hby⟩ := hrel
          have hb := Below.go hb0 hby
          obtain ⟨⟨t0, t1, t2⟩, -⟩ := blk3 (keep' k0.out hby)
          obtain ⟨⟨d0, d1⟩, -⟩ := blk2 (keep' k1.out hby)
          have y4 := (hby.cell (p := ⟨b4, o4 + k, none⟩) hB4).trans (Hc4.out k (by omega))
          have y1' := (hby.cell (p := ⟨b1, o1 + (i + a), none⟩) hB1).trans te1.out
          have z0 : decide (0 < m4 - k) = true := decide_eq_true (by omega)
          have z0' : (0 : Int) < ((m4 - k : Nat) : Int) := by omega
          have w1' := W1'.out
          have w2' : ((i : Int) + (a : Int)).toNat = i + a := by omega
          go_wp2_with fail
          go_quiet (fail)
          go_wp2
          try rw [Exit.noGoto_ret]
          go_ret2
          exact ⟨ret_two' hV.out.symm hz.out.1.symm, Below.drewN hb _⟩
      · have qx : decide (x2 < X) = false := decide_eq_false hx
        have hI2 : Hid (Tab.out t x2 y2 k (m3 - i) i 0 = Tab.out t x2 y2 k g (i + a + 1) (Tab.inn t.ag R y2 (m4 - k) k m)) := Lib.hid (HI.out.trans (hOg.out hx))
        clear HI hOg hOs
        go_wp2_with fail
        go_loopg [10, 62] (m4 - k) (fun g2 s10 s62 wy => ∃ (j : Nat) (m' : Int), j + g2 = m4 - k ∧ s62 = .int .i64 j ∧ s10 = .int .i64 m' ∧ Hid (Tab.inn t.ag R y2 (m4 - k) k m = Tab.inn t.ag R y2 g2 (k + j) m') ∧ Below W0.heap.size W0 wy)
        case atStart => exact ⟨0, m, by omega, rfl, rfl, Lib.hid rfl, hbx⟩
        case round =>
          obtain ⟨j, m', hjg, rfl, rfl, HJ, hby⟩ := hrel
          cases gk with
          | zero =>
            have q : decide (j < m4 - k) = false := decide_eq_false (by omega)
            have hJ2 : Hid (Tab.inn t.ag R y2 (m4 - k) k m = m') := Lib.hid HJ.out
            go_wp2
            go_roundg g
            case measure => omega
            case rel => exact ⟨a + 1, m', by omega, by go_num, rfl, Lib.hid (hI2.out.trans (by rw [hJ2.out]; rfl)), hby⟩
          | succ g2 =>
            obtain ⟨⟨t0, t1, t2⟩, -⟩ := blk3 (keep' k0.out hby)
            obtain ⟨⟨d0, d1⟩, -⟩ := blk2 (keep' k1.out hby)
            obtain ⟨⟨e0, e1⟩, -⟩ := blk2 (keep' k2.out hby)
            have y4 := (hby.cell (p := ⟨b4, o4 + (k + j), none⟩) hB4).trans (Hc4.out (k + j) (by omega))
            rw [← Nat.add_assoc] at y4
            have y1' := (hby.cell (p := ⟨b1, o1 + (i + a), none⟩) hB1).trans te1.out
            have y2' := (hby.cell (p := ⟨b2, o2 + (k + j), none⟩) hB2).trans (Hc2.out (k + j) (by first | omega | (simp only []; omega)))
            have hIs : Hid (∀ (h : y2 < Tab.ai t.ag (k + j)), Tab.inn t.ag R y2 (g2 + 1) (k + j) m' = m') := Lib.hid fun h => Tab.inn_stop h
            have hIg : Hid (∀ (h : ¬ y2 < Tab.ai t.ag (k + j)), Tab.inn t.ag R y2 (g2 + 1) (k + j) m' = Tab.inn t.ag R y2 g2 (k + j + 1) (Tab.mx m' (Tab.ai R (k + j)))) := Lib.hid fun h => Tab.inn_go h
            generalize Tab.ai t.ag (k + j) = Y at *
            generalize Tab.ai R (k + j) = r at *
            have z0 : decide (j < m4 - k) = true := decide_eq_true (by omega)
            have z0' : (j : Int) < ((m4 - k : Nat) : Int) := by omega
            have z3 : (0 : Int) ≤ (j : Int) := by omega
            have z4 : (0 : Int) ≤ (k : Int) + (j : Int) := by omega
            have z5 : (k : Int) + (j : Int) < (m4 : Int) := by omega
            have w1' := W1'.out
            have w2' : ((i : Int) + (a : Int)).toNat = i + a := by omega
            have w3' : IntKind.i64.wrap ((k : Int) + (j : Int)) = (k : Int) + (j : Int) := IntWalk.i64_in _ (by clear w1' w2'; omega)
            have w4' : ((k : Int) + (j : Int)).toNat = k + j := by clear w1' w3'; omega
            by_cases hy : y2 < Y
            · have qy : decide (y2 < Y) = true := decide_eq_true hy
              have hJ2 : Hid (Tab.inn t.ag R y2 (m4 - k) k m = m') := Lib.hid (HJ.out.trans (hIs.out hy))
              go_wp2_with fail
              go_quiet (fail)
              go_wp2_with fail
              go_quiet (fail)
              clear w1' w2' w3' w4'
              go_wp2
              go_roundg g
              case measure => omega
              case rel => exact ⟨a + 1, m', by omega, by go_num, rfl, Lib.hid (hI2.out.trans (by rw [hJ2.out]; rfl)), Below.drewN hby _⟩
            · have qy : decide (y2 < Y) = false := decide_eq_false hy
              have hJ2 : Hid (Tab.inn t.ag R y2 (m4 - k) k m = Tab.inn t.ag R y2 g2 (k + j + 1) (Tab.mx m' r)) := Lib.hid (HJ.out.trans (hIg.out hy))
              have em : (if m' < r then r else m') = Tab.mx m' r := rfl
              go_wp2_with fail
              go_quiet (fail)
              go_wp2_with fail
              go_quiet (fail)
              clear w1' w2' w3' w4'
              go_wp2
              go_roundg g2
              case measure => omega
              case rel => exact ⟨j + 1, Tab.mx m' r, by omega, by go_num, rfl, hJ2, Below.drewN hby _⟩
end Go.Proofs.Ytlmdjkkeocmehaa
