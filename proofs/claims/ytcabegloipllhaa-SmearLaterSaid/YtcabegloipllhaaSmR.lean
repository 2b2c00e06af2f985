/- The walk of the law SmearInverse. -/
import Derived.Test.YtcabegloipllhaaSmQ
set_option linter.unusedVariables false
namespace Go.Proofs.Ytcabegloipllhaa
open Go.RowKit
theorem inverse_law (v : Value) (l : Lpm.LL) (h t s : Int) (w : World) (ht : IsTab w v l) (h1 : (Lit.int .i64 h).wf = true) (h2 : (Lit.int .i64 t).wf = true) (h3 : (Lit.int .i64 s).wf = true) : Calls Try.prog 5 #[v, .int .i64 h, .int .i64 t, .int .i64 s] w (LawPost w) := by
  obtain ⟨A, n, c, rfl, hnc, hcm, hAc, hl⟩ := ht
  unfold maxLen at hcm
  have HL : Hid (LpC A n l w) := Lib.hid fun W hW => (hl.below hW).mono hW.size
  have hC : n ≤ 110 → CanC A n c h (Smm.can l h) w := fun hn W hW => rCan_any A n c l h W (HL.out W hW) hn
  by_cases hn : n ≤ 110
  rotate_left
  · exact inv_bad A n c h t s w _ (by omega) (Lib.hid hC) (.inl hn)
  cases hc : Smm.can l h
  · exact inv_bad A n c h t s w _ (by omega) (Lib.hid hC) (.inr ⟨hn, hc⟩)
  have C := Smm.can_yes hc
  have hC := hC hn
  rw [hc] at hC
  have hfb := Smm.fin_bd C
  have hT : ∀ u, ToC A n c h u (Smm.toV l h u) (Smm.toE l h u) w := fun u W hW => To_any A n c l h u W (HL.out W hW) hn
  have hF : ∀ u, FrC A n c h u (Smm.frLo l h u) (Smm.frHi l h u) (Smm.frI l h u) (Smm.frE l h u) w := fun u W hW => From_any A n c l h u W (HL.out W hW) hn
  have hTo : ∀ u a, 0 ≤ u → u < Smm.fin l → Smm.smV l h u = a → ToC A n c h u a 0 w := fun u a u0 u1 ha => by
    have := hT u
    rw [(Smm.to_yes C u0 u1).1, (Smm.to_yes C u0 u1).2, ha] at this; exact this
  have hP : P1 A n c h t (Smm.toV l h t) (Smm.toE l h t) w := by
    by_cases hE : Smm.toE l h t = 0
    rotate_left
    · exact .inl (bne_of hE)
    obtain ⟨-, hd⟩ := toE_zero hE
    obtain ⟨s0, s1⟩ := (Smm.dE_zero C.v).1 hd
    have hv := (Smm.to_all hc hd).2.1
    obtain ⟨⟨a0, a1⟩, F, G, f1, f2, f3, f4, f5, f6, f7, f8, f9, f10⟩ := Smm.inverse1 C s0 s1 hv.symm
    rw [hE]
    have hfr := Smm.fr_is C a0 a1 (by rw [f1, f2]; omega)
    have hF1 := hF (Smm.toV l h t)
    rw [hfr.1, hfr.2.1, hfr.2.2.1, hfr.2.2.2, f1, f2] at hF1
    refine .inr ⟨rfl, F, G - 1, _, _, _, _, ⟨f3, by omega, by omega, by omega⟩, hF1, hTo F _ f3 (by omega) f7, hTo (G - 1) _ (by omega) (by omega) f8, hT (F - 1), by rw [show G - 1 + 1 = G by omega]; exact hT G, ⟨decide_eq_true f4, decide_eq_true (by omega)⟩, ?_, ?_⟩
    · by_cases q : 1 ≤ F
      · have := Smm.to_yes (t := F - 1) C (by omega) (by omega)
        right; rw [this.1, this.2]; exact ⟨rfl, decide_eq_true (f9 q)⟩
      · left; exact bne_of (Smm.to_no C (by omega)).1
    · by_cases q : G < Smm.fin l
      · have := Smm.to_yes (t := G) C (by omega) q
        right; rw [this.1, this.2]; exact ⟨rfl, decide_eq_true (f10 q)⟩
      · left; exact bne_of (Smm.to_no C (by omega)).1
  cases hr : Smm.fr l h s
  · have e := Smm.fr_bad hr
    have hF1 := hF s
    rw [e.1, e.2.1, e.2.2.1, e.2.2.2] at hF1
    refine inv_far A n c h t s _ _ w hn (Lib.hid hC) (Lib.hid (hT t)) hP (Lib.hid hF1) ?_
    rcases fr_ways hr with q | ⟨_, q⟩ | ⟨_, q, q2⟩
    · rw [hc] at q; cases q
    · exact .inl (decide_eq_true q)
    · exact .inr ⟨decide_eq_false (by omega), decide_eq_true q2⟩
  have hs01 : 0 ≤ s ∧ s ≤ 3000000000000000 := by
    unfold Smm.fr at hr
    simp only [Bool.and_eq_true, decide_eq_true_eq] at hr
    exact hr.2
  obtain ⟨i1, i2⟩ := Smm.inverse2 (v := s) C
  have sp := Smm.fst_spec C s
  have sp2 := Smm.fst_spec C (s + 1)
  by_cases hlt : Smm.fst l h s < Smm.fst l h (s + 1)
  · have e := Smm.fr_is C hs01.1 hs01.2 hlt
    have hF1 := hF s
    rw [e.1, e.2.1, e.2.2.1, e.2.2.2] at hF1
    obtain ⟨j1, j2, j3⟩ := i1 hlt
    exact inv_is A n c h t s _ _ _ _ w hn (Lib.hid hC) (Lib.hid (hT t)) hP (Lib.hid hF1) (Lib.hid (hTo _ _ j1 j2 j3)) (decide_eq_true (by omega))
  · have e := Smm.fr_none C hs01.1 hs01.2 hlt
    have hF1 := hF s
    rw [e.1, e.2.1, e.2.2.1, e.2.2.2] at hF1
    have s1 : 1 ≤ s := by
      rcases Int.lt_or_le 0 s with q | q
      · omega
      · exfalso
        obtain rfl : s = 0 := by omega
        have z := Smm.sm_zero C
        have e1 : Smm.fst l h 0 ≤ 0 := (Smm.fst_of C (Int.le_refl _) (by omega)).2 (by rw [z]; exact Int.le_refl _)
        have e2 : ¬ Smm.fst l h (0 + 1) ≤ 0 := fun q => by
          have := (Smm.fst_of (v := 0 + 1) C (Int.le_refl _) (by omega)).1 q
          rw [z] at this; omega
        omega
    have hF2 := hF (s - 1)
    by_cases hl2 : Smm.fst l h (s - 1) < Smm.fst l h (s - 1 + 1)
    · have e2 := Smm.fr_is (v := s - 1) C (by omega) (by omega) hl2
      rw [e2.1, e2.2.1, e2.2.2.1, e2.2.2.2] at hF2
      rw [show s - 1 + 1 = s by omega] at hF2
      have spm := Smm.fst_spec C (s - 1)
      rw [show s - 1 + 1 = s by omega] at hl2
      have hX := hT (Smm.fst l h s - 1 + 1)
      refine inv_none A n c h t s _ _ _ _ _ _ _ w hn s1 hs01.2 ⟨by have := spm.1; omega, by have := sp.2.1; omega⟩ (Lib.hid hC) (Lib.hid (hT t)) hP (Lib.hid hF1) (Lib.hid hF2) (Lib.hid hX) ?_
      rw [show Smm.fst l h s - 1 + 1 = Smm.fst l h s by omega]
      by_cases q : Smm.fst l h s < Smm.fin l
      · have := Smm.to_yes (t := Smm.fst l h s) C sp.1 q
        right; left; rw [this.1, this.2]; exact ⟨rfl, decide_eq_true (i2 hlt q)⟩
      · left; exact bne_of (Smm.to_no C (by omega)).1
    · have e2 := Smm.fr_none (v := s - 1) C (by omega) (by omega) hl2
      rw [e2.1, e2.2.1, e2.2.2.1, e2.2.2.2] at hF2
      refine inv_none A n c h t s _ _ _ _ _ _ _ w hn s1 hs01.2 ⟨by omega, by omega⟩ (Lib.hid hC) (Lib.hid (hT t)) hP (Lib.hid hF1) (Lib.hid hF2) (Lib.hid (hT (0 + 1))) ?_
      by_cases q : Smm.toE l h (0 + 1) = 0
      · by_cases q2 : s < Smm.toV l h (0 + 1)
        · exact .inr (.inl ⟨q, decide_eq_true q2⟩)
        · exact .inr (.inr ⟨q, decide_eq_false q2, rfl, rfl⟩)
      · exact .inl (bne_of q)
end Go.Proofs.Ytcabegloipllhaa
