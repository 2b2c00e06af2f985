/- The contracts of the reference's To, From and Apart; the laws' head. -/
import Derived.Test.YtcabegloipllhaaSmI
set_option linter.unusedVariables false
namespace Go.Proofs.Ytcabegloipllhaa
open Go.RowKit
set_option maxHeartbeats 1000000 in
theorem rTo_any (A : Option Addr) (n c : Nat) (l : Lpm.LL) (h t : Int) (w : World) (hl : Lp w.heap.size w A n l) (hn : n ≤ 110) : Calls Try.prog 12 #[.slice A n c, .int .i64 h, .int .i64 t] w (RetB (.tuple #[.int .i64 (Smm.toV l h t), .int .i64 (Smm.toE l h t)]) w) := by
  have hD := Lib.hid (rday_any A n c l h t w hl hn)
  by_cases hE : Smm.toE l h t = 0
  · obtain ⟨hc, hd⟩ := toE_zero hE
    have C := Smm.can_yes hc
    obtain ⟨t0, t1⟩ := (Smm.dE_zero C.v).1 hd
    have z := Lib.hid (Smm.to_all hc hd).2.1
    have hS : Hid (∀ W, Below w.heap.size w W → Calls Try.prog 28 #[.slice A n c, .int .i64 h, .int .i64 t] W (RetB (.int .i64 (Smm.smV l h t)) W)) := Lib.hid fun W hW => rsmeared_any A n c l h t W ((hl.below hW).mono hW.size) hn C t0 t1
    rw [hE] at hD ⊢
    clear hE
    go_enter Try.func12, Try.ntmps12
    go_wp2_with fail
    refine hD.out.mono ?_
    rintro e w1 ⟨rfl, hb1⟩
    go_wp2_with fail
    refine (hS.out _ hb1).mono ?_
    rintro e w2 ⟨rfl, hb2⟩
    go_wp2
    go_ret2
    exact ⟨ret_two z.out.symm rfl, Below.go hb1 hb2⟩
  · have hz := Lib.hid (toE_far hE).1
    have hne := bne_of hE
    generalize Smm.toE l h t = E at *
    go_enter Try.func12, Try.ntmps12
    go_wp2_with fail
    refine hD.out.mono ?_
    rintro e w1 ⟨rfl, hb1⟩
    go_wp2
    go_ret2
    exact ⟨ret_two hz.out.symm rfl, hb1⟩
set_option maxHeartbeats 1000000 in
theorem rApart_any (A : Option Addr) (n c : Nat) (l : Lpm.LL) (h t : Int) (w : World) (hl : Lp w.heap.size w A n l) (hn : n ≤ 110) : Calls Try.prog 14 #[.slice A n c, .int .i64 h, .int .i64 t] w (RetB (.tuple #[.int .i64 (Smm.apV l h t), .int .i64 (Smm.toE l h t)]) w) := by
  have hD := Lib.hid (rday_any A n c l h t w hl hn)
  by_cases hE : Smm.toE l h t = 0
  · obtain ⟨hc, hd⟩ := toE_zero hE
    have C := Smm.can_yes hc
    obtain ⟨t0, t1⟩ := (Smm.dE_zero C.v).1 hd
    have hfb := Smm.fin_bd C
    have hf : Smm.fin l = Lpm.start l 34001 := rfl
    have hnr := Smm.sm_near C t0 (by omega)
    have hob := Lpm.ofs_bd (day := Lpm.dayNo l t) C.v
    have z : Hid (Smm.apV l h t = Smm.smV l h t - Smm.civ l t) := Lib.hid (Smm.to_all hc hd).2.2.2.2
    have hcv : Smm.civ l t = t - 1000000 * Lpm.ofs l (Lpm.dayNo l t) := rfl
    have hS : Hid (∀ W, Below w.heap.size w W → Calls Try.prog 28 #[.slice A n c, .int .i64 h, .int .i64 t] W (RetB (.int .i64 (Smm.smV l h t)) W)) := Lib.hid fun W hW => rsmeared_any A n c l h t W ((hl.below hW).mono hW.size) hn C t0 t1
    have hC : Hid (∀ W, Below w.heap.size w W → Calls Try.prog 29 #[.slice A n c, .int .i64 t] W (RetB (.int .i64 (Smm.civ l t)) W)) := Lib.hid fun W hW => rcivil_any A n c l t W ((hl.below hW).mono hW.size) hn C.v t0 t1
    have cb : -200000000 ≤ Smm.civ l t ∧ Smm.civ l t ≤ 3000000000000000 + 200000000 := by omega
    rw [hE] at hD ⊢
    clear hE hcv hob hf
    generalize Smm.smV l h t = S at *
    generalize Smm.civ l t = V at *
    go_enter Try.func14, Try.ntmps14
    go_wp2_with fail
    refine hD.out.mono ?_
    rintro e w1 ⟨rfl, hb1⟩
    go_wp2_with fail
    refine (hS.out _ hb1).mono ?_
    rintro e w2 ⟨rfl, hb2⟩
    go_wp2_with fail
    refine (hC.out _ (Below.go hb1 hb2)).mono ?_
    rintro e w3 ⟨rfl, hb3⟩
    go_wp2
    go_ret2
    exact ⟨ret_two z.out.symm rfl, Below.go (Below.go hb1 hb2) hb3⟩
  · have hz := Lib.hid (toE_far hE).2.2
    have hne := bne_of hE
    generalize Smm.toE l h t = E at *
    go_enter Try.func14, Try.ntmps14
    go_wp2_with fail
    refine hD.out.mono ?_
    rintro e w1 ⟨rfl, hb1⟩
    go_wp2
    go_ret2
    exact ⟨ret_two hz.out.symm rfl, hb1⟩
set_option maxHeartbeats 1000000 in
theorem rend_any (A : Option Addr) (n c : Nat) (l : Lpm.LL) (w : World) (hl : Lp w.heap.size w A n l) (hn : n ≤ 110) (hv : Lpm.valid l = true) : Calls Try.prog 47 #[.slice A n c] w (RetB (.int .i64 (Smm.fin l)) w) := by
  have hS := Lib.hid (rStart_ok w.heap.size A n c l 34000 w hl (Nat.le_refl _) hn hv (by omega) (by omega))
  have he := Smm.end_bd hv
  have hz : Hid (Smm.fin l = Lpm.start l 34000 + 86400000000) := Lib.hid he.1
  generalize Lpm.start l 34000 = S at *
  go_enter Try.func47, Try.ntmps47
  go_wp2_with fail
  refine hS.out.mono ?_
  rintro e w1 ⟨rfl, hb1⟩
  go_wp2
  go_ret
  exact ⟨ret_int hz.out.symm, hb1⟩
set_option maxHeartbeats 2000000 in
theorem rfirst_any (A : Option Addr) (n c : Nat) (l : Lpm.LL) (h v : Int) (w : World) (hl : Lp w.heap.size w A n l) (hn : n ≤ 110) (hc : Smm.Can l h) : Calls Try.prog 35 #[.slice A n c, .int .i64 h, .int .i64 v] w (RetB (.int .i64 (Smm.fst l h v)) w) := by
  have hE := Lib.hid (rend_any A n c l w hl hn hc.v)
  have hS : Hid (∀ W t, Below w.heap.size w W → 0 ≤ t → t < Smm.fin l → Calls Try.prog 28 #[.slice A n c, .int .i64 h, .int .i64 t] W (RetB (.int .i64 (Smm.smV l h t)) W)) := Lib.hid fun W t hW t0 t1 => rsmeared_any A n c l h t W ((hl.below hW).mono hW.size) hn hc t0 t1
  have hfb := Smm.fin_bd hc
  have hsp := Smm.fst_spec hc v
  have HF := Lib.hid (fun i => Smm.found (i := i) (h := h) (v := v) (lo := 0) (hi := Smm.fin l) hc (by omega) (by omega) hsp.1 hsp.2.1)
  clear hsp hl hc
  generalize Smm.fin l = N at *
  go_enter Try.func35, Try.ntmps35
  go_wp2_with fail
  refine hE.out.mono ?_
  rintro e w1 ⟨rfl, hb1⟩
  go_wp2
  go_loopw [7, 8] (fun a b wr => ∃ i j : Int, 0 ≤ i ∧ i ≤ j ∧ j ≤ N ∧ a = .int .i64 i ∧ b = .int .i64 j ∧ Hid (0 < i → Smm.smV l h (i - 1) < v) ∧ Hid (j < N → v ≤ Smm.smV l h j) ∧ Below w.heap.size w wr) (fun a b _ => (intOf b - intOf a).toNat)
  case atStart => exact ⟨0, N, by omega, by omega, by omega, rfl, rfl, Lib.hid (fun h => by omega), Lib.hid (fun h => by omega), hb1⟩
  case round =>
    obtain ⟨i, j, h1, h2, h3, rfl, rfl, hlo, hhi, hb⟩ := hrel
    by_cases hlt : i < j
    · have hce : ∃ x, (i + j) / 2 = x ∧ i ≤ x ∧ x < j := ⟨_, rfl, by omega, by omega⟩
      obtain ⟨x, hh, hh1, hh2⟩ := hce
      have ht : (i + j).tdiv 2 = x := by rw [Int.tdiv_eq_ediv_of_nonneg (by omega)]; exact hh
      have hP := Lib.hid (hS.out wr x hb (by omega) (by omega))
      have q : decide (i < j) = true := decide_eq_true hlt
      have wx : IntKind.i64.wrap x = x := IntWalk.i64_in _ (by omega)
      have hl1 : Hid (Smm.smV l h x < v → 0 < x + 1 → Smm.smV l h (x + 1 - 1) < v) := Lib.hid fun a _ => by rw [show x + 1 - 1 = x by omega]; exact a
      generalize hSx : Smm.smV l h x = S at *
      have HSx := Lib.hid hSx
      clear hSx hh
      by_cases hv : v ≤ S
      · have hd : decide (v ≤ S) = true := decide_eq_true hv
        go_wp2_with fail
        refine hP.out.mono ?_
        rintro e w2 ⟨rfl, hw⟩
        go_wp2
        go_roundw
        case rel => exact ⟨i, x, by omega, by omega, by omega, rfl, rfl, hlo, Lib.hid (fun _ => by rw [HSx.out]; exact hv), Below.go hb hw⟩
        case measure => simp [intOf]; omega
      · have hd : decide (v ≤ S) = false := decide_eq_false hv
        have hl2 := Lib.hid (hl1.out (by omega))
        go_wp2_with fail
        refine hP.out.mono ?_
        rintro e w2 ⟨rfl, hw⟩
        go_wp2
        go_roundw
        case rel => exact ⟨x + 1, j, by omega, by omega, by omega, rfl, rfl, hl2, hhi, Below.go hb hw⟩
        case measure => simp [intOf]; omega
    · obtain rfl : i = j := by omega
      have hfin : Hid (Smm.fst l h v = i) := Lib.hid (by have := HF.out i h1 (by omega) (fun q => by rw [Int.zero_add]; exact hlo.out q) (fun q => by rw [Int.zero_add]; exact hhi.out (by omega)); omega)
      have q : decide (i < i) = false := decide_eq_false (by omega)
      go_wp2
      go_ret
      exact ⟨ret_int hfin.out.symm, hb⟩
set_option maxHeartbeats 2000000 in
set_option maxRecDepth 100000 in
theorem rFrom_any (A : Option Addr) (m c : Nat) (tl : Lpm.LL) (h v : Int) (w : World) (hL : Lp w.heap.size w A m tl) (hm : m ≤ 110) : Calls Try.prog 18 #[.slice A m c, .int .i64 h, .int .i64 v] w (RetB (.tuple #[I2 (Smm.frLo tl h v) (Smm.frHi tl h v), .bool (Smm.frI tl h v), .int .i64 (Smm.frE tl h v)]) w) := by
  have hb0 : Below w.heap.size w (w.alloc (oIv 0 0)) := (Below.refl _ _).alloc (Nat.le_refl _) _
  have kr := Lib.hid (heap_new w (oIv 0 0))
  have hC := Lib.hid (rCan_any A m c tl h _ ((hL.below hb0).mono hb0.size) hm)
  cases hf : Smm.fr tl h v
  · have hz := Lib.hid (Smm.fr_bad hf)
    rcases fr_ways hf with h1 | ⟨h1, h2⟩ | ⟨h1, h2, h3⟩
    all_goals
      rw [h1] at hC
      clear hf h1 hL
      go_enter Try.func18, Try.ntmps18
      go_wp2_with fail
      refine hC.out.mono ?_
      rintro e w1 ⟨rfl, hb1⟩
      have hb := Below.go hb0 hb1
      obtain ⟨⟨d0, d1⟩, f0, f1⟩ := blk2 (keep' kr.out hb1)
      go_wp2
      exact bodyPost_ret (v := .tuple #[I2 0 0, .bool false, .int .i64 1]) (by simp [results, Try.results18, go_sem, d0, d1]) rfl ⟨ret_fr hz.out.2.2.1 hz.out.2.2.2 hz.out.2.1 hz.out.1, by (repeat (with_reducible first | exact hb | refine Below.drew ?_ | refine Below.setCell ?_ ?_ _)); all_goals (first | omega | (simp; done) | (simp; omega))⟩
  · unfold Smm.fr at hf
    simp only [Bool.and_eq_true, decide_eq_true_eq] at hf
    obtain ⟨hc, v0, v1⟩ := hf
    rw [hc] at hC
    have C := Smm.can_yes hc
    have hfb := Smm.fin_bd C
    have hs1 := Smm.fst_spec C v
    have hs2 := Smm.fst_spec C (v + 1)
    have HA : Hid (∀ W, Below w.heap.size w W → Calls Try.prog 35 #[.slice A m c, .int .i64 h, .int .i64 v] W (RetB (.int .i64 (Smm.fst tl h v)) W)) := Lib.hid fun W hW => rfirst_any A m c tl h v W ((hL.below hW).mono hW.size) hm C
    have HB : Hid (∀ W, Below w.heap.size w W → Calls Try.prog 35 #[.slice A m c, .int .i64 h, .int .i64 (v + 1)] W (RetB (.int .i64 (Smm.fst tl h (v + 1))) W)) := Lib.hid fun W hW => rfirst_any A m c tl h (v + 1) W ((hL.below hW).mono hW.size) hm C
    have hz : Hid ((Smm.fst tl h v < Smm.fst tl h (v + 1) → Smm.frE tl h v = 0 ∧ Smm.frI tl h v = true ∧ Smm.frLo tl h v = Smm.fst tl h v ∧ Smm.frHi tl h v = Smm.fst tl h (v + 1) - 1) ∧ (¬ Smm.fst tl h v < Smm.fst tl h (v + 1) → Smm.frE tl h v = 0 ∧ Smm.frI tl h v = false ∧ Smm.frLo tl h v = 0 ∧ Smm.frHi tl h v = 0)) := Lib.hid ⟨fun g => Smm.fr_is C v0 v1 g, fun g => Smm.fr_none C v0 v1 g⟩
    have b1 := hs1.1
    have b2 := hs1.2.1
    have b3 := hs2.1
    have b4 := hs2.2.1
    have u1 : decide (v < 0) = false := decide_eq_false (by omega)
    have u2 : decide (3000000000000000 < v) = false := decide_eq_false (by omega)
    clear hs1 hs2 C hc hL
    generalize Smm.fst tl h v = F at *
    generalize Smm.fst tl h (v + 1) = G at *
    by_cases hFG : F < G
    · have hz2 := Lib.hid (hz.out.1 hFG)
      have q3 : decide (G ≤ F) = false := decide_eq_false (by omega)
      go_enter Try.func18, Try.ntmps18
      go_wp2_with fail
      refine hC.out.mono ?_
      rintro e w1 ⟨rfl, hb1⟩
      have hb := Below.go hb0 hb1
      go_wp2_with fail
      refine (HA.out _ hb).mono ?_
      rintro e w2 ⟨rfl, hb2⟩
      go_wp2_with fail
      refine (HB.out _ (Below.go hb hb2)).mono ?_
      rintro e w3 ⟨rfl, hb3⟩
      have hbF := Below.go (Below.go hb hb2) hb3
      obtain ⟨⟨d0, d1⟩, f0, f1⟩ := blk2 (keep' (keep' (keep' kr.out hb1) hb2) hb3)
      go_wp2
      exact bodyPost_ret (v := .tuple #[I2 F (G - 1), .bool true, .int .i64 0]) (by simp [results, Try.results18, go_sem, d0, d1]) rfl ⟨ret_fr hz2.out.2.2.1 hz2.out.2.2.2 hz2.out.2.1 hz2.out.1, by (repeat (with_reducible first | exact hbF | refine Below.drew ?_ | refine Below.setCell ?_ ?_ _)); all_goals (first | omega | (simp; done) | (simp; omega))⟩
    · have hz2 := Lib.hid (hz.out.2 hFG)
      have q3 : decide (G ≤ F) = true := decide_eq_true (by omega)
      go_enter Try.func18, Try.ntmps18
      go_wp2_with fail
      refine hC.out.mono ?_
      rintro e w1 ⟨rfl, hb1⟩
      have hb := Below.go hb0 hb1
      go_wp2_with fail
      refine (HA.out _ hb).mono ?_
      rintro e w2 ⟨rfl, hb2⟩
      go_wp2_with fail
      refine (HB.out _ (Below.go hb hb2)).mono ?_
      rintro e w3 ⟨rfl, hb3⟩
      have hbF := Below.go (Below.go hb hb2) hb3
      obtain ⟨⟨d0, d1⟩, f0, f1⟩ := blk2 (keep' (keep' (keep' kr.out hb1) hb2) hb3)
      go_wp2
      exact bodyPost_ret (v := .tuple #[I2 0 0, .bool false, .int .i64 0]) (by simp [results, Try.results18, go_sem, d0, d1]) rfl ⟨ret_fr hz2.out.2.2.1 hz2.out.2.2.2 hz2.out.2.1 hz2.out.1, by (repeat (with_reducible first | exact hbF | refine Below.drew ?_ | refine Below.setCell ?_ ?_ _)); all_goals (first | omega | (simp; done) | (simp; omega))⟩
end Go.Proofs.Ytcabegloipllhaa
