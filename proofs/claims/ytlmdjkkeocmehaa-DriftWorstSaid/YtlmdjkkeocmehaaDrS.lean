/- The contract of the reference's Several: the same plain values; nothing that was there has changed. -/
import Derived.Test.YtlmdjkkeocmehaaDrR
set_option linter.unusedVariables false
namespace Go.Proofs.Ytlmdjkkeocmehaa
open Go.RowKit
set_option maxHeartbeats 2000000 in
set_option maxRecDepth 100000 in
theorem rSeveral_no (v : TabV) (t : Tab.Tb) (A : Option Addr) (n c : Nat) (l : List Tab.Sg) (w : World) (ht : TabIn w v t) (h : Tab.valid t = false) :
    Calls Try.prog 22 #[T3 v, .slice A n c] w (RetB (.tuple #[I2 (Tab.several t l).1 (Tab.several t l).2.1, .int .i64 (Tab.several t l).2.2]) w) := by
  have hb0 := below2 w (oT v) (oRg 0 0)
  have k1 := Lib.hid (new1 w (oT v) (oRg 0 0))
  have hval := Lib.hid (rValid_any v t _ (ht.below hb0))
  rw [h] at hval
  have hz : Hid (Tab.several t l = (0, 0, 1)) := Lib.hid (by unfold Tab.several; rw [h]; rfl)
  clear ht h
  obtain ⟨A1, n1, c1, A2, n2, c2, A3, n3, c3⟩ := v
  go_enter Try.func22, Try.ntmps22
  go_wp2_with fail
  refine hval.out.mono ?_
  rintro e w1 ⟨rfl, hb1⟩
  have hb := Below.go hb0 hb1
  obtain ⟨⟨d0, d1⟩, f0, f1⟩ := blk2 (keep' k1.out hb1)
  go_wp2
  exact bodyPost_ret (v := .tuple #[I2 0 0, .int .i64 1]) (by simp [results, Try.results22, go_sem, d0, d1]) rfl ⟨ret_v3 hz.out, by (repeat (with_reducible first | exact hb | refine Below.drew ?_ | refine Below.setCell ?_ ?_ _)); all_goals (first | omega | (simp; done) | (simp; omega))⟩
set_option maxHeartbeats 2000000 in
set_option maxRecDepth 100000 in
theorem rSeveral_long (v : TabV) (t : Tab.Tb) (A : Option Addr) (n c : Nat) (l : List Tab.Sg) (w : World) (ht : TabIn w v t) (h : Tab.valid t = true) (hl : l.length = n) (hn : 64 < n) :
    Calls Try.prog 22 #[T3 v, .slice A n c] w (RetB (.tuple #[I2 (Tab.several t l).1 (Tab.several t l).2.1, .int .i64 (Tab.several t l).2.2]) w) := by
  have hb0 := below2 w (oT v) (oRg 0 0)
  have k1 := Lib.hid (new1 w (oT v) (oRg 0 0))
  have hval := Lib.hid (rValid_any v t _ (ht.below hb0))
  rw [h] at hval
  have hz : Hid (Tab.several t l = (0, 0, 2)) := Lib.hid (by unfold Tab.several; rw [h, if_pos rfl, if_pos (by omega)])
  have q : decide (64 < n) = true := decide_eq_true hn
  clear ht h hl
  obtain ⟨A1, n1, c1, A2, n2, c2, A3, n3, c3⟩ := v
  go_enter Try.func22, Try.ntmps22
  go_wp2_with fail
  refine hval.out.mono ?_
  rintro e w1 ⟨rfl, hb1⟩
  have hb := Below.go hb0 hb1
  obtain ⟨⟨d0, d1⟩, f0, f1⟩ := blk2 (keep' k1.out hb1)
  go_wp2
  exact bodyPost_ret (v := .tuple #[I2 0 0, .int .i64 2]) (by simp [results, Try.results22, go_sem, d0, d1]) rfl ⟨ret_v3 hz.out, by (repeat (with_reducible first | exact hb | refine Below.drew ?_ | refine Below.setCell ?_ ?_ _)); all_goals (first | omega | (simp; done) | (simp; omega))⟩
set_option maxHeartbeats 4000000 in
set_option maxRecDepth 100000 in
theorem rSeveral_ok (v : TabV) (t : Tab.Tb) (A : Option Addr) (n c : Nat) (l : List Tab.Sg) (w : World) (ht : TabIn w v t) (hg : Lg w.heap.size w A n l) (h : Tab.valid t = true) (hn : n ≤ 64) :
    Calls Try.prog 22 #[T3 v, .slice A n c] w (RetB (.tuple #[I2 (Tab.several t l).1 (Tab.several t l).2.1, .int .i64 (Tab.several t l).2.2]) w) := by
  have hb0 := below2 w (oT v) (oRg 0 0)
  have k0 := Lib.hid (new0 w (oT v) (oRg 0 0))
  have k1 := Lib.hid (new1 w (oT v) (oRg 0 0))
  have hval := Lib.hid (rValid_any v t _ (ht.below hb0))
  rw [h] at hval
  have HT := Lib.hid ht
  have HG := Lib.hid hg
  have hz : Hid (Tab.several t l = Tab.sv t l 0 0) := Lib.hid (by unfold Tab.several; rw [h, if_pos rfl, if_neg (by rw [hg.1]; omega)])
  have q : decide (64 < n) = false := decide_eq_false (by omega)
  clear ht h hg
  have hW : Hid (∀ W (s : Tab.Sg), Below w.heap.size w W → Calls Try.prog 16 #[T3 v, I2 s.x1 s.x2, I2 s.y1 s.y2] W (RetB (.tuple #[.int .i64 (Tab.wV t s.x1 s.x2 s.y1 s.y2), .int .i64 (Tab.wE t s.x1 s.x2 s.y1 s.y2)]) W)) := Lib.hid fun W s hW => rWorst_any v t _ _ _ _ W (HT.out.below hW)
  obtain ⟨A1, n1, c1, A2, n2, c2, A3, n3, c3⟩ := v
  dsimp only [T3, s1, s2, s3, oT] at *
  go_enter Try.func22, Try.ntmps22
  go_wp2_with fail
  refine hval.out.mono ?_
  rintro e w1 ⟨rfl, hb1⟩
  have hb := Below.go hb0 hb1
  have K0 := Lib.hid (keepN (keep' k0.out hb1) (oRg 0 0))
  have K1 := Lib.hid (keepN (keep' k1.out hb1) (oRg 0 0))
  have K6 := Lib.hid (heap_new w1 (oRg 0 0))
  have hbN := Below.goN hb (oRg 0 0)
  have hs1 := lt_of_heap (keep' k1.out hb1)
  clear hval k0 k1 hb0 hb1
  go_wp2
  go_loopg [8] n (fun g s8 wr => ∃ (k : Nat) (lo hi : Int), k + g = n ∧ s8 = .int .i64 k ∧ Hid (Tab.sv t l 0 0 = Tab.sv t (l.drop k) lo hi) ∧ (0 ≤ lo ∧ lo ≤ k * 2000000000000000 ∧ 0 ≤ hi ∧ hi ≤ k * 2000000000000000) ∧ Hid (wr.heap[w1.heap.size]? = some (oRg lo hi)) ∧ Hid (wr.heap[w.heap.size]? = some (oT ⟨A1, n1, c1, A2, n2, c2, A3, n3, c3⟩)) ∧ Hid (wr.heap[w.heap.size + 1]? = some (oRg 0 0)) ∧ Below w.heap.size w wr)
  case atStart => exact ⟨0, 0, 0, by omega, rfl, Lib.hid rfl, ⟨by omega, by omega, by omega, by omega⟩, K6, K0, K1, hbN⟩
  case round =>
    clear K6 K0 K1 hbN
    obtain ⟨k, lo, hi, hkg, rfl, HI, ⟨l1, l2, l3, l4⟩, K6, K0, K1, hb'⟩ := hrel
    obtain ⟨⟨p0, p1⟩, fp0, fp1⟩ := blk2 K6.out
    have z6 := lt_of_heap K6.out
    have z1 := lt_of_heap K1.out
    cases gk with
    | zero =>
      obtain rfl : k = n := by omega
      have q2 : decide ((k : Int) < (k : Int)) = false := decide_eq_false (by omega)
      obtain ⟨⟨d0, d1⟩, f0, f1⟩ := blk2 K1.out
      have hd : Hid (l.drop k = []) := Lib.hid (List.drop_eq_nil_of_le (by rw [HG.out.1]; omega))
      by_cases hc : 3000000000000000 < hi
      · have hV : Hid (Tab.several t l = (0, 0, 3)) := Lib.hid (hz.out.trans (HI.out.trans (by rw [hd.out]; exact if_pos hc)))
        go_wp2
        exact bodyPost_ret (v := .tuple #[I2 0 0, .int .i64 3]) (by simp [results, Try.results22, go_sem, d0, d1]) rfl ⟨ret_v3 hV.out, by (repeat (with_reducible first | exact hb' | refine Below.drew ?_ | refine Below.setCell ?_ ?_ _)); all_goals (first | omega | (simp; done) | (simp; omega))⟩
      · have hV : Hid (Tab.several t l = (lo, hi, 0)) := Lib.hid (hz.out.trans (HI.out.trans (by rw [hd.out]; exact if_neg hc)))
        have qc : decide (3000000000000000 < hi) = false := decide_eq_false hc
        go_wp2
        exact bodyPost_ret (v := .tuple #[I2 lo hi, .int .i64 0]) (by simp [results, Try.results22, go_sem, d0, d1]) rfl ⟨ret_v3 hV.out, by (repeat (with_reducible first | exact hb' | refine Below.drew ?_ | refine Below.setCell ?_ ?_ _)); all_goals (first | omega | (simp; done) | (simp; omega))⟩
    | succ g =>
      obtain ⟨b, off, rfl, hbB, hc⟩ := HG.out.2 (by omega)
      have HC := Lib.hid (hc k (by omega))
      have HS : Hid (∀ W, Below w.heap.size w W → W.cell? ⟨b, off + k * 5, none⟩ = some (.int .i64 (Tab.sAt l k).n) ∧ W.cell? ⟨b, off + k * 5 + 1, none⟩ = some (.int .i64 (Tab.sAt l k).x1) ∧ W.cell? ⟨b, off + k * 5 + 2, none⟩ = some (.int .i64 (Tab.sAt l k).x2) ∧ W.cell? ⟨b, off + k * 5 + 3, none⟩ = some (.int .i64 (Tab.sAt l k).y1) ∧ W.cell? ⟨b, off + k * 5 + 4, none⟩ = some (.int .i64 (Tab.sAt l k).y2)) := Lib.hid fun W hW =>
        ⟨(hW.cell (p := ⟨b, off + k * 5, none⟩) hbB).trans HC.out.1, (hW.cell (p := ⟨b, off + k * 5 + 1, none⟩) hbB).trans HC.out.2.1, (hW.cell (p := ⟨b, off + k * 5 + 2, none⟩) hbB).trans HC.out.2.2.1, (hW.cell (p := ⟨b, off + k * 5 + 3, none⟩) hbB).trans HC.out.2.2.2.1, (hW.cell (p := ⟨b, off + k * 5 + 4, none⟩) hbB).trans HC.out.2.2.2.2⟩
      have hd := Lib.hid (Tab.drop_at HG.out.1 (show k < n by omega))
      clear hc HC
      generalize Tab.sAt l k = s at *
      obtain ⟨g0, g1, g2, g3, g4⟩ := HS.out _ hb'
      have j0 : (0 : Int) ≤ (k : Int) := by omega
      have j1 : (k : Int) < (n : Int) := by omega
      have j2 : decide ((k : Int) < (n : Int)) = true := decide_eq_true j1
      have j3 : decide (k < n) = true := decide_eq_true (by omega)
      have hI2 : Hid (Tab.several t l = Tab.sv t (s :: l.drop (k + 1)) lo hi) := Lib.hid (hz.out.trans (by rw [HI.out, hd.out]))
      have hI3 : Hid (Tab.sv t l 0 0 = Tab.sv t (s :: l.drop (k + 1)) lo hi) := Lib.hid (by rw [HI.out, hd.out])
      clear hd HI hz
      have hE : Hid (Tab.sgE t s = if Drm.sB s.n then Tab.wE t s.x1 s.x2 s.y1 s.y2 else 1) := Lib.hid rfl
      cases hs : Drm.sB s.n
      · have hV : Hid (Tab.several t l = (0, 0, 1)) := Lib.hid (hI2.out.trans (sv_stop (hE.out.trans (by rw [hs]; rfl)) (by omega)))
        obtain ⟨⟨d0, d1⟩, f0, f1⟩ := blk2 K1.out
        go_wp2_with (go_at_call 39; refine (rStretch_any _ _).mono ?_; rintro e w' ⟨rfl, rfl⟩)
        exact bodyPost_ret (v := .tuple #[I2 0 0, .int .i64 1]) (by simp [results, Try.results22, go_sem, d0, d1]) rfl ⟨ret_v3 hV.out, by (repeat (with_reducible first | exact hb' | refine Below.drew ?_ | refine Below.setCell ?_ ?_ _ | refine Below.alloc ?_ ?_ _)); all_goals (first | omega | (simp; done) | (simp; omega))⟩
      have HP : Hid (∀ W, Below wr.heap.size wr W → (W.cell? ⟨b, off + k * 5 + 1, none⟩ = some (.int .i64 s.x1) ∧ W.cell? ⟨b, off + k * 5 + 2, none⟩ = some (.int .i64 s.x2) ∧ W.cell? ⟨b, off + k * 5 + 3, none⟩ = some (.int .i64 s.y1) ∧ W.cell? ⟨b, off + k * 5 + 4, none⟩ = some (.int .i64 s.y2)) ∧ W.cell? ⟨w.heap.size, 0, none⟩ = some (.slice A1 n1 c1) ∧ W.cell? ⟨w.heap.size, 1, none⟩ = some (.slice A2 n2 c2) ∧ W.cell? ⟨w.heap.size, 2, none⟩ = some (.slice A3 n3 c3)) := Lib.hid fun W hW =>
        ⟨(HS.out _ (Below.go hb' hW)).2, (blk3 (keep' K0.out hW)).1⟩
      by_cases hw : Tab.wE t s.x1 s.x2 s.y1 s.y2 = 0
      · have hS : Tab.sgE t s = 0 := hE.out.trans (by rw [hs]; exact hw)
        obtain ⟨⟨n1', n2'⟩, -, -, lo1, lo2, hi1, hi2⟩ := Tab.sg_ok hS
        obtain ⟨s1', s2', s3'⟩ := Tab.sg_el hS
        have hV : Hid (Tab.sv t l 0 0 = Tab.sv t (l.drop (k + 1)) (lo + Tab.sgLo t s) (hi + Tab.sgHi t s)) := Lib.hid (hI3.out.trans (sv_go hS))
        have hWs : Hid (∀ W, Below w.heap.size w W → Calls Try.prog 16 #[.agg #[.slice A1 n1 c1, .slice A2 n2 c2, .slice A3 n3 c3], I2 s.x1 s.x2, I2 s.y1 s.y2] W (RetB (.tuple #[.int .i64 (Tab.sgR t s), .int .i64 0]) W)) := Lib.hid fun W h => by have := hW.out W s h; rw [hw] at this; exact this
        have hEl : Hid (∀ W, Calls Try.prog 18 #[.int .i64 (Tab.sgR t s), .int .i64 s.n] W (RetB (.tuple #[I2 (Tab.sgLo t s) (Tab.sgHi t s), .int .i64 0]) W)) := Lib.hid fun W => by have := rElapsed_any (Tab.sgR t s) s.n W; rw [s1', s2', s3'] at this; exact this
        clear hw hS s1' s2' s3' hE hI2 hI3 hW
        generalize Tab.sgR t s = R at *
        generalize Tab.sgLo t s = L at *
        generalize Tab.sgHi t s = H at *
        clear g1 g2 g3 g4
        go_wp2_with (go_at_call 39; refine (rStretch_any _ _).mono ?_; rintro e w' ⟨rfl, rfl⟩)
        go_region_held3 (fun W => (W.cell? ⟨b, off + k * 5 + 1, none⟩ = some (.int .i64 s.x1) ∧ W.cell? ⟨b, off + k * 5 + 2, none⟩ = some (.int .i64 s.x2) ∧ W.cell? ⟨b, off + k * 5 + 3, none⟩ = some (.int .i64 s.y1) ∧ W.cell? ⟨b, off + k * 5 + 4, none⟩ = some (.int .i64 s.y2)) ∧ W.cell? ⟨w.heap.size, 0, none⟩ = some (.slice A1 n1 c1) ∧ W.cell? ⟨w.heap.size, 1, none⟩ = some (.slice A2 n2 c2) ∧ W.cell? ⟨w.heap.size, 2, none⟩ = some (.slice A3 n3 c3))
          (first | exact HP.out _ hbX | exact HP.out _ (Below.refl _ _).drew | exact HP.out _ (Below.refl _ _))
          (first | (go_at_call 16; refine (hWs.out _ hb'.drew).mono ?_; rintro e w2 ⟨rfl, hb2⟩; have hbX := (Below.refl wr.heap.size wr).drew.trans hb2))
        clear g0 p0 p1 fp0 fp1
        have hbB2 := Below.goD hb' hb2
        have K0B := Lib.hid (keepD K0.out hb2)
        have K1B := Lib.hid (keepD K1.out hb2)
        have K6B := Lib.hid (keepD K6.out hb2)
        have g0 := (HS.out _ hbB2).1
        clear hb2 hbX HP
        go_wp2_with fail
        refine (hEl.out _).mono ?_
        rintro e w3 ⟨rfl, hb3⟩
        clear g0
        have hbC := Below.go hbB2 hb3
        have K0C := Lib.hid (keep' K0B.out hb3)
        have K1C := Lib.hid (keep' K1B.out hb3)
        have K6C := Lib.hid (keep' K6B.out hb3)
        clear K0B K1B K6B hb3 hbB2
        have hsz := hb.size
        have z6 := lt_of_heap K6C.out
        have K0E := Lib.hid (keepN K0C.out (oRg L H))
        have K1E := Lib.hid (keepN K1C.out (oRg L H))
        have K6E := Lib.hid (keepN K6C.out (oRg L H))
        have hbE := Below.goN hbC (oRg L H)
        obtain ⟨⟨p0, p1⟩, f0, f1⟩ := blk2 K6E.out
        obtain ⟨⟨p0', p1'⟩, f0', f1'⟩ := blk2 K6C.out
        go_wp2
        go_roundg g
        case measure => omega
        case rel => exact ⟨k + 1, lo + L, hi + H, by omega, by go_num, hV, ⟨by omega, by omega, by omega, by omega⟩, Lib.hid (keepN (st2 K6C.out _ _) _), Lib.hid (keepN (st2o K0C.out (by omega) _ _) _), Lib.hid (keepN (st2o K1C.out (by omega) _ _) _), Below.goN (Below.set2 hbC _ _ (by omega)) _⟩
      · have hV : Hid (Tab.several t l = (0, 0, Tab.wE t s.x1 s.x2 s.y1 s.y2)) := Lib.hid (hI2.out.trans (sv_stop (hE.out.trans (by rw [hs]; rfl)) hw))
        have hne := bne_of hw
        have hWs := Lib.hid (fun W h => hW.out W s h)
        clear hw hE hI2 hI3 hW
        generalize Tab.wE t s.x1 s.x2 s.y1 s.y2 = E at *
        generalize Tab.wV t s.x1 s.x2 s.y1 s.y2 = V at *
        clear g1 g2 g3 g4
        go_wp2_with (go_at_call 39; refine (rStretch_any _ _).mono ?_; rintro e w' ⟨rfl, rfl⟩)
        go_region_held3 (fun W => (W.cell? ⟨b, off + k * 5 + 1, none⟩ = some (.int .i64 s.x1) ∧ W.cell? ⟨b, off + k * 5 + 2, none⟩ = some (.int .i64 s.x2) ∧ W.cell? ⟨b, off + k * 5 + 3, none⟩ = some (.int .i64 s.y1) ∧ W.cell? ⟨b, off + k * 5 + 4, none⟩ = some (.int .i64 s.y2)) ∧ W.cell? ⟨w.heap.size, 0, none⟩ = some (.slice A1 n1 c1) ∧ W.cell? ⟨w.heap.size, 1, none⟩ = some (.slice A2 n2 c2) ∧ W.cell? ⟨w.heap.size, 2, none⟩ = some (.slice A3 n3 c3))
          (first | exact HP.out _ hbX | exact HP.out _ (Below.refl _ _).drew | exact HP.out _ (Below.refl _ _))
          (first | (go_at_call 16; refine (hWs.out _ hb'.drew).mono ?_; rintro e w2 ⟨rfl, hb2⟩; have hbX := (Below.refl wr.heap.size wr).drew.trans hb2))
        clear g0 p0 p1 fp0 fp1
        have hbB2 := Below.goD hb' hb2
        obtain ⟨⟨d0, d1⟩, f0, f1⟩ := blk2 (keepD K1.out hb2)
        clear hb2 hbX HP
        go_wp2
        exact bodyPost_ret (v := .tuple #[I2 0 0, .int .i64 E]) (by simp [results, Try.results22, go_sem, d0, d1]) rfl ⟨ret_v3 hV.out, by (repeat (with_reducible first | exact hbB2 | refine Below.drew ?_ | refine Below.setCell ?_ ?_ _)); all_goals (first | omega | (simp; done) | (simp; omega))⟩
theorem rSeveral_any (v : TabV) (t : Tab.Tb) (A : Option Addr) (n c : Nat) (l : List Tab.Sg) (w : World) (ht : TabIn w v t) (hg : Lg w.heap.size w A n l) (hn : n ≤ 9223372036854775807) :
    Calls Try.prog 22 #[T3 v, .slice A n c] w (RetB (.tuple #[I2 (Tab.several t l).1 (Tab.several t l).2.1, .int .i64 (Tab.several t l).2.2]) w) := by
  cases h : Tab.valid t
  · exact rSeveral_no v t A n c l w ht h
  by_cases h2 : 64 < n
  · exact rSeveral_long v t A n c l w ht h hg.1 h2
  · exact rSeveral_ok v t A n c l w ht hg h (by omega)
end Go.Proofs.Ytlmdjkkeocmehaa
