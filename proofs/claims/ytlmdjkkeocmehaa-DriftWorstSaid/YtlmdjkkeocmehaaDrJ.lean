/- The contract of drift.Several. -/
import Derived.Test.YtlmdjkkeocmehaaDrI
set_option linter.unusedVariables false
namespace Go.Proofs.Ytlmdjkkeocmehaa
open Go.RowKit
abbrev oSg (s : Tab.Sg) : Obj := .cells #[.int .i64 s.n, .int .i64 s.x1, .int .i64 s.x2, .int .i64 s.y1, .int .i64 s.y2] 45
theorem blk5 {W : World} {k : Nat} {x y z u v : Value} {t : TypeId} (h : W.heap[k]? = some (.cells #[x, y, z, u, v] t)) : W.cell? ⟨k, 0, none⟩ = some x ∧ W.cell? ⟨k, 1, none⟩ = some y ∧ W.cell? ⟨k, 2, none⟩ = some z ∧ W.cell? ⟨k, 3, none⟩ = some u ∧ W.cell? ⟨k, 4, none⟩ = some v := by
  simp [World.cell?, h]
theorem sv_stop {t : Tab.Tb} {s : Tab.Sg} {r : List Tab.Sg} {lo hi e : Int} (h : Tab.sgE t s = e) (he : e ≠ 0) : Tab.sv t (s :: r) lo hi = (0, 0, e) := by
  have : Tab.sv t (s :: r) lo hi = if Tab.sgE t s = 0 then Tab.sv t r (lo + Tab.sgLo t s) (hi + Tab.sgHi t s) else (0, 0, Tab.sgE t s) := rfl
  rw [this, h, if_neg he]
theorem sv_go {t : Tab.Tb} {s : Tab.Sg} {r : List Tab.Sg} {lo hi : Int} (h : Tab.sgE t s = 0) : Tab.sv t (s :: r) lo hi = Tab.sv t r (lo + Tab.sgLo t s) (hi + Tab.sgHi t s) := if_pos h
set_option maxHeartbeats 4000000 in
set_option maxRecDepth 100000 in
theorem Several_ok (v : TabV) (t : Tab.Tb) (A : Option Addr) (n c : Nat) (l : List Tab.Sg) (w : World) (ht : TabIn w v t) (hg : Lg w.heap.size w A n l) (h : Tab.valid t = true) (hn : n ≤ 64) :
    Calls Try.prog 21 #[T3 v, .slice A n c] w (RetB (.tuple #[I2 (Tab.several t l).1 (Tab.several t l).2.1, .int .i64 (Tab.several t l).2.2]) w) := by
  have hb0 := below2 w (oT v) (oRg 0 0)
  have k0 := Lib.hid (new0 w (oT v) (oRg 0 0))
  have k1 := Lib.hid (new1 w (oT v) (oRg 0 0))
  have hval := Lib.hid (Valid_any v t _ (ht.below hb0))
  rw [h] at hval
  have HT := Lib.hid ht
  have HG := Lib.hid hg
  have hz : Hid (Tab.several t l = Tab.sv t l 0 0) := Lib.hid (by unfold Tab.several; rw [h, if_pos rfl, if_neg (by rw [hg.1]; omega)])
  have q : decide (64 < n) = false := decide_eq_false (by omega)
  clear ht h hg
  have hW : Hid (∀ W (s : Tab.Sg), Below w.heap.size w W → Calls Try.prog 15 #[T3 v, I2 s.x1 s.x2, I2 s.y1 s.y2] W (RetB (.tuple #[.int .i64 (Tab.wV t s.x1 s.x2 s.y1 s.y2), .int .i64 (Tab.wE t s.x1 s.x2 s.y1 s.y2)]) W)) := Lib.hid fun W s hW => Worst_any v t _ _ _ _ W (HT.out.below hW)
  obtain ⟨A1, n1, c1, A2, n2, c2, A3, n3, c3⟩ := v
  dsimp only [T3, s1, s2, s3, oT] at *
  go_enter Try.func21, Try.ntmps21
  go_wp2_with fail
  refine hval.out.mono ?_
  rintro e w1 ⟨rfl, hb1⟩
  have hb := Below.go hb0 hb1
  have K0 := Lib.hid (keepN (keep' k0.out hb1) (oBd 0 0))
  have K1 := Lib.hid (keepN (keep' k1.out hb1) (oBd 0 0))
  have K6 := Lib.hid (heap_new w1 (oBd 0 0))
  have hbN := Below.goN hb (oBd 0 0)
  have hs1 := lt_of_heap (keep' k1.out hb1)
  clear hval k0 k1 hb0 hb1
  go_wp2
  go_loopg [26] n (fun g s26 wr => ∃ (k : Nat) (lo hi : Int), k + g = n ∧ s26 = .int .i64 k ∧ Hid (Tab.sv t l 0 0 = Tab.sv t (l.drop k) lo hi) ∧ (0 ≤ lo ∧ lo ≤ k * 2000000000000000 ∧ 0 ≤ hi ∧ hi ≤ k * 2000000000000000) ∧ Hid (wr.heap[w1.heap.size]? = some (oBd lo hi)) ∧ Hid (wr.heap[w.heap.size]? = some (oT ⟨A1, n1, c1, A2, n2, c2, A3, n3, c3⟩)) ∧ Hid (wr.heap[w.heap.size + 1]? = some (oRg 0 0)) ∧ Below w.heap.size w wr)
  case atStart => exact ⟨0, 0, 0, by omega, rfl, Lib.hid rfl, ⟨by omega, by omega, by omega, by omega⟩, K6, K0, K1, hbN⟩
  case round =>
    clear K6 K0 K1 hbN
    obtain ⟨k, lo, hi, hkg, rfl, HI, ⟨l1, l2, l3, l4⟩, K6, K0, K1, hb'⟩ := hrel
    obtain ⟨⟨p0, p1⟩, -⟩ := blk2 K6.out
    have z6 := lt_of_heap K6.out
    have z1 := lt_of_heap K1.out
    cases gk with
    | zero =>
      have q2 : decide (k < n) = false := decide_eq_false (by omega)
      obtain ⟨⟨d0, d1⟩, f0, f1⟩ := blk2 K1.out
      have hd : Hid (l.drop k = []) := Lib.hid (List.drop_eq_nil_of_le (by rw [HG.out.1]; omega))
      by_cases hc : 3000000000000000 < hi
      · have hV : Hid (Tab.several t l = (0, 0, 3)) := Lib.hid (hz.out.trans (HI.out.trans (by rw [hd.out]; exact if_pos hc)))
        go_wp2
        exact bodyPost_ret (v := .tuple #[I2 0 0, .int .i64 3]) (by simp [results, Try.results21, go_sem, d0, d1]) rfl ⟨ret_v3 hV.out, by (repeat (with_reducible first | exact hb' | refine Below.drew ?_ | refine Below.setCell ?_ ?_ _)); all_goals (first | omega | (simp; done) | (simp; omega))⟩
      · have hV : Hid (Tab.several t l = (lo, hi, 0)) := Lib.hid (hz.out.trans (HI.out.trans (by rw [hd.out]; exact if_neg hc)))
        have qc : decide (3000000000000000 < hi) = false := decide_eq_false hc
        go_wp2
        exact bodyPost_ret (v := .tuple #[I2 lo hi, .int .i64 0]) (by simp [results, Try.results21, go_sem, d0, d1]) rfl ⟨ret_v3 hV.out, by (repeat (with_reducible first | exact hb' | refine Below.drew ?_ | refine Below.setCell ?_ ?_ _)); all_goals (first | omega | (simp; done) | (simp; omega))⟩
    | succ g =>
      obtain ⟨b, off, rfl, hbB, hc⟩ := HG.out.2 (by omega)
      obtain ⟨g0, g1, g2, g3, g4⟩ := hc k (by omega)
      have g0 := (hb'.cell (p := ⟨b, off + k * 5, none⟩) hbB).trans g0
      have g1 := (hb'.cell (p := ⟨b, off + k * 5 + 1, none⟩) hbB).trans g1
      have g2 := (hb'.cell (p := ⟨b, off + k * 5 + 2, none⟩) hbB).trans g2
      have g3 := (hb'.cell (p := ⟨b, off + k * 5 + 3, none⟩) hbB).trans g3
      have g4 := (hb'.cell (p := ⟨b, off + k * 5 + 4, none⟩) hbB).trans g4
      have hd := Lib.hid (Tab.drop_at HG.out.1 (show k < n by omega))
      clear hc
      generalize Tab.sAt l k = s at *
      have j0 : (0 : Int) ≤ (k : Int) := by omega
      have j1 : (k : Int) < (n : Int) := by omega
      have hI2 : Hid (Tab.several t l = Tab.sv t (s :: l.drop (k + 1)) lo hi) := Lib.hid (hz.out.trans (by rw [HI.out, hd.out]))
      have hI3 : Hid (Tab.sv t l 0 0 = Tab.sv t (s :: l.drop (k + 1)) lo hi) := Lib.hid (by rw [HI.out, hd.out])
      clear hd HI hz
      have hE : Hid (Tab.sgE t s = if Drm.sB s.n then Tab.wE t s.x1 s.x2 s.y1 s.y2 else 1) := Lib.hid rfl
      have hbA := Below.goN hb' (oSg s)
      have K0A := Lib.hid (keepN K0.out (oSg s))
      have K1A := Lib.hid (keepN K1.out (oSg s))
      have K6A := Lib.hid (keepN K6.out (oSg s))
      have K9A := Lib.hid (heap_new wr (oSg s))
      cases hs : Drm.sB s.n
      · have hV : Hid (Tab.several t l = (0, 0, 1)) := Lib.hid (hI2.out.trans (sv_stop (hE.out.trans (by rw [hs]; rfl)) (by omega)))
        obtain ⟨⟨d0', d1'⟩, f0', f1'⟩ := blk2 K1.out
        obtain ⟨⟨d0, d1⟩, f0, f1⟩ := blk2 K1A.out
        go_wp2_with (go_at_call 37; refine (stretch_any _ _).mono ?_; rintro e w' ⟨rfl, rfl⟩)
        exact bodyPost_ret (v := .tuple #[I2 0 0, .int .i64 1]) (by simp [results, Try.results21, go_sem, d0', d1', cell_old, z1]) rfl ⟨ret_v3 hV.out, by (repeat (with_reducible first | exact hb' | refine Below.drew ?_ | refine Below.setCell ?_ ?_ _ | refine Below.alloc ?_ ?_ _)); all_goals (first | omega | (simp; done) | (simp; omega))⟩
      by_cases hw : Tab.wE t s.x1 s.x2 s.y1 s.y2 = 0
      · have hS : Tab.sgE t s = 0 := hE.out.trans (by rw [hs]; exact hw)
        obtain ⟨⟨n1', n2'⟩, -, -, lo1, lo2, hi1, hi2⟩ := Tab.sg_ok hS
        obtain ⟨s1', s2', s3'⟩ := Tab.sg_el hS
        have hV : Hid (Tab.sv t l 0 0 = Tab.sv t (l.drop (k + 1)) (lo + Tab.sgLo t s) (hi + Tab.sgHi t s)) := Lib.hid (hI3.out.trans (sv_go hS))
        have hWs : Hid (∀ W, Below w.heap.size w W → Calls Try.prog 15 #[.agg #[.slice A1 n1 c1, .slice A2 n2 c2, .slice A3 n3 c3], I2 s.x1 s.x2, I2 s.y1 s.y2] W (RetB (.tuple #[.int .i64 (Tab.sgR t s), .int .i64 0]) W)) := Lib.hid fun W h => by have := hW.out W s h; rw [hw] at this; exact this
        have hEl : Hid (∀ W, Calls Try.prog 17 #[.int .i64 (Tab.sgR t s), .int .i64 s.n] W (RetB (.tuple #[I2 (Tab.sgLo t s) (Tab.sgHi t s), .int .i64 0]) W)) := Lib.hid fun W => by have := Elapsed_any (Tab.sgR t s) s.n W; rw [s1', s2', s3'] at this; exact this
        clear hw hS s1' s2' s3' hE hI2 hI3 hW
        generalize Tab.sgR t s = R at *
        generalize Tab.sgLo t s = L at *
        generalize Tab.sgHi t s = H at *
        obtain ⟨⟨t0, t1, t2⟩, -⟩ := blk3 K0A.out
        obtain ⟨x0, x1, x2, x3, x4⟩ := blk5 K9A.out
        go_wp2_with fail
        refine (stretch_any _ _).mono ?_
        rintro e w' ⟨rfl, rfl⟩
        go_wp2_with fail
        refine (hWs.out _ hbA).mono ?_
        rintro e w2 ⟨rfl, hb2⟩
        clear t0 t1 t2 x0 x1 x2 x3 x4
        obtain ⟨x0, x1, x2, x3, x4⟩ := blk5 (keep' K9A.out hb2)
        have hbB2 := Below.go hbA hb2
        have K0B := Lib.hid (keep' K0A.out hb2)
        have K1B := Lib.hid (keep' K1A.out hb2)
        have K6B := Lib.hid (keep' K6A.out hb2)
        clear K0A K1A K6A K9A hb2 hbA
        go_wp2_with fail
        refine (hEl.out _).mono ?_
        rintro e w3 ⟨rfl, hb3⟩
        clear x0 x1 x2 x3 x4
        have hbC := Below.go hbB2 hb3
        have K0C := Lib.hid (keep' K0B.out hb3)
        have K1C := Lib.hid (keep' K1B.out hb3)
        have K6C := Lib.hid (keep' K6B.out hb3)
        clear K0B K1B K6B hb3 hbB2
        have K6D := Lib.hid (keepN K6C.out (oRg L H))
        obtain ⟨⟨p0', p1'⟩, -⟩ := blk2 K6D.out
        go_wp2_with fail
        refine (plus_any _ _ _ _ _ ⟨by omega, by omega⟩ ⟨by omega, by omega⟩ ⟨by omega, by omega⟩ ⟨by omega, by omega⟩).mono ?_
        rintro e w4 ⟨rfl, hb4⟩
        have hbD := Below.goA hbC hb4
        have K0E := Lib.hid (keepA K0C.out hb4)
        have K1E := Lib.hid (keepA K1C.out hb4)
        have K6E := Lib.hid (keepA K6C.out hb4)
        clear K0C K1C K6C K6D hb4 hbC p0' p1' p0 p1
        have hsz := hb.size
        obtain ⟨⟨p0, p1⟩, f0, f1⟩ := blk2 K6E.out
        go_wp2
        go_roundg g
        case measure => omega
        case rel => exact ⟨k + 1, lo + L, hi + H, by omega, by go_num, hV, ⟨by omega, by omega, by omega, by omega⟩, Lib.hid (st2 K6E.out _ _), Lib.hid (st2o K0E.out (by omega) _ _), Lib.hid (st2o K1E.out (by omega) _ _), Below.set2 hbD _ _ (by omega)⟩
      · have hV : Hid (Tab.several t l = (0, 0, Tab.wE t s.x1 s.x2 s.y1 s.y2)) := Lib.hid (hI2.out.trans (sv_stop (hE.out.trans (by rw [hs]; rfl)) hw))
        have hne := bne_of hw
        have hWs := Lib.hid (hW.out _ s hbA)
        clear hw hE hI2 hI3 hW
        generalize Tab.wE t s.x1 s.x2 s.y1 s.y2 = E at *
        generalize Tab.wV t s.x1 s.x2 s.y1 s.y2 = V at *
        obtain ⟨⟨t0, t1, t2⟩, -⟩ := blk3 K0A.out
        obtain ⟨x0, x1, x2, x3, x4⟩ := blk5 K9A.out
        go_wp2_with fail
        refine (stretch_any _ _).mono ?_
        rintro e w' ⟨rfl, rfl⟩
        go_wp2_with fail
        refine hWs.out.mono ?_
        rintro e w2 ⟨rfl, hb2⟩
        have hbB2 := Below.go hbA hb2
        obtain ⟨⟨d0, d1⟩, f0, f1⟩ := blk2 (keep' K1A.out hb2)
        clear hb2 t0 t1 t2 x0 x1 x2 x3 x4
        go_wp2
        exact bodyPost_ret (v := .tuple #[I2 0 0, .int .i64 E]) (by simp [results, Try.results21, go_sem, d0, d1]) rfl ⟨ret_v3 hV.out, by (repeat (with_reducible first | exact hbB2 | refine Below.drew ?_ | refine Below.setCell ?_ ?_ _)); all_goals (first | omega | (simp; done) | (simp; omega))⟩
theorem Several_any (v : TabV) (t : Tab.Tb) (A : Option Addr) (n c : Nat) (l : List Tab.Sg) (w : World) (ht : TabIn w v t) (hg : Lg w.heap.size w A n l) (hn : n ≤ 9223372036854775807) :
    Calls Try.prog 21 #[T3 v, .slice A n c] w (RetB (.tuple #[I2 (Tab.several t l).1 (Tab.several t l).2.1, .int .i64 (Tab.several t l).2.2]) w) := by
  cases h : Tab.valid t
  · exact Several_no v t A n c l w ht h
  by_cases h2 : 64 < n
  · exact Several_long v t A n c l w ht h hg.1 h2
  · exact Several_ok v t A n c l w ht hg h (by omega)
end Go.Proofs.Ytlmdjkkeocmehaa
