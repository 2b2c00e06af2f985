/- What a wall clock shows at a time: the contracts of civil.To and civil.Show, at a time of a known day. -/
import Derived.Test.YtcnenkhgbifmmaaDoorReU
import Derived.Test.YtcnenkhgbifmmaaDoorReMath
set_option linter.unusedVariables false
namespace Go.Proofs.YtcnenkhgbifmmaaDoor
open Go.RowKit
/-- a time lies in a day of a table -/
structure AtDay (l : Lpm.LL) (d t : Int) : Prop where
  v : Lpm.valid l = true
  d0 : 0 ≤ d
  d1 : d ≤ 34000
  t0 : Lpm.start l d ≤ t
  t1 : t < Lpm.start l (d + 1)
theorem at_day {l : Lpm.LL} {d t : Int} (h : AtDay l d t) : Lpm.dE l t = 0 ∧ Lpm.dV l t = d ∧ 0 ≤ t - Lpm.start l d ∧ t - Lpm.start l d ≤ 86400999999 ∧ -100000000 ≤ Lpm.start l d ∧ Lpm.start l d ≤ 3000000000000000 ∧ 0 ≤ t ∧ t ≤ 3000000000000000 := by
  have e := Lpm.dayNo_of h.v h.d0 h.d1 h.t0 h.t1
  have b0 := Lpm.start_bd (a := d) h.v
  have b1 := Lpm.start_bd (a := d + 1) h.v
  have hl := Rc.lenD_is h.v d
  unfold Rc.lenD at hl
  have := h.t0; have := h.t1; have := h.d0; have := h.d1
  have hz : 0 ≤ Lpm.start l d := by
    have := Lpm.start_le h.v h.d0
    rwa [Lpm.start_zero h.v] at this
  obtain ⟨x1, x2, -⟩ := Lpm.d_yes h.v (by omega : (0 : Int) ≤ t) (by omega) (by omega)
  exact ⟨x1, by rw [x2, e], by omega, by omega, by omega, by omega, by omega, by omega⟩
set_option maxHeartbeats 2000000 in
set_option maxRecDepth 100000 in
theorem To_at (A : Option Addr) (n c : Nat) (l : Lpm.LL) (d t : Int) (w : World) (hl : Lp w.heap.size w A n l) (hn : n ≤ 110) (h : AtDay l d t) :
    Calls Tryd.prog 14 #[.slice A n c, .int .i64 t] w (RetB (.tuple #[.agg #[.int .i64 d, .int .i64 (t - Lpm.start l d)], .int .i64 0]) w) := by
  obtain ⟨e1, e2, b0, b1, b2, b3, b4, b5⟩ := at_day h
  have H1 : Hid (∀ W, Below w.heap.size w W → Lp W.heap.size W A n l) := Lib.hid fun W hW => hl.go hW
  have HV := Lib.hid h
  clear hl h
  have HD := fun (W : World) (hb : Below w.heap.size w W) => Day_c (t := t) (c := c) (H1.out W hb) (Nat.le_refl _) hn (Below.refl W.heap.size W)
  rw [e1, e2] at HD
  have HD := Lib.hid HD
  have HF := Lib.hid (fun (W : World) (hb : Below w.heap.size w W) => cfind_yes A n c l d W (H1.out W hb) HV.out.v HV.out.d0 HV.out.d1)
  clear e1 e2
  generalize Lpm.start l d = S at *
  have hb := Below.goN (Below.refl w.heap.size w) (.cells #[.int .i64 0, .int .i64 0] 48)
  have kx := Lib.hid (heap_new w (.cells #[.int .i64 0, .int .i64 0] 48))
  go_enter Tryd.func14, Tryd.ntmps14
  go_wp2_with fail
  refine (HD.out _ hb).mono ?_
  rintro e w1 ⟨rfl, hn1⟩
  have kx := Lib.hid (keep' kx.out hn1)
  have hb := Below.go hb hn1
  clear hn1
  go_wp2_with fail
  refine (HF.out _ hb).mono ?_
  rintro e w2 ⟨rfl, hn1⟩
  have kx := Lib.hid (keep' kx.out hn1)
  have hb := Below.go hb hn1
  have hlt := lt_of_heap kx.out
  clear hn1
  generalize Rc.lenD l d = N at *
  obtain ⟨⟨c0, c1⟩, f0, f1⟩ := blk2 kx.out
  have hlt2 : w.heap.size < ((w2.setCell ⟨w.heap.size, 0, none⟩ (.int .i64 d)).setCell ⟨w.heap.size, 1, none⟩ (.int .i64 (t - S))).heap.size := by simpa using hlt
  have g0 : ((w2.setCell ⟨w.heap.size, 0, none⟩ (.int .i64 d)).setCell ⟨w.heap.size, 1, none⟩ (.int .i64 (t - S))).cell? ⟨w.heap.size, 0, none⟩ = some (.int .i64 d) := by simp [go_sem, c0, c1]
  have g1 : ((w2.setCell ⟨w.heap.size, 0, none⟩ (.int .i64 d)).setCell ⟨w.heap.size, 1, none⟩ (.int .i64 (t - S))).cell? ⟨w.heap.size, 1, none⟩ = some (.int .i64 (t - S)) := by simp [go_sem, c0, c1]
  have k0 := ((Below.goN (Below.refl _ ((w2.setCell ⟨w.heap.size, 0, none⟩ (.int .i64 d)).setCell ⟨w.heap.size, 1, none⟩ (.int .i64 (t - S)))) (.cells #[.int .i64 S, .int .i64 N, .int .i64 d] 85)).cell (p := ⟨w.heap.size, 0, none⟩) hlt2).trans g0
  have k1 := ((Below.goN (Below.refl _ ((w2.setCell ⟨w.heap.size, 0, none⟩ (.int .i64 d)).setCell ⟨w.heap.size, 1, none⟩ (.int .i64 (t - S)))) (.cells #[.int .i64 S, .int .i64 N, .int .i64 d] 85)).cell (p := ⟨w.heap.size, 1, none⟩) hlt2).trans g1
  clear hlt2 g0 g1
  go_wp2
  exact bodyPost_ret (v := .tuple #[.agg #[.int .i64 d, .int .i64 (t - S)], .int .i64 0]) (by simp [results, Tryd.results14, go_sem, k0, k1]) rfl ⟨rfl, by (repeat (with_reducible first | exact hb | refine Below.drew ?_ | refine Below.goN ?_ _ | refine Below.setCell ?_ ?_ _)); all_goals (first | omega | (simp; done) | (simp; omega))⟩
set_option maxHeartbeats 2000000 in
set_option maxRecDepth 100000 in
theorem Show_in (A : Option Addr) (n c : Nat) (l : Lpm.LL) (d t s : Int) (w : World) (hl : Lp w.heap.size w A n l) (hn : n ≤ 110) (h : AtDay l d t) (hs : t - Lpm.start l d = s * 1000000) (s1 : s ≤ 86399) :
    Calls Tryd.prog 15 #[.slice A n c, .int .i64 t] w (RetB (.tuple #[.agg #[.int .i64 d, .int .i64 s, .int .i64 0], .int .i64 0]) w) := by
  obtain ⟨-, -, b0, b1, -⟩ := at_day h
  have H1 : Hid (∀ W, Below w.heap.size w W → Lp W.heap.size W A n l) := Lib.hid fun W hW => hl.go hW
  have HT := fun (W : World) (hb : Below w.heap.size w W) => To_at A n c l d t W (H1.out W hb) hn h
  rw [hs] at b0 b1 HT
  have s0 : 0 ≤ s := by omega
  have HT := Lib.hid HT
  clear hl h hs b0 b1
  have hb := Below.goN (Below.refl w.heap.size w) (.cells #[.int .i64 0, .int .i64 0, .int .i64 0] 52)
  have kx := Lib.hid (heap_new w (.cells #[.int .i64 0, .int .i64 0, .int .i64 0] 52))
  go_enter Tryd.func15, Tryd.ntmps15
  go_wp2_with fail
  refine (HT.out _ hb).mono ?_
  rintro e w1 ⟨rfl, hn1⟩
  have kx := Lib.hid (keep' kx.out hn1)
  have hb := Below.go hb hn1
  clear hn1
  obtain ⟨⟨c0, c1, c2⟩, f0, f1, f2⟩ := blk3 kx.out
  have hlt := lt_of_heap kx.out
  obtain ⟨⟨g0, g1, g2⟩, -⟩ := blk3 (keepN kx.out (.cells #[.int .i64 d, .int .i64 (s * 1000000)] 48))
  obtain ⟨⟨x0, x1⟩, -⟩ := blk2 (heap_new w1 (.cells #[.int .i64 d, .int .i64 (s * 1000000)] 48))
  go_wp2
  go_quiet (fail)
  go_wp2
  exact bodyPost_ret (v := .tuple #[.agg #[.int .i64 d, .int .i64 s, .int .i64 0], .int .i64 0]) (by simp [results, Tryd.results15, go_sem, g0, g1, g2]) rfl ⟨rfl, by (repeat (with_reducible first | exact hb | refine Below.drew ?_ | refine below_drewN ?_ _ | refine Below.goN ?_ _ | refine Below.setCell ?_ ?_ _)); all_goals (first | omega | (simp; done) | (simp; omega))⟩
set_option maxHeartbeats 2000000 in
set_option maxRecDepth 100000 in
theorem Show_last (A : Option Addr) (n c : Nat) (l : Lpm.LL) (d t : Int) (w : World) (hl : Lp w.heap.size w A n l) (hn : n ≤ 110) (h : AtDay l d t) (hs : t - Lpm.start l d = 86400000000) :
    Calls Tryd.prog 15 #[.slice A n c, .int .i64 t] w (RetB (.tuple #[.agg #[.int .i64 d, .int .i64 86399, .int .i64 0], .int .i64 0]) w) := by
  obtain ⟨-, -, b0, b1, -⟩ := at_day h
  have H1 : Hid (∀ W, Below w.heap.size w W → Lp W.heap.size W A n l) := Lib.hid fun W hW => hl.go hW
  have HT := fun (W : World) (hb : Below w.heap.size w W) => To_at A n c l d t W (H1.out W hb) hn h
  rw [hs] at b0 b1 HT
  have HT := Lib.hid HT
  clear hl h hs b0 b1
  have hb := Below.goN (Below.refl w.heap.size w) (.cells #[.int .i64 0, .int .i64 0, .int .i64 0] 52)
  have kx := Lib.hid (heap_new w (.cells #[.int .i64 0, .int .i64 0, .int .i64 0] 52))
  go_enter Tryd.func15, Tryd.ntmps15
  go_wp2_with fail
  refine (HT.out _ hb).mono ?_
  rintro e w1 ⟨rfl, hn1⟩
  have kx := Lib.hid (keep' kx.out hn1)
  have hb := Below.go hb hn1
  clear hn1
  obtain ⟨⟨c0, c1, c2⟩, f0, f1, f2⟩ := blk3 kx.out
  have hlt := lt_of_heap kx.out
  obtain ⟨⟨g0, g1, g2⟩, -⟩ := blk3 (keepN kx.out (.cells #[.int .i64 d, .int .i64 (86400000000)] 48))
  obtain ⟨⟨x0, x1⟩, -⟩ := blk2 (heap_new w1 (.cells #[.int .i64 d, .int .i64 (86400000000)] 48))
  go_wp2
  go_quiet (fail)
  go_wp2
  exact bodyPost_ret (v := .tuple #[.agg #[.int .i64 d, .int .i64 86399, .int .i64 0], .int .i64 0]) (by simp [results, Tryd.results15, go_sem, g0, g1, g2]) rfl ⟨rfl, by (repeat (with_reducible first | exact hb | refine Below.drew ?_ | refine below_drewN ?_ _ | refine Below.goN ?_ _ | refine Below.setCell ?_ ?_ _)); all_goals (first | omega | (simp; done) | (simp; omega))⟩
end Go.Proofs.YtcnenkhgbifmmaaDoor
