/- The walk of the law BeliefEnds: it returns true for all beliefs and numbers; nothing that was there has changed. -/
import Derived.Test.YtiagdbahokgonaaBeH
set_option linter.unusedVariables false
namespace Go.Proofs.Ytiagdbahokgonaa
open Go.RowKit
set_option maxHeartbeats 2000000 in
set_option maxRecDepth 100000 in
theorem ends_bad (a lo hi rt cn R n : Int) (w : World) (r0 : 0 ≤ rt) (r1 : rt < 4294967296) (o0 : 0 ≤ cn) (o1 : cn < 18446744073709551616) (hR : rt % 1000001 = R) (hn : cn % 900000000000000 = n)
    (hv : Blm.vB a lo hi = false ∨ Blm.vB a lo hi = true ∧ 3000000000000000 < a + n) : Calls Try.prog 10 #[B3 a lo hi, .int .u32 rt, .int .u64 cn] w (LawPost w) := by
  have hb := (Below.refl w.heap.size w).alloc (Nat.le_refl _) (.cells #[.int .i64 a, .int .i64 lo, .int .i64 hi] 25)
  have kb := Lib.hid (heap_new w (.cells #[.int .i64 a, .int .i64 lo, .int .i64 hi] 25))
  have n0 : 0 ≤ n := by omega
  have n1 : n < 900000000000000 := by omega
  rcases hv with h1 | ⟨h1, h2⟩
  · go_enter Try.func10, Try.ntmps10
    go_wp2_with fail
    refine (head_any _).mono ?_
    rintro e wN ⟨rfl, hn⟩
    have hb := (by first | exact Below.go hb hn | exact Below.goA hb hn | exact Below.goAA hb hn | exact Below.goD hb hn | exact Below.goAD hb hn : Below w.heap.size w wN)
    have kb := Lib.hid (by first | exact keep' kb.out hn | exact keepA kb.out hn | exact keepAA kb.out hn | exact keepD kb.out hn | exact keepAD kb.out hn)
    clear hn
    obtain ⟨⟨kb0, kb1, kb2⟩, -⟩ := blk3 kb.out
    have kbz := lt_of_heap kb.out
    go_wp2_with fail
    refine (rValid_any _ _ _ _).mono ?_
    rintro e wN ⟨rfl, hn⟩
    have hb := (by first | exact Below.go hb hn | exact Below.goA hb hn | exact Below.goAA hb hn | exact Below.goD hb hn | exact Below.goAD hb hn : Below w.heap.size w wN)
    have kb := Lib.hid (by first | exact keep' kb.out hn | exact keepA kb.out hn | exact keepAA kb.out hn | exact keepD kb.out hn | exact keepAD kb.out hn)
    clear hn
    obtain ⟨⟨kb0, kb1, kb2⟩, -⟩ := blk3 kb.out
    have kbz := lt_of_heap kb.out
    go_wp2
    go_ret
    exact ⟨rfl, hb⟩
  · obtain ⟨⟨a1, a2⟩, -, -, -⟩ := Blm.vB_bd h1
    go_enter Try.func10, Try.ntmps10
    go_wp2_with fail
    refine (head_any _).mono ?_
    rintro e wN ⟨rfl, hn⟩
    have hb := (by first | exact Below.go hb hn | exact Below.goA hb hn | exact Below.goAA hb hn | exact Below.goD hb hn | exact Below.goAD hb hn : Below w.heap.size w wN)
    have kb := Lib.hid (by first | exact keep' kb.out hn | exact keepA kb.out hn | exact keepAA kb.out hn | exact keepD kb.out hn | exact keepAD kb.out hn)
    clear hn
    obtain ⟨⟨kb0, kb1, kb2⟩, -⟩ := blk3 kb.out
    have kbz := lt_of_heap kb.out
    go_wp2_with fail
    refine (rValid_any _ _ _ _).mono ?_
    rintro e wN ⟨rfl, hn⟩
    have hb := (by first | exact Below.go hb hn | exact Below.goA hb hn | exact Below.goAA hb hn | exact Below.goD hb hn | exact Below.goAD hb hn : Below w.heap.size w wN)
    have kb := Lib.hid (by first | exact keep' kb.out hn | exact keepA kb.out hn | exact keepAA kb.out hn | exact keepD kb.out hn | exact keepAD kb.out hn)
    clear hn
    obtain ⟨⟨kb0, kb1, kb2⟩, -⟩ := blk3 kb.out
    have kbz := lt_of_heap kb.out
    go_wp2
    go_ret
    exact ⟨rfl, hb⟩
theorem blk4 {W : World} {k : Nat} {x y z u : Value} {t : TypeId} (h : W.heap[k]? = some (.cells #[x, y, z, u] t)) : W.cell? ⟨k, 0, none⟩ = some x ∧ W.cell? ⟨k, 1, none⟩ = some y ∧ W.cell? ⟨k, 2, none⟩ = some z ∧ W.cell? ⟨k, 3, none⟩ = some u := by
  simp [World.cell?, h]
/-- what an end asks -/
def EndOk (R n x y : Int) : Prop := (x == 3000000000000000) = true ∨ (x == 3000000000000000) = false ∧ Drm.eE R (x - y) = 0 ∧ decide (n < Drm.cLo R (x - y)) = false ∧ decide (Drm.cHi R (x - y) < n) = false
set_option maxHeartbeats 2000000 in
set_option maxRecDepth 100000 in
theorem ends_main (a lo hi rt cn R n X Y : Int) (w : World) (r0 : 0 ≤ rt) (r1 : rt < 4294967296) (o0 : 0 ≤ cn) (o1 : cn < 18446744073709551616) (hR : rt % 1000001 = R) (hn : cn % 900000000000000 = n)
    (v1 : Blm.vB a lo hi = true) (h2 : a + n ≤ 3000000000000000) (e1 : Blm.atE a lo hi R (a + n) = 0) (e3 : Blm.atLo a lo hi R (a + n) = X) (e4 : Blm.atHi a lo hi R (a + n) = Y) (x1 : 0 ≤ X) (x2 : X ≤ 3000000000000000) (y1 : 0 ≤ Y) (y2 : Y ≤ 3000000000000000) (hX : EndOk R n X lo) (hY : EndOk R n Y hi) :
    Calls Try.prog 10 #[B3 a lo hi, .int .u32 rt, .int .u64 cn] w (LawPost w) := by
  have hb := (Below.refl w.heap.size w).alloc (Nat.le_refl _) (.cells #[.int .i64 a, .int .i64 lo, .int .i64 hi] 25)
  have kb := Lib.hid (heap_new w (.cells #[.int .i64 a, .int .i64 lo, .int .i64 hi] 25))
  have co := @cell_old
  have n0 : 0 ≤ n := by omega
  have n1 : n < 900000000000000 := by omega
  have R0 : 0 ≤ R := by omega
  have R1 : R ≤ 1000000 := by omega
  obtain ⟨⟨a1, a2⟩, l1, l2, l3⟩ := Blm.vB_bd v1
  go_enter Try.func10, Try.ntmps10
  go_wp2_with fail
  refine (head_any _).mono ?_
  rintro e wN ⟨rfl, hn⟩
  have hb := (by first | exact Below.go hb hn | exact Below.goA hb hn | exact Below.goAA hb hn | exact Below.goD hb hn | exact Below.goAD hb hn : Below w.heap.size w wN)
  have kb := Lib.hid (by first | exact keep' kb.out hn | exact keepA kb.out hn | exact keepAA kb.out hn | exact keepD kb.out hn | exact keepAD kb.out hn)
  clear hn
  obtain ⟨⟨kb0, kb1, kb2⟩, -⟩ := blk3 kb.out
  have kbz := lt_of_heap kb.out
  go_wp2_with fail
  refine (rValid_any _ _ _ _).mono ?_
  rintro e wN ⟨rfl, hn⟩
  have hb := (by first | exact Below.go hb hn | exact Below.goA hb hn | exact Below.goAA hb hn | exact Below.goD hb hn | exact Below.goAD hb hn : Below w.heap.size w wN)
  have kb := Lib.hid (by first | exact keep' kb.out hn | exact keepA kb.out hn | exact keepAA kb.out hn | exact keepD kb.out hn | exact keepAD kb.out hn)
  clear hn
  obtain ⟨⟨kb0, kb1, kb2⟩, -⟩ := blk3 kb.out
  have kbz := lt_of_heap kb.out
  go_wp2_with fail
  refine (At_any _ _ _ _ _ _).mono ?_
  rintro e wN ⟨rfl, hn⟩
  have hb := (by first | exact Below.go hb hn | exact Below.goA hb hn | exact Below.goAA hb hn | exact Below.goD hb hn | exact Below.goAD hb hn : Below w.heap.size w wN)
  have kb := Lib.hid (by first | exact keep' kb.out hn | exact keepA kb.out hn | exact keepAA kb.out hn | exact keepD kb.out hn | exact keepAD kb.out hn)
  clear hn
  obtain ⟨⟨kb0, kb1, kb2⟩, -⟩ := blk3 kb.out
  have kbz := lt_of_heap kb.out
  go_wp2
  clear co
  go_loopw [59] (fun i wr => ∃ k : Nat, k ≤ 2 ∧ i = .int .i64 k ∧ Hid (wr.heap[wN.heap.size + 1]? = some (.cells #[.int .i64 X, .int .i64 lo, .int .i64 Y, .int .i64 hi] 53)) ∧ Below w.heap.size w wr) (fun i _ => 2 - (intOf i).toNat)
  case atStart => exact ⟨0, by omega, rfl, Lib.hid (new1 _ _ _), (hb.alloc hb.size _).alloc (hb.alloc hb.size _).size _⟩
  case round =>
    obtain ⟨k, hk, rfl, hs, hw⟩ := hrel
    have c := blk4 hs.out
    obtain ⟨c0, c1, c2, c3⟩ := c
    rcases (show k = 0 ∨ k = 1 ∨ k = 2 by omega) with rfl | rfl | rfl
    · rcases hX with hx | ⟨hx, q1, q2, q3⟩
      · go_wp2
        go_roundw
        case rel => exact ⟨1, by omega, rfl, Lib.hid (keepN hs.out _), hw.alloc hw.size _⟩
        case measure => simp [intOf]
      · go_wp2_with fail
        refine (Counts_any _ _ _).mono ?_
        rintro e w2 ⟨rfl, hn2⟩
        have hs2 := Lib.hid (keepA hs.out hn2)
        have hw2 := Below.goA hw hn2
        clear hn2
        go_wp2
        go_roundw
        case rel => exact ⟨1, by omega, rfl, Lib.hid (keepN hs2.out _), hw2.alloc hw2.size _⟩
        case measure => simp [intOf]
    · rcases hY with hx | ⟨hx, q1, q2, q3⟩
      · go_wp2
        go_roundw
        case rel => exact ⟨2, by omega, rfl, Lib.hid (keepN hs.out _), hw.alloc hw.size _⟩
        case measure => simp [intOf]
      · go_wp2_with fail
        refine (Counts_any _ _ _).mono ?_
        rintro e w2 ⟨rfl, hn2⟩
        have hs2 := Lib.hid (keepA hs.out hn2)
        have hw2 := Below.goA hw hn2
        clear hn2
        go_wp2
        go_roundw
        case rel => exact ⟨2, by omega, rfl, Lib.hid (keepN hs2.out _), hw2.alloc hw2.size _⟩
        case measure => simp [intOf]
    · go_wp2
      go_ret
      exact ⟨rfl, hw⟩
theorem end_ok {R n x e : Int} (R0 : 0 ≤ R) (R1 : R ≤ 1000000) (e0 : 0 ≤ e) (e1 : e ≤ 1000000000000000) (hx : 0 ≤ x) (h1 : e * (1000000000 - R) < (n + 1) * 1000000000) (h2 : (n - 1) * 1000000000 < e * (1000000000 + R)) : EndOk R n (Blm.mn (x + e)) x := by
  unfold EndOk
  by_cases h : Blm.mn (x + e) = 3000000000000000
  · left; simpa using h
  · right
    have hm : Blm.mn (x + e) = x + e := by
      unfold Blm.mn at h ⊢
      by_cases hc : 3000000000000000 < x + e
      · rw [if_pos hc] at h; exact absurd rfl h
      · rw [if_neg hc]
    obtain ⟨hE, -, -, hL, hH⟩ := Drm.okE_yes (Drm.okE_mk (r := R) (n := e) ⟨R0, R1⟩ ⟨e0, e1⟩)
    rw [hm] at h ⊢
    rw [show x + e - x = e by omega, hL, hH]
    have c1 := (Drm.colo_iff (r := R) (n := n) (e := e)).2 h1
    have c2 := (Drm.cohi_iff (r := R) (n := n) (e := e)).2 h2
    exact ⟨by simpa using h, hE, decide_eq_false (by omega), decide_eq_false (by omega)⟩
theorem ends_law (v : Value) (b : Int × Int × Int) (rt cn : Int) (w : World) (hv : IsB3 v b) (h1 : (Lit.int .u32 rt).wf = true) (h2 : (Lit.int .u64 cn).wf = true) : Calls Try.prog 10 #[v, .int .u32 rt, .int .u64 cn] w (LawPost w) := by
  obtain ⟨a, lo, hi⟩ := b
  obtain ⟨rfl, -, -, -⟩ := hv
  have b1 := bounds_u32 h1
  have b2 := bounds_u64 h2
  show Calls Try.prog 10 #[B3 a lo hi, .int .u32 rt, .int .u64 cn] w (LawPost w)
  obtain ⟨R, hR⟩ : ∃ d, rt % 1000001 = d := ⟨_, rfl⟩
  obtain ⟨n, hn⟩ : ∃ d, cn % 900000000000000 = d := ⟨_, rfl⟩
  have n0 : 0 ≤ n := by omega
  have n1 : n < 900000000000000 := by omega
  have R0 : 0 ≤ R := by omega
  have R1 : R ≤ 1000000 := by omega
  cases v1 : Blm.vB a lo hi
  · exact ends_bad a lo hi rt cn R n w (by omega) (by omega) (by omega) (by omega) hR hn (.inl v1)
  by_cases h2 : a + n ≤ 3000000000000000
  rotate_left
  · exact ends_bad a lo hi rt cn R n w (by omega) (by omega) (by omega) (by omega) hR hn (.inr ⟨v1, by omega⟩)
  obtain ⟨⟨a1, a2⟩, l1, l2, l3⟩ := Blm.vB_bd v1
  have e1 := Blm.at_yes (Blm.atB_yes (a := a) (lo := lo) (hi := hi) (r := R) (t := a + n) v1 ⟨by omega, by omega⟩ ⟨R0, R1⟩) (by omega) (by omega)
  obtain ⟨-, -, -, e3, e4, -⟩ := Blm.at_ok e1
  rw [show a + n - a = n by omega] at e3 e4
  have bn := Drm.el_bd (r := R) (n := n) R0 R1 n0
  have p1 := Blm.mn_bd (x := lo + Drm.elLo R n) (by omega)
  have p2 := Blm.mn_bd (x := hi + Drm.elHi R n) (by omega)
  refine ends_main a lo hi rt cn R n _ _ w (by omega) (by omega) (by omega) (by omega) hR hn v1 h2 e1 e3 e4 p1.1 p1.2.1 p2.1 p2.2.1 ?_ ?_
  · exact end_ok R0 R1 bn.1 (by omega) l1 ((Drm.hi_iff R1).1 (by omega)) ((Drm.lo_iff R0).1 (Int.le_refl _))
  · exact end_ok R0 R1 (by omega) (by omega) (by omega) ((Drm.hi_iff R1).1 (Int.le_refl _)) ((Drm.lo_iff R0).1 (by omega))
end Go.Proofs.Ytiagdbahokgonaa
