/- The walk of the law LeaseMatchesReference: it returns true for all leases, intervals and numbers; nothing that was there has changed. -/
import Derived.Test.YtfaceopjblpkeaaLeO
set_option linter.unusedVariables false
namespace Go.Proofs.Ytfaceopjblpkeaa
open Go.RowKit
set_option maxHeartbeats 2000000 in
set_option maxRecDepth 100000 in
theorem matches_long (A : Option Addr) (n c : Nat) (l : List Lem.T3) (h len b1 b2 : Int) (w : World) (hl : Lin w A n c l) (q : 70 < n) :
    Calls Try.prog 3 #[.slice A n c, .int .i64 h, .int .i64 len, I2 b1 b2] w (LawPost w) := by
  have hb := (Below.refl w.heap.size w).alloc (Nat.le_refl _) (oI b1 b2)
  have kb := Lib.hid (heap_new w (oI b1 b2))
  have hcap := hl.cap
  have hnc := hl.nc
  clear hl
  go_enter Try.func3, Try.ntmps3
  go_wp2_with fail
  refine (head_any _).mono ?_
  rintro e wN ⟨rfl, hn⟩
  have hb := (by first | exact Below.go hb hn | exact Below.goA hb hn | exact Below.goAA hb hn | exact Below.goD hb hn | exact Below.goAD hb hn : Below w.heap.size w wN)
  have kb := Lib.hid (by first | exact keep' kb.out hn | exact keepA kb.out hn | exact keepAA kb.out hn | exact keepD kb.out hn | exact keepAD kb.out hn)
  clear hn
  obtain ⟨⟨kb0, kb1⟩, -⟩ := blk2 kb.out
  have kbz := lt_of_heap kb.out
  go_wp2
  go_ret
  exact ⟨rfl, hb⟩
set_option maxHeartbeats 2000000 in
set_option maxRecDepth 100000 in
theorem matches_main (A : Option Addr) (n c m d : Nat) (l G D : List Lem.T3) (h len b1 b2 E SE DE : Int) (V X F : Bool) (w : World) (hl : Lin w A n c l) (q : n ≤ 70)
    (v1 : Lem.valid l = V) (v2 : Lem.grL l h len b1 b2 = G) (v3 : Lem.grE l h len b1 b2 = E) (v4 : Lem.seV l h b1 b2 = X) (v5 : Lem.seE l h b1 b2 = SE) (v6 : Lem.frV l b1 b2 = F) (v7 : Lem.drE l b1 b2 = DE) (v8 : Lem.drL l b1 b2 = D)
    (v9 : G.length = m) (u1 : m ≤ 71) (u2 : D.length = d) (u3 : d ≤ 71) :
    Calls Try.prog 3 #[.slice A n c, .int .i64 h, .int .i64 len, I2 b1 b2] w (LawPost w) := by
  have hb := (Below.refl w.heap.size w).alloc (Nat.le_refl _) (oI b1 b2)
  have kb := Lib.hid (heap_new w (oI b1 b2))
  have HL := Lib.hid hl
  have hcap := hl.cap
  have hnc := hl.nc
  have H9 := Lib.hid v9
  have H2 := Lib.hid u2
  have s1 : sameB G G = true := decide_eq_true rfl
  have s2 : sameB D D = true := decide_eq_true rfl
  clear hl v9 u2
  go_enter Try.func3, Try.ntmps3
  go_wp2_with fail
  refine (head_any _).mono ?_
  rintro e wN ⟨rfl, hn⟩
  have hb := (by first | exact Below.go hb hn | exact Below.goA hb hn | exact Below.goAA hb hn | exact Below.goD hb hn | exact Below.goAD hb hn : Below w.heap.size w wN)
  have kb := Lib.hid (by first | exact keep' kb.out hn | exact keepA kb.out hn | exact keepAA kb.out hn | exact keepD kb.out hn | exact keepAD kb.out hn)
  clear hn
  obtain ⟨⟨kb0, kb1⟩, -⟩ := blk2 kb.out
  have kbz := lt_of_heap kb.out
  go_wp2_with fail
  refine (Grant_any A n c l _ _ _ _ _ (HL.out.below hb) q).mono ?_
  rintro e wN ⟨vN, rfl, hown, hn⟩
  have hb := (by first | exact Below.go hb hn | exact Below.goA hb hn | exact Below.goAA hb hn | exact Below.goD hb hn | exact Below.goAD hb hn : Below w.heap.size w wN)
  have kb := Lib.hid (by first | exact keep' kb.out hn | exact keepA kb.out hn | exact keepAA kb.out hn | exact keepD kb.out hn | exact keepAD kb.out hn)
  clear hn
  obtain ⟨⟨kb0, kb1⟩, -⟩ := blk2 kb.out
  have kbz := lt_of_heap kb.out
  rw [v2] at hown
  obtain ⟨A1, c1, rfl, hm⟩ := hown.lin1 (m := m) H9.out
  obtain ⟨w3, rfl⟩ : ∃ x, x = wN := ⟨_, rfl⟩
  have HM := Lib.hid hm
  clear hown hm
  have hbm := Below.refl w3.heap.size w3
  go_wp2_with fail
  refine (rGrant_any A n c l _ _ _ _ _ (HL.out.below hb) q).mono ?_
  rintro e wN ⟨vN, rfl, hown, hn⟩
  have hb := (by first | exact Below.go hb hn | exact Below.goA hb hn | exact Below.goAA hb hn | exact Below.goD hb hn | exact Below.goAD hb hn : Below w.heap.size w wN)
  have kb := Lib.hid (by first | exact keep' kb.out hn | exact keepA kb.out hn | exact keepAA kb.out hn | exact keepD kb.out hn | exact keepAD kb.out hn)
  have hbm := (by first | exact Below.go hbm hn | exact Below.goA hbm hn | exact Below.goAA hbm hn : Below w3.heap.size w3 wN)
  clear hn
  obtain ⟨⟨kb0, kb1⟩, -⟩ := blk2 kb.out
  have kbz := lt_of_heap kb.out
  rw [v2] at hown
  obtain ⟨A2, c2, rfl, hm2⟩ := hown.lin1 (m := m) H9.out
  have HM2 := Lib.hid hm2
  have HM1 := Lib.hid (HM.out.below hbm)
  clear hown hm2 HM hbm
  obtain ⟨w3, rfl⟩ : ∃ x, x = wN := ⟨_, rfl⟩
  have hbm := Below.refl w3.heap.size w3
  go_wp2_with fail
  refine (Valid_any A n c l _ (HL.out.below hb).ls q (HL.out.below hb).nc (HL.out.below hb).cap).mono ?_
  rintro e wN ⟨rfl, hn⟩
  have hb := (by first | exact Below.go hb hn | exact Below.goA hb hn | exact Below.goAA hb hn | exact Below.goD hb hn | exact Below.goAD hb hn : Below w.heap.size w wN)
  have kb := Lib.hid (by first | exact keep' kb.out hn | exact keepA kb.out hn | exact keepAA kb.out hn | exact keepD kb.out hn | exact keepAD kb.out hn)
  have hbm := (by first | exact Below.go hbm hn | exact Below.goA hbm hn | exact Below.goAA hbm hn : Below w3.heap.size w3 wN)
  clear hn
  obtain ⟨⟨kb0, kb1⟩, -⟩ := blk2 kb.out
  have kbz := lt_of_heap kb.out
  go_wp2_with fail
  refine (rValid_any A n c l _ (HL.out.below hb).ls q).mono ?_
  rintro e wN ⟨rfl, hn⟩
  have hb := (by first | exact Below.go hb hn | exact Below.goA hb hn | exact Below.goAA hb hn | exact Below.goD hb hn | exact Below.goAD hb hn : Below w.heap.size w wN)
  have kb := Lib.hid (by first | exact keep' kb.out hn | exact keepA kb.out hn | exact keepAA kb.out hn | exact keepD kb.out hn | exact keepAD kb.out hn)
  have hbm := (by first | exact Below.go hbm hn | exact Below.goA hbm hn | exact Below.goAA hbm hn : Below w3.heap.size w3 wN)
  clear hn
  obtain ⟨⟨kb0, kb1⟩, -⟩ := blk2 kb.out
  have kbz := lt_of_heap kb.out
  cases V
  all_goals
    go_wp2_with fail
    refine (Same_any _ _ _ G _ _ _ G _ (HM1.out.below hbm).ls (HM2.out.below hbm).ls u1 u1).mono ?_
    rintro e wN ⟨rfl, hn⟩
    have hb := (by first | exact Below.go hb hn | exact Below.goA hb hn | exact Below.goAA hb hn | exact Below.goD hb hn | exact Below.goAD hb hn : Below w.heap.size w wN)
    have kb := Lib.hid (by first | exact keep' kb.out hn | exact keepA kb.out hn | exact keepAA kb.out hn | exact keepD kb.out hn | exact keepAD kb.out hn)
    have hbm := (by first | exact Below.go hbm hn | exact Below.goA hbm hn | exact Below.goAA hbm hn : Below w3.heap.size w3 wN)
    clear hn
    obtain ⟨⟨kb0, kb1⟩, -⟩ := blk2 kb.out
    have kbz := lt_of_heap kb.out
    go_wp2_with fail
    refine (Serves_any A n c l _ _ _ _ (HL.out.below hb) q).mono ?_
    rintro e wN ⟨rfl, hn⟩
    have hb := (by first | exact Below.go hb hn | exact Below.goA hb hn | exact Below.goAA hb hn | exact Below.goD hb hn | exact Below.goAD hb hn : Below w.heap.size w wN)
    have kb := Lib.hid (by first | exact keep' kb.out hn | exact keepA kb.out hn | exact keepAA kb.out hn | exact keepD kb.out hn | exact keepAD kb.out hn)
    clear hn
    obtain ⟨⟨kb0, kb1⟩, -⟩ := blk2 kb.out
    have kbz := lt_of_heap kb.out
    go_wp2_with fail
    refine (rServes_any A n c l _ _ _ _ (HL.out.below hb) q).mono ?_
    rintro e wN ⟨rfl, hn⟩
    have hb := (by first | exact Below.go hb hn | exact Below.goA hb hn | exact Below.goAA hb hn | exact Below.goD hb hn | exact Below.goAD hb hn : Below w.heap.size w wN)
    have kb := Lib.hid (by first | exact keep' kb.out hn | exact keepA kb.out hn | exact keepAA kb.out hn | exact keepD kb.out hn | exact keepAD kb.out hn)
    clear hn
    obtain ⟨⟨kb0, kb1⟩, -⟩ := blk2 kb.out
    have kbz := lt_of_heap kb.out
    go_wp2_with fail
    refine (Free_any A n c l _ _ _ (HL.out.below hb) q).mono ?_
    rintro e wN ⟨rfl, hn⟩
    have hb := (by first | exact Below.go hb hn | exact Below.goA hb hn | exact Below.goAA hb hn | exact Below.goD hb hn | exact Below.goAD hb hn : Below w.heap.size w wN)
    have kb := Lib.hid (by first | exact keep' kb.out hn | exact keepA kb.out hn | exact keepAA kb.out hn | exact keepD kb.out hn | exact keepAD kb.out hn)
    clear hn
    obtain ⟨⟨kb0, kb1⟩, -⟩ := blk2 kb.out
    have kbz := lt_of_heap kb.out
    go_wp2_with fail
    refine (rFree_any A n c l _ _ _ (HL.out.below hb) q).mono ?_
    rintro e wN ⟨rfl, hn⟩
    have hb := (by first | exact Below.go hb hn | exact Below.goA hb hn | exact Below.goAA hb hn | exact Below.goD hb hn | exact Below.goAD hb hn : Below w.heap.size w wN)
    have kb := Lib.hid (by first | exact keep' kb.out hn | exact keepA kb.out hn | exact keepAA kb.out hn | exact keepD kb.out hn | exact keepAD kb.out hn)
    clear hn
    obtain ⟨⟨kb0, kb1⟩, -⟩ := blk2 kb.out
    have kbz := lt_of_heap kb.out
    go_wp2_with fail
    refine (Drop_any A n c l _ _ _ (HL.out.below hb) q).mono ?_
    rintro e wN ⟨vN, rfl, hown, hn⟩
    have hb := (by first | exact Below.go hb hn | exact Below.goA hb hn | exact Below.goAA hb hn | exact Below.goD hb hn | exact Below.goAD hb hn : Below w.heap.size w wN)
    have kb := Lib.hid (by first | exact keep' kb.out hn | exact keepA kb.out hn | exact keepAA kb.out hn | exact keepD kb.out hn | exact keepAD kb.out hn)
    clear hn
    obtain ⟨⟨kb0, kb1⟩, -⟩ := blk2 kb.out
    have kbz := lt_of_heap kb.out
    rw [v8] at hown
    obtain ⟨A3, c3, rfl, hm3⟩ := hown.lin1 (m := d) H2.out
    obtain ⟨w3, rfl⟩ : ∃ x, x = wN := ⟨_, rfl⟩
    have HM3 := Lib.hid hm3
    clear hown hm3 hbm
    have hbm := Below.refl w3.heap.size w3
    go_wp2_with fail
    refine (rDrop_any A n c l _ _ _ (HL.out.below hb) q).mono ?_
    rintro e wN ⟨vN, rfl, hown, hn⟩
    have hb := (by first | exact Below.go hb hn | exact Below.goA hb hn | exact Below.goAA hb hn | exact Below.goD hb hn | exact Below.goAD hb hn : Below w.heap.size w wN)
    have kb := Lib.hid (by first | exact keep' kb.out hn | exact keepA kb.out hn | exact keepAA kb.out hn | exact keepD kb.out hn | exact keepAD kb.out hn)
    have hbm := (by first | exact Below.go hbm hn | exact Below.goA hbm hn | exact Below.goAA hbm hn : Below w3.heap.size w3 wN)
    clear hn
    obtain ⟨⟨kb0, kb1⟩, -⟩ := blk2 kb.out
    have kbz := lt_of_heap kb.out
    rw [v8] at hown
    obtain ⟨A4, c4, rfl, hm4⟩ := hown.lin1 (m := d) H2.out
    have HM4 := Lib.hid hm4
    have HM3 := Lib.hid (HM3.out.below hbm)
    clear hown hm4 hbm
    go_wp2_with fail
    refine (Same_any _ _ _ D _ _ _ D _ HM3.out.ls HM4.out.ls u3 u3).mono ?_
    rintro e wN ⟨rfl, hn⟩
    have hb := (by first | exact Below.go hb hn | exact Below.goA hb hn | exact Below.goAA hb hn | exact Below.goD hb hn | exact Below.goAD hb hn : Below w.heap.size w wN)
    have kb := Lib.hid (by first | exact keep' kb.out hn | exact keepA kb.out hn | exact keepAA kb.out hn | exact keepD kb.out hn | exact keepAD kb.out hn)
    clear hn
    obtain ⟨⟨kb0, kb1⟩, -⟩ := blk2 kb.out
    have kbz := lt_of_heap kb.out
    go_wp2
    go_ret
    exact ⟨rfl, hb⟩
theorem matches_law (v : Value) (l : List Lem.T3) (h len : Int) (u : Value) (b : Int × Int) (w : World) (hv : IsLeases w v l) (h2 : (Lit.int .i64 h).wf = true) (h3 : (Lit.int .i64 len).wf = true) (hu : IsI2 u b) :
    Calls Try.prog 3 #[v, .int .i64 h, .int .i64 len, u] w (LawPost w) := by
  obtain ⟨A, n, c, rfl, hl⟩ := hv
  obtain ⟨b1, b2⟩ := b
  obtain ⟨rfl, -, -⟩ := hu
  show Calls Try.prog 3 #[.slice A n c, .int .i64 h, .int .i64 len, I2 b1 b2] w (LawPost w)
  have hlen : l.length = n := hl.ls.1
  by_cases q : n ≤ 70
  · refine matches_main A n c _ _ l _ _ h len b1 b2 _ _ _ _ _ _ w hl q rfl rfl rfl rfl rfl rfl rfl rfl rfl ?_ rfl ?_
    · unfold Lem.grL; split <;> simp; omega
    · unfold Lem.drL
      have := List.length_filter_le (Lem.stays b1) l
      split <;> simp; omega
  · exact matches_long A n c l h len b1 b2 w hl (by omega)
end Go.Proofs.Ytfaceopjblpkeaa
