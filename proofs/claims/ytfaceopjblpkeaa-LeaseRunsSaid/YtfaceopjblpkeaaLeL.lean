/- The walks of the laws LeaseGrants and LeaseDrops: each returns true for all leases, intervals and numbers; nothing that was there has changed. -/
import Derived.Test.YtfaceopjblpkeaaLeK
import Derived.Test.YtfaceopjblpkeaaLeMath2
set_option linter.unusedVariables false
namespace Go.Proofs.Ytfaceopjblpkeaa
open Go.RowKit
set_option maxHeartbeats 2000000 in
set_option maxRecDepth 100000 in
theorem grants_bad (A : Option Addr) (n c : Nat) (l : List Lem.T3) (h len b1 b2 c1 c2 o : Int) (w : World) (hl : Lin w A n c l) (hc : 70 < n ∨ n ≤ 70 ∧ Lem.iV c1 c2 = false) :
    Calls Try.prog 5 #[.slice A n c, .int .i64 h, .int .i64 len, I2 b1 b2, I2 c1 c2, .int .u8 o] w (LawPost w) := by
  have hb := two_box w (oI b1 b2) (oI c1 c2)
  have kb := Lib.hid (new0 w (oI b1 b2) (oI c1 c2))
  have kc := Lib.hid (new1 w (oI b1 b2) (oI c1 c2))
  have hcap := hl.cap
  have hnc := hl.nc
  clear hl
  rcases hc with q | ⟨q, v⟩
  · go_enter Try.func5, Try.ntmps5
    go_wp2_with fail
    refine (head_any _).mono ?_
    rintro e wN ⟨rfl, hn⟩
    have hb := (by first | exact Below.go hb hn | exact Below.goA hb hn | exact Below.goAA hb hn | exact Below.goD hb hn | exact Below.goAD hb hn : Below w.heap.size w wN)
    have kb := Lib.hid (by first | exact keep' kb.out hn | exact keepA kb.out hn | exact keepAA kb.out hn | exact keepD kb.out hn | exact keepAD kb.out hn)
    have kc := Lib.hid (by first | exact keep' kc.out hn | exact keepA kc.out hn | exact keepAA kc.out hn | exact keepD kc.out hn | exact keepAD kc.out hn)
    clear hn
    obtain ⟨⟨kb0, kb1⟩, -⟩ := blk2 kb.out
    have kbz := lt_of_heap kb.out
    obtain ⟨⟨kc0, kc1⟩, -⟩ := blk2 kc.out
    have kcz := lt_of_heap kc.out
    go_wp2
    go_ret
    exact ⟨rfl, hb⟩
  · go_enter Try.func5, Try.ntmps5
    go_wp2_with fail
    refine (head_any _).mono ?_
    rintro e wN ⟨rfl, hn⟩
    have hb := (by first | exact Below.go hb hn | exact Below.goA hb hn | exact Below.goAA hb hn | exact Below.goD hb hn | exact Below.goAD hb hn : Below w.heap.size w wN)
    have kb := Lib.hid (by first | exact keep' kb.out hn | exact keepA kb.out hn | exact keepAA kb.out hn | exact keepD kb.out hn | exact keepAD kb.out hn)
    have kc := Lib.hid (by first | exact keep' kc.out hn | exact keepA kc.out hn | exact keepAA kc.out hn | exact keepD kc.out hn | exact keepAD kc.out hn)
    clear hn
    obtain ⟨⟨kb0, kb1⟩, -⟩ := blk2 kb.out
    have kbz := lt_of_heap kb.out
    obtain ⟨⟨kc0, kc1⟩, -⟩ := blk2 kc.out
    have kcz := lt_of_heap kc.out
    go_wp2_with fail
    refine (rIV_any _ _ _).mono ?_
    rintro e wN ⟨rfl, hn⟩
    have hb := (by first | exact Below.go hb hn | exact Below.goA hb hn | exact Below.goAA hb hn | exact Below.goD hb hn | exact Below.goAD hb hn : Below w.heap.size w wN)
    have kb := Lib.hid (by first | exact keep' kb.out hn | exact keepA kb.out hn | exact keepAA kb.out hn | exact keepD kb.out hn | exact keepAD kb.out hn)
    have kc := Lib.hid (by first | exact keep' kc.out hn | exact keepA kc.out hn | exact keepAA kc.out hn | exact keepD kc.out hn | exact keepAD kc.out hn)
    clear hn
    obtain ⟨⟨kb0, kb1⟩, -⟩ := blk2 kb.out
    have kbz := lt_of_heap kb.out
    obtain ⟨⟨kc0, kc1⟩, -⟩ := blk2 kc.out
    have kcz := lt_of_heap kc.out
    go_wp2
    go_ret
    exact ⟨rfl, hb⟩
set_option maxHeartbeats 2000000 in
set_option maxRecDepth 100000 in
theorem grants_no (A : Option Addr) (n c : Nat) (l : List Lem.T3) (h len b1 b2 c1 c2 o : Int) (w : World) (hl : Lin w A n c l) (q : n ≤ 70) (v : Lem.iV c1 c2 = true) (e1 : (Lem.grE l h len b1 b2 != 0) = true) (e2 : Lem.grL l h len b1 b2 = []) :
    Calls Try.prog 5 #[.slice A n c, .int .i64 h, .int .i64 len, I2 b1 b2, I2 c1 c2, .int .u8 o] w (LawPost w) := by
  have hb := two_box w (oI b1 b2) (oI c1 c2)
  have kb := Lib.hid (new0 w (oI b1 b2) (oI c1 c2))
  have kc := Lib.hid (new1 w (oI b1 b2) (oI c1 c2))
  have HL := Lib.hid hl
  have hcap := hl.cap
  have hnc := hl.nc
  clear hl
  go_enter Try.func5, Try.ntmps5
  go_wp2_with fail
  refine (head_any _).mono ?_
  rintro e wN ⟨rfl, hn⟩
  have hb := (by first | exact Below.go hb hn | exact Below.goA hb hn | exact Below.goAA hb hn | exact Below.goD hb hn | exact Below.goAD hb hn : Below w.heap.size w wN)
  have kb := Lib.hid (by first | exact keep' kb.out hn | exact keepA kb.out hn | exact keepAA kb.out hn | exact keepD kb.out hn | exact keepAD kb.out hn)
  have kc := Lib.hid (by first | exact keep' kc.out hn | exact keepA kc.out hn | exact keepAA kc.out hn | exact keepD kc.out hn | exact keepAD kc.out hn)
  clear hn
  obtain ⟨⟨kb0, kb1⟩, -⟩ := blk2 kb.out
  have kbz := lt_of_heap kb.out
  obtain ⟨⟨kc0, kc1⟩, -⟩ := blk2 kc.out
  have kcz := lt_of_heap kc.out
  go_wp2_with fail
  refine (rIV_any _ _ _).mono ?_
  rintro e wN ⟨rfl, hn⟩
  have hb := (by first | exact Below.go hb hn | exact Below.goA hb hn | exact Below.goAA hb hn | exact Below.goD hb hn | exact Below.goAD hb hn : Below w.heap.size w wN)
  have kb := Lib.hid (by first | exact keep' kb.out hn | exact keepA kb.out hn | exact keepAA kb.out hn | exact keepD kb.out hn | exact keepAD kb.out hn)
  have kc := Lib.hid (by first | exact keep' kc.out hn | exact keepA kc.out hn | exact keepAA kc.out hn | exact keepD kc.out hn | exact keepAD kc.out hn)
  clear hn
  obtain ⟨⟨kb0, kb1⟩, -⟩ := blk2 kb.out
  have kbz := lt_of_heap kb.out
  obtain ⟨⟨kc0, kc1⟩, -⟩ := blk2 kc.out
  have kcz := lt_of_heap kc.out
  go_wp2_with fail
  refine (Grant_any A n c l _ _ _ _ _ (HL.out.below hb) q).mono ?_
  rintro e wN ⟨vN, rfl, hown, hn⟩
  have hb := (by first | exact Below.go hb hn | exact Below.goA hb hn | exact Below.goAA hb hn | exact Below.goD hb hn | exact Below.goAD hb hn : Below w.heap.size w wN)
  have kb := Lib.hid (by first | exact keep' kb.out hn | exact keepA kb.out hn | exact keepAA kb.out hn | exact keepD kb.out hn | exact keepAD kb.out hn)
  have kc := Lib.hid (by first | exact keep' kc.out hn | exact keepA kc.out hn | exact keepAA kc.out hn | exact keepD kc.out hn | exact keepAD kc.out hn)
  clear hn
  obtain ⟨⟨kb0, kb1⟩, -⟩ := blk2 kb.out
  have kbz := lt_of_heap kb.out
  obtain ⟨⟨kc0, kc1⟩, -⟩ := blk2 kc.out
  have kcz := lt_of_heap kc.out
  rw [e2] at hown
  obtain ⟨A', c', rfl, -⟩ := hown.lin1 (m := 0) rfl
  clear hown e2
  go_wp2
  go_ret
  exact ⟨rfl, hb⟩
set_option maxHeartbeats 2000000 in
set_option maxRecDepth 100000 in
theorem grants_main (A : Option Addr) (n c : Nat) (l M : List Lem.T3) (h len b1 b2 c1 c2 o W : Int) (w : World) (hl : Lin w A n c l) (q : n ≤ 63) (v : Lem.iV c1 c2 = true) (e1 : Lem.grE l h len b1 b2 = 0) (e2 : Lem.grL l h len b1 b2 = M) (e3 : M.length = n + 1) (e4 : M.take n = l) (e5 : Lem.valid M = true)
    (o0 : 0 ≤ o) (o1 : o < 256) (hW : o % 64 = W) (g1 : 0 ≤ b1) (g2 : b1 ≤ 3000000000000000) (g3 : 1 ≤ len) (g4 : len ≤ 3000000000000000) (X Y P Q : Bool)
    (s1 : Lem.seV l (1 + W) c1 c2 = X) (s2 : Lem.seE l (1 + W) c1 c2 = 0) (s3 : Lem.seV M (1 + W) c1 c2 = Y) (s4 : Lem.seE M (1 + W) c1 c2 = 0)
    (t1 : Lem.seV l h c1 c2 = P) (t2 : Lem.seE l h c1 c2 = 0) (t3 : Lem.seV M h c1 c2 = Q) (t4 : Lem.seE M h c1 c2 = 0)
    (E : Bool) (hd : decide (b1 ≤ c1) = true ∧ decide (c2 < b1 + len) = E ∨ decide (b1 ≤ c1) = false ∧ E = false) (hq : Q = (P || E)) (hk : (1 + W == h) = true ∨ (1 + W == h) = false ∧ X = Y) :
    Calls Try.prog 5 #[.slice A n c, .int .i64 h, .int .i64 len, I2 b1 b2, I2 c1 c2, .int .u8 o] w (LawPost w) := by
  have hb := two_box w (oI b1 b2) (oI c1 c2)
  have kb := Lib.hid (new0 w (oI b1 b2) (oI c1 c2))
  have kc := Lib.hid (new1 w (oI b1 b2) (oI c1 c2))
  have HL := Lib.hid hl
  have hcap := hl.cap
  have hnc := hl.nc
  have H3 := Lib.hid e3
  have H4 := Lib.hid e4
  clear hl e3 e4
  have W0 : 0 ≤ W := by omega
  have W1 : W < 64 := by omega
  have hsame : sameB l l = true := decide_eq_true rfl
  go_enter Try.func5, Try.ntmps5
  go_wp2_with fail
  refine (head_any _).mono ?_
  rintro e wN ⟨rfl, hn⟩
  have hb := (by first | exact Below.go hb hn | exact Below.goA hb hn | exact Below.goAA hb hn | exact Below.goD hb hn | exact Below.goAD hb hn : Below w.heap.size w wN)
  have kb := Lib.hid (by first | exact keep' kb.out hn | exact keepA kb.out hn | exact keepAA kb.out hn | exact keepD kb.out hn | exact keepAD kb.out hn)
  have kc := Lib.hid (by first | exact keep' kc.out hn | exact keepA kc.out hn | exact keepAA kc.out hn | exact keepD kc.out hn | exact keepAD kc.out hn)
  clear hn
  obtain ⟨⟨kb0, kb1⟩, -⟩ := blk2 kb.out
  have kbz := lt_of_heap kb.out
  obtain ⟨⟨kc0, kc1⟩, -⟩ := blk2 kc.out
  have kcz := lt_of_heap kc.out
  go_wp2_with fail
  refine (rIV_any _ _ _).mono ?_
  rintro e wN ⟨rfl, hn⟩
  have hb := (by first | exact Below.go hb hn | exact Below.goA hb hn | exact Below.goAA hb hn | exact Below.goD hb hn | exact Below.goAD hb hn : Below w.heap.size w wN)
  have kb := Lib.hid (by first | exact keep' kb.out hn | exact keepA kb.out hn | exact keepAA kb.out hn | exact keepD kb.out hn | exact keepAD kb.out hn)
  have kc := Lib.hid (by first | exact keep' kc.out hn | exact keepA kc.out hn | exact keepAA kc.out hn | exact keepD kc.out hn | exact keepAD kc.out hn)
  clear hn
  obtain ⟨⟨kb0, kb1⟩, -⟩ := blk2 kb.out
  have kbz := lt_of_heap kb.out
  obtain ⟨⟨kc0, kc1⟩, -⟩ := blk2 kc.out
  have kcz := lt_of_heap kc.out
  go_wp2_with fail
  refine (Grant_any A n c l _ _ _ _ _ (HL.out.below hb) (by omega)).mono ?_
  rintro e wN ⟨vN, rfl, hown, hn⟩
  have hb := (by first | exact Below.go hb hn | exact Below.goA hb hn | exact Below.goAA hb hn | exact Below.goD hb hn | exact Below.goAD hb hn : Below w.heap.size w wN)
  have kb := Lib.hid (by first | exact keep' kb.out hn | exact keepA kb.out hn | exact keepAA kb.out hn | exact keepD kb.out hn | exact keepAD kb.out hn)
  have kc := Lib.hid (by first | exact keep' kc.out hn | exact keepA kc.out hn | exact keepAA kc.out hn | exact keepD kc.out hn | exact keepAD kc.out hn)
  clear hn
  obtain ⟨⟨kb0, kb1⟩, -⟩ := blk2 kb.out
  have kbz := lt_of_heap kb.out
  obtain ⟨⟨kc0, kc1⟩, -⟩ := blk2 kc.out
  have kcz := lt_of_heap kc.out
  rw [e2] at hown
  obtain ⟨A', c', rfl, hm⟩ := hown.lin1 (m := n + 1) H3.out
  obtain ⟨w3, rfl⟩ : ∃ x, x = wN := ⟨_, rfl⟩
  have HM := Lib.hid hm
  have hb3 := hb
  have mcap := hm.cap
  have mnc := hm.nc
  clear hown hm
  cases A' with
  | none => have := HM.out.nil rfl; omega
  | some ad =>
  have hbm := Below.refl w3.heap.size w3
  go_wp2_with fail
  refine (Serves_any A n c l _ _ _ _ (HL.out.below hb) (by omega)).mono ?_
  rintro e wN ⟨rfl, hn⟩
  have hb := (by first | exact Below.go hb hn | exact Below.goA hb hn | exact Below.goAA hb hn | exact Below.goD hb hn | exact Below.goAD hb hn : Below w.heap.size w wN)
  have kb := Lib.hid (by first | exact keep' kb.out hn | exact keepA kb.out hn | exact keepAA kb.out hn | exact keepD kb.out hn | exact keepAD kb.out hn)
  have kc := Lib.hid (by first | exact keep' kc.out hn | exact keepA kc.out hn | exact keepAA kc.out hn | exact keepD kc.out hn | exact keepAD kc.out hn)
  have hbm := (by first | exact Below.go hbm hn | exact Below.goA hbm hn | exact Below.goAA hbm hn : Below w3.heap.size w3 wN)
  clear hn
  obtain ⟨⟨kb0, kb1⟩, -⟩ := blk2 kb.out
  have kbz := lt_of_heap kb.out
  obtain ⟨⟨kc0, kc1⟩, -⟩ := blk2 kc.out
  have kcz := lt_of_heap kc.out
  go_wp2_with fail
  refine (Serves_any _ _ _ M _ _ _ _ (HM.out.below hbm) (by omega)).mono ?_
  rintro e wN ⟨rfl, hn⟩
  have hb := (by first | exact Below.go hb hn | exact Below.goA hb hn | exact Below.goAA hb hn | exact Below.goD hb hn | exact Below.goAD hb hn : Below w.heap.size w wN)
  have kb := Lib.hid (by first | exact keep' kb.out hn | exact keepA kb.out hn | exact keepAA kb.out hn | exact keepD kb.out hn | exact keepAD kb.out hn)
  have kc := Lib.hid (by first | exact keep' kc.out hn | exact keepA kc.out hn | exact keepAA kc.out hn | exact keepD kc.out hn | exact keepAD kc.out hn)
  have hbm := (by first | exact Below.go hbm hn | exact Below.goA hbm hn | exact Below.goAA hbm hn : Below w3.heap.size w3 wN)
  clear hn
  obtain ⟨⟨kb0, kb1⟩, -⟩ := blk2 kb.out
  have kbz := lt_of_heap kb.out
  obtain ⟨⟨kc0, kc1⟩, -⟩ := blk2 kc.out
  have kcz := lt_of_heap kc.out
  go_wp2_with fail
  refine (Serves_any A n c l _ _ _ _ (HL.out.below hb) (by omega)).mono ?_
  rintro e wN ⟨rfl, hn⟩
  have hb := (by first | exact Below.go hb hn | exact Below.goA hb hn | exact Below.goAA hb hn | exact Below.goD hb hn | exact Below.goAD hb hn : Below w.heap.size w wN)
  have kb := Lib.hid (by first | exact keep' kb.out hn | exact keepA kb.out hn | exact keepAA kb.out hn | exact keepD kb.out hn | exact keepAD kb.out hn)
  have kc := Lib.hid (by first | exact keep' kc.out hn | exact keepA kc.out hn | exact keepAA kc.out hn | exact keepD kc.out hn | exact keepAD kc.out hn)
  have hbm := (by first | exact Below.go hbm hn | exact Below.goA hbm hn | exact Below.goAA hbm hn : Below w3.heap.size w3 wN)
  clear hn
  obtain ⟨⟨kb0, kb1⟩, -⟩ := blk2 kb.out
  have kbz := lt_of_heap kb.out
  obtain ⟨⟨kc0, kc1⟩, -⟩ := blk2 kc.out
  have kcz := lt_of_heap kc.out
  go_wp2_with fail
  refine (Serves_any _ _ _ M _ _ _ _ (HM.out.below hbm) (by omega)).mono ?_
  rintro e wN ⟨rfl, hn⟩
  have hb := (by first | exact Below.go hb hn | exact Below.goA hb hn | exact Below.goAA hb hn | exact Below.goD hb hn | exact Below.goAD hb hn : Below w.heap.size w wN)
  have kb := Lib.hid (by first | exact keep' kb.out hn | exact keepA kb.out hn | exact keepAA kb.out hn | exact keepD kb.out hn | exact keepAD kb.out hn)
  have kc := Lib.hid (by first | exact keep' kc.out hn | exact keepA kc.out hn | exact keepAA kc.out hn | exact keepD kc.out hn | exact keepAD kc.out hn)
  have hbm := (by first | exact Below.go hbm hn | exact Below.goA hbm hn | exact Below.goAA hbm hn : Below w3.heap.size w3 wN)
  clear hn
  obtain ⟨⟨kb0, kb1⟩, -⟩ := blk2 kb.out
  have kbz := lt_of_heap kb.out
  obtain ⟨⟨kc0, kc1⟩, -⟩ := blk2 kc.out
  have kcz := lt_of_heap kc.out
  rcases hd with ⟨p1, p2⟩ | ⟨p1, rfl⟩
  all_goals
    go_wp2_with fail
    refine (Valid_any _ _ _ M _ (HM.out.below hbm).ls (by omega) (HM.out.below hbm).nc (HM.out.below hbm).cap).mono ?_
    rintro e wN ⟨rfl, hn⟩
    have hb := (by first | exact Below.go hb hn | exact Below.goA hb hn | exact Below.goAA hb hn | exact Below.goD hb hn | exact Below.goAD hb hn : Below w.heap.size w wN)
    have kb := Lib.hid (by first | exact keep' kb.out hn | exact keepA kb.out hn | exact keepAA kb.out hn | exact keepD kb.out hn | exact keepAD kb.out hn)
    have kc := Lib.hid (by first | exact keep' kc.out hn | exact keepA kc.out hn | exact keepAA kc.out hn | exact keepD kc.out hn | exact keepAD kc.out hn)
    have hbm := (by first | exact Below.go hbm hn | exact Below.goA hbm hn | exact Below.goAA hbm hn : Below w3.heap.size w3 wN)
    clear hn
    obtain ⟨⟨kb0, kb1⟩, -⟩ := blk2 kb.out
    have kbz := lt_of_heap kb.out
    obtain ⟨⟨kc0, kc1⟩, -⟩ := blk2 kc.out
    have kcz := lt_of_heap kc.out
    go_wp2_with fail
    have hms : Ls wN.heap.size wN (some ad) n l := by have := (HM.out.below hbm).ls.take (m := n) (by omega); rwa [H4.out] at this
    refine (Same_any _ _ _ l _ _ _ l _ hms (HL.out.below hb).ls (by omega) (by omega)).mono ?_
    rintro e w9 ⟨rfl, hn9⟩
    have hb := Below.go hb hn9
    obtain ⟨⟨kb0, kb1⟩, -⟩ := blk2 (keep' kb.out hn9)
    obtain ⟨⟨kc0, kc1⟩, -⟩ := blk2 (keep' kc.out hn9)
    clear hn9
    subst hq
    cases P
    all_goals
      rcases hk with k1 | ⟨k1, rfl⟩
      all_goals
        go_wp2
        all_goals go_ret
        all_goals exact ⟨rfl, hb⟩
theorem seB_yes {l : List Lem.T3} {h lo hi : Int} (a : Lem.valid l = true) (b : Lem.hB h = true) (c : Lem.iV lo hi = true) : Lem.seE l h lo hi = 0 ∧ Lem.seV l h lo hi = l.any (Lem.lets h lo hi) := by
  unfold Lem.seE Lem.seV Lem.seB; rw [a, b, c]; exact ⟨rfl, rfl⟩
theorem grants_law (v : Value) (l : List Lem.T3) (h len : Int) (u : Value) (b : Int × Int) (u' : Value) (cc : Int × Int) (o : Int) (w : World) (hv : IsLeases w v l) (h2 : (Lit.int .i64 h).wf = true) (h3 : (Lit.int .i64 len).wf = true) (hu : IsI2 u b) (hu' : IsI2 u' cc) (h1 : (Lit.int .u8 o).wf = true) :
    Calls Try.prog 5 #[v, .int .i64 h, .int .i64 len, u, u', .int .u8 o] w (LawPost w) := by
  obtain ⟨A, n, c, rfl, hl⟩ := hv
  obtain ⟨b1, b2⟩ := b
  obtain ⟨c1, c2⟩ := cc
  obtain ⟨rfl, -, -⟩ := hu
  obtain ⟨rfl, -, -⟩ := hu'
  have hh := bounds_u8 h1
  show Calls Try.prog 5 #[.slice A n c, .int .i64 h, .int .i64 len, I2 b1 b2, I2 c1 c2, .int .u8 o] w (LawPost w)
  by_cases q : n ≤ 70
  rotate_left
  · exact grants_bad A n c l h len b1 b2 c1 c2 o w hl (.inl (by omega))
  cases hj : Lem.iV c1 c2
  · exact grants_bad A n c l h len b1 b2 c1 c2 o w hl (.inr ⟨q, hj⟩)
  by_cases e1 : Lem.grE l h len b1 b2 = 0
  rotate_left
  · exact grants_no A n c l h len b1 b2 c1 c2 o w hl q hj (by simp [bne, e1]) (by unfold Lem.grL; rw [if_neg e1])
  obtain ⟨W, hW⟩ : ∃ d, o % 64 = d := ⟨_, rfl⟩
  obtain ⟨vM, vl, hhB, g1, g2, g3, g4, g5, g6⟩ := Lem.valid_snoc e1
  have hlen : l.length = n := hl.ls.1
  have hi := Lem.iV_bd g3
  have hM : Lem.grL l h len b1 b2 = l ++ [(h, b1, b1 + len)] := by unfold Lem.grL; rw [if_pos e1]
  have hk : Lem.hB (1 + W) = true := Lem.hB_yes ⟨by omega, by omega⟩
  have s1 := seB_yes vl hk hj
  have s2 := seB_yes vM hk hj
  have s3 := seB_yes vl hhB hj
  have s4 := seB_yes vM hhB hj
  refine grants_main A n c l _ h len b1 b2 c1 c2 o W w hl (by omega) hj e1 hM (by simp; omega) (by rw [← hlen]; simp) vM (by omega) (by omega) hW (by omega) (by omega) g1 g2 _ _ _ _ s1.2 s1.1 s2.2 s2.1 s3.2 s3.1 s4.2 s4.1 (decide (b1 ≤ c1) && decide (c2 < b1 + len)) ?_ ?_ ?_
  · cases hd : decide (b1 ≤ c1)
    · exact .inr ⟨rfl, rfl⟩
    · exact .inl ⟨rfl, by simp⟩
  · rw [List.any_append]
    congr 1
    simp [Lem.lets]
  · by_cases hkh : 1 + W = h
    · exact .inl (by simp [hkh])
    · refine .inr ⟨by simp [hkh], ?_⟩
      rw [List.any_append]
      have : ([(h, b1, b1 + len)] : List Lem.T3).any (Lem.lets (1 + W) c1 c2) = false := by
        simp only [List.any_cons, List.any_nil, Bool.or_false, Lem.lets, decide_eq_false_iff_not]
        intro hx
        exact hkh hx.1.symm
      rw [this, Bool.or_false]
set_option maxHeartbeats 2000000 in
set_option maxRecDepth 100000 in
theorem drops_bad (A : Option Addr) (n c : Nat) (l : List Lem.T3) (b1 b2 c1 c2 h : Int) (w : World) (hl : Lin w A n c l)
    (hc : 63 < n ∨ n ≤ 63 ∧ Lem.valid l = false ∨ n ≤ 63 ∧ Lem.valid l = true ∧ Lem.iV b1 b2 = false ∨ n ≤ 63 ∧ Lem.valid l = true ∧ Lem.iV b1 b2 = true ∧ Lem.iV c1 c2 = false ∨ n ≤ 63 ∧ Lem.valid l = true ∧ Lem.iV b1 b2 = true ∧ Lem.iV c1 c2 = true ∧ c2 < b1) :
    Calls Try.prog 7 #[.slice A n c, I2 b1 b2, I2 c1 c2, .int .u8 h] w (LawPost w) := by
  have hb := two_box w (oI b1 b2) (oI c1 c2)
  have kb := Lib.hid (new0 w (oI b1 b2) (oI c1 c2))
  have kc := Lib.hid (new1 w (oI b1 b2) (oI c1 c2))
  have HL := Lib.hid hl
  have hcap := hl.cap
  have hnc := hl.nc
  clear hl
  rcases hc with q | ⟨q, v⟩ | ⟨q, v, i⟩ | ⟨q, v, i, j⟩ | ⟨q, v, i, j, k⟩
  · go_enter Try.func7, Try.ntmps7
    go_wp2_with fail
    refine (head_any _).mono ?_
    rintro e wN ⟨rfl, hn⟩
    have hb := (by first | exact Below.go hb hn | exact Below.goA hb hn | exact Below.goAA hb hn | exact Below.goD hb hn | exact Below.goAD hb hn : Below w.heap.size w wN)
    have kb := Lib.hid (by first | exact keep' kb.out hn | exact keepA kb.out hn | exact keepAA kb.out hn | exact keepD kb.out hn | exact keepAD kb.out hn)
    have kc := Lib.hid (by first | exact keep' kc.out hn | exact keepA kc.out hn | exact keepAA kc.out hn | exact keepD kc.out hn | exact keepAD kc.out hn)
    clear hn
    obtain ⟨⟨kb0, kb1⟩, -⟩ := blk2 kb.out
    have kbz := lt_of_heap kb.out
    obtain ⟨⟨kc0, kc1⟩, -⟩ := blk2 kc.out
    have kcz := lt_of_heap kc.out
    go_wp2
    go_ret
    exact ⟨rfl, hb⟩
  · go_enter Try.func7, Try.ntmps7
    go_wp2_with fail
    refine (head_any _).mono ?_
    rintro e wN ⟨rfl, hn⟩
    have hb := (by first | exact Below.go hb hn | exact Below.goA hb hn | exact Below.goAA hb hn | exact Below.goD hb hn | exact Below.goAD hb hn : Below w.heap.size w wN)
    have kb := Lib.hid (by first | exact keep' kb.out hn | exact keepA kb.out hn | exact keepAA kb.out hn | exact keepD kb.out hn | exact keepAD kb.out hn)
    have kc := Lib.hid (by first | exact keep' kc.out hn | exact keepA kc.out hn | exact keepAA kc.out hn | exact keepD kc.out hn | exact keepAD kc.out hn)
    clear hn
    obtain ⟨⟨kb0, kb1⟩, -⟩ := blk2 kb.out
    have kbz := lt_of_heap kb.out
    obtain ⟨⟨kc0, kc1⟩, -⟩ := blk2 kc.out
    have kcz := lt_of_heap kc.out
    go_wp2_with fail
    refine (rValid_any A n c l _ (HL.out.below hb).ls (by omega)).mono ?_
    rintro e wN ⟨rfl, hn⟩
    have hb := (by first | exact Below.go hb hn | exact Below.goA hb hn | exact Below.goAA hb hn | exact Below.goD hb hn | exact Below.goAD hb hn : Below w.heap.size w wN)
    have kb := Lib.hid (by first | exact keep' kb.out hn | exact keepA kb.out hn | exact keepAA kb.out hn | exact keepD kb.out hn | exact keepAD kb.out hn)
    have kc := Lib.hid (by first | exact keep' kc.out hn | exact keepA kc.out hn | exact keepAA kc.out hn | exact keepD kc.out hn | exact keepAD kc.out hn)
    clear hn
    obtain ⟨⟨kb0, kb1⟩, -⟩ := blk2 kb.out
    have kbz := lt_of_heap kb.out
    obtain ⟨⟨kc0, kc1⟩, -⟩ := blk2 kc.out
    have kcz := lt_of_heap kc.out
    go_wp2
    go_ret
    exact ⟨rfl, hb⟩
  · go_enter Try.func7, Try.ntmps7
    go_wp2_with fail
    refine (head_any _).mono ?_
    rintro e wN ⟨rfl, hn⟩
    have hb := (by first | exact Below.go hb hn | exact Below.goA hb hn | exact Below.goAA hb hn | exact Below.goD hb hn | exact Below.goAD hb hn : Below w.heap.size w wN)
    have kb := Lib.hid (by first | exact keep' kb.out hn | exact keepA kb.out hn | exact keepAA kb.out hn | exact keepD kb.out hn | exact keepAD kb.out hn)
    have kc := Lib.hid (by first | exact keep' kc.out hn | exact keepA kc.out hn | exact keepAA kc.out hn | exact keepD kc.out hn | exact keepAD kc.out hn)
    clear hn
    obtain ⟨⟨kb0, kb1⟩, -⟩ := blk2 kb.out
    have kbz := lt_of_heap kb.out
    obtain ⟨⟨kc0, kc1⟩, -⟩ := blk2 kc.out
    have kcz := lt_of_heap kc.out
    go_wp2_with fail
    refine (rValid_any A n c l _ (HL.out.below hb).ls (by omega)).mono ?_
    rintro e wN ⟨rfl, hn⟩
    have hb := (by first | exact Below.go hb hn | exact Below.goA hb hn | exact Below.goAA hb hn | exact Below.goD hb hn | exact Below.goAD hb hn : Below w.heap.size w wN)
    have kb := Lib.hid (by first | exact keep' kb.out hn | exact keepA kb.out hn | exact keepAA kb.out hn | exact keepD kb.out hn | exact keepAD kb.out hn)
    have kc := Lib.hid (by first | exact keep' kc.out hn | exact keepA kc.out hn | exact keepAA kc.out hn | exact keepD kc.out hn | exact keepAD kc.out hn)
    clear hn
    obtain ⟨⟨kb0, kb1⟩, -⟩ := blk2 kb.out
    have kbz := lt_of_heap kb.out
    obtain ⟨⟨kc0, kc1⟩, -⟩ := blk2 kc.out
    have kcz := lt_of_heap kc.out
    go_wp2_with fail
    refine (rIV_any _ _ _).mono ?_
    rintro e wN ⟨rfl, hn⟩
    have hb := (by first | exact Below.go hb hn | exact Below.goA hb hn | exact Below.goAA hb hn | exact Below.goD hb hn | exact Below.goAD hb hn : Below w.heap.size w wN)
    have kb := Lib.hid (by first | exact keep' kb.out hn | exact keepA kb.out hn | exact keepAA kb.out hn | exact keepD kb.out hn | exact keepAD kb.out hn)
    have kc := Lib.hid (by first | exact keep' kc.out hn | exact keepA kc.out hn | exact keepAA kc.out hn | exact keepD kc.out hn | exact keepAD kc.out hn)
    clear hn
    obtain ⟨⟨kb0, kb1⟩, -⟩ := blk2 kb.out
    have kbz := lt_of_heap kb.out
    obtain ⟨⟨kc0, kc1⟩, -⟩ := blk2 kc.out
    have kcz := lt_of_heap kc.out
    go_wp2
    go_ret
    exact ⟨rfl, hb⟩
  · go_enter Try.func7, Try.ntmps7
    go_wp2_with fail
    refine (head_any _).mono ?_
    rintro e wN ⟨rfl, hn⟩
    have hb := (by first | exact Below.go hb hn | exact Below.goA hb hn | exact Below.goAA hb hn | exact Below.goD hb hn | exact Below.goAD hb hn : Below w.heap.size w wN)
    have kb := Lib.hid (by first | exact keep' kb.out hn | exact keepA kb.out hn | exact keepAA kb.out hn | exact keepD kb.out hn | exact keepAD kb.out hn)
    have kc := Lib.hid (by first | exact keep' kc.out hn | exact keepA kc.out hn | exact keepAA kc.out hn | exact keepD kc.out hn | exact keepAD kc.out hn)
    clear hn
    obtain ⟨⟨kb0, kb1⟩, -⟩ := blk2 kb.out
    have kbz := lt_of_heap kb.out
    obtain ⟨⟨kc0, kc1⟩, -⟩ := blk2 kc.out
    have kcz := lt_of_heap kc.out
    go_wp2_with fail
    refine (rValid_any A n c l _ (HL.out.below hb).ls (by omega)).mono ?_
    rintro e wN ⟨rfl, hn⟩
    have hb := (by first | exact Below.go hb hn | exact Below.goA hb hn | exact Below.goAA hb hn | exact Below.goD hb hn | exact Below.goAD hb hn : Below w.heap.size w wN)
    have kb := Lib.hid (by first | exact keep' kb.out hn | exact keepA kb.out hn | exact keepAA kb.out hn | exact keepD kb.out hn | exact keepAD kb.out hn)
    have kc := Lib.hid (by first | exact keep' kc.out hn | exact keepA kc.out hn | exact keepAA kc.out hn | exact keepD kc.out hn | exact keepAD kc.out hn)
    clear hn
    obtain ⟨⟨kb0, kb1⟩, -⟩ := blk2 kb.out
    have kbz := lt_of_heap kb.out
    obtain ⟨⟨kc0, kc1⟩, -⟩ := blk2 kc.out
    have kcz := lt_of_heap kc.out
    go_wp2_with fail
    refine (rIV_any _ _ _).mono ?_
    rintro e wN ⟨rfl, hn⟩
    have hb := (by first | exact Below.go hb hn | exact Below.goA hb hn | exact Below.goAA hb hn | exact Below.goD hb hn | exact Below.goAD hb hn : Below w.heap.size w wN)
    have kb := Lib.hid (by first | exact keep' kb.out hn | exact keepA kb.out hn | exact keepAA kb.out hn | exact keepD kb.out hn | exact keepAD kb.out hn)
    have kc := Lib.hid (by first | exact keep' kc.out hn | exact keepA kc.out hn | exact keepAA kc.out hn | exact keepD kc.out hn | exact keepAD kc.out hn)
    clear hn
    obtain ⟨⟨kb0, kb1⟩, -⟩ := blk2 kb.out
    have kbz := lt_of_heap kb.out
    obtain ⟨⟨kc0, kc1⟩, -⟩ := blk2 kc.out
    have kcz := lt_of_heap kc.out
    go_wp2_with fail
    refine (rIV_any _ _ _).mono ?_
    rintro e wN ⟨rfl, hn⟩
    have hb := (by first | exact Below.go hb hn | exact Below.goA hb hn | exact Below.goAA hb hn | exact Below.goD hb hn | exact Below.goAD hb hn : Below w.heap.size w wN)
    have kb := Lib.hid (by first | exact keep' kb.out hn | exact keepA kb.out hn | exact keepAA kb.out hn | exact keepD kb.out hn | exact keepAD kb.out hn)
    have kc := Lib.hid (by first | exact keep' kc.out hn | exact keepA kc.out hn | exact keepAA kc.out hn | exact keepD kc.out hn | exact keepAD kc.out hn)
    clear hn
    obtain ⟨⟨kb0, kb1⟩, -⟩ := blk2 kb.out
    have kbz := lt_of_heap kb.out
    obtain ⟨⟨kc0, kc1⟩, -⟩ := blk2 kc.out
    have kcz := lt_of_heap kc.out
    go_wp2
    go_ret
    exact ⟨rfl, hb⟩
  · go_enter Try.func7, Try.ntmps7
    go_wp2_with fail
    refine (head_any _).mono ?_
    rintro e wN ⟨rfl, hn⟩
    have hb := (by first | exact Below.go hb hn | exact Below.goA hb hn | exact Below.goAA hb hn | exact Below.goD hb hn | exact Below.goAD hb hn : Below w.heap.size w wN)
    have kb := Lib.hid (by first | exact keep' kb.out hn | exact keepA kb.out hn | exact keepAA kb.out hn | exact keepD kb.out hn | exact keepAD kb.out hn)
    have kc := Lib.hid (by first | exact keep' kc.out hn | exact keepA kc.out hn | exact keepAA kc.out hn | exact keepD kc.out hn | exact keepAD kc.out hn)
    clear hn
    obtain ⟨⟨kb0, kb1⟩, -⟩ := blk2 kb.out
    have kbz := lt_of_heap kb.out
    obtain ⟨⟨kc0, kc1⟩, -⟩ := blk2 kc.out
    have kcz := lt_of_heap kc.out
    go_wp2_with fail
    refine (rValid_any A n c l _ (HL.out.below hb).ls (by omega)).mono ?_
    rintro e wN ⟨rfl, hn⟩
    have hb := (by first | exact Below.go hb hn | exact Below.goA hb hn | exact Below.goAA hb hn | exact Below.goD hb hn | exact Below.goAD hb hn : Below w.heap.size w wN)
    have kb := Lib.hid (by first | exact keep' kb.out hn | exact keepA kb.out hn | exact keepAA kb.out hn | exact keepD kb.out hn | exact keepAD kb.out hn)
    have kc := Lib.hid (by first | exact keep' kc.out hn | exact keepA kc.out hn | exact keepAA kc.out hn | exact keepD kc.out hn | exact keepAD kc.out hn)
    clear hn
    obtain ⟨⟨kb0, kb1⟩, -⟩ := blk2 kb.out
    have kbz := lt_of_heap kb.out
    obtain ⟨⟨kc0, kc1⟩, -⟩ := blk2 kc.out
    have kcz := lt_of_heap kc.out
    go_wp2_with fail
    refine (rIV_any _ _ _).mono ?_
    rintro e wN ⟨rfl, hn⟩
    have hb := (by first | exact Below.go hb hn | exact Below.goA hb hn | exact Below.goAA hb hn | exact Below.goD hb hn | exact Below.goAD hb hn : Below w.heap.size w wN)
    have kb := Lib.hid (by first | exact keep' kb.out hn | exact keepA kb.out hn | exact keepAA kb.out hn | exact keepD kb.out hn | exact keepAD kb.out hn)
    have kc := Lib.hid (by first | exact keep' kc.out hn | exact keepA kc.out hn | exact keepAA kc.out hn | exact keepD kc.out hn | exact keepAD kc.out hn)
    clear hn
    obtain ⟨⟨kb0, kb1⟩, -⟩ := blk2 kb.out
    have kbz := lt_of_heap kb.out
    obtain ⟨⟨kc0, kc1⟩, -⟩ := blk2 kc.out
    have kcz := lt_of_heap kc.out
    go_wp2_with fail
    refine (rIV_any _ _ _).mono ?_
    rintro e wN ⟨rfl, hn⟩
    have hb := (by first | exact Below.go hb hn | exact Below.goA hb hn | exact Below.goAA hb hn | exact Below.goD hb hn | exact Below.goAD hb hn : Below w.heap.size w wN)
    have kb := Lib.hid (by first | exact keep' kb.out hn | exact keepA kb.out hn | exact keepAA kb.out hn | exact keepD kb.out hn | exact keepAD kb.out hn)
    have kc := Lib.hid (by first | exact keep' kc.out hn | exact keepA kc.out hn | exact keepAA kc.out hn | exact keepD kc.out hn | exact keepAD kc.out hn)
    clear hn
    obtain ⟨⟨kb0, kb1⟩, -⟩ := blk2 kb.out
    have kbz := lt_of_heap kb.out
    obtain ⟨⟨kc0, kc1⟩, -⟩ := blk2 kc.out
    have kcz := lt_of_heap kc.out
    go_wp2
    go_ret
    exact ⟨rfl, hb⟩
set_option maxHeartbeats 2000000 in
set_option maxRecDepth 100000 in
theorem drops_main (A : Option Addr) (n c m : Nat) (l D : List Lem.T3) (b1 b2 c1 c2 h W E E' : Int) (w : World) (hl : Lin w A n c l) (q : n ≤ 63) (v : Lem.valid l = true) (i : Lem.iV b1 b2 = true) (j : Lem.iV c1 c2 = true) (hbc : b1 ≤ c2) (h0 : 0 ≤ h) (h1 : h < 256) (hW : h % 64 = W)
    (e1 : Lem.drE l b1 b2 = 0) (e2 : Lem.drL l b1 b2 = D) (e3 : D.length = m) (e4 : m ≤ n) (e5 : Lem.valid D = true) (X : Bool)
    (s1 : Lem.seV l (1 + W) c1 c2 = X) (s2 : Lem.seE l (1 + W) c1 c2 = 0) (s3 : Lem.seV D (1 + W) c1 c2 = X) (s4 : Lem.seE D (1 + W) c1 c2 = 0)
    (t1 : Lem.grE l (1 + W) 1 c1 c2 = E) (t2 : Lem.grE D (1 + W) 1 c1 c2 = E') (hx : decide (c1 < b1) = true ∨ decide (c1 < b1) = false ∧ E = E') :
    Calls Try.prog 7 #[.slice A n c, I2 b1 b2, I2 c1 c2, .int .u8 h] w (LawPost w) := by
  have hb := two_box w (oI b1 b2) (oI c1 c2)
  have kb := Lib.hid (new0 w (oI b1 b2) (oI c1 c2))
  have kc := Lib.hid (new1 w (oI b1 b2) (oI c1 c2))
  have HL := Lib.hid hl
  have hcap := hl.cap
  have hnc := hl.nc
  have H3 := Lib.hid e3
  clear hl e3
  have W0 : 0 ≤ W := by omega
  have W1 : W < 64 := by omega
  go_enter Try.func7, Try.ntmps7
  go_wp2_with fail
  refine (head_any _).mono ?_
  rintro e wN ⟨rfl, hn⟩
  have hb := (by first | exact Below.go hb hn | exact Below.goA hb hn | exact Below.goAA hb hn | exact Below.goD hb hn | exact Below.goAD hb hn : Below w.heap.size w wN)
  have kb := Lib.hid (by first | exact keep' kb.out hn | exact keepA kb.out hn | exact keepAA kb.out hn | exact keepD kb.out hn | exact keepAD kb.out hn)
  have kc := Lib.hid (by first | exact keep' kc.out hn | exact keepA kc.out hn | exact keepAA kc.out hn | exact keepD kc.out hn | exact keepAD kc.out hn)
  clear hn
  obtain ⟨⟨kb0, kb1⟩, -⟩ := blk2 kb.out
  have kbz := lt_of_heap kb.out
  obtain ⟨⟨kc0, kc1⟩, -⟩ := blk2 kc.out
  have kcz := lt_of_heap kc.out
  go_wp2_with fail
  refine (rValid_any A n c l _ (HL.out.below hb).ls (by omega)).mono ?_
  rintro e wN ⟨rfl, hn⟩
  have hb := (by first | exact Below.go hb hn | exact Below.goA hb hn | exact Below.goAA hb hn | exact Below.goD hb hn | exact Below.goAD hb hn : Below w.heap.size w wN)
  have kb := Lib.hid (by first | exact keep' kb.out hn | exact keepA kb.out hn | exact keepAA kb.out hn | exact keepD kb.out hn | exact keepAD kb.out hn)
  have kc := Lib.hid (by first | exact keep' kc.out hn | exact keepA kc.out hn | exact keepAA kc.out hn | exact keepD kc.out hn | exact keepAD kc.out hn)
  clear hn
  obtain ⟨⟨kb0, kb1⟩, -⟩ := blk2 kb.out
  have kbz := lt_of_heap kb.out
  obtain ⟨⟨kc0, kc1⟩, -⟩ := blk2 kc.out
  have kcz := lt_of_heap kc.out
  go_wp2_with fail
  refine (rIV_any _ _ _).mono ?_
  rintro e wN ⟨rfl, hn⟩
  have hb := (by first | exact Below.go hb hn | exact Below.goA hb hn | exact Below.goAA hb hn | exact Below.goD hb hn | exact Below.goAD hb hn : Below w.heap.size w wN)
  have kb := Lib.hid (by first | exact keep' kb.out hn | exact keepA kb.out hn | exact keepAA kb.out hn | exact keepD kb.out hn | exact keepAD kb.out hn)
  have kc := Lib.hid (by first | exact keep' kc.out hn | exact keepA kc.out hn | exact keepAA kc.out hn | exact keepD kc.out hn | exact keepAD kc.out hn)
  clear hn
  obtain ⟨⟨kb0, kb1⟩, -⟩ := blk2 kb.out
  have kbz := lt_of_heap kb.out
  obtain ⟨⟨kc0, kc1⟩, -⟩ := blk2 kc.out
  have kcz := lt_of_heap kc.out
  go_wp2_with fail
  refine (rIV_any _ _ _).mono ?_
  rintro e wN ⟨rfl, hn⟩
  have hb := (by first | exact Below.go hb hn | exact Below.goA hb hn | exact Below.goAA hb hn | exact Below.goD hb hn | exact Below.goAD hb hn : Below w.heap.size w wN)
  have kb := Lib.hid (by first | exact keep' kb.out hn | exact keepA kb.out hn | exact keepAA kb.out hn | exact keepD kb.out hn | exact keepAD kb.out hn)
  have kc := Lib.hid (by first | exact keep' kc.out hn | exact keepA kc.out hn | exact keepAA kc.out hn | exact keepD kc.out hn | exact keepAD kc.out hn)
  clear hn
  obtain ⟨⟨kb0, kb1⟩, -⟩ := blk2 kb.out
  have kbz := lt_of_heap kb.out
  obtain ⟨⟨kc0, kc1⟩, -⟩ := blk2 kc.out
  have kcz := lt_of_heap kc.out
  go_wp2_with fail
  refine (Drop_any A n c l _ _ _ (HL.out.below hb) (by omega)).mono ?_
  rintro e wN ⟨vN, rfl, hown, hn⟩
  have hb := (by first | exact Below.go hb hn | exact Below.goA hb hn | exact Below.goAA hb hn | exact Below.goD hb hn | exact Below.goAD hb hn : Below w.heap.size w wN)
  have kb := Lib.hid (by first | exact keep' kb.out hn | exact keepA kb.out hn | exact keepAA kb.out hn | exact keepD kb.out hn | exact keepAD kb.out hn)
  have kc := Lib.hid (by first | exact keep' kc.out hn | exact keepA kc.out hn | exact keepAA kc.out hn | exact keepD kc.out hn | exact keepAD kc.out hn)
  clear hn
  obtain ⟨⟨kb0, kb1⟩, -⟩ := blk2 kb.out
  have kbz := lt_of_heap kb.out
  obtain ⟨⟨kc0, kc1⟩, -⟩ := blk2 kc.out
  have kcz := lt_of_heap kc.out
  rw [e2] at hown
  obtain ⟨A', c', rfl, hm⟩ := hown.lin1 (m := m) H3.out
  obtain ⟨w3, rfl⟩ : ∃ x, x = wN := ⟨_, rfl⟩
  have HM := Lib.hid hm
  have mcap := hm.cap
  have mnc := hm.nc
  clear hown hm
  have hbm := Below.refl w3.heap.size w3
  go_wp2_with fail
  refine (Serves_any A n c l _ _ _ _ (HL.out.below hb) (by omega)).mono ?_
  rintro e wN ⟨rfl, hn⟩
  have hb := (by first | exact Below.go hb hn | exact Below.goA hb hn | exact Below.goAA hb hn | exact Below.goD hb hn | exact Below.goAD hb hn : Below w.heap.size w wN)
  have kb := Lib.hid (by first | exact keep' kb.out hn | exact keepA kb.out hn | exact keepAA kb.out hn | exact keepD kb.out hn | exact keepAD kb.out hn)
  have kc := Lib.hid (by first | exact keep' kc.out hn | exact keepA kc.out hn | exact keepAA kc.out hn | exact keepD kc.out hn | exact keepAD kc.out hn)
  have hbm := (by first | exact Below.go hbm hn | exact Below.goA hbm hn | exact Below.goAA hbm hn : Below w3.heap.size w3 wN)
  clear hn
  obtain ⟨⟨kb0, kb1⟩, -⟩ := blk2 kb.out
  have kbz := lt_of_heap kb.out
  obtain ⟨⟨kc0, kc1⟩, -⟩ := blk2 kc.out
  have kcz := lt_of_heap kc.out
  go_wp2_with fail
  refine (Serves_any _ _ _ D _ _ _ _ (HM.out.below hbm) (by omega)).mono ?_
  rintro e wN ⟨rfl, hn⟩
  have hb := (by first | exact Below.go hb hn | exact Below.goA hb hn | exact Below.goAA hb hn | exact Below.goD hb hn | exact Below.goAD hb hn : Below w.heap.size w wN)
  have kb := Lib.hid (by first | exact keep' kb.out hn | exact keepA kb.out hn | exact keepAA kb.out hn | exact keepD kb.out hn | exact keepAD kb.out hn)
  have kc := Lib.hid (by first | exact keep' kc.out hn | exact keepA kc.out hn | exact keepAA kc.out hn | exact keepD kc.out hn | exact keepAD kc.out hn)
  have hbm := (by first | exact Below.go hbm hn | exact Below.goA hbm hn | exact Below.goAA hbm hn : Below w3.heap.size w3 wN)
  clear hn
  obtain ⟨⟨kb0, kb1⟩, -⟩ := blk2 kb.out
  have kbz := lt_of_heap kb.out
  obtain ⟨⟨kc0, kc1⟩, -⟩ := blk2 kc.out
  have kcz := lt_of_heap kc.out
  go_wp2_with fail
  refine (Grant_any A n c l _ _ _ _ _ (HL.out.below hb) (by omega)).mono ?_
  rintro e wN ⟨vN, rfl, hown, hn⟩
  have hb := (by first | exact Below.go hb hn | exact Below.goA hb hn | exact Below.goAA hb hn | exact Below.goD hb hn | exact Below.goAD hb hn : Below w.heap.size w wN)
  have kb := Lib.hid (by first | exact keep' kb.out hn | exact keepA kb.out hn | exact keepAA kb.out hn | exact keepD kb.out hn | exact keepAD kb.out hn)
  have kc := Lib.hid (by first | exact keep' kc.out hn | exact keepA kc.out hn | exact keepAA kc.out hn | exact keepD kc.out hn | exact keepAD kc.out hn)
  have hbm := (by first | exact Below.go hbm hn | exact Below.goA hbm hn | exact Below.goAA hbm hn : Below w3.heap.size w3 wN)
  clear hn
  obtain ⟨⟨kb0, kb1⟩, -⟩ := blk2 kb.out
  have kbz := lt_of_heap kb.out
  obtain ⟨⟨kc0, kc1⟩, -⟩ := blk2 kc.out
  have kcz := lt_of_heap kc.out
  clear hown
  go_wp2_with fail
  refine (Grant_any _ _ _ D _ _ _ _ _ (HM.out.below hbm) (by omega)).mono ?_
  rintro e wN ⟨vN, rfl, hown, hn⟩
  have hb := (by first | exact Below.go hb hn | exact Below.goA hb hn | exact Below.goAA hb hn | exact Below.goD hb hn | exact Below.goAD hb hn : Below w.heap.size w wN)
  have kb := Lib.hid (by first | exact keep' kb.out hn | exact keepA kb.out hn | exact keepAA kb.out hn | exact keepD kb.out hn | exact keepAD kb.out hn)
  have kc := Lib.hid (by first | exact keep' kc.out hn | exact keepA kc.out hn | exact keepAA kc.out hn | exact keepD kc.out hn | exact keepAD kc.out hn)
  have hbm := (by first | exact Below.go hbm hn | exact Below.goA hbm hn | exact Below.goAA hbm hn : Below w3.heap.size w3 wN)
  clear hn
  obtain ⟨⟨kb0, kb1⟩, -⟩ := blk2 kb.out
  have kbz := lt_of_heap kb.out
  obtain ⟨⟨kc0, kc1⟩, -⟩ := blk2 kc.out
  have kcz := lt_of_heap kc.out
  clear hown
  cases X
  all_goals
    go_wp2_with fail
    refine (Valid_any _ _ _ D _ (HM.out.below hbm).ls (by omega) (HM.out.below hbm).nc (HM.out.below hbm).cap).mono ?_
    rintro e wN ⟨rfl, hn⟩
    have hb := (by first | exact Below.go hb hn | exact Below.goA hb hn | exact Below.goAA hb hn | exact Below.goD hb hn | exact Below.goAD hb hn : Below w.heap.size w wN)
    have kb := Lib.hid (by first | exact keep' kb.out hn | exact keepA kb.out hn | exact keepAA kb.out hn | exact keepD kb.out hn | exact keepAD kb.out hn)
    have kc := Lib.hid (by first | exact keep' kc.out hn | exact keepA kc.out hn | exact keepAA kc.out hn | exact keepD kc.out hn | exact keepAD kc.out hn)
    have hbm := (by first | exact Below.go hbm hn | exact Below.goA hbm hn | exact Below.goAA hbm hn : Below w3.heap.size w3 wN)
    clear hn
    obtain ⟨⟨kb0, kb1⟩, -⟩ := blk2 kb.out
    have kbz := lt_of_heap kb.out
    obtain ⟨⟨kc0, kc1⟩, -⟩ := blk2 kc.out
    have kcz := lt_of_heap kc.out
    rcases hx with k1 | ⟨k1, rfl⟩
    all_goals
      go_wp2
      all_goals go_ret
      all_goals exact ⟨rfl, hb⟩
theorem drops_law (v : Value) (l : List Lem.T3) (u : Value) (b : Int × Int) (u' : Value) (cc : Int × Int) (h : Int) (w : World) (hv : IsLeases w v l) (hu : IsI2 u b) (hu' : IsI2 u' cc) (h1 : (Lit.int .u8 h).wf = true) :
    Calls Try.prog 7 #[v, u, u', .int .u8 h] w (LawPost w) := by
  obtain ⟨A, n, c, rfl, hl⟩ := hv
  obtain ⟨b1, b2⟩ := b
  obtain ⟨c1, c2⟩ := cc
  obtain ⟨rfl, -, -⟩ := hu
  obtain ⟨rfl, -, -⟩ := hu'
  have hh := bounds_u8 h1
  show Calls Try.prog 7 #[.slice A n c, I2 b1 b2, I2 c1 c2, .int .u8 h] w (LawPost w)
  by_cases q : n ≤ 63
  rotate_left
  · exact drops_bad A n c l b1 b2 c1 c2 h w hl (.inl (by omega))
  cases hva : Lem.valid l
  · exact drops_bad A n c l b1 b2 c1 c2 h w hl (.inr (.inl ⟨q, hva⟩))
  cases hi : Lem.iV b1 b2
  · exact drops_bad A n c l b1 b2 c1 c2 h w hl (.inr (.inr (.inl ⟨q, hva, hi⟩)))
  cases hj : Lem.iV c1 c2
  · exact drops_bad A n c l b1 b2 c1 c2 h w hl (.inr (.inr (.inr (.inl ⟨q, hva, hi, hj⟩))))
  by_cases hbc : c2 < b1
  · exact drops_bad A n c l b1 b2 c1 c2 h w hl (.inr (.inr (.inr (.inr ⟨q, hva, hi, hj, hbc⟩))))
  obtain ⟨W, hW⟩ : ∃ d, h % 64 = d := ⟨_, rfl⟩
  have hB : Lem.drB l b1 b2 = true := by unfold Lem.drB; rw [hva, hi]; rfl
  have hL : Lem.drL l b1 b2 = l.filter (Lem.stays b1) := by unfold Lem.drL; rw [hB]; rfl
  have hlen : l.length = n := hl.ls.1
  have hle := List.length_filter_le (Lem.stays b1) l
  have hk : Lem.hB (1 + W) = true := Lem.hB_yes ⟨by omega, by omega⟩
  have vD := Lem.valid_filter (Lem.stays b1) hva
  have s1 := seB_yes hva hk hj
  have s2 := seB_yes vD hk hj
  have sa : (l.filter (Lem.stays b1)).any (Lem.lets (1 + W) c1 c2) = l.any (Lem.lets (1 + W) c1 c2) := Lem.any_stays _ fun x _ ho => by
    simp only [Lem.over, decide_eq_true_eq] at ho
    simp only [Lem.lets, decide_eq_false_iff_not]
    omega
  refine drops_main A n c _ l _ b1 b2 c1 c2 h W _ _ w hl q hva hi hj (by omega) (by omega) (by omega) hW (by unfold Lem.drE; rw [hB]; rfl) hL rfl (by omega) vD _ s1.2 s1.1 (s2.2.trans sa) s2.1 rfl rfl ?_
  by_cases hc : c1 < b1
  · exact .inl (decide_eq_true hc)
  · refine .inr ⟨decide_eq_false hc, ?_⟩
    have sb : (l.filter (Lem.stays b1)).any (Lem.blocks (1 + W) c1) = l.any (Lem.blocks (1 + W) c1) := Lem.any_stays _ fun x _ ho => by
      simp only [Lem.over, decide_eq_true_eq] at ho
      simp only [Lem.blocks, Lem.over, Bool.and_eq_false_iff, decide_eq_false_iff_not, Bool.not_eq_false', decide_eq_true_eq]
      omega
    unfold Lem.grE Lem.grB
    rw [sb, hva, vD, if_neg (show ¬ l.length = 64 by omega), if_neg (show ¬ (l.filter (Lem.stays b1)).length = 64 by omega)]
end Go.Proofs.Ytfaceopjblpkeaa
