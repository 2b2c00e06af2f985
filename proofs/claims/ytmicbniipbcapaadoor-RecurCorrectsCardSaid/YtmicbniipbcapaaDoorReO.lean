/- The reference's less and Correct. -/
import Derived.Test.YtmicbniipbcapaaDoorReN
set_option linter.unusedVariables false
namespace Go.Proofs.YtmicbniipbcapaaDoor
open Go.RowKit
theorem fil_yes {p : Int × Int → Bool} {l : Lpm.LL} {k n : Nat} {x : Int × Int} (h : l.length = n) (hk : k < n) (hx : l[k]?.getD (0, 0) = x) (hp : p x = true) : (l.take (k + 1)).filter p = (l.take k).filter p ++ [x] := by
  rw [takeL_snoc h hk, hx, List.filter_append]; simp [hp]
theorem fil_no {p : Int × Int → Bool} {l : Lpm.LL} {k n : Nat} {x : Int × Int} (h : l.length = n) (hk : k < n) (hx : l[k]?.getD (0, 0) = x) (hp : p x = false) : (l.take (k + 1)).filter p = (l.take k).filter p := by
  rw [takeL_snoc h hk, hx, List.filter_append]; simp [hp]
def lessP (b : Lpm.LL) (t : Int) (x : Int × Int) : Bool := decide (t < x.2) && !b.contains x
set_option maxHeartbeats 2000000 in
set_option maxRecDepth 100000 in
theorem less_any (A A' : Option Addr) (n c n' c' : Nat) (a b : Lpm.LL) (t : Int) (w : World) (hl : Lp w.heap.size w A n a) (hl' : Lp w.heap.size w A' n' b) (hn : n ≤ 1000) (hn' : n' ≤ 1000) :
    Calls Tryd.prog 40 #[.slice A n c, .slice A' n' c', .int .i64 t] w (LpPost (Rc.less a b t) w) := by
  have H1 := Lib.hid (fun W (hW : Below w.heap.size w W) => hl.go hW)
  have H2 := Lib.hid (fun W (hW : Below w.heap.size w W) => hl'.go hW)
  have HLen := Lib.hid hl.1
  have HR : Hid (Rc.less a b t = a.filter (lessP b t)) := Lib.hid rfl
  obtain ⟨i0, hi, hz0, hz1, hz2⟩ := info_parts infoF
  clear hl hl'
  go_enter Tryd.func40, Tryd.ntmps40
  go_wp2
  go_loopw [7, 8] (fun v i wr => ∃ (k : Nat) (A2 : Option Addr) (m c2 : Nat), k ≤ n ∧ i = .int .i64 k ∧ v = .slice A2 m c2 ∧ m ≤ k ∧ Hid (((a.take k).filter (lessP b t)).length = m) ∧ Hid (wr.ownsRow w.heap.size tF 2 (.slice A2 m c2) m (cellsL ((a.take k).filter (lessP b t)))) ∧ Below w.heap.size w wr) (fun _ i _ => n - (intOf i).toNat)
  case atStart => exact ⟨0, none, 0, 0, Nat.zero_le _, rfl, rfl, Nat.le_refl _, Lib.hid (by simp), Lib.hid (by simpa [cellsL] using (own_nil (B := w.heap.size) (W := w) (t := tF) (sz := 2))), Below.refl _ _⟩
  case round =>
    obtain ⟨k, A2, m, c2, hk, rfl, rfl, hmk, hm, hown, hb⟩ := hrel
    by_cases hlt : k < n
    · obtain ⟨bb, off, rfl, hB, hc⟩ := (H1.out _ (Below.refl _ _)).2 (by omega)
      have c0 := (hb.cell (p := ⟨bb, off + k * 2, none⟩) hB).trans (hc k hlt).1
      have c1 := (hb.cell (p := ⟨bb, off + k * 2 + 1, none⟩) hB).trans (hc k hlt).2
      clear hc
      obtain ⟨d, s, hx⟩ : ∃ d s, a[k]?.getD (0, 0) = (d, s) := ⟨_, _, rfl⟩
      rw [hx] at c0 c1
      have HX := Lib.hid hx
      clear hx
      have i0 : (0 : Int) ≤ (k : Int) := by omega
      have i1 : (k : Int) < (n : Int) := by omega
      cases h1 : decide (t < s)
      · have HS : Hid ((a.take (k + 1)).filter (lessP b t) = (a.take k).filter (lessP b t)) := Lib.hid (fil_no HLen.out hlt HX.out (by unfold lessP; simp [h1]))
        go_wp2
        go_roundw
        case rel => exact ⟨k + 1, A2, m, c2, by omega, by go_num, rfl, by omega, by rw [HS.out]; exact hm, by rw [HS.out]; exact hown, hb⟩
        case measure => simp [intOf]; omega
      · have HC := Lib.hid (has21_any A' n' c' b d s wr (H2.out _ hb) (by omega))
        cases h2 : b.contains (d, s)
        · have HS : Hid ((a.take (k + 1)).filter (lessP b t) = (a.take k).filter (lessP b t) ++ [(d, s)]) := Lib.hid (fil_yes HLen.out hlt HX.out (by unfold lessP; simp only [h1, h2]; rfl))
          rw [h2] at HC
          clear h2
          go_wp2_with fail
          refine HC.out.mono ?_
          rintro e w5 ⟨rfl, hb5⟩
          have hb6 := Below.go hb hb5
          have ho6 := Lib.hid (own_below hown.out hb5)
          have c0 := (hb5.cell (p := ⟨bb, off + k * 2, none⟩) (by have := hb.size; simp; omega)).trans c0
          have c1 := (hb5.cell (p := ⟨bb, off + k * 2 + 1, none⟩) (by have := hb.size; simp; omega)).trans c1
          have hbx := Below.goN hb6 (.cells #[.int .i64 d, .int .i64 s] tF)
          clear hb5
          go_wp2_with (at_builtin; refine wpList_append_own_at _ rfl _ _ 33 rfl w.heap.size tF _ (.agg #[.int .i64 0, .int .i64 0]) 2 16 Tryd.underlying33 hi hz0 hz1 hz2 rfl (by decide) _ m _ rfl (ho6.out.alloc _) ⟨w5.heap.size, 0, none⟩ 1 1 [.int .i64 d, .int .i64 s] rfl rfl (World.news_of_block (heap_new w5 _)) (by simp [Value.oneCell']) (by unfold maxLen; omega) (by omega) (by have := hb6.size; simp; omega) ?_; intro v' w9 hown' hgrow _ _)
          have hb9 := Below.grown hbx hgrow (by have := hb6.size; simp; omega) (fun g hg => (ho6.out.lt g hg).1)
          have hm9 : Hid (((a.take (k + 1)).filter (lessP b t)).length = m + 1) := Lib.hid (by rw [HS.out, List.length_append, hm.out]; rfl)
          have ho9 : w9.ownsRow w.heap.size tF 2 v' (m + 1) (cellsL ((a.take (k + 1)).filter (lessP b t))) := by rw [HS.out, cellsL_app]; exact hown'
          obtain ⟨A9, c9, rfl, -, -, -⟩ := own_lp ho9 hm9.out
          have HO9 := Lib.hid ho9
          clear ho9 hown' hgrow hbx
          go_wp2
          go_roundw
          case rel => exact ⟨k + 1, A9, m + 1, c9, by omega, by go_num, rfl, by omega, hm9, HO9, hb9⟩
          case measure => simp [intOf]; omega
        · have HS : Hid ((a.take (k + 1)).filter (lessP b t) = (a.take k).filter (lessP b t)) := Lib.hid (fil_no HLen.out hlt HX.out (by unfold lessP; simp only [h2]; simp))
          rw [h2] at HC
          clear h2
          go_wp2_with fail
          refine HC.out.mono ?_
          rintro e w5 ⟨rfl, hb5⟩
          have hb6 := Below.go hb hb5
          have ho6 := Lib.hid (own_below hown.out hb5)
          clear hb5
          go_wp2
          go_roundw
          case rel => exact ⟨k + 1, A2, m, c2, by omega, by go_num, rfl, by omega, by rw [HS.out]; exact hm, by rw [HS.out]; exact ho6, hb6⟩
          case measure => simp [intOf]; omega
    · obtain rfl : k = n := by omega
      have e : a.take k = a := List.take_of_length_le (by rw [HLen.out]; omega)
      rw [e] at hm hown
      clear e
      obtain ⟨A3, c3, hAe, hkc3, hA3, hL3⟩ := own_lp hown.out hm.out
      cases hAe
      have HL3 := Lib.hid hL3
      have HA3 : Hid (A2 = none → m = 0 ∧ c2 = 0) := Lib.hid fun h => by have := hA3 h; omega
      clear hL3 hA3
      go_wp2
      go_ret
      exact lp_post HL3.out HA3.out HR.out hb
/-- two lists of fires, and an error -/
def CoPost (o nw : Lpm.LL) (r : Rec) (t : Int) (w : World) (e : Ending) (w' : World) : Prop :=
  ∃ A1 k1 c1 A2 k2 c2, e = .returned (.tuple #[.slice A1 k1 c1, .slice A2 k2 c2, .int .i64 (Rc.coE o nw r t)]) ∧ (A1 = none → k1 = 0 ∧ c1 = 0) ∧ (A2 = none → k2 = 0 ∧ c2 = 0) ∧ Lp w'.heap.size w' A1 k1 (Rc.coF o nw r t) ∧ Lp w'.heap.size w' A2 k2 (Rc.coN o nw r t) ∧ Below w.heap.size w w'
theorem co_no {o nw : Lpm.LL} {r : Rec} {t : Int} {w w' : World} {e : Int} (h1 : Rc.coE o nw r t = e) (h2 : e ≠ 0) (hb : Below w.heap.size w w') : CoPost o nw r t w (.returned (.tuple #[.slice none 0 0, .slice none 0 0, .int .i64 e])) w' := by
  have e1 : Rc.coF o nw r t = [] := by unfold Rc.coF; rw [if_neg (by omega)]
  have e2 : Rc.coN o nw r t = [] := by unfold Rc.coN; rw [if_neg (by omega)]
  exact ⟨none, 0, 0, none, 0, 0, by rw [h1], fun _ => ⟨rfl, rfl⟩, fun _ => ⟨rfl, rfl⟩, by rw [e1]; exact lp_nil _ _ _, by rw [e2]; exact lp_nil _ _ _, hb⟩
theorem co_yes {o nw : Lpm.LL} {r : Rec} {t : Int} {w w' : World} {A1 A2 : Option Addr} {k1 c1 k2 c2 : Nat} (h1 : Rc.coE o nw r t = 0) (h3 : A1 = none → k1 = 0 ∧ c1 = 0) (h4 : A2 = none → k2 = 0 ∧ c2 = 0) (L1 : Lp w'.heap.size w' A1 k1 (Rc.less (Rc.fiV o r) (Rc.fiV nw r) t)) (L2 : Lp w'.heap.size w' A2 k2 (Rc.less (Rc.fiV nw r) (Rc.fiV o r) t)) (hb : Below w.heap.size w w') :
    CoPost o nw r t w (.returned (.tuple #[.slice A1 k1 c1, .slice A2 k2 c2, .int .i64 0])) w' :=
  ⟨A1, k1, c1, A2, k2, c2, by rw [h1], h3, h4, by unfold Rc.coF; rw [if_pos h1]; exact L1, by unfold Rc.coN; rw [if_pos h1]; exact L2, hb⟩
theorem coE_bad {o nw : Lpm.LL} {r : Rec} {t : Int} (h : t < 0 ∨ 3000000000000000 < t) : Rc.coE o nw r t = 1 := by unfold Rc.coE; rw [if_neg (by omega)]
theorem coE_in {o nw : Lpm.LL} {r : Rec} {t : Int} (h0 : 0 ≤ t) (h1 : t ≤ 3000000000000000) : Rc.coE o nw r t = if Rc.fiE o r = 0 then Rc.fiE nw r else Rc.fiE o r := by unfold Rc.coE; rw [if_pos ⟨h0, h1⟩]
set_option maxHeartbeats 2000000 in
set_option maxRecDepth 100000 in
theorem refCorrect_any (A1 A2 : Option Addr) (n1 c1 n2 c2 : Nat) (o nw : Lpm.LL) (r : Rec) (t : Int) (w : World) (h1 : Lp w.heap.size w A1 n1 o) (h2 : Lp w.heap.size w A2 n2 nw) (m1 : n1 ≤ 110) (m2 : n2 ≤ 110) (hr : Fit21 r) :
    Calls Tryd.prog 21 #[.slice A1 n1 c1, .slice A2 n2 c2, (.agg #[.int .i64 r.kind, .int .i64 r.every, .int .i64 r.wd, .int .i64 r.nth, .int .i64 r.frm, .int .i64 r.unt, .int .i64 r.sec, .bool r.shift, .bool r.both]), .int .i64 t] w (CoPost o nw r t w) := by
  have H1 := Lib.hid (fun W (hW : Below w.heap.size w W) => refFires_any A1 n1 c1 o r W (h1.go hW) m1 hr)
  have H2 := Lib.hid (fun W (hW : Below w.heap.size w W) => refFires_any A2 n2 c2 nw r W (h2.go hW) m2 hr)
  have hb := Below.goN (Below.refl w.heap.size w) (.cells #[.int .i64 r.kind, .int .i64 r.every, .int .i64 r.wd, .int .i64 r.nth, .int .i64 r.frm, .int .i64 r.unt, .int .i64 r.sec, .bool r.shift, .bool r.both] 24)
  have kx := Lib.hid (heap_new w (.cells #[.int .i64 r.kind, .int .i64 r.every, .int .i64 r.wd, .int .i64 r.nth, .int .i64 r.frm, .int .i64 r.unt, .int .i64 r.sec, .bool r.shift, .bool r.both] 24))
  have F1 := Rc.fiV_len o r
  have F2 := Rc.fiV_len nw r
  clear h1 h2
  by_cases ha : t < 0
  · have HP := Lib.hid (coE_bad (o := o) (nw := nw) (r := r) (.inl ha))
    have q1 : decide (t < 0) = true := decide_eq_true ha
    go_enter Tryd.func21, Tryd.ntmps21
    go_wp2
    go_ret3
    exact co_no HP.out (by decide) hb
  · by_cases hz : 3000000000000000 < t
    · have HP := Lib.hid (coE_bad (o := o) (nw := nw) (r := r) (.inr hz))
      have q1 : decide (t < 0) = false := decide_eq_false ha
      have q2 : decide (3000000000000000 < t) = true := decide_eq_true hz
      go_enter Tryd.func21, Tryd.ntmps21
      go_wp2
      go_ret3
      exact co_no HP.out (by decide) hb
    · have q1 : decide (t < 0) = false := decide_eq_false ha
      have q2 : decide (3000000000000000 < t) = false := decide_eq_false hz
      have HP := Lib.hid (coE_in (o := o) (nw := nw) (r := r) (t := t) (by omega) (by omega))
      obtain ⟨d0, d1, d2, d3, d4, d5, d6, d7, d8⟩ := blk9 kx.out
      by_cases e1 : Rc.fiE o r = 0
      · have E1 := Lib.hid e1
        clear e1
        by_cases e2 : Rc.fiE nw r = 0
        · have E2 := Lib.hid e2
          clear e2
          go_enter Tryd.func21, Tryd.ntmps21
          go_wp2_with fail
          refine (H1.out _ hb).mono ?_
          rintro e w1 ⟨v1, rfl, hown1, hb1⟩
          rw [E1.out]
          have hb2 := Below.go hb hb1
          have kx2 := Lib.hid (keep' kx.out hb1)
          obtain ⟨B1, b1, rfl, -, -, hL1⟩ := own_lp hown1 rfl
          have HL1 := Lib.hid hL1
          obtain ⟨d0, d1, d2, d3, d4, d5, d6, d7, d8⟩ := blk9 kx2.out
          clear hown1 hL1 hb1
          go_wp2_with fail
          refine (H2.out _ hb2).mono ?_
          rintro e w2 ⟨v2, rfl, hown2, hb1⟩
          rw [E2.out]
          have hb3 := Below.go hb2 hb1
          obtain ⟨B2, b2, rfl, -, -, hL2⟩ := own_lp hown2 rfl
          have HL2 := Lib.hid hL2
          have HL1 := Lib.hid (HL1.out.go hb1)
          clear hown2 hL2 hb1
          go_wp2_with fail
          refine (less_any B1 B2 _ b1 _ b2 (Rc.fiV o r) (Rc.fiV nw r) t w2 HL1.out HL2.out F1 F2).mono ?_
          rintro e w3 ⟨G1, g1, z1, rfl, hz1, hG1, hb4⟩
          have HG1 := Lib.hid hG1
          have HZ1 := Lib.hid hz1
          clear hG1 hz1
          go_wp2_with fail
          refine (less_any B2 B1 _ b2 _ b1 (Rc.fiV nw r) (Rc.fiV o r) t w3 (HL2.out.go hb4) (HL1.out.go hb4) F2 F1).mono ?_
          rintro e w5 ⟨G2, g2, z2, rfl, hz2, hG2, hb5⟩
          have HG2 := Lib.hid hG2
          have HZ2 := Lib.hid hz2
          clear hG2 hz2
          go_wp2
          go_ret3
          exact co_yes (by rw [HP.out, if_pos E1.out, E2.out]) HZ1.out HZ2.out (HG1.out.go hb5) HG2.out (Below.go (Below.go hb3 hb4) hb5)
        · have hE2 := bne_int e2
          have HE2 := Lib.hid e2
          clear e2
          go_enter Tryd.func21, Tryd.ntmps21
          go_wp2_with fail
          refine (H1.out _ hb).mono ?_
          rintro e w1 ⟨v1, rfl, -, hb1⟩
          rw [E1.out]
          have hb2 := Below.go hb hb1
          obtain ⟨d0, d1, d2, d3, d4, d5, d6, d7, d8⟩ := blk9 (keep' kx.out hb1)
          clear hb1
          go_wp2_with fail
          refine (H2.out _ hb2).mono ?_
          rintro e w2 ⟨v2, rfl, -, hb1⟩
          have hb3 := Below.go hb2 hb1
          clear hb1
          go_wp2
          go_ret3
          exact co_no (by rw [HP.out, if_pos E1.out]) HE2.out hb3
      · have hE1 := bne_int e1
        have HE1 := Lib.hid e1
        clear e1
        go_enter Tryd.func21, Tryd.ntmps21
        go_wp2_with fail
        refine (H1.out _ hb).mono ?_
        rintro e w1 ⟨v1, rfl, -, hb1⟩
        have hb2 := Below.go hb hb1
        clear hb1
        go_wp2
        go_ret3
        exact co_no (by rw [HP.out, if_neg HE1.out]) HE1.out hb2
end Go.Proofs.YtmicbniipbcapaaDoor
