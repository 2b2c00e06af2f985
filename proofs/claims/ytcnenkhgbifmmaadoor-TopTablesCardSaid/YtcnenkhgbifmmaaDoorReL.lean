/- The fires of a schedule: the contract of recur.Fires. -/
import Derived.Test.YtcnenkhgbifmmaaDoorReK
set_option linter.unusedVariables false
namespace Go.Proofs.YtcnenkhgbifmmaaDoor
open Go.RowKit
def FiresPost (l : Lpm.LL) (r : Rec) (w : World) (e : Ending) (w' : World) : Prop :=
  ∃ v, e = .returned (.tuple #[v, .int .i64 (Rc.fiE l r)]) ∧ w'.ownsRow w.heap.size tF 2 v (Rc.fiV l r).length (cellsL (Rc.fiV l r)) ∧ Below w.heap.size w w'
theorem fires_post {l : Lpm.LL} {r : Rec} {w w' : World} {v : Value} {e : Int} (h1 : Rc.fiE l r = e) {L : Lpm.LL} (h2 : Rc.fiV l r = L) {n : Nat} (hn : L.length = n) (ho : w'.ownsRow w.heap.size tF 2 v n (cellsL L)) (hb : Below w.heap.size w w') :
    FiresPost l r w (.returned (.tuple #[v, .int .i64 e])) w' := ⟨v, by rw [h1], by rw [h2, hn]; exact ho, hb⟩
/-- what is asked of a schedule: its kind is a number, and it is not too long -/
structure Fit21 (r : Rec) : Prop where
  kd : (Lit.int .i64 r.kind).wf = true
  few : Rc.validB r = true → r.unt - r.frm ≤ 1200
theorem Days_any (r : Rec) (w : World) (ht : Tab w) (h : Fit21 r) : Calls Tryd.prog 25 #[(.agg #[.int .i64 r.kind, .int .i64 r.every, .int .i64 r.wd, .int .i64 r.nth, .int .i64 r.frm, .int .i64 r.unt, .int .i64 r.sec, .bool r.shift, .bool r.both])] w (DaysPost r w) := by
  cases hv : Rc.validB r
  · exact Days_no r w h.kd hv
  · exact Days_yes r w ht h.kd hv (h.few hv)
theorem day_ok {r : Rec} (h : Rc.dysE r = 0) {j : Nat} (hj : j < (Rc.dysV r).length) : 0 ≤ (Rc.dysV r)[j]?.getD 0 ∧ (Rc.dysV r)[j]?.getD 0 ≤ 34000 := by
  obtain ⟨hv, e⟩ := Rc.dysV_ok h
  have hm : (Rc.dysV r)[j]?.getD 0 ∈ Rc.dysV r := by rw [List.getElem?_eq_getElem hj]; exact List.getElem_mem _
  generalize (Rc.dysV r)[j]?.getD 0 = x at *
  rw [e, Rc.mem_days] at hm
  have := (of_decide_eq_true hv : Rc.Val r).2.1
  omega
theorem takeI_snoc {l : List Int} {k n : Nat} (h : l.length = n) (hk : k < n) : l.take (k + 1) = l.take k ++ [l[k]?.getD 0] := by
  rw [List.take_succ_eq_append_getElem (by omega)]; simp [show k < l.length by omega]
theorem bne_int {x : Int} (h : x ≠ 0) : (x != 0) = true := by simpa using h
set_option maxHeartbeats 2000000 in
set_option maxRecDepth 100000 in
theorem Fires_bad (A : Option Addr) (n c : Nat) (l : Lpm.LL) (r : Rec) (w : World) (hl : Lp w.heap.size w A n l) (hn : n ≤ 110) (hv : Lpm.valid l = false) :
    Calls Tryd.prog 10 #[.slice A n c, (.agg #[.int .i64 r.kind, .int .i64 r.every, .int .i64 r.wd, .int .i64 r.nth, .int .i64 r.frm, .int .i64 r.unt, .int .i64 r.sec, .bool r.shift, .bool r.both])] w (FiresPost l r w) := by
  have HP := Lib.hid (Rc.fi_bad (r := r) hv)
  have hb := Below.goN (Below.refl w.heap.size w) (.cells #[.int .i64 r.kind, .int .i64 r.every, .int .i64 r.wd, .int .i64 r.nth, .int .i64 r.frm, .int .i64 r.unt, .int .i64 r.sec, .bool r.shift, .bool r.both] 24)
  have HC := Lib.hid (valid_c (c := c) (hl.go hb) (Nat.le_refl _) hn (Below.refl _ _))
  rw [hv] at HC
  clear hl hv
  go_enter Tryd.func10, Tryd.ntmps10
  go_wp2_with fail
  refine HC.out.mono ?_
  rintro e w1 ⟨rfl, hb1⟩
  have hb := Below.go hb hb1
  go_wp2
  go_ret2
  exact fires_post HP.out.1 HP.out.2 rfl own_nil hb
set_option maxHeartbeats 2000000 in
set_option maxRecDepth 100000 in
theorem Fires_err (A : Option Addr) (n c : Nat) (l : Lpm.LL) (r : Rec) (w : World) (ht : Tab w) (hl : Lp w.heap.size w A n l) (hn : n ≤ 110) (hv : Lpm.valid l = true) (hr : Fit21 r) (hE : Rc.dysE r ≠ 0) :
    Calls Tryd.prog 10 #[.slice A n c, (.agg #[.int .i64 r.kind, .int .i64 r.every, .int .i64 r.wd, .int .i64 r.nth, .int .i64 r.frm, .int .i64 r.unt, .int .i64 r.sec, .bool r.shift, .bool r.both])] w (FiresPost l r w) := by
  have HP := Lib.hid (Rc.fi_days hv hE)
  have hb := Below.goN (Below.refl w.heap.size w) (.cells #[.int .i64 r.kind, .int .i64 r.every, .int .i64 r.wd, .int .i64 r.nth, .int .i64 r.frm, .int .i64 r.unt, .int .i64 r.sec, .bool r.shift, .bool r.both] 24)
  have kx := Lib.hid (heap_new w (.cells #[.int .i64 r.kind, .int .i64 r.every, .int .i64 r.wd, .int .i64 r.nth, .int .i64 r.frm, .int .i64 r.unt, .int .i64 r.sec, .bool r.shift, .bool r.both] 24))
  have HC := Lib.hid (valid_c (c := c) (hl.go hb) (Nat.le_refl _) hn (Below.refl _ _))
  rw [hv] at HC
  have hE2 := bne_int hE
  have HT : Hid (∀ W, Below w.heap.size w W → Tab W) := Lib.hid fun W hW => ht.below hW
  clear hl hv hE ht
  go_enter Tryd.func10, Tryd.ntmps10
  go_wp2_with fail
  refine HC.out.mono ?_
  rintro e w1 ⟨rfl, hb1⟩
  have hb := Below.go hb hb1
  obtain ⟨c0, c1, c2, c3, c4, c5, c6, c7, c8⟩ := blk9 (keep' kx.out hb1)
  clear hb1
  go_wp2_with fail
  refine (Days_any r _ (HT.out _ hb) hr).mono ?_
  rintro e w2 ⟨v, rfl, -, hb2⟩
  have hb := Below.go hb hb2
  go_wp2
  go_ret2
  exact fires_post HP.out.1 HP.out.2 rfl own_nil hb
set_option maxHeartbeats 2000000 in
set_option maxRecDepth 100000 in
theorem Fires_yes (A : Option Addr) (n c : Nat) (l : Lpm.LL) (r : Rec) (w : World) (ht : Tab w) (hl : Lp w.heap.size w A n l) (hn : n ≤ 110) (hv : Lpm.valid l = true) (hr : Fit21 r) (hE : Rc.dysE r = 0) :
    Calls Tryd.prog 10 #[.slice A n c, (.agg #[.int .i64 r.kind, .int .i64 r.every, .int .i64 r.wd, .int .i64 r.nth, .int .i64 r.frm, .int .i64 r.unt, .int .i64 r.sec, .bool r.shift, .bool r.both])] w (FiresPost l r w) := by
  have HV := Lib.hid hv
  obtain ⟨hvr, hdv⟩ := Rc.dysV_ok hE
  have HSec := Lib.hid (sec_ok hvr)
  have HFI : Hid (Rc.fires l r = Rc.firesOf l r (Rc.dysV r)) := Lib.hid (by rw [hdv]; rfl)
  have hb := Below.goN (Below.refl w.heap.size w) (.cells #[.int .i64 r.kind, .int .i64 r.every, .int .i64 r.wd, .int .i64 r.nth, .int .i64 r.frm, .int .i64 r.unt, .int .i64 r.sec, .bool r.shift, .bool r.both] 24)
  have kx := Lib.hid (heap_new w (.cells #[.int .i64 r.kind, .int .i64 r.every, .int .i64 r.wd, .int .i64 r.nth, .int .i64 r.frm, .int .i64 r.unt, .int .i64 r.sec, .bool r.shift, .bool r.both] 24))
  have HC := Lib.hid (valid_c (c := c) (hl.go hb) (Nat.le_refl _) hn (Below.refl _ _))
  rw [hv] at HC
  have HL : Hid (∀ W, Below w.heap.size w W → Lp W.heap.size W A n l) := Lib.hid fun W hW => hl.go hW
  have HE := Lib.hid hE
  have HD := Lib.hid (fun j hj => day_ok (r := r) hE (j := j) hj)
  have HT : Hid (∀ W, Below w.heap.size w W → Tab W) := Lib.hid fun W hW => ht.below hW
  have HDays := Lib.hid (fun W hW => Days_any r W (HT.out W hW) hr)
  have HLen : Hid (∀ ds : List Int, (Rc.firesOf l r ds).length ≤ 2 * ds.length) := Lib.hid (Rc.firesOf_len l r)
  have hDl := Rc.dysV_len r
  obtain ⟨i0, hi, hz0, hz1, hz2⟩ := info_parts infoF
  clear hl hv ht hdv
  go_enter Tryd.func10, Tryd.ntmps10
  go_wp2_with fail
  refine HC.out.mono ?_
  rintro e w1 ⟨rfl, hb1⟩
  have hb := Below.go hb hb1
  have kx := Lib.hid (keep' kx.out hb1)
  obtain ⟨c0, c1, c2, c3, c4, c5, c6, c7, c8⟩ := blk9 kx.out
  clear hb1 HC
  go_wp2_with fail
  refine (HDays.out _ hb).mono ?_
  rintro e w2 ⟨v, rfl, hown, hb2⟩
  have hb := Below.go hb hb2
  have kx := Lib.hid (keep' kx.out hb2)
  clear hb2 c0 c1 c2 c3 c4 c5 c6 c7 c8
  obtain ⟨N, hN⟩ : ∃ N, (Rc.dysV r).length = N := ⟨_, rfl⟩
  have HN := Lib.hid hN
  rw [hN] at hown hDl
  obtain ⟨A1, cc1, rfl, -, -, hL1⟩ := own_li hown hN
  have HL1 := Lib.hid (fun W (hW : Below w2.heap.size w2 W) => hL1.go hW)
  clear hown hL1 hN
  generalize Rc.dysV r = D at *
  go_wp2
  go_loopw [8, 26] (fun v i wr => ∃ (q : Nat) (A3 : Option Addr) (m c3 : Nat), q ≤ N ∧ i = .int .i64 q ∧ v = .slice A3 m c3 ∧ m ≤ 2 * q ∧ Hid ((Rc.firesOf l r (D.take q)).length = m) ∧ Hid (wr.ownsRow w2.heap.size tF 2 (.slice A3 m c3) m (cellsL (Rc.firesOf l r (D.take q)))) ∧ Below w2.heap.size w2 wr) (fun _ i _ => N - (intOf i).toNat)
  case atStart => exact ⟨0, none, 0, 0, Nat.zero_le _, rfl, rfl, by omega, Lib.hid (by simp [Rc.firesOf]), Lib.hid (by simpa [cellsL, Rc.firesOf] using (own_nil (B := w2.heap.size) (W := w2) (t := tF) (sz := 2))), Below.refl _ _⟩
  case round =>
    obtain ⟨q, A3, m, c3, hq, rfl, rfl, hmq, hm, hown, hbr⟩ := hrel
    by_cases hlt : q < N
    · obtain ⟨b, off, hA1, hbB, hc⟩ := (HL1.out _ (Below.refl _ _)).2 (by omega)
      subst hA1
      have ct := (hbr.cell (p := ⟨b, off + q, none⟩) hbB).trans (hc q hlt)
      have hdd := HD.out q (by rw [HN.out]; exact hlt)
      have hts := takeI_snoc HN.out hlt
      have j0 : (0 : Int) ≤ (q : Int) := by omega
      have j1 : (q : Int) < (N : Int) := by omega
      obtain ⟨d, hd⟩ : ∃ d, D[q]?.getD 0 = d := ⟨_, rfl⟩
      rw [hd] at ct hdd hts
      have HS : Hid (Rc.firesOf l r (D.take (q + 1)) = Rc.firesOf l r (D.take q) ++ Rc.fonP l r d) := Lib.hid (by rw [hts, Rc.firesOf_snoc])
      have HFo : Hid (Rc.fonP l r d = (Rc.fon l r d).map fun t => (d, t)) := Lib.hid rfl
      have hfl := Rc.fon_len l r d
      obtain ⟨d0, d1⟩ := hdd
      obtain ⟨c0, c1, c2, c3', c4, c5, c6, c7, c8⟩ := blk9 (keep' kx.out hbr)
      clear hc hd hts
      go_wp2_with fail
      refine (fires_any A n c l r d _ (HL.out _ (Below.go hb hbr)) HV.out d0 d1 HSec.out).mono ?_
      rintro e w5 ⟨A5, k5, c5', rfl, hfr5, hL5, hb5⟩
      have hb6 := Below.go hbr hb5
      have ho6 := Lib.hid (own_below hown.out hb5)
      have hrow : Hid (∀ g, (Value.slice A3 m c3).ownBlock = some g → g < wr.heap.size ∨ w5.heap.size ≤ g) := Lib.hid fun g hg => .inl (hown.out.lt g hg).2
      have HFr5 := Lib.hid hfr5
      have hs5 := hb5.size
      have HL5 := Lib.hid hL5
      have hk5 : k5 ≤ 2 := by rw [← hL5.1]; exact hfl
      have HK5 := Lib.hid hL5.1
      clear hL5 hb5 hfl c0 c1 c2 c3' c4 c5 c6 c7 c8 ct
      clear hfr5
      obtain ⟨wo, hwo⟩ : ∃ wo : World, wr = wo := ⟨_, rfl⟩
      subst hwo
      generalize Rc.fon l r d = T at *
      have HB := hm
      generalize Rc.firesOf l r (D.take q) = B at *
      go_wp2
      obtain ⟨z0, hz⟩ : ∃ z, wr.heap.size = z := ⟨_, rfl⟩
      rw [hz] at hrow HFr5 hs5
      clear hz
      go_loopw [8, 35] (fun v i wr => ∃ (p : Nat) (A7 : Option Addr) (c7 : Nat), p ≤ k5 ∧ i = .int .i64 p ∧ v = .slice A7 (m + p) c7 ∧ Hid (wr.ownsRow w2.heap.size tF 2 (.slice A7 (m + p) c7) (m + p) (cellsL (B ++ (T.take p).map fun t => (d, t)))) ∧ Below w2.heap.size w2 wr ∧ Hid ((∀ g, (Value.slice A7 (m + p) c7).ownBlock = some g → g < z0 ∨ w5.heap.size ≤ g) ∧ (∀ b, z0 ≤ b → b < w5.heap.size → wr.heap[b]? = w5.heap[b]?) ∧ w5.heap.size ≤ wr.heap.size)) (fun _ i _ => k5 - (intOf i).toNat)
      case atStart => exact ⟨0, A3, c3, Nat.zero_le _, rfl, rfl, Lib.hid (by simpa using ho6.out), hb6, Lib.hid ⟨hrow.out, fun b _ _ => rfl, Nat.le_refl _⟩⟩
      case round =>
        obtain ⟨p, A7, c7, hp, rfl, rfl, hown7, hbs, hkeep⟩ := hrel
        by_cases hlp : p < k5
        · obtain ⟨b5, off5, hA5, hbB5, hc5⟩ := HL5.out.2 (by omega)
          have hbz := HFr5.out _ hA5
          subst hA5
          have ct5 := (World.cell?_of_block (w := w5) (hkeep.out.2.1 b5 hbz hbB5)).trans (hc5 p hlp)
          have hts5 := takeI_snoc HK5.out hlp
          have j2 : (0 : Int) ≤ (p : Int) := by omega
          have j3 : (p : Int) < (k5 : Int) := by omega
          obtain ⟨t, ht⟩ : ∃ t, T[p]?.getD 0 = t := ⟨_, rfl⟩
          rw [ht] at ct5 hts5
          have HS5 : Hid (B ++ ((T.take (p + 1)).map fun t => (d, t)) = (B ++ (T.take p).map fun t => (d, t)) ++ [(d, t)]) := Lib.hid (by rw [hts5]; simp)
          have hbx := Below.goN hbs (.cells #[.int .i64 d, .int .i64 t] tF)
          clear hc5 ht hts5
          go_wp2_with (at_builtin; refine wpList_append_own_at _ rfl _ _ 28 rfl w2.heap.size tF i0 (.agg #[.int .i64 0, .int .i64 0]) 2 16 Tryd.underlying28 hi hz0 hz1 hz2 rfl (by decide) _ (m + p) _ rfl (hown7.out.alloc _) ⟨wr.heap.size, 0, none⟩ 1 1 [.int .i64 d, .int .i64 t] rfl rfl (World.news_of_block (heap_new wr _)) (by simp [Value.oneCell']) (by unfold maxLen; omega) (by omega) (by have := hbs.size; simp; omega) ?_; intro v' w9 hown' hgrow _ hat)
          have hb9 := Below.grown hbx hgrow (by have := hbs.size; simp; omega) (fun g hg => (hown7.out.lt g hg).1)
          have ho9 : w9.ownsRow w2.heap.size tF 2 v' (m + (p + 1)) (cellsL (B ++ (T.take (p + 1)).map fun t => (d, t))) := by rw [HS5.out, cellsL_app]; exact hown'
          have hk9 : Hid ((∀ g, v'.ownBlock = some g → g < z0 ∨ w5.heap.size ≤ g) ∧ (∀ b, z0 ≤ b → b < w5.heap.size → w9.heap[b]? = w5.heap[b]?) ∧ w5.heap.size ≤ w9.heap.size) := Lib.hid ⟨fun g hg => by
              rcases hat with e | e
              · exact hkeep.out.1 g (e ▸ hg)
              · rw [e] at hg; cases hg; right; have := hkeep.out.2.2; simp; omega,
            fun b h1 h2 => by
              have hbw := hkeep.out.2.2
              rw [hgrow.block b (by simp; omega) (fun e => by have := hkeep.out.1 b e.symm; omega), ← hkeep.out.2.1 b h1 h2]
              exact Below.heap_alloc _ _ _ (by omega),
            by have h1 := hgrow.size; have := hkeep.out.2.2; simp at h1; omega⟩
          obtain ⟨A9, c9, rfl, -, -, -⟩ := own_lp ho9 (by rw [List.length_append, List.length_map, List.length_take, HB.out, HK5.out]; omega)
          have HO9 := Lib.hid ho9
          clear ho9 hown' hgrow hbx hat
          go_wp2
          go_roundw
          case rel => exact ⟨p + 1, A9, c9, by omega, by go_num, rfl, HO9, hb9, hk9⟩
          case measure => simp [intOf]; omega
        · obtain rfl : p = k5 := by omega
          have e5 : T.take p = T := List.take_of_length_le (by rw [HK5.out]; omega)
          have HS2 : Hid (Rc.firesOf l r (D.take (q + 1)) = B ++ (T.take p).map fun t => (d, t)) := Lib.hid (by rw [HS.out, HFo.out, e5])
          clear e5
          go_wp2
          go_roundw
          case rel => exact ⟨q + 1, A7, m + p, c7, by omega, by go_num, rfl, by omega, Lib.hid (by rw [HS2.out, List.length_append, List.length_map, List.length_take, HB.out, HK5.out]; omega), by rw [HS2.out]; exact hown7, hbs⟩
          case measure => simp [intOf]; omega
    · obtain rfl : q = N := by omega
      have e : D.take q = D := List.take_of_length_le (by rw [HN.out]; omega)
      rw [e] at hm hown
      clear e
      have hm2 : m ≤ 2000 := by omega
      by_cases hbig : 1000 < m
      · have HP := Lib.hid (Rc.fi_far HV.out HE.out (by rw [HFI.out, hm.out]; exact hbig))
        have hbig2 : (1000 : Int) < (m : Int) := by omega
        go_wp2
        go_ret2
        exact fires_post HP.out.1 HP.out.2 rfl own_nil (Below.go hb hbr)
      · have HP := Lib.hid (Rc.fi_yes HV.out HE.out (by rw [HFI.out, hm.out]; exact hbig))
        have hbig2 : ¬ ((1000 : Int) < (m : Int)) := by omega
        go_wp2
        go_ret2
        exact fires_post HP.out.1 (HP.out.2.trans HFI.out) hm.out (own_base hown.out hb.size) (Below.go hb hbr)
end Go.Proofs.YtcnenkhgbifmmaaDoor
