/- The fires of a schedule: the reference's Fires. -/
import Derived.Test.YtmicbniipbcapaaDoorReL
import Derived.Deep.RegionLaw
set_option linter.unusedVariables false
namespace Go.Proofs.YtmicbniipbcapaaDoor
open Go.RowKit
theorem step_app {P : Program} {ops : Array Oper} {o : Oper} {a : Act} {w : World} {K : Act → World → Prop} {Q : Exit → Act → World → Prop} {E : Prop} (hgd : o.guard = none) (s x : Operand) (t : TypeId)
    (ho : o.op = .call { callee := .builtin .append, args := #[s, x], argTypes := #[t, t] })
    (base : Nat) (e : TypeId) (i : TypeInfo) (z : Value) (size bytes : Nat) (ht : P.underlying t = some (.slice e)) (hi : P.info? e = some i) (hz : i.zero = some z)
    (hsize : i.size = size) (hby : i.bytes = bytes) (hzs : z.cells.size = size) (hsz : 0 < size)
    (v : Value) (n : Nat) (xs : List Value) (hs : a.eval s = v) (hown : w.ownsRow base e size v n xs)
    (A : Option Addr) (m c : Nat) (news : List Value) (hx : a.eval x = .slice A m c) (hl : news.length = m * size) (hA : A = none → m = 0 ∧ c = 0) (hnews : ∀ ad, A = some ad → ∀ j u, news[j]? = some u → w.cell? (ad.add j) = some u) (h1 : ∀ u ∈ news, u.oneCell' = true)
    (h63 : n + m ≤ maxLen) (hbytes : (n + m) * bytes ≤ 140737488355328) (hbase : base ≤ w.heap.size)
    (h : ∀ v' w', w'.ownsRow base e size v' (n + m) (xs ++ news) → w.grownBy w' v.ownBlock → K (a.put o.dst v') w') :
    if Region.wanted o (yielded ops a.tmps) = true then Oper.wp P o a w K Q else E := by
  have hw : Region.wanted o (yielded ops a.tmps) = true := by simp [Region.wanted, hgd]
  rw [if_pos hw]
  obtain ⟨v', w', hr, h2, h3⟩ := app_run (P := P) (w := w) base t o.type e i z size bytes ht hi hz hsize hby hzs hsz v n xs hown A m c news hl hA hnews h1 h63 hbytes hbase
  unfold Oper.wp execOp
  simp only [ho, resolve, invoke, builtin, Sem.run_bind, Sem.run_pure, Result.andThen_ok, List.map_toArray, List.map_cons, List.map_nil, hs, hx, hr]
  exact h v' w' h2 h3
set_option maxHeartbeats 2000000 in
set_option maxRecDepth 100000 in
theorem refFires_bad (A : Option Addr) (n c : Nat) (l : Lpm.LL) (r : Rec) (w : World) (hl : Lp w.heap.size w A n l) (hn : n ≤ 110) (hv : Lpm.valid l = false) :
    Calls Tryd.prog 18 #[.slice A n c, (.agg #[.int .i64 r.kind, .int .i64 r.every, .int .i64 r.wd, .int .i64 r.nth, .int .i64 r.frm, .int .i64 r.unt, .int .i64 r.sec, .bool r.shift, .bool r.both])] w (FiresPost l r w) := by
  have HP := Lib.hid (Rc.fi_bad (r := r) hv)
  have hb := Below.goN (Below.refl w.heap.size w) (.cells #[.int .i64 r.kind, .int .i64 r.every, .int .i64 r.wd, .int .i64 r.nth, .int .i64 r.frm, .int .i64 r.unt, .int .i64 r.sec, .bool r.shift, .bool r.both] 24)
  have HC := Lib.hid (refValid_c (c := c) (hl.go hb) (Nat.le_refl _) hn (Below.refl _ _))
  rw [hv] at HC
  clear hl hv
  go_enter Tryd.func18, Tryd.ntmps18
  go_wp2_with fail
  refine HC.out.mono ?_
  rintro e w1 ⟨rfl, hb1⟩
  have hb := Below.go hb hb1
  go_wp2
  go_ret2
  exact fires_post HP.out.1 HP.out.2 rfl own_nil hb
set_option maxHeartbeats 2000000 in
set_option maxRecDepth 100000 in
theorem refFires_err (A : Option Addr) (n c : Nat) (l : Lpm.LL) (r : Rec) (w : World) (hl : Lp w.heap.size w A n l) (hn : n ≤ 110) (hv : Lpm.valid l = true) (hr : Fit21 r) (hE : Rc.dysE r ≠ 0) :
    Calls Tryd.prog 18 #[.slice A n c, (.agg #[.int .i64 r.kind, .int .i64 r.every, .int .i64 r.wd, .int .i64 r.nth, .int .i64 r.frm, .int .i64 r.unt, .int .i64 r.sec, .bool r.shift, .bool r.both])] w (FiresPost l r w) := by
  have HP := Lib.hid (Rc.fi_days hv hE)
  have hb := Below.goN (Below.refl w.heap.size w) (.cells #[.int .i64 r.kind, .int .i64 r.every, .int .i64 r.wd, .int .i64 r.nth, .int .i64 r.frm, .int .i64 r.unt, .int .i64 r.sec, .bool r.shift, .bool r.both] 24)
  have kx := Lib.hid (heap_new w (.cells #[.int .i64 r.kind, .int .i64 r.every, .int .i64 r.wd, .int .i64 r.nth, .int .i64 r.frm, .int .i64 r.unt, .int .i64 r.sec, .bool r.shift, .bool r.both] 24))
  have HC := Lib.hid (refValid_c (c := c) (hl.go hb) (Nat.le_refl _) hn (Below.refl _ _))
  rw [hv] at HC
  have hE2 := bne_int hE
  clear hl hv hE
  go_enter Tryd.func18, Tryd.ntmps18
  go_wp2_with fail
  refine HC.out.mono ?_
  rintro e w1 ⟨rfl, hb1⟩
  have hb := Below.go hb hb1
  obtain ⟨c0, c1, c2, c3, c4, c5, c6, c7, c8⟩ := blk9 (keep' kx.out hb1)
  clear hb1
  go_wp2_with fail
  refine (refDays_any r _ hr).mono ?_
  rintro e w2 ⟨v, rfl, -, hb2⟩
  have hb := Below.go hb hb2
  go_wp2
  go_ret2
  exact fires_post HP.out.1 HP.out.2 rfl own_nil hb
set_option maxHeartbeats 2000000 in
set_option maxRecDepth 100000 in
theorem refFires_yes (A : Option Addr) (n c : Nat) (l : Lpm.LL) (r : Rec) (w : World) (hl : Lp w.heap.size w A n l) (hn : n ≤ 110) (hv : Lpm.valid l = true) (hr : Fit21 r) (hE : Rc.dysE r = 0) :
    Calls Tryd.prog 18 #[.slice A n c, (.agg #[.int .i64 r.kind, .int .i64 r.every, .int .i64 r.wd, .int .i64 r.nth, .int .i64 r.frm, .int .i64 r.unt, .int .i64 r.sec, .bool r.shift, .bool r.both])] w (FiresPost l r w) := by
  have HV := Lib.hid hv
  obtain ⟨hvr, hdv⟩ := Rc.dysV_ok hE
  have HSec := Lib.hid (sec_ok hvr)
  have HFI : Hid (Rc.fires l r = Rc.firesOf l r (Rc.dysV r)) := Lib.hid (by rw [hdv]; rfl)
  have hb := Below.goN (Below.refl w.heap.size w) (.cells #[.int .i64 r.kind, .int .i64 r.every, .int .i64 r.wd, .int .i64 r.nth, .int .i64 r.frm, .int .i64 r.unt, .int .i64 r.sec, .bool r.shift, .bool r.both] 24)
  have kx := Lib.hid (heap_new w (.cells #[.int .i64 r.kind, .int .i64 r.every, .int .i64 r.wd, .int .i64 r.nth, .int .i64 r.frm, .int .i64 r.unt, .int .i64 r.sec, .bool r.shift, .bool r.both] 24))
  have HC := Lib.hid (refValid_c (c := c) (hl.go hb) (Nat.le_refl _) hn (Below.refl _ _))
  rw [hv] at HC
  have HL : Hid (∀ W, Below w.heap.size w W → Lp W.heap.size W A n l) := Lib.hid fun W hW => hl.go hW
  have HE := Lib.hid hE
  have HD := Lib.hid (fun j hj => day_ok (r := r) hE (j := j) hj)
  have HDays := Lib.hid (fun W (hW : Below w.heap.size w W) => refDays_any r W hr)
  have HLen : Hid (∀ ds : List Int, (Rc.firesOf l r ds).length ≤ 2 * ds.length) := Lib.hid (Rc.firesOf_len l r)
  have hDl := Rc.dysV_len r
  obtain ⟨i0, hi, hz0, hz1, hz2⟩ := info_parts infoF
  clear hl hv hdv
  go_enter Tryd.func18, Tryd.ntmps18
  go_wp2_with fail
  refine HC.out.mono ?_
  rintro e w1 ⟨rfl, hb1⟩
  have hb := Below.go hb hb1
  have kx := Lib.hid (keep' kx.out hb1)
  obtain ⟨c0, c1, c2, c3, c4, c5, c6, c7, c8⟩ := blk9 kx.out
  clear hb1 HC
  go_wp2_with fail
  refine (HDays.out _ hb).mono ?_
  rintro e w2 ⟨v, rfl, hown, hb2⟩
  have hb := Below.go hb hb2
  have kx := Lib.hid (keep' kx.out hb2)
  clear hb2 c0 c1 c2 c3 c4 c5 c6 c7 c8
  obtain ⟨N, hN⟩ : ∃ N, (Rc.dysV r).length = N := ⟨_, rfl⟩
  have HN := Lib.hid hN
  rw [hN] at hown hDl
  obtain ⟨A1, cc1, rfl, -, -, hL1⟩ := own_li hown hN
  have HL1 := Lib.hid (fun W (hW : Below w2.heap.size w2 W) => hL1.go hW)
  clear hown hL1 hN
  generalize Rc.dysV r = D at *
  go_wp2
  go_loopw [8, 9] (fun v i wr => ∃ (q : Nat) (A3 : Option Addr) (m c3 : Nat), q ≤ N ∧ i = .int .i64 q ∧ v = .slice A3 m c3 ∧ m ≤ 2 * q ∧ Hid ((Rc.firesOf l r (D.take q)).length = m) ∧ Hid (wr.ownsRow w2.heap.size tF 2 (.slice A3 m c3) m (cellsL (Rc.firesOf l r (D.take q)))) ∧ Below w2.heap.size w2 wr) (fun _ i _ => N - (intOf i).toNat)
  case atStart => exact ⟨0, none, 0, 0, Nat.zero_le _, rfl, rfl, by omega, Lib.hid (by simp [Rc.firesOf]), Lib.hid (by simpa [cellsL, Rc.firesOf] using (own_nil (B := w2.heap.size) (W := w2) (t := tF) (sz := 2))), Below.refl _ _⟩
  case round =>
    obtain ⟨q, A3, m, c3, hq, rfl, rfl, hmq, hm, hown, hbr⟩ := hrel
    by_cases hlt : q < N
    · obtain ⟨b, off, hA1, hbB, hc⟩ := (HL1.out _ (Below.refl _ _)).2 (by omega)
      subst hA1
      have ct := (hbr.cell (p := ⟨b, off + q, none⟩) hbB).trans (hc q hlt)
      have hdd := HD.out q (by rw [HN.out]; exact hlt)
      have hts := takeI_snoc HN.out hlt
      have j0 : (0 : Int) ≤ (q : Int) := by omega
      have j1 : (q : Int) < (N : Int) := by omega
      obtain ⟨d, hd⟩ : ∃ d, D[q]?.getD 0 = d := ⟨_, rfl⟩
      rw [hd] at ct hdd hts
      have HS : Hid (Rc.firesOf l r (D.take (q + 1)) = Rc.firesOf l r (D.take q) ++ Rc.fonP l r d) := Lib.hid (by rw [hts, Rc.firesOf_snoc])
      have HFo : Hid (Rc.fonP l r d = (Rc.fon l r d).map fun t => (d, t)) := Lib.hid rfl
      have hfl := Rc.fon_len l r d
      obtain ⟨d0, d1⟩ := hdd
      obtain ⟨c0, c1, c2, c3', c4, c5, c6, c7, c8⟩ := blk9 (keep' kx.out hbr)
      clear hc hd hts
      have hon := Lib.hid (on_any A n c l r d wr.drew (HL.out _ (Below.go hb hbr).drew) HV.out d0 d1 HSec.out)
      have hfl2 : Hid ((Rc.fonP l r d).length ≤ 2) := Lib.hid (by rw [HFo.out, List.length_map]; exact hfl)
      clear hfl
      go_wp2_with fail
      go_region_law (first | (go_simp; go_at_call 35; refine hon.out.mono ?_; rintro e w5 ⟨A5, k5, c5', rfl, hA5, hL5, hb5⟩; have hb6 := Below.go hbr.drew hb5; have ho6 := Lib.hid (own_below (World.ownsRow.drew hown.out) hb5); have HL5 := Lib.hid hL5; have hk5 : k5 ≤ 2 := (by rw [← hL5.1]; exact hfl2.out); have HA5 := Lib.hid hA5; clear hL5 hA5 hb5) | (refine step_app (by rfl) _ _ _ (by rfl) w2.heap.size tF i0 (.agg #[.int .i64 0, .int .i64 0]) 2 16 Tryd.underlying33 hi hz0 hz1 hz2 rfl (by decide) _ m _ (by rfl) ho6.out A5 k5 c5' (cellsL (Rc.fonP l r d)) (by rfl) (by rw [cellsL_len, HL5.out.1]) HA5.out (lp_news HL5.out) (cellsL_one _) (by unfold maxLen; omega) (by omega) hb6.size ?_; intro v' w9 hown' hgrow; have hb9 := Below.grown hb6 hgrow hb6.size (fun g hg => (ho6.out.lt g hg).1)))
      all_goals
        have hm9 : Hid ((Rc.firesOf l r (D.take (q + 1))).length = m + k5) := Lib.hid (by rw [HS.out, List.length_append, hm.out, HL5.out.1])
        have ho9 : w9.ownsRow w2.heap.size tF 2 v' (m + k5) (cellsL (Rc.firesOf l r (D.take (q + 1)))) := by rw [HS.out, cellsL_app]; exact hown'
        obtain ⟨A9, c9, rfl, -, -, -⟩ := own_lp ho9 hm9.out
        have HO9 := Lib.hid ho9
        clear ho9 hown' hgrow
        go_wp2
        go_roundw
        case rel => exact ⟨q + 1, A9, m + k5, c9, by omega, by go_num, rfl, by omega, hm9, HO9, hb9⟩
        case measure => simp [intOf]; omega
    · obtain rfl : q = N := by omega
      have e : D.take q = D := List.take_of_length_le (by rw [HN.out]; omega)
      rw [e] at hm hown
      clear e
      have hm2 : m ≤ 2000 := by omega
      by_cases hbig : 1000 < m
      · have HP := Lib.hid (Rc.fi_far HV.out HE.out (by rw [HFI.out, hm.out]; exact hbig))
        have hbig2 : (1000 : Int) < (m : Int) := by omega
        go_wp2
        go_ret2
        exact fires_post HP.out.1 HP.out.2 rfl own_nil (Below.go hb hbr)
      · have HP := Lib.hid (Rc.fi_yes HV.out HE.out (by rw [HFI.out, hm.out]; exact hbig))
        have hbig2 : ¬ ((1000 : Int) < (m : Int)) := by omega
        go_wp2
        go_ret2
        exact fires_post HP.out.1 (HP.out.2.trans HFI.out) hm.out (own_base hown.out hb.size) (Below.go hb hbr)
end Go.Proofs.YtmicbniipbcapaaDoor
