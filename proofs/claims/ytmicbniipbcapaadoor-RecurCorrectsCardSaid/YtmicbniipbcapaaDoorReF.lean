/- The reference's Has and Days. -/
import Derived.Test.YtmicbniipbcapaaDoorReE
import Derived.Deep.QuietTactic
import Derived.BigQuiet
set_option linter.unusedVariables false
namespace Go.Proofs.YtmicbniipbcapaaDoor
open Go.RowKit
theorem mon_bd {d : Int} (h0 : 0 ≤ d) (h1 : d ≤ 34000) : 0 ≤ Rc.mon d ∧ Rc.mon d ≤ 1200 := by
  have := date_bd h0 h1; unfold Rc.mon; omega
theorem week_s (d : Int) (w : World) (h0 : 0 ≤ d) (h1 : d ≤ 34000) : Calls Tryd.prog 58 #[.int .i64 d] w fun e w' => e = .returned (.int .i64 ((d + 5) / 7)) ∧ w' = w := by
  go_enter Tryd.func58, Tryd.ntmps58
  go_wp2
  go_ret
  exact ⟨rfl, rfl⟩
theorem month_s (d : Int) (w : World) (h0 : 0 ≤ d) (h1 : d ≤ 34000) : Calls Tryd.prog 60 #[.int .i64 d] w fun e w' => e = .returned (.int .i64 (Rc.mon d)) ∧ w' = w := by
  obtain ⟨a, b, -⟩ := rYes h0 h1
  obtain ⟨y0, y1, y2, y3⟩ := date_bd h0 h1
  have HM : Hid (Rc.mon d = 12 * (Cal.dY d - 2000) + Cal.dM d - 1) := Lib.hid rfl
  go_enter Tryd.func60, Tryd.ntmps60
  go_wp2_with (go_at_call 59; refine (refDate_any _ _).mono ?_; rintro e w' ⟨rfl, rfl⟩)
  go_ret
  exact ⟨ret_int HM.out.symm, rfl⟩
theorem has_1 {r : Rec} (h : r.kind = 1) (d : Int) : Rc.hasB r d = ((d - r.frm) % r.every == 0) := by
  unfold Rc.hasB Rc.ofKind Rc.per; simp [h]; rfl
theorem has_2 {r : Rec} (h : r.kind = 2) (d : Int) : Rc.hasB r d = ((d + 5) % 7 == r.wd && ((d + 5) / 7 - (r.frm + 5) / 7) % r.every == 0) := by
  unfold Rc.hasB Rc.ofKind Rc.per; simp [h]; rfl
theorem has_3 {r : Rec} (h : r.kind = 3) (d : Int) : Rc.hasB r d = (Cal.dD d == r.nth && (Rc.mon d - Rc.mon r.frm) % r.every == 0) := by
  unfold Rc.hasB Rc.ofKind Rc.per; simp [h]; rfl
theorem has_4 {r : Rec} (h : r.kind = 4) (d : Int) : Rc.hasB r d = ((Cal.nthE (Cal.dY d) (Cal.dM d) r.wd r.nth == 0 && Cal.nthV (Cal.dY d) (Cal.dM d) r.wd r.nth == d) && (Rc.mon d - Rc.mon r.frm) % r.every == 0) := by
  unfold Rc.hasB Rc.ofKind Rc.per; simp [h]; rfl
set_option maxHeartbeats 2000000 in
set_option maxRecDepth 100000 in
theorem has1_any (r : Rec) (hV : Rc.Val r) (hk : r.kind = 1) (d : Int) (w : World) (h0 : r.frm ≤ d) (h1 : d ≤ 34000) : Calls Tryd.prog 31 #[(.agg #[.int .i64 r.kind, .int .i64 r.every, .int .i64 r.wd, .int .i64 r.nth, .int .i64 r.frm, .int .i64 r.unt, .int .i64 r.sec, .bool r.shift, .bool r.both]), .int .i64 d] w (RetB (.bool (Rc.hasB r d)) w) := by
  have HH := Lib.hid (has_1 hk d)
  obtain ⟨⟨e1, e2⟩, ⟨f1, f2, f3⟩, -, -⟩ := hV
  have k1 : (r.kind == 1) = true := by simp [hk]
  clear hk
  go_enter Tryd.func31, Tryd.ntmps31
  go_wp2
  go_ret
  exact ⟨ret_bool HH.out.symm, Below.goN (Below.refl _ _) _⟩
set_option maxHeartbeats 2000000 in
set_option maxRecDepth 100000 in
theorem has2_any (r : Rec) (hV : Rc.Val r) (hk : r.kind = 2) (d : Int) (w : World) (h0 : r.frm ≤ d) (h1 : d ≤ 34000) : Calls Tryd.prog 31 #[(.agg #[.int .i64 r.kind, .int .i64 r.every, .int .i64 r.wd, .int .i64 r.nth, .int .i64 r.frm, .int .i64 r.unt, .int .i64 r.sec, .bool r.shift, .bool r.both]), .int .i64 d] w (RetB (.bool (Rc.hasB r d)) w) := by
  have HH := Lib.hid (has_2 hk d)
  obtain ⟨⟨e1, e2⟩, ⟨f1, f2, f3⟩, -, -⟩ := hV
  have k1 : (r.kind == 1) = false := by simp [hk]
  have k2 : (r.kind == 2) = true := by simp [hk]
  have hw := (rYes (n := d) (by omega) h1).2.2.2.2
  obtain ⟨a, ha⟩ : ∃ a, (d + 5) / 7 = a := ⟨_, rfl⟩
  obtain ⟨b, hb⟩ : ∃ b, (r.frm + 5) / 7 = b := ⟨_, rfl⟩
  have hab : 0 ≤ a - b ∧ a - b ≤ 5000 := by omega
  obtain ⟨ab0, ab1⟩ := hab
  have ab2 : 0 ≤ b ∧ a ≤ 5000 := by omega
  obtain ⟨ab2, ab3⟩ := ab2
  rw [ha, hb] at HH
  have HA := Lib.hid ha
  have HB := Lib.hid hb
  clear hk ha hb
  have c := fun o => (blk9 (keepN (heap_new w (.cells #[.int .i64 r.kind, .int .i64 r.every, .int .i64 r.wd, .int .i64 r.nth, .int .i64 r.frm, .int .i64 r.unt, .int .i64 r.sec, .bool r.shift, .bool r.both] 24)) o))
  obtain ⟨-, c1, c2, -, c4, -⟩ := blk9 (heap_new w (.cells #[.int .i64 r.kind, .int .i64 r.every, .int .i64 r.wd, .int .i64 r.nth, .int .i64 r.frm, .int .i64 r.unt, .int .i64 r.sec, .bool r.shift, .bool r.both] 24))
  have kw := Lib.hid c
  clear c
  have WK1 : Hid (∀ W, Calls Tryd.prog 58 #[.int .i64 d] W fun e w' => e = .returned (.int .i64 a) ∧ w' = W) := Lib.hid fun W => by have := week_s d W (by omega) h1; rwa [HA.out] at this
  have WK2 : Hid (∀ W, Calls Tryd.prog 58 #[.int .i64 r.frm] W fun e w' => e = .returned (.int .i64 b) ∧ w' = W) := Lib.hid fun W => by have := week_s r.frm W (by omega) (by omega); rwa [HB.out] at this
  have hwr : IntKind.i64.wrap (a - b) = a - b := IntWalk.i64_in _ (by omega)
  cases hc : ((d + 5) % 7 == r.wd)
  · go_enter Tryd.func31, Tryd.ntmps31
    go_wp2_with (go_at_call 57; refine (refWeekday_any _ _).mono ?_; rintro e w' ⟨rfl, rfl⟩)
    go_quiet (fail)
    go_wp2
    go_ret
    exact ⟨ret_bool (by rw [HH.out, hc]; rfl), below_drewN (Below.goN (Below.refl _ _) _) _⟩
  · go_enter Tryd.func31, Tryd.ntmps31
    go_wp2_with (go_at_call 57; refine (refWeekday_any _ _).mono ?_; rintro e w' ⟨rfl, rfl⟩)
    go_quiet ((first | (go_at_call 58; with_reducible exact Calls.quiet_of_same (WK1.out _)) | (go_at_call 58; with_reducible exact Calls.quiet_of_same (WK2.out _))))
    go_wp2
    go_ret
    exact ⟨ret_bool (by rw [HH.out, hc]; rfl), below_drewN (Below.goN (Below.refl _ _) _) _⟩
set_option maxHeartbeats 2000000 in
set_option maxRecDepth 100000 in
theorem has3_any (r : Rec) (hV : Rc.Val r) (hk : r.kind = 3) (d : Int) (w : World) (h0 : r.frm ≤ d) (h1 : d ≤ 34000) : Calls Tryd.prog 31 #[(.agg #[.int .i64 r.kind, .int .i64 r.every, .int .i64 r.wd, .int .i64 r.nth, .int .i64 r.frm, .int .i64 r.unt, .int .i64 r.sec, .bool r.shift, .bool r.both]), .int .i64 d] w (RetB (.bool (Rc.hasB r d)) w) := by
  have HH := Lib.hid (has_3 hk d)
  have hpm := (Rc.per_mono r (d := r.frm) (d' := d) (by have := hV.2.1; omega) h0).1
  rw [show Rc.per r r.frm = Rc.mon r.frm by unfold Rc.per; simp [hk], show Rc.per r d = Rc.mon d by unfold Rc.per; simp [hk]] at hpm
  obtain ⟨⟨e1, e2⟩, ⟨f1, f2, f3⟩, -, -⟩ := hV
  have k1 : (r.kind == 1) = false := by simp [hk]
  have k2 : (r.kind == 2) = false := by simp [hk]
  have k3 : (r.kind == 3) = true := by simp [hk]
  obtain ⟨y1, y2, y3, -⟩ := rYes (n := d) (by omega) h1
  obtain ⟨b0, b1⟩ := mon_bd (d := d) (by omega) h1
  obtain ⟨b2, b3⟩ := mon_bd (d := r.frm) (by omega) (by omega)
  have WK1 := Lib.hid (fun W => month_s d W (by omega) h1)
  have WK2 := Lib.hid (fun W => month_s r.frm W (by omega) (by omega))
  generalize Rc.mon d = a at *
  generalize Rc.mon r.frm = b at *
  generalize Cal.dY d = Y at *
  generalize Cal.dM d = M at *
  generalize Cal.dD d = D at *
  have hwr : IntKind.i64.wrap (a - b) = a - b := IntWalk.i64_in _ (by omega)
  have hab : 0 ≤ a - b := by omega
  clear hk
  obtain ⟨-, c1, c2, c3, c4, -⟩ := blk9 (heap_new w (.cells #[.int .i64 r.kind, .int .i64 r.every, .int .i64 r.wd, .int .i64 r.nth, .int .i64 r.frm, .int .i64 r.unt, .int .i64 r.sec, .bool r.shift, .bool r.both] 24))
  have CH := Lib.hid (heap_new w (.cells #[.int .i64 r.kind, .int .i64 r.every, .int .i64 r.wd, .int .i64 r.nth, .int .i64 r.frm, .int .i64 r.unt, .int .i64 r.sec, .bool r.shift, .bool r.both] 24))
  cases hc : ((a - b) % r.every == 0)
  · have hc2 : ((a - b) % r.every != 0) = true := by simpa using hc
    go_enter Tryd.func31, Tryd.ntmps31
    go_wp2_with (go_at_call 59; refine (refDate_any _ _).mono ?_; rintro e w' ⟨rfl, rfl⟩)
    go_quiet ((first | (go_at_call 60; with_reducible exact Calls.quiet_of_same (WK1.out _)) | (go_at_call 60; with_reducible exact Calls.quiet_of_same (WK2.out _))))
    go_wp2
    go_ret
    exact ⟨ret_bool (by rw [HH.out, hc]; simp), below_drewN (Below.goN (Below.refl _ _) _) _⟩
  · have hc2 : ((a - b) % r.every != 0) = false := by simpa using hc
    go_enter Tryd.func31, Tryd.ntmps31
    go_wp2_with (go_at_call 59; refine (refDate_any _ _).mono ?_; rintro e w' ⟨rfl, rfl⟩)
    go_quiet ((first | (go_at_call 60; with_reducible exact Calls.quiet_of_same (WK1.out _)) | (go_at_call 60; with_reducible exact Calls.quiet_of_same (WK2.out _))))
    have hbq := below_drewN (Below.goN (Below.refl w.heap.size w) (.cells #[.int .i64 r.kind, .int .i64 r.every, .int .i64 r.wd, .int .i64 r.nth, .int .i64 r.frm, .int .i64 r.unt, .int .i64 r.sec, .bool r.shift, .bool r.both] 24)) nq
    obtain ⟨d0, -, d2, d3, -⟩ := blk9 (keep' CH.out (below_drewN (Below.refl _ _) nq))
    go_wp2
    go_ret
    exact ⟨ret_bool (by rw [HH.out, hc]; simp), hbq⟩
set_option maxHeartbeats 2000000 in
set_option maxRecDepth 100000 in
theorem has4_any (r : Rec) (hV : Rc.Val r) (hk : r.kind = 4) (d : Int) (w : World) (h0 : r.frm ≤ d) (h1 : d ≤ 34000) : Calls Tryd.prog 31 #[(.agg #[.int .i64 r.kind, .int .i64 r.every, .int .i64 r.wd, .int .i64 r.nth, .int .i64 r.frm, .int .i64 r.unt, .int .i64 r.sec, .bool r.shift, .bool r.both]), .int .i64 d] w (RetB (.bool (Rc.hasB r d)) w) := by
  have HH := Lib.hid (has_4 hk d)
  have hpm := (Rc.per_mono r (d := r.frm) (d' := d) (by have := hV.2.1; omega) h0).1
  rw [show Rc.per r r.frm = Rc.mon r.frm by unfold Rc.per; simp [hk], show Rc.per r d = Rc.mon d by unfold Rc.per; simp [hk]] at hpm
  obtain ⟨⟨e1, e2⟩, ⟨f1, f2, f3⟩, -, -⟩ := hV
  have k1 : (r.kind == 1) = false := by simp [hk]
  have k2 : (r.kind == 2) = false := by simp [hk]
  have k3 : (r.kind == 3) = false := by simp [hk]
  obtain ⟨y1, y2, y3, -⟩ := rYes (n := d) (by omega) h1
  obtain ⟨b0, b1⟩ := mon_bd (d := d) (by omega) h1
  obtain ⟨b2, b3⟩ := mon_bd (d := r.frm) (by omega) (by omega)
  have WK1 := Lib.hid (fun W => month_s d W (by omega) h1)
  have WK2 := Lib.hid (fun W => month_s r.frm W (by omega) (by omega))
  generalize Rc.mon d = a at *
  generalize Rc.mon r.frm = b at *
  generalize Cal.dY d = Y at *
  generalize Cal.dM d = M at *
  generalize Cal.dD d = D at *
  have hwr : IntKind.i64.wrap (a - b) = a - b := IntWalk.i64_in _ (by omega)
  have hab : 0 ≤ a - b := by omega
  clear hk
  obtain ⟨-, c1, c2, c3, c4, -⟩ := blk9 (heap_new w (.cells #[.int .i64 r.kind, .int .i64 r.every, .int .i64 r.wd, .int .i64 r.nth, .int .i64 r.frm, .int .i64 r.unt, .int .i64 r.sec, .bool r.shift, .bool r.both] 24))
  have CH := Lib.hid (heap_new w (.cells #[.int .i64 r.kind, .int .i64 r.every, .int .i64 r.wd, .int .i64 r.nth, .int .i64 r.frm, .int .i64 r.unt, .int .i64 r.sec, .bool r.shift, .bool r.both] 24))
  cases hc : ((a - b) % r.every == 0)
  · have hc2 : ((a - b) % r.every != 0) = true := by simpa using hc
    go_enter Tryd.func31, Tryd.ntmps31
    go_wp2_with (go_at_call 59; refine (refDate_any _ _).mono ?_; rintro e w' ⟨rfl, rfl⟩)
    go_quiet ((first | (go_at_call 60; with_reducible exact Calls.quiet_of_same (WK1.out _)) | (go_at_call 60; with_reducible exact Calls.quiet_of_same (WK2.out _))))
    go_wp2
    go_ret
    exact ⟨ret_bool (by rw [HH.out, hc]; simp), below_drewN (Below.goN (Below.refl _ _) _) _⟩
  · have hc2 : ((a - b) % r.every != 0) = false := by simpa using hc
    go_enter Tryd.func31, Tryd.ntmps31
    go_wp2_with (go_at_call 59; refine (refDate_any _ _).mono ?_; rintro e w' ⟨rfl, rfl⟩)
    go_quiet ((first | (go_at_call 60; with_reducible exact Calls.quiet_of_same (WK1.out _)) | (go_at_call 60; with_reducible exact Calls.quiet_of_same (WK2.out _))))
    have hbq := below_drewN (Below.goN (Below.refl w.heap.size w) (.cells #[.int .i64 r.kind, .int .i64 r.every, .int .i64 r.wd, .int .i64 r.nth, .int .i64 r.frm, .int .i64 r.unt, .int .i64 r.sec, .bool r.shift, .bool r.both] 24)) nq
    obtain ⟨d0, -, d2, d3, -⟩ := blk9 (keep' CH.out (below_drewN (Below.refl _ _) nq))
    cases he : (Cal.nthE Y M r.wd r.nth == 0)
    all_goals
      go_wp2_with (go_at_call 61; refine (refNth_any _ _ _ _ _).mono ?_; rintro e w' ⟨rfl, rfl⟩)
      go_ret
      exact ⟨ret_bool (by rw [HH.out, hc, he]; simp), hbq⟩
end Go.Proofs.YtmicbniipbcapaaDoor
