/- The contract of kind; the law RecurDays. -/
import Derived.Test.YtmicbniipbcapaaDoorReX
set_option linter.unusedVariables false
namespace Go.Proofs.YtmicbniipbcapaaDoor
open Go.RowKit
theorem ok_1 {r : Rec} (h : r.kind = 1) (d : Int) : Rc.ofKind r d = true ∧ Rc.per r d - Rc.per r r.frm = d - r.frm := by
  unfold Rc.ofKind Rc.per; simp [h]
theorem ok_2 {r : Rec} (h : r.kind = 2) (d : Int) : Rc.ofKind r d = ((d + 5) % 7 == r.wd) ∧ Rc.per r d - Rc.per r r.frm = (d + 5) / 7 - (r.frm + 5) / 7 := by
  unfold Rc.ofKind Rc.per; simp [h]; rfl
theorem ok_3 {r : Rec} (h : r.kind = 3) (d : Int) : Rc.ofKind r d = (Cal.dD d == r.nth) ∧ Rc.per r d - Rc.per r r.frm = 12 * (Cal.dY d - Cal.dY r.frm) + Cal.dM d - Cal.dM r.frm := by
  refine ⟨by unfold Rc.ofKind; simp [h]; rfl, ?_⟩
  unfold Rc.per Rc.mon; simp [h]; omega
theorem ok_4 {r : Rec} (h : r.kind = 4) (d : Int) : Rc.ofKind r d = (Cal.nthE (Cal.dY d) (Cal.dM d) r.wd r.nth == 0 && Cal.nthV (Cal.dY d) (Cal.dM d) r.wd r.nth == d) ∧ Rc.per r d - Rc.per r r.frm = 12 * (Cal.dY d - Cal.dY r.frm) + Cal.dM d - Cal.dM r.frm := by
  refine ⟨by unfold Rc.ofKind; simp [h]; rfl, ?_⟩
  unfold Rc.per Rc.mon; simp [h]; omega
def KindPost (r : Rec) (d : Int) (w : World) (e : Ending) (w' : World) : Prop := e = .returned (.tuple #[.bool (Rc.ofKind r d), .int .i64 (Rc.per r d - Rc.per r r.frm)]) ∧ Below w.heap.size w w'
theorem kind_post {r : Rec} {d : Int} {w w' : World} {b : Bool} {n : Int} (h1 : Rc.ofKind r d = b) (h2 : Rc.per r d - Rc.per r r.frm = n) (hb : Below w.heap.size w w') : KindPost r d w (.returned (.tuple #[.bool b, .int .i64 n])) w' := ⟨by rw [h1, h2], hb⟩
set_option maxHeartbeats 2000000 in
set_option maxRecDepth 100000 in
theorem kind1_any (r : Rec) (hV : Rc.Val r) (hk : r.kind = 1) (d : Int) (w : World) (ht : Tab w) (h0 : r.frm ≤ d) (h1 : d ≤ 34000) : Calls Tryd.prog 23 #[(.agg #[.int .i64 r.kind, .int .i64 r.every, .int .i64 r.wd, .int .i64 r.nth, .int .i64 r.frm, .int .i64 r.unt, .int .i64 r.sec, .bool r.shift, .bool r.both]), .int .i64 d] w (KindPost r d w) := by
  have HR := Lib.hid (ok_1 hk d)
  obtain ⟨⟨e1, e2⟩, ⟨f1, f2, f3⟩, -, -⟩ := hV
  have k1 : (r.kind == 1) = true := by simp [hk]
  obtain ⟨a1, a2, a3, a4, a5⟩ := rYes (n := d) (by omega) h1
  obtain ⟨b1, b2, b3, b4, b5⟩ := rYes (n := r.frm) (by omega) (by omega)
  obtain ⟨x1, x2, x3, x4⟩ := date_bd (f := d) (by omega) h1
  obtain ⟨y1, y2, y3, y4⟩ := date_bd (f := r.frm) (by omega) (by omega)
  have hb := Below.goN (Below.refl w.heap.size w) (.cells #[.int .i64 r.kind, .int .i64 r.every, .int .i64 r.wd, .int .i64 r.nth, .int .i64 r.frm, .int .i64 r.unt, .int .i64 r.sec, .bool r.shift, .bool r.both] 24)
  have HT := Lib.hid (ht.below hb)
  obtain ⟨c0, c1, c2, c3, c4, c5, c6, c7, c8⟩ := blk9 (heap_new w (.cells #[.int .i64 r.kind, .int .i64 r.every, .int .i64 r.wd, .int .i64 r.nth, .int .i64 r.frm, .int .i64 r.unt, .int .i64 r.sec, .bool r.shift, .bool r.both] 24))
  clear ht hk
  go_enter Tryd.func23, Tryd.ntmps23
  go_wp2_with (first | (go_at_call 41; refine (date_any _ _ HT.out).mono ?_; rintro e w' ⟨rfl, rfl⟩) | (go_at_call 42; refine (weekdayOf_any _ _).mono ?_; rintro e w' ⟨rfl, rfl⟩) | (go_at_call 43; refine (nth_any _ _ _ _ _ HT.out).mono ?_; rintro e w' ⟨rfl, rfl⟩))
  go_quiet (fail)
  go_wp2
  go_ret2
  exact kind_post HR.out.1 HR.out.2 (below_drewN hb _)
set_option maxHeartbeats 2000000 in
set_option maxRecDepth 100000 in
theorem kind2_any (r : Rec) (hV : Rc.Val r) (hk : r.kind = 2) (d : Int) (w : World) (ht : Tab w) (h0 : r.frm ≤ d) (h1 : d ≤ 34000) : Calls Tryd.prog 23 #[(.agg #[.int .i64 r.kind, .int .i64 r.every, .int .i64 r.wd, .int .i64 r.nth, .int .i64 r.frm, .int .i64 r.unt, .int .i64 r.sec, .bool r.shift, .bool r.both]), .int .i64 d] w (KindPost r d w) := by
  have HR := Lib.hid (ok_2 hk d)
  obtain ⟨⟨e1, e2⟩, ⟨f1, f2, f3⟩, -, -⟩ := hV
  have k1 : (r.kind == 1) = false := by simp [hk]
  have k2 : (r.kind == 2) = true := by simp [hk]
  obtain ⟨a1, a2, a3, a4, a5⟩ := rYes (n := d) (by omega) h1
  obtain ⟨b1, b2, b3, b4, b5⟩ := rYes (n := r.frm) (by omega) (by omega)
  obtain ⟨x1, x2, x3, x4⟩ := date_bd (f := d) (by omega) h1
  obtain ⟨y1, y2, y3, y4⟩ := date_bd (f := r.frm) (by omega) (by omega)
  have hb := Below.goN (Below.refl w.heap.size w) (.cells #[.int .i64 r.kind, .int .i64 r.every, .int .i64 r.wd, .int .i64 r.nth, .int .i64 r.frm, .int .i64 r.unt, .int .i64 r.sec, .bool r.shift, .bool r.both] 24)
  have HT := Lib.hid (ht.below hb)
  obtain ⟨c0, c1, c2, c3, c4, c5, c6, c7, c8⟩ := blk9 (heap_new w (.cells #[.int .i64 r.kind, .int .i64 r.every, .int .i64 r.wd, .int .i64 r.nth, .int .i64 r.frm, .int .i64 r.unt, .int .i64 r.sec, .bool r.shift, .bool r.both] 24))
  clear ht hk
  go_enter Tryd.func23, Tryd.ntmps23
  go_wp2_with (first | (go_at_call 41; refine (date_any _ _ HT.out).mono ?_; rintro e w' ⟨rfl, rfl⟩) | (go_at_call 42; refine (weekdayOf_any _ _).mono ?_; rintro e w' ⟨rfl, rfl⟩) | (go_at_call 43; refine (nth_any _ _ _ _ _ HT.out).mono ?_; rintro e w' ⟨rfl, rfl⟩))
  go_quiet (fail)
  go_wp2
  go_ret2
  exact kind_post HR.out.1 (HR.out.2.trans (by clear HR; omega)) (below_drewN hb _)
set_option maxHeartbeats 2000000 in
set_option maxRecDepth 100000 in
theorem kind3_any (r : Rec) (hV : Rc.Val r) (hk : r.kind = 3) (d : Int) (w : World) (ht : Tab w) (h0 : r.frm ≤ d) (h1 : d ≤ 34000) : Calls Tryd.prog 23 #[(.agg #[.int .i64 r.kind, .int .i64 r.every, .int .i64 r.wd, .int .i64 r.nth, .int .i64 r.frm, .int .i64 r.unt, .int .i64 r.sec, .bool r.shift, .bool r.both]), .int .i64 d] w (KindPost r d w) := by
  have HR := Lib.hid (ok_3 hk d)
  obtain ⟨⟨e1, e2⟩, ⟨f1, f2, f3⟩, -, -⟩ := hV
  have k1 : (r.kind == 1) = false := by simp [hk]
  have k2 : (r.kind == 2) = false := by simp [hk]
  have k3 : (r.kind == 3) = true := by simp [hk]
  obtain ⟨a1, a2, a3, a4, a5⟩ := rYes (n := d) (by omega) h1
  obtain ⟨b1, b2, b3, b4, b5⟩ := rYes (n := r.frm) (by omega) (by omega)
  obtain ⟨x1, x2, x3, x4⟩ := date_bd (f := d) (by omega) h1
  obtain ⟨y1, y2, y3, y4⟩ := date_bd (f := r.frm) (by omega) (by omega)
  have hb := Below.goN (Below.refl w.heap.size w) (.cells #[.int .i64 r.kind, .int .i64 r.every, .int .i64 r.wd, .int .i64 r.nth, .int .i64 r.frm, .int .i64 r.unt, .int .i64 r.sec, .bool r.shift, .bool r.both] 24)
  have HT := Lib.hid (ht.below hb)
  obtain ⟨c0, c1, c2, c3, c4, c5, c6, c7, c8⟩ := blk9 (heap_new w (.cells #[.int .i64 r.kind, .int .i64 r.every, .int .i64 r.wd, .int .i64 r.nth, .int .i64 r.frm, .int .i64 r.unt, .int .i64 r.sec, .bool r.shift, .bool r.both] 24))
  clear ht hk
  go_enter Tryd.func23, Tryd.ntmps23
  go_wp2_with (first | (go_at_call 41; refine (date_any _ _ HT.out).mono ?_; rintro e w' ⟨rfl, rfl⟩) | (go_at_call 42; refine (weekdayOf_any _ _).mono ?_; rintro e w' ⟨rfl, rfl⟩) | (go_at_call 43; refine (nth_any _ _ _ _ _ HT.out).mono ?_; rintro e w' ⟨rfl, rfl⟩))
  go_ret2
  exact kind_post HR.out.1 HR.out.2 hb
set_option maxHeartbeats 2000000 in
set_option maxRecDepth 100000 in
theorem kind4_any (r : Rec) (hV : Rc.Val r) (hk : r.kind = 4) (d : Int) (w : World) (ht : Tab w) (h0 : r.frm ≤ d) (h1 : d ≤ 34000) : Calls Tryd.prog 23 #[(.agg #[.int .i64 r.kind, .int .i64 r.every, .int .i64 r.wd, .int .i64 r.nth, .int .i64 r.frm, .int .i64 r.unt, .int .i64 r.sec, .bool r.shift, .bool r.both]), .int .i64 d] w (KindPost r d w) := by
  have HR := Lib.hid (ok_4 hk d)
  obtain ⟨⟨e1, e2⟩, ⟨f1, f2, f3⟩, -, -⟩ := hV
  have k1 : (r.kind == 1) = false := by simp [hk]
  have k2 : (r.kind == 2) = false := by simp [hk]
  have k3 : (r.kind == 3) = false := by simp [hk]
  by_cases hE : Cal.nthE (Cal.dY d) (Cal.dM d) r.wd r.nth = 0
  · have hq : (Cal.nthE (Cal.dY d) (Cal.dM d) r.wd r.nth == 0) = true := by simp [hE]
    have HR2 : Hid (Rc.ofKind r d = (Cal.nthV (Cal.dY d) (Cal.dM d) r.wd r.nth == d)) := Lib.hid (by rw [HR.out.1, hq]; rfl)
    clear hE
    obtain ⟨a1, a2, a3, a4, a5⟩ := rYes (n := d) (by omega) h1
    obtain ⟨b1, b2, b3, b4, b5⟩ := rYes (n := r.frm) (by omega) (by omega)
    obtain ⟨x1, x2, x3, x4⟩ := date_bd (f := d) (by omega) h1
    obtain ⟨y1, y2, y3, y4⟩ := date_bd (f := r.frm) (by omega) (by omega)
    have hb := Below.goN (Below.refl w.heap.size w) (.cells #[.int .i64 r.kind, .int .i64 r.every, .int .i64 r.wd, .int .i64 r.nth, .int .i64 r.frm, .int .i64 r.unt, .int .i64 r.sec, .bool r.shift, .bool r.both] 24)
    have HT := Lib.hid (ht.below hb)
    obtain ⟨c0, c1, c2, c3, c4, c5, c6, c7, c8⟩ := blk9 (heap_new w (.cells #[.int .i64 r.kind, .int .i64 r.every, .int .i64 r.wd, .int .i64 r.nth, .int .i64 r.frm, .int .i64 r.unt, .int .i64 r.sec, .bool r.shift, .bool r.both] 24))
    clear ht hk
    go_enter Tryd.func23, Tryd.ntmps23
    go_wp2_with (first | (go_at_call 41; refine (date_any _ _ HT.out).mono ?_; rintro e w' ⟨rfl, rfl⟩) | (go_at_call 42; refine (weekdayOf_any _ _).mono ?_; rintro e w' ⟨rfl, rfl⟩) | (go_at_call 43; refine (nth_any _ _ _ _ _ HT.out).mono ?_; rintro e w' ⟨rfl, rfl⟩))
    go_ret2
    exact kind_post HR2.out HR.out.2 hb
  · have hq : (Cal.nthE (Cal.dY d) (Cal.dM d) r.wd r.nth == 0) = false := by simp [hE]
    have HR2 : Hid (Rc.ofKind r d = false) := Lib.hid (by rw [HR.out.1, hq]; rfl)
    clear hE
    obtain ⟨a1, a2, a3, a4, a5⟩ := rYes (n := d) (by omega) h1
    obtain ⟨b1, b2, b3, b4, b5⟩ := rYes (n := r.frm) (by omega) (by omega)
    obtain ⟨x1, x2, x3, x4⟩ := date_bd (f := d) (by omega) h1
    obtain ⟨y1, y2, y3, y4⟩ := date_bd (f := r.frm) (by omega) (by omega)
    have hb := Below.goN (Below.refl w.heap.size w) (.cells #[.int .i64 r.kind, .int .i64 r.every, .int .i64 r.wd, .int .i64 r.nth, .int .i64 r.frm, .int .i64 r.unt, .int .i64 r.sec, .bool r.shift, .bool r.both] 24)
    have HT := Lib.hid (ht.below hb)
    obtain ⟨c0, c1, c2, c3, c4, c5, c6, c7, c8⟩ := blk9 (heap_new w (.cells #[.int .i64 r.kind, .int .i64 r.every, .int .i64 r.wd, .int .i64 r.nth, .int .i64 r.frm, .int .i64 r.unt, .int .i64 r.sec, .bool r.shift, .bool r.both] 24))
    clear ht hk
    go_enter Tryd.func23, Tryd.ntmps23
    go_wp2_with (first | (go_at_call 41; refine (date_any _ _ HT.out).mono ?_; rintro e w' ⟨rfl, rfl⟩) | (go_at_call 42; refine (weekdayOf_any _ _).mono ?_; rintro e w' ⟨rfl, rfl⟩) | (go_at_call 43; refine (nth_any _ _ _ _ _ HT.out).mono ?_; rintro e w' ⟨rfl, rfl⟩))
    go_ret2
    exact kind_post HR2.out HR.out.2 hb
theorem kind_any (r : Rec) (hV : Rc.Val r) (d : Int) (w : World) (ht : Tab w) (h0 : r.frm ≤ d) (h1 : d ≤ 34000) : Calls Tryd.prog 23 #[(.agg #[.int .i64 r.kind, .int .i64 r.every, .int .i64 r.wd, .int .i64 r.nth, .int .i64 r.frm, .int .i64 r.unt, .int .i64 r.sec, .bool r.shift, .bool r.both]), .int .i64 d] w (KindPost r d w) := by
  rcases hV.2.2.2 with ⟨h, -⟩ | ⟨h, -⟩ | ⟨h, -⟩ | ⟨h, -⟩
  · exact kind1_any r hV h d w ht h0 h1
  · exact kind2_any r hV h d w ht h0 h1
  · exact kind3_any r hV h d w ht h0 h1
  · exact kind4_any r hV h d w ht h0 h1
/-- the day at a place of the list of days, and the day ahead of it -/
theorem day_at {r : Rec} (h : Rc.dysE r = 0) {k : Nat} (hk : k < (Rc.dysV r).length) : r.frm ≤ (Rc.dysV r)[k]?.getD 0 ∧ (Rc.dysV r)[k]?.getD 0 < r.unt ∧ ∀ j, k = j + 1 → (Rc.dysV r)[j]?.getD 0 < (Rc.dysV r)[k]?.getD 0 := by
  obtain ⟨hv, e⟩ := Rc.dysV_ok h
  have hs : (Rc.dysV r).Pairwise (· < ·) := by rw [e]; exact Rc.daysTo_sorted _ _
  have hm : (Rc.dysV r)[k] ∈ Rc.days r := by rw [← e]; exact List.getElem_mem _
  rw [Rc.mem_days] at hm
  rw [List.getElem?_eq_getElem hk]
  refine ⟨hm.1, hm.2.1, fun j hj => ?_⟩
  rw [List.getElem?_eq_getElem (by omega)]
  exact List.pairwise_iff_getElem.1 hs j k (by omega) hk (by omega)
noncomputable def fndB (r : Rec) (day : Int) (k : Nat) : Bool := decide (day ∈ (Rc.dysV r).take k)
theorem fnd_step {r : Rec} {day : Int} {k n : Nat} {x : Int} (h : (Rc.dysV r).length = n) (hk : k < n) (hx : (Rc.dysV r)[k]?.getD 0 = x) : fndB r day (k + 1) = (fndB r day k || x == day) := by
  unfold fndB
  rw [takeI_snoc h hk, hx, Bool.eq_iff_iff]
  simp only [decide_eq_true_iff, List.mem_append, List.mem_singleton, Bool.or_eq_true, beq_iff_eq]
  exact ⟨fun h => h.imp id Eq.symm, fun h => h.imp id Eq.symm⟩
theorem fnd_end {r : Rec} {day : Int} {n : Nat} (h : (Rc.dysV r).length = n) (hE : Rc.dysE r = 0) (h0 : r.frm ≤ day) (h1 : day < r.unt) : fndB r day n = (Rc.ofKind r day && decide ((Rc.per r day - Rc.per r r.frm) % r.every = 0)) := by
  unfold fndB
  rw [List.take_of_length_le (by omega), (Rc.dysV_ok hE).2]
  have : day ∈ Rc.days r ↔ Rc.hasB r day = true := by rw [Rc.mem_days]; exact ⟨fun h => h.2.2, fun h => ⟨h0, h1, h⟩⟩
  rw [Bool.eq_iff_iff, decide_eq_true_iff, this]; rfl
set_option maxHeartbeats 2000000 in
set_option maxRecDepth 100000 in
theorem days_unusable (r : Rec) (day : Int) (w : World) (ht : Tab w) (d0 : (Lit.int .i64 day).wf = true) (q : Hid (useB 0 [] r = false)) :
    Calls Tryd.prog 4 #[(.agg #[.int .i64 r.kind, .int .i64 r.every, .int .i64 r.wd, .int .i64 r.nth, .int .i64 r.frm, .int .i64 r.unt, .int .i64 r.sec, .bool r.shift, .bool r.both]), .int .i64 day] w (LawPost w) := by
  have HT : Hid (∀ W, Below w.heap.size w W → Tab W) := Lib.hid fun W hW => ht.below hW
  have hb := Below.goN (Below.refl w.heap.size w) (.cells #[.int .i64 r.kind, .int .i64 r.every, .int .i64 r.wd, .int .i64 r.nth, .int .i64 r.frm, .int .i64 r.unt, .int .i64 r.sec, .bool r.shift, .bool r.both] 24)
  have kx := Lib.hid (heap_new w (.cells #[.int .i64 r.kind, .int .i64 r.every, .int .i64 r.wd, .int .i64 r.nth, .int .i64 r.frm, .int .i64 r.unt, .int .i64 r.sec, .bool r.shift, .bool r.both] 24))
  clear ht
  go_enter Tryd.func4, Tryd.ntmps4
  go_wp2_with fail
  refine (head_any _ (HT.out _ hb)).mono ?_
  rintro e w1 ⟨rfl, hn⟩
  have hb := Below.go hb hn
  have kx := Lib.hid (keep' kx.out hn)
  clear hn
  obtain ⟨kx_0, kx_1, kx_2, kx_3, kx_4, kx_5, kx_6, kx_7, kx_8⟩ := blk9 kx.out
  go_wp2_with fail
  refine (usable_any none 0 0 [] r _ (lp_nil _ _ _)).mono ?_
  rintro e w2 ⟨rfl, hn⟩
  have hb := Below.go hb hn
  have kx := Lib.hid (keep' kx.out hn)
  clear hn
  rw [q.out]
  obtain ⟨kx_0, kx_1, kx_2, kx_3, kx_4, kx_5, kx_6, kx_7, kx_8⟩ := blk9 kx.out
  go_wp2
  go_ret
  exact ⟨by simp, hb⟩
set_option maxHeartbeats 2000000 in
set_option maxRecDepth 100000 in
theorem days_limit (r : Rec) (day : Int) (w : World) (ht : Tab w) (d0 : (Lit.int .i64 day).wf = true) (q : Hid (useB 0 [] r = true)) (hr : Fit21 r) (N : Nat) (E : Hid (Rc.dysE r = 2)) (Nq : Hid ((Rc.dysV r).length = N)) :
    Calls Tryd.prog 4 #[(.agg #[.int .i64 r.kind, .int .i64 r.every, .int .i64 r.wd, .int .i64 r.nth, .int .i64 r.frm, .int .i64 r.unt, .int .i64 r.sec, .bool r.shift, .bool r.both]), .int .i64 day] w (LawPost w) := by
  have HT : Hid (∀ W, Below w.heap.size w W → Tab W) := Lib.hid fun W hW => ht.below hW
  have hb := Below.goN (Below.refl w.heap.size w) (.cells #[.int .i64 r.kind, .int .i64 r.every, .int .i64 r.wd, .int .i64 r.nth, .int .i64 r.frm, .int .i64 r.unt, .int .i64 r.sec, .bool r.shift, .bool r.both] 24)
  have kx := Lib.hid (heap_new w (.cells #[.int .i64 r.kind, .int .i64 r.every, .int .i64 r.wd, .int .i64 r.nth, .int .i64 r.frm, .int .i64 r.unt, .int .i64 r.sec, .bool r.shift, .bool r.both] 24))
  clear ht
  go_enter Tryd.func4, Tryd.ntmps4
  go_wp2_with fail
  refine (head_any _ (HT.out _ hb)).mono ?_
  rintro e w1 ⟨rfl, hn⟩
  have hb := Below.go hb hn
  have kx := Lib.hid (keep' kx.out hn)
  clear hn
  obtain ⟨kx_0, kx_1, kx_2, kx_3, kx_4, kx_5, kx_6, kx_7, kx_8⟩ := blk9 kx.out
  go_wp2_with fail
  refine (usable_any none 0 0 [] r _ (lp_nil _ _ _)).mono ?_
  rintro e w2 ⟨rfl, hn⟩
  have hb := Below.go hb hn
  have kx := Lib.hid (keep' kx.out hn)
  clear hn
  rw [q.out]
  obtain ⟨kx_0, kx_1, kx_2, kx_3, kx_4, kx_5, kx_6, kx_7, kx_8⟩ := blk9 kx.out
  go_wp2_with fail
  refine (da_n (e := 2) (n := N) (Days_any r _ (HT.out _ hb) hr) E.out Nq.out).mono ?_
  rintro e w3 ⟨A1, c1, rfl, hL, hn⟩
  have hb := Below.go hb hn
  have kx := Lib.hid (keep' kx.out hn)
  clear hn
  have L1 := Lib.hid hL; clear hL
  go_wp2
  go_ret
  exact ⟨by simp, hb⟩
set_option maxHeartbeats 2000000 in
set_option maxRecDepth 100000 in
theorem days_main (r : Rec) (day : Int) (w : World) (ht : Tab w) (d0 : (Lit.int .i64 day).wf = true) (q : Hid (useB 0 [] r = true)) (hr : Fit21 r) (N : Nat) (E : Hid (Rc.dysE r = 0)) (Nq : Hid ((Rc.dysV r).length = N)) (hV : Hid (Rc.Val r)) :
    Calls Tryd.prog 4 #[(.agg #[.int .i64 r.kind, .int .i64 r.every, .int .i64 r.wd, .int .i64 r.nth, .int .i64 r.frm, .int .i64 r.unt, .int .i64 r.sec, .bool r.shift, .bool r.both]), .int .i64 day] w (LawPost w) := by
  have HT : Hid (∀ W, Below w.heap.size w W → Tab W) := Lib.hid fun W hW => ht.below hW
  have hb := Below.goN (Below.refl w.heap.size w) (.cells #[.int .i64 r.kind, .int .i64 r.every, .int .i64 r.wd, .int .i64 r.nth, .int .i64 r.frm, .int .i64 r.unt, .int .i64 r.sec, .bool r.shift, .bool r.both] 24)
  have kx := Lib.hid (heap_new w (.cells #[.int .i64 r.kind, .int .i64 r.every, .int .i64 r.wd, .int .i64 r.nth, .int .i64 r.frm, .int .i64 r.unt, .int .i64 r.sec, .bool r.shift, .bool r.both] 24))
  clear ht
  go_enter Tryd.func4, Tryd.ntmps4
  go_wp2_with fail
  refine (head_any _ (HT.out _ hb)).mono ?_
  rintro e w1 ⟨rfl, hn⟩
  have hb := Below.go hb hn
  have kx := Lib.hid (keep' kx.out hn)
  clear hn
  obtain ⟨kx_0, kx_1, kx_2, kx_3, kx_4, kx_5, kx_6, kx_7, kx_8⟩ := blk9 kx.out
  go_wp2_with fail
  refine (usable_any none 0 0 [] r _ (lp_nil _ _ _)).mono ?_
  rintro e w2 ⟨rfl, hn⟩
  have hb := Below.go hb hn
  have kx := Lib.hid (keep' kx.out hn)
  clear hn
  rw [q.out]
  obtain ⟨kx_0, kx_1, kx_2, kx_3, kx_4, kx_5, kx_6, kx_7, kx_8⟩ := blk9 kx.out
  go_wp2_with fail
  refine (da_n (e := 0) (n := N) (Days_any r _ (HT.out _ hb) hr) E.out Nq.out).mono ?_
  rintro e w3 ⟨A1, c1, rfl, hL, hn⟩
  have hb := Below.go hb hn
  have kx := Lib.hid (keep' kx.out hn)
  clear hn
  have L1 := Lib.hid hL; clear hL
  have hN : N ≤ 1000 := by have := Rc.dysV_len r; rw [Nq.out] at this; exact this
  go_wp2
  go_loopw [8, 32] (fun f i wr => ∃ k : Nat, k ≤ N ∧ i = .int .i64 k ∧ f = .bool (fndB r day k) ∧ Below w3.heap.size w3 wr) (fun _ i _ => N - (intOf i).toNat)
  case atStart => exact ⟨0, Nat.zero_le _, rfl, by simp [fndB], Below.refl _ _⟩
  case round =>
    obtain ⟨k, hk, rfl, rfl, hbr⟩ := hrel
    obtain ⟨g0, g1, g2, g3, g4, g5, g6, g7, g8⟩ := blk9 (keep' kx.out hbr)
    by_cases hlt : k < N
    · obtain ⟨b, off, rfl, hB, hc⟩ := L1.out.2 (by omega)
      have c0 := (hbr.cell (p := ⟨b, off + k, none⟩) hB).trans (hc k hlt)
      obtain ⟨t1, t2, t3⟩ := day_at E.out (k := k) (by rw [Nq.out]; exact hlt)
      have HS := Lib.hid (fnd_step (r := r) (day := day) Nq.out hlt rfl)
      have i0 : (0 : Int) ≤ (k : Int) := by omega
      have i1 : (k : Int) < (N : Int) := by omega
      have t1' : decide ((Rc.dysV r)[k]?.getD 0 < r.frm) = false := decide_eq_false (by omega)
      have t2' : decide (r.unt ≤ (Rc.dysV r)[k]?.getD 0) = false := decide_eq_false (by omega)
      rcases k with _ | j
      · clear t3 hc
        have z0 : fndB r day 0 = false := by simp [fndB]
        rw [z0] at HS ⊢
        generalize (Rc.dysV r)[0]?.getD 0 = x at *
        simp only [Nat.add_zero] at c0
        go_wp2
        go_roundw
        case rel => exact ⟨1, by omega, by go_num, by rw [HS.out]; simp, hbr⟩
        case measure => simp [intOf]; omega
      · have t4 := t3 j rfl
        have c1 := (hbr.cell (p := ⟨b, off + j, none⟩) hB).trans (hc j (by omega))
        clear t3 hc
        generalize (Rc.dysV r)[j + 1]?.getD 0 = x at *
        generalize (Rc.dysV r)[j]?.getD 0 = y at *
        have t4' : decide (x ≤ y) = false := decide_eq_false (by omega)
        have i2 : decide ((0 : Int) < ((j + 1 : Nat) : Int)) = true := decide_eq_true (by omega)
        cases hF : fndB r day (j + 1)
        · rw [hF] at HS
          clear hF
          go_wp2
          go_roundw
          case rel => exact ⟨j + 2, by omega, by go_num, by rw [HS.out]; simp, hbr⟩
          case measure => simp [intOf]; omega
        · rw [hF] at HS
          clear hF
          go_wp2
          go_roundw
          case rel => exact ⟨j + 2, by omega, by go_num, by rw [HS.out]; simp, hbr⟩
          case measure => simp [intOf]; omega
    · obtain rfl : k = N := by omega
      have hb4 := Below.go hb hbr
      have kx := Lib.hid (keep' kx.out hbr)
      by_cases a : day < r.frm
      · go_wp2
        go_ret
        exact ⟨by simp, hb4⟩
      · by_cases c : r.unt ≤ day
        · go_wp2
          go_ret
          exact ⟨by simp, hb4⟩
        · have HS := Lib.hid (fnd_end (day := day) Nq.out E.out (by omega) (by omega))
          have HK := Lib.hid (kind_any r hV.out day wr (HT.out _ hb4) (by omega) (by have := hV.out.2.1; omega))
          obtain ⟨p0, p1⟩ := Rc.per_mono r (d := r.frm) (d' := day) (by have := hV.out.2.1; omega) (by omega)
          have p2 : day ≤ 34000 := by have := hV.out.2.1; omega
          have p3 : 0 ≤ r.frm := by have := hV.out.2.1; omega
          have p4 : 1 ≤ r.every := by have := hV.out.1; omega
          unfold KindPost at HK
          have p5 : 0 ≤ Rc.per r day - Rc.per r r.frm := by omega
          have p6 : Rc.per r day - Rc.per r r.frm ≤ 40000 := by omega
          clear p0 p1
          generalize Rc.per r day - Rc.per r r.frm = D at *
          cases hO : Rc.ofKind r day
          · rw [hO] at HS HK
            rw [show fndB r day k = false from HS.out]
            go_wp2_with fail
            refine HK.out.mono ?_
            rintro e w5 ⟨rfl, hn⟩
            obtain ⟨g0, g1, g2, g3, g4, g5, g6, g7, g8⟩ := blk9 (keep' kx.out hn)
            have hb5 := Below.go hb4 hn
            go_wp2
            go_ret
            exact ⟨by simp, hb5⟩
          · rw [hO] at HS HK
            have hq : (fndB r day k == (D % r.every == 0)) = true := by rw [HS.out]; simp; rfl
            generalize fndB r day k = F at *
            go_wp2_with fail
            refine HK.out.mono ?_
            rintro e w5 ⟨rfl, hn⟩
            obtain ⟨g0, g1, g2, g3, g4, g5, g6, g7, g8⟩ := blk9 (keep' kx.out hn)
            have hb5 := Below.go hb4 hn
            go_wp2
            go_ret
            exact ⟨by simp [hq], hb5⟩
theorem days_law (v1 : Value) (r : Rec) (day : Int) (w : World) (i1 : IsRc v1 r) (i2 : (Lit.int .i64 day).wf = true) (ht : Tab w) :
    Calls Tryd.prog 4 #[v1, .int .i64 day] w (LawPost w) := by
  obtain ⟨rfl, hk⟩ := i1
  cases hu : useB 0 [] r
  · exact days_unusable r day w ht i2 (Lib.hid hu)
  · obtain ⟨-, -, hB, hf⟩ := use_ok hu
    rcases Rc.dys_lim hB with d | d
    · exact days_main r day w ht i2 (Lib.hid hu) (use_fit hu hk) _ (Lib.hid d) (Lib.hid rfl) (Lib.hid (of_decide_eq_true hB))
    · exact days_limit r day w ht i2 (Lib.hid hu) (use_fit hu hk) _ (Lib.hid d) (Lib.hid rfl)
end Go.Proofs.YtmicbniipbcapaaDoor
