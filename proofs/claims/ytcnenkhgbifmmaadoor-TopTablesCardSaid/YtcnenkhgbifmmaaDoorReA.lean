/- Which schedules are valid: the contracts of the reference's Valid, of within and Few. -/
import Derived.Test.YtcnenkhgbifmmaaDoorReMath
import Derived.Test.YtcnenkhgbifmmaaDoorWalkA
import Derived.Test.YtcnenkhgbifmmaaDoorComm
import Derived.Test.YtcnenkhgbifmmaaDoorCls
set_option linter.unusedVariables false
namespace Go.Proofs.YtcnenkhgbifmmaaDoor
open Go.RowKit
def wi (n lo hi : Int) : Bool := decide (lo ≤ n ∧ n ≤ hi)
theorem wi_t {n lo hi : Int} (h : lo ≤ n ∧ n ≤ hi) : wi n lo hi = true := decide_eq_true h
theorem wi_f {n lo hi : Int} (h : ¬ (lo ≤ n ∧ n ≤ hi)) : wi n lo hi = false := decide_eq_false h
theorem wi_true {n lo hi : Int} : wi n lo hi = true ↔ lo ≤ n ∧ n ≤ hi := decide_eq_true_iff
theorem wi_false {n lo hi : Int} : wi n lo hi = false ↔ ¬ (lo ≤ n ∧ n ≤ hi) := decide_eq_false_iff_not
theorem within_s (n lo hi : Int) (w : World) : Calls Tryd.prog 27 #[.int .i64 n, .int .i64 lo, .int .i64 hi] w (Ret (.bool (wi n lo hi)) w) := by
  by_cases h1 : lo ≤ n
  · have HR : Hid (wi n lo hi = decide (n ≤ hi)) := Lib.hid (by simp [wi, h1])
    go_enter Tryd.func27, Tryd.ntmps27
    go_wp2
    go_ret
    exact ⟨ret_bool HR.out.symm, rfl⟩
  · have HR : Hid (wi n lo hi = false) := Lib.hid (by simp [wi, h1])
    go_enter Tryd.func27, Tryd.ntmps27
    go_wp2
    go_ret
    exact ⟨ret_bool HR.out.symm, rfl⟩
theorem refWithin_s (n lo hi : Int) (w : World) : Calls Tryd.prog 23 #[.int .i64 n, .int .i64 lo, .int .i64 hi] w (Ret (.bool (wi n lo hi)) w) := by
  by_cases h1 : lo ≤ n
  · have HR : Hid (wi n lo hi = decide (n ≤ hi)) := Lib.hid (by simp [wi, h1])
    go_enter Tryd.func23, Tryd.ntmps23
    go_wp2
    go_ret
    exact ⟨ret_bool HR.out.symm, rfl⟩
  · have HR : Hid (wi n lo hi = false) := Lib.hid (by simp [wi, h1])
    go_enter Tryd.func23, Tryd.ntmps23
    go_wp2
    go_ret
    exact ⟨ret_bool HR.out.symm, rfl⟩
/-- the tests ahead of the kind, each by its Bool -/
def HeadOk (r : Rec) : Prop := wi r.every 1 1000 = true ∧ decide (r.frm < 0) = false ∧ decide (r.unt ≤ r.frm) = false ∧ decide (34001 < r.unt) = false ∧ wi r.sec 0 86399 = true
theorem head_ways (r : Rec) : ((wi r.every 1 1000 = false ∨ (wi r.every 1 1000 = true ∧ decide (r.frm < 0) = true) ∨ (wi r.every 1 1000 = true ∧ decide (r.frm < 0) = false ∧ decide (r.unt ≤ r.frm) = true) ∨ (wi r.every 1 1000 = true ∧ decide (r.frm < 0) = false ∧ decide (r.unt ≤ r.frm) = false ∧ decide (34001 < r.unt) = true) ∨ (wi r.every 1 1000 = true ∧ decide (r.frm < 0) = false ∧ decide (r.unt ≤ r.frm) = false ∧ decide (34001 < r.unt) = false ∧ wi r.sec 0 86399 = false)) ∧ Hid (Rc.validB r = false)) ∨ HeadOk r := by
  by_cases h : HeadOk r
  · exact .inr h
  · have hv : Rc.validB r = false := decide_eq_false fun hv => h (by
      obtain ⟨a, b, c, -⟩ := hv
      exact ⟨wi_t a, decide_eq_false (by omega), decide_eq_false (by omega), decide_eq_false (by omega), wi_t c⟩)
    refine .inl ⟨?_, Lib.hid hv⟩
    unfold HeadOk at h
    cases h1 : wi r.every 1 1000 <;> cases h2 : decide (r.frm < 0) <;> cases h3 : decide (r.unt ≤ r.frm) <;> cases h4 : decide (34001 < r.unt) <;> cases h5 : wi r.sec 0 86399 <;> simp_all
/-- the kind, with its tests -/
def KindWays (r : Rec) : Prop :=
  ((r.kind == 1) = true ∧ (r.wd == 0) = false ∧ Hid (Rc.validB r = false)) ∨ ((r.kind == 1) = true ∧ (r.wd == 0) = true ∧ ((r.nth == 0) = false ∧ Hid (Rc.validB r = false) ∨ (r.nth == 0) = true ∧ Hid (Rc.validB r = true))) ∨
  ((r.kind == 1) = false ∧ (r.kind == 2) = true ∧ (wi r.wd 0 6 = false ∧ Hid (Rc.validB r = false) ∨ wi r.wd 0 6 = true ∧ ((r.nth == 0) = false ∧ Hid (Rc.validB r = false) ∨ (r.nth == 0) = true ∧ Hid (Rc.validB r = true)))) ∨
  ((r.kind == 1) = false ∧ (r.kind == 2) = false ∧ (r.kind == 3) = true ∧ ((r.wd == 0) = false ∧ Hid (Rc.validB r = false) ∨ (r.wd == 0) = true ∧ (wi r.nth 1 31 = false ∧ Hid (Rc.validB r = false) ∨ wi r.nth 1 31 = true ∧ Hid (Rc.validB r = true)))) ∨
  ((r.kind == 1) = false ∧ (r.kind == 2) = false ∧ (r.kind == 3) = false ∧ (r.kind == 4) = true ∧ (wi r.wd 0 6 = false ∧ Hid (Rc.validB r = false) ∨ wi r.wd 0 6 = true ∧ ((r.nth == -1) = true ∧ Hid (Rc.validB r = true) ∨ (r.nth == -1) = false ∧ (wi r.nth 1 5 = false ∧ Hid (Rc.validB r = false) ∨ wi r.nth 1 5 = true ∧ Hid (Rc.validB r = true))))) ∨
  ((r.kind == 1) = false ∧ (r.kind == 2) = false ∧ (r.kind == 3) = false ∧ (r.kind == 4) = false ∧ Hid (Rc.validB r = false))
theorem kind_ways {r : Rec} (h : HeadOk r) : KindWays r := by
  obtain ⟨h1, h2, h3, h4, h5⟩ := h
  rw [wi_true] at h1 h5
  simp only [decide_eq_false_iff_not] at h2 h3 h4
  have hv : ∀ b : Bool, (b = true ↔ ((r.kind = 1 ∧ r.wd = 0 ∧ r.nth = 0) ∨ (r.kind = 2 ∧ (0 ≤ r.wd ∧ r.wd ≤ 6) ∧ r.nth = 0) ∨ (r.kind = 3 ∧ r.wd = 0 ∧ 1 ≤ r.nth ∧ r.nth ≤ 31) ∨ (r.kind = 4 ∧ (0 ≤ r.wd ∧ r.wd ≤ 6) ∧ (r.nth = -1 ∨ 1 ≤ r.nth ∧ r.nth ≤ 5)))) → Hid (Rc.validB r = b) := fun b hb => Lib.hid (by
    rw [Bool.eq_iff_iff, hb]
    unfold Rc.validB
    rw [decide_eq_true_iff]
    exact ⟨fun h => h.2.2.2, fun h => ⟨by omega, by omega, by omega, h⟩⟩)
  have T : ∀ {P : Prop}, P → ((true = true) ↔ P) := fun hp => ⟨fun _ => hp, fun _ => rfl⟩
  have F : ∀ {P : Prop}, ¬ P → ((false = true) ↔ P) := fun hp => ⟨(fun h => by cases h), fun h => (hp h).elim⟩
  unfold KindWays
  simp only [beq_iff_eq, beq_eq_false_iff_ne, ne_eq, wi_true, wi_false]
  by_cases k1 : r.kind = 1
  · by_cases a : r.wd = 0
    · by_cases b : r.nth = 0
      · exact .inr (.inl ⟨k1, a, .inr ⟨b, hv _ (T (by omega))⟩⟩)
      · exact .inr (.inl ⟨k1, a, .inl ⟨b, hv _ (F (by omega))⟩⟩)
    · exact .inl ⟨k1, a, hv _ (F (by omega))⟩
  · by_cases k2 : r.kind = 2
    · refine .inr (.inr (.inl ⟨k1, k2, ?_⟩))
      by_cases a : 0 ≤ r.wd ∧ r.wd ≤ 6
      · by_cases b : r.nth = 0
        · exact .inr ⟨a, .inr ⟨b, hv _ (T (by omega))⟩⟩
        · exact .inr ⟨a, .inl ⟨b, hv _ (F (by omega))⟩⟩
      · exact .inl ⟨a, hv _ (F (by omega))⟩
    · by_cases k3 : r.kind = 3
      · refine .inr (.inr (.inr (.inl ⟨k1, k2, k3, ?_⟩)))
        by_cases a : r.wd = 0
        · by_cases b : 1 ≤ r.nth ∧ r.nth ≤ 31
          · exact .inr ⟨a, .inr ⟨b, hv _ (T (by omega))⟩⟩
          · exact .inr ⟨a, .inl ⟨b, hv _ (F (by omega))⟩⟩
        · exact .inl ⟨a, hv _ (F (by omega))⟩
      · by_cases k4 : r.kind = 4
        · refine .inr (.inr (.inr (.inr (.inl ⟨k1, k2, k3, k4, ?_⟩))))
          by_cases a : 0 ≤ r.wd ∧ r.wd ≤ 6
          · by_cases b : r.nth = -1
            · exact .inr ⟨a, .inl ⟨b, hv _ (T (by omega))⟩⟩
            · by_cases c : 1 ≤ r.nth ∧ r.nth ≤ 5
              · exact .inr ⟨a, .inr ⟨b, .inr ⟨c, hv _ (T (by omega))⟩⟩⟩
              · exact .inr ⟨a, .inr ⟨b, .inl ⟨c, hv _ (F (by omega))⟩⟩⟩
          · exact .inl ⟨a, hv _ (F (by omega))⟩
        · exact .inr (.inr (.inr (.inr (.inr ⟨k1, k2, k3, k4, hv _ (F (by omega))⟩))))
set_option maxHeartbeats 2000000 in
set_option maxRecDepth 100000 in
theorem refValid21_any (r : Rec) (w : World) : Calls Tryd.prog 8 #[(.agg #[.int .i64 r.kind, .int .i64 r.every, .int .i64 r.wd, .int .i64 r.nth, .int .i64 r.frm, .int .i64 r.unt, .int .i64 r.sec, .bool r.shift, .bool r.both])] w (RetB (.bool (Rc.validB r)) w) := by
  rcases head_ways r with ⟨h, HV⟩ | ⟨h1, h2, h3, h4, h5⟩
  · rcases h with h1 | ⟨h1, h2⟩ | ⟨h1, h2, h3⟩ | ⟨h1, h2, h3, h4⟩ | ⟨h1, h2, h3, h4, h5⟩
    all_goals
      go_enter Tryd.func8, Tryd.ntmps8
      go_wp2_with (go_at_call 23; refine (refWithin_s _ _ _ _).mono ?_; rintro e w' ⟨rfl, rfl⟩)
      go_ret
      exact ⟨ret_bool HV.out.symm, Below.goN (Below.refl _ _) _⟩
  · rcases kind_ways (r := r) ⟨h1, h2, h3, h4, h5⟩ with ⟨k1, k2, HV⟩ | ⟨k1, k2, ⟨k3, HV⟩ | ⟨k3, HV⟩⟩ | ⟨k1, k2, ⟨k3, HV⟩ | ⟨k3, ⟨k4, HV⟩ | ⟨k4, HV⟩⟩⟩ | ⟨k1, k2, k3, ⟨k4, HV⟩ | ⟨k4, ⟨k5, HV⟩ | ⟨k5, HV⟩⟩⟩ | ⟨k1, k2, k3, k4, ⟨k5, HV⟩ | ⟨k5, ⟨k6, HV⟩ | ⟨k6, ⟨k7, HV⟩ | ⟨k7, HV⟩⟩⟩⟩ | ⟨k1, k2, k3, k4, HV⟩
    all_goals
      go_enter Tryd.func8, Tryd.ntmps8
      go_wp2_with (go_at_call 23; refine (refWithin_s _ _ _ _).mono ?_; rintro e w' ⟨rfl, rfl⟩)
      go_ret
      exact ⟨ret_bool HV.out.symm, Below.goN (Below.refl _ _) _⟩
theorem refFew21_any (r : Rec) (w : World) (h1 : -100000 ≤ r.unt) (h2 : r.unt ≤ 100000) (h3 : -100000 ≤ r.frm) (h4 : r.frm ≤ 100000) : Calls Tryd.prog 9 #[(.agg #[.int .i64 r.kind, .int .i64 r.every, .int .i64 r.wd, .int .i64 r.nth, .int .i64 r.frm, .int .i64 r.unt, .int .i64 r.sec, .bool r.shift, .bool r.both])] w (RetB (.bool (decide (r.unt - r.frm ≤ 1200))) w) := by
  go_enter Tryd.func9, Tryd.ntmps9
  go_wp2
  go_ret
  exact ⟨rfl, Below.goN (Below.refl _ _) _⟩
end Go.Proofs.YtcnenkhgbifmmaaDoor
