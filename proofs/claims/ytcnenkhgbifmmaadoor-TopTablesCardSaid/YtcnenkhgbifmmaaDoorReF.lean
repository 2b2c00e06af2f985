/- The reference's Has and Days. -/
import Derived.Test.YtcnenkhgbifmmaaDoorReE
import Derived.Deep.QuietTactic
import Derived.BigQuiet
set_option linter.unusedVariables false
namespace Go.Proofs.YtcnenkhgbifmmaaDoor
open Go.RowKit
theorem mon_bd {d : Int} (h0 : 0 ≤ d) (h1 : d ≤ 34000) : 0 ≤ Rc.mon d ∧ Rc.mon d ≤ 1200 := by
  have := date_bd h0 h1; unfold Rc.mon; omega
theorem has_1 {r : Rec} (h : r.kind = 1) (d : Int) : Rc.hasB r d = ((d - r.frm) % r.every == 0) := by
  unfold Rc.hasB Rc.ofKind Rc.per; simp [h]; rfl
theorem has_2 {r : Rec} (h : r.kind = 2) (d : Int) : Rc.hasB r d = ((d + 5) % 7 == r.wd && ((d + 5) / 7 - (r.frm + 5) / 7) % r.every == 0) := by
  unfold Rc.hasB Rc.ofKind Rc.per; simp [h]; rfl
theorem has_3 {r : Rec} (h : r.kind = 3) (d : Int) : Rc.hasB r d = (Cal.dD d == r.nth && (Rc.mon d - Rc.mon r.frm) % r.every == 0) := by
  unfold Rc.hasB Rc.ofKind Rc.per; simp [h]; rfl
theorem has_4 {r : Rec} (h : r.kind = 4) (d : Int) : Rc.hasB r d = ((Cal.nthE (Cal.dY d) (Cal.dM d) r.wd r.nth == 0 && Cal.nthV (Cal.dY d) (Cal.dM d) r.wd r.nth == d) && (Rc.mon d - Rc.mon r.frm) % r.every == 0) := by
  unfold Rc.hasB Rc.ofKind Rc.per; simp [h]; rfl
end Go.Proofs.YtcnenkhgbifmmaaDoor
