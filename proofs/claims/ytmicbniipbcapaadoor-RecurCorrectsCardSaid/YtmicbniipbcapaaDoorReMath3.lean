/- Plain facts on the examples of chapter 21's head. No program in sight. -/
import Derived.Test.YtmicbniipbcapaaDoorReMath2
set_option linter.unusedVariables false
namespace Go.Proofs.YtmicbniipbcapaaDoor.Rc
open Cal Lpm
def pickC (y m : Int) (r : Rec) (n : Int) : Option Int :=
  if (if r.kind = 3 then nE (y + (m - 1 + n * r.every) / 12) (1 + (m - 1 + n * r.every) % 12) r.nth else nthE (y + (m - 1 + n * r.every) / 12) (1 + (m - 1 + n * r.every) % 12) r.wd r.nth) = 0 ∧
    inR r (if r.kind = 3 then nV (y + (m - 1 + n * r.every) / 12) (1 + (m - 1 + n * r.every) % 12) r.nth else nthV (y + (m - 1 + n * r.every) / 12) (1 + (m - 1 + n * r.every) % 12) r.wd r.nth) = true then
    some (if r.kind = 3 then nV (y + (m - 1 + n * r.every) / 12) (1 + (m - 1 + n * r.every) % 12) r.nth else nthV (y + (m - 1 + n * r.every) / 12) (1 + (m - 1 + n * r.every) % 12) r.wd r.nth) else none
theorem pick_C {r : Rec} {y m : Int} (h1 : dY r.frm = y) (h2 : dM r.frm = m) (hk : r.kind = 3 ∨ r.kind = 4) (n : Int) : pick r n = pickC y m r n := by
  unfold pick pE pd pY pM pickC
  rw [h1, h2]
  rcases hk with h | h <;> simp [h]
theorem days_C {r : Rec} (hv : Val r) {y m : Int} (h1 : dY r.frm = y) (h2 : dM r.frm = m) (hk : r.kind = 3 ∨ r.kind = 4) : days r = (List.range (most r)).filterMap fun n : Nat => pickC y m r n := by
  rw [← out_days hv]; unfold outTo; congr 1; funext n; exact pick_C h1 h2 hk n
def r1 : Rec := ⟨2, 2, 1, 0, 0, 40, 0, false, false⟩
def r2 : Rec := ⟨3, 1, 0, 31, 0, 130, 0, false, false⟩
def r3 : Rec := ⟨4, 1, 4, -1, 0, 60, 0, false, false⟩
def r4 : Rec := ⟨1, 1, 0, 0, 10, 11, 86399, false, true⟩
def r5 : Rec := ⟨1, 0, 0, 0, 0, 5, 0, false, false⟩
theorem d0 : dY 0 = 2000 ∧ dM 0 = 1 := by
  obtain ⟨a, b, -⟩ := date_is (n := 0) (y := 2000) (m := 1) (d := 1) ⟨by decide, by decide, by decide, by decide, by decide⟩ (by decide)
  exact ⟨a, b⟩
theorem v1 : validB r1 = true := by decide
theorem v2 : validB r2 = true := by decide
theorem v3 : validB r3 = true := by decide
theorem v4 : validB r4 = true := by decide
theorem v5 : validB r5 = false := by decide
theorem e1 : days r1 = [10, 24, 38] := by rfl
theorem e2 : days r2 = [30, 90] := by rw [days_C (of_decide_eq_true v2) d0.1 d0.2 (by decide)]; decide +kernel
theorem e3 : days r3 = [27, 55] := by rw [days_C (of_decide_eq_true v3) d0.1 d0.2 (by decide)]; decide +kernel
theorem e4 : days r4 = [10] := by rfl
theorem f1 : fires [(10, 1)] r4 = [(10, 950399000000), (10, 950400000000)] := by unfold fires; rw [e4]; decide +kernel
theorem f2 : fires [(10, -1)] r4 = [] := by unfold fires; rw [e4]; decide +kernel
theorem f3 : fires [] r4 = [(10, 950399000000)] := by unfold fires; rw [e4]; decide +kernel
theorem y1 : dysE r1 = 0 ∧ dysV r1 = [10, 24, 38] := by obtain ⟨a, b⟩ := dys_yes v1 (by rw [e1]; decide); exact ⟨a, b.trans e1⟩
theorem y2 : dysE r2 = 0 ∧ dysV r2 = [30, 90] := by obtain ⟨a, b⟩ := dys_yes v2 (by rw [e2]; decide); exact ⟨a, b.trans e2⟩
theorem y3 : dysE r3 = 0 ∧ dysV r3 = [27, 55] := by obtain ⟨a, b⟩ := dys_yes v3 (by rw [e3]; decide); exact ⟨a, b.trans e3⟩
theorem y4 : dysE r4 = 0 ∧ dysV r4 = [10] := by obtain ⟨a, b⟩ := dys_yes v4 (by rw [e4]; decide); exact ⟨a, b.trans e4⟩
theorem y5 : dysE r5 = 1 ∧ dysV r5 = [] := dys_no v5
theorem g1 : fiE [(10, 1)] r4 = 0 ∧ fiV [(10, 1)] r4 = [(10, 950399000000), (10, 950400000000)] := by obtain ⟨a, b⟩ := fi_yes (l := [(10, 1)]) (by decide) y4.1 (by rw [f1]; decide); exact ⟨a, b.trans f1⟩
theorem g2 : fiE [(10, -1)] r4 = 0 ∧ fiV [(10, -1)] r4 = [] := by obtain ⟨a, b⟩ := fi_yes (l := [(10, -1)]) (by decide) y4.1 (by rw [f2]; decide); exact ⟨a, b.trans f2⟩
theorem g3 : fiE [] r4 = 0 ∧ fiV [] r4 = [(10, 950399000000)] := by obtain ⟨a, b⟩ := fi_yes (l := []) (by decide) y4.1 (by rw [f3]; decide); exact ⟨a, b.trans f3⟩
theorem c1 : coE [] [(10, 1)] r4 0 = 0 ∧ coF [] [(10, 1)] r4 0 = [] ∧ coN [] [(10, 1)] r4 0 = [(10, 950400000000)] := by
  have h : coE [] [(10, 1)] r4 0 = 0 := by unfold coE; rw [if_pos (by decide), if_pos g3.1, g1.1]
  refine ⟨h, ?_, ?_⟩
  · unfold coF; rw [if_pos h, g3.2, g1.2]; decide
  · unfold coN; rw [if_pos h, g3.2, g1.2]; decide
end Go.Proofs.YtmicbniipbcapaaDoor.Rc
