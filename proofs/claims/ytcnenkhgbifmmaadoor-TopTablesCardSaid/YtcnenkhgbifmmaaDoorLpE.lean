/- Contracts of Offset and of the reference's functions; and all contracts in a form that chains: whatever lay in a first world lies as it lay. -/
import Derived.Test.YtcnenkhgbifmmaaDoorLpD
set_option linter.unusedVariables false
namespace Go.Proofs.YtcnenkhgbifmmaaDoor
open Go.RowKit

theorem chain {P : Program} {f : FuncId} {args : Array Value} {v : Value} {w0 w : World} (hb : Below w0.heap.size w0 w) (h : Calls P f args w (RetB v w)) : Calls P f args w (RetB v w0) :=
  h.mono fun _ _ ⟨he, hw⟩ => ⟨he, hb.trans (hw.mono hb.size)⟩
section
variable {B : Nat} {A : Option Addr} {n c : Nat} {l : Lpm.LL} {w0 w : World} (hl : Lp B w0 A n l) (hB : B ≤ w0.heap.size)
include hl hB in
theorem valid_c (hn : n ≤ 110) (hb : Below w0.heap.size w0 w) : Calls Tryd.prog 24 #[.slice A n c] w (RetB (.bool (Lpm.valid l)) w0) :=
  chain hb (valid_any B A n c l w (hl.below (hb.mono hB)) (Nat.le_trans hB hb.size) hn)
include hl hB in
theorem refValid_c (hn : n ≤ 110) (hb : Below w0.heap.size w0 w) : Calls Tryd.prog 7 #[.slice A n c] w (RetB (.bool (Lpm.valid l)) w0) :=
  chain hb (refValid_any B A n c l w (hl.below (hb.mono hB)) (Nat.le_trans hB hb.size) hn)
include hl hB in
theorem Start_c {day : Int} (hn : n ≤ 110) (hb : Below w0.heap.size w0 w) : Calls Tryd.prog 21 #[.slice A n c, .int .i64 day] w (RetB (.tuple #[.int .i64 (Lpm.stV l day), .int .i64 (Lpm.stE l day)]) w0) :=
  chain hb (Start_any B A n c l day w (hl.below (hb.mono hB)) (Nat.le_trans hB hb.size) hn)
include hl hB in
theorem Length_c {day : Int} (hn : n ≤ 110) (hb : Below w0.heap.size w0 w) : Calls Tryd.prog 36 #[.slice A n c, .int .i64 day] w (RetB (.tuple #[.int .i64 (Lpm.leV l day), .int .i64 (Lpm.stE l day)]) w0) :=
  chain hb (Length_any B A n c l day w (hl.below (hb.mono hB)) (Nat.le_trans hB hb.size) hn)
include hl hB in
theorem Day_c {t : Int} (hn : n ≤ 110) (hb : Below w0.heap.size w0 w) : Calls Tryd.prog 37 #[.slice A n c, .int .i64 t] w (RetB (.tuple #[.int .i64 (Lpm.dV l t), .int .i64 (Lpm.dE l t)]) w0) :=
  chain hb (Day_any B A n c l t w (hl.below (hb.mono hB)) (Nat.le_trans hB hb.size) hn)
include hl hB in
theorem offset_c {day : Int} (hv : Lpm.valid l = true) (hb : Below w0.heap.size w0 w) : Calls Tryd.prog 60 #[.slice A n c, .int .i64 day] w (RetB (.int .i64 (Lpm.ofs l day)) w0) :=
  chain hb (offset_any B A n c l day w (hl.below (hb.mono hB)) (Nat.le_trans hB hb.size) hv)
include hl hB in
theorem refSum_c {day : Int} (hv : Lpm.valid l = true) (hb : Below w0.heap.size w0 w) : Calls Tryd.prog 84 #[.slice A n c, .int .i64 day] w (RetB (.int .i64 (Lpm.ofs l day)) w0) :=
  chain hb (refSum_any B A n c l day w (hl.below (hb.mono hB)) hv)
include hl hB in
theorem refBegin_c {day : Int} (hv : Lpm.valid l = true) (h0 : 0 ≤ day) (h1 : day ≤ 40000) (hb : Below w0.heap.size w0 w) : Calls Tryd.prog 75 #[.slice A n c, .int .i64 day] w (RetB (.int .i64 (Lpm.start l day)) w0) :=
  chain hb (refBegin_any B A n c l day w (hl.below (hb.mono hB)) (Nat.le_trans hB hb.size) hv h0 h1)

theorem isDay_c {day : Int} (hb : Below w0.heap.size w0 w) : Calls Tryd.prog 74 #[.int .i64 day] w (RetB (.bool (Lpm.isDay day)) w0) := by
  go_enter Tryd.func74, Tryd.ntmps74
  go_wp2
  all_goals go_ret
  all_goals exact ⟨ret_bool (by rw [Bool.eq_iff_iff]; simp only [Lpm.isDay, decide_eq_true_eq, Bool.false_eq_true, false_iff]; omega), hb⟩

include hl hB in
set_option maxHeartbeats 1000000 in
theorem Offset_c {t : Int} (hn : n ≤ 110) (hb : Below w0.heap.size w0 w) : Calls Tryd.prog 57 #[.slice A n c, .int .i64 t] w (RetB (.tuple #[.int .i64 (Lpm.oV l t), .int .i64 (Lpm.dE l t)]) w0) := by
  by_cases hr : Lpm.valid l = true ∧ 0 ≤ t ∧ t ≤ 3000000000000000
  · obtain ⟨hv, h0, h1⟩ := hr
    by_cases hf : 34000 < Lpm.dayNo l t
    · obtain ⟨z1, z2, z3⟩ := Lpm.d_far hv h0 h1 hf
      have hz := Lib.hid (And.intro z1 z3)
      clear z3
      go_enter Tryd.func57, Tryd.ntmps57
      go_wp2_with (first | (go_at_call 37; refine (Day_c hl hB hn (by assumption)).mono ?_; rintro e w1 ⟨rfl, hb⟩))
      go_ret2
      exact ⟨ret_two hz.out.2.symm hz.out.1.symm, by assumption⟩
    · obtain ⟨z1, z2, z3⟩ := Lpm.d_yes hv h0 h1 (by omega)
      have hz := Lib.hid (And.intro z1 z3)
      clear z3
      go_enter Tryd.func57, Tryd.ntmps57
      go_wp2_with (first | (go_at_call 37; refine (Day_c hl hB hn (by assumption)).mono ?_; rintro e w1 ⟨rfl, hb⟩) | (go_at_call 60; refine (offset_c hl hB hv (by assumption)).mono ?_; rintro e w1 ⟨rfl, hb⟩))
      go_ret2
      exact ⟨ret_two hz.out.2.symm hz.out.1.symm, by assumption⟩
  · obtain ⟨z1, z2, z3⟩ := Lpm.d_no hr
    have hz := Lib.hid (And.intro z1 z3)
    clear z3
    go_enter Tryd.func57, Tryd.ntmps57
    go_wp2_with (first | (go_at_call 37; refine (Day_c hl hB hn (by assumption)).mono ?_; rintro e w1 ⟨rfl, hb⟩))
    go_ret2
    exact ⟨ret_two hz.out.2.symm hz.out.1.symm, by assumption⟩

include hl hB in
set_option maxHeartbeats 1000000 in
theorem refStart_c {day : Int} (hn : n ≤ 110) (hb : Below w0.heap.size w0 w) : Calls Tryd.prog 56 #[.slice A n c, .int .i64 day] w (RetB (.tuple #[.int .i64 (Lpm.stV l day), .int .i64 (Lpm.stE l day)]) w0) := by
  by_cases hr : Lpm.valid l = true ∧ 0 ≤ day ∧ day ≤ 34000
  · obtain ⟨hv, h0, h1⟩ := hr
    have hz := Lib.hid (Lpm.st_yes hv h0 h1)
    have hb0 := Lpm.start_bd (a := day) hv
    have hb1 := Lpm.start_bd (a := day + 1) hv
    have hd : Lpm.isDay day = true := by simp [Lpm.isDay, h0, h1]
    go_enter Tryd.func56, Tryd.ntmps56
    go_wp2_with (first | (go_at_call 7; refine (refValid_c hl hB hn (by assumption)).mono ?_; rintro e w1 ⟨rfl, hb⟩) | (go_at_call 74; refine (isDay_c (by assumption)).mono ?_; rintro e w1 ⟨rfl, hb⟩) | (go_at_call 75; refine (refBegin_c hl hB hv (by omega) (by omega) (by assumption)).mono ?_; rintro e w1 ⟨rfl, hb⟩))
    go_ret2
    exact ⟨ret_two hz.out.2.1.symm hz.out.1.symm, by assumption⟩
  · have hz := Lib.hid (Lpm.st_no hr)
    cases hv : Lpm.valid l
    · cases hd : Lpm.isDay day
      all_goals
        go_enter Tryd.func56, Tryd.ntmps56
        go_wp2_with (first | (go_at_call 7; refine (refValid_c hl hB hn (by assumption)).mono ?_; rintro e w1 ⟨rfl, hb⟩) | (go_at_call 74; refine (isDay_c (by assumption)).mono ?_; rintro e w1 ⟨rfl, hb⟩))
        go_ret2
        exact ⟨ret_two hz.out.2.1.symm hz.out.1.symm, by assumption⟩
    · have hd : Lpm.isDay day = false := by simp [hv] at hr; simp [Lpm.isDay]; omega
      go_enter Tryd.func56, Tryd.ntmps56
      go_wp2_with (first | (go_at_call 7; refine (refValid_c hl hB hn (by assumption)).mono ?_; rintro e w1 ⟨rfl, hb⟩) | (go_at_call 74; refine (isDay_c (by assumption)).mono ?_; rintro e w1 ⟨rfl, hb⟩))
      go_ret2
      exact ⟨ret_two hz.out.2.1.symm hz.out.1.symm, by assumption⟩

include hl hB in


end
end Go.Proofs.YtcnenkhgbifmmaaDoor
