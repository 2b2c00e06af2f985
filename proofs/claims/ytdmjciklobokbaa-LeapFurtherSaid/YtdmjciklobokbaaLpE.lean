/- Contracts of Offset and of the reference's functions; and all contracts in a form that chains: whatever lay in a first world lies as it lay. -/
import Derived.Test.YtdmjciklobokbaaLpD
set_option linter.unusedVariables false
namespace Go.Proofs.Ytdmjciklobokbaa
open Go.RowKit

theorem chain {P : Program} {f : FuncId} {args : Array Value} {v : Value} {w0 w : World} (hb : Below w0.heap.size w0 w) (h : Calls P f args w (RetB v w)) : Calls P f args w (RetB v w0) :=
  h.mono fun _ _ ⟨he, hw⟩ => ⟨he, hb.trans (hw.mono hb.size)⟩
section
variable {B : Nat} {A : Option Addr} {n c : Nat} {l : Lpm.LL} {w0 w : World} (hl : Lp B w0 A n l) (hB : B ≤ w0.heap.size)
include hl hB in
theorem valid_c (hn : n ≤ 110) (hb : Below w0.heap.size w0 w) : Calls Try.prog 14 #[.slice A n c] w (RetB (.bool (Lpm.valid l)) w0) :=
  chain hb (valid_any B A n c l w (hl.below (hb.mono hB)) (Nat.le_trans hB hb.size) hn)
include hl hB in
theorem refValid_c (hn : n ≤ 110) (hb : Below w0.heap.size w0 w) : Calls Try.prog 15 #[.slice A n c] w (RetB (.bool (Lpm.valid l)) w0) :=
  chain hb (refValid_any B A n c l w (hl.below (hb.mono hB)) (Nat.le_trans hB hb.size) hn)
include hl hB in
theorem Start_c {day : Int} (hn : n ≤ 110) (hb : Below w0.heap.size w0 w) : Calls Try.prog 12 #[.slice A n c, .int .i64 day] w (RetB (.tuple #[.int .i64 (Lpm.stV l day), .int .i64 (Lpm.stE l day)]) w0) :=
  chain hb (Start_any B A n c l day w (hl.below (hb.mono hB)) (Nat.le_trans hB hb.size) hn)
include hl hB in
theorem Length_c {day : Int} (hn : n ≤ 110) (hb : Below w0.heap.size w0 w) : Calls Try.prog 16 #[.slice A n c, .int .i64 day] w (RetB (.tuple #[.int .i64 (Lpm.leV l day), .int .i64 (Lpm.stE l day)]) w0) :=
  chain hb (Length_any B A n c l day w (hl.below (hb.mono hB)) (Nat.le_trans hB hb.size) hn)
include hl hB in
theorem Day_c {t : Int} (hn : n ≤ 110) (hb : Below w0.heap.size w0 w) : Calls Try.prog 18 #[.slice A n c, .int .i64 t] w (RetB (.tuple #[.int .i64 (Lpm.dV l t), .int .i64 (Lpm.dE l t)]) w0) :=
  chain hb (Day_any B A n c l t w (hl.below (hb.mono hB)) (Nat.le_trans hB hb.size) hn)
include hl hB in
theorem offset_c {day : Int} (hv : Lpm.valid l = true) (hb : Below w0.heap.size w0 w) : Calls Try.prog 29 #[.slice A n c, .int .i64 day] w (RetB (.int .i64 (Lpm.ofs l day)) w0) :=
  chain hb (offset_any B A n c l day w (hl.below (hb.mono hB)) (Nat.le_trans hB hb.size) hv)
include hl hB in
theorem refSum_c {day : Int} (hv : Lpm.valid l = true) (hb : Below w0.heap.size w0 w) : Calls Try.prog 30 #[.slice A n c, .int .i64 day] w (RetB (.int .i64 (Lpm.ofs l day)) w0) :=
  chain hb (refSum_any B A n c l day w (hl.below (hb.mono hB)) hv)
include hl hB in
theorem refBegin_c {day : Int} (hv : Lpm.valid l = true) (h0 : 0 ≤ day) (h1 : day ≤ 40000) (hb : Below w0.heap.size w0 w) : Calls Try.prog 26 #[.slice A n c, .int .i64 day] w (RetB (.int .i64 (Lpm.start l day)) w0) :=
  chain hb (refBegin_any B A n c l day w (hl.below (hb.mono hB)) (Nat.le_trans hB hb.size) hv h0 h1)

theorem isDay_c {day : Int} (hb : Below w0.heap.size w0 w) : Calls Try.prog 25 #[.int .i64 day] w (RetB (.bool (Lpm.isDay day)) w0) := by
  go_enter Try.func25, Try.ntmps25
  go_wp2
  all_goals go_ret
  all_goals exact ⟨ret_bool (by rw [Bool.eq_iff_iff]; simp only [Lpm.isDay, decide_eq_true_eq, Bool.false_eq_true, false_iff]; omega), hb⟩

include hl hB in
set_option maxHeartbeats 1000000 in
theorem Offset_c {t : Int} (hn : n ≤ 110) (hb : Below w0.heap.size w0 w) : Calls Try.prog 20 #[.slice A n c, .int .i64 t] w (RetB (.tuple #[.int .i64 (Lpm.oV l t), .int .i64 (Lpm.dE l t)]) w0) := by
  by_cases hr : Lpm.valid l = true ∧ 0 ≤ t ∧ t ≤ 3000000000000000
  · obtain ⟨hv, h0, h1⟩ := hr
    by_cases hf : 34000 < Lpm.dayNo l t
    · obtain ⟨z1, z2, z3⟩ := Lpm.d_far hv h0 h1 hf
      have hz := Lib.hid (And.intro z1 z3)
      clear z3
      go_enter Try.func20, Try.ntmps20
      go_wp2_with (first | (go_at_call 18; refine (Day_c hl hB hn (by assumption)).mono ?_; rintro e w1 ⟨rfl, hb⟩))
      go_ret2
      exact ⟨ret_two hz.out.2.symm hz.out.1.symm, by assumption⟩
    · obtain ⟨z1, z2, z3⟩ := Lpm.d_yes hv h0 h1 (by omega)
      have hz := Lib.hid (And.intro z1 z3)
      clear z3
      go_enter Try.func20, Try.ntmps20
      go_wp2_with (first | (go_at_call 18; refine (Day_c hl hB hn (by assumption)).mono ?_; rintro e w1 ⟨rfl, hb⟩) | (go_at_call 29; refine (offset_c hl hB hv (by assumption)).mono ?_; rintro e w1 ⟨rfl, hb⟩))
      go_ret2
      exact ⟨ret_two hz.out.2.symm hz.out.1.symm, by assumption⟩
  · obtain ⟨z1, z2, z3⟩ := Lpm.d_no hr
    have hz := Lib.hid (And.intro z1 z3)
    clear z3
    go_enter Try.func20, Try.ntmps20
    go_wp2_with (first | (go_at_call 18; refine (Day_c hl hB hn (by assumption)).mono ?_; rintro e w1 ⟨rfl, hb⟩))
    go_ret2
    exact ⟨ret_two hz.out.2.symm hz.out.1.symm, by assumption⟩

include hl hB in
set_option maxHeartbeats 1000000 in
theorem refStart_c {day : Int} (hn : n ≤ 110) (hb : Below w0.heap.size w0 w) : Calls Try.prog 13 #[.slice A n c, .int .i64 day] w (RetB (.tuple #[.int .i64 (Lpm.stV l day), .int .i64 (Lpm.stE l day)]) w0) := by
  by_cases hr : Lpm.valid l = true ∧ 0 ≤ day ∧ day ≤ 34000
  · obtain ⟨hv, h0, h1⟩ := hr
    have hz := Lib.hid (Lpm.st_yes hv h0 h1)
    have hb0 := Lpm.start_bd (a := day) hv
    have hb1 := Lpm.start_bd (a := day + 1) hv
    have hd : Lpm.isDay day = true := by simp [Lpm.isDay, h0, h1]
    go_enter Try.func13, Try.ntmps13
    go_wp2_with (first | (go_at_call 15; refine (refValid_c hl hB hn (by assumption)).mono ?_; rintro e w1 ⟨rfl, hb⟩) | (go_at_call 25; refine (isDay_c (by assumption)).mono ?_; rintro e w1 ⟨rfl, hb⟩) | (go_at_call 26; refine (refBegin_c hl hB hv (by omega) (by omega) (by assumption)).mono ?_; rintro e w1 ⟨rfl, hb⟩))
    go_ret2
    exact ⟨ret_two hz.out.2.1.symm hz.out.1.symm, by assumption⟩
  · have hz := Lib.hid (Lpm.st_no hr)
    cases hv : Lpm.valid l
    · cases hd : Lpm.isDay day
      all_goals
        go_enter Try.func13, Try.ntmps13
        go_wp2_with (first | (go_at_call 15; refine (refValid_c hl hB hn (by assumption)).mono ?_; rintro e w1 ⟨rfl, hb⟩) | (go_at_call 25; refine (isDay_c (by assumption)).mono ?_; rintro e w1 ⟨rfl, hb⟩))
        go_ret2
        exact ⟨ret_two hz.out.2.1.symm hz.out.1.symm, by assumption⟩
    · have hd : Lpm.isDay day = false := by simp [hv] at hr; simp [Lpm.isDay]; omega
      go_enter Try.func13, Try.ntmps13
      go_wp2_with (first | (go_at_call 15; refine (refValid_c hl hB hn (by assumption)).mono ?_; rintro e w1 ⟨rfl, hb⟩) | (go_at_call 25; refine (isDay_c (by assumption)).mono ?_; rintro e w1 ⟨rfl, hb⟩))
      go_ret2
      exact ⟨ret_two hz.out.2.1.symm hz.out.1.symm, by assumption⟩

include hl hB in
set_option maxHeartbeats 1000000 in
theorem refLength_c {day : Int} (hn : n ≤ 110) (hb : Below w0.heap.size w0 w) : Calls Try.prog 17 #[.slice A n c, .int .i64 day] w (RetB (.tuple #[.int .i64 (Lpm.leV l day), .int .i64 (Lpm.stE l day)]) w0) := by
  by_cases hr : Lpm.valid l = true ∧ 0 ≤ day ∧ day ≤ 34000
  · obtain ⟨hv, h0, h1⟩ := hr
    have hz := Lib.hid (Lpm.st_yes hv h0 h1)
    have hb0 := Lpm.start_bd (a := day) hv
    have hb1 := Lpm.start_bd (a := day + 1) hv
    have hd : Lpm.isDay day = true := by simp [Lpm.isDay, h0, h1]
    go_enter Try.func17, Try.ntmps17
    go_wp2_with (first | (go_at_call 15; refine (refValid_c hl hB hn (by assumption)).mono ?_; rintro e w1 ⟨rfl, hb⟩) | (go_at_call 25; refine (isDay_c (by assumption)).mono ?_; rintro e w1 ⟨rfl, hb⟩) | (go_at_call 26; refine (refBegin_c hl hB hv (by omega) (by omega) (by assumption)).mono ?_; rintro e w1 ⟨rfl, hb⟩))
    go_ret2
    exact ⟨ret_two hz.out.2.2.symm hz.out.1.symm, by assumption⟩
  · have hz := Lib.hid (Lpm.st_no hr)
    cases hv : Lpm.valid l
    · cases hd : Lpm.isDay day
      all_goals
        go_enter Try.func17, Try.ntmps17
        go_wp2_with (first | (go_at_call 15; refine (refValid_c hl hB hn (by assumption)).mono ?_; rintro e w1 ⟨rfl, hb⟩) | (go_at_call 25; refine (isDay_c (by assumption)).mono ?_; rintro e w1 ⟨rfl, hb⟩))
        go_ret2
        exact ⟨ret_two hz.out.2.2.symm hz.out.1.symm, by assumption⟩
    · have hd : Lpm.isDay day = false := by simp [hv] at hr; simp [Lpm.isDay]; omega
      go_enter Try.func17, Try.ntmps17
      go_wp2_with (first | (go_at_call 15; refine (refValid_c hl hB hn (by assumption)).mono ?_; rintro e w1 ⟨rfl, hb⟩) | (go_at_call 25; refine (isDay_c (by assumption)).mono ?_; rintro e w1 ⟨rfl, hb⟩))
      go_ret2
      exact ⟨ret_two hz.out.2.2.symm hz.out.1.symm, by assumption⟩

include hl hB in
set_option maxHeartbeats 1000000 in
theorem refDay_c {t : Int} (hn : n ≤ 110) (hb : Below w0.heap.size w0 w) : Calls Try.prog 19 #[.slice A n c, .int .i64 t] w (RetB (.tuple #[.int .i64 (Lpm.dV l t), .int .i64 (Lpm.dE l t)]) w0) := by
  by_cases hr : Lpm.valid l = true ∧ 0 ≤ t ∧ t ≤ 3000000000000000
  · obtain ⟨hv, h0, h1⟩ := hr
    have hbd := Lpm.start_bd (a := 34001) hv
    by_cases hf : Lpm.start l 34001 ≤ t
    · have hz := Lib.hid (Lpm.d_far hv h0 h1 (by rw [Lpm.dayNo_out hv hf]; omega))
      go_enter Try.func19, Try.ntmps19
      go_wp2_with (first | (go_at_call 15; refine (refValid_c hl hB hn (by assumption)).mono ?_; rintro e w1 ⟨rfl, hb⟩) | (go_at_call 26; refine (refBegin_c hl hB hv (by omega) (by omega) (by assumption)).mono ?_; rintro e w1 ⟨rfl, hb⟩))
      go_ret2
      exact ⟨ret_two hz.out.2.1.symm hz.out.1.symm, by assumption⟩
    · obtain ⟨g1, g2, g3⟩ := Lpm.dayNo_in hv h0 (by omega)
      have g0 := (Lpm.dayNo_spec l t).1
      have hz := Lib.hid (Lpm.d_yes hv h0 h1 g1)
      have hlo := Lpm.start_bd (a := Lpm.dayNo l t) hv
      have hhi := Lpm.start_bd (a := Lpm.dayNo l t + 1) hv
      have hmono : Hid (∀ a b, a ≤ b → Lpm.start l a ≤ Lpm.start l b) := Lib.hid (fun a b h => Lpm.start_le hv h)
      obtain ⟨d, hd⟩ : ∃ d, Lpm.dayNo l t = d := ⟨_, rfl⟩
      rw [hd] at g0 g1 g2 g3 hlo hhi hz
      clear hd
      have hd0 : t / 86400000000 - 1 ≤ d := by omega
      have hd1 : d ≤ t / 86400000000 + 1 := by omega
      have d0 : decide (t < 0) = false := by simp; omega
      have d1 : decide (3000000000000000 < t) = false := by simp; omega
      have d2 : decide (Lpm.start l 34001 ≤ t) = false := by simp; omega
      clear hlo hhi
      go_enter Try.func19, Try.ntmps19
      go_wp2_with (first | (go_at_call 15; refine (refValid_c hl hB hn (by assumption)).mono ?_; rintro e w1 ⟨rfl, hb⟩) | (go_at_call 26; refine (refBegin_c hl hB hv (by omega) (by omega) (by assumption)).mono ?_; rintro e w1 ⟨rfl, hb⟩))
      all_goals
        go_loopw [8] (fun i wr => ∃ k : Int, 0 ≤ k ∧ k ≤ d ∧ i = .int .i64 k ∧ Below w0.heap.size w0 wr) (fun i _ => (d - intOf i).toNat)
        case atStart => exact ⟨_, by omega, by omega, rfl, by assumption⟩
        case round =>
          obtain ⟨k, k0, k1, rfl, hbk⟩ := hrel
          by_cases hkd : k = d
          · subst hkd
            go_wp2_with (first | (go_at_call 26; refine (refBegin_c hl hB hv (by omega) (by omega) (by assumption)).mono ?_; rintro e w1 ⟨rfl, hb⟩))
            go_ret2
            exact ⟨ret_two hz.out.2.1.symm hz.out.1.symm, by assumption⟩
          · have hs0 := hmono.out k d k1
            have hs1 := hmono.out (k + 1) d (by omega)
            go_wp2_with (first | (go_at_call 26; refine (refBegin_c hl hB hv (by omega) (by omega) (by assumption)).mono ?_; rintro e w1 ⟨rfl, hb⟩))
            go_roundw
            case rel => exact ⟨k + 1, by omega, by omega, rfl, by assumption⟩
            case measure => simp [intOf]; omega
  · have hz := Lib.hid (Lpm.d_no hr)
    have hcs : Lpm.valid l = false ∨ Lpm.valid l = true ∧ (t < 0 ∨ 0 ≤ t ∧ 3000000000000000 < t) := by
      cases hv : Lpm.valid l
      · exact .inl rfl
      · right; refine ⟨rfl, ?_⟩; simp [hv] at hr; omega
    clear hr
    rcases hcs with hv | ⟨hv, h | ⟨h, h'⟩⟩
    all_goals
      go_enter Try.func19, Try.ntmps19
      go_wp2_with (first | (go_at_call 15; refine (refValid_c hl hB hn (by assumption)).mono ?_; rintro e w1 ⟨rfl, hb⟩))
      go_ret2
      exact ⟨ret_two hz.out.2.1.symm hz.out.1.symm, by assumption⟩

include hl hB in
set_option maxHeartbeats 1000000 in
theorem refOffset_c {t : Int} (hn : n ≤ 110) (hb : Below w0.heap.size w0 w) : Calls Try.prog 21 #[.slice A n c, .int .i64 t] w (RetB (.tuple #[.int .i64 (Lpm.oV l t), .int .i64 (Lpm.dE l t)]) w0) := by
  by_cases hr : Lpm.valid l = true ∧ 0 ≤ t ∧ t ≤ 3000000000000000
  · obtain ⟨hv, h0, h1⟩ := hr
    by_cases hf : 34000 < Lpm.dayNo l t
    · obtain ⟨z1, z2, z3⟩ := Lpm.d_far hv h0 h1 hf
      have hz := Lib.hid (And.intro z1 z3)
      clear z3
      go_enter Try.func21, Try.ntmps21
      go_wp2_with (first | (go_at_call 19; refine (refDay_c hl hB hn (by assumption)).mono ?_; rintro e w1 ⟨rfl, hb⟩))
      go_ret2
      exact ⟨ret_two hz.out.2.symm hz.out.1.symm, by assumption⟩
    · obtain ⟨z1, z2, z3⟩ := Lpm.d_yes hv h0 h1 (by omega)
      have hz := Lib.hid (And.intro z1 z3)
      clear z3
      go_enter Try.func21, Try.ntmps21
      go_wp2_with (first | (go_at_call 19; refine (refDay_c hl hB hn (by assumption)).mono ?_; rintro e w1 ⟨rfl, hb⟩) | (go_at_call 30; refine (refSum_c hl hB hv (by assumption)).mono ?_; rintro e w1 ⟨rfl, hb⟩))
      go_ret2
      exact ⟨ret_two hz.out.2.symm hz.out.1.symm, by assumption⟩
  · obtain ⟨z1, z2, z3⟩ := Lpm.d_no hr
    have hz := Lib.hid (And.intro z1 z3)
    clear z3
    go_enter Try.func21, Try.ntmps21
    go_wp2_with (first | (go_at_call 19; refine (refDay_c hl hB hn (by assumption)).mono ?_; rintro e w1 ⟨rfl, hb⟩))
    go_ret2
    exact ⟨ret_two hz.out.2.symm hz.out.1.symm, by assumption⟩
end
end Go.Proofs.Ytdmjciklobokbaa
