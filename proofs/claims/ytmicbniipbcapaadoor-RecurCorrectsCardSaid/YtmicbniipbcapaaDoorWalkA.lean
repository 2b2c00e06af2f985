/- The contracts of package calendar's small functions and of the reference's: each returns the plain function of its arguments, and the world stays as it was. Condition: the table of lengths lies in memory as the program's text lays it (for calendar's own). -/
import Derived.Test.YtmicbniipbcapaaDoorRows
import Derived.Test.YtmicbniipbcapaaDoorMath
import Derived.Test.YtmicbniipbcapaaDoorLpA
import Derived.WalkKit
import Derived.WalkSpells
import Derived.WalkLawsBesides
import Derived.Lib.Hide
set_option linter.unusedVariables false
namespace Go.Proofs.YtmicbniipbcapaaDoor
open Go.RowKit

/-- the call returns v and leaves the world alone -/
def Ret (v : Value) (w : World) (e : Ending) (w' : World) : Prop := e = .returned v ∧ w = w'


/-- the table of lengths, cell by cell -/
def Cal.base (i : Nat) : Int := if i = 1 then 28 else if i = 3 ∨ i = 5 ∨ i = 8 ∨ i = 10 then 30 else 31
def Tab (w : World) : Prop := ∀ i : Nat, i < 12 → w.cell? ⟨0, i, none⟩ = some (.int .i64 (Cal.base i))

theorem ret_ii {a b c d : Int} (h : a = c) (h' : b = d) : Ending.returned (.tuple #[.int .i64 a, .int .i64 b]) = .returned (.tuple #[.int .i64 c, .int .i64 d]) := by rw [h, h']

theorem base_len (m : Int) (h1 : 1 ≤ m) (h2 : m ≤ 12) (y : Int) : Cal.len y m = Cal.base (m.toNat - 1) + (if m = 2 ∧ y % 4 = 0 then 1 else 0) := by
  rcases Cal.month_cases h1 h2 with rfl | rfl | rfl | rfl | rfl | rfl | rfl | rfl | rfl | rfl | rfl | rfl <;> simp [Cal.len, Cal.base, Cal.lp]
theorem base_bd (i : Nat) : 28 ≤ Cal.base i ∧ Cal.base i ≤ 31 := by
  unfold Cal.base
  repeat' split
  all_goals omega

set_option maxHeartbeats 400000 in
theorem length_any (y m : Int) (w : World) (ht : Tab w) (hy : 2000 ≤ y) (h1 : 1 ≤ m) (h2 : m ≤ 12) :
    Calls Tryd.prog 68 #[.int .i64 y, .int .i64 m] w (Ret (.int .i64 (Cal.len y m)) w) := by
  have hc := ht (m.toNat - 1) (by omega)
  have hb := base_bd (m.toNat - 1)
  have HL := Lib.hid (base_len m h1 h2 y)
  clear ht
  by_cases e : m = 2
  · subst e
    have hc1 : w.cell? ⟨0, 1, none⟩ = some (.int .i64 28) := hc
    clear hc hb
    go_enter Tryd.func68, Tryd.ntmps68
    go_wp2
    all_goals go_ret
    · have h4 : (y % 4 == 0) = true := by assumption
      exact ⟨ret_int (by rw [HL.out, if_pos (by simpa using h4)]; rfl), rfl⟩
    · have h4 : (y % 4 == 0) = false := by assumption
      exact ⟨ret_int (by rw [HL.out, if_neg (by simpa using h4)]; rfl), rfl⟩
  · have e' : (m == 2) = false := by simpa using e
    go_enter Tryd.func68, Tryd.ntmps68
    go_wp2
    go_ret
    exact ⟨ret_int (by rw [HL.out, if_neg (by omega)]; omega), rfl⟩

set_option maxHeartbeats 400000 in
theorem isMonth_any (y m : Int) (w : World) :
    Calls Tryd.prog 70 #[.int .i64 y, .int .i64 m] w (Ret (.bool (Cal.monB y m)) w) := by
  go_enter Tryd.func70, Tryd.ntmps70
  go_wp2
  all_goals go_ret
  all_goals exact ⟨ret_bool (by rw [Bool.eq_iff_iff]; simp only [Cal.monB, decide_eq_true_eq, Bool.false_eq_true, false_iff]; omega), rfl⟩
set_option maxHeartbeats 400000 in
theorem refMonth_any (y m : Int) (w : World) :
    Calls Tryd.prog 77 #[.int .i64 y, .int .i64 m] w (Ret (.bool (Cal.monB y m)) w) := by
  go_enter Tryd.func77, Tryd.ntmps77
  go_wp2
  all_goals go_ret
  all_goals exact ⟨ret_bool (by rw [Bool.eq_iff_iff]; simp only [Cal.monB, decide_eq_true_eq, Bool.false_eq_true, false_iff]; omega), rfl⟩
set_option maxHeartbeats 400000 in
theorem refLength_any (y m : Int) (w : World) (hy : 2000 ≤ y) :
    Calls Tryd.prog 76 #[.int .i64 y, .int .i64 m] w (Ret (.int .i64 (Cal.len y m)) w) := by
  go_enter Tryd.func76, Tryd.ntmps76
  go_wp2
  all_goals go_ret
  all_goals exact ⟨ret_int (by simp only [Cal.len, Cal.lp]; simp_all <;> omega), rfl⟩
theorem weekday_any (n : Int) (w : World) (h0 : 0 ≤ n) (h1 : n ≤ 100000) :
    Calls Tryd.prog 69 #[.int .i64 n] w (Ret (.int .i64 ((n + 5) % 7)) w) := by
  go_enter Tryd.func69, Tryd.ntmps69
  go_wp2
  go_ret
  exact ⟨rfl, rfl⟩
set_option maxHeartbeats 400000 in
theorem first_any (y m : Int) (w : World) (ht : Tab w) (hy : 2000 ≤ y) (hy2 : y ≤ 2093) (h1 : 1 ≤ m) (h2 : m ≤ 12) :
    Calls Tryd.prog 71 #[.int .i64 y, .int .i64 m] w (Ret (.int .i64 (Cal.fst y m)) w) := by
  go_enter Tryd.func71, Tryd.ntmps71
  go_wp2
  go_loop [5, 6] (fun n i => ∃ k : Int, 1 ≤ k ∧ k ≤ m ∧ i = .int .i64 k ∧ n = .int .i64 (Cal.fst y k)) (fun _ i => (m - intOf i).toNat)
  case atStart => exact ⟨1, by omega, by omega, rfl, by unfold Cal.fst; rw [Cal.cum_one, Int.add_zero]⟩
  case round =>
    obtain ⟨k, hk1, hk2, rfl, rfl⟩ := hrel
    have hb := Cal.fst_bd y k hy hy2
    have hl := Cal.len_bd y k
    by_cases hlt : k < m
    · have HS := Lib.hid (Cal.fst_succ y k hk1 (by omega))
      go_wp2_with (go_at_call 68; refine (length_any _ _ _ ht (by omega) (by omega) (by omega)).mono ?_; rintro e w' ⟨rfl, rfl⟩)
      go_round
      case rel => exact ⟨k + 1, by omega, by omega, rfl, by rw [HS.out]⟩
      case measure => simp [intOf]; omega
    · go_wp2
      go_ret
      obtain rfl : k = m := by omega
      exact ⟨rfl, rfl⟩
end Go.Proofs.YtmicbniipbcapaaDoor
