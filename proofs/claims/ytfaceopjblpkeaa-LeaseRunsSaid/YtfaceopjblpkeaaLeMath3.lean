/- Plain facts on the last end of the others' leases, and on a list with a lease of true time. No program in sight. -/
import Derived.Test.YtfaceopjblpkeaaLeMath2
set_option linter.unusedVariables false
namespace Go.Proofs.Ytfaceopjblpkeaa.Lem
/-- the last end of a lease that is another's -/
def last (who : Int) : List T3 → Int
  | [] => 0
  | x :: r => if x.1 ≠ who ∧ last who r < x.2.2 then x.2.2 else last who r
theorem last_cons (who : Int) (x : T3) (r : List T3) : last who (x :: r) = if x.1 ≠ who ∧ last who r < x.2.2 then x.2.2 else last who r := rfl
theorem last_nonneg (who : Int) (l : List T3) : 0 ≤ last who l := by
  induction l with
  | nil => exact Int.le_refl _
  | cons x r ih => rw [last_cons]; split <;> omega
theorem last_snoc (who : Int) (l : List T3) (x : T3) : last who (l ++ [x]) = if x.1 ≠ who then (if last who l < x.2.2 then x.2.2 else last who l) else last who l := by
  induction l with
  | nil =>
    rw [List.nil_append, last_cons]
    have h0 : last who [] = 0 := rfl
    by_cases h1 : x.1 = who <;> by_cases h2 : last who [] < x.2.2 <;> simp [h1, h2]
  | cons y r ih =>
    rw [List.cons_append, last_cons, last_cons, ih]
    by_cases h1 : x.1 = who <;> by_cases h2 : y.1 = who
    · simp [h1, h2]
    · simp [h1]
    · simp [h1, h2]
    · simp only [ne_eq, h1, h2, not_false_eq_true, true_and, if_true]
      repeat' split
      all_goals omega
theorem last_take {l : List T3} {k n : Nat} (who : Int) (h : l.length = n) (hk : k < n) : last who (l.take (k + 1)) = if (at' l k).1 ≠ who then (if last who (l.take k) < (at' l k).2.2 then (at' l k).2.2 else last who (l.take k)) else last who (l.take k) := by
  rw [take_snoc h hk, last_snoc]
theorem last_any (who b : Int) (hb : 0 ≤ b) (l : List T3) : l.any (blocks who b) = decide (b < last who l) := by
  induction l with
  | nil => rw [List.any_nil, eq_comm, decide_eq_false_iff_not]; show ¬ b < 0; omega
  | cons x r ih =>
    rw [List.any_cons, ih, Bool.eq_iff_iff]
    simp only [blocks, over, Bool.or_eq_true, Bool.and_eq_true, decide_eq_true_eq, Bool.not_eq_true', decide_eq_false_iff_not]
    rw [last_cons]
    split <;> omega
/-- what Grant answers where all but the others is in order -/
theorem grE_room {l : List T3} {h len lo hi : Int} (v : valid l = true) (hh : hB h = true) (l1 : 1 ≤ len) (i : iV lo hi = true) (r : lo + len ≤ 3000000000000000) (q : l.length ≤ 63) : grE l h len lo hi = if lo < last h l then 62 else 0 := by
  have hi := iV_bd i
  unfold grE grB
  rw [v, hh, i, decide_eq_true l1, decide_eq_true (show len ≤ 3000000000000000 by omega), if_pos (by rfl), if_neg (by omega), last_any h lo hi.1]
  by_cases c : lo < last h l
  · rw [decide_eq_true c, if_pos rfl, if_pos c]
  · rw [decide_eq_false c, if_neg (by simp), if_neg (by omega), if_neg c]
end Go.Proofs.Ytfaceopjblpkeaa.Lem
