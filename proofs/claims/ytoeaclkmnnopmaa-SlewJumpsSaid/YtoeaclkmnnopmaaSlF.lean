/- The contracts of the reference's Part and of the laws' abs; arguments that are clocks, opened. -/
import Derived.Test.YtoeaclkmnnopmaaSlE
import Derived.ProofKit
import Derived.OpenShut
import Derived.Lib.SmallJoins
set_option linter.unusedVariables false
namespace Go.Proofs.Ytoeaclkmnnopmaa
open Go.RowKit Go.ChangeShapes Go.WideShapes
set_option maxHeartbeats 400000 in
theorem down_any (x : Int) (w : World) (h1 : -100000000000000000 ≤ x) (h2 : x ≤ 100000000000000000) : Calls Try.prog 18 #[.int .i64 x, .int .i64 1000000000] w (Ret (.int .i64 (x / 1000000000)) w) := by
  have hw := Scm.tdiv_ways (a := x) (d := 1000000000) (by omega)
  have q1 : -100000000 ≤ x / 1000000000 := by omega
  have q2 : x / 1000000000 ≤ 100000000 := by omega
  have m1 : 0 ≤ x % 1000000000 := by omega
  have m2 : x % 1000000000 < 1000000000 := by omega
  generalize x / 1000000000 = Q at *
  generalize x % 1000000000 = R at *
  rcases hw with ⟨t0, t1, t2⟩ | ⟨t0, t1, t2⟩
  all_goals
    go_enter Try.func18, Try.ntmps18
    go_wp2
    go_ret
    exact ⟨ret_int (by omega), rfl⟩
set_option maxHeartbeats 400000 in
theorem part_any (n r : Int) (w : World) (n1 : 0 ≤ n) (n2 : n ≤ 3000000000000000) (r1 : -100000000 ≤ r) (r2 : r ≤ 100000000) : Calls Try.prog 11 #[.int .i64 n, .int .i64 r] w (RetB (.int .i64 (Slm.part n r)) w) := by
  have hs : Hid (Slm.part n r = n / 1000000000 * r + n % 1000000000 * r / 1000000000) := Lib.hid (by unfold Slm.part; exact (Scm.split_eq (by omega)).1)
  have q1 : 0 ≤ n / 1000000000 := by omega
  have q2 : n / 1000000000 ≤ 3000000 := by omega
  have m1 : 0 ≤ n % 1000000000 := by omega
  have m2 : n % 1000000000 ≤ 999999999 := by omega
  have ht1 : n.tdiv 1000000000 = n / 1000000000 := Int.tdiv_eq_ediv_of_nonneg n1
  have ht2 : n.tmod 1000000000 = n % 1000000000 := Int.tmod_eq_emod_of_nonneg n1
  generalize n / 1000000000 = Q at *
  generalize n % 1000000000 = R at *
  have b1 : -(3000000 * 100000000) ≤ Q * r ∧ Q * r ≤ 3000000 * 100000000 := by
    have e1 := Int.mul_le_mul_of_nonneg_left r1 q1
    have e2 := Int.mul_le_mul_of_nonneg_left r2 q1
    omega
  have b2 : -(999999999 * 100000000) ≤ R * r ∧ R * r ≤ 999999999 * 100000000 := by
    have e1 := Int.mul_le_mul_of_nonneg_left r1 m1
    have e2 := Int.mul_le_mul_of_nonneg_left r2 m1
    omega
  obtain ⟨X, hX⟩ : ∃ x, Q * r = x := ⟨_, rfl⟩
  obtain ⟨Y, hY⟩ : ∃ x, R * r = x := ⟨_, rfl⟩
  rw [hX] at b1 hs
  rw [hY] at b2 hs
  have b3 : -100000000 ≤ Y / 1000000000 := by omega
  have b4 : Y / 1000000000 ≤ 100000000 := by omega
  go_enter Try.func11, Try.ntmps11
  go_wp2_with (go_at_call 18; refine (down_any _ _ (by omega) (by omega)).mono ?_; rintro e w' ⟨rfl, rfl⟩)
  go_ret
  exact ⟨ret_int (by rw [hs.out]), Below.refl _ _⟩
def ab (n : Int) : Int := if n < 0 then -n else n
theorem ab_bd {n B : Int} (h1 : -B ≤ n) (h2 : n ≤ B) : 0 ≤ ab n ∧ ab n ≤ B := by unfold ab; split <;> omega
theorem abs_any (n : Int) (w : World) (h1 : -9000000000000000000 ≤ n) (h2 : n ≤ 9000000000000000000) : Calls Try.prog 14 #[.int .i64 n] w (Ret (.int .i64 (ab n)) w) := by
  have hs : Hid (ab n = if n < 0 then -n else n) := Lib.hid rfl
  by_cases h : n < 0
  · rw [if_pos h] at hs
    go_enter Try.func14, Try.ntmps14
    go_wp2
    all_goals go_ret
    all_goals exact ⟨ret_int (by rw [hs.out] <;> omega), rfl⟩
  · rw [if_neg h] at hs
    go_enter Try.func14, Try.ntmps14
    go_wp2
    all_goals go_ret
    all_goals exact ⟨ret_int (by rw [hs.out] <;> omega), rfl⟩
theorem head0 {w : World} {o : Obj} : Calls Try.prog 9 #[] (w.alloc o) (RetB (.bool true) (w.alloc o)) := head_any _

/-- an argument that is a clock -/
def IsO3 (v : Value) (x : Int × Int × Int) : Prop := v = O3 x.1 x.2.1 x.2.2
theorem cellsOut : Try.prog.cellsOf 23 = 3 := by kernel_rfl
theorem open_out {H : Type} {enc : TypeId × Value → H} {W : World} {base b0 : Nat} {r : Reach} {sp : Nat → Bool} {hd : Bool} {v : Value} {d : DataW H} {p : List MemPlace}
    (hv : Value.okWide Try.prog W r b0 23 v) (h : DataW.Trod enc Try.prog W base sp hd 23 v d p) : ∃ x, IsO3 v x := by
  obtain ⟨c0, c1, c2, y0, y1, y2, m, rfl, rfl, rfl, h0, h1, h2⟩ := Go.Joins.open_agg3 Try.underlying23 (by kernel_rfl) cellsOut hv h
  obtain ⟨a, e0, _, _⟩ := DataW.trod_int Try.underlying3 h0
  obtain ⟨b, e1, _, _⟩ := DataW.trod_int Try.underlying3 h1
  obtain ⟨c, e2, _, _⟩ := DataW.trod_int Try.underlying3 h2
  simp at e0 e1 e2
  subst e0 e1 e2
  exact ⟨(a, b, c), rfl⟩
end Go.Proofs.Ytoeaclkmnnopmaa
