/- Plain facts on division by two digits, and on the roundings of a product over a divisor. No program in sight. -/
set_option linter.unusedVariables false
namespace Go.Proofs.Ytlmdjkkeocmehaa.Scm

/-- what the steps of the long division give, where the divisor's low half is zero -/
theorem div_core {hi lo y S T : Int} (hS : 0 < S) (hST : S * T = 18446744073709551616) (h33 : ∃ k, S = 8589934592 * k) (hhi : 0 ≤ hi) (h : hi < y) (hyT : y < T) (hlo : 0 ≤ lo) (hlo2 : lo < 18446744073709551616) :
    ∃ Y Y1 V L L1 L0 Q1 P1 W2 Q0 P0 : Int, y * S = Y ∧ Y < 18446744073709551616 ∧ 0 ≤ Y ∧ Y / 4294967296 = Y1 ∧ Y % 4294967296 = 0 ∧ 1 ≤ Y1 ∧ Y1 < 4294967296 ∧
      hi * S + lo / T = V ∧ 0 ≤ V ∧ V < Y ∧ 0 ≤ lo / T ∧ lo / T < S ∧ 0 ≤ hi * S ∧ hi * S < 18446744073709551616 ∧
      lo * S % 18446744073709551616 = L ∧ 0 ≤ L ∧ L < 18446744073709551616 ∧ L / 4294967296 = L1 ∧ L % 4294967296 = L0 ∧
      V / Y1 = Q1 ∧ 0 ≤ Q1 ∧ Q1 < 4294967296 ∧ Q1 * Y1 = P1 ∧ 0 ≤ P1 ∧ P1 ≤ V ∧ V - P1 < Y1 ∧
      (V - P1) * 4294967296 + L1 = W2 ∧ 0 ≤ W2 ∧ W2 < 18446744073709551616 ∧ W2 / Y1 = Q0 ∧ 0 ≤ Q0 ∧ Q0 < 4294967296 ∧ Q0 * Y1 = P0 ∧ 0 ≤ P0 ∧ P0 ≤ W2 ∧ W2 - P0 < Y1 ∧
      Y = 4294967296 * Y1 ∧ Q1 * Y = 4294967296 * P1 ∧ Q0 * Y = 4294967296 * P0 ∧
      Q1 * 4294967296 + Q0 = (hi * 18446744073709551616 + lo) / y ∧ ((W2 - P0) * 4294967296 + L0) / S = (hi * 18446744073709551616 + lo) % y ∧
      0 ≤ (W2 - P0) * 4294967296 + L0 ∧ (W2 - P0) * 4294967296 + L0 < 18446744073709551616 := by
  obtain ⟨k, hk⟩ := h33
  have hy : 0 < y := by omega
  have hT : 0 < T := by
    rcases Int.lt_or_le 0 T with h | h
    · exact h
    · have : S * T ≤ S * 0 := Int.mul_le_mul_of_nonneg_left h (by omega)
      omega
  have hYlt : y * S < 18446744073709551616 := by
    have := Int.mul_lt_mul_of_pos_left hyT hS
    rw [Int.mul_comm] at this; rw [Int.mul_comm y S, ← hST]; rw [Int.mul_comm y S] at this; exact this
  have hYeq : y * S = 4294967296 * (2 * (k * y)) := by rw [hk, Int.mul_comm y, Int.mul_assoc]; omega
  have hkpos : 0 < k := by omega
  have hky : 0 < k * y := Int.mul_pos hkpos hy
  have hm0 : 0 ≤ lo / T := Int.ediv_nonneg hlo (by omega)
  have hm1 : lo / T < S := Int.ediv_lt_of_lt_mul hT (by rw [hST]; exact hlo2)
  have hhS : 0 ≤ hi * S := Int.mul_nonneg hhi (by omega)
  have hhy : hi * S + S ≤ y * S := by
    have : (hi + 1) * S ≤ y * S := Int.mul_le_mul_of_nonneg_right (by omega) (by omega)
    rw [Int.add_mul, Int.one_mul] at this; exact this
  have hloS : lo * S = lo / T * 18446744073709551616 + lo % T * S := by
    have e := Int.mul_ediv_add_emod lo T
    have : lo * S = (T * (lo / T) + lo % T) * S := by rw [e]
    rw [this, Int.add_mul, ← hST, Int.mul_comm T, Int.mul_assoc, Int.mul_comm T S]
  have hr0 : 0 ≤ lo % T * S := Int.mul_nonneg (Int.emod_nonneg _ (by omega)) (by omega)
  have hr1 : lo % T * S < 18446744073709551616 := by
    have := Int.mul_lt_mul_of_pos_right (Int.emod_lt_of_pos lo hT) hS
    rw [Int.mul_comm T S, hST] at this; exact this
  generalize hYd : y * S = Y at *
  generalize hY1 : 2 * (k * y) = Y1 at *
  generalize hM : lo / T = M at *
  generalize hH : hi * S = HS at *
  generalize hR : lo % T * S = R at *
  have hL : lo * S % 18446744073709551616 = R := by rw [hloS]; omega
  have hY1p : 1 ≤ Y1 := by omega
  have hq := Int.mul_ediv_add_emod (HS + M) Y1
  have hq0 := Int.emod_nonneg (HS + M) (show Y1 ≠ 0 by omega)
  have hq1 := Int.emod_lt_of_pos (HS + M) (show 0 < Y1 by omega)
  have hQ1 : (HS + M) / Y1 < 4294967296 := Int.ediv_lt_of_lt_mul (by omega) (by omega)
  have hQ1' : 0 ≤ (HS + M) / Y1 := Int.ediv_nonneg (by omega) (by omega)
  generalize hQ1d : (HS + M) / Y1 = Q1 at *
  generalize hR1d : (HS + M) % Y1 = R1 at *
  have hP1 : Q1 * Y1 = HS + M - R1 := by rw [Int.mul_comm]; omega
  have hq2 := Int.mul_ediv_add_emod (R1 * 4294967296 + R / 4294967296) Y1
  have hq3 := Int.emod_nonneg (R1 * 4294967296 + R / 4294967296) (show Y1 ≠ 0 by omega)
  have hq4 := Int.emod_lt_of_pos (R1 * 4294967296 + R / 4294967296) (show 0 < Y1 by omega)
  have hQ0 : (R1 * 4294967296 + R / 4294967296) / Y1 < 4294967296 := Int.ediv_lt_of_lt_mul (by omega) (by omega)
  have hQ0' : 0 ≤ (R1 * 4294967296 + R / 4294967296) / Y1 := Int.ediv_nonneg (by omega) (by omega)
  generalize hQ0d : (R1 * 4294967296 + R / 4294967296) / Y1 = Q0 at *
  generalize hR0d : (R1 * 4294967296 + R / 4294967296) % Y1 = R0 at *
  have hP0 : Q0 * Y1 = R1 * 4294967296 + R / 4294967296 - R0 := by rw [Int.mul_comm]; omega
  -- the whole: U * S = q * Y + rest
  have hUS : (hi * 18446744073709551616 + lo) * S = (HS + M) * 18446744073709551616 + R := by
    rw [Int.add_mul, hloS, Int.mul_assoc, Int.mul_comm 18446744073709551616 S, ← Int.mul_assoc, hH]; omega
  have hqY : (Q1 * 4294967296 + Q0) * Y = 18446744073709551616 * (Q1 * Y1) + 4294967296 * (Q0 * Y1) := by
    rw [hYeq, Int.add_mul]
    have a1 : Q1 * 4294967296 * (4294967296 * Y1) = 18446744073709551616 * (Q1 * Y1) := by
      rw [Int.mul_assoc, ← Int.mul_assoc 4294967296 4294967296 Y1, ← Int.mul_assoc, Int.mul_comm Q1, Int.mul_assoc]; rfl
    have a2 : Q0 * (4294967296 * Y1) = 4294967296 * (Q0 * Y1) := by rw [← Int.mul_assoc, Int.mul_comm Q0, Int.mul_assoc]
    rw [a1, a2]
  have hrest : (hi * 18446744073709551616 + lo) * S - (Q1 * 4294967296 + Q0) * Y = R0 * 4294967296 + R % 4294967296 := by rw [hUS, hqY, hP1, hP0]; omega
  have hbr0 : 0 ≤ R0 * 4294967296 + R % 4294967296 := by omega
  have hbr1 : R0 * 4294967296 + R % 4294967296 < Y := by omega
  have hfac : (hi * 18446744073709551616 + lo) * S - (Q1 * 4294967296 + Q0) * Y = (hi * 18446744073709551616 + lo - (Q1 * 4294967296 + Q0) * y) * S := by
    rw [Int.sub_mul, ← hYd, ← Int.mul_assoc]
  rw [hfac] at hrest
  generalize hD : hi * 18446744073709551616 + lo - (Q1 * 4294967296 + Q0) * y = D at *
  have hD0 : 0 ≤ D := by
    rcases Int.lt_or_le D 0 with hn | hn
    · have := Int.mul_neg_of_neg_of_pos hn hS; omega
    · exact hn
  have hD1 : D < y := by
    rcases Int.lt_or_le D y with hn | hn
    · exact hn
    · have := Int.mul_le_mul_of_nonneg_right hn (show 0 ≤ S by omega); omega
  have huniq := (Int.ediv_emod_unique (a := hi * 18446744073709551616 + lo) (b := y) (q := Q1 * 4294967296 + Q0) (r := D) hy).2 ⟨by rw [Int.mul_comm y]; omega, hD0, hD1⟩
  have e1 : Q1 * Y = 4294967296 * (Q1 * Y1) := by rw [hYeq, ← Int.mul_assoc, Int.mul_comm Q1, Int.mul_assoc]
  have e0 : Q0 * Y = 4294967296 * (Q0 * Y1) := by rw [hYeq, ← Int.mul_assoc, Int.mul_comm Q0, Int.mul_assoc]
  have hP1n : 0 ≤ Q1 * Y1 := Int.mul_nonneg hQ1' (by omega)
  have hP0n : 0 ≤ Q0 * Y1 := Int.mul_nonneg hQ0' (by omega)
  refine ⟨Y, Y1, HS + M, R, R / 4294967296, R % 4294967296, Q1, Q1 * Y1, R1 * 4294967296 + R / 4294967296, Q0, Q0 * Y1, rfl, hYlt, by omega, by omega, by omega, hY1p, by omega, rfl, by omega, by omega, hm0, hm1, hhS, by omega, hL, hr0, hr1, rfl, rfl, hQ1d, hQ1', hQ1, rfl, by omega, by omega, by omega, by omega, by omega, by omega, hQ0d, hQ0', hQ0, rfl, by omega, by omega, by omega, hYeq, e1, e0, huniq.1.symm, ?_, by omega, by omega⟩
  rw [huniq.2, hP0, show R1 * 4294967296 + R / 4294967296 - (R1 * 4294967296 + R / 4294967296 - R0) = R0 by omega, ← hrest]
  exact Int.mul_ediv_cancel _ (by omega)

/-! the roundings: the quotient of the absolute value, rounded down, one more if 'up' says so, with the sign put back -/
def mag (a : Int) : Int := if a < 0 then -a else a
def who (a n d : Int) : Int := mag a * n / d
def lef (a n d : Int) : Int := mag a * n % d
def neg (a : Int) : Bool := decide (a < 0)
def upF (a n d : Int) : Bool := neg a && decide (0 < lef a n d)
def upC (a n d : Int) : Bool := !neg a && decide (0 < lef a n d)
def upN (a n d : Int) : Bool := decide (d ≤ 2 * lef a n d)
def rnd (u : Bool) (a n d : Int) : Int := if a < 0 then -(who a n d + (if u then 1 else 0)) else who a n d + (if u then 1 else 0)
def sF (a n d : Int) : Int := rnd (upF a n d) a n d
def sC (a n d : Int) : Int := rnd (upC a n d) a n d
def sN (a n d : Int) : Int := rnd (upN a n d) a n d
def okB (a n d : Int) : Bool := decide (-3000000000000000 ≤ a ∧ a ≤ 3000000000000000 ∧ 0 ≤ n ∧ n ≤ 2000000000 ∧ 1 ≤ d ∧ d ≤ 2000000000)
def isT (v : Int) : Bool := decide (-3000000000000000 ≤ v ∧ v ≤ 3000000000000000)
/-- value and error of a rounding -/
def rV (a n d v : Int) : Int := if okB a n d && isT v then v else 0
def rE (a n d v : Int) : Int := if okB a n d then (if isT v then 0 else 3) else 1
theorem r_no {a n d v : Int} (h : okB a n d = false) : rV a n d v = 0 ∧ rE a n d v = 1 := by simp [rV, rE, h]
theorem r_far {a n d v : Int} (h : okB a n d = true) (hv : isT v = false) : rV a n d v = 0 ∧ rE a n d v = 3 := by simp [rV, rE, h, hv]
theorem r_yes {a n d v : Int} (h : okB a n d = true) (hv : isT v = true) : rV a n d v = v ∧ rE a n d v = 0 := by simp [rV, rE, h, hv]
theorem mag_bd {a : Int} (h1 : -3000000000000000 ≤ a) (h2 : a ≤ 3000000000000000) : 0 ≤ mag a ∧ mag a ≤ 3000000000000000 := by unfold mag; split <;> omega
/-- a rounding whose whole part is no time is none -/
theorem rnd_far {u : Bool} {a n d : Int} (h : 3000000000000000 < who a n d) : isT (rnd u a n d) = false := by
  unfold isT rnd; rw [decide_eq_false_iff_not]; cases u <;> split <;> simp <;> omega

/-! sums -/
def allT (l : List Int) : Bool := l.all isT
def tot : List Int → Int
  | [] => 0
  | x :: r => x + tot r
def suV (l : List Int) : Int := if allT l && isT (tot l) then tot l else 0
def suE (l : List Int) : Int := if allT l then (if isT (tot l) then 0 else 3) else 1
theorem tot_append (a b : List Int) : tot (a ++ b) = tot a + tot b := by
  induction a with
  | nil => simp [tot]
  | cons x r ih => simp [tot, ih]; omega
theorem isT_bd {v : Int} (h : isT v = true) : -3000000000000000 ≤ v ∧ v ≤ 3000000000000000 := of_decide_eq_true h
theorem tot_bd {l : List Int} (h : allT l = true) : -3000000000000000 * (l.length : Int) ≤ tot l ∧ tot l ≤ 3000000000000000 * (l.length : Int) := by
  induction l with
  | nil => simp [tot]
  | cons x r ih =>
    simp only [allT, List.all_cons, Bool.and_eq_true] at h
    have a := isT_bd h.1
    have b := ih h.2
    simp only [tot, List.length_cons]; omega
theorem su_no {l : List Int} (h : allT l = false) : suV l = 0 ∧ suE l = 1 := by simp [suV, suE, h]
theorem su_far {l : List Int} (h : allT l = true) (ht : isT (tot l) = false) : suV l = 0 ∧ suE l = 3 := by simp [suV, suE, h, ht]
theorem su_yes {l : List Int} (h : allT l = true) (ht : isT (tot l) = true) : suV l = tot l ∧ suE l = 0 := by simp [suV, suE, h, ht]
theorem allT_take {l : List Int} {k : Nat} (h : allT l = true) : allT (l.take k) = true := by
  unfold allT at *; rw [List.all_eq_true] at *; exact fun x hx => h x (List.mem_of_mem_take hx)
end Go.Proofs.Ytlmdjkkeocmehaa.Scm
