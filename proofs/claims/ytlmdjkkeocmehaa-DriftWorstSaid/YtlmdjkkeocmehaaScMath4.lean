/- Plain facts on the roundings, continued: multiples. No program in sight. -/
import Derived.Test.YtlmdjkkeocmehaaScMath3
set_option linter.unusedVariables false
namespace Go.Proofs.Ytlmdjkkeocmehaa.Scm
theorem between {X m d : Int} (hd : 1 ≤ d) (h0 : 0 ≤ m * d - X * d) (h1 : m * d - X * d < d) : X = m := by
  have e : (m - X) * d = m * d - X * d := Int.sub_mul _ _ _
  have a0 : -1 * d < (m - X) * d := by omega
  have a1 : (m - X) * d < 1 * d := by omega
  have k0 : -1 < m - X := Int.lt_of_mul_lt_mul_right a0 (by omega)
  have k1 : m - X < 1 := Int.lt_of_mul_lt_mul_right a1 (by omega)
  omega
/-- where the product is a multiple of d, all three are the quotient -/
theorem s_mult {a n d m : Int} (hd : 1 ≤ d) (h : a * n = m * d) : sF a n d = m ∧ sC a n d = m ∧ sN a n d = m := by
  have hr := sF_rest (a := a) (n := n) hd
  rw [h] at hr
  have hF := between hd hr.1 hr.2
  have hC : sC a n d = m := by
    rcases sC_eq (a := a) (n := n) hd with ⟨_, e⟩ | ⟨e, _⟩
    · rw [e, hF]
    · rw [h, hF] at e; omega
  refine ⟨hF, hC, ?_⟩
  rcases sN_ways (a := a) (n := n) hd with ⟨e, _⟩ | ⟨e, _⟩
  · rw [e, hF]
  · rw [e, hC]
end Go.Proofs.Ytlmdjkkeocmehaa.Scm
