/- The law LeapFurther out of its ways; and the reach, for a table that came in. -/
import Derived.Test.YtdmjciklobokbaaLpJ
import Derived.SizedLaws
set_option linter.unusedVariables false
namespace Go.Proofs.Ytdmjciklobokbaa
open Go.RowKit Go.ChangeShapes Go.WideShapes Go.Deep

def SzOf {H : Type} (d : DataW H) (l : Lpm.LL) : Prop := l = [] ∨ ∃ el sp, d = .slice el sp ∧ el.length = l.length
set_option maxRecDepth 100000 in
theorem open_tabS {H : Type} {enc : TypeId × Value → H} {W : World} {base b0 : Nat} {r : Reach} {sp : Nat → Bool} {hd : Bool} {v : Value} {d : DataW H} {p : List MemPlace}
    (hv : Value.okWide Try.prog W r b0 22 v) (h : DataW.Trod enc Try.prog W base sp hd 22 v d p) : ∃ l, IsTab W v l ∧ SzOf d l := by
  obtain ⟨l, hl⟩ := open_tab hv h
  refine ⟨l, hl, ?_⟩
  obtain ⟨A, n, c, rfl, hnc, hcm, hAc, hlp⟩ := hl
  obtain ⟨fuel, hf⟩ := h
  rcases open_slice_fields Try.underlying22 Try.underlying35 (by kernel_rfl) cellsLeap hf with ⟨hcs, _⟩ | ⟨a, len, cap, m, D, Pl, hcs, _, hl, hm, hmm, hx, hc⟩
  · simp [Value.cells] at hcs
    obtain ⟨rfl, rfl, rfl⟩ := hcs
    exact .inl (List.eq_nil_of_length_eq_zero hlp.1)
  · simp [Value.cells] at hcs
    obtain ⟨rfl, rfl, rfl⟩ := hcs
    have := congrArg Prod.fst hx
    simp only at this
    exact .inr ⟨_, _, this, by simp [hlp.1]⟩
theorem bytesLeap : Try.prog.bytesOf 35 = 16 := by kernel_rfl
theorem tab_reach {H : Type} {ts : List TypeId} {ds : List (DataW H)} {l : Lpm.LL} {d : DataW H} (hz : (DataW.weightsEach Try.prog ts ds).all (· ≤ reachBytes) = true) (j : Nat) (ht : ts[j]? = some 22) (hd : ds[j]? = some d) (hs : SzOf d l) :
    l.length * 16 ≤ 140737488351232 := by
  rcases hs with rfl | ⟨el, sp, rfl, e⟩
  · simp
  · have := sized_slice hz ht hd Try.underlying22
    rw [bytesLeap, e] at this
    have hr : reachBytes = 140737488351232 := by decide
    rw [hr] at this
    omega
theorem start_plain {l : Lpm.LL} {X S N : Int} (hv : Lpm.valid (l ++ [(X, S)]) = true) (h0 : 0 ≤ N) (h1 : N ≤ 34000) {k1 k2 : Int} (e1 : (if X < N then S * 1000000 else 0) = k1) (e2 : (if X < N + 1 then S * 1000000 else 0) - (if X < N then S * 1000000 else 0) = k2) :
    FurF l X S N (Lpm.start l N) (Lpm.start l N + k1) (Lpm.start l (N + 1) - Lpm.start l N) (Lpm.start l (N + 1) - Lpm.start l N + k2) := by
  have hv1 := Lpm.valid_append hv
  obtain ⟨a1, a2, a3⟩ := Lpm.st_yes (day := N) hv1 h0 h1
  obtain ⟨b1, b2, b3⟩ := Lpm.st_yes (day := N) hv h0 h1
  have s1 := Lpm.start_snoc (day := N) hv
  have s2 := Lpm.start_snoc (day := N + 1) hv
  simp only at s1 s2
  refine ⟨a1, a2, b1, ?_, a3, ?_⟩
  · rw [b2, s1, e1]
  · rw [b3, s1, s2, ← e2]; omega
theorem further_law {Z : Prop} (v : Value) (l : Lpm.LL) (day : Int) (step : Bool) (nn : Int) (w : World) (ht : IsTab w v l ∧ Z) (h1 : (Lit.int .u32 day).wf = true) (h3 : (Lit.int .u32 nn).wf = true) (hr : l.length * 16 ≤ 140737488351232) :
    Calls Try.prog 7 #[v, .int .u32 day, .bool step, .int .u32 nn] w (LawPost w) := by
  obtain ⟨⟨A, n, c, rfl, hnc, hcm, hAc, hl⟩, -⟩ := ht
  obtain ⟨d0, d1⟩ := bounds_u32 h1
  obtain ⟨n0, n1⟩ := bounds_u32 h3
  have hlen := hl.1
  have HA : Hid (A = none → n = 0 ∧ c = 0) := Lib.hid fun e => ⟨by have := hAc e; omega, hAc e⟩
  rw [hlen] at hr
  have hS : ∀ b : Bool, -1 ≤ (if b then (1 : Int) else -1) ∧ (if b then (1 : Int) else -1) ≤ 1 := fun b => by cases b <;> decide
  have hX0 : 0 ≤ day % 34000 ∧ day % 34000 ≤ 34000 := by omega
  have hN0 : 0 ≤ nn % 34001 ∧ nn % 34001 ≤ 34000 := by omega
  by_cases hn : n ≤ 99
  rotate_left
  · exact lf_long A n c l day nn _ _ _ 0 0 step w hl HA hr d0 d1 n0 n1 (Lib.hid rfl) (Lib.hid rfl) (Lib.hid rfl) hX0.1 hX0.2 (hS step).1 (hS step).2 (by omega) (by omega) (by omega) (by omega) (by omega)
  obtain ⟨S, hSe⟩ : ∃ S, (if step then (1 : Int) else -1) = S := ⟨_, rfl⟩
  obtain ⟨X, hXe⟩ : ∃ X, day % 34000 = X := ⟨_, rfl⟩
  obtain ⟨N, hNe⟩ : ∃ N, nn % 34001 = N := ⟨_, rfl⟩
  have hSb := hS step
  rw [hSe] at hSb
  rw [hXe] at hX0
  rw [hNe] at hN0
  cases hv : Lpm.valid (l ++ [(X, S)])
  · exact lf_bad A n c l day nn X S N 0 0 step w hl HA hr d0 d1 n0 n1 (Lib.hid hXe) (Lib.hid hSe) (Lib.hid hNe) hX0.1 hX0.2 hSb.1 hSb.2 (by omega) (by omega) (by omega) (by omega) hn (Lib.hid hv)
  have hv1 := Lpm.valid_append hv
  have hb := Lpm.start_bd (a := N) hv1
  have hb2 := Lpm.len_bd (day := N) hv1
  rcases Int.lt_trichotomy N X with h | h | h
  · have hF := start_plain (k1 := 0) (k2 := 0) hv hN0.1 hN0.2 (by rw [if_neg (by omega)]) (by rw [if_neg (by omega), if_neg (by omega)]; rfl)
    rw [Int.add_zero, Int.add_zero] at hF
    exact lf_lt A n c l day nn X S N _ _ step w hl HA hr d0 d1 n0 n1 (Lib.hid hXe) (Lib.hid hSe) (Lib.hid hNe) hX0.1 hX0.2 hSb.1 hSb.2 (by omega) (by omega) (by omega) (by omega) hn (Lib.hid hv) hF (decide_eq_true (by omega)) (by simp; omega)
  · have hF := start_plain (k1 := 0) (k2 := S * 1000000) hv hN0.1 hN0.2 (by rw [if_neg (by omega)]) (by rw [if_pos (by omega), if_neg (by omega), Int.sub_zero])
    rw [Int.add_zero] at hF
    exact lf_eq A n c l day nn X S N _ _ step w hl HA hr d0 d1 n0 n1 (Lib.hid hXe) (Lib.hid hSe) (Lib.hid hNe) hX0.1 hX0.2 hSb.1 hSb.2 (by omega) (by omega) (by omega) (by omega) hn (Lib.hid hv) hF (decide_eq_true (by omega)) (by simp; omega)
  · have hF := start_plain (k1 := S * 1000000) (k2 := 0) hv hN0.1 hN0.2 (by rw [if_pos (by omega)]) (by rw [if_pos (by omega), if_pos (by omega), Int.sub_self])
    rw [Int.add_zero] at hF
    exact lf_gt A n c l day nn X S N _ _ step w hl HA hr d0 d1 n0 n1 (Lib.hid hXe) (Lib.hid hSe) (Lib.hid hNe) hX0.1 hX0.2 hSb.1 hSb.2 (by omega) (by omega) (by omega) (by omega) hn (Lib.hid hv) hF (decide_eq_false (by omega)) (by simp; omega)
end Go.Proofs.Ytdmjciklobokbaa
