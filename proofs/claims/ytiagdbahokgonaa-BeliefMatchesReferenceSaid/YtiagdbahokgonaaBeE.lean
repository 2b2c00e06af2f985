/- Arguments that are intervals and beliefs, opened; the walks of the laws BeliefWorst and BeliefNothing. -/
import Derived.Test.YtiagdbahokgonaaBeD
import Derived.ProofKit
import Derived.OpenShut
import Derived.Lib.SmallJoins
import Derived.ChangeSame
set_option linter.unusedVariables false
namespace Go.Proofs.Ytiagdbahokgonaa
open Go.RowKit Go.ChangeShapes Go.WideShapes
def IsI2 (v : Value) (x : Int × Int) : Prop := v = I2 x.1 x.2 ∧ (Lit.int .i64 x.1).wf = true ∧ (Lit.int .i64 x.2).wf = true
def IsB3 (v : Value) (x : Int × Int × Int) : Prop := v = B3 x.1 x.2.1 x.2.2 ∧ (Lit.int .i64 x.1).wf = true ∧ (Lit.int .i64 x.2.1).wf = true ∧ (Lit.int .i64 x.2.2).wf = true
theorem cellsIv : Try.prog.cellsOf 23 = 2 := by kernel_rfl
theorem cellsBel : Try.prog.cellsOf 25 = 3 := by kernel_rfl
theorem open_i2 {H : Type} {enc : TypeId × Value → H} {W : World} {base b0 : Nat} {r : Reach} {sp : Nat → Bool} {hd : Bool} {v : Value} {d : DataW H} {p : List MemPlace}
    (hv : Value.okWide Try.prog W r b0 23 v) (h : DataW.Trod enc Try.prog W base sp hd 23 v d p) : ∃ x, IsI2 v x := by
  obtain ⟨c0, c1, y0, y1, m, rfl, rfl, rfl, h0, h1⟩ := Go.Joins.open_agg2 Try.underlying23 (by kernel_rfl) cellsIv hv h
  obtain ⟨a, e0, _, f0⟩ := DataW.trod_int Try.underlying3 h0
  obtain ⟨b, e1, _, f1⟩ := DataW.trod_int Try.underlying3 h1
  simp at e0 e1
  subst e0 e1
  exact ⟨(a, b), rfl, f0, f1⟩
theorem open_b3 {H : Type} {enc : TypeId × Value → H} {W : World} {base b0 : Nat} {r : Reach} {sp : Nat → Bool} {hd : Bool} {v : Value} {d : DataW H} {p : List MemPlace}
    (hv : Value.okWide Try.prog W r b0 25 v) (h : DataW.Trod enc Try.prog W base sp hd 25 v d p) : ∃ x, IsB3 v x := by
  obtain ⟨cs, rfl, hsz⟩ := okWide_struct Try.underlying25 hv
  obtain ⟨c0, c1, c2, rfl⟩ := Go.Joins.array3 (hsz.trans cellsBel)
  obtain ⟨fuel, hf⟩ := h
  obtain ⟨y0, y1, n, _, _, h0, h1⟩ := trod_struct2 Try.underlying25 hf
  have hI : Try.prog.cellsOf 3 = 1 := by kernel_rfl
  simp only [Value.cells, hI, cellsIv] at h0 h1
  obtain ⟨z0, z1, m, _, _, g0, g1⟩ := trod_struct2 Try.underlying23 h1
  simp only [hI] at g0 g1
  obtain ⟨a, e0, _, f0⟩ := DataW.trod_int Try.underlying3 h0
  obtain ⟨b, e1, _, f1⟩ := DataW.trod_int Try.underlying3 g0
  obtain ⟨c, e2, _, f2⟩ := DataW.trod_int Try.underlying3 g1
  simp at e0 e1 e2
  subst e0 e1 e2
  exact ⟨(a, b, c), rfl, f0, f1, f2⟩
/-- the world with an interval that came in, boxed -/
abbrev boxI (w : World) (x y : Int) : World := w.alloc (.cells #[.int .i64 x, .int .i64 y] 23)
abbrev boxB (w : World) (a x y : Int) : World := w.alloc (.cells #[.int .i64 a, .int .i64 x, .int .i64 y] 25)
theorem or_ways {A B : Bool} (h : A = false → B = true) : A = true ∨ A = false ∧ B = true := by cases A <;> simp_all
set_option maxHeartbeats 2000000 in
set_option maxRecDepth 100000 in
theorem worst_core (x y s n : Int) (w : World) (s1 : 0 ≤ s) (s2 : s < 18446744073709551616) (n1 : 0 ≤ n) (n2 : n < 18446744073709551616) : Calls Try.prog 7 #[I2 x y, .int .u64 s, .int .u64 n] w (LawPost w) := by
  have hb := (Below.refl w.heap.size w).alloc (Nat.le_refl _) (.cells #[.int .i64 x, .int .i64 y] 23)
  have ki := Lib.hid (heap_new w (.cells #[.int .i64 x, .int .i64 y] 23))
  cases hv : Blm.iV x y
  · go_enter Try.func7, Try.ntmps7
    go_wp2_with fail
    refine (head_any _).mono ?_
    rintro e wN ⟨rfl, hn⟩
    have hb := (by first | exact Below.go hb hn | exact Below.goA hb hn | exact Below.goAA hb hn : Below w.heap.size w wN)
    have ki := Lib.hid (by first | exact keep' ki.out hn | exact keepA ki.out hn | exact keepAA ki.out hn)
    clear hn
    obtain ⟨⟨ki0, ki1⟩, -⟩ := blk2 ki.out
    have kiz := lt_of_heap ki.out
    go_wp2_with fail
    refine (rIV_any _ _ _).mono ?_
    rintro e wN ⟨rfl, hn⟩
    have hb := (by first | exact Below.go hb hn | exact Below.goA hb hn | exact Below.goAA hb hn : Below w.heap.size w wN)
    have ki := Lib.hid (by first | exact keep' ki.out hn | exact keepA ki.out hn | exact keepAA ki.out hn)
    clear hn
    obtain ⟨⟨ki0, ki1⟩, -⟩ := blk2 ki.out
    have kiz := lt_of_heap ki.out
    go_wp2
    go_ret
    exact ⟨rfl, hb⟩
  · obtain ⟨x1, x2, x3⟩ := Blm.iV_bd hv
    obtain ⟨S, hS⟩ : ∃ d, s % 3000000000000001 = d := ⟨_, rfl⟩
    have S1 : 0 ≤ S := by omega
    have S2 : S ≤ 3000000000000000 := by omega
    have hT := Blm.tT_yes ⟨S1, S2⟩
    have hE : Blm.woE x y S = 0 := by unfold Blm.woE; rw [hv, hT]; rfl
    have hV : Blm.woV x y S = Blm.mxA (S - x) (y - S) := by unfold Blm.woV; rw [hv, hT]; rfl
    have hx := Blm.mx_bd (S - x) (y - S)
    generalize Blm.mxA (S - x) (y - S) = W at *
    have m0 := Int.emod_nonneg n (show y - x + 1 ≠ 0 by omega)
    have m1 := Int.emod_lt_of_pos n (show 0 < y - x + 1 by omega)
    obtain ⟨M, hM⟩ : ∃ d, n % (y - x + 1) = d := ⟨_, rfl⟩
    have hin := Lib.hid (fun w => inside_any x y n w hv n1 n2)
    rw [hM] at hin m0 m1
    clear hM hT
    have t1 : decide (x + M - S ≤ W) = true := decide_eq_true (by omega)
    have t2 : decide (-(x + M - S) ≤ W) = true := decide_eq_true (by omega)
    have t3 : (W == S - x) = true ∨ (W == S - x) = false ∧ (W == y - S) = true := or_ways (by simp; omega)
    rcases t3 with t3 | ⟨t3, t4⟩
    all_goals
      go_enter Try.func7, Try.ntmps7
      go_wp2_with fail
      refine (head_any _).mono ?_
      rintro e wN ⟨rfl, hn⟩
      have hb := (by first | exact Below.go hb hn | exact Below.goA hb hn | exact Below.goAA hb hn : Below w.heap.size w wN)
      have ki := Lib.hid (by first | exact keep' ki.out hn | exact keepA ki.out hn | exact keepAA ki.out hn)
      clear hn
      obtain ⟨⟨ki0, ki1⟩, -⟩ := blk2 ki.out
      have kiz := lt_of_heap ki.out
      go_wp2_with fail
      refine (rIV_any _ _ _).mono ?_
      rintro e wN ⟨rfl, hn⟩
      have hb := (by first | exact Below.go hb hn | exact Below.goA hb hn | exact Below.goAA hb hn : Below w.heap.size w wN)
      have ki := Lib.hid (by first | exact keep' ki.out hn | exact keepA ki.out hn | exact keepAA ki.out hn)
      clear hn
      obtain ⟨⟨ki0, ki1⟩, -⟩ := blk2 ki.out
      have kiz := lt_of_heap ki.out
      go_wp2_with fail
      refine (Worst_any _ _ _ _).mono ?_
      rintro e wN ⟨rfl, hn⟩
      have hb := (by first | exact Below.go hb hn | exact Below.goA hb hn | exact Below.goAA hb hn : Below w.heap.size w wN)
      have ki := Lib.hid (by first | exact keep' ki.out hn | exact keepA ki.out hn | exact keepAA ki.out hn)
      clear hn
      obtain ⟨⟨ki0, ki1⟩, -⟩ := blk2 ki.out
      have kiz := lt_of_heap ki.out
      go_wp2_with fail
      refine (hin.out _).mono ?_
      rintro e wN ⟨rfl, hn⟩
      have hb := (by first | exact Below.go hb hn | exact Below.goA hb hn | exact Below.goAA hb hn : Below w.heap.size w wN)
      have ki := Lib.hid (by first | exact keep' ki.out hn | exact keepA ki.out hn | exact keepAA ki.out hn)
      clear hn
      obtain ⟨⟨ki0, ki1⟩, -⟩ := blk2 ki.out
      have kiz := lt_of_heap ki.out
      go_wp2
      go_ret
      exact ⟨rfl, hb⟩
theorem worst_law (v : Value) (x : Int × Int) (s n : Int) (w : World) (hv : IsI2 v x) (h1 : (Lit.int .u64 s).wf = true) (h2 : (Lit.int .u64 n).wf = true) : Calls Try.prog 7 #[v, .int .u64 s, .int .u64 n] w (LawPost w) := by
  obtain ⟨x, y⟩ := x
  obtain ⟨rfl, -, -⟩ := hv
  have b1 := bounds_u64 h1
  have b2 := bounds_u64 h2
  exact worst_core x y s n w (by omega) (by omega) (by omega) (by omega)
end Go.Proofs.Ytiagdbahokgonaa
