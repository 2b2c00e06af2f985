/- The contracts of package slew's functions on clocks: for all integers valid, shows, Show and Start return the plain values; nothing that was there has changed. -/
import Derived.Test.YtoeaclkmnnopmaaScD
import Derived.Test.YtoeaclkmnnopmaaSlMath
set_option linter.unusedVariables false
namespace Go.Proofs.Ytoeaclkmnnopmaa
open Go.RowKit
abbrev O3 (a s r : Int) : Value := .agg #[.int .i64 a, .int .i64 s, .int .i64 r]
theorem slT_any (v : Int) (w : World) : Calls Try.prog 20 #[.int .i64 v] w (Ret (.bool (Slm.tT v)) w) := by
  go_enter Try.func20, Try.ntmps20
  go_wp2
  all_goals go_ret
  all_goals exact ⟨ret_bool (by rw [Bool.eq_iff_iff]; simp only [Slm.tT, decide_eq_true_eq, Bool.false_eq_true, false_iff]; omega), rfl⟩
set_option maxHeartbeats 1000000 in
theorem valid_any (a s r : Int) (w : World) : Calls Try.prog 19 #[O3 a s r] w (RetB (.bool (Slm.vO a s r)) w) := by
  have hv : Hid (Slm.vO a s r = (Slm.tT a && Slm.tT s && Slm.rR r)) := Lib.hid rfl
  have hr : Hid (Slm.rR r = decide (-100000000 ≤ r ∧ r ≤ 100000000)) := Lib.hid rfl
  cases h1 : Slm.tT a
  · rw [h1] at hv
    go_enter Try.func19, Try.ntmps19
    go_wp2_with (go_at_call 20; refine (slT_any _ _).mono ?_; rintro e w' ⟨rfl, rfl⟩)
    go_ret
    exact ⟨ret_bool (by rw [hv.out]; rfl), (Below.refl _ _).alloc (Nat.le_refl _) _⟩
  cases h2 : Slm.tT s
  · rw [h1, h2] at hv
    go_enter Try.func19, Try.ntmps19
    go_wp2_with (go_at_call 20; refine (slT_any _ _).mono ?_; rintro e w' ⟨rfl, rfl⟩)
    go_ret
    exact ⟨ret_bool (by rw [hv.out]; rfl), (Below.refl _ _).alloc (Nat.le_refl _) _⟩
  rw [h1, h2] at hv
  go_enter Try.func19, Try.ntmps19
  go_wp2_with (go_at_call 20; refine (slT_any _ _).mono ?_; rintro e w' ⟨rfl, rfl⟩)
  all_goals go_ret
  all_goals exact ⟨ret_bool (by rw [hv.out, hr.out, Bool.eq_iff_iff]; simp; try omega), (Below.refl _ _).alloc (Nat.le_refl _) _⟩
theorem valid_c {a s r : Int} {w0 w : World} (hb : Below w0.heap.size w0 w) : Calls Try.prog 19 #[O3 a s r] w (RetB (.bool (Slm.vO a s r)) w0) := chain hb (valid_any a s r w)

/-- the cells of a clock that was just boxed stay -/
theorem box3 {w0 w1 : World} {a s r : Int} {t : TypeId} (hb : Below (w0.alloc (.cells #[.int .i64 a, .int .i64 s, .int .i64 r] t)).heap.size (w0.alloc (.cells #[.int .i64 a, .int .i64 s, .int .i64 r] t)) w1) :
    w1.cell? ⟨w0.heap.size, 0, none⟩ = some (.int .i64 a) ∧ w1.cell? ⟨w0.heap.size, 1, none⟩ = some (.int .i64 s) ∧ w1.cell? ⟨w0.heap.size, 2, none⟩ = some (.int .i64 r) := by
  have aux : ∀ (W : World) (k : Nat), W.heap[k]? = some (.cells #[.int .i64 a, .int .i64 s, .int .i64 r] t) → W.cell? ⟨k, 0, none⟩ = some (.int .i64 a) ∧ W.cell? ⟨k, 1, none⟩ = some (.int .i64 s) ∧ W.cell? ⟨k, 2, none⟩ = some (.int .i64 r) := fun W k h => by simp [World.cell?, h]
  refine aux _ _ ?_
  rw [hb.block _ (by simp)]
  exact heap_new w0 _
theorem Ret.of_three {v : Value} {w w1 : World} (hb : Below w.heap.size w w1) (e : Ending) (he : e = .returned v) : RetB v w e w1 := ⟨he, hb⟩

set_option maxHeartbeats 2000000 in
theorem shows_any (a s r t : Int) (w : World) : Calls Try.prog 17 #[O3 a s r, .int .i64 t] w (RetB (.tuple #[.int .i64 (Slm.shV a s r t), .int .i64 (Slm.shE a s r t)]) w) := by
  have hb0 : Below w.heap.size w (w.alloc (.cells #[.int .i64 a, .int .i64 s, .int .i64 r] 44)) := (Below.refl _ _).alloc (Nat.le_refl _) _
  have hE : Hid (Slm.shE a s r t = if Slm.vO a s r && Slm.tT t then (if t < a then 30 else if 3000000000000000 < Slm.shn a s r t then 3 else 0) else 1) := Lib.hid rfl
  have hV : Hid (Slm.shV a s r t = if Slm.shE a s r t = 0 then Slm.shn a s r t else 0) := Lib.hid rfl
  cases h1 : Slm.vO a s r
  · rw [h1] at hE
    have hz : Hid (Slm.shE a s r t = 1 ∧ Slm.shV a s r t = 0) := Lib.hid (by have e : Slm.shE a s r t = 1 := hE.out.trans rfl; exact ⟨e, by rw [hV.out, e]; rfl⟩)
    clear hE hV
    go_enter Try.func17, Try.ntmps17
    go_wp2_with (go_at_call 19; refine (valid_any _ _ _ _).mono ?_; rintro e w1 ⟨rfl, hb1⟩)
    go_ret2
    exact ⟨ret_two hz.out.2.symm hz.out.1.symm, hb0.trans (hb1.mono hb0.size)⟩
  obtain ⟨⟨a1, a2⟩, ⟨s1, s2⟩, r1, r2⟩ := Slm.vO_bd h1
  cases h2 : Slm.tT t
  · rw [h1, h2] at hE
    have hz : Hid (Slm.shE a s r t = 1 ∧ Slm.shV a s r t = 0) := Lib.hid (by have e : Slm.shE a s r t = 1 := hE.out.trans rfl; exact ⟨e, by rw [hV.out, e]; rfl⟩)
    clear hE hV
    go_enter Try.func17, Try.ntmps17
    go_wp2_with (first | (go_at_call 19; refine (valid_any _ _ _ _).mono ?_; rintro e w1 ⟨rfl, hb1⟩) | (go_at_call 20; refine (slT_any _ _).mono ?_; rintro e w' ⟨rfl, rfl⟩))
    go_ret2
    exact ⟨ret_two hz.out.2.symm hz.out.1.symm, hb0.trans (hb1.mono hb0.size)⟩
  obtain ⟨t1, t2⟩ := Slm.tT_bd h2
  rw [h1, h2] at hE
  by_cases h3 : t < a
  · have hz : Hid (Slm.shE a s r t = 30 ∧ Slm.shV a s r t = 0) := Lib.hid (by have e : Slm.shE a s r t = 30 := hE.out.trans (by rw [Bool.true_and, if_pos rfl, if_pos h3]); exact ⟨e, by rw [hV.out, e]; rfl⟩)
    clear hE hV
    go_enter Try.func17, Try.ntmps17
    go_wp2_with (first | (go_at_call 19; refine (valid_any _ _ _ _).mono ?_; rintro e w1 ⟨rfl, hb1⟩; obtain ⟨c0, c1, c2⟩ := box3 hb1) | (go_at_call 20; refine (slT_any _ _).mono ?_; rintro e w' ⟨rfl, rfl⟩))
    go_ret2
    exact ⟨ret_two hz.out.2.symm hz.out.1.symm, hb0.trans (hb1.mono hb0.size)⟩
  have hok := okB_yes (a := t - a) (n := 1000000000 + r) (d := 1000000000) ⟨by omega, by omega, by omega, by omega, by omega, by omega⟩
  have hfl := Slm.floor_part (n := t - a) (r := r)
  have hlo := Slm.part_lo (n := t - a) (r := r) (by omega) r1 r2
  have hpb := Slm.part_bd (n := t - a) (r := r) (by omega) r1 r2
  have hsn : Hid (Slm.shn a s r t = s + (t - a) + Slm.part (t - a) r) := Lib.hid rfl
  generalize Slm.part (t - a) r = p at *
  by_cases h4 : (t - a) + p ≤ 3000000000000000
  · have hy := Scm.r_yes (v := Scm.sF (t - a) (1000000000 + r) 1000000000) hok (isT_yes (by rw [hfl]; omega))
    have y1 := hy.1.trans hfl
    have y2 := hy.2
    clear hy hfl hok
    by_cases h5 : 3000000000000000 < s + (t - a) + p
    · have hz : Hid (Slm.shE a s r t = 3 ∧ Slm.shV a s r t = 0) := Lib.hid (by have e : Slm.shE a s r t = 3 := hE.out.trans (by rw [Bool.true_and, if_pos rfl, if_neg h3, if_pos (by rw [hsn.out]; omega)]); exact ⟨e, by rw [hV.out, e]; rfl⟩)
      clear hE hV
      go_enter Try.func17, Try.ntmps17
      go_wp2_with (first | (go_at_call 19; refine (valid_any _ _ _ _).mono ?_; rintro e w1 ⟨rfl, hb1⟩; obtain ⟨c0, c1, c2⟩ := box3 hb1) | (go_at_call 20; refine (slT_any _ _).mono ?_; rintro e w' ⟨rfl, rfl⟩) | (go_at_call 22; refine (Floor_any _ _ _ _).mono ?_; rintro e w2 ⟨rfl, hb2⟩; obtain ⟨d0, d1, d2⟩ := box3 (hb1.trans (hb2.mono hb1.size))))
      go_ret2
      exact ⟨ret_two hz.out.2.symm hz.out.1.symm, hb0.trans ((hb1.trans (hb2.mono hb1.size)).mono hb0.size)⟩
    · have hz : Hid (Slm.shE a s r t = 0 ∧ Slm.shV a s r t = (t - a) + p + s) := Lib.hid (by have e : Slm.shE a s r t = 0 := hE.out.trans (by rw [Bool.true_and, if_pos rfl, if_neg h3, if_neg (by rw [hsn.out]; omega)]); exact ⟨e, by rw [hV.out, e, if_pos rfl, hsn.out]; omega⟩)
      clear hE hV
      go_enter Try.func17, Try.ntmps17
      go_wp2_with (first | (go_at_call 19; refine (valid_any _ _ _ _).mono ?_; rintro e w1 ⟨rfl, hb1⟩; obtain ⟨c0, c1, c2⟩ := box3 hb1) | (go_at_call 20; refine (slT_any _ _).mono ?_; rintro e w' ⟨rfl, rfl⟩) | (go_at_call 22; refine (Floor_any _ _ _ _).mono ?_; rintro e w2 ⟨rfl, hb2⟩; obtain ⟨d0, d1, d2⟩ := box3 (hb1.trans (hb2.mono hb1.size))))
      go_ret2
      exact ⟨ret_two hz.out.2.symm hz.out.1.symm, hb0.trans ((hb1.trans (hb2.mono hb1.size)).mono hb0.size)⟩
  · have y2 := (Scm.r_far (v := Scm.sF (t - a) (1000000000 + r) 1000000000) hok (isT_no (by rw [hfl]; omega))).2
    have hz : Hid (Slm.shE a s r t = 3 ∧ Slm.shV a s r t = 0) := Lib.hid (by have e : Slm.shE a s r t = 3 := hE.out.trans (by rw [Bool.true_and, if_pos rfl, if_neg h3, if_pos (by rw [hsn.out]; omega)]); exact ⟨e, by rw [hV.out, e]; rfl⟩)
    clear hE hV hfl hok
    go_enter Try.func17, Try.ntmps17
    go_wp2_with (first | (go_at_call 19; refine (valid_any _ _ _ _).mono ?_; rintro e w1 ⟨rfl, hb1⟩; obtain ⟨c0, c1, c2⟩ := box3 hb1) | (go_at_call 20; refine (slT_any _ _).mono ?_; rintro e w' ⟨rfl, rfl⟩) | (go_at_call 22; refine (Floor_any _ _ _ _).mono ?_; rintro e w2 ⟨rfl, hb2⟩; obtain ⟨d0, d1, d2⟩ := box3 (hb1.trans (hb2.mono hb1.size))))
    go_ret2
    exact ⟨ret_two hz.out.2.symm hz.out.1.symm, hb0.trans ((hb1.trans (hb2.mono hb1.size)).mono hb0.size)⟩
end Go.Proofs.Ytoeaclkmnnopmaa
