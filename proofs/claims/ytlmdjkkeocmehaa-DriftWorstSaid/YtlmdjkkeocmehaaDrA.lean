/- The contracts of drift.Elapsed and drift.Counts: for all integers they return the plain ranges; nothing that was there has changed. -/
import Derived.Test.YtlmdjkkeocmehaaScD
import Derived.Test.YtlmdjkkeocmehaaComm
import Derived.Test.YtlmdjkkeocmehaaDrMath
set_option linter.unusedVariables false
namespace Go.Proofs.Ytlmdjkkeocmehaa
open Go.RowKit
abbrev I2 (a b : Int) : Value := .agg #[.int .i64 a, .int .i64 b]
theorem bound_any (v : Int) (w : World) : Calls Try.prog 33 #[.int .i64 v] w (Ret (.bool (Drm.rB v)) w) := by
  go_enter Try.func33, Try.ntmps33
  go_wp2
  all_goals go_ret
  all_goals exact ⟨ret_bool (by unfold Drm.rB; rw [Bool.eq_iff_iff]; simp; try omega), rfl⟩
theorem stretch_any (v : Int) (w : World) : Calls Try.prog 37 #[.int .i64 v] w (Ret (.bool (Drm.sB v)) w) := by
  go_enter Try.func37, Try.ntmps37
  go_wp2
  all_goals go_ret
  all_goals exact ⟨ret_bool (by unfold Drm.sB; rw [Bool.eq_iff_iff]; simp; try omega), rfl⟩
theorem okE_ways {r n : Int} (h : Drm.okE r n = false) : Drm.rB r = false ∨ Drm.rB r = true ∧ Drm.sB n = false := by
  unfold Drm.okE at h
  cases h1 : Drm.rB r
  · exact .inl rfl
  · rw [h1] at h; exact .inr ⟨rfl, by simpa using h⟩
set_option maxHeartbeats 2000000 in
theorem Elapsed_any (r n : Int) (w : World) : Calls Try.prog 17 #[.int .i64 r, .int .i64 n] w (RetB (.tuple #[I2 (Drm.eLo r n) (Drm.eHi r n), .int .i64 (Drm.eE r n)]) w) := by
  have hb0 : Below w.heap.size w (w.alloc (.cells #[.int .i64 0, .int .i64 0] 27)) := (Below.refl _ _).alloc (Nat.le_refl _) _
  cases h : Drm.okE r n
  · have hz := Lib.hid (Drm.okE_no h)
    rcases okE_ways h with h1 | ⟨h1, h2⟩
    all_goals
      clear h
      go_enter Try.func17, Try.ntmps17
      go_wp2_with (first | (go_at_call 33; refine (bound_any _ _).mono ?_; rintro e w' ⟨rfl, rfl⟩) | (go_at_call 37; refine (stretch_any _ _).mono ?_; rintro e w' ⟨rfl, rfl⟩))
      exact bodyPost_ret (v := .tuple #[I2 0 0, .int .i64 1]) (by simp [results, Try.results17, go_sem]) rfl ⟨ret_i2 hz.out.2.1.symm hz.out.2.2.1.symm hz.out.1.symm, by (repeat (with_reducible first | exact hb0 | exact Below.refl _ _ | refine Below.drew ?_ | refine Below.setCell ?_ ?_ _ | refine Below.alloc ?_ ?_ _)); all_goals simp⟩
  obtain ⟨⟨r1, r2⟩, n1, n2⟩ := Drm.okE_bd h
  have hz := Lib.hid (Drm.okE_yes h)
  have b1 := Drm.rB_yes ⟨r1, r2⟩
  have b2 := Drm.sB_yes ⟨n1, n2⟩
  have hbd := Drm.el_bd r1 r2 n1
  have o1 := okB_yes (a := n - 1) (n := 1000000000) (d := 1000000000 + r) ⟨by omega, by omega, by omega, by omega, by omega, by omega⟩
  have o2 := okB_yes (a := n + 1) (n := 1000000000) (d := 1000000000 - r) ⟨by omega, by omega, by omega, by omega, by omega, by omega⟩
  have l1 := Drm.el_lo (n := n) r1
  have l2 := Drm.el_hi (n := n) r1 r2
  obtain ⟨f1, f2⟩ := Scm.r_yes (v := Scm.sF (n - 1) 1000000000 (1000000000 + r)) o1 (isT_yes (by omega))
  obtain ⟨g1, g2⟩ := Scm.r_yes (v := Scm.sC (n + 1) 1000000000 (1000000000 - r)) o2 (isT_yes (by omega))
  rw [show Scm.sF (n - 1) 1000000000 (1000000000 + r) = Drm.elLo r n - 1 by omega] at f1 f2
  rw [show Scm.sC (n + 1) 1000000000 (1000000000 - r) = Drm.elHi r n + 1 by omega] at g1 g2
  have k1 : Scm.sF (n - 1) 1000000000 (1000000000 + r) = Drm.elLo r n - 1 := by omega
  have k2 : Scm.sC (n + 1) 1000000000 (1000000000 - r) = Drm.elHi r n + 1 := by omega
  clear o1 o2 l1 l2 h
  generalize Drm.elLo r n = L at *
  generalize Drm.elHi r n = H at *
  go_enter Try.func17, Try.ntmps17
  go_wp2_with (first | (go_at_call 33; refine (bound_any _ _).mono ?_; rintro e w' ⟨rfl, rfl⟩) | (go_at_call 37; refine (stretch_any _ _).mono ?_; rintro e w' ⟨rfl, rfl⟩) | (go_at_call 26; refine (Floor_any _ _ _ _).mono ?_; rintro e w1 ⟨rfl, hb1⟩) | (go_at_call 38; refine (Ceil_any _ _ _ _).mono ?_; rintro e w2 ⟨rfl, hb2⟩; have hbase := Below.go (Below.go hb0 hb1) hb2; obtain ⟨⟨c0, c1⟩, d0, d1⟩ := blk2 (keep' (keep' (heap_new w _) hb1) hb2)))
  exact bodyPost_ret (v := .tuple #[I2 L H, .int .i64 0]) (by simp [results, Try.results17, go_sem, c0, c1]) rfl ⟨ret_i2 hz.out.2.1.symm hz.out.2.2.1.symm hz.out.1.symm, by (repeat (with_reducible first | exact hbase | refine Below.drew ?_ | refine Below.setCell ?_ ?_ _)); all_goals simp⟩
set_option maxHeartbeats 2000000 in
theorem Counts_any (r n : Int) (w : World) : Calls Try.prog 19 #[.int .i64 r, .int .i64 n] w (RetB (.tuple #[I2 (Drm.cLo r n) (Drm.cHi r n), .int .i64 (Drm.eE r n)]) w) := by
  have hb0 : Below w.heap.size w (w.alloc (.cells #[.int .i64 0, .int .i64 0] 27)) := (Below.refl _ _).alloc (Nat.le_refl _) _
  cases h : Drm.okE r n
  · have hz := Lib.hid (Drm.okE_no h)
    rcases okE_ways h with h1 | ⟨h1, h2⟩
    all_goals
      clear h
      go_enter Try.func19, Try.ntmps19
      go_wp2_with (first | (go_at_call 33; refine (bound_any _ _).mono ?_; rintro e w' ⟨rfl, rfl⟩) | (go_at_call 37; refine (stretch_any _ _).mono ?_; rintro e w' ⟨rfl, rfl⟩))
      exact bodyPost_ret (v := .tuple #[I2 0 0, .int .i64 1]) (by simp [results, Try.results19, go_sem]) rfl ⟨ret_i2 hz.out.2.2.2.1.symm hz.out.2.2.2.2.symm hz.out.1.symm, by (repeat (with_reducible first | exact hb0 | exact Below.refl _ _ | refine Below.drew ?_ | refine Below.setCell ?_ ?_ _ | refine Below.alloc ?_ ?_ _)); all_goals simp⟩
  obtain ⟨⟨r1, r2⟩, n1, n2⟩ := Drm.okE_bd h
  have hz := Lib.hid (Drm.okE_yes h)
  have b1 := Drm.rB_yes ⟨r1, r2⟩
  have b2 := Drm.sB_yes ⟨n1, n2⟩
  have hbd := Drm.co_bd r1 r2 n1
  have o1 := okB_yes (a := n) (n := 1000000000 - r) (d := 1000000000) ⟨by omega, by omega, by omega, by omega, by omega, by omega⟩
  have o2 := okB_yes (a := n) (n := 1000000000 + r) (d := 1000000000) ⟨by omega, by omega, by omega, by omega, by omega, by omega⟩
  have k1 := Drm.co_lo (r := r) (e := n)
  have k2 := Drm.co_hi (r := r) (e := n)
  obtain ⟨f1, f2⟩ := Scm.r_yes (v := Scm.sF n (1000000000 - r) 1000000000) o1 (isT_yes (by omega))
  obtain ⟨g1, g2⟩ := Scm.r_yes (v := Scm.sC n (1000000000 + r) 1000000000) o2 (isT_yes (by omega))
  rw [k1] at f1 f2
  rw [k2] at g1 g2
  clear o1 o2 h
  generalize Drm.coLo r n = L at *
  generalize Drm.coHi r n = H at *
  go_enter Try.func19, Try.ntmps19
  go_wp2_with (first | (go_at_call 33; refine (bound_any _ _).mono ?_; rintro e w' ⟨rfl, rfl⟩) | (go_at_call 37; refine (stretch_any _ _).mono ?_; rintro e w' ⟨rfl, rfl⟩) | (go_at_call 26; refine (Floor_any _ _ _ _).mono ?_; rintro e w1 ⟨rfl, hb1⟩) | (go_at_call 38; refine (Ceil_any _ _ _ _).mono ?_; rintro e w2 ⟨rfl, hb2⟩; have hbase := Below.go (Below.go hb0 hb1) hb2; obtain ⟨⟨c0, c1⟩, d0, d1⟩ := blk2 (keep' (keep' (heap_new w _) hb1) hb2)))
  exact bodyPost_ret (v := .tuple #[I2 L H, .int .i64 0]) (by simp [results, Try.results19, go_sem, c0, c1]) rfl ⟨ret_i2 hz.out.2.2.2.1.symm hz.out.2.2.2.2.symm hz.out.1.symm, by (repeat (with_reducible first | exact hbase | refine Below.drew ?_ | refine Below.setCell ?_ ?_ _)); all_goals simp⟩
theorem Elapsed_c {r n : Int} {w0 w : World} (hb : Below w0.heap.size w0 w) : Calls Try.prog 17 #[.int .i64 r, .int .i64 n] w (RetB (.tuple #[I2 (Drm.eLo r n) (Drm.eHi r n), .int .i64 (Drm.eE r n)]) w0) := chain hb (Elapsed_any r n w)
theorem Counts_c {r n : Int} {w0 w : World} (hb : Below w0.heap.size w0 w) : Calls Try.prog 19 #[.int .i64 r, .int .i64 n] w (RetB (.tuple #[I2 (Drm.cLo r n) (Drm.cHi r n), .int .i64 (Drm.eE r n)]) w0) := chain hb (Counts_any r n w)
end Go.Proofs.Ytlmdjkkeocmehaa
