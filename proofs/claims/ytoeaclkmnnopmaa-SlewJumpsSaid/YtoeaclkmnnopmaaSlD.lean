/- The contract of slew.Left, and the contracts in the form for chains of calls. -/
import Derived.Test.YtoeaclkmnnopmaaSlC
set_option linter.unusedVariables false
namespace Go.Proofs.Ytoeaclkmnnopmaa
open Go.RowKit
theorem max_is (t u : Int) : ∃ m, (if t < u then u else t) = m ∧ t ≤ m ∧ u ≤ m ∧ (m = t ∨ m = u) := by
  by_cases h : t < u
  · exact ⟨u, if_pos h, by omega, by omega, .inr rfl⟩
  · exact ⟨t, if_neg h, by omega, by omega, .inl rfl⟩
set_option maxHeartbeats 2000000 in
theorem Left_any (a s r t want l h : Int) (w : World) : Calls Try.prog 13 #[O3 a s r, .int .i64 t, .int .i64 want, .int .i64 l, .int .i64 h] w (RetB (.tuple #[.int .i64 (Slm.lfV a s r t want l h), .int .i64 (Slm.lfE a s r t want l h)]) w) := by
  have hb0 : Below w.heap.size w (w.alloc (.cells #[.int .i64 a, .int .i64 s, .int .i64 r] 23)) := (Below.refl _ _).alloc (Nat.le_refl _) _
  by_cases he : Slm.stE a s r t want l h = 0
  rotate_left
  · have hn : (Slm.stE a s r t want l h != 0) = true := by simpa using he
    have h1 : Slm.lfE a s r t want l h = Slm.stE a s r t want l h := by unfold Slm.lfE; rw [if_neg he]
    have hz := Lib.hid h1
    have hz2 : Hid (Slm.lfV a s r t want l h = 0) := Lib.hid (by unfold Slm.lfV; rw [h1, if_neg he])
    clear h1 he
    go_enter Try.func13, Try.ntmps13
    go_wp2_with (go_at_call 12; refine (Steer_any _ _ _ _ _ _ _ _).mono ?_; rintro e w1 ⟨rfl, hb1⟩; have hbase := hb0.trans (hb1.mono hb0.size))
    go_ret2
    exact ⟨ret_two hz2.out.symm hz.out.symm, hbase.alloc hbase.size _⟩
  obtain ⟨hB, hs0, q3, q4, q5⟩ := Slm.st_ok he
  obtain ⟨v1, ⟨t1, t2⟩, ⟨w1, w2⟩, ⟨l1, l2⟩, h3, h4⟩ := Slm.stB_bd hB
  obtain ⟨_, _, p1, p2, p3⟩ := Slm.sh_ok hs0
  have p4 := Slm.shn_bd v1 p1
  have p5 := (Slm.vO_bd v1).2.1.1
  have hE : Slm.lfE a s r t want l h = if 3000000000000000 - h < t ∨ 3000000000000000 - h < want then 3 else Slm.shE t (Slm.shn a s r t) (Slm.spd (want - Slm.shn a s r t) l h) (t + h) := by unfold Slm.lfE; rw [if_pos he]
  obtain ⟨M, hM, m1, m2, m3⟩ := max_is t want
  have hV : Slm.lfV a s r t want l h = if Slm.lfE a s r t want l h = 0 then want + h - Slm.shn t (Slm.shn a s r t) (Slm.spd (want - Slm.shn a s r t) l h) (t + h) else 0 := rfl
  clear hB hs0 v1 p1 p3
  generalize Slm.shn a s r t = S at *
  generalize Slm.spd (want - S) l h = R at *
  by_cases hf : 3000000000000000 - h < t ∨ 3000000000000000 - h < want
  · rw [if_pos hf] at hE
    rw [hE, if_neg (by omega)] at hV
    have hz := Lib.hid hE
    have hz2 := Lib.hid hV
    clear hE hV
    have hfM : 3000000000000000 - h < M := by omega
    go_enter Try.func13, Try.ntmps13
    go_wp2_with (go_at_call 12; refine (Steer_any _ _ _ _ _ _ _ _).mono ?_; rintro e w1 ⟨rfl, hb1⟩; have hbase := hb0.trans (hb1.mono hb0.size))
    go_ret2
    exact ⟨ret_two hz2.out.symm hz.out.symm, hbase.alloc hbase.size _⟩
  rw [if_neg hf] at hE
  have hfM : M ≤ 3000000000000000 - h := by omega
  by_cases he2 : Slm.shE t S R (t + h) = 0
  · rw [hE, if_pos he2] at hV
    have hz := Lib.hid (hE.trans he2)
    have hz2 := Lib.hid hV
    obtain ⟨g1, g2, g3, g4, g5⟩ := Slm.sh_ok he2
    have g6 := Slm.shn_bd g1 g3
    clear hE hV g1 g2
    generalize Slm.shn t S R (t + h) = S2 at *
    go_enter Try.func13, Try.ntmps13
    go_wp2_with (first | (go_at_call 12; refine (Steer_any _ _ _ _ _ _ _ _).mono ?_; rintro e w1 ⟨rfl, hb1⟩; have hbase := hb0.trans (hb1.mono hb0.size)) | (go_at_call 10; refine (Show_any _ _ _ _ _).mono ?_; rintro e w2 ⟨rfl, hb2⟩; have hbase2 := (hbase.alloc hbase.size _).trans (hb2.mono (hbase.alloc hbase.size _).size)))
    go_ret2
    exact ⟨ret_two hz2.out.symm hz.out.symm, hbase2⟩
  · have hn : (Slm.shE t S R (t + h) != 0) = true := by simpa using he2
    rw [hE, if_neg he2] at hV
    have hz := Lib.hid hE
    have hz2 := Lib.hid hV
    clear hE hV he2
    go_enter Try.func13, Try.ntmps13
    go_wp2_with (first | (go_at_call 12; refine (Steer_any _ _ _ _ _ _ _ _).mono ?_; rintro e w1 ⟨rfl, hb1⟩; have hbase := hb0.trans (hb1.mono hb0.size)) | (go_at_call 10; refine (Show_any _ _ _ _ _).mono ?_; rintro e w2 ⟨rfl, hb2⟩; have hbase2 := (hbase.alloc hbase.size _).trans (hb2.mono (hbase.alloc hbase.size _).size)))
    go_ret2
    exact ⟨ret_two hz2.out.symm hz.out.symm, hbase2⟩
theorem Start_c {a s : Int} {w0 w : World} (hb : Below w0.heap.size w0 w) : Calls Try.prog 16 #[.int .i64 a, .int .i64 s] w (RetB (.tuple #[O3 (oB (Slm.vO a s 0) a) (oB (Slm.vO a s 0) s) 0, .int .i64 (if Slm.vO a s 0 then 0 else 1)]) w0) := chain hb (Start_any a s w)
theorem Steer_c {a s r t want l h : Int} {w0 w : World} (hb : Below w0.heap.size w0 w) : Calls Try.prog 12 #[O3 a s r, .int .i64 t, .int .i64 want, .int .i64 l, .int .i64 h] w (RetB (.tuple #[O3 (Slm.stA a s r t want l h) (Slm.stS a s r t want l h) (Slm.stR a s r t want l h), .int .i64 (Slm.stE a s r t want l h)]) w0) := chain hb (Steer_any a s r t want l h w)
theorem Left_c {a s r t want l h : Int} {w0 w : World} (hb : Below w0.heap.size w0 w) : Calls Try.prog 13 #[O3 a s r, .int .i64 t, .int .i64 want, .int .i64 l, .int .i64 h] w (RetB (.tuple #[.int .i64 (Slm.lfV a s r t want l h), .int .i64 (Slm.lfE a s r t want l h)]) w0) := chain hb (Left_any a s r t want l h w)
end Go.Proofs.Ytoeaclkmnnopmaa
