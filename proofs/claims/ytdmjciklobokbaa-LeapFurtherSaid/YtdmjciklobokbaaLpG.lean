/- The walks of the laws of chapter 17: each returns true for every table and every number; nothing that was there has changed. -/
import Derived.Test.YtdmjciklobokbaaLpF
import Derived.Test.YtdmjciklobokbaaLpMath2
import Derived.Test.YtdmjciklobokbaaOpen
set_option linter.unusedVariables false
namespace Go.Proofs.Ytdmjciklobokbaa
open Go.RowKit

set_option maxHeartbeats 2000000 in
set_option maxRecDepth 100000 in
theorem matches_law (v : Value) (l : Lpm.LL) (day t : Int) (w : World) (ht : IsTab w v l) (h1 : (Lit.int .i64 day).wf = true) (h2 : (Lit.int .i64 t).wf = true) :
    Calls Try.prog 3 #[v, .int .i64 day, .int .i64 t] w (LawPost w) := by
  obtain ⟨A, n, c, rfl, _, _, _, hl⟩ := ht
  have hB := Nat.le_refl w.heap.size
  by_cases hn : n ≤ 110
  rotate_left
  · have hfew : decide (n ≤ 110) = false := by simpa using hn
    have hb := Below.refl w.heap.size w
    go_enter Try.func3, Try.ntmps3
    go_wp2_with (first | (go_at_call 10; refine (head_c (by assumption)).mono ?_; rintro e w1 ⟨rfl, hb⟩) | (go_at_call 11; refine (few_c (by assumption)).mono ?_; rintro e w1 ⟨rfl, hb⟩) | (go_at_call 22; refine (on_c (by omega) (by omega) (by assumption)).mono ?_; rintro e w1 ⟨rfl, hb⟩) | (go_at_call 14; refine (valid_c hl hB hn (by assumption)).mono ?_; rintro e w1 ⟨rfl, hb⟩) | (go_at_call 15; refine (refValid_c hl hB hn (by assumption)).mono ?_; rintro e w1 ⟨rfl, hb⟩) | (go_at_call 12; refine (Start_c hl hB hn (by assumption)).mono ?_; rintro e w1 ⟨rfl, hb⟩) | (go_at_call 16; refine (Length_c hl hB hn (by assumption)).mono ?_; rintro e w1 ⟨rfl, hb⟩) | (go_at_call 18; refine (Day_c hl hB hn (by assumption)).mono ?_; rintro e w1 ⟨rfl, hb⟩) | (go_at_call 20; refine (Offset_c hl hB hn (by assumption)).mono ?_; rintro e w1 ⟨rfl, hb⟩) | (go_at_call 13; refine (refStart_c hl hB hn (by assumption)).mono ?_; rintro e w1 ⟨rfl, hb⟩) | (go_at_call 17; refine (refLength_c hl hB hn (by assumption)).mono ?_; rintro e w1 ⟨rfl, hb⟩) | (go_at_call 19; refine (refDay_c hl hB hn (by assumption)).mono ?_; rintro e w1 ⟨rfl, hb⟩) | (go_at_call 21; refine (refOffset_c hl hB hn (by assumption)).mono ?_; rintro e w1 ⟨rfl, hb⟩))
    go_ret
    exact ⟨rfl, by assumption⟩
  have hfew : decide (n ≤ 110) = true := by simpa using hn
  have hb := Below.refl w.heap.size w
  have hself : (Lpm.valid l == Lpm.valid l) = true := by simp
  go_enter Try.func3, Try.ntmps3
  go_wp2_with (first | (go_at_call 10; refine (head_c (by assumption)).mono ?_; rintro e w1 ⟨rfl, hb⟩) | (go_at_call 11; refine (few_c (by assumption)).mono ?_; rintro e w1 ⟨rfl, hb⟩) | (go_at_call 22; refine (on_c (by omega) (by omega) (by assumption)).mono ?_; rintro e w1 ⟨rfl, hb⟩) | (go_at_call 14; refine (valid_c hl hB hn (by assumption)).mono ?_; rintro e w1 ⟨rfl, hb⟩) | (go_at_call 15; refine (refValid_c hl hB hn (by assumption)).mono ?_; rintro e w1 ⟨rfl, hb⟩) | (go_at_call 12; refine (Start_c hl hB hn (by assumption)).mono ?_; rintro e w1 ⟨rfl, hb⟩) | (go_at_call 16; refine (Length_c hl hB hn (by assumption)).mono ?_; rintro e w1 ⟨rfl, hb⟩) | (go_at_call 18; refine (Day_c hl hB hn (by assumption)).mono ?_; rintro e w1 ⟨rfl, hb⟩) | (go_at_call 20; refine (Offset_c hl hB hn (by assumption)).mono ?_; rintro e w1 ⟨rfl, hb⟩) | (go_at_call 13; refine (refStart_c hl hB hn (by assumption)).mono ?_; rintro e w1 ⟨rfl, hb⟩) | (go_at_call 17; refine (refLength_c hl hB hn (by assumption)).mono ?_; rintro e w1 ⟨rfl, hb⟩) | (go_at_call 19; refine (refDay_c hl hB hn (by assumption)).mono ?_; rintro e w1 ⟨rfl, hb⟩) | (go_at_call 21; refine (refOffset_c hl hB hn (by assumption)).mono ?_; rintro e w1 ⟨rfl, hb⟩))
  go_ret
  exact ⟨rfl, by assumption⟩

set_option maxHeartbeats 2000000 in
set_option maxRecDepth 100000 in
theorem days_law (v : Value) (l : Lpm.LL) (k : Int) (w : World) (ht : IsTab w v l) (h1 : (Lit.int .u32 k).wf = true) :
    Calls Try.prog 4 #[v, .int .u32 k] w (LawPost w) := by
  obtain ⟨A, n, c, rfl, _, _, _, hl⟩ := ht
  obtain ⟨k0, k1⟩ := bounds_u32 h1
  have hB := Nat.le_refl w.heap.size
  by_cases hn : n ≤ 110
  rotate_left
  · have hfew : decide (n ≤ 110) = false := by simpa using hn
    have hb := Below.refl w.heap.size w
    go_enter Try.func4, Try.ntmps4
    go_wp2_with (first | (go_at_call 10; refine (head_c (by assumption)).mono ?_; rintro e w1 ⟨rfl, hb⟩) | (go_at_call 11; refine (few_c (by assumption)).mono ?_; rintro e w1 ⟨rfl, hb⟩) | (go_at_call 22; refine (on_c (by omega) (by omega) (by assumption)).mono ?_; rintro e w1 ⟨rfl, hb⟩) | (go_at_call 14; refine (valid_c hl hB hn (by assumption)).mono ?_; rintro e w1 ⟨rfl, hb⟩) | (go_at_call 15; refine (refValid_c hl hB hn (by assumption)).mono ?_; rintro e w1 ⟨rfl, hb⟩) | (go_at_call 12; refine (Start_c hl hB hn (by assumption)).mono ?_; rintro e w1 ⟨rfl, hb⟩) | (go_at_call 16; refine (Length_c hl hB hn (by assumption)).mono ?_; rintro e w1 ⟨rfl, hb⟩) | (go_at_call 18; refine (Day_c hl hB hn (by assumption)).mono ?_; rintro e w1 ⟨rfl, hb⟩) | (go_at_call 20; refine (Offset_c hl hB hn (by assumption)).mono ?_; rintro e w1 ⟨rfl, hb⟩) | (go_at_call 13; refine (refStart_c hl hB hn (by assumption)).mono ?_; rintro e w1 ⟨rfl, hb⟩) | (go_at_call 17; refine (refLength_c hl hB hn (by assumption)).mono ?_; rintro e w1 ⟨rfl, hb⟩) | (go_at_call 19; refine (refDay_c hl hB hn (by assumption)).mono ?_; rintro e w1 ⟨rfl, hb⟩) | (go_at_call 21; refine (refOffset_c hl hB hn (by assumption)).mono ?_; rintro e w1 ⟨rfl, hb⟩))
    go_ret
    exact ⟨rfl, by assumption⟩
  have hfew : decide (n ≤ 110) = true := by simpa using hn
  have hb := Below.refl w.heap.size w
  cases hv : Lpm.valid l
  · go_enter Try.func4, Try.ntmps4
    go_wp2_with (first | (go_at_call 10; refine (head_c (by assumption)).mono ?_; rintro e w1 ⟨rfl, hb⟩) | (go_at_call 11; refine (few_c (by assumption)).mono ?_; rintro e w1 ⟨rfl, hb⟩) | (go_at_call 22; refine (on_c (by omega) (by omega) (by assumption)).mono ?_; rintro e w1 ⟨rfl, hb⟩) | (go_at_call 14; refine (valid_c hl hB hn (by assumption)).mono ?_; rintro e w1 ⟨rfl, hb⟩) | (go_at_call 15; refine (refValid_c hl hB hn (by assumption)).mono ?_; rintro e w1 ⟨rfl, hb⟩) | (go_at_call 12; refine (Start_c hl hB hn (by assumption)).mono ?_; rintro e w1 ⟨rfl, hb⟩) | (go_at_call 16; refine (Length_c hl hB hn (by assumption)).mono ?_; rintro e w1 ⟨rfl, hb⟩) | (go_at_call 18; refine (Day_c hl hB hn (by assumption)).mono ?_; rintro e w1 ⟨rfl, hb⟩) | (go_at_call 20; refine (Offset_c hl hB hn (by assumption)).mono ?_; rintro e w1 ⟨rfl, hb⟩) | (go_at_call 13; refine (refStart_c hl hB hn (by assumption)).mono ?_; rintro e w1 ⟨rfl, hb⟩) | (go_at_call 17; refine (refLength_c hl hB hn (by assumption)).mono ?_; rintro e w1 ⟨rfl, hb⟩) | (go_at_call 19; refine (refDay_c hl hB hn (by assumption)).mono ?_; rintro e w1 ⟨rfl, hb⟩) | (go_at_call 21; refine (refOffset_c hl hB hn (by assumption)).mono ?_; rintro e w1 ⟨rfl, hb⟩))
    go_ret
    exact ⟨rfl, by assumption⟩
  obtain ⟨a1, a2, a3⟩ := Lpm.st_yes (day := 0) hv (by omega) (by omega)
  rw [Lpm.start_zero hv] at a2
  clear a3
  by_cases hk : k % 34001 = 0
  · have hkb : (k % 34001 == 0) = true := by simpa using hk
    have Hk := Lib.hid hk
    clear hk
    go_enter Try.func4, Try.ntmps4
    go_wp2_with (first | (go_at_call 10; refine (head_c (by assumption)).mono ?_; rintro e w1 ⟨rfl, hb⟩) | (go_at_call 11; refine (few_c (by assumption)).mono ?_; rintro e w1 ⟨rfl, hb⟩) | (go_at_call 22; refine (on_c (by omega) (by omega) (by assumption)).mono ?_; rintro e w1 ⟨rfl, hb⟩) | (go_at_call 14; refine (valid_c hl hB hn (by assumption)).mono ?_; rintro e w1 ⟨rfl, hb⟩) | (go_at_call 15; refine (refValid_c hl hB hn (by assumption)).mono ?_; rintro e w1 ⟨rfl, hb⟩) | (go_at_call 12; refine (Start_c hl hB hn (by assumption)).mono ?_; rintro e w1 ⟨rfl, hb⟩) | (go_at_call 16; refine (Length_c hl hB hn (by assumption)).mono ?_; rintro e w1 ⟨rfl, hb⟩) | (go_at_call 18; refine (Day_c hl hB hn (by assumption)).mono ?_; rintro e w1 ⟨rfl, hb⟩) | (go_at_call 20; refine (Offset_c hl hB hn (by assumption)).mono ?_; rintro e w1 ⟨rfl, hb⟩) | (go_at_call 13; refine (refStart_c hl hB hn (by assumption)).mono ?_; rintro e w1 ⟨rfl, hb⟩) | (go_at_call 17; refine (refLength_c hl hB hn (by assumption)).mono ?_; rintro e w1 ⟨rfl, hb⟩) | (go_at_call 19; refine (refDay_c hl hB hn (by assumption)).mono ?_; rintro e w1 ⟨rfl, hb⟩) | (go_at_call 21; refine (refOffset_c hl hB hn (by assumption)).mono ?_; rintro e w1 ⟨rfl, hb⟩))
    go_ret
    exact ⟨rfl, by assumption⟩
  · have hkb : (k % 34001 == 0) = false := by simpa using hk
    obtain ⟨b1, b2, b3⟩ := Lpm.st_yes (day := k % 34001 - 1) hv (by omega) (by omega)
    obtain ⟨c1, c2, c3⟩ := Lpm.st_yes (day := k % 34001) hv (by omega) (by omega)
    rw [Int.sub_add_cancel] at b3
    have hbd := Lpm.start_bd (a := k % 34001) hv
    have hbd' := Lpm.start_bd (a := k % 34001 - 1) hv
    have hq : (Lpm.start l (k % 34001 - 1) + (Lpm.start l (k % 34001) - Lpm.start l (k % 34001 - 1)) == Lpm.start l (k % 34001)) = true := by rw [beq_iff_eq]; omega
    clear hk c3
    go_enter Try.func4, Try.ntmps4
    go_wp2_with (first | (go_at_call 10; refine (head_c (by assumption)).mono ?_; rintro e w1 ⟨rfl, hb⟩) | (go_at_call 11; refine (few_c (by assumption)).mono ?_; rintro e w1 ⟨rfl, hb⟩) | (go_at_call 22; refine (on_c (by omega) (by omega) (by assumption)).mono ?_; rintro e w1 ⟨rfl, hb⟩) | (go_at_call 14; refine (valid_c hl hB hn (by assumption)).mono ?_; rintro e w1 ⟨rfl, hb⟩) | (go_at_call 15; refine (refValid_c hl hB hn (by assumption)).mono ?_; rintro e w1 ⟨rfl, hb⟩) | (go_at_call 12; refine (Start_c hl hB hn (by assumption)).mono ?_; rintro e w1 ⟨rfl, hb⟩) | (go_at_call 16; refine (Length_c hl hB hn (by assumption)).mono ?_; rintro e w1 ⟨rfl, hb⟩) | (go_at_call 18; refine (Day_c hl hB hn (by assumption)).mono ?_; rintro e w1 ⟨rfl, hb⟩) | (go_at_call 20; refine (Offset_c hl hB hn (by assumption)).mono ?_; rintro e w1 ⟨rfl, hb⟩) | (go_at_call 13; refine (refStart_c hl hB hn (by assumption)).mono ?_; rintro e w1 ⟨rfl, hb⟩) | (go_at_call 17; refine (refLength_c hl hB hn (by assumption)).mono ?_; rintro e w1 ⟨rfl, hb⟩) | (go_at_call 19; refine (refDay_c hl hB hn (by assumption)).mono ?_; rintro e w1 ⟨rfl, hb⟩) | (go_at_call 21; refine (refOffset_c hl hB hn (by assumption)).mono ?_; rintro e w1 ⟨rfl, hb⟩))
    go_ret
    exact ⟨rfl, by assumption⟩

set_option maxHeartbeats 2000000 in
set_option maxRecDepth 100000 in
theorem times_law (v : Value) (l : Lpm.LL) (x : Int) (w : World) (ht : IsTab w v l) (h1 : (Lit.int .u64 x).wf = true) :
    Calls Try.prog 5 #[v, .int .u64 x] w (LawPost w) := by
  obtain ⟨A, n, c, rfl, _, _, _, hl⟩ := ht
  obtain ⟨k0, k1⟩ := bounds_u64 h1
  have hB := Nat.le_refl w.heap.size
  by_cases hn : n ≤ 110
  rotate_left
  · have hfew : decide (n ≤ 110) = false := by simpa using hn
    have hb := Below.refl w.heap.size w
    go_enter Try.func5, Try.ntmps5
    go_wp2_with (first | (go_at_call 10; refine (head_c (by assumption)).mono ?_; rintro e w1 ⟨rfl, hb⟩) | (go_at_call 11; refine (few_c (by assumption)).mono ?_; rintro e w1 ⟨rfl, hb⟩) | (go_at_call 22; refine (on_c (by omega) (by omega) (by assumption)).mono ?_; rintro e w1 ⟨rfl, hb⟩) | (go_at_call 14; refine (valid_c hl hB hn (by assumption)).mono ?_; rintro e w1 ⟨rfl, hb⟩) | (go_at_call 15; refine (refValid_c hl hB hn (by assumption)).mono ?_; rintro e w1 ⟨rfl, hb⟩) | (go_at_call 12; refine (Start_c hl hB hn (by assumption)).mono ?_; rintro e w1 ⟨rfl, hb⟩) | (go_at_call 16; refine (Length_c hl hB hn (by assumption)).mono ?_; rintro e w1 ⟨rfl, hb⟩) | (go_at_call 18; refine (Day_c hl hB hn (by assumption)).mono ?_; rintro e w1 ⟨rfl, hb⟩) | (go_at_call 20; refine (Offset_c hl hB hn (by assumption)).mono ?_; rintro e w1 ⟨rfl, hb⟩) | (go_at_call 13; refine (refStart_c hl hB hn (by assumption)).mono ?_; rintro e w1 ⟨rfl, hb⟩) | (go_at_call 17; refine (refLength_c hl hB hn (by assumption)).mono ?_; rintro e w1 ⟨rfl, hb⟩) | (go_at_call 19; refine (refDay_c hl hB hn (by assumption)).mono ?_; rintro e w1 ⟨rfl, hb⟩) | (go_at_call 21; refine (refOffset_c hl hB hn (by assumption)).mono ?_; rintro e w1 ⟨rfl, hb⟩))
    go_ret
    exact ⟨rfl, by assumption⟩
  have hfew : decide (n ≤ 110) = true := by simpa using hn
  have hb := Below.refl w.heap.size w
  cases hv : Lpm.valid l
  · go_enter Try.func5, Try.ntmps5
    go_wp2_with (first | (go_at_call 10; refine (head_c (by assumption)).mono ?_; rintro e w1 ⟨rfl, hb⟩) | (go_at_call 11; refine (few_c (by assumption)).mono ?_; rintro e w1 ⟨rfl, hb⟩) | (go_at_call 22; refine (on_c (by omega) (by omega) (by assumption)).mono ?_; rintro e w1 ⟨rfl, hb⟩) | (go_at_call 14; refine (valid_c hl hB hn (by assumption)).mono ?_; rintro e w1 ⟨rfl, hb⟩) | (go_at_call 15; refine (refValid_c hl hB hn (by assumption)).mono ?_; rintro e w1 ⟨rfl, hb⟩) | (go_at_call 12; refine (Start_c hl hB hn (by assumption)).mono ?_; rintro e w1 ⟨rfl, hb⟩) | (go_at_call 16; refine (Length_c hl hB hn (by assumption)).mono ?_; rintro e w1 ⟨rfl, hb⟩) | (go_at_call 18; refine (Day_c hl hB hn (by assumption)).mono ?_; rintro e w1 ⟨rfl, hb⟩) | (go_at_call 20; refine (Offset_c hl hB hn (by assumption)).mono ?_; rintro e w1 ⟨rfl, hb⟩) | (go_at_call 13; refine (refStart_c hl hB hn (by assumption)).mono ?_; rintro e w1 ⟨rfl, hb⟩) | (go_at_call 17; refine (refLength_c hl hB hn (by assumption)).mono ?_; rintro e w1 ⟨rfl, hb⟩) | (go_at_call 19; refine (refDay_c hl hB hn (by assumption)).mono ?_; rintro e w1 ⟨rfl, hb⟩) | (go_at_call 21; refine (refOffset_c hl hB hn (by assumption)).mono ?_; rintro e w1 ⟨rfl, hb⟩))
    go_ret
    exact ⟨rfl, by assumption⟩
  obtain ⟨a1, a2, a3⟩ := Lpm.st_yes (day := 34000) hv (by omega) (by omega)
  have hbd := Lpm.start_bd (a := 34000) hv
  have hlast := Lib.hid (Lpm.start_last hv)
  clear a3
  by_cases hf : Lpm.start l 34000 + 86400000000 ≤ x % 3000000000000001
  · obtain ⟨z1, z2, z3⟩ := Lpm.d_far (t := x % 3000000000000001) hv (by omega) (by omega) (by rw [Lpm.dayNo_out hv (by rw [hlast.out]; exact hf)]; omega)
    clear z3
    go_enter Try.func5, Try.ntmps5
    go_wp2_with (first | (go_at_call 10; refine (head_c (by assumption)).mono ?_; rintro e w1 ⟨rfl, hb⟩) | (go_at_call 11; refine (few_c (by assumption)).mono ?_; rintro e w1 ⟨rfl, hb⟩) | (go_at_call 22; refine (on_c (by omega) (by omega) (by assumption)).mono ?_; rintro e w1 ⟨rfl, hb⟩) | (go_at_call 14; refine (valid_c hl hB hn (by assumption)).mono ?_; rintro e w1 ⟨rfl, hb⟩) | (go_at_call 15; refine (refValid_c hl hB hn (by assumption)).mono ?_; rintro e w1 ⟨rfl, hb⟩) | (go_at_call 12; refine (Start_c hl hB hn (by assumption)).mono ?_; rintro e w1 ⟨rfl, hb⟩) | (go_at_call 16; refine (Length_c hl hB hn (by assumption)).mono ?_; rintro e w1 ⟨rfl, hb⟩) | (go_at_call 18; refine (Day_c hl hB hn (by assumption)).mono ?_; rintro e w1 ⟨rfl, hb⟩) | (go_at_call 20; refine (Offset_c hl hB hn (by assumption)).mono ?_; rintro e w1 ⟨rfl, hb⟩) | (go_at_call 13; refine (refStart_c hl hB hn (by assumption)).mono ?_; rintro e w1 ⟨rfl, hb⟩) | (go_at_call 17; refine (refLength_c hl hB hn (by assumption)).mono ?_; rintro e w1 ⟨rfl, hb⟩) | (go_at_call 19; refine (refDay_c hl hB hn (by assumption)).mono ?_; rintro e w1 ⟨rfl, hb⟩) | (go_at_call 21; refine (refOffset_c hl hB hn (by assumption)).mono ?_; rintro e w1 ⟨rfl, hb⟩))
    go_ret
    exact ⟨rfl, by assumption⟩
  · obtain ⟨g1, g2, g3⟩ := Lpm.dayNo_in (t := x % 3000000000000001) hv (by omega) (by rw [hlast.out]; omega)
    obtain ⟨z1, z2, z3⟩ := Lpm.d_yes (t := x % 3000000000000001) hv (by omega) (by omega) g1
    have g0 := (Lpm.dayNo_spec l (x % 3000000000000001)).1
    clear z3
    generalize Lpm.dayNo l (x % 3000000000000001) = d at *
    obtain ⟨b1, b2, b3⟩ := Lpm.st_yes (day := d) hv g0 g1
    have hbd' := Lpm.start_bd (a := d) hv
    have hbd2 := Lpm.start_bd (a := d + 1) hv
    have q1 : decide (Lpm.start l d ≤ x % 3000000000000001) = true := by simpa using g2
    have q2 : decide (x % 3000000000000001 < Lpm.start l d + (Lpm.start l (d + 1) - Lpm.start l d)) = true := by simp; omega
    go_enter Try.func5, Try.ntmps5
    go_wp2_with (first | (go_at_call 10; refine (head_c (by assumption)).mono ?_; rintro e w1 ⟨rfl, hb⟩) | (go_at_call 11; refine (few_c (by assumption)).mono ?_; rintro e w1 ⟨rfl, hb⟩) | (go_at_call 22; refine (on_c (by omega) (by omega) (by assumption)).mono ?_; rintro e w1 ⟨rfl, hb⟩) | (go_at_call 14; refine (valid_c hl hB hn (by assumption)).mono ?_; rintro e w1 ⟨rfl, hb⟩) | (go_at_call 15; refine (refValid_c hl hB hn (by assumption)).mono ?_; rintro e w1 ⟨rfl, hb⟩) | (go_at_call 12; refine (Start_c hl hB hn (by assumption)).mono ?_; rintro e w1 ⟨rfl, hb⟩) | (go_at_call 16; refine (Length_c hl hB hn (by assumption)).mono ?_; rintro e w1 ⟨rfl, hb⟩) | (go_at_call 18; refine (Day_c hl hB hn (by assumption)).mono ?_; rintro e w1 ⟨rfl, hb⟩) | (go_at_call 20; refine (Offset_c hl hB hn (by assumption)).mono ?_; rintro e w1 ⟨rfl, hb⟩) | (go_at_call 13; refine (refStart_c hl hB hn (by assumption)).mono ?_; rintro e w1 ⟨rfl, hb⟩) | (go_at_call 17; refine (refLength_c hl hB hn (by assumption)).mono ?_; rintro e w1 ⟨rfl, hb⟩) | (go_at_call 19; refine (refDay_c hl hB hn (by assumption)).mono ?_; rintro e w1 ⟨rfl, hb⟩) | (go_at_call 21; refine (refOffset_c hl hB hn (by assumption)).mono ?_; rintro e w1 ⟨rfl, hb⟩))
    go_ret
    exact ⟨rfl, by assumption⟩

set_option maxHeartbeats 2000000 in
set_option maxRecDepth 100000 in
theorem offsets_law (v : Value) (l : Lpm.LL) (x : Int) (w : World) (ht : IsTab w v l) (h1 : (Lit.int .u64 x).wf = true) :
    Calls Try.prog 6 #[v, .int .u64 x] w (LawPost w) := by
  obtain ⟨A, n, c, rfl, _, _, _, hl⟩ := ht
  obtain ⟨k0, k1⟩ := bounds_u64 h1
  have hB := Nat.le_refl w.heap.size
  by_cases hn : n ≤ 110
  rotate_left
  · have hfew : decide (n ≤ 110) = false := by simpa using hn
    have hb := Below.refl w.heap.size w
    go_enter Try.func6, Try.ntmps6
    go_wp2_with (first | (go_at_call 10; refine (head_c (by assumption)).mono ?_; rintro e w1 ⟨rfl, hb⟩) | (go_at_call 11; refine (few_c (by assumption)).mono ?_; rintro e w1 ⟨rfl, hb⟩) | (go_at_call 22; refine (on_c (by omega) (by omega) (by assumption)).mono ?_; rintro e w1 ⟨rfl, hb⟩) | (go_at_call 14; refine (valid_c hl hB hn (by assumption)).mono ?_; rintro e w1 ⟨rfl, hb⟩) | (go_at_call 15; refine (refValid_c hl hB hn (by assumption)).mono ?_; rintro e w1 ⟨rfl, hb⟩) | (go_at_call 12; refine (Start_c hl hB hn (by assumption)).mono ?_; rintro e w1 ⟨rfl, hb⟩) | (go_at_call 16; refine (Length_c hl hB hn (by assumption)).mono ?_; rintro e w1 ⟨rfl, hb⟩) | (go_at_call 18; refine (Day_c hl hB hn (by assumption)).mono ?_; rintro e w1 ⟨rfl, hb⟩) | (go_at_call 20; refine (Offset_c hl hB hn (by assumption)).mono ?_; rintro e w1 ⟨rfl, hb⟩) | (go_at_call 13; refine (refStart_c hl hB hn (by assumption)).mono ?_; rintro e w1 ⟨rfl, hb⟩) | (go_at_call 17; refine (refLength_c hl hB hn (by assumption)).mono ?_; rintro e w1 ⟨rfl, hb⟩) | (go_at_call 19; refine (refDay_c hl hB hn (by assumption)).mono ?_; rintro e w1 ⟨rfl, hb⟩) | (go_at_call 21; refine (refOffset_c hl hB hn (by assumption)).mono ?_; rintro e w1 ⟨rfl, hb⟩))
    go_ret
    exact ⟨rfl, by assumption⟩
  have hfew : decide (n ≤ 110) = true := by simpa using hn
  have hb := Below.refl w.heap.size w
  cases hv : Lpm.valid l
  · go_enter Try.func6, Try.ntmps6
    go_wp2_with (first | (go_at_call 10; refine (head_c (by assumption)).mono ?_; rintro e w1 ⟨rfl, hb⟩) | (go_at_call 11; refine (few_c (by assumption)).mono ?_; rintro e w1 ⟨rfl, hb⟩) | (go_at_call 22; refine (on_c (by omega) (by omega) (by assumption)).mono ?_; rintro e w1 ⟨rfl, hb⟩) | (go_at_call 14; refine (valid_c hl hB hn (by assumption)).mono ?_; rintro e w1 ⟨rfl, hb⟩) | (go_at_call 15; refine (refValid_c hl hB hn (by assumption)).mono ?_; rintro e w1 ⟨rfl, hb⟩) | (go_at_call 12; refine (Start_c hl hB hn (by assumption)).mono ?_; rintro e w1 ⟨rfl, hb⟩) | (go_at_call 16; refine (Length_c hl hB hn (by assumption)).mono ?_; rintro e w1 ⟨rfl, hb⟩) | (go_at_call 18; refine (Day_c hl hB hn (by assumption)).mono ?_; rintro e w1 ⟨rfl, hb⟩) | (go_at_call 20; refine (Offset_c hl hB hn (by assumption)).mono ?_; rintro e w1 ⟨rfl, hb⟩) | (go_at_call 13; refine (refStart_c hl hB hn (by assumption)).mono ?_; rintro e w1 ⟨rfl, hb⟩) | (go_at_call 17; refine (refLength_c hl hB hn (by assumption)).mono ?_; rintro e w1 ⟨rfl, hb⟩) | (go_at_call 19; refine (refDay_c hl hB hn (by assumption)).mono ?_; rintro e w1 ⟨rfl, hb⟩) | (go_at_call 21; refine (refOffset_c hl hB hn (by assumption)).mono ?_; rintro e w1 ⟨rfl, hb⟩))
    go_ret
    exact ⟨rfl, by assumption⟩
  by_cases hf : 34000 < Lpm.dayNo l (x % 3000000000000001)
  · obtain ⟨z1, z2, z3⟩ := Lpm.d_far (t := x % 3000000000000001) hv (by omega) (by omega) hf
    clear hf
    go_enter Try.func6, Try.ntmps6
    go_wp2_with (first | (go_at_call 10; refine (head_c (by assumption)).mono ?_; rintro e w1 ⟨rfl, hb⟩) | (go_at_call 11; refine (few_c (by assumption)).mono ?_; rintro e w1 ⟨rfl, hb⟩) | (go_at_call 22; refine (on_c (by omega) (by omega) (by assumption)).mono ?_; rintro e w1 ⟨rfl, hb⟩) | (go_at_call 14; refine (valid_c hl hB hn (by assumption)).mono ?_; rintro e w1 ⟨rfl, hb⟩) | (go_at_call 15; refine (refValid_c hl hB hn (by assumption)).mono ?_; rintro e w1 ⟨rfl, hb⟩) | (go_at_call 12; refine (Start_c hl hB hn (by assumption)).mono ?_; rintro e w1 ⟨rfl, hb⟩) | (go_at_call 16; refine (Length_c hl hB hn (by assumption)).mono ?_; rintro e w1 ⟨rfl, hb⟩) | (go_at_call 18; refine (Day_c hl hB hn (by assumption)).mono ?_; rintro e w1 ⟨rfl, hb⟩) | (go_at_call 20; refine (Offset_c hl hB hn (by assumption)).mono ?_; rintro e w1 ⟨rfl, hb⟩) | (go_at_call 13; refine (refStart_c hl hB hn (by assumption)).mono ?_; rintro e w1 ⟨rfl, hb⟩) | (go_at_call 17; refine (refLength_c hl hB hn (by assumption)).mono ?_; rintro e w1 ⟨rfl, hb⟩) | (go_at_call 19; refine (refDay_c hl hB hn (by assumption)).mono ?_; rintro e w1 ⟨rfl, hb⟩) | (go_at_call 21; refine (refOffset_c hl hB hn (by assumption)).mono ?_; rintro e w1 ⟨rfl, hb⟩))
    go_ret
    exact ⟨rfl, by assumption⟩
  · obtain ⟨z1, z2, z3⟩ := Lpm.d_yes (t := x % 3000000000000001) hv (by omega) (by omega) (by omega)
    have g0 := (Lpm.dayNo_spec l (x % 3000000000000001)).1
    generalize Lpm.dayNo l (x % 3000000000000001) = d at *
    obtain ⟨b1, b2, b3⟩ := Lpm.st_yes (day := d) hv g0 (by omega)
    have hbd := Lpm.ofs_bd (day := d) hv
    have hlen := Lpm.ofs_len (day := d) hv
    have hl1 := hl.1
    have hl2 : Lpm.ofs l d ≤ (n : Int) := by omega
    have hl3 : -Lpm.ofs l d ≤ (n : Int) := by omega
    have hs : Lpm.start l d = d * 86400000000 + Lpm.ofs l d * 1000000 := rfl
    have hq : (x % 3000000000000001 == d * 86400000000 + Lpm.ofs l d * 1000000 + (x % 3000000000000001 - Lpm.start l d)) = true := by rw [beq_iff_eq]; omega
    have hq2 : (Lpm.start l d == d * 86400000000 + Lpm.ofs l d * 1000000) = true := by rw [beq_iff_eq]; omega
    have hbd2 := Lpm.start_bd (a := d) hv
    clear b3 hl1 hs hlen
    go_enter Try.func6, Try.ntmps6
    go_wp2_with (first | (go_at_call 10; refine (head_c (by assumption)).mono ?_; rintro e w1 ⟨rfl, hb⟩) | (go_at_call 11; refine (few_c (by assumption)).mono ?_; rintro e w1 ⟨rfl, hb⟩) | (go_at_call 22; refine (on_c (by omega) (by omega) (by assumption)).mono ?_; rintro e w1 ⟨rfl, hb⟩) | (go_at_call 14; refine (valid_c hl hB hn (by assumption)).mono ?_; rintro e w1 ⟨rfl, hb⟩) | (go_at_call 15; refine (refValid_c hl hB hn (by assumption)).mono ?_; rintro e w1 ⟨rfl, hb⟩) | (go_at_call 12; refine (Start_c hl hB hn (by assumption)).mono ?_; rintro e w1 ⟨rfl, hb⟩) | (go_at_call 16; refine (Length_c hl hB hn (by assumption)).mono ?_; rintro e w1 ⟨rfl, hb⟩) | (go_at_call 18; refine (Day_c hl hB hn (by assumption)).mono ?_; rintro e w1 ⟨rfl, hb⟩) | (go_at_call 20; refine (Offset_c hl hB hn (by assumption)).mono ?_; rintro e w1 ⟨rfl, hb⟩) | (go_at_call 13; refine (refStart_c hl hB hn (by assumption)).mono ?_; rintro e w1 ⟨rfl, hb⟩) | (go_at_call 17; refine (refLength_c hl hB hn (by assumption)).mono ?_; rintro e w1 ⟨rfl, hb⟩) | (go_at_call 19; refine (refDay_c hl hB hn (by assumption)).mono ?_; rintro e w1 ⟨rfl, hb⟩) | (go_at_call 21; refine (refOffset_c hl hB hn (by assumption)).mono ?_; rintro e w1 ⟨rfl, hb⟩))
    go_ret
    exact ⟨rfl, by assumption⟩

/-- of two times the later one has no earlier day -/
theorem day_mono {l : Lpm.LL} {s t : Int} (h : s ≤ t) : Lpm.dayNo l s ≤ Lpm.dayNo l t := by
  obtain ⟨a1, a2, a3, a4⟩ := Lpm.dayNo_spec l s
  obtain ⟨b1, b2, b3, b4⟩ := Lpm.dayNo_spec l t
  rcases Int.lt_or_le (Lpm.dayNo l t) (Lpm.dayNo l s) with hlt | hle
  · have := a3 _ b1 hlt; have := b4 (by omega); omega
  · exact hle
/-- the three ways in which two times have days -/
theorem two_days {l : Lpm.LL} {s t : Int} (hv : Lpm.valid l = true) (h0 : 0 ≤ s) (h : s ≤ t) (h1 : t ≤ 3000000000000000) :
    (Lpm.dE l t = 3) ∨ (Lpm.dE l t = 0 ∧ Lpm.dE l s = 0 ∧ Lpm.dV l s ≤ Lpm.dV l t) := by
  have hm := day_mono (l := l) h
  by_cases hf : 34000 < Lpm.dayNo l t
  · exact .inl (Lpm.d_far hv (by omega) h1 hf).1
  · have a := Lpm.d_yes (t := t) hv (by omega) h1 (by omega)
    have b := Lpm.d_yes (t := s) hv h0 (by omega) (by omega)
    exact .inr ⟨a.1, b.1, by rw [a.2.1, b.2.1]; exact hm⟩
set_option maxHeartbeats 2000000 in
set_option maxRecDepth 100000 in
theorem order_law (v : Value) (l : Lpm.LL) (x y m k : Int) (w : World) (ht : IsTab w v l) (h1 : (Lit.int .u64 x).wf = true) (h2 : (Lit.int .u64 y).wf = true) (h3 : (Lit.int .u32 m).wf = true) (h4 : (Lit.int .u32 k).wf = true) :
    Calls Try.prog 8 #[v, .int .u64 x, .int .u64 y, .int .u32 m, .int .u32 k] w (LawPost w) := by
  obtain ⟨A, n, c, rfl, _, _, _, hl⟩ := ht
  obtain ⟨x0, x1⟩ := bounds_u64 h1
  obtain ⟨y0, y1⟩ := bounds_u64 h2
  obtain ⟨m0, m1⟩ := bounds_u32 h3
  obtain ⟨k0, k1⟩ := bounds_u32 h4
  have hB := Nat.le_refl w.heap.size
  by_cases hn : n ≤ 110
  rotate_left
  · have hfew : decide (n ≤ 110) = false := by simpa using hn
    have hb := Below.refl w.heap.size w
    go_enter Try.func8, Try.ntmps8
    go_wp2_with (first | (go_at_call 10; refine (head_c (by assumption)).mono ?_; rintro e w1 ⟨rfl, hb⟩) | (go_at_call 11; refine (few_c (by assumption)).mono ?_; rintro e w1 ⟨rfl, hb⟩) | (go_at_call 22; refine (on_c (by omega) (by omega) (by assumption)).mono ?_; rintro e w1 ⟨rfl, hb⟩) | (go_at_call 14; refine (valid_c hl hB hn (by assumption)).mono ?_; rintro e w1 ⟨rfl, hb⟩) | (go_at_call 15; refine (refValid_c hl hB hn (by assumption)).mono ?_; rintro e w1 ⟨rfl, hb⟩) | (go_at_call 12; refine (Start_c hl hB hn (by assumption)).mono ?_; rintro e w1 ⟨rfl, hb⟩) | (go_at_call 16; refine (Length_c hl hB hn (by assumption)).mono ?_; rintro e w1 ⟨rfl, hb⟩) | (go_at_call 18; refine (Day_c hl hB hn (by assumption)).mono ?_; rintro e w1 ⟨rfl, hb⟩) | (go_at_call 20; refine (Offset_c hl hB hn (by assumption)).mono ?_; rintro e w1 ⟨rfl, hb⟩) | (go_at_call 13; refine (refStart_c hl hB hn (by assumption)).mono ?_; rintro e w1 ⟨rfl, hb⟩) | (go_at_call 17; refine (refLength_c hl hB hn (by assumption)).mono ?_; rintro e w1 ⟨rfl, hb⟩) | (go_at_call 19; refine (refDay_c hl hB hn (by assumption)).mono ?_; rintro e w1 ⟨rfl, hb⟩) | (go_at_call 21; refine (refOffset_c hl hB hn (by assumption)).mono ?_; rintro e w1 ⟨rfl, hb⟩))
    go_ret
    exact ⟨rfl, by assumption⟩
  have hfew : decide (n ≤ 110) = true := by simpa using hn
  have hb := Below.refl w.heap.size w
  cases hv : Lpm.valid l
  · go_enter Try.func8, Try.ntmps8
    go_wp2_with (first | (go_at_call 10; refine (head_c (by assumption)).mono ?_; rintro e w1 ⟨rfl, hb⟩) | (go_at_call 11; refine (few_c (by assumption)).mono ?_; rintro e w1 ⟨rfl, hb⟩) | (go_at_call 22; refine (on_c (by omega) (by omega) (by assumption)).mono ?_; rintro e w1 ⟨rfl, hb⟩) | (go_at_call 14; refine (valid_c hl hB hn (by assumption)).mono ?_; rintro e w1 ⟨rfl, hb⟩) | (go_at_call 15; refine (refValid_c hl hB hn (by assumption)).mono ?_; rintro e w1 ⟨rfl, hb⟩) | (go_at_call 12; refine (Start_c hl hB hn (by assumption)).mono ?_; rintro e w1 ⟨rfl, hb⟩) | (go_at_call 16; refine (Length_c hl hB hn (by assumption)).mono ?_; rintro e w1 ⟨rfl, hb⟩) | (go_at_call 18; refine (Day_c hl hB hn (by assumption)).mono ?_; rintro e w1 ⟨rfl, hb⟩) | (go_at_call 20; refine (Offset_c hl hB hn (by assumption)).mono ?_; rintro e w1 ⟨rfl, hb⟩) | (go_at_call 13; refine (refStart_c hl hB hn (by assumption)).mono ?_; rintro e w1 ⟨rfl, hb⟩) | (go_at_call 17; refine (refLength_c hl hB hn (by assumption)).mono ?_; rintro e w1 ⟨rfl, hb⟩) | (go_at_call 19; refine (refDay_c hl hB hn (by assumption)).mono ?_; rintro e w1 ⟨rfl, hb⟩) | (go_at_call 21; refine (refOffset_c hl hB hn (by assumption)).mono ?_; rintro e w1 ⟨rfl, hb⟩))
    go_ret
    exact ⟨rfl, by assumption⟩
  obtain ⟨a1, a2, a3⟩ := Lpm.st_yes (day := m % 34001) hv (by omega) (by omega)
  obtain ⟨b1, b2, b3⟩ := Lpm.st_yes (day := k % 34001) hv (by omega) (by omega)
  have hlen := Lpm.len_bd (day := k % 34001) hv
  have hcmp : (Lpm.start l (m % 34001) < Lpm.start l (k % 34001) ∧ m % 34001 < k % 34001) ∨ (Lpm.start l (k % 34001) ≤ Lpm.start l (m % 34001) ∧ k % 34001 ≤ m % 34001) := by
    rcases Int.lt_or_le (m % 34001) (k % 34001) with h | h
    · exact .inl ⟨Lpm.start_lt hv h, h⟩
    · exact .inr ⟨Lpm.start_le hv h, h⟩
  have s1 := Lpm.start_bd (a := k % 34001) hv
  have s2 := Lpm.start_bd (a := k % 34001 + 1) hv
  have s3 := Lpm.start_bd (a := m % 34001) hv
  clear a3
  have hways : (x % 3000000000000001 < y % 3000000000000001 ∧ (Lpm.dE l (y % 3000000000000001) = 3 ∨ Lpm.dE l (y % 3000000000000001) = 0 ∧ Lpm.dE l (x % 3000000000000001) = 0 ∧ Lpm.dV l (x % 3000000000000001) ≤ Lpm.dV l (y % 3000000000000001))) ∨
      (y % 3000000000000001 < x % 3000000000000001 ∧ (Lpm.dE l (x % 3000000000000001) = 3 ∨ Lpm.dE l (x % 3000000000000001) = 0 ∧ Lpm.dE l (y % 3000000000000001) = 0 ∧ Lpm.dV l (y % 3000000000000001) ≤ Lpm.dV l (x % 3000000000000001))) ∨
      (y % 3000000000000001 = x % 3000000000000001 ∧ (Lpm.dE l (x % 3000000000000001) = 3 ∨ Lpm.dE l (x % 3000000000000001) = 0 ∧ Lpm.dE l (x % 3000000000000001) = 0 ∧ Lpm.dV l (x % 3000000000000001) ≤ Lpm.dV l (x % 3000000000000001))) := by
    rcases Int.lt_trichotomy (x % 3000000000000001) (y % 3000000000000001) with h | h | h
    · exact .inl ⟨h, two_days hv (by omega) (by omega) (by omega)⟩
    · exact .inr (.inr ⟨h.symm, two_days hv (by omega) (by omega) (by omega)⟩)
    · exact .inr (.inl ⟨h, two_days hv (by omega) (by omega) (by omega)⟩)
  rcases hways with ⟨hxy, z | ⟨z1, z2, z3⟩⟩ | ⟨hxy, z | ⟨z1, z2, z3⟩⟩ | ⟨hxy, z | ⟨z1, z2, z3⟩⟩
  all_goals rcases hcmp with ⟨p1, p2⟩ | ⟨p1, p2⟩
  all_goals
    go_enter Try.func8, Try.ntmps8
    go_wp2_with (first | (go_at_call 10; refine (head_c (by assumption)).mono ?_; rintro e w1 ⟨rfl, hb⟩) | (go_at_call 11; refine (few_c (by assumption)).mono ?_; rintro e w1 ⟨rfl, hb⟩) | (go_at_call 22; refine (on_c (by omega) (by omega) (by assumption)).mono ?_; rintro e w1 ⟨rfl, hb⟩) | (go_at_call 14; refine (valid_c hl hB hn (by assumption)).mono ?_; rintro e w1 ⟨rfl, hb⟩) | (go_at_call 15; refine (refValid_c hl hB hn (by assumption)).mono ?_; rintro e w1 ⟨rfl, hb⟩) | (go_at_call 12; refine (Start_c hl hB hn (by assumption)).mono ?_; rintro e w1 ⟨rfl, hb⟩) | (go_at_call 16; refine (Length_c hl hB hn (by assumption)).mono ?_; rintro e w1 ⟨rfl, hb⟩) | (go_at_call 18; refine (Day_c hl hB hn (by assumption)).mono ?_; rintro e w1 ⟨rfl, hb⟩) | (go_at_call 20; refine (Offset_c hl hB hn (by assumption)).mono ?_; rintro e w1 ⟨rfl, hb⟩) | (go_at_call 13; refine (refStart_c hl hB hn (by assumption)).mono ?_; rintro e w1 ⟨rfl, hb⟩) | (go_at_call 17; refine (refLength_c hl hB hn (by assumption)).mono ?_; rintro e w1 ⟨rfl, hb⟩) | (go_at_call 19; refine (refDay_c hl hB hn (by assumption)).mono ?_; rintro e w1 ⟨rfl, hb⟩) | (go_at_call 21; refine (refOffset_c hl hB hn (by assumption)).mono ?_; rintro e w1 ⟨rfl, hb⟩))
    go_ret
    exact ⟨rfl, by assumption⟩
end Go.Proofs.Ytdmjciklobokbaa
