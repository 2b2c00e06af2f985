/- The contract of the head of the laws of chapter 9. -/
import Derived.Test.YtoeaclkmnnopmaaSlD
set_option linter.unusedVariables false
namespace Go.Proofs.Ytoeaclkmnnopmaa
open Go.RowKit
theorem keep' {W W' : World} {k : Nat} {o : Obj} (h : W.heap[k]? = some o) (hb : Below W.heap.size W W') : W'.heap[k]? = some o := keep h hb (by
  rcases Nat.lt_or_ge k W.heap.size with h1 | h1
  · exact h1
  · rw [Array.getElem?_eq_none h1] at h; cases h)
theorem keepA {W W' : World} {k : Nat} {o p : Obj} (h : W.heap[k]? = some o) (hb : Below (W.alloc p).heap.size (W.alloc p) W') : W'.heap[k]? = some o := keep' ((Below.heap_alloc _ _ _ (by
  rcases Nat.lt_or_ge k W.heap.size with h1 | h1
  · exact h1
  · rw [Array.getElem?_eq_none h1] at h; cases h)).trans h) hb
def LawPost (w : World) (e : Ending) (w' : World) : Prop := e = .returned (.bool true) ∧ Below w.heap.size w w'
theorem Below.go {w0 W w : World} (h : Below w0.heap.size w0 W) (hb : Below W.heap.size W w) : Below w0.heap.size w0 w := h.trans (hb.mono h.size)
theorem Below.goA {w0 W w : World} {o : Obj} (h : Below w0.heap.size w0 W) (hb : Below (W.alloc o).heap.size (W.alloc o) w) : Below w0.heap.size w0 w := Below.go (h.alloc h.size o) hb
set_option maxHeartbeats 1000000 in
set_option maxRecDepth 100000 in
theorem head_any (w : World) : Calls Try.prog 9 #[] w (RetB (.bool true) w) := by
  have a1 : Slm.vO 0 1000 0 = true := by decide
  have a2 : oB true 0 = 0 := by decide
  have a3 : oB true 1000 = 1000 := by decide
  have b1 : Slm.stA 0 1000 0 2000 4000 100000000 20000 = 2000 := by decide
  have b2 : Slm.stS 0 1000 0 2000 4000 100000000 20000 = 3000 := by decide
  have b3 : Slm.stR 0 1000 0 2000 4000 100000000 20000 = 50000000 := by decide
  have b4 : Slm.stE 0 1000 0 2000 4000 100000000 20000 = 0 := by decide
  have c1 : Slm.shV 2000 3000 50000000 22000 = 24000 := by decide
  have c2 : Slm.shE 2000 3000 50000000 22000 = 0 := by decide
  have d1 : Slm.lfV 0 1000 0 2000 4000 100000000 20000 = 0 := by decide
  have d2 : Slm.lfE 0 1000 0 2000 4000 100000000 20000 = 0 := by decide
  have e1 : Slm.lfV 0 1000 0 2000 4000 10000000 20000 = 800 := by decide
  have e2 : Slm.lfE 0 1000 0 2000 4000 10000000 20000 = 0 := by decide
  have f2 : Slm.shE 2000 3000 50000000 1999 = 30 := by decide
  go_enter Try.func9, Try.ntmps9
  go_wp2_with fail
  refine (Start_any _ _ _).mono ?_
  rintro e w1 ⟨rfl, hb1⟩
  go_wp2_with fail
  refine (Steer_any _ _ _ _ _ _ _ _).mono ?_
  rintro e w2 ⟨rfl, hb2⟩
  have hB2 := Below.goA hb1 hb2
  have o2 := Lib.hid (keep' (heap_new w1 _) hb2)
  clear hb1 hb2
  obtain ⟨⟨o20, o21, o22⟩, _⟩ := blk3 o2.out
  go_wp2_with fail
  refine (Show_any _ _ _ _ _).mono ?_
  rintro e w3 ⟨rfl, hb3⟩
  have hB3 := Below.goA hB2 hb3
  have o3 := Lib.hid (keepA o2.out hb3)
  have s3 := Lib.hid (keep' (heap_new w2 _) hb3)
  clear hb3
  obtain ⟨⟨o30, o31, o32⟩, _⟩ := blk3 o3.out
  obtain ⟨⟨s30, s31, s32⟩, _⟩ := blk3 s3.out
  go_wp2_with fail
  refine (Left_any _ _ _ _ _ _ _ _).mono ?_
  rintro e w4 ⟨rfl, hb4⟩
  have hB4 := Below.go hB3 hb4
  have o4 := Lib.hid (keep' o3.out hb4)
  have s4 := Lib.hid (keep' s3.out hb4)
  clear hb4
  obtain ⟨⟨o40, o41, o42⟩, _⟩ := blk3 o4.out
  go_wp2_with fail
  refine (Left_any _ _ _ _ _ _ _ _).mono ?_
  rintro e w5 ⟨rfl, hb5⟩
  have hB5 := Below.go hB4 hb5
  have s5 := Lib.hid (keep' s4.out hb5)
  clear hb5
  obtain ⟨⟨s50, s51, s52⟩, _⟩ := blk3 s5.out
  go_wp2_with fail
  refine (Show_any _ _ _ _ _).mono ?_
  rintro e w6 ⟨rfl, hb6⟩
  have hB6 := Below.go hB5 hb6
  have s6 := Lib.hid (keep' s5.out hb6)
  clear hb6
  obtain ⟨⟨s60, s61, s62⟩, _⟩ := blk3 s6.out
  go_wp2
  go_ret
  exact ⟨rfl, hB6⟩
theorem head_c {w0 w : World} (hb : Below w0.heap.size w0 w) : Calls Try.prog 9 #[] w (RetB (.bool true) w0) := chain hb (head_any w)
end Go.Proofs.Ytoeaclkmnnopmaa
