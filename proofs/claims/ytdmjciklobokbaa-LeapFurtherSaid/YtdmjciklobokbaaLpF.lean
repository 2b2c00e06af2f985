/- The law's own check of the chapter's examples returns true; nothing that was there has changed. -/
import Derived.Test.YtdmjciklobokbaaLpE
set_option linter.unusedVariables false
namespace Go.Proofs.Ytdmjciklobokbaa
open Go.RowKit

/-- what a law's walk ends in: it returns true and has written nothing that was there -/
def LawPost (w : World) (e : Ending) (w' : World) : Prop := e = .returned (.bool true) ∧ Below w.heap.size w w'

section
variable {w0 w : World}
theorem few_c {A : Option Addr} {n c : Nat} (hb : Below w0.heap.size w0 w) : Calls Try.prog 11 #[.slice A n c] w (RetB (.bool (decide (n ≤ 110))) w0) := by
  go_enter Try.func11, Try.ntmps11
  go_wp2
  go_ret
  exact ⟨ret_bool (by rw [Bool.eq_iff_iff]; simp; omega), hb⟩
theorem on_c {n : Int} (h0 : 0 ≤ n) (h1 : n ≤ 4294967295) (hb : Below w0.heap.size w0 w) : Calls Try.prog 22 #[.int .u32 n] w (RetB (.int .i64 (n % 34001)) w0) := by
  go_enter Try.func22, Try.ntmps22
  go_wp2
  go_ret
  exact ⟨rfl, hb⟩
end

def ex : Lpm.LL := [(9, 1), (19, -1)]
theorem ex_valid : Lpm.valid ex = true := by decide
theorem ex_day (t d : Int) (h0 : 0 ≤ t) (h1 : t ≤ 3000000000000000) (hd : 0 ≤ d) (hd' : d ≤ 34000) (a : Lpm.start ex d ≤ t) (b : t < Lpm.start ex (d + 1)) : Lpm.dE ex t = 0 ∧ Lpm.dV ex t = d ∧ Lpm.oV ex t = Lpm.ofs ex d := by
  have e := Lpm.dayNo_of ex_valid hd hd' a b
  have := Lpm.d_yes ex_valid h0 h1 (by rw [e]; exact hd')
  rwa [e] at this
theorem ex_lp (w : World) : Lp (w.alloc (.cells #[.int .i64 9, .int .i64 1, .int .i64 19, .int .i64 (-1)] 35)).heap.size (w.alloc (.cells #[.int .i64 9, .int .i64 1, .int .i64 19, .int .i64 (-1)] 35)) (some ⟨w.heap.size, 0, none⟩) 2 ex := by
  have aux : ∀ (W : World) (k : Nat), W.heap[k]? = some (.cells #[.int .i64 9, .int .i64 1, .int .i64 19, .int .i64 (-1)] 35) → ∀ j v, (#[Value.int .i64 9, .int .i64 1, .int .i64 19, .int .i64 (-1)] : Array Value)[j]? = some v → W.cell? ⟨k, j, none⟩ = some v := fun W k h j v hv => by simp [World.cell?, h, hv]
  have a := aux _ _ (World.alloc_heap_new w _)
  refine ⟨rfl, fun _ => ⟨w.heap.size, 0, rfl, by simp, fun j hj => ?_⟩⟩
  rcases (show j = 0 ∨ j = 1 by omega) with rfl | rfl
  · exact ⟨a 0 _ rfl, a 1 _ rfl⟩
  · exact ⟨a 2 _ rfl, a 3 _ rfl⟩
def ey : Lpm.LL := [(9, 0)]
theorem ey_lp (w : World) : Lp (w.alloc (.cells #[.int .i64 9, .int .i64 0] 35)).heap.size (w.alloc (.cells #[.int .i64 9, .int .i64 0] 35)) (some ⟨w.heap.size, 0, none⟩) 1 ey := by
  have aux : ∀ (W : World) (k : Nat), W.heap[k]? = some (.cells #[.int .i64 9, .int .i64 0] 35) → ∀ j v, (#[Value.int .i64 9, .int .i64 0] : Array Value)[j]? = some v → W.cell? ⟨k, j, none⟩ = some v := fun W k h j v hv => by simp [World.cell?, h, hv]
  have a := aux _ _ (World.alloc_heap_new w _)
  refine ⟨rfl, fun _ => ⟨w.heap.size, 0, rfl, by simp, fun j hj => ?_⟩⟩
  obtain rfl : j = 0 := by omega
  exact ⟨a 0 _ rfl, a 1 _ rfl⟩

set_option maxHeartbeats 2000000 in
set_option maxRecDepth 100000 in
theorem head_any (w : World) : Calls Try.prog 10 #[] w (RetB (.bool true) w) := by
  have hl := ex_lp w
  have hB : (w.alloc (.cells #[.int .i64 9, .int .i64 1, .int .i64 19, .int .i64 (-1)] 35)).heap.size ≤ (w.alloc (.cells #[.int .i64 9, .int .i64 1, .int .i64 19, .int .i64 (-1)] 35)).heap.size := Nat.le_refl _
  have hn : 2 ≤ 110 := by omega
  have hb := Below.refl (w.alloc (.cells #[.int .i64 9, .int .i64 1, .int .i64 19, .int .i64 (-1)] 35)).heap.size (w.alloc (.cells #[.int .i64 9, .int .i64 1, .int .i64 19, .int .i64 (-1)] 35))
  have hb0 : Below w.heap.size w (w.alloc (.cells #[.int .i64 9, .int .i64 1, .int .i64 19, .int .i64 (-1)] 35)) := (Below.refl _ w).alloc (Nat.le_refl _) _
  have hs0 : w.heap.size ≤ (w.alloc (.cells #[.int .i64 9, .int .i64 1, .int .i64 19, .int .i64 (-1)] 35)).heap.size := by simp
  go_enter Try.func10, Try.ntmps10
  go_wp2_with fail
  generalize w.alloc (.cells #[.int .i64 9, .int .i64 1, .int .i64 19, .int .i64 (-1)] 35) = w0 at *
  obtain ⟨a1, a2⟩ : Lpm.stV ex 10 = 864001000000 ∧ Lpm.stE ex 10 = 0 := by decide
  obtain ⟨b1, b2⟩ : Lpm.stV ex 20 = 1728000000000 ∧ Lpm.stE ex 20 = 0 := by decide
  obtain ⟨c1, c2⟩ : Lpm.leV ex 9 = 86401000000 ∧ Lpm.stE ex 9 = 0 := by decide
  obtain ⟨d1, d2⟩ : Lpm.leV ex 19 = 86399000000 ∧ Lpm.stE ex 19 = 0 := by decide
  obtain ⟨e1, e2, e3⟩ := ex_day 864000500000 9 (by omega) (by omega) (by omega) (by omega) (by decide) (by decide)
  obtain ⟨f1, f2, f3⟩ := ex_day 864001000000 10 (by omega) (by omega) (by omega) (by omega) (by decide) (by decide)
  obtain ⟨g1, g2, g3⟩ := ex_day 1728000000000 20 (by omega) (by omega) (by omega) (by omega) (by decide) (by decide)
  obtain ⟨i1, i2, i3⟩ := Lpm.d_far (l := ex) (t := 3000000000000000) ex_valid (by omega) (by omega) (by rw [Lpm.dayNo_out ex_valid (by decide)]; omega)
  have e4 : Lpm.ofs ex 9 = 0 := by decide
  have f4 : Lpm.ofs ex 10 = 1 := by decide
  have g4 : Lpm.ofs ex 20 = 0 := by decide
  rw [e4] at e3; rw [f4] at f3; rw [g4] at g3
  clear f2 g2 i2 i3 e4 f4 g4
  have v1 := ex_valid
  have v2 : Lpm.valid ey = false := by decide
  go_wp2_with (first | (go_at_call 12; refine (Start_c hl hB hn (by assumption)).mono ?_; rintro e w1 ⟨rfl, hb⟩) | (go_at_call 16; refine (Length_c hl hB hn (by assumption)).mono ?_; rintro e w1 ⟨rfl, hb⟩) | (go_at_call 18; refine (Day_c hl hB hn (by assumption)).mono ?_; rintro e w1 ⟨rfl, hb⟩) | (go_at_call 20; refine (Offset_c hl hB hn (by assumption)).mono ?_; rintro e w1 ⟨rfl, hb⟩))
  ((with_reducible refine (valid_c hl hB hn (by assumption)).mono ?_); rintro e w1 ⟨rfl, hbV⟩)
  clear hl hB hn hb
  go_wp2_with fail
  ((with_reducible refine (valid_any _ _ _ _ _ _ (ey_lp w1) (Nat.le_refl _) (by omega)).mono ?_); rintro e w2 ⟨rfl, hw2⟩)
  go_wp2
  go_ret
  have hs1 := hbV.size
  exact ⟨rfl, hb0.trans ((hbV.mono hs0).trans (((Below.refl _ w1).alloc (by omega) _).trans (hw2.mono (by simp; omega))))⟩
theorem head_c {w0 w : World} (hb : Below w0.heap.size w0 w) : Calls Try.prog 10 #[] w (RetB (.bool true) w0) := chain hb (head_any w)
end Go.Proofs.Ytdmjciklobokbaa
