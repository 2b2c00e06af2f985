/- The contract of scale.Sum: for every list of up to 1000 integers it returns the plain sum or error; nothing that was there has changed. -/
import Derived.Test.YthcbkagjlhchkaaScD
set_option linter.unusedVariables false
namespace Go.Proofs.Ythcbkagjlhchkaa
open Go.RowKit

/-- the slice (A, n) holds the integers l, in a block below B -/
def Is (B : Nat) (W : World) (A : Option Addr) (n : Nat) (l : List Int) : Prop :=
  l.length = n ∧ (0 < n → ∃ b off, A = some ⟨b, off, none⟩ ∧ b < B ∧ ∀ j, j < n → W.cell? ⟨b, off + j, none⟩ = some (.int .i64 (l[j]?.getD 0)))
theorem Is.below {B : Nat} {W W' : World} {A : Option Addr} {n : Nat} {l : List Int} (h : Is B W A n l) (hb : Below B W W') : Is B W' A n l :=
  ⟨h.1, fun hn => by obtain ⟨b, off, e, hB, hc⟩ := h.2 hn; exact ⟨b, off, e, hB, fun j hj => (hb.cell (p := ⟨b, off + j, none⟩) hB).trans (hc j hj)⟩⟩
theorem take_snoc {l : List Int} {k n : Nat} (h : l.length = n) (hk : k < n) : l.take (k + 1) = l.take k ++ [l[k]?.getD 0] := by
  rw [List.take_succ_eq_append_getElem (by omega)]; simp [show k < l.length by omega]
theorem allT_snoc {l : List Int} {k n : Nat} (h : l.length = n) (hk : k < n) : Scm.allT (l.take (k + 1)) = (Scm.allT (l.take k) && Scm.isT (l[k]?.getD 0)) := by
  rw [take_snoc h hk]; unfold Scm.allT; rw [List.all_append]; simp
theorem allT_false {l : List Int} {k : Nat} (h : Scm.allT (l.take k) = false) : Scm.allT l = false := by
  cases hl : Scm.allT l
  · rfl
  · rw [Scm.allT_take hl] at h; cases h
set_option maxHeartbeats 1000000 in
theorem Sum_any (B : Nat) (A : Option Addr) (n c : Nat) (l : List Int) (w : World) (hl : Is B w A n l) (hn : n ≤ 1000) :
    Calls Try.prog 17 #[.slice A n c] w (RetB (.tuple #[.int .i64 (Scm.suV l), .int .i64 (Scm.suE l)]) w) := by
  obtain ⟨hlen, hcell⟩ := hl
  have Hlen := Lib.hid hlen
  clear hlen
  go_enter Try.func17, Try.ntmps17
  go_wp2
  go_loop [4, 9] (fun t i => ∃ k : Nat, k ≤ n ∧ i = .int .i64 k ∧ Hid (Scm.allT (l.take k) = true) ∧ t = .int .i64 (Scm.tot (l.take k))) (fun _ i => n - (intOf i).toNat)
  case atStart => exact ⟨0, Nat.zero_le _, rfl, Lib.hid rfl, rfl⟩
  case round =>
    obtain ⟨k, hk, rfl, hall, rfl⟩ := hrel
    have hbd := Scm.tot_bd hall.out
    have hlk : ((l.take k).length : Int) ≤ 1000 := by have := Hlen.out; simp; omega
    have hb1 : -3000000000000000000 ≤ Scm.tot (l.take k) := by omega
    have hb2 : Scm.tot (l.take k) ≤ 3000000000000000000 := by omega
    clear hbd hlk
    by_cases hlt : k < n
    · obtain ⟨b, off, rfl, hbB, hc⟩ := hcell (by omega)
      have c0 := hc k hlt
      have hts := take_snoc Hlen.out hlt
      have has := allT_snoc Hlen.out hlt
      generalize l[k]?.getD 0 = x at *
      have Hts : Hid (Scm.tot (l.take (k + 1)) = Scm.tot (l.take k) + x) := Lib.hid (by rw [hts, Scm.tot_append]; simp [Scm.tot])
      rw [hall.out, Bool.true_and] at has
      have Has := Lib.hid has
      clear hc hcell hts has
      cases hx : Scm.isT x
      · have hz := Lib.hid (Scm.su_no (allT_false (Has.out.trans hx)))
        go_wp2_with (go_at_call 26; refine (isTime_any _ _).mono ?_; rintro e w' ⟨rfl, rfl⟩)
        go_ret2
        exact ⟨ret_two hz.out.1.symm hz.out.2.symm, Below.refl _ _⟩
      · have hxb := Scm.isT_bd hx
        have hal := Lib.hid (Has.out.trans hx)
        go_wp2_with (go_at_call 26; refine (isTime_any _ _).mono ?_; rintro e w' ⟨rfl, rfl⟩)
        go_round
        case rel => exact ⟨k + 1, by omega, by go_num, hal, by rw [Hts.out]⟩
        case measure => simp [intOf]; omega
    · obtain rfl : k = n := by omega
      have e : l.take k = l := List.take_of_length_le (by rw [Hlen.out]; omega)
      rw [e] at hall hb1 hb2 ⊢
      cases ht : Scm.isT (Scm.tot l)
      · have hz := Lib.hid (Scm.su_far hall.out ht)
        go_wp2_with (go_at_call 26; refine (isTime_any _ _).mono ?_; rintro e w' ⟨rfl, rfl⟩)
        go_ret2
        exact ⟨ret_two hz.out.1.symm hz.out.2.symm, Below.refl _ _⟩
      · have hz := Lib.hid (Scm.su_yes hall.out ht)
        go_wp2_with (go_at_call 26; refine (isTime_any _ _).mono ?_; rintro e w' ⟨rfl, rfl⟩)
        go_ret2
        exact ⟨ret_two hz.out.1.symm hz.out.2.symm, Below.refl _ _⟩
/-- a list of integers that was just built -/
theorem cells_new (w : World) (cs : Array Value) (t : TypeId) (j : Nat) (v : Value) (hv : cs[j]? = some v) : (w.alloc (.cells cs t)).cell? ⟨w.heap.size, j, none⟩ = some v := by
  have aux : ∀ (W : World) (k : Nat), W.heap[k]? = some (.cells cs t) → W.cell? ⟨k, j, none⟩ = some v := fun W k h => by simp [World.cell?, h, hv]
  exact aux _ _ (heap_new w _)
theorem Is.three (w : World) (a b c : Int) : Is (w.heap.size + 1) (w.alloc (.cells #[.int .i64 a, .int .i64 b, .int .i64 c] 3)) (some ⟨w.heap.size, 0, none⟩) 3 [a, b, c] :=
  ⟨rfl, fun _ => ⟨w.heap.size, 0, rfl, by omega, fun j hj => by
    rcases (show j = 0 ∨ j = 1 ∨ j = 2 by omega) with rfl | rfl | rfl <;> exact cells_new _ _ _ _ _ rfl⟩⟩
theorem Is.two (w : World) (a b : Int) : Is (w.heap.size + 1) (w.alloc (.cells #[.int .i64 a, .int .i64 b] 3)) (some ⟨w.heap.size, 0, none⟩) 2 [a, b] :=
  ⟨rfl, fun _ => ⟨w.heap.size, 0, rfl, by omega, fun j hj => by
    rcases (show j = 0 ∨ j = 1 by omega) with rfl | rfl <;> exact cells_new _ _ _ _ _ rfl⟩⟩
/-- Sum of three and of two, as they are written -/
theorem Sum3_c {a b c : Int} {w0 w : World} (hb : Below w0.heap.size w0 w) :
    Calls Try.prog 17 #[.slice (some ⟨w.heap.size, 0, none⟩) 3 3] (w.alloc (.cells #[.int .i64 a, .int .i64 b, .int .i64 c] 3)) (RetB (.tuple #[.int .i64 (Scm.suV [a, b, c]), .int .i64 (Scm.suE [a, b, c])]) w0) :=
  chain (hb.alloc hb.size _) (Sum_any _ _ _ _ _ _ (Is.three w a b c) (by omega))
theorem Sum2_c {a b : Int} {w0 w : World} (hb : Below w0.heap.size w0 w) :
    Calls Try.prog 17 #[.slice (some ⟨w.heap.size, 0, none⟩) 2 2] (w.alloc (.cells #[.int .i64 a, .int .i64 b] 3)) (RetB (.tuple #[.int .i64 (Scm.suV [a, b]), .int .i64 (Scm.suE [a, b])]) w0) :=
  chain (hb.alloc hb.size _) (Sum_any _ _ _ _ _ _ (Is.two w a b) (by omega))

def LawPost (w : World) (e : Ending) (w' : World) : Prop := e = .returned (.bool true) ∧ Below w.heap.size w w'
set_option maxHeartbeats 1000000 in
set_option maxRecDepth 100000 in
theorem head_c {w0 w : World} (hb : Below w0.heap.size w0 w) : Calls Try.prog 10 #[] w (RetB (.bool true) w0) := by
  have a1 : Scm.rV (-7) 1 2 (Scm.sF (-7) 1 2) = -4 := by decide
  have a2 : Scm.rE (-7) 1 2 (Scm.sF (-7) 1 2) = 0 := by decide
  have b1 : Scm.rV (-7) 1 2 (Scm.sC (-7) 1 2) = -3 := by decide
  have b2 : Scm.rE (-7) 1 2 (Scm.sC (-7) 1 2) = 0 := by decide
  have c1 : Scm.rV (-7) 1 2 (Scm.sN (-7) 1 2) = -4 := by decide
  have c2 : Scm.rE (-7) 1 2 (Scm.sN (-7) 1 2) = 0 := by decide
  have d1 : Scm.rV 3000000000000000 1000000000 1000050000 (Scm.sF 3000000000000000 1000000000 1000050000) = 2999850007499625 := by decide
  have d2 : Scm.rE 3000000000000000 1000000000 1000050000 (Scm.sF 3000000000000000 1000000000 1000050000) = 0 := by decide
  have e2 : Scm.rE 3000000000000000 2 1 (Scm.sF 3000000000000000 2 1) = 3 := by decide
  have f2 : Scm.rE 1 1 0 (Scm.sC 1 1 0) = 1 := by decide
  have g1 : Scm.suV [3, -5, 1] = -1 := by decide
  have g2 : Scm.suE [3, -5, 1] = 0 := by decide
  go_enter Try.func10, Try.ntmps10
  go_wp2_with (first | (go_at_call 11; refine (Floor_c (by assumption)).mono ?_; rintro e w1 ⟨rfl, hb⟩) | (go_at_call 13; refine (Ceil_c (by assumption)).mono ?_; rintro e w1 ⟨rfl, hb⟩) | (go_at_call 15; refine (Near_c (by assumption)).mono ?_; rintro e w1 ⟨rfl, hb⟩) | (go_at_call 17; refine (Sum3_c (by assumption)).mono ?_; rintro e w1 ⟨rfl, hb⟩))
  go_ret
  exact ⟨rfl, by assumption⟩
end Go.Proofs.Ythcbkagjlhchkaa
