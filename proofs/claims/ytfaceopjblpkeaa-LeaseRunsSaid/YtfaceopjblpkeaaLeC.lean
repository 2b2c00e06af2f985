/- Contracts of package lease's other closures, and of Serves. -/
import Derived.Test.YtfaceopjblpkeaaLeB
import Derived.Deep.RegionHeld3
set_option linter.unusedVariables false
namespace Go.Proofs.Ytfaceopjblpkeaa
open Go.RowKit
abbrev overF (b : Nat) : Value := .func (Fn.func 37) #[] #[ptr b]
/-- it returns the function that asks whether a lease is over -/
def OverPost (lo hi : Int) (w : World) (e : Ending) (w' : World) : Prop := e = .returned (overF w.heap.size) ∧ w'.heap[w.heap.size]? = some (oI lo hi) ∧ Below w.heap.size w w'
theorem over_any (lo hi : Int) (w : World) : Calls Try.prog 28 #[I2 lo hi] w (OverPost lo hi w) := by
  go_enter Try.func28, Try.ntmps28
  go_wp2
  go_ret
  exact ⟨rfl, heap_new _ _, (Below.refl _ _).alloc (Nat.le_refl _) _⟩
theorem over1_any (x : Lem.T3) (b : Nat) (lo hi : Int) (w : World) (h : w.heap[b]? = some (oI lo hi)) : Calls Try.prog 37 #[L3 x, ptr b] w (RetB (.bool (Lem.over lo x)) w) := by
  obtain ⟨⟨c0, c1⟩, -⟩ := blk2A h
  have hc : Hid (Lem.over lo x = decide (x.2.2 ≤ lo)) := Lib.hid rfl
  clear h
  go_enter Try.func37, Try.ntmps37
  go_wp2
  go_ret
  exact ⟨ret_bool hc.out.symm, (Below.refl _ _).alloc (Nat.le_refl _) _⟩
theorem sg {w w' : World} {x : Lem.T3} {hp bp : Nat} {h lo hi : Int} (hb : Below (w.alloc (oL x)).heap.size (w.alloc (oL x)) w') (h1 : w.heap[hp]? = some (oN h)) (h2 : w.heap[bp]? = some (oI lo hi)) :
    w'.cell? ⟨hp, 0, none⟩ = some (.int .i64 h) ∧ w'.cell? ⟨bp, 0, none⟩ = some (.int .i64 lo) ∧ w'.cell? ⟨bp, 1, none⟩ = some (.int .i64 hi) ∧ w'.cell? ⟨w.heap.size, 0, none⟩ = some (.int .i64 x.1) ∧ w'.cell? ⟨w.heap.size, 1, none⟩ = some (.int .i64 x.2.1) ∧ w'.cell? ⟨w.heap.size, 2, none⟩ = some (.int .i64 x.2.2) :=
  have a := (blk1A (keep' (keepN h1 (oL x)) hb)).1
  have b := (blk2 (keep' (keepN h2 (oL x)) hb)).1
  have c := (blk3 (keep' (heap_new w (oL x)) hb)).1
  ⟨a, b.1, b.2, c.1, c.2.1, c.2.2⟩
set_option maxHeartbeats 2000000 in
theorem clG (x : Lem.T3) (hp bp : Nat) (h lo hi : Int) (w : World) (h1 : w.heap[hp]? = some (oN h)) (h2 : w.heap[bp]? = some (oI lo hi)) : Calls Try.prog 27 #[L3 x, ptr hp, ptr bp] w (RetB (.bool (Lem.blocks h lo x)) w) := by
  have hc : Hid (Lem.blocks h lo x = (decide (x.1 ≠ h) && !Lem.over lo x)) := Lib.hid rfl
  have s0 := sg (Below.refl _ (w.alloc (oL x))) h1 h2
  have H1 := Lib.hid h1
  have H2 := Lib.hid h2
  clear h1 h2
  generalize Lem.blocks h lo x = C at *
  by_cases hq : x.1 = h
  · have hq1 : (x.1 != h) = false := by simpa using hq
    have HQ := Lib.hid hq
    clear hq
    obtain ⟨s1, s2, s3, s4, s5, s6⟩ := s0
    go_enter Try.func27, Try.ntmps27
    go_wp2
    go_quiet (fail)
    go_wp2
    go_ret
    exact ⟨ret_bool (by rw [hc.out, HQ.out]; simp), below_drewN ((Below.refl _ _).alloc (Nat.le_refl _) _) _⟩
  · have hq1 : (x.1 != h) = true := by simpa using hq
    have HQ := Lib.hid hq
    clear hq
    go_enter Try.func27, Try.ntmps27
    go_wp2
    go_region_held3 (fun w' => w'.cell? ⟨hp, 0, none⟩ = some (.int .i64 h) ∧ w'.cell? ⟨bp, 0, none⟩ = some (.int .i64 lo) ∧ w'.cell? ⟨bp, 1, none⟩ = some (.int .i64 hi) ∧ w'.cell? ⟨w.heap.size, 0, none⟩ = some (.int .i64 x.1) ∧ w'.cell? ⟨w.heap.size, 1, none⟩ = some (.int .i64 x.2.1) ∧ w'.cell? ⟨w.heap.size, 2, none⟩ = some (.int .i64 x.2.2)) (first | exact s0 | exact sg hw2 H1.out H2.out | exact sg hw H1.out H2.out) (first | (go_at_call 28; refine (over_any _ _ _).mono ?_; rintro e w1 ⟨rfl, hk, hw1⟩; have hk2 : w1.heap[w.heap.size + 1]? = some (oI lo hi) := (by simpa using hk); have hw := Below.go (Below.refl _ (w.alloc (oL x))).drew hw1) | (go_at_call 37; refine (over1_any x _ lo hi _ hk2).mono ?_; rintro e w2 ⟨rfl, hw3⟩; have hw2 := Below.go hw hw3))
    go_wp2
    go_ret
    exact ⟨ret_bool (by rw [hc.out]; simp [HQ.out]), Below.goA (Below.refl _ _) hw2⟩
set_option maxHeartbeats 1000000 in
theorem clS (x : Lem.T3) (hp bp : Nat) (h lo hi : Int) (w : World) (h1 : w.heap[hp]? = some (oN h)) (h2 : w.heap[bp]? = some (oI lo hi)) : Calls Try.prog 34 #[L3 x, ptr hp, ptr bp] w (RetB (.bool (Lem.lets h lo hi x)) w) := by
  obtain ⟨⟨c0, c1⟩, -⟩ := blk2A h2
  obtain ⟨-, d0⟩ := blk1A h1
  have hc : Hid (Lem.lets h lo hi x = decide (x.1 = h ∧ x.2.1 ≤ lo ∧ hi < x.2.2)) := Lib.hid rfl
  clear h1 h2
  generalize Lem.lets h lo hi x = C at *
  obtain ⟨x0, x1, x2⟩ := x
  simp only [] at hc
  by_cases hq : x0 = h
  · have hq1 : (x0 == h) = true := by simpa using hq
    have HQ := Lib.hid hq
    clear hq
    go_enter Try.func34, Try.ntmps34
    go_wp2
    all_goals go_ret
    all_goals exact ⟨ret_bool (by rw [hc.out, Bool.eq_iff_iff]; simp [HQ.out]; try omega), (Below.refl _ _).alloc (Nat.le_refl _) _⟩
  · have hq1 : (x0 == h) = false := by simpa using hq
    have HQ := Lib.hid hq
    clear hq
    go_enter Try.func34, Try.ntmps34
    go_wp2
    go_ret
    exact ⟨ret_bool (by rw [hc.out]; simp [HQ.out]), (Below.refl _ _).alloc (Nat.le_refl _) _⟩
abbrev oF (b : Nat) : Obj := .cells #[overF b] 53
theorem sd {w w' : World} {x : Lem.T3} {dp bp : Nat} {lo hi : Int} (hb : Below (w.alloc (oL x)).heap.size (w.alloc (oL x)) w') (h1 : w.heap[dp]? = some (oF bp)) : w'.cell? ⟨dp, 0, none⟩ = some (overF bp) ∧ w'.cell? ⟨w.heap.size, 0, none⟩ = some (.int .i64 x.1) ∧ w'.cell? ⟨w.heap.size, 1, none⟩ = some (.int .i64 x.2.1) ∧ w'.cell? ⟨w.heap.size, 2, none⟩ = some (.int .i64 x.2.2) :=
  ⟨(blk1A (keep' (keepN h1 (oL x)) hb)).1, (blk3 (keep' (heap_new w (oL x)) hb)).1⟩
set_option maxHeartbeats 2000000 in
theorem clD (x : Lem.T3) (dp bp : Nat) (lo hi : Int) (w : World) (h1 : w.heap[dp]? = some (oF bp)) (h2 : w.heap[bp]? = some (oI lo hi)) (hx : 1 ≤ x.1) : Calls Try.prog 36 #[L3 x, ptr dp] w (RetB (.bool (Lem.stays lo x)) w) := by
  have hc : Hid (Lem.stays lo x = !Lem.over lo x) := Lib.hid rfl
  obtain ⟨-, d0⟩ := blk1A h1
  have hk := keepN h2 (oL x)
  have K := Lib.hid hk
  clear h1 h2 hk
  generalize Lem.stays lo x = C at *
  have hz : (x.1 == 0) = false := by simp; omega
  have hz2 : ¬ x.1 = 0 := by omega
  go_enter Try.func36, Try.ntmps36
  go_wp2_with fail
  refine (over1_any x _ lo hi _ K.out).mono ?_
  rintro e w2 ⟨rfl, hw3⟩
  go_wp2
  go_ret
  exact ⟨ret_bool hc.out.symm, Below.goA (Below.refl _ _) hw3⟩
end Go.Proofs.Ytfaceopjblpkeaa
