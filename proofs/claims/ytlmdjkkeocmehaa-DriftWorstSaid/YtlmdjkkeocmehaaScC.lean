/- The contracts of package scale's functions: for all integers Floor, Ceil and Near return the plain roundings (Scm.rV, Scm.rE of sF, sC, sN); nothing that was there has changed. -/
import Derived.Test.YtlmdjkkeocmehaaScB
import Derived.RegionTactic
import Derived.ChangeAlike
import Derived.BigRegion
set_option linter.unusedVariables false
namespace Go.Proofs.Ytlmdjkkeocmehaa
open Go.RowKit
def RetB (v : Value) (w : World) (e : Ending) (w' : World) : Prop := e = .returned v ∧ Below w.heap.size w w'
theorem ret_bool {a b : Bool} (h : a = b) : Ending.returned (.bool a) = .returned (.bool b) := by rw [h]
theorem ret_two {a b a' b' : Int} (h1 : a = a') (h2 : b = b') : Ending.returned (.tuple #[.int .i64 a, .int .i64 b]) = .returned (.tuple #[.int .i64 a', .int .i64 b']) := by rw [h1, h2]
theorem chain {P : Program} {f : FuncId} {args : Array Value} {v : Value} {w0 w : World} (hb : Below w0.heap.size w0 w) (h : Calls P f args w (RetB v w)) : Calls P f args w (RetB v w0) :=
  h.mono fun _ _ ⟨he, hw⟩ => ⟨he, hb.trans (hw.mono hb.size)⟩
theorem Ret.bel {v : Value} {w : World} {e : Ending} {w' : World} (h : Ret v w e w') : RetB v w e w' := ⟨h.1, by obtain ⟨_, rfl⟩ := h; exact Below.refl _ _⟩

set_option maxHeartbeats 1000000 in
theorem div_any (hi lo y : Int) (w : World) (hx : 0 ≤ hi) (hx1 : hi < y) (hy1 : y ≤ 2000000000) (h0 : 0 ≤ lo) (h1 : lo < 18446744073709551616) :
    Calls Try.prog 57 #[.int .u64 hi, .int .u64 lo, .int .u64 y] w (RetB (.tuple #[.int .u64 ((hi * 18446744073709551616 + lo) / y), .int .u64 ((hi * 18446744073709551616 + lo) % y)]) w) := by
  by_cases hz : hi = 0
  · subst hz
    have hy0 : (y == 0) = false := by simp; omega
    have hyn : ¬ y = 0 := by omega
    have HE : Hid (lo / y = (0 * 18446744073709551616 + lo) / y ∧ lo % y = (0 * 18446744073709551616 + lo) % y) := Lib.hid (by simp)
    have hq : IntKind.u64.wrap (lo / y) = lo / y := by
      rw [wrap_u64]
      have := Int.ediv_nonneg h0 (show 0 ≤ y by omega)
      have : lo / y ≤ lo := Int.ediv_le_self _ h0
      omega
    have hr : IntKind.u64.wrap (lo % y) = lo % y := by
      rw [wrap_u64]
      have := Int.emod_nonneg lo (show y ≠ 0 by omega)
      have := Int.emod_lt_of_pos lo (show 0 < y by omega)
      omega
    have ht1 : lo.tdiv y = lo / y := Int.tdiv_eq_ediv_of_nonneg h0
    have ht2 : lo.tmod y = lo % y := Int.tmod_eq_emod_of_nonneg h0
    go_enter Try.func57, Try.ntmps57
    go_wp2
    go_quiet (fail)
    clear hq hr ht1 ht2
    go_wp2
    go_ret2
    exact ⟨ret_u HE.out.1 HE.out.2, below_drewN (Below.refl _ _) _⟩
  · exact (div_big hi lo y w (by omega) hx1 hy1 h0 h1).mono fun _ _ h => h.bel
theorem isTime_any (v : Int) (w : World) : Calls Try.prog 52 #[.int .i64 v] w (Ret (.bool (Scm.isT v)) w) := by
  go_enter Try.func52, Try.ntmps52
  go_wp2
  all_goals go_ret
  all_goals exact ⟨ret_bool (by rw [Bool.eq_iff_iff]; simp only [Scm.isT, decide_eq_true_eq, Bool.false_eq_true, false_iff]; omega), rfl⟩
theorem heap_new (w : World) (o : Obj) : (w.alloc o).heap[w.heap.size]? = some o := by unfold World.alloc; simp
set_option maxHeartbeats 1000000 in
theorem divide_pos_yes (a n d P : Int) (w : World) (h0 : 0 ≤ a) (h1 : -3000000000000000 ≤ a) (h2 : a ≤ 3000000000000000) (h3 : 0 ≤ n) (h4 : n ≤ 2000000000) (h5 : 1 ≤ d) (h6 : d ≤ 2000000000) (hP : a * n = P) (hP0 : 0 ≤ P) (hP1 : P ≤ 3000000000000000 * 2000000000) (hhi : P / 18446744073709551616 < d) :
    Calls Try.prog 53 #[.int .i64 a, .int .i64 n, .int .i64 d] w (RetB (.tuple #[.agg #[.int .u64 (P / d), .int .u64 (P % d), .int .u64 d, .bool false], .bool (decide (P / d ≤ 3000000000000000))])  w) := by
  have hneg : decide (a < 0) = false := by simp; omega
  have hback : P / 18446744073709551616 * 18446744073709551616 + P % 18446744073709551616 = P := by omega
  have hd1 : (0 : Int) ≤ P / 18446744073709551616 := by omega
  have hd2 : (0 : Int) ≤ P % 18446744073709551616 := by omega
  have hd3 : P % 18446744073709551616 < 18446744073709551616 := by omega
  go_enter Try.func53, Try.ntmps53
  go_wp2_with (go_at_call 56; refine (mul_any _ _ _ (by omega) (by omega) (by omega) (by omega)).mono ?_; rintro e w' ⟨rfl, rfl⟩)
  refine (div_any _ _ _ _ hd1 hhi h6 hd2 hd3).mono ?_
  rintro e w3 ⟨rfl, hw3⟩
  have hbase : Below w.heap.size w w3 := (((Below.refl _ w).alloc (Nat.le_refl _) _).alloc (by simp) _).trans (hw3.mono (by simp; omega))
  have q0 : w3.heap[w.heap.size + 1]? = some (.cells #[.int .u64 0, .int .u64 0, .int .u64 d, .bool false] 60 (0, 0)) := by
    rw [hw3.block _ (by simp)]
    have := heap_new (w.alloc (.cells #[.int .u64 0, .int .u64 0, .int .u64 0, .bool false] 60)) (.cells #[.int .u64 0, .int .u64 0, .int .u64 d, .bool false] 60)
    rwa [World.size_alloc] at this
  have r0 : w3.heap[w.heap.size]? = some (.cells #[.int .u64 0, .int .u64 0, .int .u64 0, .bool false] 60 (0, 0)) := by
    rw [hw3.block _ (by simp; omega)]
    exact (Below.heap_alloc _ _ _ (by simp)).trans (heap_new w _)
  have cellq : ∀ j v, (#[Value.int .u64 0, .int .u64 0, .int .u64 d, .bool false] : Array Value)[j]? = some v → w3.cell? ⟨w.heap.size + 1, j, none⟩ = some v := fun j v hv => by simp [World.cell?, q0, hv]
  have cellr : ∀ j v, (#[Value.int .u64 0, .int .u64 0, .int .u64 0, .bool false] : Array Value)[j]? = some v → w3.cell? ⟨w.heap.size, j, none⟩ = some v := fun j v hv => by simp [World.cell?, r0, hv]
  have fq : ∀ j, w3.frozen? ⟨w.heap.size + 1, j, none⟩ = false := fun j => by simp [World.frozen?, q0]
  have fr : ∀ j, w3.frozen? ⟨w.heap.size, j, none⟩ = false := fun j => by simp [World.frozen?, r0]
  have cq0 := cellq 0 _ rfl
  have cq1 := cellq 1 _ rfl
  have cq2 := cellq 2 _ rfl
  have cq3 := cellq 3 _ rfl
  have cr0 := cellr 0 _ rfl
  have cr1 := cellr 1 _ rfl
  have cr2 := cellr 2 _ rfl
  have cr3 := cellr 3 _ rfl
  have fq0 := fq 0
  have fq1 := fq 1
  have fr0 := fr 0
  have fr1 := fr 1
  have fr2 := fr 2
  have fr3 := fr 3
  clear q0 r0 cellq cellr fq fr hw3
  rw [hback]
  go_wp2
  go_region
  all_goals go_wp2
  all_goals exact bodyPost_ret (v := .tuple #[.agg #[.int .u64 (P / d), .int .u64 (P % d), .int .u64 d, .bool false], .bool (decide (P / d ≤ 3000000000000000))]) (by simp [results, Try.results53, go_sem, cr0, cr1, cr2, cr3]) rfl ⟨rfl, by (repeat (with_reducible first | exact hbase | refine Below.drew ?_ | refine Below.setCell ?_ ?_ _)); all_goals simp⟩
set_option maxHeartbeats 1000000 in
theorem divide_neg_yes (a n d P : Int) (w : World) (h0 : a < 0) (h1 : -3000000000000000 ≤ a) (h2 : a ≤ 3000000000000000) (h3 : 0 ≤ n) (h4 : n ≤ 2000000000) (h5 : 1 ≤ d) (h6 : d ≤ 2000000000) (hP : -a * n = P) (hP0 : 0 ≤ P) (hP1 : P ≤ 3000000000000000 * 2000000000) (hhi : P / 18446744073709551616 < d) :
    Calls Try.prog 53 #[.int .i64 a, .int .i64 n, .int .i64 d] w (RetB (.tuple #[.agg #[.int .u64 (P / d), .int .u64 (P % d), .int .u64 d, .bool true], .bool (decide (P / d ≤ 3000000000000000))])  w) := by
  have hneg : decide (a < 0) = true := by simp; omega
  have hback : P / 18446744073709551616 * 18446744073709551616 + P % 18446744073709551616 = P := by omega
  have hd1 : (0 : Int) ≤ P / 18446744073709551616 := by omega
  have hd2 : (0 : Int) ≤ P % 18446744073709551616 := by omega
  have hd3 : P % 18446744073709551616 < 18446744073709551616 := by omega
  go_enter Try.func53, Try.ntmps53
  go_wp2_with (go_at_call 56; refine (mul_any _ _ _ (by omega) (by omega) (by omega) (by omega)).mono ?_; rintro e w' ⟨rfl, rfl⟩)
  refine (div_any _ _ _ _ hd1 hhi h6 hd2 hd3).mono ?_
  rintro e w3 ⟨rfl, hw3⟩
  have hbase : Below w.heap.size w w3 := (((Below.refl _ w).alloc (Nat.le_refl _) _).alloc (by simp) _).trans (hw3.mono (by simp; omega))
  have q0 : w3.heap[w.heap.size + 1]? = some (.cells #[.int .u64 0, .int .u64 0, .int .u64 d, .bool true] 60 (0, 0)) := by
    rw [hw3.block _ (by simp)]
    have := heap_new (w.alloc (.cells #[.int .u64 0, .int .u64 0, .int .u64 0, .bool false] 60)) (.cells #[.int .u64 0, .int .u64 0, .int .u64 d, .bool true] 60)
    rwa [World.size_alloc] at this
  have r0 : w3.heap[w.heap.size]? = some (.cells #[.int .u64 0, .int .u64 0, .int .u64 0, .bool false] 60 (0, 0)) := by
    rw [hw3.block _ (by simp; omega)]
    exact (Below.heap_alloc _ _ _ (by simp)).trans (heap_new w _)
  have cellq : ∀ j v, (#[Value.int .u64 0, .int .u64 0, .int .u64 d, .bool true] : Array Value)[j]? = some v → w3.cell? ⟨w.heap.size + 1, j, none⟩ = some v := fun j v hv => by simp [World.cell?, q0, hv]
  have cellr : ∀ j v, (#[Value.int .u64 0, .int .u64 0, .int .u64 0, .bool false] : Array Value)[j]? = some v → w3.cell? ⟨w.heap.size, j, none⟩ = some v := fun j v hv => by simp [World.cell?, r0, hv]
  have fq : ∀ j, w3.frozen? ⟨w.heap.size + 1, j, none⟩ = false := fun j => by simp [World.frozen?, q0]
  have fr : ∀ j, w3.frozen? ⟨w.heap.size, j, none⟩ = false := fun j => by simp [World.frozen?, r0]
  have cq0 := cellq 0 _ rfl
  have cq1 := cellq 1 _ rfl
  have cq2 := cellq 2 _ rfl
  have cq3 := cellq 3 _ rfl
  have cr0 := cellr 0 _ rfl
  have cr1 := cellr 1 _ rfl
  have cr2 := cellr 2 _ rfl
  have cr3 := cellr 3 _ rfl
  have fq0 := fq 0
  have fq1 := fq 1
  have fr0 := fr 0
  have fr1 := fr 1
  have fr2 := fr 2
  have fr3 := fr 3
  clear q0 r0 cellq cellr fq fr hw3
  rw [hback]
  go_wp2
  go_region
  all_goals go_wp2
  all_goals exact bodyPost_ret (v := .tuple #[.agg #[.int .u64 (P / d), .int .u64 (P % d), .int .u64 d, .bool true], .bool (decide (P / d ≤ 3000000000000000))]) (by simp [results, Try.results53, go_sem, cr0, cr1, cr2, cr3]) rfl ⟨rfl, by (repeat (with_reducible first | exact hbase | refine Below.drew ?_ | refine Below.setCell ?_ ?_ _)); all_goals simp⟩
set_option maxHeartbeats 1000000 in
theorem divide_pos_no (a n d P : Int) (w : World) (h0 : 0 ≤ a) (h1 : -3000000000000000 ≤ a) (h2 : a ≤ 3000000000000000) (h3 : 0 ≤ n) (h4 : n ≤ 2000000000) (h5 : 1 ≤ d) (h6 : d ≤ 2000000000) (hP : a * n = P) (hP0 : 0 ≤ P) (hP1 : P ≤ 3000000000000000 * 2000000000) (hhi : d ≤ P / 18446744073709551616) :
    Calls Try.prog 53 #[.int .i64 a, .int .i64 n, .int .i64 d] w (RetB (.tuple #[.agg #[.int .u64 0, .int .u64 0, .int .u64 d, .bool false], .bool false])  w) := by
  have hneg : decide (a < 0) = false := by simp; omega
  have hback : P / 18446744073709551616 * 18446744073709551616 + P % 18446744073709551616 = P := by omega
  have hd1 : (0 : Int) ≤ P / 18446744073709551616 := by omega
  have hd2 : (0 : Int) ≤ P % 18446744073709551616 := by omega
  have hd3 : P % 18446744073709551616 < 18446744073709551616 := by omega
  go_enter Try.func53, Try.ntmps53
  go_wp2_with (go_at_call 56; refine (mul_any _ _ _ (by omega) (by omega) (by omega) (by omega)).mono ?_; rintro e w' ⟨rfl, rfl⟩)
  have hbase : Below w.heap.size w ((w.alloc (.cells #[.int .u64 0, .int .u64 0, .int .u64 0, .bool false] 60)).alloc (.cells #[.int .u64 0, .int .u64 0, .int .u64 d, .bool false] 60)) := ((Below.refl _ w).alloc (Nat.le_refl _) _).alloc (by simp) _
  exact bodyPost_ret (v := .tuple #[.agg #[.int .u64 0, .int .u64 0, .int .u64 d, .bool false], .bool false]) (by simp [results, Try.results53, go_sem]) rfl ⟨rfl, by (repeat (with_reducible first | exact hbase | exact Below.refl _ _ | refine Below.drew ?_ | refine Below.setCell ?_ ?_ _ | refine Below.alloc ?_ ?_ _)); all_goals simp⟩
set_option maxHeartbeats 1000000 in
theorem divide_neg_no (a n d P : Int) (w : World) (h0 : a < 0) (h1 : -3000000000000000 ≤ a) (h2 : a ≤ 3000000000000000) (h3 : 0 ≤ n) (h4 : n ≤ 2000000000) (h5 : 1 ≤ d) (h6 : d ≤ 2000000000) (hP : -a * n = P) (hP0 : 0 ≤ P) (hP1 : P ≤ 3000000000000000 * 2000000000) (hhi : d ≤ P / 18446744073709551616) :
    Calls Try.prog 53 #[.int .i64 a, .int .i64 n, .int .i64 d] w (RetB (.tuple #[.agg #[.int .u64 0, .int .u64 0, .int .u64 d, .bool true], .bool false])  w) := by
  have hneg : decide (a < 0) = true := by simp; omega
  have hback : P / 18446744073709551616 * 18446744073709551616 + P % 18446744073709551616 = P := by omega
  have hd1 : (0 : Int) ≤ P / 18446744073709551616 := by omega
  have hd2 : (0 : Int) ≤ P % 18446744073709551616 := by omega
  have hd3 : P % 18446744073709551616 < 18446744073709551616 := by omega
  go_enter Try.func53, Try.ntmps53
  go_wp2_with (go_at_call 56; refine (mul_any _ _ _ (by omega) (by omega) (by omega) (by omega)).mono ?_; rintro e w' ⟨rfl, rfl⟩)
  have hbase : Below w.heap.size w ((w.alloc (.cells #[.int .u64 0, .int .u64 0, .int .u64 0, .bool false] 60)).alloc (.cells #[.int .u64 0, .int .u64 0, .int .u64 d, .bool true] 60)) := ((Below.refl _ w).alloc (Nat.le_refl _) _).alloc (by simp) _
  exact bodyPost_ret (v := .tuple #[.agg #[.int .u64 0, .int .u64 0, .int .u64 d, .bool true], .bool false]) (by simp [results, Try.results53, go_sem]) rfl ⟨rfl, by (repeat (with_reducible first | exact hbase | exact Below.refl _ _ | refine Below.drew ?_ | refine Below.setCell ?_ ?_ _ | refine Below.alloc ?_ ?_ _)); all_goals simp⟩

/-- what divide returns: the parts of the quotient, and whether its whole part is a time -/
def DivPost (a n d : Int) (w : World) (e : Ending) (w' : World) : Prop := Below w.heap.size w w' ∧
  ((∃ x y : Int, Hid (3000000000000000 < Scm.who a n d) ∧ e = .returned (.tuple #[.agg #[.int .u64 x, .int .u64 y, .int .u64 d, .bool (Scm.neg a)], .bool false])) ∨
   (Hid (Scm.who a n d ≤ 3000000000000000) ∧ e = .returned (.tuple #[.agg #[.int .u64 (Scm.who a n d), .int .u64 (Scm.lef a n d), .int .u64 d, .bool (Scm.neg a)], .bool true])))
theorem divide_any (a n d : Int) (w : World) (h1 : -3000000000000000 ≤ a) (h2 : a ≤ 3000000000000000) (h3 : 0 ≤ n) (h4 : n ≤ 2000000000) (h5 : 1 ≤ d) (h6 : d ≤ 2000000000) :
    Calls Try.prog 53 #[.int .i64 a, .int .i64 n, .int .i64 d] w (DivPost a n d w) := by
  have hm := Scm.mag_bd h1 h2
  obtain ⟨P, hP⟩ : ∃ P, Scm.mag a * n = P := ⟨_, rfl⟩
  have hP0 : 0 ≤ P := by rw [← hP]; exact Int.mul_nonneg hm.1 h3
  have hP1 : P ≤ 3000000000000000 * 2000000000 := by rw [← hP]; exact Int.mul_le_mul hm.2 h4 h3 (by omega)
  have hwho : Scm.who a n d = P / d := by unfold Scm.who; rw [hP]
  have hlef : Scm.lef a n d = P % d := by unfold Scm.lef; rw [hP]
  have hbig : d ≤ P / 18446744073709551616 → 3000000000000000 < P / d := fun h => by
    have : 18446744073709551616 ≤ P / d := Int.le_ediv_of_mul_le (by omega) (by omega)
    omega
  by_cases hn : a < 0
  · have e : Scm.mag a = -a := by unfold Scm.mag; rw [if_pos hn]
    have eb : Scm.neg a = true := by simp [Scm.neg, hn]
    rw [e] at hP
    by_cases hf : P / 18446744073709551616 < d
    · refine (divide_neg_yes a n d P w hn h1 h2 h3 h4 h5 h6 hP hP0 hP1 hf).mono ?_
      rintro e w' ⟨rfl, hb⟩
      refine ⟨hb, ?_⟩
      rw [hwho, hlef, eb]
      by_cases hq : P / d ≤ 3000000000000000
      · exact .inr ⟨Lib.hid hq, by simp [hq]⟩
      · exact .inl ⟨_, _, Lib.hid (by omega), by simp [hq]; exact ⟨rfl, rfl⟩⟩
    · refine (divide_neg_no a n d P w hn h1 h2 h3 h4 h5 h6 hP hP0 hP1 (by omega)).mono ?_
      rintro e w' ⟨rfl, hb⟩
      refine ⟨hb, .inl ⟨0, 0, Lib.hid (by rw [hwho]; exact hbig (by omega)), by rw [eb]⟩⟩
  · have e : Scm.mag a = a := by unfold Scm.mag; rw [if_neg hn]
    have eb : Scm.neg a = false := by simp [Scm.neg]; omega
    rw [e] at hP
    by_cases hf : P / 18446744073709551616 < d
    · refine (divide_pos_yes a n d P w (by omega) h1 h2 h3 h4 h5 h6 hP hP0 hP1 hf).mono ?_
      rintro e w' ⟨rfl, hb⟩
      refine ⟨hb, ?_⟩
      rw [hwho, hlef, eb]
      by_cases hq : P / d ≤ 3000000000000000
      · exact .inr ⟨Lib.hid hq, by simp [hq]⟩
      · exact .inl ⟨_, _, Lib.hid (by omega), by simp [hq]; exact ⟨rfl, rfl⟩⟩
    · refine (divide_pos_no a n d P w (by omega) h1 h2 h3 h4 h5 h6 hP hP0 hP1 (by omega)).mono ?_
      rintro e w' ⟨rfl, hb⟩
      refine ⟨hb, .inl ⟨0, 0, Lib.hid (by rw [hwho]; exact hbig (by omega)), by rw [eb]⟩⟩
end Go.Proofs.Ytlmdjkkeocmehaa
