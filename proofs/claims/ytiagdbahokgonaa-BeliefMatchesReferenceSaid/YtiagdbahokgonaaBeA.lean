/- The contracts of package belief's functions: Valid, valid, later. -/
import Derived.Test.YtiagdbahokgonaaDrA
import Derived.Test.YtiagdbahokgonaaBeMath
set_option linter.unusedVariables false
namespace Go.Proofs.Ytiagdbahokgonaa
open Go.RowKit
abbrev B3 (a b c : Int) : Value := .agg #[.int .i64 a, .int .i64 b, .int .i64 c]
theorem beT_any (v : Int) (w : World) : Calls Try.prog 27 #[.int .i64 v] w (Ret (.bool (Blm.tT v)) w) := by
  go_enter Try.func27, Try.ntmps27
  go_wp2
  all_goals go_ret
  all_goals exact ⟨ret_bool (by unfold Blm.tT; rw [Bool.eq_iff_iff]; simp; try omega), rfl⟩
theorem iValid_any (x y : Int) (w : World) : Calls Try.prog 33 #[I2 x y] w (RetB (.bool (Blm.iV x y)) w) := by
  go_enter Try.func33, Try.ntmps33
  go_wp2
  all_goals go_ret
  all_goals exact ⟨ret_bool (by unfold Blm.iV; rw [Bool.eq_iff_iff]; simp; try omega), (Below.refl _ _).alloc (Nat.le_refl _) _⟩
set_option maxHeartbeats 1000000 in
theorem kValid_any (a x y : Int) (w : World) : Calls Try.prog 29 #[B3 a x y] w (RetB (.bool (Blm.vB a x y)) w) := by
  have hv : Hid (Blm.vB a x y = (Blm.tT a && Blm.iV x y)) := Lib.hid rfl
  have hb0 : Below w.heap.size w (w.alloc (.cells #[.int .i64 a, .int .i64 x, .int .i64 y] 58)) := (Below.refl _ _).alloc (Nat.le_refl _) _
  cases h1 : Blm.tT a
  · rw [h1] at hv
    go_enter Try.func29, Try.ntmps29
    go_wp2_with (go_at_call 27; refine (beT_any _ _).mono ?_; rintro e w' ⟨rfl, rfl⟩)
    go_ret
    exact ⟨ret_bool (by rw [hv.out]; rfl), hb0⟩
  · rw [h1] at hv
    go_enter Try.func29, Try.ntmps29
    go_wp2_with (first | (go_at_call 27; refine (beT_any _ _).mono ?_; rintro e w' ⟨rfl, rfl⟩) | (go_at_call 33; refine (iValid_any _ _ _).mono ?_; rintro e w1 ⟨rfl, hb1⟩))
    go_ret
    exact ⟨ret_bool (by rw [hv.out]; rfl), Below.go hb0 hb1⟩
def Ret2 (x y : Int) (w : World) (e : Ending) (w' : World) : Prop := e = .returned (I2 x y) ∧ Below w.heap.size w w'
theorem mn_rule (x : Int) : (if (3000000000000000 : Int) < x then 3000000000000000 else x) = Blm.mn x := rfl
set_option maxHeartbeats 1000000 in
theorem later_any (a x y l h : Int) (w : World) (x1 : 0 ≤ x) (x2 : x ≤ 3000000000000000) (y1 : 0 ≤ y) (y2 : y ≤ 3000000000000000) (l1 : 0 ≤ l) (l2 : l ≤ 3000000000000000) (h1 : 0 ≤ h) (h2 : h ≤ 3000000000000000) :
    Calls Try.prog 31 #[B3 a x y, I2 l h] w (RetB (I2 (Blm.mn (x + l)) (Blm.mn (y + h))) w) := by
  have e1 := mn_rule (x + l)
  have e2 := mn_rule (y + h)
  go_enter Try.func31, Try.ntmps31
  go_wp2
  exact bodyPost_ret (v := I2 (Blm.mn (x + l)) (Blm.mn (y + h))) (by simp [results, Try.results31, go_sem]) rfl ⟨rfl, by (repeat (with_reducible first | exact Below.refl _ _ | refine Below.drew ?_ | refine Below.setCell ?_ ?_ _ | refine Below.alloc ?_ ?_ _)); all_goals simp; all_goals try omega⟩
/-- the method value that At hands on -/
abbrev laterF (a x y : Int) : Value := .func (Fn.func 31) #[B3 a x y] #[]
set_option maxHeartbeats 1000000 in
theorem after_yes (a x y r n : Int) (w : World) (x1 : 0 ≤ x) (x2 : x ≤ 3000000000000000) (y1 : 0 ≤ y) (y2 : y ≤ 3000000000000000) (r1 : 0 ≤ r) (r2 : r ≤ 1000000) (n1 : 0 ≤ n) (n2 : n ≤ 1000000000000000) :
    Calls Try.prog 30 #[.int .i64 r, .int .i64 n, laterF a x y] w (RetB (.tuple #[I2 (Blm.mn (x + Drm.elLo r n)) (Blm.mn (y + Drm.elHi r n)), .int .i64 0]) w) := by
  have hb0 : Below w.heap.size w (w.alloc (.cells #[.int .i64 0, .int .i64 0] 23)) := (Below.refl _ _).alloc (Nat.le_refl _) _
  obtain ⟨e1, e2, e3, _⟩ := Drm.okE_yes (Drm.okE_mk ⟨r1, r2⟩ ⟨n1, n2⟩)
  have hbd := Drm.el_bd r1 r2 n1
  generalize Drm.elLo r n = L at *
  generalize Drm.elHi r n = H at *
  go_enter Try.func30, Try.ntmps30
  go_wp2_with (first | (go_at_call 40; refine (Elapsed_any _ _ _).mono ?_; rintro e w1 ⟨rfl, hb1⟩) | (go_at_call 31; refine (later_any _ _ _ _ _ _ x1 x2 y1 y2 (by omega) (by omega) (by omega) (by omega)).mono ?_; rintro e w2 ⟨rfl, hb2⟩; have hbase := Below.goA (Below.go hb0 hb1) hb2; obtain ⟨⟨c0, c1⟩, d0, d1⟩ := blk2 (keepA (keep' (heap_new w _) hb1) hb2)))
  exact bodyPost_ret (v := .tuple #[I2 (Blm.mn (x + L)) (Blm.mn (y + H)), .int .i64 0]) (by simp [results, Try.results30, go_sem, c0, c1]) rfl ⟨rfl, by (repeat (with_reducible first | exact hbase | refine Below.drew ?_ | refine Below.setCell ?_ ?_ _)); all_goals simp⟩
set_option maxHeartbeats 1000000 in
theorem after_no (a x y r n : Int) (w : World) (n1 : 1000000000000000 < n) :
    Calls Try.prog 30 #[.int .i64 r, .int .i64 n, laterF a x y] w (RetB (.tuple #[I2 0 0, .int .i64 3]) w) := by
  have hb0 : Below w.heap.size w (w.alloc (.cells #[.int .i64 0, .int .i64 0] 23)) := (Below.refl _ _).alloc (Nat.le_refl _) _
  have hn : Drm.sB n = false := decide_eq_false (by omega)
  obtain ⟨e1, e2, e3, _⟩ := Drm.okE_no (r := r) (n := n) (by unfold Drm.okE; rw [hn]; simp)
  clear hn
  go_enter Try.func30, Try.ntmps30
  go_wp2_with (go_at_call 40; refine (Elapsed_any _ _ _).mono ?_; rintro e w1 ⟨rfl, hb1⟩; have hbase := Below.goN (Below.go hb0 hb1) (.cells #[.int .i64 0, .int .i64 0] 49); obtain ⟨⟨c0, c1⟩, d0, d1⟩ := blk2A (keep' (heap_new w _) hb1); obtain ⟨⟨p0, p1⟩, q0, q1⟩ := blk2 (keep' (heap_new w _) hb1); have hsz := lt_of_heap (keep' (heap_new w _) hb1))
  exact bodyPost_ret (v := .tuple #[I2 0 0, .int .i64 3]) (by simp [results, Try.results30, go_sem, p0, p1, cell_old, hsz]) rfl ⟨rfl, by (repeat (with_reducible first | exact hbase | exact Below.go hb0 hb1 | refine Below.drew ?_ | refine Below.setCell ?_ ?_ _ | refine Below.alloc ?_ ?_ _)); all_goals simp; all_goals exact (Below.go hb0 hb1).size⟩
theorem atB_ways {a x y r t : Int} (h : Blm.atB a x y r t = false) : Blm.vB a x y = false ∨ Blm.vB a x y = true ∧ Blm.tT t = false ∨ Blm.vB a x y = true ∧ Blm.tT t = true ∧ ¬ (0 ≤ r ∧ r ≤ 1000000) := by
  unfold Blm.atB at h
  cases h1 : Blm.vB a x y
  · exact .inl rfl
  cases h2 : Blm.tT t
  · exact .inr (.inl ⟨rfl, rfl⟩)
  rw [h1, h2] at h
  exact .inr (.inr ⟨rfl, rfl, Drm.rB_no (by simpa using h)⟩)
/-- what the walk of At knows behind the call of valid -/
theorem at_facts {w w1 : World} {x y a s r : Value} {o : Obj} {t t' : TypeId} (hb : Below (((w.alloc o).alloc (.cells #[x, y] t)).alloc (.cells #[a, s, r] t')).heap.size (((w.alloc o).alloc (.cells #[x, y] t)).alloc (.cells #[a, s, r] t')) w1) :
    ((w1.cell? ⟨w.heap.size + 1, 0, none⟩ = some x ∧ w1.cell? ⟨w.heap.size + 1, 1, none⟩ = some y) ∧ w1.frozen? ⟨w.heap.size + 1, 0, none⟩ = false ∧ w1.frozen? ⟨w.heap.size + 1, 1, none⟩ = false) ∧
    (w1.cell? ⟨w.heap.size + 2, 0, none⟩ = some a ∧ w1.cell? ⟨w.heap.size + 2, 1, none⟩ = some s ∧ w1.cell? ⟨w.heap.size + 2, 2, none⟩ = some r) ∧ Below w.heap.size w w1 :=
  ⟨blk2 (keep' (new31 _ _ _ _) hb), (blk3 (keep' (new32 _ _ _ _) hb)).1, Below.go ((((Below.refl _ _).alloc (Nat.le_refl _) _).alloc (by simp) _).alloc (by simp; omega) _) hb⟩
set_option maxHeartbeats 2000000 in
set_option maxRecDepth 100000 in
theorem At_any (a x y r t : Int) (w : World) : Calls Try.prog 14 #[B3 a x y, .int .i64 r, .int .i64 t] w (RetB (.tuple #[I2 (Blm.atLo a x y r t) (Blm.atHi a x y r t), .int .i64 (Blm.atE a x y r t)]) w) := by
  cases hB : Blm.atB a x y r t
  · have hz : Hid (Blm.atE a x y r t = 1) := Lib.hid (by unfold Blm.atE; rw [hB]; rfl)
    have hz2 := Lib.hid (Blm.at_off (a := a) (lo := x) (hi := y) (r := r) (t := t) (by rw [hz.out]; omega))
    rcases atB_ways hB with h1 | ⟨h1, h2⟩ | ⟨h1, h2, h3⟩
    all_goals
      clear hB
      go_enter Try.func14, Try.ntmps14
      go_wp2_with (first | (go_at_call 29; refine (kValid_any _ _ _ _).mono ?_; rintro e w1 ⟨rfl, hb1⟩; obtain ⟨⟨⟨d0, d1⟩, f0, f1⟩, ⟨c0, c1, c2⟩, hbase⟩ := at_facts hb1) | (go_at_call 27; refine (beT_any _ _).mono ?_; rintro e w' ⟨rfl, rfl⟩))
      all_goals exact bodyPost_ret (v := .tuple #[I2 0 0, .int .i64 1]) (by simp [results, Try.results14, go_sem, d0, d1]) rfl ⟨ret_i2 hz2.out.1.symm hz2.out.2.1.symm hz.out.symm, by (repeat (with_reducible first | exact hbase | refine Below.drew ?_ | refine Below.setCell ?_ ?_ _)); all_goals simp⟩
  obtain ⟨⟨⟨a1, a2⟩, x1, x2, x3⟩, ⟨t1, t2⟩, r1, r2⟩ := Blm.atB_bd hB
  have v1 := Blm.vB_yes ⟨a1, a2⟩ ⟨x1, x2, x3⟩
  have v2 := Blm.tT_yes ⟨t1, t2⟩
  have hE : Blm.atE a x y r t = if t < a then 30 else if t - a ≤ 1000000000000000 then 0 else 3 := by unfold Blm.atE; rw [hB]; rfl
  by_cases h3 : t < a
  · rw [if_pos h3] at hE
    have hz2 := Lib.hid (Blm.at_off (a := a) (lo := x) (hi := y) (r := r) (t := t) (by rw [hE]; omega))
    have hz := Lib.hid hE
    clear hE hB
    go_enter Try.func14, Try.ntmps14
    go_wp2_with (first | (go_at_call 29; refine (kValid_any _ _ _ _).mono ?_; rintro e w1 ⟨rfl, hb1⟩; obtain ⟨⟨⟨d0, d1⟩, f0, f1⟩, ⟨c0, c1, c2⟩, hbase⟩ := at_facts hb1) | (go_at_call 27; refine (beT_any _ _).mono ?_; rintro e w' ⟨rfl, rfl⟩))
    exact bodyPost_ret (v := .tuple #[I2 0 0, .int .i64 30]) (by simp [results, Try.results14, go_sem, d0, d1]) rfl ⟨ret_i2 hz2.out.1.symm hz2.out.2.1.symm hz.out.symm, by (repeat (with_reducible first | exact hbase | refine Below.drew ?_ | refine Below.setCell ?_ ?_ _)); all_goals simp⟩
  rw [if_neg h3] at hE
  by_cases h4 : t - a ≤ 1000000000000000
  · rw [if_pos h4] at hE
    obtain ⟨_, _, _, q1, q2, _⟩ := Blm.at_ok hE
    have hz := Lib.hid ((⟨hE, q1, q2⟩ : _ ∧ _ ∧ _))
    clear hE hB q1 q2
    go_enter Try.func14, Try.ntmps14
    go_wp2_with (first | (go_at_call 29; refine (kValid_any _ _ _ _).mono ?_; rintro e w1 ⟨rfl, hb1⟩; obtain ⟨⟨⟨d0, d1⟩, f0, f1⟩, ⟨c0, c1, c2⟩, hbase⟩ := at_facts hb1) | (go_at_call 27; refine (beT_any _ _).mono ?_; rintro e w' ⟨rfl, rfl⟩))
    refine (after_yes _ _ _ _ _ _ (by omega) (by omega) (by omega) (by omega) r1 r2 (by omega) (by omega)).mono ?_
    rintro e w2 ⟨rfl, hb2⟩
    obtain ⟨⟨⟨e0, e1⟩, g0, g1⟩, _, hbase2⟩ := at_facts (Below.go hb1 hb2)
    go_wp2
    exact bodyPost_ret (v := .tuple #[I2 (Blm.mn (x + Drm.elLo r (t - a))) (Blm.mn (y + Drm.elHi r (t - a))), .int .i64 0]) (by simp [results, Try.results14, go_sem, e0, e1]) rfl ⟨ret_i2 hz.out.2.1.symm hz.out.2.2.symm hz.out.1.symm, by (repeat (with_reducible first | exact hbase2 | refine Below.drew ?_ | refine Below.setCell ?_ ?_ _)); all_goals simp⟩
  · rw [if_neg h4] at hE
    have hz2 := Lib.hid (Blm.at_off (a := a) (lo := x) (hi := y) (r := r) (t := t) (by rw [hE]; omega))
    have hz := Lib.hid hE
    clear hE hB
    go_enter Try.func14, Try.ntmps14
    go_wp2_with (first | (go_at_call 29; refine (kValid_any _ _ _ _).mono ?_; rintro e w1 ⟨rfl, hb1⟩; obtain ⟨⟨⟨d0, d1⟩, f0, f1⟩, ⟨c0, c1, c2⟩, hbase⟩ := at_facts hb1) | (go_at_call 27; refine (beT_any _ _).mono ?_; rintro e w' ⟨rfl, rfl⟩))
    refine (after_no _ _ _ _ _ _ (by omega)).mono ?_
    rintro e w2 ⟨rfl, hb2⟩
    obtain ⟨⟨⟨e0, e1⟩, g0, g1⟩, _, hbase2⟩ := at_facts (Below.go hb1 hb2)
    go_wp2
    exact bodyPost_ret (v := .tuple #[I2 0 0, .int .i64 3]) (by simp [results, Try.results14, go_sem, e0, e1]) rfl ⟨ret_i2 hz2.out.1.symm hz2.out.2.1.symm hz.out.symm, by (repeat (with_reducible first | exact hbase2 | refine Below.drew ?_ | refine Below.setCell ?_ ?_ _)); all_goals simp⟩
end Go.Proofs.Ytiagdbahokgonaa
