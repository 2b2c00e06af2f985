/- The contract of belief.Meet, and the contracts in the form for chains of calls. -/
import Derived.Test.YtiagdbahokgonaaBeB
set_option linter.unusedVariables false
namespace Go.Proofs.Ytiagdbahokgonaa
open Go.RowKit
theorem meV_ways {a x y x2 y2 : Int} (h : Blm.meV a x y x2 y2 = false) : Blm.vB a x y = false ∨ Blm.vB a x y = true ∧ Blm.iV x2 y2 = false := by
  unfold Blm.meV at h
  cases h1 : Blm.vB a x y
  · exact .inl rfl
  · rw [h1] at h; exact .inr ⟨rfl, by simpa using h⟩
/-- what the walk of Meet knows behind each call: the interval that came in, the result, the belief -/
theorem me_facts {w w1 : World} {p q x y z a b c : Value} {o : Obj} {t t' t'' : TypeId} (hb : Below ((((w.alloc o).alloc (.cells #[p, q] t)).alloc (.cells #[x, y, z] t')).alloc (.cells #[a, b, c] t'')).heap.size ((((w.alloc o).alloc (.cells #[p, q] t)).alloc (.cells #[x, y, z] t')).alloc (.cells #[a, b, c] t'')) w1) :
    w1.heap[w.heap.size + 1]? = some (.cells #[p, q] t) ∧ w1.heap[w.heap.size + 2]? = some (.cells #[x, y, z] t') ∧ w1.heap[w.heap.size + 3]? = some (.cells #[a, b, c] t'') ∧ Below w.heap.size w w1 :=
  ⟨keep' (new41 _ _ _ _ _) hb, keep' (new42 _ _ _ _ _) hb, keep' (new43 _ _ _ _ _) hb, Below.go (((((Below.refl _ _).alloc (Nat.le_refl _) _).alloc (by simp) _).alloc (by simp; omega) _).alloc (by simp; omega) _) hb⟩
set_option maxHeartbeats 2000000 in
set_option maxRecDepth 100000 in
theorem Meet_any (a x y x2 y2 : Int) (w : World) : Calls Try.prog 18 #[B3 a x y, I2 x2 y2] w (RetB (.tuple #[B3 (Blm.meA a x y x2 y2) (Blm.meLo a x y x2 y2) (Blm.meHi a x y x2 y2), .bool (Blm.meS a x y x2 y2), .int .i64 (Blm.meE a x y x2 y2)]) w) := by
  cases hV : Blm.meV a x y x2 y2
  · have hz : Hid (Blm.meA a x y x2 y2 = 0 ∧ Blm.meLo a x y x2 y2 = 0 ∧ Blm.meHi a x y x2 y2 = 0 ∧ Blm.meS a x y x2 y2 = false ∧ Blm.meE a x y x2 y2 = 1) := Lib.hid (by unfold Blm.meA Blm.meLo Blm.meHi Blm.meE; unfold Blm.meS; rw [hV]; simp)
    rcases meV_ways hV with h1 | ⟨h1, h2⟩
    · clear hV
      go_enter Try.func18, Try.ntmps18
      go_wp2_with fail
      refine (kValid_any _ _ _ _).mono ?_
      rintro e w1 ⟨rfl, hb1⟩
      obtain ⟨-, k2, -, hbase⟩ := me_facts hb1
      obtain ⟨⟨r0, r1, r2⟩, f0, f1, f2⟩ := blk3 k2
      clear k2
      go_wp2
      exact bodyPost_ret (v := .tuple #[B3 0 0 0, .bool false, .int .i64 1]) (by simp [results, Try.results18, go_sem, r0, r1, r2]) rfl ⟨ret_m3 hz.out.1.symm hz.out.2.1.symm hz.out.2.2.1.symm hz.out.2.2.2.1.symm hz.out.2.2.2.2.symm, by (repeat (with_reducible first | exact hbase | refine Below.drew ?_ | refine Below.setCell ?_ ?_ _)); all_goals simp; all_goals try omega⟩
    · clear hV
      go_enter Try.func18, Try.ntmps18
      go_wp2_with fail
      refine (kValid_any _ _ _ _).mono ?_
      rintro e w1 ⟨rfl, hb1⟩
      obtain ⟨k1, -, -, -⟩ := me_facts hb1
      obtain ⟨⟨i0, i1⟩, -⟩ := blk2 k1
      clear k1
      go_wp2_with fail
      refine (iValid_any _ _ _).mono ?_
      rintro e w2 ⟨rfl, hb2⟩
      obtain ⟨-, k2, -, hbase⟩ := me_facts (Below.go hb1 hb2)
      obtain ⟨⟨r0, r1, r2⟩, f0, f1, f2⟩ := blk3 k2
      clear k2
      go_wp2
      exact bodyPost_ret (v := .tuple #[B3 0 0 0, .bool false, .int .i64 1]) (by simp [results, Try.results18, go_sem, r0, r1, r2]) rfl ⟨ret_m3 hz.out.1.symm hz.out.2.1.symm hz.out.2.2.1.symm hz.out.2.2.2.1.symm hz.out.2.2.2.2.symm, by (repeat (with_reducible first | exact hbase | refine Below.drew ?_ | refine Below.setCell ?_ ?_ _)); all_goals simp; all_goals try omega⟩
  obtain ⟨v1, v2⟩ := Blm.meV_bd hV
  obtain ⟨⟨a1, a2⟩, x1, x2', x3⟩ := Blm.vB_bd v1
  have v3 := Blm.iV_yes ⟨x1, x2', x3⟩
  have hS : Blm.meS a x y x2 y2 = mtS x y x2 y2 := by unfold Blm.meS; rw [hV]; rfl
  cases hs : mtS x y x2 y2
  · have hz : Hid (Blm.meA a x y x2 y2 = a ∧ Blm.meLo a x y x2 y2 = x ∧ Blm.meHi a x y x2 y2 = y ∧ Blm.meS a x y x2 y2 = false ∧ Blm.meE a x y x2 y2 = 0) := Lib.hid (by unfold Blm.meA Blm.meLo Blm.meHi Blm.meE; rw [hS, hs, hV]; simp)
    have o1 : oB false (Blm.mxA x x2) = 0 := rfl
    have o2 : oB false (Blm.mnA y y2) = 0 := rfl
    clear hS hV
    go_enter Try.func18, Try.ntmps18
    go_wp2_with fail
    refine (kValid_any _ _ _ _).mono ?_
    rintro e w1 ⟨rfl, hb1⟩
    obtain ⟨k1, -, -, -⟩ := me_facts hb1
    obtain ⟨⟨i0, i1⟩, -⟩ := blk2 k1
    clear k1
    go_wp2_with fail
    refine (iValid_any _ _ _).mono ?_
    rintro e w2 ⟨rfl, hb2'⟩
    have hb2 := Below.go hb1 hb2'
    obtain ⟨k1, -, k3, -⟩ := me_facts hb2
    obtain ⟨⟨j0, j1⟩, -⟩ := blk2 k1
    obtain ⟨⟨b0, b1, b2⟩, -⟩ := blk3 k3
    clear k1 k3
    go_wp2_with fail
    refine (iMeet_any _ _ _ _ _ v3 v2).mono ?_
    rintro e w3 ⟨rfl, hb3'⟩
    have hb3 := Below.go hb2 hb3'
    obtain ⟨-, k2, k3, hbase⟩ := me_facts hb3
    obtain ⟨⟨r0, r1, r2⟩, f0, f1, f2⟩ := blk3 k2
    obtain ⟨⟨R0, R1, R2⟩, F0, F1, F2⟩ := blk3A k2
    obtain ⟨⟨c0, c1, c2⟩, -⟩ := blk3A k3
    have hsz := lt_of_heap k2
    have hsz3 := lt_of_heap k3
    clear k2 k3
    go_wp2
    exact bodyPost_ret (v := .tuple #[B3 a x y, .bool false, .int .i64 0]) (by simp [results, Try.results18, go_sem, r0, r1, r2, cell_old, hsz]) rfl ⟨ret_m3 hz.out.1.symm hz.out.2.1.symm hz.out.2.2.1.symm hz.out.2.2.2.1.symm hz.out.2.2.2.2.symm, by (repeat (with_reducible first | exact hbase | refine Below.drew ?_ | refine Below.setCell ?_ ?_ _ | refine Below.alloc ?_ ?_ _)); all_goals simp; all_goals first | exact hbase.size | omega⟩
  · have hz : Hid (Blm.meA a x y x2 y2 = a ∧ Blm.meLo a x y x2 y2 = Blm.mxA x x2 ∧ Blm.meHi a x y x2 y2 = Blm.mnA y y2 ∧ Blm.meS a x y x2 y2 = true ∧ Blm.meE a x y x2 y2 = 0) := Lib.hid (by unfold Blm.meA Blm.meLo Blm.meHi Blm.meE; rw [hS, hs, hV]; simp)
    have o1 : oB true (Blm.mxA x x2) = Blm.mxA x x2 := rfl
    have o2 : oB true (Blm.mnA y y2) = Blm.mnA y y2 := rfl
    clear hS hV
    go_enter Try.func18, Try.ntmps18
    go_wp2_with fail
    refine (kValid_any _ _ _ _).mono ?_
    rintro e w1 ⟨rfl, hb1⟩
    obtain ⟨k1, -, -, -⟩ := me_facts hb1
    obtain ⟨⟨i0, i1⟩, -⟩ := blk2 k1
    clear k1
    go_wp2_with fail
    refine (iValid_any _ _ _).mono ?_
    rintro e w2 ⟨rfl, hb2'⟩
    have hb2 := Below.go hb1 hb2'
    obtain ⟨k1, -, k3, -⟩ := me_facts hb2
    obtain ⟨⟨j0, j1⟩, -⟩ := blk2 k1
    obtain ⟨⟨b0, b1, b2⟩, -⟩ := blk3 k3
    clear k1 k3
    go_wp2_with fail
    refine (iMeet_any _ _ _ _ _ v3 v2).mono ?_
    rintro e w3 ⟨rfl, hb3'⟩
    have hb3 := Below.go hb2 hb3'
    obtain ⟨-, k2, k3, hbase⟩ := me_facts hb3
    obtain ⟨⟨r0, r1, r2⟩, f0, f1, f2⟩ := blk3 k2
    obtain ⟨⟨c0, c1, c2⟩, g0, g1, g2⟩ := blk3 k3
    have hsz := lt_of_heap k2
    have hsz3 := lt_of_heap k3
    clear k2 k3
    have co := @cell_old
    have fo := @frozen_old
    go_wp2
    exact bodyPost_ret (v := .tuple #[B3 a (Blm.mxA x x2) (Blm.mnA y y2), .bool true, .int .i64 0]) (by simp [results, Try.results18, go_sem, r0, r1, r2, c0, c1, c2, cell_old, hsz, hsz3]) rfl ⟨ret_m3 hz.out.1.symm hz.out.2.1.symm hz.out.2.2.1.symm hz.out.2.2.2.1.symm hz.out.2.2.2.2.symm, by (repeat (with_reducible first | exact hbase | refine Below.drew ?_ | refine Below.setCell ?_ ?_ _ | refine Below.alloc ?_ ?_ _)); all_goals simp; all_goals first | exact hbase.size | omega⟩
end Go.Proofs.Ytiagdbahokgonaa
