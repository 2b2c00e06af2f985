/- The contracts of belief.Start, Advance, Meet and Worst. -/
import Derived.Test.YtiagdbahokgonaaBeA
set_option linter.unusedVariables false
namespace Go.Proofs.Ytiagdbahokgonaa
open Go.RowKit
def oB (b : Bool) (x : Int) : Int := if b then x else 0
def oE (b : Bool) : Int := if b then 0 else 1
set_option maxHeartbeats 1000000 in
theorem bStart_any (t : Int) (w : World) : Calls Try.prog 12 #[.int .i64 t] w (RetB (.tuple #[B3 (oB (Blm.tT t) t) 0 (oB (Blm.tT t) 3000000000000000), .int .i64 (oE (Blm.tT t))]) w) := by
  cases h : Blm.tT t
  · go_enter Try.func12, Try.ntmps12
    go_wp2_with (go_at_call 27; refine (beT_any _ _).mono ?_; rintro e w' ⟨rfl, rfl⟩)
    exact bodyPost_ret (v := .tuple #[B3 0 0 0, .int .i64 1]) (by simp [results, Try.results12, go_sem]) rfl ⟨rfl, (Below.refl _ _).alloc (Nat.le_refl _) _⟩
  · go_enter Try.func12, Try.ntmps12
    go_wp2_with (go_at_call 27; refine (beT_any _ _).mono ?_; rintro e w' ⟨rfl, rfl⟩)
    exact bodyPost_ret (v := .tuple #[B3 t 0 3000000000000000, .int .i64 0]) (by simp [results, Try.results12, go_sem]) rfl ⟨rfl, (Below.refl _ _).alloc (Nat.le_refl _) _⟩
theorem adv_facts {w w1 : World} {x y z : Value} {o : Obj} {t : TypeId} (hb : Below ((w.alloc o).alloc (.cells #[x, y, z] t)).heap.size ((w.alloc o).alloc (.cells #[x, y, z] t)) w1) :
    ((w1.cell? ⟨w.heap.size + 1, 0, none⟩ = some x ∧ w1.cell? ⟨w.heap.size + 1, 1, none⟩ = some y ∧ w1.cell? ⟨w.heap.size + 1, 2, none⟩ = some z) ∧ w1.frozen? ⟨w.heap.size + 1, 0, none⟩ = false ∧ w1.frozen? ⟨w.heap.size + 1, 1, none⟩ = false ∧ w1.frozen? ⟨w.heap.size + 1, 2, none⟩ = false) ∧
    (((∀ o, (w1.alloc o).cell? ⟨w.heap.size + 1, 0, none⟩ = some x) ∧ (∀ o, (w1.alloc o).cell? ⟨w.heap.size + 1, 1, none⟩ = some y) ∧ (∀ o, (w1.alloc o).cell? ⟨w.heap.size + 1, 2, none⟩ = some z)) ∧ (∀ o, (w1.alloc o).frozen? ⟨w.heap.size + 1, 0, none⟩ = false) ∧ (∀ o, (w1.alloc o).frozen? ⟨w.heap.size + 1, 1, none⟩ = false) ∧ (∀ o, (w1.alloc o).frozen? ⟨w.heap.size + 1, 2, none⟩ = false)) ∧
    w.heap.size + 1 < w1.heap.size ∧ Below w.heap.size w w1 :=
  have h := keep' (new1 w o (.cells #[x, y, z] t)) hb
  ⟨blk3 h, blk3A h, lt_of_heap h, Below.go (((Below.refl _ _).alloc (Nat.le_refl _) _).alloc (by simp) _) hb⟩
set_option maxHeartbeats 1000000 in
theorem Advance_any (a x y r t : Int) (w : World) : Calls Try.prog 16 #[B3 a x y, .int .i64 r, .int .i64 t] w (RetB (.tuple #[B3 (Blm.adA a x y r t) (Blm.atLo a x y r t) (Blm.atHi a x y r t), .int .i64 (Blm.atE a x y r t)]) w) := by
  by_cases h : Blm.atE a x y r t = 0
  · obtain ⟨-, -, -, -, -, q3⟩ := Blm.at_ok h
    have hz := Lib.hid q3
    clear q3
    go_enter Try.func16, Try.ntmps16
    go_wp2_with (go_at_call 14; refine (At_any _ _ _ _ _ _).mono ?_; rintro e w1 ⟨rfl, hb1⟩; obtain ⟨⟨⟨d0, d1, d2⟩, f0, f1, f2⟩, ⟨⟨p0, p1, p2⟩, q0, q1, q2⟩, hsz, hbase⟩ := adv_facts hb1)
    exact bodyPost_ret (v := .tuple #[B3 t (Blm.atLo a x y r t) (Blm.atHi a x y r t), .int .i64 0]) (by simp [results, Try.results16, go_sem, d0, d1, d2, cell_old, hsz]) rfl ⟨ret_i3 hz.out.symm rfl rfl h.symm, by (repeat (with_reducible first | exact hbase | refine Below.drew ?_ | refine Below.setCell ?_ ?_ _ | refine Below.alloc ?_ ?_ _)); all_goals simp; all_goals exact hbase.size⟩
  · have hn := bne_of h
    have hz := Lib.hid (Blm.at_off h)
    clear h
    go_enter Try.func16, Try.ntmps16
    go_wp2_with (go_at_call 14; refine (At_any _ _ _ _ _ _).mono ?_; rintro e w1 ⟨rfl, hb1⟩; obtain ⟨⟨⟨d0, d1, d2⟩, f0, f1, f2⟩, ⟨⟨p0, p1, p2⟩, q0, q1, q2⟩, hsz, hbase⟩ := adv_facts hb1)
    exact bodyPost_ret (v := .tuple #[B3 0 0 0, .int .i64 (Blm.atE a x y r t)]) (by simp [results, Try.results16, go_sem, d0, d1, d2, cell_old, hsz]) rfl ⟨ret_i3 hz.out.2.2.symm hz.out.1.symm hz.out.2.1.symm rfl, by (repeat (with_reducible first | exact hbase | refine Below.drew ?_ | refine Below.setCell ?_ ?_ _ | refine Below.alloc ?_ ?_ _)); all_goals simp; all_goals exact hbase.size⟩
set_option maxHeartbeats 1000000 in
theorem Worst_any (x y s : Int) (w : World) : Calls Try.prog 20 #[I2 x y, .int .i64 s] w (RetB (.tuple #[.int .i64 (Blm.woV x y s), .int .i64 (Blm.woE x y s)]) w) := by
  have hb0 : Below w.heap.size w (w.alloc (.cells #[.int .i64 x, .int .i64 y] 23)) := (Below.refl _ _).alloc (Nat.le_refl _) _
  have hE : Hid (Blm.woE x y s = if Blm.iV x y && Blm.tT s then 0 else 1) := Lib.hid rfl
  have hV : Hid (Blm.woV x y s = if Blm.iV x y && Blm.tT s then Blm.mxA (s - x) (y - s) else 0) := Lib.hid rfl
  cases h1 : Blm.iV x y
  · rw [h1] at hE hV
    go_enter Try.func20, Try.ntmps20
    go_wp2_with (first | (go_at_call 33; refine (iValid_any _ _ _).mono ?_; rintro e w1 ⟨rfl, hb1⟩) | (go_at_call 27; refine (beT_any _ _).mono ?_; rintro e w' ⟨rfl, rfl⟩))
    go_ret2
    exact ⟨ret_two (by rw [hV.out]; rfl) (by rw [hE.out]; rfl), Below.go hb0 hb1⟩
  cases h2 : Blm.tT s
  · rw [h1, h2] at hE hV
    go_enter Try.func20, Try.ntmps20
    go_wp2_with (first | (go_at_call 33; refine (iValid_any _ _ _).mono ?_; rintro e w1 ⟨rfl, hb1⟩) | (go_at_call 27; refine (beT_any _ _).mono ?_; rintro e w' ⟨rfl, rfl⟩))
    go_ret2
    exact ⟨ret_two (by rw [hV.out]; rfl) (by rw [hE.out]; rfl), Below.go hb0 hb1⟩
  · rw [h1, h2] at hE hV
    obtain ⟨x1, x2, x3⟩ := Blm.iV_bd h1
    obtain ⟨s1, s2⟩ := Blm.tT_bd h2
    have e1 : (if s - x < y - s then y - s else s - x) = Blm.mxA (s - x) (y - s) := rfl
    go_enter Try.func20, Try.ntmps20
    go_wp2_with (first | (go_at_call 33; refine (iValid_any _ _ _).mono ?_; rintro e w1 ⟨rfl, hb1⟩; obtain ⟨⟨c0, c1⟩, _⟩ := blk2 (keep' (heap_new w _) hb1)) | (go_at_call 27; refine (beT_any _ _).mono ?_; rintro e w' ⟨rfl, rfl⟩))
    go_ret2
    exact ⟨ret_two (by rw [hV.out]; rfl) (by rw [hE.out]; rfl), Below.go hb0 hb1⟩
theorem ret_m {x y x' y' e e' : Int} {b b' : Bool} (h1 : x = x') (h2 : y = y') (h3 : b = b') (h4 : e = e') : Ending.returned (.tuple #[I2 x y, .bool b, .int .i64 e]) = .returned (.tuple #[I2 x' y', .bool b', .int .i64 e']) := by rw [h1, h2, h3, h4]
theorem ret_m3 {x y z x' y' z' e e' : Int} {b b' : Bool} (h1 : x = x') (h2 : y = y') (h0 : z = z') (h3 : b = b') (h4 : e = e') : Ending.returned (.tuple #[B3 x y z, .bool b, .int .i64 e]) = .returned (.tuple #[B3 x' y' z', .bool b', .int .i64 e']) := by rw [h1, h2, h0, h3, h4]
def mtS (x y x2 y2 : Int) : Bool := decide (Blm.mxA x x2 ≤ Blm.mnA y y2)
theorem im_facts {w w1 : World} {a b c d x y : Value} {t t' t'' : TypeId} (hb : Below (((w.alloc (.cells #[a, b] t)).alloc (.cells #[c, d] t')).alloc (.cells #[x, y] t'')).heap.size (((w.alloc (.cells #[a, b] t)).alloc (.cells #[c, d] t')).alloc (.cells #[x, y] t'')) w1) :
    ((w1.cell? ⟨w.heap.size, 0, none⟩ = some a ∧ w1.cell? ⟨w.heap.size, 1, none⟩ = some b) ∧ (w1.cell? ⟨w.heap.size + 1, 0, none⟩ = some c ∧ w1.cell? ⟨w.heap.size + 1, 1, none⟩ = some d)) ∧
    ((w1.cell? ⟨w.heap.size + 2, 0, none⟩ = some x ∧ w1.cell? ⟨w.heap.size + 2, 1, none⟩ = some y) ∧ w1.frozen? ⟨w.heap.size + 2, 0, none⟩ = false ∧ w1.frozen? ⟨w.heap.size + 2, 1, none⟩ = false) ∧ w1.heap[w.heap.size + 2]? = some (.cells #[x, y] t'') ∧ Below w.heap.size w w1 :=
  ⟨⟨(blk2 (keep' (new30 _ _ _ _) hb)).1, (blk2 (keep' (new31 _ _ _ _) hb)).1⟩, blk2 (keep' (new32 _ _ _ _) hb), keep' (new32 _ _ _ _) hb, Below.go ((((Below.refl _ _).alloc (Nat.le_refl _) _).alloc (by simp) _).alloc (by simp; omega) _) hb⟩
set_option maxHeartbeats 2000000 in
theorem iMeet_any (x y x2 y2 : Int) (w : World) (v1 : Blm.iV x y = true) (v2 : Blm.iV x2 y2 = true) : Calls Try.prog 34 #[I2 x y, I2 x2 y2] w (RetB (.tuple #[I2 (oB (mtS x y x2 y2) (Blm.mxA x x2)) (oB (mtS x y x2 y2) (Blm.mnA y y2)), .bool (mtS x y x2 y2), .int .i64 0]) w) := by
  obtain ⟨x11, x12, x13⟩ := Blm.iV_bd v1
  obtain ⟨x21, x22, x23⟩ := Blm.iV_bd v2
  have e1 : (if x < x2 then x2 else x) = Blm.mxA x x2 := rfl
  have e2 : (if y2 < y then y2 else y) = Blm.mnA y y2 := rfl
  have b1 := Blm.mx_bd x x2
  have b2 := Blm.mnA_bd y y2
  have hm : Blm.iV (Blm.mxA x x2) (Blm.mnA y y2) = mtS x y x2 y2 := by unfold Blm.iV mtS; rw [decide_eq_decide]; omega
  generalize Blm.mxA x x2 = X at *
  generalize Blm.mnA y y2 = Y at *
  cases hs : mtS x y x2 y2
  · rw [hs] at hm
    go_enter Try.func34, Try.ntmps34
    go_wp2_with fail
    refine (iValid_any _ _ _).mono ?_
    rintro e w1 ⟨rfl, hb1⟩
    obtain ⟨⟨⟨c0, c1⟩, c2, c3⟩, -⟩ := im_facts hb1
    go_wp2_with fail
    refine (iValid_any _ _ _).mono ?_
    rintro e w2 ⟨rfl, hb2'⟩
    have hb2 := Below.go hb1 hb2'
    obtain ⟨⟨⟨d0, d1⟩, d2, d3⟩, -, hr, hbase⟩ := im_facts hb2
    go_wp2_with fail
    refine (iValid_any _ _ _).mono ?_
    rintro e w3 ⟨rfl, hb3⟩
    obtain ⟨⟨r0, r1⟩, f0, f1⟩ := blk2 (keepA hr hb3)
    have hbase2 := Below.goA hbase hb3
    go_wp2
    exact bodyPost_ret (v := .tuple #[I2 0 0, .bool false, .int .i64 0]) (by simp [results, Try.results34, go_sem, r0, r1]) rfl ⟨rfl, by (repeat (with_reducible first | exact hbase2 | refine Below.drew ?_ | refine Below.setCell ?_ ?_ _)); all_goals simp; all_goals try omega⟩
  · rw [hs] at hm
    go_enter Try.func34, Try.ntmps34
    go_wp2_with fail
    refine (iValid_any _ _ _).mono ?_
    rintro e w1 ⟨rfl, hb1⟩
    obtain ⟨⟨⟨c0, c1⟩, c2, c3⟩, -⟩ := im_facts hb1
    go_wp2_with fail
    refine (iValid_any _ _ _).mono ?_
    rintro e w2 ⟨rfl, hb2'⟩
    have hb2 := Below.go hb1 hb2'
    obtain ⟨⟨⟨d0, d1⟩, d2, d3⟩, -, hr, hbase⟩ := im_facts hb2
    go_wp2_with fail
    refine (iValid_any _ _ _).mono ?_
    rintro e w3 ⟨rfl, hb3⟩
    obtain ⟨⟨r0, r1⟩, f0, f1⟩ := blk2 (keepA hr hb3)
    obtain ⟨⟨g0, g1⟩, -⟩ := blk2 (keep' (heap_new w2 _) hb3)
    have hbase2 := Below.goA hbase hb3
    go_wp2
    exact bodyPost_ret (v := .tuple #[I2 X Y, .bool true, .int .i64 0]) (by simp [results, Try.results34, go_sem, r0, r1]) rfl ⟨rfl, by (repeat (with_reducible first | exact hbase2 | refine Below.drew ?_ | refine Below.setCell ?_ ?_ _)); all_goals simp; all_goals try omega⟩
end Go.Proofs.Ytiagdbahokgonaa
