/- The day of each period of a schedule: the closures of package recur. -/
import Derived.Test.YtcnenkhgbifmmaaDoorReB
set_option linter.unusedVariables false
namespace Go.Proofs.YtcnenkhgbifmmaaDoor
open Go.RowKit
/-- a pointer to the head of a block -/
abbrev pt (k : Nat) : Value := .pointer (some ⟨k, 0, none⟩)
theorem Tab.below {w W : World} (h : Tab w) (hb : Below w.heap.size w W) : Tab W := fun i hi =>
  (hb.cell (p := ⟨0, i, none⟩) (World.block_lt_of_cell? w _ (h i hi))).trans (h i hi)
theorem blk1 {W : World} {k : Nat} {x : Value} {t : TypeId} (h : W.heap[k]? = some (.cells #[x] t)) : W.cell? ⟨k, 0, none⟩ = some x := by
  simp [World.cell?, h]
theorem mul_bd {n e : Int} (h0 : 0 ≤ n) (h1 : n ≤ 2000) (e0 : 1 ≤ e) (e1 : e ≤ 1000) : 0 ≤ n * e ∧ n * e ≤ 2000000 := by
  have a := Int.mul_nonneg h0 (show 0 ≤ e by omega)
  have b := Int.mul_le_mul h1 e1 (by omega) (by omega)
  omega
theorem ret_nx {a b : Int} {x y : Bool} (h1 : a = b) (h2 : x = y) : Ending.returned (.tuple #[.int .i64 a, .bool x]) = .returned (.tuple #[.int .i64 b, .bool y]) := by rw [h1, h2]
theorem pe_1 {r : Rec} {n : Int} (h : r.kind = 1) : Rc.pd r n = r.frm + n * r.every ∧ Rc.pE r n = 0 := by simp [Rc.pd, Rc.pE, h]
theorem pe_2 {r : Rec} {n : Int} (h : r.kind = 2) : Rc.pd r n = r.frm - (r.frm + 5) % 7 + r.wd + 7 * n * r.every ∧ Rc.pE r n = 0 := by simp [Rc.pd, Rc.pE, h]
theorem pe_3 {r : Rec} {n : Int} (h : r.kind = 3) : Rc.pd r n = Cal.nV (Rc.pY r n) (Rc.pM r n) r.nth ∧ Rc.pE r n = Cal.nE (Rc.pY r n) (Rc.pM r n) r.nth := by simp [Rc.pd, Rc.pE, h]
theorem pe_4 {r : Rec} {n : Int} (h : r.kind = 4) : Rc.pd r n = Cal.nthV (Rc.pY r n) (Rc.pM r n) r.wd r.nth ∧ Rc.pE r n = Cal.nthE (Rc.pY r n) (Rc.pM r n) r.wd r.nth := by simp [Rc.pd, Rc.pE, h]
set_option maxHeartbeats 2000000 in
set_option maxRecDepth 100000 in
theorem next1 (r : Rec) (hV : Rc.Val r) (hk : r.kind = 1) (k : Nat) (n : Int) (w : World) (hx : w.heap[k]? = some (.cells #[.int .i64 r.kind, .int .i64 r.every, .int .i64 r.wd, .int .i64 r.nth, .int .i64 r.frm, .int .i64 r.unt, .int .i64 r.sec, .bool r.shift, .bool r.both] 24)) (h0 : 0 ≤ n) (h1 : n ≤ 2000) :
    Calls Tryd.prog 63 #[.int .i64 n, pt k] w (Ret (.tuple #[.int .i64 (Rc.pd r n), .bool (Rc.pE r n == 0)]) w) := by
  obtain ⟨⟨e1, e2⟩, ⟨f1, f2, f3⟩, -, -⟩ := hV
  obtain ⟨m0, m1⟩ := mul_bd h0 h1 e1 e2
  have HP := Lib.hid (pe_1 (n := n) hk)
  obtain ⟨-, c1, -, -, c4, -, -, -, -⟩ := blk9 hx
  clear hk hx
  go_enter Tryd.func63, Tryd.ntmps63
  go_wp2
  go_ret2
  exact ⟨ret_nx HP.out.1.symm (by rw [HP.out.2]; rfl), rfl⟩
set_option maxHeartbeats 2000000 in
set_option maxRecDepth 100000 in
theorem next2 (r : Rec) (hV : Rc.Val r) (hk : r.kind = 2) (k j : Nat) (n : Int) (w : World) (hx : w.heap[k]? = some (.cells #[.int .i64 r.kind, .int .i64 r.every, .int .i64 r.wd, .int .i64 r.nth, .int .i64 r.frm, .int .i64 r.unt, .int .i64 r.sec, .bool r.shift, .bool r.both] 24)) (hj : w.heap[j]? = some (.cells #[.int .i64 ((r.frm + 5) % 7)] 3)) (h0 : 0 ≤ n) (h1 : n ≤ 2000) :
    Calls Tryd.prog 66 #[.int .i64 n, pt k, pt j] w (Ret (.tuple #[.int .i64 (Rc.pd r n), .bool (Rc.pE r n == 0)]) w) := by
  obtain ⟨⟨e1, e2⟩, ⟨f1, f2, f3⟩, -, hkk⟩ := hV
  have hwd : 0 ≤ r.wd ∧ r.wd ≤ 6 := by omega
  obtain ⟨m0, m1⟩ := mul_bd h0 h1 e1 e2
  have m2 : 0 ≤ 7 * n * r.every ∧ 7 * n * r.every ≤ 14000000 := by rw [Int.mul_assoc]; omega
  obtain ⟨m2, m3⟩ := m2
  obtain ⟨d0, d1⟩ := hwd
  have HP := Lib.hid (pe_2 (n := n) hk)
  obtain ⟨-, c1, c2, -, c4, -, -, -, -⟩ := blk9 hx
  have cj := blk1 hj
  clear hk hx hkk hj
  go_enter Tryd.func66, Tryd.ntmps66
  go_wp2
  go_ret2
  exact ⟨ret_nx HP.out.1.symm (by rw [HP.out.2]; rfl), rfl⟩
theorem find3 (r : Rec) (k : Nat) (y m : Int) (w : World) (ht : Tab w) (hx : w.heap[k]? = some (.cells #[.int .i64 r.kind, .int .i64 r.every, .int .i64 r.wd, .int .i64 r.nth, .int .i64 r.frm, .int .i64 r.unt, .int .i64 r.sec, .bool r.shift, .bool r.both] 24)) :
    Calls Tryd.prog 69 #[.int .i64 y, .int .i64 m, pt k] w (Ret (.tuple #[.int .i64 (Cal.nV y m r.nth), .int .i64 (Cal.nE y m r.nth)]) w) := by
  obtain ⟨-, -, -, c3, -, -, -, -, -⟩ := blk9 hx
  clear hx
  go_enter Tryd.func69, Tryd.ntmps69
  go_wp2_with (go_at_call 70; refine (day_any _ _ _ _ ht).mono ?_; rintro e w' ⟨rfl, rfl⟩)
  go_ret2
  exact ⟨rfl, rfl⟩
theorem find4 (r : Rec) (k : Nat) (y m : Int) (w : World) (ht : Tab w) (hx : w.heap[k]? = some (.cells #[.int .i64 r.kind, .int .i64 r.every, .int .i64 r.wd, .int .i64 r.nth, .int .i64 r.frm, .int .i64 r.unt, .int .i64 r.sec, .bool r.shift, .bool r.both] 24)) :
    Calls Tryd.prog 72 #[.int .i64 y, .int .i64 m, pt k] w (Ret (.tuple #[.int .i64 (Cal.nthV y m r.wd r.nth), .int .i64 (Cal.nthE y m r.wd r.nth)]) w) := by
  obtain ⟨-, -, c2, c3, -, -, -, -, -⟩ := blk9 hx
  clear hx
  go_enter Tryd.func72, Tryd.ntmps72
  go_wp2_with (go_at_call 73; refine (nth_any _ _ _ _ _ ht).mono ?_; rintro e w' ⟨rfl, rfl⟩)
  go_ret2
  exact ⟨rfl, rfl⟩
theorem date_bd {f : Int} (h0 : 0 ≤ f) (h1 : f ≤ 34000) : 2000 ≤ Cal.dY f ∧ Cal.dY f ≤ 2093 ∧ 1 ≤ Cal.dM f ∧ Cal.dM f ≤ 12 := by
  obtain ⟨v, e⟩ := Cal.date_of h0
  have := v.year (by omega)
  exact ⟨v.1, this, v.2.1, v.2.2.1⟩
def Mo (r : Rec) (F : Nat) (w : World) (jm k jf jy kf : Nat) : Prop :=
  w.heap[jm]? = some (.cells #[.int .i64 (Cal.dM r.frm)] 3) ∧ w.heap[k]? = some (.cells #[.int .i64 r.kind, .int .i64 r.every, .int .i64 r.wd, .int .i64 r.nth, .int .i64 r.frm, .int .i64 r.unt, .int .i64 r.sec, .bool r.shift, .bool r.both] 24) ∧ w.heap[jf]? = some (.cells #[.func (.func F) #[] #[pt kf]] 111) ∧ w.heap[jy]? = some (.cells #[.int .i64 (Cal.dY r.frm)] 3) ∧ w.heap[kf]? = some (.cells #[.int .i64 r.kind, .int .i64 r.every, .int .i64 r.wd, .int .i64 r.nth, .int .i64 r.frm, .int .i64 r.unt, .int .i64 r.sec, .bool r.shift, .bool r.both] 24)
set_option maxHeartbeats 2000000 in
set_option maxRecDepth 100000 in
theorem next3 (r : Rec) (hV : Rc.Val r) (hk : r.kind = 3) (jm k jf jy kf : Nat) (n : Int) (w : World) (ht : Tab w) (hx : Mo r 69 w jm k jf jy kf) (h0 : 0 ≤ n) (h1 : n ≤ 2000) :
    Calls Tryd.prog 80 #[.int .i64 n, pt jm, pt k, pt jf, pt jy] w (Ret (.tuple #[.int .i64 (Rc.pd r n), .bool (Rc.pE r n == 0)]) w) := by
  obtain ⟨⟨e1, e2⟩, ⟨f1, f2, f3⟩, -, -⟩ := hV
  obtain ⟨m0, m1⟩ := mul_bd h0 h1 e1 e2
  obtain ⟨y0, y1, y2, y3⟩ := date_bd (f := r.frm) (by omega) (by omega)
  have HP := Lib.hid (pe_3 (n := n) hk)
  have HY : Hid (Rc.pY r n = Cal.dY r.frm + (Cal.dM r.frm - 1 + n * r.every) / 12 ∧ Rc.pM r n = 1 + (Cal.dM r.frm - 1 + n * r.every) % 12) := Lib.hid ⟨rfl, rfl⟩
  obtain ⟨x1, x2, x3, x4, x5⟩ := hx
  obtain ⟨-, c1, -, -, -, -, -, -, -⟩ := blk9 x2
  have cm := blk1 x1
  have cf := blk1 x3
  have cy := blk1 x4
  have X5 := Lib.hid x5
  clear hk x1 x2 x3 x4 x5
  go_enter Tryd.func80, Tryd.ntmps80
  go_wp2_with (go_at_call 69; refine (find3 r kf _ _ _ ht X5.out).mono ?_; rintro e w' ⟨rfl, rfl⟩)
  go_ret2
  exact ⟨ret_nx (by rw [HP.out.1, HY.out.1, HY.out.2]) (by rw [HP.out.2, HY.out.1, HY.out.2]), rfl⟩
set_option maxHeartbeats 2000000 in
set_option maxRecDepth 100000 in
theorem next4 (r : Rec) (hV : Rc.Val r) (hk : r.kind = 4) (jm k jf jy kf : Nat) (n : Int) (w : World) (ht : Tab w) (hx : Mo r 72 w jm k jf jy kf) (h0 : 0 ≤ n) (h1 : n ≤ 2000) :
    Calls Tryd.prog 80 #[.int .i64 n, pt jm, pt k, pt jf, pt jy] w (Ret (.tuple #[.int .i64 (Rc.pd r n), .bool (Rc.pE r n == 0)]) w) := by
  obtain ⟨⟨e1, e2⟩, ⟨f1, f2, f3⟩, -, -⟩ := hV
  obtain ⟨m0, m1⟩ := mul_bd h0 h1 e1 e2
  obtain ⟨y0, y1, y2, y3⟩ := date_bd (f := r.frm) (by omega) (by omega)
  have HP := Lib.hid (pe_4 (n := n) hk)
  have HY : Hid (Rc.pY r n = Cal.dY r.frm + (Cal.dM r.frm - 1 + n * r.every) / 12 ∧ Rc.pM r n = 1 + (Cal.dM r.frm - 1 + n * r.every) % 12) := Lib.hid ⟨rfl, rfl⟩
  obtain ⟨x1, x2, x3, x4, x5⟩ := hx
  obtain ⟨-, c1, -, -, -, -, -, -, -⟩ := blk9 x2
  have cm := blk1 x1
  have cf := blk1 x3
  have cy := blk1 x4
  have X5 := Lib.hid x5
  clear hk x1 x2 x3 x4 x5
  go_enter Tryd.func80, Tryd.ntmps80
  go_wp2_with (go_at_call 72; refine (find4 r kf _ _ _ ht X5.out).mono ?_; rintro e w' ⟨rfl, rfl⟩)
  go_ret2
  exact ⟨ret_nx (by rw [HP.out.1, HY.out.1, HY.out.2]) (by rw [HP.out.2, HY.out.1, HY.out.2]), rfl⟩
/-- the makers of these closures -/
theorem make1 (k : Nat) (w : World) : Calls Tryd.prog 62 #[pt k] w (Ret (.func (.func 63) #[] #[pt k]) w) := by
  go_enter Tryd.func62, Tryd.ntmps62
  go_wp2
  go_ret
  exact ⟨rfl, rfl⟩
set_option maxHeartbeats 2000000 in
set_option maxRecDepth 100000 in
theorem make2 (r : Rec) (hV : Rc.Val r) (k : Nat) (w : World) (hx : w.heap[k]? = some (.cells #[.int .i64 r.kind, .int .i64 r.every, .int .i64 r.wd, .int .i64 r.nth, .int .i64 r.frm, .int .i64 r.unt, .int .i64 r.sec, .bool r.shift, .bool r.both] 24)) :
    Calls Tryd.prog 64 #[pt k] w fun e w' => e = .returned (.func (.func 66) #[] #[pt k, pt w.heap.size]) ∧ w' = w.alloc (.cells #[.int .i64 ((r.frm + 5) % 7)] 3) := by
  obtain ⟨-, -, -, -, c4, -, -, -, -⟩ := blk9 hx
  have hr := (rYes (n := r.frm) (by have := hV.2.1; omega) (by have := hV.2.1; omega)).2.2.2.2
  have hz := (rYes (n := r.frm) (by have := hV.2.1; omega) (by have := hV.2.1; omega)).2.2.2.1
  clear hx hV
  go_enter Tryd.func64, Tryd.ntmps64
  go_wp2_with (go_at_call 65; refine (weekdayOf_any _ _).mono ?_; rintro e w' ⟨rfl, rfl⟩)
  go_ret
  exact ⟨rfl, rfl⟩
set_option maxHeartbeats 2000000 in
set_option maxRecDepth 100000 in
theorem monthly_any (r : Rec) (hV : Rc.Val r) (F k : Nat) (w : World) (ht : Tab w) :
    Calls Tryd.prog 68 #[(.agg #[.int .i64 r.kind, .int .i64 r.every, .int .i64 r.wd, .int .i64 r.nth, .int .i64 r.frm, .int .i64 r.unt, .int .i64 r.sec, .bool r.shift, .bool r.both]), .func (.func F) #[] #[pt k]] w fun e w' => e = .returned (.func (.func 80) #[] #[pt (w.heap.size + 3), pt w.heap.size, pt (w.heap.size + 1), pt (w.heap.size + 2)]) ∧
      w' = (((w.alloc (.cells #[.int .i64 r.kind, .int .i64 r.every, .int .i64 r.wd, .int .i64 r.nth, .int .i64 r.frm, .int .i64 r.unt, .int .i64 r.sec, .bool r.shift, .bool r.both] 24)).alloc (.cells #[.func (.func F) #[] #[pt k]] 111)).alloc (.cells #[.int .i64 (Cal.dY r.frm)] 3)).alloc (.cells #[.int .i64 (Cal.dM r.frm)] 3) := by
  obtain ⟨hr1, hr2, -⟩ := rYes (n := r.frm) (by have := hV.2.1; omega) (by have := hV.2.1; omega)
  have hb := ((Below.refl w.heap.size w).alloc (Nat.le_refl _) (.cells #[.int .i64 r.kind, .int .i64 r.every, .int .i64 r.wd, .int .i64 r.nth, .int .i64 r.frm, .int .i64 r.unt, .int .i64 r.sec, .bool r.shift, .bool r.both] 24)).alloc (by simp) (.cells #[.func (.func F) #[] #[pt k]] 111)
  have ht2 := ht.below hb
  clear hV hb ht
  go_enter Tryd.func68, Tryd.ntmps68
  go_wp2_with (go_at_call 79; refine (date_any _ _ ht2).mono ?_; rintro e w' ⟨rfl, rfl⟩)
  go_ret
  exact ⟨rfl, rfl⟩
end Go.Proofs.YtcnenkhgbifmmaaDoor
