/- The law RecurUntil. -/
import Derived.Test.YtmicbniipbcapaaDoorReW
set_option linter.unusedVariables false
namespace Go.Proofs.YtmicbniipbcapaaDoor
open Go.RowKit
theorem filI_yes {p : Int → Bool} {l : List Int} {k n : Nat} {x : Int} (h : l.length = n) (hk : k < n) (hx : l[k]?.getD 0 = x) (hp : p x = true) : (l.take (k + 1)).filter p = (l.take k).filter p ++ [x] := by
  rw [takeI_snoc h hk, hx, List.filter_append]; simp [hp]
theorem filI_no {p : Int → Bool} {l : List Int} {k n : Nat} {x : Int} (h : l.length = n) (hk : k < n) (hx : l[k]?.getD 0 = x) (hp : p x = false) : (l.take (k + 1)).filter p = (l.take k).filter p := by
  rw [takeI_snoc h hk, hx, List.filter_append]; simp [hp]
set_option maxHeartbeats 2000000 in
set_option maxRecDepth 100000 in
theorem until_unusable (A : Option Addr) (n c : Nat) (l : Lpm.LL) (r : Rec) (u : Int) (w : World) (ht : Tab w) (h1 : Lp w.heap.size w A n l) (u0 : (Lit.int .i64 u).wf = true) (q : Hid (useB n l r = false)) :
    Calls Tryd.prog 7 #[.slice A n c, (.agg #[.int .i64 r.kind, .int .i64 r.every, .int .i64 r.wd, .int .i64 r.nth, .int .i64 r.frm, .int .i64 r.unt, .int .i64 r.sec, .bool r.shift, .bool r.both]), .int .i64 u] w (LawPost w) := by
  have HT : Hid (∀ W, Below w.heap.size w W → Tab W) := Lib.hid fun W hW => ht.below hW
  have H1 : Hid (∀ W, Below w.heap.size w W → Lp W.heap.size W A n l) := Lib.hid fun W hW => h1.go hW
  have hb := Below.goN (Below.refl w.heap.size w) (.cells #[.int .i64 r.kind, .int .i64 r.every, .int .i64 r.wd, .int .i64 r.nth, .int .i64 r.frm, .int .i64 r.unt, .int .i64 r.sec, .bool r.shift, .bool r.both] 24)
  have kx := Lib.hid (heap_new w (.cells #[.int .i64 r.kind, .int .i64 r.every, .int .i64 r.wd, .int .i64 r.nth, .int .i64 r.frm, .int .i64 r.unt, .int .i64 r.sec, .bool r.shift, .bool r.both] 24))
  clear ht h1
  go_enter Tryd.func7, Tryd.ntmps7
  go_wp2_with fail
  refine (head_any _ (HT.out _ hb)).mono ?_
  rintro e w1 ⟨rfl, hn⟩
  have hb := Below.go hb hn
  have kx := Lib.hid (keep' kx.out hn)
  clear hn
  obtain ⟨kx_0, kx_1, kx_2, kx_3, kx_4, kx_5, kx_6, kx_7, kx_8⟩ := blk9 kx.out
  go_wp2_with fail
  refine (usable_any A n c l r _ (H1.out _ hb)).mono ?_
  rintro e w2 ⟨rfl, hn⟩
  have hb := Below.go hb hn
  have kx := Lib.hid (keep' kx.out hn)
  clear hn
  rw [q.out]
  obtain ⟨kx_0, kx_1, kx_2, kx_3, kx_4, kx_5, kx_6, kx_7, kx_8⟩ := blk9 kx.out
  go_wp2
  go_ret
  exact ⟨by simp, hb⟩
set_option maxHeartbeats 2000000 in
set_option maxRecDepth 100000 in
theorem until_low (A : Option Addr) (n c : Nat) (l : Lpm.LL) (r : Rec) (u : Int) (w : World) (ht : Tab w) (h1 : Lp w.heap.size w A n l) (u0 : (Lit.int .i64 u).wf = true) (q : Hid (useB n l r = true)) (q1 : u ≤ r.frm) :
    Calls Tryd.prog 7 #[.slice A n c, (.agg #[.int .i64 r.kind, .int .i64 r.every, .int .i64 r.wd, .int .i64 r.nth, .int .i64 r.frm, .int .i64 r.unt, .int .i64 r.sec, .bool r.shift, .bool r.both]), .int .i64 u] w (LawPost w) := by
  have HT : Hid (∀ W, Below w.heap.size w W → Tab W) := Lib.hid fun W hW => ht.below hW
  have H1 : Hid (∀ W, Below w.heap.size w W → Lp W.heap.size W A n l) := Lib.hid fun W hW => h1.go hW
  have hb := Below.goN (Below.refl w.heap.size w) (.cells #[.int .i64 r.kind, .int .i64 r.every, .int .i64 r.wd, .int .i64 r.nth, .int .i64 r.frm, .int .i64 r.unt, .int .i64 r.sec, .bool r.shift, .bool r.both] 24)
  have kx := Lib.hid (heap_new w (.cells #[.int .i64 r.kind, .int .i64 r.every, .int .i64 r.wd, .int .i64 r.nth, .int .i64 r.frm, .int .i64 r.unt, .int .i64 r.sec, .bool r.shift, .bool r.both] 24))
  clear ht h1
  go_enter Tryd.func7, Tryd.ntmps7
  go_wp2_with fail
  refine (head_any _ (HT.out _ hb)).mono ?_
  rintro e w1 ⟨rfl, hn⟩
  have hb := Below.go hb hn
  have kx := Lib.hid (keep' kx.out hn)
  clear hn
  obtain ⟨kx_0, kx_1, kx_2, kx_3, kx_4, kx_5, kx_6, kx_7, kx_8⟩ := blk9 kx.out
  go_wp2_with fail
  refine (usable_any A n c l r _ (H1.out _ hb)).mono ?_
  rintro e w2 ⟨rfl, hn⟩
  have hb := Below.go hb hn
  have kx := Lib.hid (keep' kx.out hn)
  clear hn
  rw [q.out]
  obtain ⟨kx_0, kx_1, kx_2, kx_3, kx_4, kx_5, kx_6, kx_7, kx_8⟩ := blk9 kx.out
  go_wp2
  go_ret
  exact ⟨by simp, hb⟩
set_option maxHeartbeats 2000000 in
set_option maxRecDepth 100000 in
theorem until_high (A : Option Addr) (n c : Nat) (l : Lpm.LL) (r : Rec) (u : Int) (w : World) (ht : Tab w) (h1 : Lp w.heap.size w A n l) (u0 : (Lit.int .i64 u).wf = true) (q : Hid (useB n l r = true)) (q1 : ¬ u ≤ r.frm) (q2 : r.unt < u) :
    Calls Tryd.prog 7 #[.slice A n c, (.agg #[.int .i64 r.kind, .int .i64 r.every, .int .i64 r.wd, .int .i64 r.nth, .int .i64 r.frm, .int .i64 r.unt, .int .i64 r.sec, .bool r.shift, .bool r.both]), .int .i64 u] w (LawPost w) := by
  have HT : Hid (∀ W, Below w.heap.size w W → Tab W) := Lib.hid fun W hW => ht.below hW
  have H1 : Hid (∀ W, Below w.heap.size w W → Lp W.heap.size W A n l) := Lib.hid fun W hW => h1.go hW
  have hb := Below.goN (Below.refl w.heap.size w) (.cells #[.int .i64 r.kind, .int .i64 r.every, .int .i64 r.wd, .int .i64 r.nth, .int .i64 r.frm, .int .i64 r.unt, .int .i64 r.sec, .bool r.shift, .bool r.both] 24)
  have kx := Lib.hid (heap_new w (.cells #[.int .i64 r.kind, .int .i64 r.every, .int .i64 r.wd, .int .i64 r.nth, .int .i64 r.frm, .int .i64 r.unt, .int .i64 r.sec, .bool r.shift, .bool r.both] 24))
  clear ht h1
  go_enter Tryd.func7, Tryd.ntmps7
  go_wp2_with fail
  refine (head_any _ (HT.out _ hb)).mono ?_
  rintro e w1 ⟨rfl, hn⟩
  have hb := Below.go hb hn
  have kx := Lib.hid (keep' kx.out hn)
  clear hn
  obtain ⟨kx_0, kx_1, kx_2, kx_3, kx_4, kx_5, kx_6, kx_7, kx_8⟩ := blk9 kx.out
  go_wp2_with fail
  refine (usable_any A n c l r _ (H1.out _ hb)).mono ?_
  rintro e w2 ⟨rfl, hn⟩
  have hb := Below.go hb hn
  have kx := Lib.hid (keep' kx.out hn)
  clear hn
  rw [q.out]
  obtain ⟨kx_0, kx_1, kx_2, kx_3, kx_4, kx_5, kx_6, kx_7, kx_8⟩ := blk9 kx.out
  go_wp2
  go_ret
  exact ⟨by simp, hb⟩
set_option maxHeartbeats 2000000 in
set_option maxRecDepth 100000 in
theorem until_limit1 (A : Option Addr) (n c : Nat) (l : Lpm.LL) (r : Rec) (u : Int) (w : World) (ht : Tab w) (h1 : Lp w.heap.size w A n l) (u0 : (Lit.int .i64 u).wf = true) (q : Hid (useB n l r = true)) (q1 : ¬ u ≤ r.frm) (q2 : ¬ r.unt < u) (m : n ≤ 110) (hr : Fit21 r) (hr2 : Fit21 (Rc.setUnt r u)) (e2 e3 e4 : Int) (E1 : Hid (Rc.dysE r = 2)) (E2 : Hid (Rc.dysE (Rc.setUnt r u) = e2)) (E3 : Hid (Rc.fiE l r = e3)) (E4 : Hid (Rc.fiE l (Rc.setUnt r u) = e4)) (N1 N2 N3 N4 : Nat) (N1q : Hid ((Rc.dysV r).length = N1)) (N2q : Hid ((Rc.dysV (Rc.setUnt r u)).length = N2)) (N3q : Hid ((Rc.fiV l r).length = N3)) (N4q : Hid ((Rc.fiV l (Rc.setUnt r u)).length = N4)) :
    Calls Tryd.prog 7 #[.slice A n c, (.agg #[.int .i64 r.kind, .int .i64 r.every, .int .i64 r.wd, .int .i64 r.nth, .int .i64 r.frm, .int .i64 r.unt, .int .i64 r.sec, .bool r.shift, .bool r.both]), .int .i64 u] w (LawPost w) := by
  have HT : Hid (∀ W, Below w.heap.size w W → Tab W) := Lib.hid fun W hW => ht.below hW
  have H1 : Hid (∀ W, Below w.heap.size w W → Lp W.heap.size W A n l) := Lib.hid fun W hW => h1.go hW
  have hb := Below.goN (Below.refl w.heap.size w) (.cells #[.int .i64 r.kind, .int .i64 r.every, .int .i64 r.wd, .int .i64 r.nth, .int .i64 r.frm, .int .i64 r.unt, .int .i64 r.sec, .bool r.shift, .bool r.both] 24)
  have kx := Lib.hid (heap_new w (.cells #[.int .i64 r.kind, .int .i64 r.every, .int .i64 r.wd, .int .i64 r.nth, .int .i64 r.frm, .int .i64 r.unt, .int .i64 r.sec, .bool r.shift, .bool r.both] 24))
  clear ht h1
  go_enter Tryd.func7, Tryd.ntmps7
  go_wp2_with fail
  refine (head_any _ (HT.out _ hb)).mono ?_
  rintro e w1 ⟨rfl, hn⟩
  have hb := Below.go hb hn
  have kx := Lib.hid (keep' kx.out hn)
  clear hn
  obtain ⟨kx_0, kx_1, kx_2, kx_3, kx_4, kx_5, kx_6, kx_7, kx_8⟩ := blk9 kx.out
  go_wp2_with fail
  refine (usable_any A n c l r _ (H1.out _ hb)).mono ?_
  rintro e w2 ⟨rfl, hn⟩
  have hb := Below.go hb hn
  have kx := Lib.hid (keep' kx.out hn)
  clear hn
  rw [q.out]
  obtain ⟨kx_0, kx_1, kx_2, kx_3, kx_4, kx_5, kx_6, kx_7, kx_8⟩ := blk9 kx.out
  have kxz := lt_of_heap kx.out
  have ky := Lib.hid (heap_new w2 (.cells #[.int .i64 r.kind, .int .i64 r.every, .int .i64 r.wd, .int .i64 r.nth, .int .i64 r.frm, .int .i64 u, .int .i64 r.sec, .bool r.shift, .bool r.both] 24))
  have kx := Lib.hid (keep' kx.out (Below.goN (Below.refl _ _) (.cells #[.int .i64 r.kind, .int .i64 r.every, .int .i64 r.wd, .int .i64 r.nth, .int .i64 r.frm, .int .i64 u, .int .i64 r.sec, .bool r.shift, .bool r.both] 24)))
  have hb := Below.goN hb (.cells #[.int .i64 r.kind, .int .i64 r.every, .int .i64 r.wd, .int .i64 r.nth, .int .i64 r.frm, .int .i64 u, .int .i64 r.sec, .bool r.shift, .bool r.both] 24)
  have kyz := lt_of_heap ky.out
  go_wp2_with fail
  refine (da_n (e := 2) (n := N1) (Days_any r _ (HT.out _ hb) hr) E1.out N1q.out).mono ?_
  rintro e w3 ⟨A1, c1, rfl, hL, hn⟩
  have hb := Below.go hb hn
  have kx := Lib.hid (keep' kx.out hn)
  have ky := Lib.hid (keep' ky.out hn)
  clear hn
  have L1 := Lib.hid hL; clear hL
  obtain ⟨ky_0, ky_1, ky_2, ky_3, ky_4, ky_5, ky_6, ky_7, ky_8⟩ := blk9 ky.out
  go_wp2_with fail
  refine (da_n (e := e2) (n := N2) (Days_any (Rc.setUnt r u) _ (HT.out _ hb) hr2) E2.out N2q.out).mono ?_
  rintro e w4 ⟨A2, c2, rfl, hL, hn⟩
  have hb := Below.go hb hn
  have kx := Lib.hid (keep' kx.out hn)
  have ky := Lib.hid (keep' ky.out hn)
  have L1 := Lib.hid (Li.go L1.out hn)
  clear hn
  have L2 := Lib.hid hL; clear hL
  obtain ⟨kx_0, kx_1, kx_2, kx_3, kx_4, kx_5, kx_6, kx_7, kx_8⟩ := blk9 kx.out
  go_wp2_with fail
  refine (fi_n (e := e3) (n := N3) (Fires_any A n c l r _ (HT.out _ hb) (H1.out _ hb) m hr) E3.out N3q.out).mono ?_
  rintro e w5 ⟨A3, c3, rfl, hc3, hz3, -, hL, hn⟩
  have hb := Below.go hb hn
  have kx := Lib.hid (keep' kx.out hn)
  have ky := Lib.hid (keep' ky.out hn)
  have L1 := Lib.hid (Li.go L1.out hn)
  have L2 := Lib.hid (Li.go L2.out hn)
  clear hn
  have L3 := Lib.hid hL; clear hL
  obtain ⟨ky_0, ky_1, ky_2, ky_3, ky_4, ky_5, ky_6, ky_7, ky_8⟩ := blk9 ky.out
  go_wp2_with fail
  refine (fi_n (e := e4) (n := N4) (Fires_any A n c l (Rc.setUnt r u) _ (HT.out _ hb) (H1.out _ hb) m hr2) E4.out N4q.out).mono ?_
  rintro e w6 ⟨A4, c4, rfl, hc4, hz4, -, hL, hn⟩
  have hb := Below.go hb hn
  have kx := Lib.hid (keep' kx.out hn)
  have ky := Lib.hid (keep' ky.out hn)
  have L1 := Lib.hid (Li.go L1.out hn)
  have L2 := Lib.hid (Li.go L2.out hn)
  have L3 := Lib.hid (Lp.go L3.out hn)
  clear hn
  have L4 := Lib.hid hL; clear hL
  go_wp2
  go_ret
  exact ⟨by simp, hb⟩
set_option maxHeartbeats 2000000 in
set_option maxRecDepth 100000 in
theorem until_limit2 (A : Option Addr) (n c : Nat) (l : Lpm.LL) (r : Rec) (u : Int) (w : World) (ht : Tab w) (h1 : Lp w.heap.size w A n l) (u0 : (Lit.int .i64 u).wf = true) (q : Hid (useB n l r = true)) (q1 : ¬ u ≤ r.frm) (q2 : ¬ r.unt < u) (m : n ≤ 110) (hr : Fit21 r) (hr2 : Fit21 (Rc.setUnt r u)) (e2 e4 : Int) (E1 : Hid (Rc.dysE r = 0)) (E2 : Hid (Rc.dysE (Rc.setUnt r u) = e2)) (E3 : Hid (Rc.fiE l r = 2)) (E4 : Hid (Rc.fiE l (Rc.setUnt r u) = e4)) (N1 N2 N3 N4 : Nat) (N1q : Hid ((Rc.dysV r).length = N1)) (N2q : Hid ((Rc.dysV (Rc.setUnt r u)).length = N2)) (N3q : Hid ((Rc.fiV l r).length = N3)) (N4q : Hid ((Rc.fiV l (Rc.setUnt r u)).length = N4)) :
    Calls Tryd.prog 7 #[.slice A n c, (.agg #[.int .i64 r.kind, .int .i64 r.every, .int .i64 r.wd, .int .i64 r.nth, .int .i64 r.frm, .int .i64 r.unt, .int .i64 r.sec, .bool r.shift, .bool r.both]), .int .i64 u] w (LawPost w) := by
  have HT : Hid (∀ W, Below w.heap.size w W → Tab W) := Lib.hid fun W hW => ht.below hW
  have H1 : Hid (∀ W, Below w.heap.size w W → Lp W.heap.size W A n l) := Lib.hid fun W hW => h1.go hW
  have hb := Below.goN (Below.refl w.heap.size w) (.cells #[.int .i64 r.kind, .int .i64 r.every, .int .i64 r.wd, .int .i64 r.nth, .int .i64 r.frm, .int .i64 r.unt, .int .i64 r.sec, .bool r.shift, .bool r.both] 24)
  have kx := Lib.hid (heap_new w (.cells #[.int .i64 r.kind, .int .i64 r.every, .int .i64 r.wd, .int .i64 r.nth, .int .i64 r.frm, .int .i64 r.unt, .int .i64 r.sec, .bool r.shift, .bool r.both] 24))
  clear ht h1
  go_enter Tryd.func7, Tryd.ntmps7
  go_wp2_with fail
  refine (head_any _ (HT.out _ hb)).mono ?_
  rintro e w1 ⟨rfl, hn⟩
  have hb := Below.go hb hn
  have kx := Lib.hid (keep' kx.out hn)
  clear hn
  obtain ⟨kx_0, kx_1, kx_2, kx_3, kx_4, kx_5, kx_6, kx_7, kx_8⟩ := blk9 kx.out
  go_wp2_with fail
  refine (usable_any A n c l r _ (H1.out _ hb)).mono ?_
  rintro e w2 ⟨rfl, hn⟩
  have hb := Below.go hb hn
  have kx := Lib.hid (keep' kx.out hn)
  clear hn
  rw [q.out]
  obtain ⟨kx_0, kx_1, kx_2, kx_3, kx_4, kx_5, kx_6, kx_7, kx_8⟩ := blk9 kx.out
  have kxz := lt_of_heap kx.out
  have ky := Lib.hid (heap_new w2 (.cells #[.int .i64 r.kind, .int .i64 r.every, .int .i64 r.wd, .int .i64 r.nth, .int .i64 r.frm, .int .i64 u, .int .i64 r.sec, .bool r.shift, .bool r.both] 24))
  have kx := Lib.hid (keep' kx.out (Below.goN (Below.refl _ _) (.cells #[.int .i64 r.kind, .int .i64 r.every, .int .i64 r.wd, .int .i64 r.nth, .int .i64 r.frm, .int .i64 u, .int .i64 r.sec, .bool r.shift, .bool r.both] 24)))
  have hb := Below.goN hb (.cells #[.int .i64 r.kind, .int .i64 r.every, .int .i64 r.wd, .int .i64 r.nth, .int .i64 r.frm, .int .i64 u, .int .i64 r.sec, .bool r.shift, .bool r.both] 24)
  have kyz := lt_of_heap ky.out
  go_wp2_with fail
  refine (da_n (e := 0) (n := N1) (Days_any r _ (HT.out _ hb) hr) E1.out N1q.out).mono ?_
  rintro e w3 ⟨A1, c1, rfl, hL, hn⟩
  have hb := Below.go hb hn
  have kx := Lib.hid (keep' kx.out hn)
  have ky := Lib.hid (keep' ky.out hn)
  clear hn
  have L1 := Lib.hid hL; clear hL
  obtain ⟨ky_0, ky_1, ky_2, ky_3, ky_4, ky_5, ky_6, ky_7, ky_8⟩ := blk9 ky.out
  go_wp2_with fail
  refine (da_n (e := e2) (n := N2) (Days_any (Rc.setUnt r u) _ (HT.out _ hb) hr2) E2.out N2q.out).mono ?_
  rintro e w4 ⟨A2, c2, rfl, hL, hn⟩
  have hb := Below.go hb hn
  have kx := Lib.hid (keep' kx.out hn)
  have ky := Lib.hid (keep' ky.out hn)
  have L1 := Lib.hid (Li.go L1.out hn)
  clear hn
  have L2 := Lib.hid hL; clear hL
  obtain ⟨kx_0, kx_1, kx_2, kx_3, kx_4, kx_5, kx_6, kx_7, kx_8⟩ := blk9 kx.out
  go_wp2_with fail
  refine (fi_n (e := 2) (n := N3) (Fires_any A n c l r _ (HT.out _ hb) (H1.out _ hb) m hr) E3.out N3q.out).mono ?_
  rintro e w5 ⟨A3, c3, rfl, hc3, hz3, -, hL, hn⟩
  have hb := Below.go hb hn
  have kx := Lib.hid (keep' kx.out hn)
  have ky := Lib.hid (keep' ky.out hn)
  have L1 := Lib.hid (Li.go L1.out hn)
  have L2 := Lib.hid (Li.go L2.out hn)
  clear hn
  have L3 := Lib.hid hL; clear hL
  obtain ⟨ky_0, ky_1, ky_2, ky_3, ky_4, ky_5, ky_6, ky_7, ky_8⟩ := blk9 ky.out
  go_wp2_with fail
  refine (fi_n (e := e4) (n := N4) (Fires_any A n c l (Rc.setUnt r u) _ (HT.out _ hb) (H1.out _ hb) m hr2) E4.out N4q.out).mono ?_
  rintro e w6 ⟨A4, c4, rfl, hc4, hz4, -, hL, hn⟩
  have hb := Below.go hb hn
  have kx := Lib.hid (keep' kx.out hn)
  have ky := Lib.hid (keep' ky.out hn)
  have L1 := Lib.hid (Li.go L1.out hn)
  have L2 := Lib.hid (Li.go L2.out hn)
  have L3 := Lib.hid (Lp.go L3.out hn)
  clear hn
  have L4 := Lib.hid hL; clear hL
  go_wp2
  go_ret
  exact ⟨by simp, hb⟩
set_option maxHeartbeats 2000000 in
set_option maxRecDepth 100000 in
theorem until_main (A : Option Addr) (n c : Nat) (l : Lpm.LL) (r : Rec) (u : Int) (w : World) (ht : Tab w) (h1 : Lp w.heap.size w A n l) (u0 : (Lit.int .i64 u).wf = true) (q : Hid (useB n l r = true)) (q1 : ¬ u ≤ r.frm) (q2 : ¬ r.unt < u) (m : n ≤ 110) (hr : Fit21 r) (hr2 : Fit21 (Rc.setUnt r u)) (E1 : Hid (Rc.dysE r = 0)) (E2 : Hid (Rc.dysE (Rc.setUnt r u) = 0)) (E3 : Hid (Rc.fiE l r = 0)) (E4 : Hid (Rc.fiE l (Rc.setUnt r u) = 0)) (N1 N2 N3 N4 : Nat) (N1q : Hid ((Rc.dysV r).length = N1)) (N2q : Hid ((Rc.dysV (Rc.setUnt r u)).length = N2)) (N3q : Hid ((Rc.fiV l r).length = N3)) (N4q : Hid ((Rc.fiV l (Rc.setUnt r u)).length = N4)) (V2 : Hid (Rc.dysV (Rc.setUnt r u) = (Rc.dysV r).filter (Rc.before u))) (V4 : Hid (Rc.fiV l (Rc.setUnt r u) = (Rc.fiV l r).filter (Rc.beforeP u))) :
    Calls Tryd.prog 7 #[.slice A n c, (.agg #[.int .i64 r.kind, .int .i64 r.every, .int .i64 r.wd, .int .i64 r.nth, .int .i64 r.frm, .int .i64 r.unt, .int .i64 r.sec, .bool r.shift, .bool r.both]), .int .i64 u] w (LawPost w) := by
  have HT : Hid (∀ W, Below w.heap.size w W → Tab W) := Lib.hid fun W hW => ht.below hW
  have H1 : Hid (∀ W, Below w.heap.size w W → Lp W.heap.size W A n l) := Lib.hid fun W hW => h1.go hW
  have hb := Below.goN (Below.refl w.heap.size w) (.cells #[.int .i64 r.kind, .int .i64 r.every, .int .i64 r.wd, .int .i64 r.nth, .int .i64 r.frm, .int .i64 r.unt, .int .i64 r.sec, .bool r.shift, .bool r.both] 24)
  have kx := Lib.hid (heap_new w (.cells #[.int .i64 r.kind, .int .i64 r.every, .int .i64 r.wd, .int .i64 r.nth, .int .i64 r.frm, .int .i64 r.unt, .int .i64 r.sec, .bool r.shift, .bool r.both] 24))
  clear ht h1
  go_enter Tryd.func7, Tryd.ntmps7
  go_wp2_with fail
  refine (head_any _ (HT.out _ hb)).mono ?_
  rintro e w1 ⟨rfl, hn⟩
  have hb := Below.go hb hn
  have kx := Lib.hid (keep' kx.out hn)
  clear hn
  obtain ⟨kx_0, kx_1, kx_2, kx_3, kx_4, kx_5, kx_6, kx_7, kx_8⟩ := blk9 kx.out
  go_wp2_with fail
  refine (usable_any A n c l r _ (H1.out _ hb)).mono ?_
  rintro e w2 ⟨rfl, hn⟩
  have hb := Below.go hb hn
  have kx := Lib.hid (keep' kx.out hn)
  clear hn
  rw [q.out]
  obtain ⟨kx_0, kx_1, kx_2, kx_3, kx_4, kx_5, kx_6, kx_7, kx_8⟩ := blk9 kx.out
  have kxz := lt_of_heap kx.out
  have ky := Lib.hid (heap_new w2 (.cells #[.int .i64 r.kind, .int .i64 r.every, .int .i64 r.wd, .int .i64 r.nth, .int .i64 r.frm, .int .i64 u, .int .i64 r.sec, .bool r.shift, .bool r.both] 24))
  have kx := Lib.hid (keep' kx.out (Below.goN (Below.refl _ _) (.cells #[.int .i64 r.kind, .int .i64 r.every, .int .i64 r.wd, .int .i64 r.nth, .int .i64 r.frm, .int .i64 u, .int .i64 r.sec, .bool r.shift, .bool r.both] 24)))
  have hb := Below.goN hb (.cells #[.int .i64 r.kind, .int .i64 r.every, .int .i64 r.wd, .int .i64 r.nth, .int .i64 r.frm, .int .i64 u, .int .i64 r.sec, .bool r.shift, .bool r.both] 24)
  have kyz := lt_of_heap ky.out
  go_wp2_with fail
  refine (da_n (e := 0) (n := N1) (Days_any r _ (HT.out _ hb) hr) E1.out N1q.out).mono ?_
  rintro e w3 ⟨A1, c1, rfl, hL, hn⟩
  have hb := Below.go hb hn
  have kx := Lib.hid (keep' kx.out hn)
  have ky := Lib.hid (keep' ky.out hn)
  clear hn
  have L1 := Lib.hid hL; clear hL
  obtain ⟨ky_0, ky_1, ky_2, ky_3, ky_4, ky_5, ky_6, ky_7, ky_8⟩ := blk9 ky.out
  go_wp2_with fail
  refine (da_n (e := 0) (n := N2) (Days_any (Rc.setUnt r u) _ (HT.out _ hb) hr2) E2.out N2q.out).mono ?_
  rintro e w4 ⟨A2, c2, rfl, hL, hn⟩
  have hb := Below.go hb hn
  have kx := Lib.hid (keep' kx.out hn)
  have ky := Lib.hid (keep' ky.out hn)
  have L1 := Lib.hid (Li.go L1.out hn)
  clear hn
  have L2 := Lib.hid hL; clear hL
  obtain ⟨kx_0, kx_1, kx_2, kx_3, kx_4, kx_5, kx_6, kx_7, kx_8⟩ := blk9 kx.out
  go_wp2_with fail
  refine (fi_n (e := 0) (n := N3) (Fires_any A n c l r _ (HT.out _ hb) (H1.out _ hb) m hr) E3.out N3q.out).mono ?_
  rintro e w5 ⟨A3, c3, rfl, hc3, hz3, -, hL, hn⟩
  have hb := Below.go hb hn
  have kx := Lib.hid (keep' kx.out hn)
  have ky := Lib.hid (keep' ky.out hn)
  have L1 := Lib.hid (Li.go L1.out hn)
  have L2 := Lib.hid (Li.go L2.out hn)
  clear hn
  have L3 := Lib.hid hL; clear hL
  obtain ⟨ky_0, ky_1, ky_2, ky_3, ky_4, ky_5, ky_6, ky_7, ky_8⟩ := blk9 ky.out
  go_wp2_with fail
  refine (fi_n (e := 0) (n := N4) (Fires_any A n c l (Rc.setUnt r u) _ (HT.out _ hb) (H1.out _ hb) m hr2) E4.out N4q.out).mono ?_
  rintro e w6 ⟨A4, c4, rfl, hc4, hz4, -, hL, hn⟩
  have hb := Below.go hb hn
  have kx := Lib.hid (keep' kx.out hn)
  have ky := Lib.hid (keep' ky.out hn)
  have L1 := Lib.hid (Li.go L1.out hn)
  have L2 := Lib.hid (Li.go L2.out hn)
  have L3 := Lib.hid (Lp.go L3.out hn)
  clear hn
  have L4 := Lib.hid hL; clear hL
  have hN1 : N1 ≤ 1000 := by have := Rc.dysV_len r; rw [N1q.out] at this; exact this
  have hN3 : N3 ≤ 1000 := by have := Rc.fiV_len l r; rw [N3q.out] at this; exact this
  have hN2 : N2 ≤ 1000 := by have := Rc.dysV_len (Rc.setUnt r u); rw [N2q.out] at this; exact this
  have hN4 : N4 ≤ 1000 := by have := Rc.fiV_len l (Rc.setUnt r u); rw [N4q.out] at this; exact this
  obtain ⟨i0, hi, hz0, hz1, hz2⟩ := info_parts infoI
  obtain ⟨j0, gi, gz0, gz1, gz2⟩ := info_parts infoF
  clear kxz kyz kx ky hc3 hz3 hc4 hz4
  go_wp2
  go_loopw [17, 75] (fun v i wr => ∃ (k : Nat) (A5 : Option Addr) (z c5 : Nat), k ≤ N1 ∧ i = .int .i64 k ∧ v = .slice A5 z c5 ∧ z ≤ k ∧ Hid ((((Rc.dysV r).take k).filter (Rc.before u)).length = z) ∧ Hid (wr.ownsRow w6.heap.size tI 1 (.slice A5 z c5) z (cellsI (((Rc.dysV r).take k).filter (Rc.before u)))) ∧ Below w6.heap.size w6 wr) (fun _ i _ => N1 - (intOf i).toNat)
  case atStart => exact ⟨0, none, 0, 0, Nat.zero_le _, rfl, rfl, Nat.le_refl _, Lib.hid (by simp), Lib.hid (by simpa [cellsI] using (own_nil (B := w6.heap.size) (W := w6) (t := tI) (sz := 1))), Below.refl _ _⟩
  case round =>
    obtain ⟨k, A5, z, c5, hk, rfl, rfl, hzk, hm, hown, hbr⟩ := hrel
    by_cases hlt : k < N1
    · obtain ⟨b, off, rfl, hB, hc⟩ := L1.out.2 (by omega)
      have c0 := (hbr.cell (p := ⟨b, off + k, none⟩) hB).trans (hc k hlt)
      clear hc
      obtain ⟨d, hx⟩ : ∃ d, (Rc.dysV r)[k]?.getD 0 = d := ⟨_, rfl⟩
      rw [hx] at c0
      have i0 : (0 : Int) ≤ (k : Int) := by omega
      have i1 : (k : Int) < (N1 : Int) := by omega
      by_cases hd : d < u
      · have HS : Hid (((Rc.dysV r).take (k + 1)).filter (Rc.before u) = ((Rc.dysV r).take k).filter (Rc.before u) ++ [d]) := Lib.hid (filI_yes N1q.out hlt hx (decide_eq_true hd))
        have hbx := Below.goN hbr (.cells #[.int .i64 d] tI)
        clear hx
        go_wp2_with (at_builtin; refine wpList_append_own_at _ rfl _ _ 28 rfl w6.heap.size tI _ (.int .i64 0) 1 8 Tryd.underlying28 hi hz0 hz1 hz2 rfl (by decide) _ z _ rfl (hown.out.alloc _) ⟨wr.heap.size, 0, none⟩ 1 1 [.int .i64 d] rfl rfl (World.news_of_block (heap_new wr _)) (by simp [Value.oneCell']) (by unfold maxLen; omega) (by omega) (by have := hbr.size; simp; omega) ?_; intro v' w9 hown' hgrow _ _)
        have hb9 := Below.grown hbx hgrow (by have := hbr.size; simp; omega) (fun g hg => (hown.out.lt g hg).1)
        have hm9 : Hid ((((Rc.dysV r).take (k + 1)).filter (Rc.before u)).length = z + 1) := Lib.hid (by rw [HS.out, List.length_append, hm.out]; rfl)
        have ho9 : w9.ownsRow w6.heap.size tI 1 v' (z + 1) (cellsI (((Rc.dysV r).take (k + 1)).filter (Rc.before u))) := by rw [HS.out, cellsI_app]; exact hown'
        obtain ⟨A9, c9, rfl, -, -, -⟩ := own_li ho9 hm9.out
        have HO9 := Lib.hid ho9
        clear ho9 hown' hgrow hbx
        go_wp2
        go_roundw
        case rel => exact ⟨k + 1, A9, z + 1, c9, by omega, by go_num, rfl, by omega, hm9, HO9, hb9⟩
        case measure => simp [intOf]; omega
      · have HS : Hid (((Rc.dysV r).take (k + 1)).filter (Rc.before u) = ((Rc.dysV r).take k).filter (Rc.before u)) := Lib.hid (filI_no N1q.out hlt hx (decide_eq_false hd))
        clear hx
        go_wp2
        go_roundw
        case rel => exact ⟨k + 1, A5, z, c5, by omega, by go_num, rfl, by omega, by rw [HS.out]; exact hm, by rw [HS.out]; exact hown, hbr⟩
        case measure => simp [intOf]; omega
    · obtain rfl : k = N1 := by omega
      have e : (Rc.dysV r).take k = Rc.dysV r := List.take_of_length_le (by rw [N1q.out]; omega)
      rw [e] at hm hown
      clear e
      have hb7 := Below.go hb hbr
      have L2 := Lib.hid (Li.go L2.out hbr)
      have L3 := Lib.hid (Lp.go L3.out hbr)
      have L4 := Lib.hid (Lp.go L4.out hbr)
      obtain ⟨A5', c5', hAe, -, -, hL5⟩ := own_li hown.out hm.out
      cases hAe
      rw [← V2.out] at hm hL5
      have hz2' : z = N2 := by rw [← hm.out, N2q.out]
      subst hz2'
      have L5 := Lib.hid hL5
      clear hL5 hown hbr hb hm L1
      go_wp2
      generalize wr = w7 at *
      go_loopw [20, 89] (fun v i wr => ∃ (j : Nat) (A6 : Option Addr) (y c6 : Nat), j ≤ N3 ∧ i = .int .i64 j ∧ v = .slice A6 y c6 ∧ y ≤ j ∧ Hid ((((Rc.fiV l r).take j).filter (Rc.beforeP u)).length = y) ∧ Hid (wr.ownsRow w7.heap.size tF 2 (.slice A6 y c6) y (cellsL (((Rc.fiV l r).take j).filter (Rc.beforeP u)))) ∧ Below w7.heap.size w7 wr) (fun _ i _ => N3 - (intOf i).toNat)
      case atStart => exact ⟨0, none, 0, 0, Nat.zero_le _, rfl, rfl, Nat.le_refl _, Lib.hid (by simp), Lib.hid (by simpa [cellsL] using (own_nil (B := w7.heap.size) (W := w7) (t := tF) (sz := 2))), Below.refl _ _⟩
      case round =>
        obtain ⟨j, A6, y, c6, hj, rfl, rfl, hyj, hm, hown, hbr⟩ := hrel
        by_cases hlt : j < N3
        · obtain ⟨b, off, rfl, hB, hc⟩ := L3.out.2 (by omega)
          have c0 := (hbr.cell (p := ⟨b, off + j * 2, none⟩) hB).trans (hc j hlt).1
          have c1 := (hbr.cell (p := ⟨b, off + j * 2 + 1, none⟩) hB).trans (hc j hlt).2
          clear hc
          obtain ⟨d, t, hx⟩ : ∃ d t, (Rc.fiV l r)[j]?.getD (0, 0) = (d, t) := ⟨_, _, rfl⟩
          rw [hx] at c0 c1
          have i0 : (0 : Int) ≤ (j : Int) := by omega
          have i1 : (j : Int) < (N3 : Int) := by omega
          by_cases hd : d < u
          · have HS : Hid (((Rc.fiV l r).take (j + 1)).filter (Rc.beforeP u) = ((Rc.fiV l r).take j).filter (Rc.beforeP u) ++ [(d, t)]) := Lib.hid (fil_yes N3q.out hlt hx (decide_eq_true hd))
            have hbx := Below.goN (Below.goN hbr (.cells #[.int .i64 d, .int .i64 t] tF)) (.cells #[.int .i64 d, .int .i64 t] tF)
            clear hx
            go_wp2_with (at_builtin; refine wpList_append_own_at _ rfl _ _ 33 rfl w7.heap.size tF _ (.agg #[.int .i64 0, .int .i64 0]) 2 16 Tryd.underlying33 gi gz0 gz1 gz2 rfl (by decide) _ y _ rfl ((hown.out.alloc _).alloc _) ⟨wr.heap.size + 1, 0, none⟩ 1 1 [.int .i64 d, .int .i64 t] rfl rfl (by simpa [World.size_alloc] using World.news_of_block (heap_new (wr.alloc (.cells #[.int .i64 d, .int .i64 t] tF)) (.cells #[.int .i64 d, .int .i64 t] tF))) (by simp [Value.oneCell']) (by unfold maxLen; omega) (by omega) (by have := hbr.size; simp; omega) ?_; intro v' w9 hown' hgrow _ _)
            have hb9 := Below.grown hbx hgrow (by have := hbr.size; simp; omega) (fun g hg => (hown.out.lt g hg).1)
            have hm9 : Hid ((((Rc.fiV l r).take (j + 1)).filter (Rc.beforeP u)).length = y + 1) := Lib.hid (by rw [HS.out, List.length_append, hm.out]; rfl)
            have ho9 : w9.ownsRow w7.heap.size tF 2 v' (y + 1) (cellsL (((Rc.fiV l r).take (j + 1)).filter (Rc.beforeP u))) := by rw [HS.out, cellsL_app]; exact hown'
            obtain ⟨A9, c9, rfl, -, -, -⟩ := own_lp ho9 hm9.out
            have HO9 := Lib.hid ho9
            clear ho9 hown' hgrow hbx
            go_wp2
            go_roundw
            case rel => exact ⟨j + 1, A9, y + 1, c9, by omega, by go_num, rfl, by omega, hm9, HO9, hb9⟩
            case measure => simp [intOf]; omega
          · have HS : Hid (((Rc.fiV l r).take (j + 1)).filter (Rc.beforeP u) = ((Rc.fiV l r).take j).filter (Rc.beforeP u)) := Lib.hid (fil_no N3q.out hlt hx (decide_eq_false hd))
            clear hx
            go_wp2
            go_roundw
            case rel => exact ⟨j + 1, A6, y, c6, by omega, by go_num, rfl, by omega, by rw [HS.out]; exact hm, by rw [HS.out]; exact Lib.hid (hown.out.alloc _), Below.goN hbr _⟩
            case measure => simp [intOf]; omega
        · obtain rfl : j = N3 := by omega
          have e : (Rc.fiV l r).take j = Rc.fiV l r := List.take_of_length_le (by rw [N3q.out]; omega)
          rw [e] at hm hown
          clear e
          have hb8 := Below.go hb7 hbr
          have L2 := Lib.hid (Li.go L2.out hbr)
          have L5 := Lib.hid (Li.go L5.out hbr)
          have L4 := Lib.hid (Lp.go L4.out hbr)
          obtain ⟨A6', c6', hAe, -, -, hL6⟩ := own_lp hown.out hm.out
          cases hAe
          rw [← V4.out] at hm hL6
          have hy4 : y = N4 := by rw [← hm.out, N4q.out]
          subst hy4
          have L6 := Lib.hid hL6
          clear hL6 hown hbr hm L3
          go_wp2_with fail
          refine (sameInts_t A2 _ _ c2 _ _ _ L2.out L5.out (by omega)).mono ?_
          rintro e w8 ⟨rfl, hn⟩
          have hb9 := Below.go hb8 hn
          have L6 := Lib.hid (Lp.go L6.out hn)
          have L4 := Lib.hid (Lp.go L4.out hn)
          clear hn
          go_wp2_with fail
          refine (same21_t A4 _ _ c4 _ _ _ L4.out L6.out (by omega)).mono ?_
          rintro e w9 ⟨rfl, hn⟩
          have hb10 := Below.go hb9 hn
          go_wp2
          go_ret
          exact ⟨by simp, hb10⟩
theorem until_law (v1 : Value) (l : Lpm.LL) (v2 : Value) (r : Rec) (u : Int) (w : World) (i1 : IsTab w v1 l) (i2 : IsRc v2 r) (i3 : (Lit.int .i64 u).wf = true) (ht : Tab w) :
    Calls Tryd.prog 7 #[v1, v2, .int .i64 u] w (LawPost w) := by
  obtain ⟨A, n, c, rfl, -, -, -, h1⟩ := i1
  obtain ⟨rfl, hk⟩ := i2
  cases hu : useB n l r
  · exact until_unusable A n c l r u w ht h1 i3 (Lib.hid hu)
  · have q := Lib.hid hu
    by_cases q1 : u ≤ r.frm
    · exact until_low A n c l r u w ht h1 i3 q q1
    · by_cases q2 : r.unt < u
      · exact until_high A n c l r u w ht h1 i3 q q1 q2
      · obtain ⟨m, hv, hB, hf⟩ := use_ok hu
        have hr2 : Fit21 (Rc.setUnt r u) := ⟨hk, fun _ => by show u - r.frm ≤ 1200; omega⟩
        rcases Rc.dys_lim hB with d | d
        · rcases Rc.fi_lim hv hB with f | f
          · obtain ⟨a1, a2, a3, a4⟩ := Rc.unt_ok (r := r) (u := u) (by omega) (by omega) f
            exact until_main A n c l r u w ht h1 i3 q q1 q2 m (use_fit hu hk) hr2 (Lib.hid d) (Lib.hid a1) (Lib.hid f) (Lib.hid a3) _ _ _ _ (Lib.hid rfl) (Lib.hid rfl) (Lib.hid rfl) (Lib.hid rfl) (Lib.hid a2) (Lib.hid a4)
          · exact until_limit2 A n c l r u w ht h1 i3 q q1 q2 m (use_fit hu hk) hr2 _ _ (Lib.hid d) (Lib.hid rfl) (Lib.hid f) (Lib.hid rfl) _ _ _ _ (Lib.hid rfl) (Lib.hid rfl) (Lib.hid rfl) (Lib.hid rfl)
        · exact until_limit1 A n c l r u w ht h1 i3 q q1 q2 m (use_fit hu hk) hr2 _ _ _ (Lib.hid d) (Lib.hid rfl) (Lib.hid rfl) (Lib.hid rfl) _ _ _ _ (Lib.hid rfl) (Lib.hid rfl) (Lib.hid rfl) (Lib.hid rfl)
end Go.Proofs.YtmicbniipbcapaaDoor
