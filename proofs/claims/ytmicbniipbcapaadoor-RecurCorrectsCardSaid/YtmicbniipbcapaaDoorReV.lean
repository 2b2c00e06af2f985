/- What the laws of chapter 21 share: the argument that is a schedule, opened; the contract of usable; the law RecurMatchesReference. -/
import Derived.Test.YtmicbniipbcapaaDoorReU
import Derived.Test.YtmicbniipbcapaaDoorOpen
import Derived.Test.YtmicbniipbcapaaDoorLaid
set_option linter.unusedVariables false
namespace Go.Proofs.YtmicbniipbcapaaDoor
open Go.RowKit Go.ChangeShapes Go.WideShapes
def IsRc (v : Value) (r : Rec) : Prop := v = (.agg #[.int .i64 r.kind, .int .i64 r.every, .int .i64 r.wd, .int .i64 r.nth, .int .i64 r.frm, .int .i64 r.unt, .int .i64 r.sec, .bool r.shift, .bool r.both]) ∧ (Lit.int .i64 r.kind).wf = true
theorem array9 {cs : Array Value} (h : cs.size = 9) : ∃ a0 a1 a2 a3 a4 a5 a6 a7 a8, cs = #[a0, a1, a2, a3, a4, a5, a6, a7, a8] := by
  obtain ⟨l⟩ := cs
  match l, h with
  | [a0, a1, a2, a3, a4, a5, a6, a7, a8], _ => exact ⟨a0, a1, a2, a3, a4, a5, a6, a7, a8, rfl⟩
set_option maxRecDepth 100000 in
theorem cellsRec : Tryd.prog.cellsOf 24 = 9 := by kernel_rfl
set_option maxRecDepth 100000 in
theorem open_rc {H : Type} {enc : TypeId × Value → H} {W : World} {base b0 : Nat} {r : Reach} {sp : Nat → Bool} {hd : Bool} {v : Value} {d : DataW H} {p : List MemPlace}
    (hv : Value.okWide Tryd.prog W r b0 24 v) (h : DataW.Trod enc Tryd.prog W base sp hd 24 v d p) : ∃ x, IsRc v x := by
  obtain ⟨cs, rfl, hsz⟩ := okWide_struct Tryd.underlying24 hv
  obtain ⟨a0, a1, a2, a3, a4, a5, a6, a7, a8, rfl⟩ := array9 (hsz.trans cellsRec)
  obtain ⟨fuel, hf⟩ := h
  obtain ⟨ys, n', hn', hy, hlen, hyl, hg⟩ := DataW.trod_struct Tryd.underlying24 hf
  have key : ∀ (j : Nat) (f : Field) (x : Value), j < 9 → ys[j]? = DataW.trod enc Tryd.prog W base sp hd n' f.type [x] → ∃ y, DataW.trod enc Tryd.prog W base sp hd n' f.type [x] = some y := fun j f x hj e => by
    have hs : ys.length = 9 := hyl
    exact ⟨ys[j]'(by omega), e.symm.trans (List.getElem?_eq_getElem (by omega))⟩
  obtain ⟨y0, t0⟩ := key 0 _ a0 (by decide) (hg 0 _ rfl).symm
  obtain ⟨y1, t1⟩ := key 1 _ a1 (by decide) (hg 1 _ rfl).symm
  obtain ⟨y2, t2⟩ := key 2 _ a2 (by decide) (hg 2 _ rfl).symm
  obtain ⟨y3, t3⟩ := key 3 _ a3 (by decide) (hg 3 _ rfl).symm
  obtain ⟨y4, t4⟩ := key 4 _ a4 (by decide) (hg 4 _ rfl).symm
  obtain ⟨y5, t5⟩ := key 5 _ a5 (by decide) (hg 5 _ rfl).symm
  obtain ⟨y6, t6⟩ := key 6 _ a6 (by decide) (hg 6 _ rfl).symm
  obtain ⟨y7, t7⟩ := key 7 _ a7 (by decide) (hg 7 _ rfl).symm
  obtain ⟨y8, t8⟩ := key 8 _ a8 (by decide) (hg 8 _ rfl).symm
  obtain ⟨z0, e0, -, u0⟩ := DataW.trod_int Tryd.underlying3 t0
  obtain ⟨z1, e1, -, u1⟩ := DataW.trod_int Tryd.underlying3 t1
  obtain ⟨z2, e2, -, u2⟩ := DataW.trod_int Tryd.underlying3 t2
  obtain ⟨z3, e3, -, u3⟩ := DataW.trod_int Tryd.underlying3 t3
  obtain ⟨z4, e4, -, u4⟩ := DataW.trod_int Tryd.underlying3 t4
  obtain ⟨z5, e5, -, u5⟩ := DataW.trod_int Tryd.underlying3 t5
  obtain ⟨z6, e6, -, u6⟩ := DataW.trod_int Tryd.underlying3 t6
  obtain ⟨z7, e7, -⟩ := DataW.trod_bool Tryd.underlying4 t7
  obtain ⟨z8, e8, -⟩ := DataW.trod_bool Tryd.underlying4 t8
  simp at e0 e1 e2 e3 e4 e5 e6 e7 e8
  subst e0 e1 e2 e3 e4 e5 e6 e7 e8
  exact ⟨⟨z0, z1, z2, z3, z4, z5, z6, z7, z8⟩, rfl, u0⟩
theorem own_ad {B : Nat} {W : World} {t : TypeId} {sz : Nat} {A : Option Addr} {n m c : Nat} {xs : List Value} (h : W.ownsRow B t sz (.slice A n c) m xs) : ∀ ad, A = some ad → B ≤ ad.block := by
  intro ad ha
  obtain ⟨-, ⟨e, -⟩ | ⟨g, cap, cur, e, hB, hg, hnc, hcm, -⟩⟩ := h
  · cases e; cases ha
  · cases e; cases ha; exact hB
theorem da_c {r : Rec} {w : World} {f : FuncId} {args : Array Value} (h : Calls Tryd.prog f args w (DaysPost r w)) :
    Calls Tryd.prog f args w fun e w' => ∃ A c, e = .returned (.tuple #[.slice A (Rc.dysV r).length c, .int .i64 (Rc.dysE r)]) ∧ Li w'.heap.size w' A (Rc.dysV r).length (Rc.dysV r) ∧ Below w.heap.size w w' :=
  h.mono fun e w' ⟨v, he, ho, hb⟩ => by
    obtain ⟨A, c, rfl, -, -, hL⟩ := own_li ho rfl
    exact ⟨A, c, he, hL, hb⟩
theorem fi_c {l : Lpm.LL} {r : Rec} {w : World} {f : FuncId} {args : Array Value} (h : Calls Tryd.prog f args w (FiresPost l r w)) :
    Calls Tryd.prog f args w fun e w' => ∃ A c, e = .returned (.tuple #[.slice A (Rc.fiV l r).length c, .int .i64 (Rc.fiE l r)]) ∧ (Rc.fiV l r).length ≤ c ∧ c ≤ maxLen ∧ (∀ ad, A = some ad → w.heap.size ≤ ad.block) ∧ Lp w'.heap.size w' A (Rc.fiV l r).length (Rc.fiV l r) ∧ Below w.heap.size w w' :=
  h.mono fun e w' ⟨v, he, ho, hb⟩ => by
    have ho' := ho
    obtain ⟨A, c, rfl, h1, -, hL⟩ := own_lp ho rfl
    exact ⟨A, c, he, h1, own_cap ho, own_ad ho, hL, hb⟩
theorem coF_len (o nw : Lpm.LL) (r : Rec) (t : Int) : (Rc.coF o nw r t).length ≤ 1000 := by
  unfold Rc.coF; split
  · exact Nat.le_trans (Rc.less_len _ _ _) (Rc.fiV_len o r)
  · simp
theorem coN_len (o nw : Lpm.LL) (r : Rec) (t : Int) : (Rc.coN o nw r t).length ≤ 1000 := by
  unfold Rc.coN; split
  · exact Nat.le_trans (Rc.less_len _ _ _) (Rc.fiV_len nw r)
  · simp
set_option maxHeartbeats 2000000 in
set_option maxRecDepth 100000 in
theorem matches_few1 (A1 A2 : Option Addr) (n1 c1 n2 c2 : Nat) (o nw : Lpm.LL) (r : Rec) (t : Int) (w : World) (ht : Tab w) (h1 : Lp w.heap.size w A1 n1 o) (h2 : Lp w.heap.size w A2 n2 nw) (q1 : decide (n1 ≤ 110) = false) :
    Calls Tryd.prog 3 #[.slice A1 n1 c1, .slice A2 n2 c2, (.agg #[.int .i64 r.kind, .int .i64 r.every, .int .i64 r.wd, .int .i64 r.nth, .int .i64 r.frm, .int .i64 r.unt, .int .i64 r.sec, .bool r.shift, .bool r.both]), .int .i64 t] w (LawPost w) := by
  have HT : Hid (∀ W, Below w.heap.size w W → Tab W) := Lib.hid fun W hW => ht.below hW
  have H1 : Hid (∀ W, Below w.heap.size w W → Lp W.heap.size W A1 n1 o) := Lib.hid fun W hW => h1.go hW
  have H2 : Hid (∀ W, Below w.heap.size w W → Lp W.heap.size W A2 n2 nw) := Lib.hid fun W hW => h2.go hW
  have hb := Below.goN (Below.refl w.heap.size w) (.cells #[.int .i64 r.kind, .int .i64 r.every, .int .i64 r.wd, .int .i64 r.nth, .int .i64 r.frm, .int .i64 r.unt, .int .i64 r.sec, .bool r.shift, .bool r.both] 24)
  have kx := Lib.hid (heap_new w (.cells #[.int .i64 r.kind, .int .i64 r.every, .int .i64 r.wd, .int .i64 r.nth, .int .i64 r.frm, .int .i64 r.unt, .int .i64 r.sec, .bool r.shift, .bool r.both] 24))
  clear ht h1 h2
  go_enter Tryd.func3, Tryd.ntmps3
  go_wp2_with fail
  refine (head_any _ (HT.out _ hb)).mono ?_
  rintro e w1 ⟨rfl, hn⟩
  have hb := Below.go hb hn
  have kx := Lib.hid (keep' kx.out hn)
  clear hn
  go_wp2_with fail
  refine (few18_any A1 n1 c1 _).mono ?_
  rintro e w' ⟨rfl, rfl⟩
  rw [q1]
  go_wp2
  go_ret
  exact ⟨by simp, hb⟩
set_option maxHeartbeats 2000000 in
set_option maxRecDepth 100000 in
theorem matches_few2 (A1 A2 : Option Addr) (n1 c1 n2 c2 : Nat) (o nw : Lpm.LL) (r : Rec) (t : Int) (w : World) (ht : Tab w) (h1 : Lp w.heap.size w A1 n1 o) (h2 : Lp w.heap.size w A2 n2 nw) (q1 : decide (n1 ≤ 110) = true) (q2 : decide (n2 ≤ 110) = false) :
    Calls Tryd.prog 3 #[.slice A1 n1 c1, .slice A2 n2 c2, (.agg #[.int .i64 r.kind, .int .i64 r.every, .int .i64 r.wd, .int .i64 r.nth, .int .i64 r.frm, .int .i64 r.unt, .int .i64 r.sec, .bool r.shift, .bool r.both]), .int .i64 t] w (LawPost w) := by
  have HT : Hid (∀ W, Below w.heap.size w W → Tab W) := Lib.hid fun W hW => ht.below hW
  have H1 : Hid (∀ W, Below w.heap.size w W → Lp W.heap.size W A1 n1 o) := Lib.hid fun W hW => h1.go hW
  have H2 : Hid (∀ W, Below w.heap.size w W → Lp W.heap.size W A2 n2 nw) := Lib.hid fun W hW => h2.go hW
  have hb := Below.goN (Below.refl w.heap.size w) (.cells #[.int .i64 r.kind, .int .i64 r.every, .int .i64 r.wd, .int .i64 r.nth, .int .i64 r.frm, .int .i64 r.unt, .int .i64 r.sec, .bool r.shift, .bool r.both] 24)
  have kx := Lib.hid (heap_new w (.cells #[.int .i64 r.kind, .int .i64 r.every, .int .i64 r.wd, .int .i64 r.nth, .int .i64 r.frm, .int .i64 r.unt, .int .i64 r.sec, .bool r.shift, .bool r.both] 24))
  clear ht h1 h2
  go_enter Tryd.func3, Tryd.ntmps3
  go_wp2_with fail
  refine (head_any _ (HT.out _ hb)).mono ?_
  rintro e w1 ⟨rfl, hn⟩
  have hb := Below.go hb hn
  have kx := Lib.hid (keep' kx.out hn)
  clear hn
  go_wp2_with fail
  refine (few18_any A1 n1 c1 _).mono ?_
  rintro e w' ⟨rfl, rfl⟩
  rw [q1]
  go_wp2_with fail
  refine (few18_any A2 n2 c2 _).mono ?_
  rintro e w' ⟨rfl, rfl⟩
  rw [q2]
  go_wp2
  go_ret
  exact ⟨by simp, hb⟩
set_option maxHeartbeats 2000000 in
set_option maxRecDepth 100000 in
theorem matches_notfew (A1 A2 : Option Addr) (n1 c1 n2 c2 : Nat) (o nw : Lpm.LL) (r : Rec) (t : Int) (w : World) (ht : Tab w) (h1 : Lp w.heap.size w A1 n1 o) (h2 : Lp w.heap.size w A2 n2 nw) (q1 : decide (n1 ≤ 110) = true) (q2 : decide (n2 ≤ 110) = true) (q3 : Hid (Rc.validB r = true)) (f1 : -100000 ≤ r.unt) (f2 : r.unt ≤ 100000) (f3 : -100000 ≤ r.frm) (f4 : r.frm ≤ 100000) (q4 : decide (r.unt - r.frm ≤ 1200) = false) :
    Calls Tryd.prog 3 #[.slice A1 n1 c1, .slice A2 n2 c2, (.agg #[.int .i64 r.kind, .int .i64 r.every, .int .i64 r.wd, .int .i64 r.nth, .int .i64 r.frm, .int .i64 r.unt, .int .i64 r.sec, .bool r.shift, .bool r.both]), .int .i64 t] w (LawPost w) := by
  have HT : Hid (∀ W, Below w.heap.size w W → Tab W) := Lib.hid fun W hW => ht.below hW
  have H1 : Hid (∀ W, Below w.heap.size w W → Lp W.heap.size W A1 n1 o) := Lib.hid fun W hW => h1.go hW
  have H2 : Hid (∀ W, Below w.heap.size w W → Lp W.heap.size W A2 n2 nw) := Lib.hid fun W hW => h2.go hW
  have hb := Below.goN (Below.refl w.heap.size w) (.cells #[.int .i64 r.kind, .int .i64 r.every, .int .i64 r.wd, .int .i64 r.nth, .int .i64 r.frm, .int .i64 r.unt, .int .i64 r.sec, .bool r.shift, .bool r.both] 24)
  have kx := Lib.hid (heap_new w (.cells #[.int .i64 r.kind, .int .i64 r.every, .int .i64 r.wd, .int .i64 r.nth, .int .i64 r.frm, .int .i64 r.unt, .int .i64 r.sec, .bool r.shift, .bool r.both] 24))
  clear ht h1 h2
  go_enter Tryd.func3, Tryd.ntmps3
  go_wp2_with fail
  refine (head_any _ (HT.out _ hb)).mono ?_
  rintro e w1 ⟨rfl, hn⟩
  have hb := Below.go hb hn
  have kx := Lib.hid (keep' kx.out hn)
  clear hn
  go_wp2_with fail
  refine (few18_any A1 n1 c1 _).mono ?_
  rintro e w' ⟨rfl, rfl⟩
  rw [q1]
  go_wp2_with fail
  refine (few18_any A2 n2 c2 _).mono ?_
  rintro e w' ⟨rfl, rfl⟩
  rw [q2]
  obtain ⟨kx_0, kx_1, kx_2, kx_3, kx_4, kx_5, kx_6, kx_7, kx_8⟩ := blk9 kx.out
  go_wp2_with fail
  refine (refValid21_any r _).mono ?_
  rintro e w2 ⟨rfl, hn⟩
  have hb := Below.go hb hn
  have kx := Lib.hid (keep' kx.out hn)
  clear hn
  rw [q3.out]
  obtain ⟨kx_0, kx_1, kx_2, kx_3, kx_4, kx_5, kx_6, kx_7, kx_8⟩ := blk9 kx.out
  go_wp2_with fail
  refine (refFew21_any r _ f1 f2 f3 f4).mono ?_
  rintro e w3 ⟨rfl, hn⟩
  have hb := Below.go hb hn
  have kx := Lib.hid (keep' kx.out hn)
  clear hn
  rw [q4]
  go_wp2
  go_ret
  exact ⟨by simp, hb⟩
set_option maxHeartbeats 2000000 in
set_option maxRecDepth 100000 in
theorem matches_notvalid (A1 A2 : Option Addr) (n1 c1 n2 c2 : Nat) (o nw : Lpm.LL) (r : Rec) (t : Int) (w : World) (ht : Tab w) (h1 : Lp w.heap.size w A1 n1 o) (h2 : Lp w.heap.size w A2 n2 nw) (q1 : decide (n1 ≤ 110) = true) (q2 : decide (n2 ≤ 110) = true) (q3 : Hid (Rc.validB r = false)) (m1 : n1 ≤ 110) (m2 : n2 ≤ 110) (hr : Fit21 r) :
    Calls Tryd.prog 3 #[.slice A1 n1 c1, .slice A2 n2 c2, (.agg #[.int .i64 r.kind, .int .i64 r.every, .int .i64 r.wd, .int .i64 r.nth, .int .i64 r.frm, .int .i64 r.unt, .int .i64 r.sec, .bool r.shift, .bool r.both]), .int .i64 t] w (LawPost w) := by
  have HT : Hid (∀ W, Below w.heap.size w W → Tab W) := Lib.hid fun W hW => ht.below hW
  have H1 : Hid (∀ W, Below w.heap.size w W → Lp W.heap.size W A1 n1 o) := Lib.hid fun W hW => h1.go hW
  have H2 : Hid (∀ W, Below w.heap.size w W → Lp W.heap.size W A2 n2 nw) := Lib.hid fun W hW => h2.go hW
  have hb := Below.goN (Below.refl w.heap.size w) (.cells #[.int .i64 r.kind, .int .i64 r.every, .int .i64 r.wd, .int .i64 r.nth, .int .i64 r.frm, .int .i64 r.unt, .int .i64 r.sec, .bool r.shift, .bool r.both] 24)
  have kx := Lib.hid (heap_new w (.cells #[.int .i64 r.kind, .int .i64 r.every, .int .i64 r.wd, .int .i64 r.nth, .int .i64 r.frm, .int .i64 r.unt, .int .i64 r.sec, .bool r.shift, .bool r.both] 24))
  clear ht h1 h2
  go_enter Tryd.func3, Tryd.ntmps3
  go_wp2_with fail
  refine (head_any _ (HT.out _ hb)).mono ?_
  rintro e w1 ⟨rfl, hn⟩
  have hb := Below.go hb hn
  have kx := Lib.hid (keep' kx.out hn)
  clear hn
  go_wp2_with fail
  refine (few18_any A1 n1 c1 _).mono ?_
  rintro e w' ⟨rfl, rfl⟩
  rw [q1]
  go_wp2_with fail
  refine (few18_any A2 n2 c2 _).mono ?_
  rintro e w' ⟨rfl, rfl⟩
  rw [q2]
  obtain ⟨kx_0, kx_1, kx_2, kx_3, kx_4, kx_5, kx_6, kx_7, kx_8⟩ := blk9 kx.out
  go_wp2_with fail
  refine (refValid21_any r _).mono ?_
  rintro e w2 ⟨rfl, hn⟩
  have hb := Below.go hb hn
  have kx := Lib.hid (keep' kx.out hn)
  clear hn
  rw [q3.out]
  obtain ⟨kx_0, kx_1, kx_2, kx_3, kx_4, kx_5, kx_6, kx_7, kx_8⟩ := blk9 kx.out
  go_wp2_with fail
  refine (da_c (Days_any r _ (HT.out _ hb) hr)).mono ?_
  rintro e w3 ⟨A3, c3, rfl, hL, hn⟩
  have hb := Below.go hb hn
  have kx := Lib.hid (keep' kx.out hn)
  clear hn
  have L3 := Lib.hid hL; clear hL
  obtain ⟨kx_0, kx_1, kx_2, kx_3, kx_4, kx_5, kx_6, kx_7, kx_8⟩ := blk9 kx.out
  go_wp2_with fail
  refine (da_c (refDays_any r _ hr)).mono ?_
  rintro e w4 ⟨A4, c4, rfl, hL, hn⟩
  have hb := Below.go hb hn
  have kx := Lib.hid (keep' kx.out hn)
  have L3 := Lib.hid (Li.go L3.out hn)
  clear hn
  have L4 := Lib.hid hL; clear hL
  go_wp2_with fail
  refine (sameInts_t A3 A4 _ c3 c4 _ _ L3.out L4.out (Nat.le_trans (Rc.dysV_len r) (by decide))).mono ?_
  rintro e w5 ⟨rfl, hn⟩
  have hb := Below.go hb hn
  have kx := Lib.hid (keep' kx.out hn)
  have L3 := Lib.hid (Li.go L3.out hn)
  have L4 := Lib.hid (Li.go L4.out hn)
  clear hn
  obtain ⟨kx_0, kx_1, kx_2, kx_3, kx_4, kx_5, kx_6, kx_7, kx_8⟩ := blk9 kx.out
  go_wp2_with fail
  refine (fi_c (Fires_any A1 n1 c1 o r _ (HT.out _ hb) (H1.out _ hb) m1 hr)).mono ?_
  rintro e w6 ⟨A3, c3, rfl, -, -, -, hL, hn⟩
  have hb := Below.go hb hn
  have kx := Lib.hid (keep' kx.out hn)
  clear hn
  have L3 := Lib.hid hL; clear hL
  obtain ⟨kx_0, kx_1, kx_2, kx_3, kx_4, kx_5, kx_6, kx_7, kx_8⟩ := blk9 kx.out
  go_wp2_with fail
  refine (fi_c (refFires_any A1 n1 c1 o r _ (H1.out _ hb) m1 hr)).mono ?_
  rintro e w7 ⟨A4, c4, rfl, -, -, -, hL, hn⟩
  have hb := Below.go hb hn
  have kx := Lib.hid (keep' kx.out hn)
  have L3 := Lib.hid (Lp.go L3.out hn)
  clear hn
  have L4 := Lib.hid hL; clear hL
  go_wp2_with fail
  refine (same21_t A3 A4 _ c3 c4 _ _ L3.out L4.out (Nat.le_trans (Rc.fiV_len o r) (by decide))).mono ?_
  rintro e w8 ⟨rfl, hn⟩
  have hb := Below.go hb hn
  have kx := Lib.hid (keep' kx.out hn)
  have L3 := Lib.hid (Lp.go L3.out hn)
  have L4 := Lib.hid (Lp.go L4.out hn)
  clear hn
  obtain ⟨kx_0, kx_1, kx_2, kx_3, kx_4, kx_5, kx_6, kx_7, kx_8⟩ := blk9 kx.out
  go_wp2_with fail
  refine (Correct_any A1 A2 n1 c1 n2 c2 o nw r t _ (HT.out _ hb) (H1.out _ hb) (H2.out _ hb) m1 m2 hr).mono ?_
  rintro e w9 ⟨B1, k1, z1, B2, k2, z2, rfl, -, -, hL1, hL2, hn⟩
  have hb := Below.go hb hn
  have kx := Lib.hid (keep' kx.out hn)
  clear hn
  obtain rfl := hL1.1; obtain rfl := hL2.1
  have L1 := Lib.hid hL1; have L2 := Lib.hid hL2; clear hL1 hL2
  obtain ⟨kx_0, kx_1, kx_2, kx_3, kx_4, kx_5, kx_6, kx_7, kx_8⟩ := blk9 kx.out
  go_wp2_with fail
  refine (refCorrect_any A1 A2 n1 c1 n2 c2 o nw r t _ (H1.out _ hb) (H2.out _ hb) m1 m2 hr).mono ?_
  rintro e w10 ⟨B3, k3, z3, B4, k4, z4, rfl, -, -, hL3, hL4, hn⟩
  have hb := Below.go hb hn
  have kx := Lib.hid (keep' kx.out hn)
  have L1 := Lib.hid (Lp.go L1.out hn)
  have L2 := Lib.hid (Lp.go L2.out hn)
  clear hn
  obtain rfl := hL3.1; obtain rfl := hL4.1
  have L3 := Lib.hid hL3; have L4 := Lib.hid hL4; clear hL3 hL4
  go_wp2_with fail
  refine (same21_t B1 B3 _ z1 z3 _ _ L1.out L3.out (Nat.le_trans (coF_len o nw r t) (by decide))).mono ?_
  rintro e w11 ⟨rfl, hn⟩
  have hb := Below.go hb hn
  have kx := Lib.hid (keep' kx.out hn)
  have L1 := Lib.hid (Lp.go L1.out hn)
  have L2 := Lib.hid (Lp.go L2.out hn)
  have L3 := Lib.hid (Lp.go L3.out hn)
  have L4 := Lib.hid (Lp.go L4.out hn)
  clear hn
  go_wp2_with fail
  refine (same21_t B2 B4 _ z2 z4 _ _ L2.out L4.out (Nat.le_trans (coN_len o nw r t) (by decide))).mono ?_
  rintro e w12 ⟨rfl, hn⟩
  have hb := Below.go hb hn
  have kx := Lib.hid (keep' kx.out hn)
  have L1 := Lib.hid (Lp.go L1.out hn)
  have L2 := Lib.hid (Lp.go L2.out hn)
  have L3 := Lib.hid (Lp.go L3.out hn)
  have L4 := Lib.hid (Lp.go L4.out hn)
  clear hn
  go_wp2
  go_ret
  exact ⟨by simp, hb⟩
set_option maxHeartbeats 2000000 in
set_option maxRecDepth 100000 in
theorem matches_yes (A1 A2 : Option Addr) (n1 c1 n2 c2 : Nat) (o nw : Lpm.LL) (r : Rec) (t : Int) (w : World) (ht : Tab w) (h1 : Lp w.heap.size w A1 n1 o) (h2 : Lp w.heap.size w A2 n2 nw) (q1 : decide (n1 ≤ 110) = true) (q2 : decide (n2 ≤ 110) = true) (q3 : Hid (Rc.validB r = true)) (f1 : -100000 ≤ r.unt) (f2 : r.unt ≤ 100000) (f3 : -100000 ≤ r.frm) (f4 : r.frm ≤ 100000) (q4 : decide (r.unt - r.frm ≤ 1200) = true) (m1 : n1 ≤ 110) (m2 : n2 ≤ 110) (hr : Fit21 r) :
    Calls Tryd.prog 3 #[.slice A1 n1 c1, .slice A2 n2 c2, (.agg #[.int .i64 r.kind, .int .i64 r.every, .int .i64 r.wd, .int .i64 r.nth, .int .i64 r.frm, .int .i64 r.unt, .int .i64 r.sec, .bool r.shift, .bool r.both]), .int .i64 t] w (LawPost w) := by
  have HT : Hid (∀ W, Below w.heap.size w W → Tab W) := Lib.hid fun W hW => ht.below hW
  have H1 : Hid (∀ W, Below w.heap.size w W → Lp W.heap.size W A1 n1 o) := Lib.hid fun W hW => h1.go hW
  have H2 : Hid (∀ W, Below w.heap.size w W → Lp W.heap.size W A2 n2 nw) := Lib.hid fun W hW => h2.go hW
  have hb := Below.goN (Below.refl w.heap.size w) (.cells #[.int .i64 r.kind, .int .i64 r.every, .int .i64 r.wd, .int .i64 r.nth, .int .i64 r.frm, .int .i64 r.unt, .int .i64 r.sec, .bool r.shift, .bool r.both] 24)
  have kx := Lib.hid (heap_new w (.cells #[.int .i64 r.kind, .int .i64 r.every, .int .i64 r.wd, .int .i64 r.nth, .int .i64 r.frm, .int .i64 r.unt, .int .i64 r.sec, .bool r.shift, .bool r.both] 24))
  clear ht h1 h2
  go_enter Tryd.func3, Tryd.ntmps3
  go_wp2_with fail
  refine (head_any _ (HT.out _ hb)).mono ?_
  rintro e w1 ⟨rfl, hn⟩
  have hb := Below.go hb hn
  have kx := Lib.hid (keep' kx.out hn)
  clear hn
  go_wp2_with fail
  refine (few18_any A1 n1 c1 _).mono ?_
  rintro e w' ⟨rfl, rfl⟩
  rw [q1]
  go_wp2_with fail
  refine (few18_any A2 n2 c2 _).mono ?_
  rintro e w' ⟨rfl, rfl⟩
  rw [q2]
  obtain ⟨kx_0, kx_1, kx_2, kx_3, kx_4, kx_5, kx_6, kx_7, kx_8⟩ := blk9 kx.out
  go_wp2_with fail
  refine (refValid21_any r _).mono ?_
  rintro e w2 ⟨rfl, hn⟩
  have hb := Below.go hb hn
  have kx := Lib.hid (keep' kx.out hn)
  clear hn
  rw [q3.out]
  obtain ⟨kx_0, kx_1, kx_2, kx_3, kx_4, kx_5, kx_6, kx_7, kx_8⟩ := blk9 kx.out
  go_wp2_with fail
  refine (refFew21_any r _ f1 f2 f3 f4).mono ?_
  rintro e w3 ⟨rfl, hn⟩
  have hb := Below.go hb hn
  have kx := Lib.hid (keep' kx.out hn)
  clear hn
  rw [q4]
  obtain ⟨kx_0, kx_1, kx_2, kx_3, kx_4, kx_5, kx_6, kx_7, kx_8⟩ := blk9 kx.out
  go_wp2_with fail
  refine (da_c (Days_any r _ (HT.out _ hb) hr)).mono ?_
  rintro e w4 ⟨A3, c3, rfl, hL, hn⟩
  have hb := Below.go hb hn
  have kx := Lib.hid (keep' kx.out hn)
  clear hn
  have L3 := Lib.hid hL; clear hL
  obtain ⟨kx_0, kx_1, kx_2, kx_3, kx_4, kx_5, kx_6, kx_7, kx_8⟩ := blk9 kx.out
  go_wp2_with fail
  refine (da_c (refDays_any r _ hr)).mono ?_
  rintro e w5 ⟨A4, c4, rfl, hL, hn⟩
  have hb := Below.go hb hn
  have kx := Lib.hid (keep' kx.out hn)
  have L3 := Lib.hid (Li.go L3.out hn)
  clear hn
  have L4 := Lib.hid hL; clear hL
  go_wp2_with fail
  refine (sameInts_t A3 A4 _ c3 c4 _ _ L3.out L4.out (Nat.le_trans (Rc.dysV_len r) (by decide))).mono ?_
  rintro e w6 ⟨rfl, hn⟩
  have hb := Below.go hb hn
  have kx := Lib.hid (keep' kx.out hn)
  have L3 := Lib.hid (Li.go L3.out hn)
  have L4 := Lib.hid (Li.go L4.out hn)
  clear hn
  obtain ⟨kx_0, kx_1, kx_2, kx_3, kx_4, kx_5, kx_6, kx_7, kx_8⟩ := blk9 kx.out
  go_wp2_with fail
  refine (fi_c (Fires_any A1 n1 c1 o r _ (HT.out _ hb) (H1.out _ hb) m1 hr)).mono ?_
  rintro e w7 ⟨A3, c3, rfl, -, -, -, hL, hn⟩
  have hb := Below.go hb hn
  have kx := Lib.hid (keep' kx.out hn)
  clear hn
  have L3 := Lib.hid hL; clear hL
  obtain ⟨kx_0, kx_1, kx_2, kx_3, kx_4, kx_5, kx_6, kx_7, kx_8⟩ := blk9 kx.out
  go_wp2_with fail
  refine (fi_c (refFires_any A1 n1 c1 o r _ (H1.out _ hb) m1 hr)).mono ?_
  rintro e w8 ⟨A4, c4, rfl, -, -, -, hL, hn⟩
  have hb := Below.go hb hn
  have kx := Lib.hid (keep' kx.out hn)
  have L3 := Lib.hid (Lp.go L3.out hn)
  clear hn
  have L4 := Lib.hid hL; clear hL
  go_wp2_with fail
  refine (same21_t A3 A4 _ c3 c4 _ _ L3.out L4.out (Nat.le_trans (Rc.fiV_len o r) (by decide))).mono ?_
  rintro e w9 ⟨rfl, hn⟩
  have hb := Below.go hb hn
  have kx := Lib.hid (keep' kx.out hn)
  have L3 := Lib.hid (Lp.go L3.out hn)
  have L4 := Lib.hid (Lp.go L4.out hn)
  clear hn
  obtain ⟨kx_0, kx_1, kx_2, kx_3, kx_4, kx_5, kx_6, kx_7, kx_8⟩ := blk9 kx.out
  go_wp2_with fail
  refine (Correct_any A1 A2 n1 c1 n2 c2 o nw r t _ (HT.out _ hb) (H1.out _ hb) (H2.out _ hb) m1 m2 hr).mono ?_
  rintro e w10 ⟨B1, k1, z1, B2, k2, z2, rfl, -, -, hL1, hL2, hn⟩
  have hb := Below.go hb hn
  have kx := Lib.hid (keep' kx.out hn)
  clear hn
  obtain rfl := hL1.1; obtain rfl := hL2.1
  have L1 := Lib.hid hL1; have L2 := Lib.hid hL2; clear hL1 hL2
  obtain ⟨kx_0, kx_1, kx_2, kx_3, kx_4, kx_5, kx_6, kx_7, kx_8⟩ := blk9 kx.out
  go_wp2_with fail
  refine (refCorrect_any A1 A2 n1 c1 n2 c2 o nw r t _ (H1.out _ hb) (H2.out _ hb) m1 m2 hr).mono ?_
  rintro e w11 ⟨B3, k3, z3, B4, k4, z4, rfl, -, -, hL3, hL4, hn⟩
  have hb := Below.go hb hn
  have kx := Lib.hid (keep' kx.out hn)
  have L1 := Lib.hid (Lp.go L1.out hn)
  have L2 := Lib.hid (Lp.go L2.out hn)
  clear hn
  obtain rfl := hL3.1; obtain rfl := hL4.1
  have L3 := Lib.hid hL3; have L4 := Lib.hid hL4; clear hL3 hL4
  go_wp2_with fail
  refine (same21_t B1 B3 _ z1 z3 _ _ L1.out L3.out (Nat.le_trans (coF_len o nw r t) (by decide))).mono ?_
  rintro e w12 ⟨rfl, hn⟩
  have hb := Below.go hb hn
  have kx := Lib.hid (keep' kx.out hn)
  have L1 := Lib.hid (Lp.go L1.out hn)
  have L2 := Lib.hid (Lp.go L2.out hn)
  have L3 := Lib.hid (Lp.go L3.out hn)
  have L4 := Lib.hid (Lp.go L4.out hn)
  clear hn
  go_wp2_with fail
  refine (same21_t B2 B4 _ z2 z4 _ _ L2.out L4.out (Nat.le_trans (coN_len o nw r t) (by decide))).mono ?_
  rintro e w13 ⟨rfl, hn⟩
  have hb := Below.go hb hn
  have kx := Lib.hid (keep' kx.out hn)
  have L1 := Lib.hid (Lp.go L1.out hn)
  have L2 := Lib.hid (Lp.go L2.out hn)
  have L3 := Lib.hid (Lp.go L3.out hn)
  have L4 := Lib.hid (Lp.go L4.out hn)
  clear hn
  go_wp2
  go_ret
  exact ⟨by simp, hb⟩
theorem matches_law (v1 : Value) (o : Lpm.LL) (v2 : Value) (nw : Lpm.LL) (v3 : Value) (r : Rec) (t : Int) (w : World) (i1 : IsTab w v1 o) (i2 : IsTab w v2 nw) (i3 : IsRc v3 r) (i4 : (Lit.int .i64 t).wf = true) (ht : Tab w) :
    Calls Tryd.prog 3 #[v1, v2, v3, .int .i64 t] w (LawPost w) := by
  obtain ⟨A1, n1, c1, rfl, -, -, -, h1⟩ := i1
  obtain ⟨A2, n2, c2, rfl, -, -, -, h2⟩ := i2
  obtain ⟨rfl, hk⟩ := i3
  by_cases m1 : n1 ≤ 110
  · by_cases m2 : n2 ≤ 110
    · cases hv : Rc.validB r
      · exact matches_notvalid A1 A2 n1 c1 n2 c2 o nw r t w ht h1 h2 (decide_eq_true m1) (decide_eq_true m2) (Lib.hid hv) m1 m2 ⟨hk, fun h => by rw [hv] at h; cases h⟩
      · have hV := (of_decide_eq_true hv : Rc.Val r).2.1
        by_cases hf : r.unt - r.frm ≤ 1200
        · exact matches_yes A1 A2 n1 c1 n2 c2 o nw r t w ht h1 h2 (decide_eq_true m1) (decide_eq_true m2) (Lib.hid hv) (by omega) (by omega) (by omega) (by omega) (decide_eq_true hf) m1 m2 ⟨hk, fun _ => hf⟩
        · exact matches_notfew A1 A2 n1 c1 n2 c2 o nw r t w ht h1 h2 (decide_eq_true m1) (decide_eq_true m2) (Lib.hid hv) (by omega) (by omega) (by omega) (by omega) (decide_eq_false hf)
    · exact matches_few2 A1 A2 n1 c1 n2 c2 o nw r t w ht h1 h2 (decide_eq_true m1) (decide_eq_false m2)
  · exact matches_few1 A1 A2 n1 c1 n2 c2 o nw r t w ht h1 h2 (decide_eq_false m1)
end Go.Proofs.YtmicbniipbcapaaDoor
