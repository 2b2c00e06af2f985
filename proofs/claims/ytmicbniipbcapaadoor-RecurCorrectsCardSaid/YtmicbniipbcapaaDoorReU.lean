/- The head of the laws of chapter 21: its examples. -/
import Derived.Test.YtmicbniipbcapaaDoorReT
import Derived.Test.YtmicbniipbcapaaDoorReMath3
set_option linter.unusedVariables false
namespace Go.Proofs.YtmicbniipbcapaaDoor
open Go.RowKit
def DLit (l : List Int) (n : Nat) (er : Int) (w : World) (e : Ending) (w' : World) : Prop := ∃ A c, e = .returned (.tuple #[.slice A n c, .int .i64 er]) ∧ Li w'.heap.size w' A n l ∧ Below w.heap.size w w'
def FLit (l : Lpm.LL) (n : Nat) (w : World) (e : Ending) (w' : World) : Prop := ∃ A c, e = .returned (.tuple #[.slice A n c, .int .i64 0]) ∧ n ≤ c ∧ c ≤ maxLen ∧ Lp w'.heap.size w' A n l ∧ Below w.heap.size w w'
theorem dl_of {r : Rec} {w : World} {l : List Int} {n : Nat} {er : Int} {f : FuncId} {args : Array Value} (h : Calls Tryd.prog f args w (DaysPost r w)) (hE : Rc.dysE r = er) (hV : Rc.dysV r = l) (hn : l.length = n) : Calls Tryd.prog f args w (DLit l n er w) :=
  h.mono fun e w' ⟨v, he, ho, hb⟩ => by
    rw [hV, hn] at ho
    obtain ⟨A, c, rfl, -, -, hL⟩ := own_li ho hn
    exact ⟨A, c, by rw [he, hE], hL, hb⟩
theorem fl_of {r : Rec} {t : Lpm.LL} {w : World} {l : Lpm.LL} {n : Nat} {f : FuncId} {args : Array Value} (h : Calls Tryd.prog f args w (FiresPost t r w)) (hE : Rc.fiE t r = 0) (hV : Rc.fiV t r = l) (hn : l.length = n) : Calls Tryd.prog f args w (FLit l n w) :=
  h.mono fun e w' ⟨v, he, ho, hb⟩ => by
    rw [hV, hn] at ho
    obtain ⟨A, c, rfl, h1, -, hL⟩ := own_lp ho hn
    exact ⟨A, c, by rw [he, hE], h1, own_cap ho, hL, hb⟩
theorem fit_r (r : Rec) (h : (Lit.int .i64 r.kind).wf = true) (hf : r.unt - r.frm ≤ 1200) : Fit21 r := ⟨h, fun _ => hf⟩
theorem li_lit {W : World} {b : Nat} {l : List Int} {n : Nat} {t : TypeId} (h : W.heap[b]? = some (.cells (cellsI l).toArray t)) (hn : l.length = n) : Li W.heap.size W (some ⟨b, 0, none⟩) n l :=
  ⟨hn, fun _ => ⟨b, 0, rfl, lt_of_heap h, fun j hj => by
    have := cellsI_at l j (by omega)
    simp [World.cell?, h, this]⟩⟩
theorem lp_lit {W : World} {b : Nat} {l : Lpm.LL} {n : Nat} {t : TypeId} (h : W.heap[b]? = some (.cells (cellsL l).toArray t)) (hn : l.length = n) : Lp W.heap.size W (some ⟨b, 0, none⟩) n l :=
  ⟨hn, fun _ => ⟨b, 0, rfl, lt_of_heap h, fun j hj => by
    obtain ⟨p, q⟩ := cellsL_at l j (by omega)
    simp [World.cell?, h, p, q]⟩⟩
theorem lp_tail {B : Nat} {W : World} {b off n : Nat} {x : Int × Int} {l : Lpm.LL} (h : Lp B W (some ⟨b, off, none⟩) (n + 1) (x :: l)) : Lp B W (some ⟨b, off + 2, none⟩) n l :=
  ⟨by simpa using h.1, fun hn => by
    obtain ⟨b', off', e, hb, hc⟩ := h.2 (by omega)
    cases e
    refine ⟨b, off + 2, rfl, hb, fun j hj => ?_⟩
    have := hc (j + 1) (by omega)
    simp only [List.getElem?_cons_succ] at this
    rw [show off + (j + 1) * 2 = off + 2 + j * 2 by omega] at this
    exact this⟩
set_option maxHeartbeats 16000000 in
set_option maxRecDepth 100000 in
theorem head_any (w : World) (ht : Tab w) : Calls Tryd.prog 10 #[] w (RetB (.bool true) w) := by
  have hb := Below.refl w.heap.size w
  have ha := Below.goN (Below.refl w.heap.size w) (.cells #[.int .i64 2, .int .i64 2, .int .i64 1, .int .i64 0, .int .i64 0, .int .i64 40, .int .i64 0, .bool false, .bool false] 24)
  have hb := Below.go hb ha
  have nb0 := Lib.hid (heap_new w (.cells #[.int .i64 2, .int .i64 2, .int .i64 1, .int .i64 0, .int .i64 0, .int .i64 40, .int .i64 0, .bool false, .bool false] 24))
  have ha := Below.goN (Below.refl (w.alloc (.cells #[.int .i64 2, .int .i64 2, .int .i64 1, .int .i64 0, .int .i64 0, .int .i64 40, .int .i64 0, .bool false, .bool false] 24)).heap.size (w.alloc (.cells #[.int .i64 2, .int .i64 2, .int .i64 1, .int .i64 0, .int .i64 0, .int .i64 40, .int .i64 0, .bool false, .bool false] 24))) (.cells #[.int .i64 3, .int .i64 1, .int .i64 0, .int .i64 31, .int .i64 0, .int .i64 130, .int .i64 0, .bool false, .bool false] 24)
  have hb := Below.go hb ha
  have nb1 := Lib.hid (heap_new (w.alloc (.cells #[.int .i64 2, .int .i64 2, .int .i64 1, .int .i64 0, .int .i64 0, .int .i64 40, .int .i64 0, .bool false, .bool false] 24)) (.cells #[.int .i64 3, .int .i64 1, .int .i64 0, .int .i64 31, .int .i64 0, .int .i64 130, .int .i64 0, .bool false, .bool false] 24))
  have nb0 := Lib.hid (keep' nb0.out ha)
  have ha := Below.goN (Below.refl ((w.alloc (.cells #[.int .i64 2, .int .i64 2, .int .i64 1, .int .i64 0, .int .i64 0, .int .i64 40, .int .i64 0, .bool false, .bool false] 24)).alloc (.cells #[.int .i64 3, .int .i64 1, .int .i64 0, .int .i64 31, .int .i64 0, .int .i64 130, .int .i64 0, .bool false, .bool false] 24)).heap.size ((w.alloc (.cells #[.int .i64 2, .int .i64 2, .int .i64 1, .int .i64 0, .int .i64 0, .int .i64 40, .int .i64 0, .bool false, .bool false] 24)).alloc (.cells #[.int .i64 3, .int .i64 1, .int .i64 0, .int .i64 31, .int .i64 0, .int .i64 130, .int .i64 0, .bool false, .bool false] 24))) (.cells #[.int .i64 4, .int .i64 1, .int .i64 4, .int .i64 (-1), .int .i64 0, .int .i64 60, .int .i64 0, .bool false, .bool false] 24)
  have hb := Below.go hb ha
  have nb2 := Lib.hid (heap_new ((w.alloc (.cells #[.int .i64 2, .int .i64 2, .int .i64 1, .int .i64 0, .int .i64 0, .int .i64 40, .int .i64 0, .bool false, .bool false] 24)).alloc (.cells #[.int .i64 3, .int .i64 1, .int .i64 0, .int .i64 31, .int .i64 0, .int .i64 130, .int .i64 0, .bool false, .bool false] 24)) (.cells #[.int .i64 4, .int .i64 1, .int .i64 4, .int .i64 (-1), .int .i64 0, .int .i64 60, .int .i64 0, .bool false, .bool false] 24))
  have nb0 := Lib.hid (keep' nb0.out ha)
  have nb1 := Lib.hid (keep' nb1.out ha)
  have r1 := nb0
  have r2 := nb1
  have r3 := nb2
  clear nb0 nb1 nb2 ha
  have HT : Hid (∀ W, Below w.heap.size w W → Tab W) := Lib.hid fun W hW => ht.below hW
  clear ht
  simp only [World.size_alloc] at r1 r2 r3
  obtain ⟨c10, c11, c12, c13, c14, c15, c16, c17, c18⟩ := blk9 r1.out
  obtain ⟨c20, c21, c22, c23, c24, c25, c26, c27, c28⟩ := blk9 r2.out
  obtain ⟨c30, c31, c32, c33, c34, c35, c36, c37, c38⟩ := blk9 r3.out
  go_enter Tryd.func10, Tryd.ntmps10
  go_wp2_with fail
  refine (dl_of (l := [10, 24, 38]) (n := 3) (er := 0) (Days_any Rc.r1 _ (HT.out _ hb) (fit_r _ (by decide) (by decide))) Rc.y1.1 Rc.y1.2 rfl).mono ?_
  rintro e w1 ⟨A1, d1, rfl, hL, hn⟩
  have hb := Below.go hb hn
  have r1 := Lib.hid (keep' r1.out hn)
  have r2 := Lib.hid (keep' r2.out hn)
  have r3 := Lib.hid (keep' r3.out hn)
  have L1 := Lib.hid hL
  clear hL hn
  obtain ⟨c20, c21, c22, c23, c24, c25, c26, c27, c28⟩ := blk9 r2.out
  obtain ⟨c30, c31, c32, c33, c34, c35, c36, c37, c38⟩ := blk9 r3.out
  go_wp2_with fail
  refine (dl_of (l := [30, 90]) (n := 2) (er := 0) (Days_any Rc.r2 _ (HT.out _ hb) (fit_r _ (by decide) (by decide))) Rc.y2.1 Rc.y2.2 rfl).mono ?_
  rintro e w2 ⟨A2, d2, rfl, hL, hn⟩
  have hb := Below.go hb hn
  have r1 := Lib.hid (keep' r1.out hn)
  have r2 := Lib.hid (keep' r2.out hn)
  have r3 := Lib.hid (keep' r3.out hn)
  have L1 := Lib.hid (Li.go L1.out hn)
  have L2 := Lib.hid hL
  clear hL hn
  obtain ⟨c30, c31, c32, c33, c34, c35, c36, c37, c38⟩ := blk9 r3.out
  go_wp2_with fail
  refine (dl_of (l := [27, 55]) (n := 2) (er := 0) (Days_any Rc.r3 _ (HT.out _ hb) (fit_r _ (by decide) (by decide))) Rc.y3.1 Rc.y3.2 rfl).mono ?_
  rintro e w3 ⟨A3, d3, rfl, hL, hn⟩
  have hb := Below.go hb hn
  have r1 := Lib.hid (keep' r1.out hn)
  have r2 := Lib.hid (keep' r2.out hn)
  have r3 := Lib.hid (keep' r3.out hn)
  have L1 := Lib.hid (Li.go L1.out hn)
  have L2 := Lib.hid (Li.go L2.out hn)
  have L3 := Lib.hid hL
  clear hL hn
  have ha := Below.goN (Below.refl w3.heap.size w3) (.cells #[.int .i64 1, .int .i64 1, .int .i64 0, .int .i64 0, .int .i64 10, .int .i64 11, .int .i64 86399, .bool false, .bool true] 24)
  have L1 := Lib.hid (Li.go L1.out ha)
  have L2 := Lib.hid (Li.go L2.out ha)
  have L3 := Lib.hid (Li.go L3.out ha)
  have hb := Below.go hb ha
  have nb0 := Lib.hid (heap_new w3 (.cells #[.int .i64 1, .int .i64 1, .int .i64 0, .int .i64 0, .int .i64 10, .int .i64 11, .int .i64 86399, .bool false, .bool true] 24))
  have ha := Below.goN (Below.refl (w3.alloc (.cells #[.int .i64 1, .int .i64 1, .int .i64 0, .int .i64 0, .int .i64 10, .int .i64 11, .int .i64 86399, .bool false, .bool true] 24)).heap.size (w3.alloc (.cells #[.int .i64 1, .int .i64 1, .int .i64 0, .int .i64 0, .int .i64 10, .int .i64 11, .int .i64 86399, .bool false, .bool true] 24))) (.cells #[.int .i64 10, .int .i64 1] 48)
  have L1 := Lib.hid (Li.go L1.out ha)
  have L2 := Lib.hid (Li.go L2.out ha)
  have L3 := Lib.hid (Li.go L3.out ha)
  have hb := Below.go hb ha
  have nb1 := Lib.hid (heap_new (w3.alloc (.cells #[.int .i64 1, .int .i64 1, .int .i64 0, .int .i64 0, .int .i64 10, .int .i64 11, .int .i64 86399, .bool false, .bool true] 24)) (.cells #[.int .i64 10, .int .i64 1] 48))
  have nb0 := Lib.hid (keep' nb0.out ha)
  have ha := Below.goN (Below.refl ((w3.alloc (.cells #[.int .i64 1, .int .i64 1, .int .i64 0, .int .i64 0, .int .i64 10, .int .i64 11, .int .i64 86399, .bool false, .bool true] 24)).alloc (.cells #[.int .i64 10, .int .i64 1] 48)).heap.size ((w3.alloc (.cells #[.int .i64 1, .int .i64 1, .int .i64 0, .int .i64 0, .int .i64 10, .int .i64 11, .int .i64 86399, .bool false, .bool true] 24)).alloc (.cells #[.int .i64 10, .int .i64 1] 48))) (.cells #[.int .i64 10, .int .i64 (-1)] 48)
  have L1 := Lib.hid (Li.go L1.out ha)
  have L2 := Lib.hid (Li.go L2.out ha)
  have L3 := Lib.hid (Li.go L3.out ha)
  have hb := Below.go hb ha
  have nb2 := Lib.hid (heap_new ((w3.alloc (.cells #[.int .i64 1, .int .i64 1, .int .i64 0, .int .i64 0, .int .i64 10, .int .i64 11, .int .i64 86399, .bool false, .bool true] 24)).alloc (.cells #[.int .i64 10, .int .i64 1] 48)) (.cells #[.int .i64 10, .int .i64 (-1)] 48))
  have nb0 := Lib.hid (keep' nb0.out ha)
  have nb1 := Lib.hid (keep' nb1.out ha)
  have r4 := nb0
  simp only [World.size_alloc] at r4 nb1 nb2
  have M1 := Lib.hid (lp_lit (l := [(10, 1)]) (n := 1) nb1.out rfl)
  have M2 := Lib.hid (lp_lit (l := [(10, -1)]) (n := 1) nb2.out rfl)
  clear nb0 nb1 nb2 ha
  obtain ⟨c40, c41, c42, c43, c44, c45, c46, c47, c48⟩ := blk9 r4.out
  have M1' := M1.out
  go_wp2_with fail
  refine (fl_of (l := [(10, 950399000000), (10, 950400000000)]) (n := 2) (Fires_any _ 1 1 [(10, 1)] Rc.r4 _ (HT.out _ hb) M1.out (by decide) (fit_r _ (by decide) (by decide))) Rc.g1.1 Rc.g1.2 rfl).mono ?_
  rintro e w5 ⟨A5, d5, rfl, hc5, hx5, hL, hn⟩
  have hb := Below.go hb hn
  have L1 := Lib.hid (Li.go L1.out hn)
  have L2 := Lib.hid (Li.go L2.out hn)
  have L3 := Lib.hid (Li.go L3.out hn)
  have r4 := Lib.hid (keep' r4.out hn)
  have M1 := Lib.hid (Lp.go M1.out hn)
  have M2 := Lib.hid (Lp.go M2.out hn)
  have L5 := Lib.hid hL
  clear hL hn M1'
  obtain ⟨c40, c41, c42, c43, c44, c45, c46, c47, c48⟩ := blk9 r4.out
  go_wp2_with fail
  refine (fl_of (l := []) (n := 0) (Fires_any _ 1 1 [(10, -1)] Rc.r4 _ (HT.out _ hb) M2.out (by decide) (fit_r _ (by decide) (by decide))) Rc.g2.1 Rc.g2.2 rfl).mono ?_
  rintro e w6 ⟨A6, d6, rfl, -, -, hL, hn⟩
  have hb := Below.go hb hn
  have L1 := Lib.hid (Li.go L1.out hn)
  have L2 := Lib.hid (Li.go L2.out hn)
  have L3 := Lib.hid (Li.go L3.out hn)
  have r4 := Lib.hid (keep' r4.out hn)
  have M1 := Lib.hid (Lp.go M1.out hn)
  have M2 := Lib.hid (Lp.go M2.out hn)
  have L5 := Lib.hid (Lp.go L5.out hn)
  clear hL hn
  obtain ⟨c40, c41, c42, c43, c44, c45, c46, c47, c48⟩ := blk9 r4.out
  go_wp2_with fail
  refine (Correct_any none _ 0 0 1 1 [] [(10, 1)] Rc.r4 0 _ (HT.out _ hb) (lp_nil _ _ _) M1.out (by decide) (by decide) (fit_r _ (by decide) (by decide))).mono ?_
  rintro e w7 ⟨G1, k1, z1, G2, k2, z2, rfl, -, -, hG1, hG2, hn⟩
  have hb := Below.go hb hn
  have L1 := Lib.hid (Li.go L1.out hn)
  have L2 := Lib.hid (Li.go L2.out hn)
  have L3 := Lib.hid (Li.go L3.out hn)
  have r4 := Lib.hid (keep' r4.out hn)
  have M1 := Lib.hid (Lp.go M1.out hn)
  have M2 := Lib.hid (Lp.go M2.out hn)
  have L5 := Lib.hid (Lp.go L5.out hn)
  rw [Rc.c1.2.1] at hG1
  rw [Rc.c1.2.2] at hG2
  rw [Rc.c1.1]
  obtain rfl : k1 = 0 := hG1.1.symm
  obtain rfl : k2 = 1 := hG2.1.symm
  have L8 := Lib.hid hG2
  clear hG1 hG2 hn
  go_wp2_with fail
  refine (dl_of (l := []) (n := 0) (er := 1) (Days_any Rc.r5 _ (HT.out _ hb) (fit_r _ (by decide) (by decide))) Rc.y5.1 Rc.y5.2 rfl).mono ?_
  rintro e w8 ⟨A9, d9, rfl, -, hn⟩
  have hb := Below.go hb hn
  have L1 := Lib.hid (Li.go L1.out hn)
  have L2 := Lib.hid (Li.go L2.out hn)
  have L3 := Lib.hid (Li.go L3.out hn)
  have r4 := Lib.hid (keep' r4.out hn)
  have M1 := Lib.hid (Lp.go M1.out hn)
  have M2 := Lib.hid (Lp.go M2.out hn)
  have L5 := Lib.hid (Lp.go L5.out hn)
  have L8 := Lib.hid (Lp.go L8.out hn)
  clear hn
  have ha := Below.goN (Below.refl w8.heap.size w8) (.cells #[.int .i64 10, .int .i64 24, .int .i64 38] tI)
  have L1 := Lib.hid (Li.go L1.out ha)
  have L2 := Lib.hid (Li.go L2.out ha)
  have L3 := Lib.hid (Li.go L3.out ha)
  have L5 := Lib.hid (Lp.go L5.out ha)
  have L8 := Lib.hid (Lp.go L8.out ha)
  have hb := Below.go hb ha
  have nb0 := Lib.hid (heap_new w8 (.cells #[.int .i64 10, .int .i64 24, .int .i64 38] tI))
  have N := Lib.hid (li_lit (l := [10, 24, 38]) (n := 3) nb0.out rfl)
  clear nb0 ha
  go_wp2_with fail
  refine (sameInts_t _ _ 3 _ _ [10, 24, 38] _ L1.out N.out (by decide)).mono ?_
  rintro e v1 ⟨rfl, hn⟩
  have hb := Below.go hb hn
  have L1 := Lib.hid (Li.go L1.out hn)
  have L2 := Lib.hid (Li.go L2.out hn)
  have L3 := Lib.hid (Li.go L3.out hn)
  have L5 := Lib.hid (Lp.go L5.out hn)
  have L8 := Lib.hid (Lp.go L8.out hn)
  clear hn N
  have ha := Below.goN (Below.refl v1.heap.size v1) (.cells #[.int .i64 30, .int .i64 90] tI)
  have L1 := Lib.hid (Li.go L1.out ha)
  have L2 := Lib.hid (Li.go L2.out ha)
  have L3 := Lib.hid (Li.go L3.out ha)
  have L5 := Lib.hid (Lp.go L5.out ha)
  have L8 := Lib.hid (Lp.go L8.out ha)
  have hb := Below.go hb ha
  have nb0 := Lib.hid (heap_new v1 (.cells #[.int .i64 30, .int .i64 90] tI))
  have N := Lib.hid (li_lit (l := [30, 90]) (n := 2) nb0.out rfl)
  clear nb0 ha
  go_wp2_with fail
  refine (sameInts_t _ _ 2 _ _ [30, 90] _ L2.out N.out (by decide)).mono ?_
  rintro e v2 ⟨rfl, hn⟩
  have hb := Below.go hb hn
  have L1 := Lib.hid (Li.go L1.out hn)
  have L2 := Lib.hid (Li.go L2.out hn)
  have L3 := Lib.hid (Li.go L3.out hn)
  have L5 := Lib.hid (Lp.go L5.out hn)
  have L8 := Lib.hid (Lp.go L8.out hn)
  clear hn N
  have ha := Below.goN (Below.refl v2.heap.size v2) (.cells #[.int .i64 27, .int .i64 55] tI)
  have L1 := Lib.hid (Li.go L1.out ha)
  have L2 := Lib.hid (Li.go L2.out ha)
  have L3 := Lib.hid (Li.go L3.out ha)
  have L5 := Lib.hid (Lp.go L5.out ha)
  have L8 := Lib.hid (Lp.go L8.out ha)
  have hb := Below.go hb ha
  have nb0 := Lib.hid (heap_new v2 (.cells #[.int .i64 27, .int .i64 55] tI))
  have N := Lib.hid (li_lit (l := [27, 55]) (n := 2) nb0.out rfl)
  clear nb0 ha
  go_wp2_with fail
  refine (sameInts_t _ _ 2 _ _ [27, 55] _ L3.out N.out (by decide)).mono ?_
  rintro e v3 ⟨rfl, hn⟩
  have hb := Below.go hb hn
  have L1 := Lib.hid (Li.go L1.out hn)
  have L2 := Lib.hid (Li.go L2.out hn)
  have L3 := Lib.hid (Li.go L3.out hn)
  have L5 := Lib.hid (Lp.go L5.out hn)
  have L8 := Lib.hid (Lp.go L8.out hn)
  clear hn N
  have ha := Below.goN (Below.refl v3.heap.size v3) (.cells #[.int .i64 10, .int .i64 950399000000, .int .i64 10, .int .i64 950400000000] tF)
  have L5 := Lib.hid (Lp.go L5.out ha)
  have L8 := Lib.hid (Lp.go L8.out ha)
  have hb := Below.go hb ha
  have nb0 := Lib.hid (heap_new v3 (.cells #[.int .i64 10, .int .i64 950399000000, .int .i64 10, .int .i64 950400000000] tF))
  have N := Lib.hid (lp_lit (l := [(10, 950399000000), (10, 950400000000)]) (n := 2) nb0.out rfl)
  clear nb0 ha
  go_wp2_with fail
  refine (same21_t _ _ 2 _ _ [(10, 950399000000), (10, 950400000000)] _ L5.out N.out (by decide)).mono ?_
  rintro e v4 ⟨rfl, hn⟩
  have hb := Below.go hb hn
  have L5 := Lib.hid (Lp.go L5.out hn)
  have L8 := Lib.hid (Lp.go L8.out hn)
  clear hn N
  obtain ⟨b5, o5, hA5, -, -⟩ := L5.out.2 (by decide)
  subst hA5
  have L9 := Lib.hid (lp_tail L5.out)
  have i1 : (1 : Int) ≤ 2 := by decide
  have i2 : (2 : Int) ≤ (d5 : Int) := by omega
  have i3 : ¬ (d5 = 1) := by omega
  unfold maxLen at hx5
  go_wp2_with fail
  refine (same21_t _ _ 1 _ _ [(10, 950400000000)] _ L8.out L9.out (by decide)).mono ?_
  rintro e v5 ⟨rfl, hn⟩
  have hb := Below.go hb hn
  have L5 := Lib.hid (Lp.go L5.out hn)
  have L8 := Lib.hid (Lp.go L8.out hn)
  go_wp2
  go_ret
  exact ⟨by simp, hb⟩
end Go.Proofs.YtmicbniipbcapaaDoor
