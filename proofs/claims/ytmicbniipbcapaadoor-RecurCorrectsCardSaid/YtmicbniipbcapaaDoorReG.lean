/- The reference's Days; and SameInts. -/
import Derived.Test.YtmicbniipbcapaaDoorReF
set_option linter.unusedVariables false
namespace Go.Proofs.YtmicbniipbcapaaDoor
open Go.RowKit
theorem has_any (r : Rec) (hV : Rc.Val r) (d : Int) (w : World) (h0 : r.frm ≤ d) (h1 : d ≤ 34000) : Calls Tryd.prog 31 #[(.agg #[.int .i64 r.kind, .int .i64 r.every, .int .i64 r.wd, .int .i64 r.nth, .int .i64 r.frm, .int .i64 r.unt, .int .i64 r.sec, .bool r.shift, .bool r.both]), .int .i64 d] w (RetB (.bool (Rc.hasB r d)) w) := by
  rcases kind_cases hV with h | h | h | h
  · exact has1_any r hV h d w h0 h1
  · exact has2_any r hV h d w h0 h1
  · exact has3_any r hV h d w h0 h1
  · exact has4_any r hV h d w h0 h1
set_option maxHeartbeats 2000000 in
set_option maxRecDepth 100000 in
theorem refDays_no (r : Rec) (w : World) (hv : Rc.validB r = false) : Calls Tryd.prog 15 #[(.agg #[.int .i64 r.kind, .int .i64 r.every, .int .i64 r.wd, .int .i64 r.nth, .int .i64 r.frm, .int .i64 r.unt, .int .i64 r.sec, .bool r.shift, .bool r.both])] w (DaysPost r w) := by
  have HP := Lib.hid (Rc.dys_no hv)
  have HC := Lib.hid (refValid21_any r (w.alloc (.cells #[.int .i64 r.kind, .int .i64 r.every, .int .i64 r.wd, .int .i64 r.nth, .int .i64 r.frm, .int .i64 r.unt, .int .i64 r.sec, .bool r.shift, .bool r.both] 24)))
  rw [hv] at HC
  go_enter Tryd.func15, Tryd.ntmps15
  go_wp2_with (go_at_call 12; refine HC.out.mono ?_; rintro e w1 ⟨rfl, hb1⟩)
  have hb2 := Below.goA (Below.refl w.heap.size w) hb1
  go_wp2
  go_ret2
  exact days_post HP.out.1 HP.out.2 rfl own_nil hb2
set_option maxHeartbeats 2000000 in
set_option maxRecDepth 100000 in
theorem refDays_yes (r : Rec) (w : World) (hv : Rc.validB r = true) (hf : r.unt - r.frm ≤ 1200) : Calls Tryd.prog 15 #[(.agg #[.int .i64 r.kind, .int .i64 r.every, .int .i64 r.wd, .int .i64 r.nth, .int .i64 r.frm, .int .i64 r.unt, .int .i64 r.sec, .bool r.shift, .bool r.both])] w (DaysPost r w) := by
  have hV : Rc.Val r := of_decide_eq_true hv
  obtain ⟨-, ⟨f1, f2, f3⟩, -, -⟩ := id hV
  have HV := Lib.hid hV
  have HC := Lib.hid (refValid21_any r (w.alloc (.cells #[.int .i64 r.kind, .int .i64 r.every, .int .i64 r.wd, .int .i64 r.nth, .int .i64 r.frm, .int .i64 r.unt, .int .i64 r.sec, .bool r.shift, .bool r.both] 24)))
  rw [hv] at HC
  have Hv := Lib.hid hv
  clear hV hv
  obtain ⟨i0, hi, hz0, hz1, hz2⟩ := info_parts infoI
  have kx := Lib.hid (heap_new w (.cells #[.int .i64 r.kind, .int .i64 r.every, .int .i64 r.wd, .int .i64 r.nth, .int .i64 r.frm, .int .i64 r.unt, .int .i64 r.sec, .bool r.shift, .bool r.both] 24))
  obtain ⟨M, hM⟩ : ∃ M : Nat, (r.unt - r.frm).toNat = M := ⟨_, rfl⟩
  have hMq : (M : Int) = r.unt - r.frm := by omega
  have HMq := Lib.hid hMq
  have HD : Hid (Rc.daysTo r M = Rc.days r) := Lib.hid (by rw [← hM]; rfl)
  clear hM hMq
  go_enter Tryd.func15, Tryd.ntmps15
  go_wp2_with (go_at_call 12; refine HC.out.mono ?_; rintro e w1 ⟨rfl, hb1⟩; obtain ⟨-, -, -, -, c4, c5, -⟩ := blk9 (keep' kx.out hb1))
  have hb := Below.goA (Below.refl w.heap.size w) hb1
  have kx := Lib.hid (keep' kx.out hb1)
  clear hb1 HC
  go_loopw [4, 5] (fun v i wr => ∃ (k : Nat) (A : Option Addr) (n c : Nat), k ≤ M ∧ i = .int .i64 (r.frm + k) ∧ v = .slice A n c ∧ Hid ((Rc.daysTo r k).length = n) ∧ n ≤ 1000 ∧ Hid (wr.ownsRow w1.heap.size tI 1 (.slice A n c) n (cellsI (Rc.daysTo r k))) ∧ Below w1.heap.size w1 wr) (fun _ i _ => (r.unt - intOf i).toNat)
  case atStart => exact ⟨0, none, 0, 0, Nat.zero_le _, by simp, rfl, Lib.hid rfl, by omega, Lib.hid own_nil, Below.refl _ _⟩
  case round =>
    obtain ⟨k, A, n, c, hk, rfl, rfl, hn, hn1, hown, hbr⟩ := hrel
    have hMq := HMq.out
    by_cases hlt : k < M
    · obtain ⟨d, hd⟩ : ∃ d, r.frm + (k : Int) = d := ⟨_, rfl⟩
      have hd0 : r.frm ≤ d := by omega
      have hd1 : d < r.unt := by omega
      have hd2 : r.frm + ((k + 1 : Nat) : Int) = d + 1 := by omega
      have HD2 := Lib.hid hd2
      rw [hd]
      obtain ⟨d0, d1, d2, d3, d4, d5, d6, d7, d8⟩ := blk9 (keep' kx.out hbr)
      have HH := Lib.hid (has_any r HV.out d wr hd0 (by omega))
      have hs := Rc.daysTo_succ r k
      rw [hd] at hs
      clear hd hd2 hMq
      cases hB : Rc.hasB r d
      · have HS : Hid (Rc.daysTo r (k + 1) = Rc.daysTo r k) := Lib.hid (by rw [hs, hB]; simp)
        rw [hB] at HH
        clear hs hB
        go_wp2_with fail
        refine HH.out.mono ?_
        rintro e w2 ⟨rfl, hb2⟩
        have hb3 := Below.go hbr hb2
        have ho3 := Lib.hid (own_below hown.out hb2)
        clear hb2
        go_wp2
        go_roundw
        case rel => exact ⟨k + 1, A, n, c, by omega, by rw [HD2.out], rfl, by rw [HS.out]; exact hn, hn1, by rw [HS.out]; exact ho3, hb3⟩
        case measure => simp [intOf]; omega
      · have HS : Hid (Rc.daysTo r (k + 1) = Rc.daysTo r k ++ [d]) := Lib.hid (by rw [hs, hB]; simp)
        rw [hB] at HH
        clear hs hB
        go_wp2_with fail
        refine HH.out.mono ?_
        rintro e w2 ⟨rfl, hb2⟩
        have hb3 := Below.go hbr hb2
        have ho2 := Lib.hid (own_below hown.out hb2)
        have hbx := Below.goN hb3 (.cells #[.int .i64 d] tI)
        clear hb2
        go_wp2_with (at_builtin; refine wpList_append_own_at _ rfl _ _ 28 rfl w1.heap.size tI i0 (.int .i64 0) 1 8 Tryd.underlying28 hi hz0 hz1 hz2 rfl (by decide) _ n (cellsI (Rc.daysTo r k)) rfl (ho2.out.alloc _) ⟨w2.heap.size, 0, none⟩ 1 1 [.int .i64 d] rfl rfl (World.news_of_block (heap_new w2 _)) (by simp [Value.oneCell']) (by unfold maxLen; omega) (by omega) (by have := hb3.size; simp; omega) ?_; intro v' w3 hown' hgrow _ _)
        have ho3 : w3.ownsRow w1.heap.size tI 1 v' (n + 1) (cellsI (Rc.daysTo r (k + 1))) := by rw [HS.out, cellsI_app]; exact hown'
        have hn3 : Hid ((Rc.daysTo r (k + 1)).length = n + 1) := Lib.hid (by rw [HS.out, List.length_append, hn.out]; rfl)
        have hb4 := Below.grown hbx hgrow (by have := hb3.size; simp; omega) (fun g hg => (ho2.out.lt g hg).1)
        obtain ⟨A', c', rfl, -, -, -⟩ := own_li ho3 hn3.out
        have HO := Lib.hid ho3
        clear ho3 hown' hgrow hbx
        by_cases hbig : 1000 < n + 1
        · have hlen : Hid (1000 < (Rc.days r).length) := Lib.hid (by have := Rc.daysTo_pre r (k := k + 1) (m := M) (by omega); rw [hn3.out] at this; rw [← HD.out]; omega)
          have HP := Lib.hid (Rc.dys_far Hv.out hlen.out)
          have hbig2 : (1000 : Int) < (n : Int) + 1 := by omega
          have hbig6 : decide (1000 < (n : Int) + 1) = true := by simpa using hbig2
          have hbig7 : decide (1000 < n + 1) = true := by simpa using hbig
          go_wp2_with fail
          simp only [len_ints, Result.andThen_ok]
          go_wp2
          go_ret2
          exact days_post HP.out.1 HP.out.2 rfl own_nil (Below.go hb hb4)
        · have hbig2 : ¬ ((1000 : Int) < (n : Int) + 1) := by omega
          go_wp2
          go_roundw
          case rel => exact ⟨k + 1, A', n + 1, c', by omega, by rw [HD2.out], rfl, hn3, by omega, HO, hb4⟩
          case measure => simp [intOf]; omega
    · obtain rfl : k = M := by omega
      have hge : ¬ (r.frm + (k : Int) < r.unt) := by omega
      have HP : Hid (Rc.dysE r = 0 ∧ Rc.dysV r = Rc.days r) := Lib.hid (Rc.dys_yes Hv.out (by rw [← HD.out, hn.out]; omega))
      obtain ⟨d0, d1, d2, d3, d4, d5, d6, d7, d8⟩ := blk9 (keep' kx.out hbr)
      clear hMq
      go_wp2
      go_ret2
      exact days_post HP.out.1 (HP.out.2.trans HD.out.symm) hn.out (own_base hown.out hb.size) (Below.go hb hbr)
theorem sameI_step {a b : List Int} {n k : Nat} (ha : a.length = n) (hb : b.length = n) (hk : k < n) : a.take (k + 1) = a.take k ++ [a[k]?.getD 0] ∧ b.take (k + 1) = b.take k ++ [b[k]?.getD 0] := by
  constructor
  · rw [List.take_succ_eq_append_getElem (by omega)]; simp [show k < a.length by omega]
  · rw [List.take_succ_eq_append_getElem (by omega)]; simp [show k < b.length by omega]

set_option maxHeartbeats 2000000 in
set_option maxRecDepth 100000 in
theorem sameInts_t (A A' : Option Addr) (n c c' : Nat) (l : List Int) (w : World) (h1 : Li w.heap.size w A n l) (h2 : Li w.heap.size w A' n l) (hn : n ≤ 100000) :
    Calls Tryd.prog 16 #[.slice A n c, .slice A' n c'] w (RetB (.bool true) w) := by
  have H1 := Lib.hid h1
  have H2 := Lib.hid h2
  clear h1 h2
  go_enter Tryd.func16, Tryd.ntmps16
  go_wp2
  go_loopw [5] (fun i wr => ∃ k : Nat, k ≤ n ∧ i = .int .i64 k ∧ Below w.heap.size w wr) (fun i _ => n - (intOf i).toNat)
  case atStart => exact ⟨0, Nat.zero_le _, rfl, Below.refl _ _⟩
  case round =>
    obtain ⟨k, hk, rfl, hb⟩ := hrel
    by_cases hlt : k < n
    · obtain ⟨b, off, rfl, hB, hc⟩ := H1.out.2 (by omega)
      obtain ⟨b', off', rfl, hB', hc'⟩ := H2.out.2 (by omega)
      have c0 := (hb.cell (p := ⟨b, off + k, none⟩) hB).trans (hc k hlt)
      have c1 := (hb.cell (p := ⟨b', off' + k, none⟩) hB').trans (hc' k hlt)
      clear hc hc'
      generalize l[k]?.getD 0 = x at *
      have i0 : (0 : Int) ≤ (k : Int) := by omega
      have i1 : (k : Int) < (n : Int) := by omega
      go_wp2
      go_quiet (fail)
      go_wp2
      go_roundw
      case rel => exact ⟨k + 1, by omega, by go_num, below_drewN hb _⟩
      case measure => simp [intOf]; omega
    · obtain rfl : k = n := by omega
      go_wp2
      go_ret
      exact ⟨rfl, hb⟩
end Go.Proofs.YtmicbniipbcapaaDoor
