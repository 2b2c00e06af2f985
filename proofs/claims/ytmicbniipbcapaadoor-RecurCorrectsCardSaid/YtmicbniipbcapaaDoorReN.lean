/- The reference's Correct, and Same. -/
import Derived.Test.YtmicbniipbcapaaDoorReM
set_option linter.unusedVariables false
namespace Go.Proofs.YtmicbniipbcapaaDoor
open Go.RowKit
theorem Fires_any (A : Option Addr) (n c : Nat) (l : Lpm.LL) (r : Rec) (w : World) (ht : Tab w) (hl : Lp w.heap.size w A n l) (hn : n ≤ 110) (hr : Fit21 r) :
    Calls Tryd.prog 17 #[.slice A n c, (.agg #[.int .i64 r.kind, .int .i64 r.every, .int .i64 r.wd, .int .i64 r.nth, .int .i64 r.frm, .int .i64 r.unt, .int .i64 r.sec, .bool r.shift, .bool r.both])] w (FiresPost l r w) := by
  cases hv : Lpm.valid l
  · exact Fires_bad A n c l r w hl hn hv
  · by_cases hE : Rc.dysE r = 0
    · exact Fires_yes A n c l r w ht hl hn hv hr hE
    · exact Fires_err A n c l r w ht hl hn hv hr hE
theorem refFires_any (A : Option Addr) (n c : Nat) (l : Lpm.LL) (r : Rec) (w : World) (hl : Lp w.heap.size w A n l) (hn : n ≤ 110) (hr : Fit21 r) :
    Calls Tryd.prog 18 #[.slice A n c, (.agg #[.int .i64 r.kind, .int .i64 r.every, .int .i64 r.wd, .int .i64 r.nth, .int .i64 r.frm, .int .i64 r.unt, .int .i64 r.sec, .bool r.shift, .bool r.both])] w (FiresPost l r w) := by
  cases hv : Lpm.valid l
  · exact refFires_bad A n c l r w hl hn hv
  · by_cases hE : Rc.dysE r = 0
    · exact refFires_yes A n c l r w hl hn hv hr hE
    · exact refFires_err A n c l r w hl hn hv hr hE
theorem takeL_snoc {l : Lpm.LL} {k n : Nat} (h : l.length = n) (hk : k < n) : l.take (k + 1) = l.take k ++ [l[k]?.getD (0, 0)] := by
  rw [List.take_succ_eq_append_getElem (by omega)]; simp [show k < l.length by omega]
set_option maxHeartbeats 2000000 in
set_option maxRecDepth 100000 in
theorem same21_t (A A' : Option Addr) (n c c' : Nat) (l : Lpm.LL) (w : World) (h1 : Lp w.heap.size w A n l) (h2 : Lp w.heap.size w A' n l) (hn : n ≤ 100000) :
    Calls Tryd.prog 19 #[.slice A n c, .slice A' n c'] w (RetB (.bool true) w) := by
  have H1 := Lib.hid h1
  have H2 := Lib.hid h2
  clear h1 h2
  go_enter Tryd.func19, Tryd.ntmps19
  go_wp2
  go_loopw [5] (fun i wr => ∃ k : Nat, k ≤ n ∧ i = .int .i64 k ∧ Below w.heap.size w wr) (fun i _ => n - (intOf i).toNat)
  case atStart => exact ⟨0, Nat.zero_le _, rfl, Below.refl _ _⟩
  case round =>
    obtain ⟨k, hk, rfl, hb⟩ := hrel
    by_cases hlt : k < n
    · obtain ⟨b, off, rfl, hB, hc⟩ := H1.out.2 (by omega)
      obtain ⟨b', off', rfl, hB', hc'⟩ := H2.out.2 (by omega)
      have c0 := (hb.cell (p := ⟨b, off + k * 2, none⟩) hB).trans (hc k hlt).1
      have c1 := (hb.cell (p := ⟨b, off + k * 2 + 1, none⟩) hB).trans (hc k hlt).2
      have d0 := (hb.cell (p := ⟨b', off' + k * 2, none⟩) hB').trans (hc' k hlt).1
      have d1 := (hb.cell (p := ⟨b', off' + k * 2 + 1, none⟩) hB').trans (hc' k hlt).2
      clear hc hc'
      obtain ⟨x, y, hx⟩ : ∃ x y, l[k]?.getD (0, 0) = (x, y) := ⟨_, _, rfl⟩
      rw [hx] at c0 c1 d0 d1
      clear hx
      have i0 : (0 : Int) ≤ (k : Int) := by omega
      have i1 : (k : Int) < (n : Int) := by omega
      go_wp2
      go_quiet (fail)
      go_wp2
      go_roundw
      case rel => exact ⟨k + 1, by omega, by go_num, below_drewN hb _⟩
      case measure => simp [intOf]; omega
    · obtain rfl : k = n := by omega
      go_wp2
      go_ret
      exact ⟨rfl, hb⟩
theorem cont_yes {l : Lpm.LL} {k n : Nat} {x : Int × Int} (h : l.length = n) (hk : k < n) (hx : l[k]?.getD (0, 0) = x) : l.contains x = true := by
  rw [List.contains_iff_mem, ← hx, List.getElem?_eq_getElem (by omega)]
  exact List.getElem_mem _
theorem cont_no {l : Lpm.LL} {n : Nat} {x : Int × Int} (h : l.length = n) (hx : ∀ k, k < n → l[k]?.getD (0, 0) ≠ x) : l.contains x = false := by
  rw [Bool.eq_false_iff, Ne, List.contains_iff_mem]
  intro hm
  obtain ⟨i, hi, e⟩ := List.getElem_of_mem hm
  exact hx i (by omega) (by rw [List.getElem?_eq_getElem hi]; exact e)
set_option maxHeartbeats 2000000 in
set_option maxRecDepth 100000 in
theorem has21_any (A : Option Addr) (n c : Nat) (l : Lpm.LL) (x y : Int) (w : World) (hl : Lp w.heap.size w A n l) (hn : n ≤ 100000) :
    Calls Tryd.prog 67 #[.slice A n c, .agg #[.int .i64 x, .int .i64 y]] w (RetB (.bool (l.contains (x, y))) w) := by
  have H1 := Lib.hid (fun W (hW : Below w.heap.size w W) => hl.go hW)
  have HLen := Lib.hid hl.1
  have kx := Lib.hid (heap_new w (.cells #[.int .i64 x, .int .i64 y] tF))
  have hb0 := Below.goN (Below.refl w.heap.size w) (.cells #[.int .i64 x, .int .i64 y] tF)
  clear hl
  go_enter Tryd.func67, Tryd.ntmps67
  go_wp2
  generalize w.alloc (.cells #[.int .i64 x, .int .i64 y] tF) = w1 at *
  go_loopw [5] (fun i wr => ∃ k : Nat, k ≤ n ∧ i = .int .i64 k ∧ Below w1.heap.size w1 wr ∧ Hid (∀ j, j < k → l[j]?.getD (0, 0) ≠ (x, y))) (fun i _ => n - (intOf i).toNat)
  case atStart => exact ⟨0, Nat.zero_le _, rfl, Below.refl _ _, Lib.hid (fun j h => by omega)⟩
  case round =>
    obtain ⟨k, hk, rfl, hb, hno⟩ := hrel
    by_cases hlt : k < n
    · obtain ⟨b, off, rfl, hB, hc⟩ := (H1.out _ (Below.go hb0 hb)).2 (by omega)
      obtain ⟨c0, c1⟩ := hc k hlt
      obtain ⟨⟨e0, e1⟩, -⟩ := blk2 (keep' kx.out hb)
      clear hc
      obtain ⟨d, t, hx⟩ : ∃ d t, l[k]?.getD (0, 0) = (d, t) := ⟨_, _, rfl⟩
      rw [hx] at c0 c1
      have HX := Lib.hid hx
      clear hx
      have i0 : (0 : Int) ≤ (k : Int) := by omega
      have i1 : (k : Int) < (n : Int) := by omega
      cases h1 : (d == x)
      · have HN : Hid (∀ j, j < k + 1 → l[j]?.getD (0, 0) ≠ (x, y)) := Lib.hid fun j hj => by
          by_cases e : j = k
          · subst e; rw [HX.out]; intro e; cases e; simp at h1
          · exact hno.out j (by omega)
        go_wp2
        go_quiet (fail)
        go_wp2
        go_roundw
        case rel => exact ⟨k + 1, by omega, by go_num, below_drewN hb _, HN⟩
        case measure => simp [intOf]; omega
      · cases h2 : (t == y)
        · have HN : Hid (∀ j, j < k + 1 → l[j]?.getD (0, 0) ≠ (x, y)) := Lib.hid fun j hj => by
            by_cases e : j = k
            · subst e; rw [HX.out]; intro e; cases e; simp at h2
            · exact hno.out j (by omega)
          go_wp2
          go_quiet (fail)
          go_wp2
          go_roundw
          case rel => exact ⟨k + 1, by omega, by go_num, below_drewN hb _, HN⟩
          case measure => simp [intOf]; omega
        · have HY : Hid (l.contains (x, y) = true) := Lib.hid (by
            have e1 : d = x := by simpa using h1
            have e2 : t = y := by simpa using h2
            exact cont_yes HLen.out hlt (by rw [HX.out, e1, e2]))
          go_wp2
          go_quiet (fail)
          go_wp2
          go_ret
          exact ⟨ret_bool HY.out.symm, below_drewN (Below.go hb0 hb) _⟩
    · obtain rfl : k = n := by omega
      have HY : Hid (l.contains (x, y) = false) := Lib.hid (cont_no HLen.out hno.out)
      go_wp2
      go_ret
      exact ⟨ret_bool HY.out.symm, Below.go hb0 hb⟩
end Go.Proofs.YtmicbniipbcapaaDoor
