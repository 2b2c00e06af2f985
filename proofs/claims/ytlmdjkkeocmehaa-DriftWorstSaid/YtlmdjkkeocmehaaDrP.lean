/- The contracts of the reference's functions of chapter 7: the same plain values; nothing that was there has changed. -/
import Derived.Test.YtlmdjkkeocmehaaDrO
import Derived.Test.YtlmdjkkeocmehaaDrTab3
import Derived.Test.YtlmdjkkeocmehaaScS
set_option linter.unusedVariables false
namespace Go.Proofs.Ytlmdjkkeocmehaa
open Go.RowKit
theorem rBound_any (v : Int) (w : World) : Calls Try.prog 35 #[.int .i64 v] w (Ret (.bool (Drm.rB v)) w) := by
  go_enter Try.func35, Try.ntmps35
  go_wp2
  all_goals go_ret
  all_goals exact ⟨ret_bool (by unfold Drm.rB; rw [Bool.eq_iff_iff]; simp; try omega), rfl⟩
theorem rStretch_any (v : Int) (w : World) : Calls Try.prog 39 #[.int .i64 v] w (Ret (.bool (Drm.sB v)) w) := by
  go_enter Try.func39, Try.ntmps39
  go_wp2
  all_goals go_ret
  all_goals exact ⟨ret_bool (by unfold Drm.sB; rw [Bool.eq_iff_iff]; simp; try omega), rfl⟩
set_option maxHeartbeats 2000000 in
set_option maxRecDepth 100000 in
theorem rElapsed_any (r n : Int) (w : World) : Calls Try.prog 18 #[.int .i64 r, .int .i64 n] w (RetB (.tuple #[I2 (Drm.eLo r n) (Drm.eHi r n), .int .i64 (Drm.eE r n)]) w) := by
  have hb0 : Below w.heap.size w (w.alloc (.cells #[.int .i64 0, .int .i64 0] 27)) := (Below.refl _ _).alloc (Nat.le_refl _) _
  cases h : Drm.okE r n
  · have hz := Lib.hid (Drm.okE_no h)
    rcases okE_ways h with h1 | ⟨h1, h2⟩
    all_goals
      clear h
      go_enter Try.func18, Try.ntmps18
      go_wp2_with (first | (go_at_call 35; refine (rBound_any _ _).mono ?_; rintro e w' ⟨rfl, rfl⟩) | (go_at_call 39; refine (rStretch_any _ _).mono ?_; rintro e w' ⟨rfl, rfl⟩))
      exact bodyPost_ret (v := .tuple #[I2 0 0, .int .i64 1]) (by simp [results, Try.results18, go_sem]) rfl ⟨ret_i2 hz.out.2.1.symm hz.out.2.2.1.symm hz.out.1.symm, by (repeat (with_reducible first | exact hb0 | exact Below.refl _ _ | refine Below.drew ?_ | refine Below.setCell ?_ ?_ _ | refine Below.alloc ?_ ?_ _)); all_goals simp⟩
  obtain ⟨⟨r1, r2⟩, n1, n2⟩ := Drm.okE_bd h
  have hz := Lib.hid (Drm.okE_yes h)
  have b1 := Drm.rB_yes ⟨r1, r2⟩
  have b2 := Drm.sB_yes ⟨n1, n2⟩
  have hbd := Drm.el_bd r1 r2 n1
  have o1 := okB_yes (a := n - 1) (n := 1000000000) (d := 1000000000 + r) ⟨by omega, by omega, by omega, by omega, by omega, by omega⟩
  have o2 := okB_yes (a := n + 1) (n := 1000000000) (d := 1000000000 - r) ⟨by omega, by omega, by omega, by omega, by omega, by omega⟩
  have l1 := Drm.el_lo (n := n) r1
  have l2 := Drm.el_hi (n := n) r1 r2
  obtain ⟨f1, f2⟩ := Scm.r_yes (v := Scm.sF (n - 1) 1000000000 (1000000000 + r)) o1 (isT_yes (by omega))
  obtain ⟨g1, g2⟩ := Scm.r_yes (v := Scm.sC (n + 1) 1000000000 (1000000000 - r)) o2 (isT_yes (by omega))
  rw [show Scm.sF (n - 1) 1000000000 (1000000000 + r) = Drm.elLo r n - 1 by omega] at f1 f2
  rw [show Scm.sC (n + 1) 1000000000 (1000000000 - r) = Drm.elHi r n + 1 by omega] at g1 g2
  have k1 : Scm.sF (n - 1) 1000000000 (1000000000 + r) = Drm.elLo r n - 1 := by omega
  have k2 : Scm.sC (n + 1) 1000000000 (1000000000 - r) = Drm.elHi r n + 1 := by omega
  clear o1 o2 l1 l2 h
  generalize Drm.elLo r n = L at *
  generalize Drm.elHi r n = H at *
  by_cases hp : 0 < n
  · go_enter Try.func18, Try.ntmps18
    go_wp2_with (first | (go_at_call 35; refine (rBound_any _ _).mono ?_; rintro e w' ⟨rfl, rfl⟩) | (go_at_call 39; refine (rStretch_any _ _).mono ?_; rintro e w' ⟨rfl, rfl⟩) | (go_at_call 40; refine (rFloor_any _ _ _ _).mono ?_; rintro e w1 ⟨rfl, hb1⟩) | (go_at_call 41; refine (rCeil_any _ _ _ _).mono ?_; rintro e w2 ⟨rfl, hb2⟩; have hbase := Below.go (Below.go hb0 hb1) hb2; obtain ⟨⟨c0, c1⟩, d0, d1⟩ := blk2 (keep' (keep' (heap_new w _) hb1) hb2)))
    exact bodyPost_ret (v := .tuple #[I2 L H, .int .i64 0]) (by simp [results, Try.results18, go_sem, c0, c1]) rfl ⟨ret_i2 hz.out.2.1.symm hz.out.2.2.1.symm hz.out.1.symm, by (repeat (with_reducible first | exact hbase | refine Below.drew ?_ | refine Below.setCell ?_ ?_ _)); all_goals simp⟩
  · obtain rfl : L = 0 := by omega
    go_enter Try.func18, Try.ntmps18
    go_wp2_with (first | (go_at_call 35; refine (rBound_any _ _).mono ?_; rintro e w' ⟨rfl, rfl⟩) | (go_at_call 39; refine (rStretch_any _ _).mono ?_; rintro e w' ⟨rfl, rfl⟩) | (go_at_call 41; refine (rCeil_any _ _ _ _).mono ?_; rintro e w2 ⟨rfl, hb2⟩; have hbase := Below.go hb0 hb2; obtain ⟨⟨c0, c1⟩, d0, d1⟩ := blk2 (keep' (heap_new w _) hb2)))
    exact bodyPost_ret (v := .tuple #[I2 0 H, .int .i64 0]) (by simp [results, Try.results18, go_sem, c0, c1]) rfl ⟨ret_i2 hz.out.2.1.symm hz.out.2.2.1.symm hz.out.1.symm, by (repeat (with_reducible first | exact hbase | refine Below.drew ?_ | refine Below.setCell ?_ ?_ _)); all_goals simp⟩
set_option maxHeartbeats 2000000 in
set_option maxRecDepth 100000 in
theorem rCounts_any (r n : Int) (w : World) : Calls Try.prog 20 #[.int .i64 r, .int .i64 n] w (RetB (.tuple #[I2 (Drm.cLo r n) (Drm.cHi r n), .int .i64 (Drm.eE r n)]) w) := by
  have hb0 : Below w.heap.size w (w.alloc (.cells #[.int .i64 0, .int .i64 0] 27)) := (Below.refl _ _).alloc (Nat.le_refl _) _
  cases h : Drm.okE r n
  · have hz := Lib.hid (Drm.okE_no h)
    rcases okE_ways h with h1 | ⟨h1, h2⟩
    all_goals
      clear h
      go_enter Try.func20, Try.ntmps20
      go_wp2_with (first | (go_at_call 35; refine (rBound_any _ _).mono ?_; rintro e w' ⟨rfl, rfl⟩) | (go_at_call 39; refine (rStretch_any _ _).mono ?_; rintro e w' ⟨rfl, rfl⟩))
      exact bodyPost_ret (v := .tuple #[I2 0 0, .int .i64 1]) (by simp [results, Try.results20, go_sem]) rfl ⟨ret_i2 hz.out.2.2.2.1.symm hz.out.2.2.2.2.symm hz.out.1.symm, by (repeat (with_reducible first | exact hb0 | exact Below.refl _ _ | refine Below.drew ?_ | refine Below.setCell ?_ ?_ _ | refine Below.alloc ?_ ?_ _)); all_goals simp⟩
  obtain ⟨⟨r1, r2⟩, n1, n2⟩ := Drm.okE_bd h
  have hz := Lib.hid (Drm.okE_yes h)
  have b1 := Drm.rB_yes ⟨r1, r2⟩
  have b2 := Drm.sB_yes ⟨n1, n2⟩
  have hbd := Drm.co_bd r1 r2 n1
  have o1 := okB_yes (a := n) (n := 1000000000 - r) (d := 1000000000) ⟨by omega, by omega, by omega, by omega, by omega, by omega⟩
  have o2 := okB_yes (a := n) (n := 1000000000 + r) (d := 1000000000) ⟨by omega, by omega, by omega, by omega, by omega, by omega⟩
  have k1 := Drm.co_lo (r := r) (e := n)
  have k2 := Drm.co_hi (r := r) (e := n)
  obtain ⟨f1, f2⟩ := Scm.r_yes (v := Scm.sF n (1000000000 - r) 1000000000) o1 (isT_yes (by omega))
  obtain ⟨g1, g2⟩ := Scm.r_yes (v := Scm.sC n (1000000000 + r) 1000000000) o2 (isT_yes (by omega))
  rw [k1] at f1 f2
  rw [k2] at g1 g2
  clear o1 o2 h
  generalize Drm.coLo r n = L at *
  generalize Drm.coHi r n = H at *
  go_enter Try.func20, Try.ntmps20
  go_wp2_with (first | (go_at_call 35; refine (rBound_any _ _).mono ?_; rintro e w' ⟨rfl, rfl⟩) | (go_at_call 39; refine (rStretch_any _ _).mono ?_; rintro e w' ⟨rfl, rfl⟩) | (go_at_call 40; refine (rFloor_any _ _ _ _).mono ?_; rintro e w1 ⟨rfl, hb1⟩) | (go_at_call 41; refine (rCeil_any _ _ _ _).mono ?_; rintro e w2 ⟨rfl, hb2⟩; have hbase := Below.go (Below.go hb0 hb1) hb2; obtain ⟨⟨c0, c1⟩, d0, d1⟩ := blk2 (keep' (keep' (heap_new w _) hb1) hb2)))
  exact bodyPost_ret (v := .tuple #[I2 L H, .int .i64 0]) (by simp [results, Try.results20, go_sem, c0, c1]) rfl ⟨ret_i2 hz.out.2.2.2.1.symm hz.out.2.2.2.2.symm hz.out.1.symm, by (repeat (with_reducible first | exact hbase | refine Below.drew ?_ | refine Below.setCell ?_ ?_ _)); all_goals simp⟩
set_option maxHeartbeats 2000000 in
set_option maxRecDepth 100000 in
theorem rband_any (A : Option Addr) (n c : Nat) (l : List Int) (x : Int) (w : World) (hl : Li w.heap.size w A n l) (hn : n ≤ 9223372036854775807) :
    Calls Try.prog 28 #[.slice A n c, .int .i64 x] w (Ret (.int .i64 (Tab.bd l x n)) w) := by
  obtain ⟨hlen, hcell⟩ := hl
  clear hlen
  go_enter Try.func28, Try.ntmps28
  go_wp2
  go_loop [5, 6] (fun o i => ∃ k : Nat, k ≤ n ∧ i = .int .i64 k ∧ o = .int .i64 (Tab.bd l x k)) (fun _ i => n - (intOf i).toNat)
  case atStart => exact ⟨0, Nat.zero_le _, rfl, rfl⟩
  case round =>
    obtain ⟨k, hk, rfl, rfl⟩ := hrel
    by_cases hlt : k < n
    · obtain ⟨b, off, rfl, hbB, hc⟩ := hcell (by omega)
      have c0 := hc k hlt
      have hs : Hid (Tab.bd l x (k + 1) = if x < Tab.ai l k then Tab.bd l x k else k) := Lib.hid rfl
      clear hc hcell
      generalize Tab.ai l k = y at *
      generalize Tab.bd l x k = O at *
      have b0 : (0 : Int) ≤ (k : Int) := by omega
      have b1 : (k : Int) < (n : Int) := by omega
      by_cases hp : x < y
      · have q : decide (y ≤ x) = false := decide_eq_false (by omega)
        rw [if_pos hp] at hs
        go_wp2
        go_round
        case rel => exact ⟨k + 1, by omega, by go_num, by rw [hs.out]⟩
        case measure => simp [intOf]; omega
      · have q : decide (y ≤ x) = true := decide_eq_true (by omega)
        rw [if_neg hp] at hs
        go_wp2
        go_round
        case rel => exact ⟨k + 1, by omega, by go_num, by rw [hs.out]⟩
        case measure => simp [intOf]; omega
    · obtain rfl : k = n := by omega
      go_wp2
      go_ret
      exact ⟨rfl, rfl⟩
set_option maxHeartbeats 2000000 in
set_option maxRecDepth 100000 in
theorem rrising_any (A : Option Addr) (n c : Nat) (l : List Int) (w : World) (hl : Li w.heap.size w A n l) (hn : n ≤ 9223372036854775807) :
    Calls Try.prog 34 #[.slice A n c] w (RetB (.bool (Tab.rising l)) w) := by
  obtain ⟨hlen, hcell⟩ := hl
  have Hlen := Lib.hid hlen
  clear hlen
  go_enter Try.func34, Try.ntmps34
  go_wp2
  go_loopw [3] (fun i wr => ∃ k : Nat, k ≤ n ∧ i = .int .i64 k ∧ Hid (∀ j, j < k → Tab.gd l j = true) ∧ Below w.heap.size w wr) (fun i _ => n - (intOf i).toNat)
  case atStart => exact ⟨0, Nat.zero_le _, rfl, Lib.hid (fun j h => by omega), Below.refl _ _⟩
  case round =>
    obtain ⟨k, hk, rfl, hv, hb⟩ := hrel
    by_cases hlt : k < n
    · obtain ⟨b, off, rfl, hbB, hc⟩ := hcell (by omega)
      have c0 := (hb.cell (p := ⟨b, off + k, none⟩) hbB).trans (hc k hlt)
      have cp := (hb.cell (p := ⟨b, off + (k - 1), none⟩) hbB).trans (hc (k - 1) (by omega))
      have hbad : Hid (Tab.gd l k = false → Tab.rising l = false) := Lib.hid fun h => Tab.rising_bad (i := k) (by rw [Hlen.out]; exact hlt) h
      have hgd : Hid (Tab.gd l k = (decide (-1000000 ≤ Tab.ai l k) && decide (Tab.ai l k ≤ 1000000) && (decide (k = 0) || decide (Tab.ai l (k - 1) < Tab.ai l k)))) := Lib.hid rfl
      have hnx : Hid (Tab.gd l k = true → ∀ j, j < k + 1 → Tab.gd l j = true) := Lib.hid fun h j hj => by rcases Nat.lt_or_ge j k with e | e; exact hv.out j e; rw [show j = k by omega]; exact h
      clear hc hcell
      generalize Tab.ai l k = x at *
      generalize Tab.ai l (k - 1) = y at *
      generalize Tab.gd l k = G at *
      have b0 : (0 : Int) ≤ (k : Int) := by omega
      have b1 : (k : Int) < (n : Int) := by omega
      by_cases h1 : x < -1000000
      · have hr : Hid (Tab.rising l = false) := Lib.hid (hbad.out (hgd.out.trans (by rw [decide_eq_false (show ¬ -1000000 ≤ x by omega)]; rfl)))
        have q1 : decide (x < -1000000) = true := decide_eq_true h1
        clear cp
        go_wp2_with fail
        go_quiet (fail)
        go_wp2
        go_ret
        exact ⟨ret_bool hr.out.symm, below_drewN hb _⟩
      have q1 : decide (x < -1000000) = false := decide_eq_false h1
      by_cases h2 : 1000000 < x
      · have hr : Hid (Tab.rising l = false) := Lib.hid (hbad.out (hgd.out.trans (by rw [decide_eq_false (show ¬ x ≤ 1000000 by omega)]; simp)))
        have q2 : decide (1000000 < x) = true := decide_eq_true h2
        clear cp
        go_wp2_with fail
        go_quiet (fail)
        go_wp2
        go_ret
        exact ⟨ret_bool hr.out.symm, below_drewN hb _⟩
      have q2 : decide (1000000 < x) = false := decide_eq_false h2
      by_cases h3 : 0 < k
      · have q3 : decide (0 < (k : Int)) = true := decide_eq_true (by omega)
        have w1' : IntKind.i64.wrap ((k : Int) - 1) = (k : Int) - 1 := IntWalk.i64_in _ (by omega)
        have w2' : ((k : Int) - 1).toNat = k - 1 := by omega
        have w3' : (0 : Int) ≤ (k : Int) - 1 := by omega
        have w4' : (k : Int) - 1 < (n : Int) := by omega
        by_cases h4 : x ≤ y
        · have hr : Hid (Tab.rising l = false) := Lib.hid (hbad.out (hgd.out.trans (by rw [decide_eq_false (show ¬ k = 0 by omega), decide_eq_false (show ¬ y < x by omega)]; simp)))
          have q4 : decide (x ≤ y) = true := decide_eq_true h4
          go_wp2_with fail
          go_quiet (fail)
          clear w1' w2'
          go_wp2
          go_ret
          exact ⟨ret_bool hr.out.symm, below_drewN hb _⟩
        · have hg := hnx.out (hgd.out.trans (by rw [decide_eq_true (show -1000000 ≤ x by omega), decide_eq_true (show x ≤ 1000000 by omega), decide_eq_true (show y < x by omega)]; simp))
          have HG := Lib.hid hg
          clear hg
          have q4 : decide (x ≤ y) = false := decide_eq_false h4
          go_wp2_with fail
          go_quiet (fail)
          clear w1' w2'
          go_wp2
          go_roundw
          case rel => exact ⟨k + 1, by omega, by go_num, HG, below_drewN hb _⟩
          case measure => simp [intOf]; omega
      · have q3 : decide (0 < (k : Int)) = false := decide_eq_false (by omega)
        have hg := hnx.out (hgd.out.trans (by rw [decide_eq_true (show -1000000 ≤ x by omega), decide_eq_true (show x ≤ 1000000 by omega), decide_eq_true (show k = 0 by omega)]; simp))
        have HG := Lib.hid hg
        clear hg cp
        go_wp2_with fail
        go_quiet (fail)
        go_wp2
        go_roundw
        case rel => exact ⟨k + 1, by omega, by go_num, HG, below_drewN hb _⟩
        case measure => simp [intOf]; omega
    · obtain rfl : k = n := by omega
      have hr := Lib.hid (Tab.rising_all Hlen.out hv.out)
      by_cases h1 : 1 ≤ k
      · have q1 : decide (1 ≤ (k : Int)) = true := decide_eq_true (by omega)
        have q2 : Hid (decide ((k : Int) ≤ 8) = Tab.rising l) := Lib.hid (by rw [hr.out, decide_eq_true h1, Bool.true_and, Bool.eq_iff_iff]; simp; omega)
        go_wp2
        go_ret
        exact ⟨ret_bool q2.out, hb⟩
      · have q1 : decide (1 ≤ (k : Int)) = false := decide_eq_false (by omega)
        have q2 : Hid (Tab.rising l = false) := Lib.hid (by rw [hr.out, decide_eq_false h1]; rfl)
        go_wp2
        go_ret
        exact ⟨ret_bool q2.out.symm, hb⟩
end Go.Proofs.Ytlmdjkkeocmehaa
