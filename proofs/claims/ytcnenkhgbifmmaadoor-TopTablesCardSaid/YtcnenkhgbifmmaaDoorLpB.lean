/- Contracts of the reference's loops over a table: which tables are valid, the sum of the steps before a day; nothing that was there has changed. -/
import Derived.Test.YtcnenkhgbifmmaaDoorLpA
import Derived.Deep.QuietTactic
import Derived.BigQuiet
import Derived.WalkSmall
set_option linter.unusedVariables false
namespace Go.Proofs.YtcnenkhgbifmmaaDoor
open Go.RowKit

theorem take_snoc {l : Lpm.LL} {k n : Nat} (h : l.length = n) (hk : k < n) : l.take (k + 1) = l.take k ++ [l[k]?.getD (0, 0)] := by
  rw [List.take_succ_eq_append_getElem (by omega)]; simp [show k < l.length by omega]

set_option maxHeartbeats 1000000 in
theorem refValid_any (B : Nat) (A : Option Addr) (n c : Nat) (l : Lpm.LL) (w : World) (hl : Lp B w A n l) (hB : B ≤ w.heap.size) (hn : n ≤ 110) :
    Calls Tryd.prog 7 #[.slice A n c] w (RetB (.bool (Lpm.valid l)) w) := by
  obtain ⟨hlen, hcell⟩ := hl
  have Hlen := Lib.hid hlen
  clear hlen
  go_enter Tryd.func7, Tryd.ntmps7
  go_wp2
  go_loopw [3] (fun i wr => ∃ (k : Nat) (last : Int), k ≤ n ∧ i = .int .i64 k ∧ -1 ≤ last ∧ (k = 0 → last = -1) ∧ (0 < k → last = (l[k - 1]?.getD (0, 0)).1) ∧ Hid (Lpm.okFrom (-1) l = Lpm.okFrom last (l.drop k)) ∧ Below w.heap.size w wr) (fun i _ => n - (intOf i).toNat)
  case atStart => exact ⟨0, -1, Nat.zero_le _, rfl, by omega, fun _ => rfl, fun h => absurd h (by omega), Lib.hid (by simp), Below.refl _ _⟩
  case round =>
    obtain ⟨k, last, hk, rfl, hlast, hl0, hl1, hok, hb⟩ := hrel
    have Hl0 := Lib.hid hl0
    have Hl1 := Lib.hid hl1
    clear hl0 hl1
    by_cases hlt : k < n
    · obtain ⟨b, off, rfl, hbB, hc⟩ := hcell (by omega)
      have c0 := (hb.cell (p := ⟨b, off + k * 2, none⟩) (by simp; omega)).trans (hc k hlt).1
      have c1 := (hb.cell (p := ⟨b, off + k * 2 + 1, none⟩) (by simp; omega)).trans (hc k hlt).2
      have cp : 0 < k → wr.cell? ⟨b, off + (k - 1) * 2, none⟩ = some (.int .i64 last) := fun h => by
        rw [Hl1.out h]; exact (hb.cell (p := ⟨b, off + (k - 1) * 2, none⟩) (by simp; omega)).trans (hc (k - 1) (by omega)).1
      obtain ⟨d, s, hx⟩ : ∃ d s, l[k]?.getD (0, 0) = (d, s) := ⟨_, _, rfl⟩
      rw [hx] at c0 c1
      have hst := Lib.hid (ok_step Hlen.out hlt hx hok.out)
      have hxk := Lib.hid hx
      clear hc hcell hx
      have hbad : (d < 0) ∨ (0 ≤ d ∧ 34000 ≤ d) ∨ (0 ≤ d ∧ d < 34000 ∧ (s != 1) = true ∧ (s != -1) = true) ∨ (0 ≤ d ∧ d < 34000 ∧ (s != 1) = false) ∨ (0 ≤ d ∧ d < 34000 ∧ (s != 1) = true ∧ (s != -1) = false) := by
        simp only [bne_iff_ne, ne_eq, bne_eq_false_iff_eq]; omega
      rcases hbad with h | ⟨h1, h2⟩ | ⟨h1, h2, h3, h4⟩ | h | h
      · have hs := Lib.hid (hst.out.1 (by omega))
        clear cp
        go_wp2
        go_ret
        exact ⟨ret_bool hs.out.symm, hb⟩
      · have hs := Lib.hid (hst.out.1 (by omega))
        clear cp
        go_wp2
        go_ret
        exact ⟨ret_bool hs.out.symm, hb⟩
      · have hs := Lib.hid (hst.out.1 (by simp at h3 h4; omega))
        clear cp
        go_wp2
        go_ret
        exact ⟨ret_bool hs.out.symm, hb⟩
      · obtain ⟨h1, h2, h3⟩ := h
        have hsok : s = 1 ∨ s = -1 := by simp at h3; omega
        have Hs := Lib.hid hsok
        clear hsok
        by_cases h0 : 0 < k
        · have cp' := cp h0
          have hg : decide (0 < (k : Int)) = true := by simp; omega
          clear cp
          by_cases hd : d ≤ last
          · have hs := Lib.hid (hst.out.1 (by omega))
            go_wp2
            go_quiet (fail)
            go_wp2
            go_ret
            exact ⟨ret_bool hs.out.symm, below_drewN hb _⟩
          · have hs := Lib.hid (hst.out.2 (by have := Hs.out; omega))
            go_wp2
            go_quiet (fail)
            go_wp2
            go_roundw
            case rel => exact ⟨k + 1, d, by omega, by go_num, by omega, fun h => absurd h (by omega), fun _ => by rw [Nat.add_sub_cancel, hxk.out], hs, below_drewN hb _⟩
            case measure => simp [intOf]; omega
        · have hg : decide (0 < (k : Int)) = false := by simp; omega
          have hs := Lib.hid (hst.out.2 (by have := Hs.out; have := Hl0.out (by omega); omega))
          clear cp
          go_wp2
          go_quiet (fail)
          go_wp2
          go_roundw
          case rel => exact ⟨k + 1, d, by omega, by go_num, by omega, fun h => absurd h (by omega), fun _ => by rw [Nat.add_sub_cancel, hxk.out], hs, below_drewN hb _⟩
          case measure => simp [intOf]; omega
      · obtain ⟨h1, h2, h3, h4⟩ := h
        have hsok : s = 1 ∨ s = -1 := by simp at h4; omega
        have Hs := Lib.hid hsok
        clear hsok
        by_cases h0 : 0 < k
        · have cp' := cp h0
          have hg : decide (0 < (k : Int)) = true := by simp; omega
          clear cp
          by_cases hd : d ≤ last
          · have hs := Lib.hid (hst.out.1 (by omega))
            go_wp2
            go_quiet (fail)
            go_wp2
            go_ret
            exact ⟨ret_bool hs.out.symm, below_drewN hb _⟩
          · have hs := Lib.hid (hst.out.2 (by have := Hs.out; omega))
            go_wp2
            go_quiet (fail)
            go_wp2
            go_roundw
            case rel => exact ⟨k + 1, d, by omega, by go_num, by omega, fun h => absurd h (by omega), fun _ => by rw [Nat.add_sub_cancel, hxk.out], hs, below_drewN hb _⟩
            case measure => simp [intOf]; omega
        · have hg : decide (0 < (k : Int)) = false := by simp; omega
          have hs := Lib.hid (hst.out.2 (by have := Hs.out; have := Hl0.out (by omega); omega))
          clear cp
          go_wp2
          go_quiet (fail)
          go_wp2
          go_roundw
          case rel => exact ⟨k + 1, d, by omega, by go_num, by omega, fun h => absurd h (by omega), fun _ => by rw [Nat.add_sub_cancel, hxk.out], hs, below_drewN hb _⟩
          case measure => simp [intOf]; omega
    · obtain rfl : k = n := by omega
      have hv : Hid (Lpm.valid l = decide ((k : Int) ≤ 100)) := Lib.hid (by
        have h := hok.out; rw [List.drop_of_length_le (by rw [Hlen.out]; omega)] at h
        unfold Lpm.valid; rw [h, Hlen.out]; simp [Lpm.okFrom]; omega)
      go_wp2
      go_ret
      exact ⟨ret_bool hv.out.symm, hb⟩

set_option maxHeartbeats 1000000 in
theorem refSum_any (B : Nat) (A : Option Addr) (n c : Nat) (l : Lpm.LL) (day : Int) (w : World) (hl : Lp B w A n l) (hv : Lpm.valid l = true) :
    Calls Tryd.prog 84 #[.slice A n c, .int .i64 day] w (RetB (.int .i64 (Lpm.ofs l day)) w) := by
  obtain ⟨hlen, hcell⟩ := hl
  have hn : n ≤ 100 := by have := Lpm.valid_len hv; omega
  have Hlen := Lib.hid hlen
  have Hv := Lib.hid hv
  clear hlen hv
  go_enter Tryd.func84, Tryd.ntmps84
  go_wp2
  go_loop [5, 6] (fun t i => ∃ k : Nat, k ≤ n ∧ i = .int .i64 k ∧ t = .int .i64 (Lpm.sum (Lpm.flt (l.take k) day))) (fun _ i => n - (intOf i).toNat)
  case atStart => exact ⟨0, Nat.zero_le _, rfl, rfl⟩
  case round =>
    obtain ⟨k, hk, rfl, rfl⟩ := hrel
    have hbd := Lpm.flt_bd (day := day) (k := k) Hv.out
    by_cases hlt : k < n
    · obtain ⟨b, off, rfl, hbB, hc⟩ := hcell (by omega)
      obtain ⟨c0, c1⟩ := hc k hlt
      have hst := take_snoc Hlen.out hlt
      have hs2 : (l[k]?.getD (0, 0)).2 = 1 ∨ (l[k]?.getD (0, 0)).2 = -1 := (Lpm.valid_mem Hv.out _ (by have := Hlen.out; rw [List.getElem?_eq_getElem (by omega)]; simp)).2.2
      obtain ⟨d, s, hx⟩ : ∃ d s, l[k]?.getD (0, 0) = (d, s) := ⟨_, _, rfl⟩
      rw [hx] at c0 c1 hst hs2
      have HS : Hid (Lpm.sum (Lpm.flt (l.take (k + 1)) day) = Lpm.sum (Lpm.flt (l.take k) day) + (if d < day then s else 0)) := Lib.hid (by rw [hst]; exact Lpm.flt_snoc _ _ _)
      have hsb : -1 ≤ s ∧ s ≤ 1 := by simp at hs2; omega
      clear hc hcell hx hst hs2
      by_cases hd : d < day
      · go_wp2
        go_round
        case rel => exact ⟨k + 1, by omega, by go_num, by rw [HS.out, if_pos hd]⟩
        case measure => simp [intOf]; omega
      · go_wp2
        go_round
        case rel => exact ⟨k + 1, by omega, by go_num, by rw [HS.out, if_neg hd, Int.add_zero]⟩
        case measure => simp [intOf]; omega
    · obtain rfl : k = n := by omega
      have HE : Hid (Lpm.ofs l day = Lpm.sum (Lpm.flt (l.take k) day)) := Lib.hid (by rw [Lpm.ofs_flt Hv.out, List.take_of_length_le (by rw [Hlen.out]; omega)])
      go_wp2
      go_ret
      exact ⟨ret_int HE.out.symm, Below.refl _ _⟩
end Go.Proofs.YtcnenkhgbifmmaaDoor
