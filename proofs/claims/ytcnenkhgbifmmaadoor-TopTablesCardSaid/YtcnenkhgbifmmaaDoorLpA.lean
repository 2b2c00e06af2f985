/- Contracts of leap's and the reference's loops over a table: each returns the plain function of the table, and nothing that was there has changed. -/
import Derived.Test.YtcnenkhgbifmmaaDoorRows
import Derived.Test.YtcnenkhgbifmmaaDoorLpMath
import Derived.WalkKit
import Derived.WalkSpells
import Derived.WalkLawsBesides
import Derived.Lib.Hide
import Derived.Below
set_option linter.unusedVariables false
namespace Go.Proofs.YtcnenkhgbifmmaaDoor
open Go.RowKit

/-- the call returns v, and whatever lay when it began lies as it lay -/
def RetB (v : Value) (w : World) (e : Ending) (w' : World) : Prop := e = .returned v ∧ Below w.heap.size w w'
theorem ret_int {k : IntKind} {a b : Int} (h : a = b) : Ending.returned (.int k a) = .returned (.int k b) := by rw [h]
theorem ret_bool {a b : Bool} (h : a = b) : Ending.returned (.bool a) = .returned (.bool b) := by rw [h]
theorem ret_two {a b a' b' : Int} (h1 : a = a') (h2 : b = b') : Ending.returned (.tuple #[.int .i64 a, .int .i64 b]) = .returned (.tuple #[.int .i64 a', .int .i64 b']) := by rw [h1, h2]

/-- the slice (A, n) holds the table l, in a block below B -/
def Lp (B : Nat) (W : World) (A : Option Addr) (n : Nat) (l : Lpm.LL) : Prop :=
  l.length = n ∧ (0 < n → ∃ b off, A = some ⟨b, off, none⟩ ∧ b < B ∧ ∀ j, j < n → W.cell? ⟨b, off + j * 2, none⟩ = some (.int .i64 (l[j]?.getD (0, 0)).1) ∧ W.cell? ⟨b, off + j * 2 + 1, none⟩ = some (.int .i64 (l[j]?.getD (0, 0)).2))
theorem Lp.below {B : Nat} {W W' : World} {A : Option Addr} {n : Nat} {l : Lpm.LL} (h : Lp B W A n l) (hb : Below B W W') : Lp B W' A n l :=
  ⟨h.1, fun hn => by obtain ⟨b, off, e, hB, hc⟩ := h.2 hn; exact ⟨b, off, e, hB, fun j hj => ⟨(hb.cell (p := ⟨b, off + j * 2, none⟩) hB).trans (hc j hj).1, (hb.cell (p := ⟨b, off + j * 2 + 1, none⟩) hB).trans (hc j hj).2⟩⟩⟩
theorem Lp.mono {B B' : Nat} {W : World} {A : Option Addr} {n : Nat} {l : Lpm.LL} (h : Lp B W A n l) (hB : B ≤ B') : Lp B' W A n l :=
  ⟨h.1, fun hn => by obtain ⟨b, off, e, hb, hc⟩ := h.2 hn; exact ⟨b, off, e, by omega, hc⟩⟩
theorem drop_cons {l : Lpm.LL} {k n : Nat} (h : l.length = n) (hk : k < n) : l.drop k = (l[k]?.getD (0, 0)) :: l.drop (k + 1) := by
  rw [List.drop_eq_getElem_cons (by omega)]; simp [show k < l.length by omega]

theorem ok_step {l : Lpm.LL} {k n : Nat} {last d s : Int} (h : l.length = n) (hk : k < n) (hx : l[k]?.getD (0, 0) = (d, s)) (hok : Lpm.okFrom (-1) l = Lpm.okFrom last (l.drop k)) :
    ((d ≤ last ∨ 34000 ≤ d ∨ (s ≠ 1 ∧ s ≠ -1)) → Lpm.valid l = false) ∧ (¬ (d ≤ last ∨ 34000 ≤ d ∨ (s ≠ 1 ∧ s ≠ -1)) → Lpm.okFrom (-1) l = Lpm.okFrom d (l.drop (k + 1))) := by
  rw [drop_cons h hk, hx, Lpm.okFrom_cons] at hok
  refine ⟨fun hc => ?_, fun hc => ?_⟩
  · have : Lpm.bad last (d, s) = true := by simp [Lpm.bad]; omega
    simp [Lpm.valid, hok, this]
  · have : Lpm.bad last (d, s) = false := by simp only [Lpm.bad, decide_eq_false_iff_not]; omega
    simp [hok, this]
/-- the five ways of an element -/
theorem leap_ways (last d s : Int) : (d ≤ last) ∨ (last < d ∧ 34000 ≤ d) ∨ (last < d ∧ d < 34000 ∧ (s != 1) = false) ∨ (last < d ∧ d < 34000 ∧ (s != 1) = true ∧ (s != -1) = false) ∨ (last < d ∧ d < 34000 ∧ (s != 1) = true ∧ (s != -1) = true) := by
  simp only [bne_iff_ne, ne_eq, bne_eq_false_iff_eq]; omega

set_option maxHeartbeats 1000000 in
theorem valid_any (B : Nat) (A : Option Addr) (n c : Nat) (l : Lpm.LL) (w : World) (hl : Lp B w A n l) (hB : B ≤ w.heap.size) (hn : n ≤ 110) :
    Calls Tryd.prog 24 #[.slice A n c] w (RetB (.bool (Lpm.valid l)) w) := by
  obtain ⟨hlen, hcell⟩ := hl
  have Hlen := Lib.hid hlen
  clear hlen
  go_enter Tryd.func24, Tryd.ntmps24
  go_wp2
  go_loopw [3, 8] (fun t i wr => ∃ (k : Nat) (last : Int), k ≤ n ∧ i = .int .i64 k ∧ t = .int .i64 last ∧ Hid (Lpm.okFrom (-1) l = Lpm.okFrom last (l.drop k)) ∧ Below w.heap.size w wr) (fun _ i _ => n - (intOf i).toNat)
  case atStart => exact ⟨0, -1, Nat.zero_le _, rfl, rfl, Lib.hid (by simp), Below.refl _ _⟩
  case round =>
    obtain ⟨k, last, hk, rfl, rfl, hok, hb⟩ := hrel
    by_cases hlt : k < n
    · obtain ⟨b, off, rfl, hbB, hc⟩ := hcell (by omega)
      have c0 := (hb.cell (p := ⟨b, off + k * 2, none⟩) (by simp; omega)).trans (hc k hlt).1
      have c1 := (hb.cell (p := ⟨b, off + k * 2 + 1, none⟩) (by simp; omega)).trans (hc k hlt).2
      obtain ⟨d, s, hx⟩ : ∃ d s, l[k]?.getD (0, 0) = (d, s) := ⟨_, _, rfl⟩
      rw [hx] at c0 c1
      have hst := Lib.hid (ok_step Hlen.out hlt hx hok.out)
      clear hc hcell hx
      have hbs := hb.size
      rcases leap_ways last d s with h | ⟨h1, h2⟩ | ⟨h1, h2, h3⟩ | ⟨h1, h2, h3, h4⟩ | ⟨h1, h2, h3, h4⟩
      · go_wp2
        go_ret
        exact ⟨ret_bool (hst.out.1 (by omega)).symm, hb.alloc hbs _⟩
      · go_wp2
        go_ret
        exact ⟨ret_bool (hst.out.1 (by omega)).symm, hb.alloc hbs _⟩
      · have hs := Lib.hid (hst.out.2 (by simp at h3; omega))
        go_wp2
        go_roundw
        case rel => exact ⟨k + 1, d, by omega, by go_num, rfl, hs, hb.alloc hbs _⟩
        case measure => simp [intOf]; omega
      · have hs := Lib.hid (hst.out.2 (by simp at h4; omega))
        go_wp2
        go_roundw
        case rel => exact ⟨k + 1, d, by omega, by go_num, rfl, hs, hb.alloc hbs _⟩
        case measure => simp [intOf]; omega
      · have hs := Lib.hid (hst.out.1 (by simp at h3 h4; omega))
        go_wp2
        go_ret
        exact ⟨ret_bool hs.out.symm, hb.alloc hbs _⟩
    · obtain rfl : k = n := by omega
      have hv : Hid (Lpm.valid l = decide ((k : Int) ≤ 100)) := Lib.hid (by
        have h := hok.out; rw [List.drop_of_length_le (by rw [Hlen.out]; omega)] at h
        unfold Lpm.valid; rw [h, Hlen.out]; simp [Lpm.okFrom]; omega)
      go_wp2
      go_ret
      exact ⟨ret_bool hv.out.symm, hb⟩
end Go.Proofs.YtcnenkhgbifmmaaDoor
