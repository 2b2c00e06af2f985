/- Neighbours of a list: the contracts of drift.pairs, of drift.all over pairs, and of drift.rising. -/
import Derived.Test.YtlmdjkkeocmehaaDrB
set_option linter.unusedVariables false
namespace Go.Proofs.Ytlmdjkkeocmehaa
open Go.RowKit
namespace Tab
abbrev T2 := Int × Int
/-- the first k neighbours -/
def nb (l : List Int) (k : Nat) : List T2 := (List.range k).map fun j => (ai l j, ai l (j + 1))
theorem nb_succ (l : List Int) (k : Nat) : nb l (k + 1) = nb l k ++ [(ai l k, ai l (k + 1))] := by unfold nb; rw [List.range_succ, List.map_append]; rfl
theorem nb_len (l : List Int) (k : Nat) : (nb l k).length = k := by simp [nb]
def a2 (l : List T2) (k : Nat) : T2 := l[k]?.getD (0, 0)
def lt2 (x : T2) : Bool := decide (x.1 < x.2)
theorem all2_snoc {l : List T2} {k n : Nat} (p : T2 → Bool) (h : l.length = n) (hk : k < n) : (l.take (k + 1)).all p = ((l.take k).all p && p (a2 l k)) := by
  unfold a2; rw [List.take_succ_eq_append_getElem (by omega), List.all_append]; simp [show k < l.length by omega]
theorem all2_no {l : List T2} {k : Nat} {p : T2 → Bool} (h : (l.take k).all p = false) : l.all p = false := by
  rw [List.all_eq_false] at *; obtain ⟨x, hx, hp⟩ := h; exact ⟨x, List.mem_of_mem_take hx, hp⟩
end Tab
abbrev oQ (x : Tab.T2) : Obj := .cells #[.int .i64 x.1, .int .i64 x.2] 63
theorem rise1_any (x : Tab.T2) (w : World) : Calls Try.prog 47 #[I2 x.1 x.2] w (RetB (.bool (Tab.lt2 x)) w) := by
  have hb := (Below.refl w.heap.size w).alloc (Nat.le_refl _) (oQ x)
  go_enter Try.func47, Try.ntmps47
  go_wp2
  go_ret
  exact ⟨rfl, hb⟩
def Lq (B : Nat) (W : World) (A : Option Addr) (n : Nat) (l : List Tab.T2) : Prop :=
  l.length = n ∧ (0 < n → ∃ b off, A = some ⟨b, off, none⟩ ∧ b < B ∧ ∀ j, j < n → W.cell? ⟨b, off + j * 2, none⟩ = some (.int .i64 (Tab.a2 l j).1) ∧ W.cell? ⟨b, off + j * 2 + 1, none⟩ = some (.int .i64 (Tab.a2 l j).2))
set_option maxHeartbeats 2000000 in
theorem all2_any (A : Option Addr) (n c : Nat) (l : List Tab.T2) (w : World) (hl : Lq w.heap.size w A n l) (hn : n ≤ 9223372036854775807) :
    Calls Try.prog 45 #[.slice A n c, .func (Fn.func 47) #[] #[]] w (RetB (.bool (l.all Tab.lt2)) w) := by
  obtain ⟨hlen, hcell⟩ := hl
  have Hlen := Lib.hid hlen
  clear hlen
  go_enter Try.func45, Try.ntmps45
  go_wp2
  go_loopw [9] (fun i wr => ∃ k : Nat, k ≤ n ∧ i = .int .i64 k ∧ Hid ((l.take k).all Tab.lt2 = true) ∧ Below w.heap.size w wr) (fun i _ => n - (intOf i).toNat)
  case atStart => exact ⟨0, Nat.zero_le _, rfl, Lib.hid rfl, Below.refl _ _⟩
  case round =>
    obtain ⟨k, hk, rfl, hv, hb⟩ := hrel
    by_cases hlt : k < n
    · obtain ⟨b, off, rfl, hbB, hc⟩ := hcell (by omega)
      have c0 := (hb.cell (p := ⟨b, off + k * 2, none⟩) hbB).trans (hc k hlt).1
      have c1 := (hb.cell (p := ⟨b, off + k * 2 + 1, none⟩) hbB).trans (hc k hlt).2
      have hs := Lib.hid (Tab.all2_snoc Tab.lt2 Hlen.out hlt)
      clear hc hcell
      generalize Tab.a2 l k = x at *
      have b0 : (0 : Int) ≤ (k : Int) := by omega
      have b1 : (k : Int) < (n : Int) := by omega
      cases hp : Tab.lt2 x
      · have hs2 : Hid (l.all Tab.lt2 = false) := Lib.hid (Tab.all2_no (k := k + 1) (hs.out.trans (by rw [hp]; simp)))
        go_wp2_with fail
        refine (rise1_any x _).mono ?_
        rintro e w1 ⟨rfl, hb1⟩
        have hb2 := Below.goA hb hb1
        clear hb1
        go_wp2
        go_ret
        exact ⟨ret_bool hs2.out.symm, hb2⟩
      · have hs2 : Hid ((l.take (k + 1)).all Tab.lt2 = true) := Lib.hid (hs.out.trans (by rw [hp, hv.out]; rfl))
        go_wp2_with fail
        refine (rise1_any x _).mono ?_
        rintro e w1 ⟨rfl, hb1⟩
        have hb2 := Below.goA hb hb1
        clear hb1
        go_wp2
        go_roundw
        case rel => exact ⟨k + 1, by omega, by go_num, hs2, hb2⟩
        case measure => simp [intOf]; omega
    · obtain rfl : k = n := by omega
      have e : l.take k = l := List.take_of_length_le (by rw [Hlen.out]; omega)
      rw [e] at hv
      go_wp2
      go_ret
      exact ⟨ret_bool hv.out.symm, hb⟩
end Go.Proofs.Ytlmdjkkeocmehaa
