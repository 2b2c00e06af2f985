/- civil.Find and the reference's: the times of a second of a day. -/
import Derived.Test.YtcnenkhgbifmmaaDoorReH
set_option linter.unusedVariables false
namespace Go.Proofs.YtcnenkhgbifmmaaDoor
open Go.RowKit
theorem Find_any (A : Option Addr) (n c : Nat) (l : Lpm.LL) (d sec : Int) (w : World) (hl : Lp w.heap.size w A n l) (hv : Lpm.valid l = true) (h0 : 0 ≤ d) (h1 : d ≤ 34000) (s0 : 0 ≤ sec) (s1 : sec ≤ 86399) :
    Calls Tryd.prog 53 #[.slice A n c, .agg #[.int .i64 d, .int .i64 sec, .int .i64 0]] w (ListPost (Rc.tim l sec d) w) := by
  have hb := Lpm.start_bd (a := d) hv
  have hN := Rc.lenD_is hv d
  have go := fun (E : Nat) hw => Find_way E A n c l d sec (sec * 1000000) (Lpm.start l d) (Rc.lenD l d) w hl hv h0 h1 s0 s1 rfl rfl rfl (by omega) (by omega) (by omega) (by omega) hw
  rcases Rc.tim_ways hv s0 s1 d with ⟨a, b, e⟩ | ⟨a, b, e⟩ | ⟨a, b, e⟩ | ⟨a, b, e⟩
  · rw [e]
    have h1 : wi (sec * 1000000) 0 (Rc.lenD l d - 1) = true := wi_t (by omega)
    cases h2 : wi (sec * 1000000 + 1000000) 0 (Rc.lenD l d - 1)
    · exact go 1 (.inr (.inl ⟨rfl, h1, h2⟩))
    · exact go 1 (.inr (.inr (.inl ⟨rfl, h1, h2, decide_eq_true a⟩)))
  · rw [e]; exact go 0 (.inl ⟨rfl, wi_f (by omega)⟩)
  · rw [e]; exact go 1 (.inr (.inl ⟨rfl, wi_t (by omega), wi_f (by omega)⟩))
  · rw [e]; exact go 2 (.inr (.inr (.inr ⟨rfl, wi_t (by omega), wi_t (by omega), wi_f (by omega), decide_eq_false (by omega)⟩)))
def Fs (S N sec s : Int) : List Int := (if sec < s ∧ sec * 1000000 < N then [S + sec * 1000000] else []) ++ (if 86400 < s ∧ sec = 86399 ∧ 86400000000 < N then [S + 86400000000] else [])
theorem Fs_start (S N sec : Int) (h : sec ≤ 86399) : Fs S N sec sec = [] := by unfold Fs; rw [if_neg (by omega), if_neg (by omega)]; rfl
theorem Fs_no {S N sec s : Int} (h0 : sec ≤ s) (h1 : s ≤ 86400) (hs : sec ≤ 86399) (h : ¬ (s * 1000000 < N ∧ (s = sec ∨ s = 86400 ∧ sec = 86399))) : Fs S N sec (s + 1) = Fs S N sec s := by
  have e1 : (sec < s + 1 ∧ sec * 1000000 < N) ↔ (sec < s ∧ sec * 1000000 < N) := by omega
  have e2 : (86400 < s + 1 ∧ sec = 86399 ∧ 86400000000 < N) ↔ (86400 < s ∧ sec = 86399 ∧ 86400000000 < N) := by omega
  unfold Fs; simp only [e1, e2]
theorem Fs_yes {S N sec s : Int} (h0 : sec ≤ s) (h1 : s ≤ 86400) (hs : sec ≤ 86399) (hN : s * 1000000 < N) (h : s = sec ∨ s = 86400 ∧ sec = 86399) : Fs S N sec (s + 1) = Fs S N sec s ++ [S + s * 1000000] := by
  unfold Fs
  rcases h with rfl | ⟨rfl, rfl⟩
  · rw [if_pos (by omega), if_neg (by omega), if_neg (by omega), if_neg (by omega)]; rfl
  · rw [if_pos (by omega), if_pos (by omega), if_pos (by omega), if_neg (by omega)]; rfl
theorem Fs_len (S N sec s : Int) : (Fs S N sec s).length ≤ 2 := by unfold Fs; repeat' split
                                                                   all_goals simp
theorem Fs_end {l : Lpm.LL} (h : Lpm.valid l = true) {sec : Int} (h0 : 0 ≤ sec) (h1 : sec ≤ 86399) (d : Int) : Fs (Lpm.start l d) (Rc.lenD l d) sec 86401 = Rc.tim l sec d := by
  unfold Fs
  rcases Rc.tim_ways h h0 h1 d with ⟨a, b, e⟩ | ⟨a, b, e⟩ | ⟨a, b, e⟩ | ⟨a, b, e⟩ <;> rw [e]
  · rw [if_pos (by omega), if_neg (by omega)]; rfl
  · rw [if_neg (by omega), if_neg (by omega)]; rfl
  · rw [if_pos (by omega), if_neg (by omega)]; rfl
  · subst a; rw [if_pos (by omega), if_pos (by omega)]; simp
end Go.Proofs.YtcnenkhgbifmmaaDoor
