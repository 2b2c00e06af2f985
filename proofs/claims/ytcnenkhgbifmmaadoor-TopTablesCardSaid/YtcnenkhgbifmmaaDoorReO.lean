/- The reference's less and Correct. -/
import Derived.Test.YtcnenkhgbifmmaaDoorReN
set_option linter.unusedVariables false
namespace Go.Proofs.YtcnenkhgbifmmaaDoor
open Go.RowKit
theorem fil_yes {p : Int × Int → Bool} {l : Lpm.LL} {k n : Nat} {x : Int × Int} (h : l.length = n) (hk : k < n) (hx : l[k]?.getD (0, 0) = x) (hp : p x = true) : (l.take (k + 1)).filter p = (l.take k).filter p ++ [x] := by
  rw [takeL_snoc h hk, hx, List.filter_append]; simp [hp]
theorem fil_no {p : Int × Int → Bool} {l : Lpm.LL} {k n : Nat} {x : Int × Int} (h : l.length = n) (hk : k < n) (hx : l[k]?.getD (0, 0) = x) (hp : p x = false) : (l.take (k + 1)).filter p = (l.take k).filter p := by
  rw [takeL_snoc h hk, hx, List.filter_append]; simp [hp]
def lessP (b : Lpm.LL) (t : Int) (x : Int × Int) : Bool := decide (t < x.2) && !b.contains x
/-- two lists of fires, and an error -/
def CoPost (o nw : Lpm.LL) (r : Rec) (t : Int) (w : World) (e : Ending) (w' : World) : Prop :=
  ∃ A1 k1 c1 A2 k2 c2, e = .returned (.tuple #[.slice A1 k1 c1, .slice A2 k2 c2, .int .i64 (Rc.coE o nw r t)]) ∧ (A1 = none → k1 = 0 ∧ c1 = 0) ∧ (A2 = none → k2 = 0 ∧ c2 = 0) ∧ Lp w'.heap.size w' A1 k1 (Rc.coF o nw r t) ∧ Lp w'.heap.size w' A2 k2 (Rc.coN o nw r t) ∧ Below w.heap.size w w'
theorem co_no {o nw : Lpm.LL} {r : Rec} {t : Int} {w w' : World} {e : Int} (h1 : Rc.coE o nw r t = e) (h2 : e ≠ 0) (hb : Below w.heap.size w w') : CoPost o nw r t w (.returned (.tuple #[.slice none 0 0, .slice none 0 0, .int .i64 e])) w' := by
  have e1 : Rc.coF o nw r t = [] := by unfold Rc.coF; rw [if_neg (by omega)]
  have e2 : Rc.coN o nw r t = [] := by unfold Rc.coN; rw [if_neg (by omega)]
  exact ⟨none, 0, 0, none, 0, 0, by rw [h1], fun _ => ⟨rfl, rfl⟩, fun _ => ⟨rfl, rfl⟩, by rw [e1]; exact lp_nil _ _ _, by rw [e2]; exact lp_nil _ _ _, hb⟩
theorem co_yes {o nw : Lpm.LL} {r : Rec} {t : Int} {w w' : World} {A1 A2 : Option Addr} {k1 c1 k2 c2 : Nat} (h1 : Rc.coE o nw r t = 0) (h3 : A1 = none → k1 = 0 ∧ c1 = 0) (h4 : A2 = none → k2 = 0 ∧ c2 = 0) (L1 : Lp w'.heap.size w' A1 k1 (Rc.less (Rc.fiV o r) (Rc.fiV nw r) t)) (L2 : Lp w'.heap.size w' A2 k2 (Rc.less (Rc.fiV nw r) (Rc.fiV o r) t)) (hb : Below w.heap.size w w') :
    CoPost o nw r t w (.returned (.tuple #[.slice A1 k1 c1, .slice A2 k2 c2, .int .i64 0])) w' :=
  ⟨A1, k1, c1, A2, k2, c2, by rw [h1], h3, h4, by unfold Rc.coF; rw [if_pos h1]; exact L1, by unfold Rc.coN; rw [if_pos h1]; exact L2, hb⟩
theorem coE_bad {o nw : Lpm.LL} {r : Rec} {t : Int} (h : t < 0 ∨ 3000000000000000 < t) : Rc.coE o nw r t = 1 := by unfold Rc.coE; rw [if_neg (by omega)]
theorem coE_in {o nw : Lpm.LL} {r : Rec} {t : Int} (h0 : 0 ≤ t) (h1 : t ≤ 3000000000000000) : Rc.coE o nw r t = if Rc.fiE o r = 0 then Rc.fiE nw r else Rc.fiE o r := by unfold Rc.coE; rw [if_pos ⟨h0, h1⟩]
end Go.Proofs.YtcnenkhgbifmmaaDoor
