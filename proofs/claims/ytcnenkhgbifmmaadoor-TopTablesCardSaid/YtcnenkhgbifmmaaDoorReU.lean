/- The head of the laws of chapter 21: its examples. -/
import Derived.Test.YtcnenkhgbifmmaaDoorReT
import Derived.Test.YtcnenkhgbifmmaaDoorReMath
set_option linter.unusedVariables false
namespace Go.Proofs.YtcnenkhgbifmmaaDoor
open Go.RowKit
def DLit (l : List Int) (n : Nat) (er : Int) (w : World) (e : Ending) (w' : World) : Prop := ∃ A c, e = .returned (.tuple #[.slice A n c, .int .i64 er]) ∧ Li w'.heap.size w' A n l ∧ Below w.heap.size w w'
def FLit (l : Lpm.LL) (n : Nat) (w : World) (e : Ending) (w' : World) : Prop := ∃ A c, e = .returned (.tuple #[.slice A n c, .int .i64 0]) ∧ n ≤ c ∧ c ≤ maxLen ∧ Lp w'.heap.size w' A n l ∧ Below w.heap.size w w'
theorem dl_of {r : Rec} {w : World} {l : List Int} {n : Nat} {er : Int} {f : FuncId} {args : Array Value} (h : Calls Tryd.prog f args w (DaysPost r w)) (hE : Rc.dysE r = er) (hV : Rc.dysV r = l) (hn : l.length = n) : Calls Tryd.prog f args w (DLit l n er w) :=
  h.mono fun e w' ⟨v, he, ho, hb⟩ => by
    rw [hV, hn] at ho
    obtain ⟨A, c, rfl, -, -, hL⟩ := own_li ho hn
    exact ⟨A, c, by rw [he, hE], hL, hb⟩
theorem fl_of {r : Rec} {t : Lpm.LL} {w : World} {l : Lpm.LL} {n : Nat} {f : FuncId} {args : Array Value} (h : Calls Tryd.prog f args w (FiresPost t r w)) (hE : Rc.fiE t r = 0) (hV : Rc.fiV t r = l) (hn : l.length = n) : Calls Tryd.prog f args w (FLit l n w) :=
  h.mono fun e w' ⟨v, he, ho, hb⟩ => by
    rw [hV, hn] at ho
    obtain ⟨A, c, rfl, h1, -, hL⟩ := own_lp ho hn
    exact ⟨A, c, by rw [he, hE], h1, own_cap ho, hL, hb⟩
theorem fit_r (r : Rec) (h : (Lit.int .i64 r.kind).wf = true) (hf : r.unt - r.frm ≤ 1200) : Fit21 r := ⟨h, fun _ => hf⟩
theorem li_lit {W : World} {b : Nat} {l : List Int} {n : Nat} {t : TypeId} (h : W.heap[b]? = some (.cells (cellsI l).toArray t)) (hn : l.length = n) : Li W.heap.size W (some ⟨b, 0, none⟩) n l :=
  ⟨hn, fun _ => ⟨b, 0, rfl, lt_of_heap h, fun j hj => by
    have := cellsI_at l j (by omega)
    simp [World.cell?, h, this]⟩⟩
theorem lp_lit {W : World} {b : Nat} {l : Lpm.LL} {n : Nat} {t : TypeId} (h : W.heap[b]? = some (.cells (cellsL l).toArray t)) (hn : l.length = n) : Lp W.heap.size W (some ⟨b, 0, none⟩) n l :=
  ⟨hn, fun _ => ⟨b, 0, rfl, lt_of_heap h, fun j hj => by
    obtain ⟨p, q⟩ := cellsL_at l j (by omega)
    simp [World.cell?, h, p, q]⟩⟩
theorem lp_tail {B : Nat} {W : World} {b off n : Nat} {x : Int × Int} {l : Lpm.LL} (h : Lp B W (some ⟨b, off, none⟩) (n + 1) (x :: l)) : Lp B W (some ⟨b, off + 2, none⟩) n l :=
  ⟨by simpa using h.1, fun hn => by
    obtain ⟨b', off', e, hb, hc⟩ := h.2 (by omega)
    cases e
    refine ⟨b, off + 2, rfl, hb, fun j hj => ?_⟩
    have := hc (j + 1) (by omega)
    simp only [List.getElem?_cons_succ] at this
    rw [show off + (j + 1) * 2 = off + 2 + j * 2 by omega] at this
    exact this⟩
end Go.Proofs.YtcnenkhgbifmmaaDoor
