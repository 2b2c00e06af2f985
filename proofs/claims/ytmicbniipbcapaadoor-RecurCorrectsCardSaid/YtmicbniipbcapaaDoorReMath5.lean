/- Plain facts: by the same table nothing is corrected; a change of the table from a day on corrects no fire of an earlier day. No program in sight. -/
import Derived.Test.YtmicbniipbcapaaDoorReMath4
set_option linter.unusedVariables false
namespace Go.Proofs.YtmicbniipbcapaaDoor.Rc
open Lpm
theorem less_self (a : LL) (t : Int) : less a a t = [] := by
  unfold less
  rw [List.filter_eq_nil_iff]
  intro x hx h
  simp only [Bool.and_eq_true, decide_eq_true_eq, Bool.not_eq_true'] at h
  have := List.contains_iff_mem.2 hx
  rw [this] at h
  exact absurd h.2 (by decide)
theorem co_self (o : LL) (r : Rec) (t : Int) : coF o o r t = [] ∧ coN o o r t = [] := by
  unfold coF coN
  constructor <;> (split <;> first | rfl | exact less_self _ _)
theorem flt_flt {l : LL} {d day : Int} (h : d ≤ day) : flt l d = (flt l day).filter fun x => decide (x.1 < d) := by
  unfold flt
  rw [List.filter_filter]
  congr 1
  funext x
  rw [Bool.eq_iff_iff]
  simp only [Bool.and_eq_true, decide_eq_true_eq]
  omega
theorem start_same {o n : LL} {day d : Int} (ho : valid o = true) (hn : valid n = true) (h : flt o day = flt n day) (hd : d ≤ day) : start o d = start n d := by
  have e : ofs o d = ofs n d := by
    rw [ofs_flt ho, ofs_flt hn, flt_flt hd, h, ← flt_flt hd]
  unfold start; rw [e]
theorem fon_same {o n : LL} {r : Rec} {day d : Int} (ho : valid o = true) (hn : valid n = true) (h : flt o day = flt n day) (hd : d < day) : fon o r d = fon n r d := by
  have e0 := start_same ho hn h (d := d) (by omega)
  have e1 := start_same ho hn h (d := d + 1) (by omega)
  have el : lenD o d = lenD n d := by unfold lenD; rw [e0, e1]
  have et : tim o r.sec d = tim n r.sec d := by unfold tim; rw [el, e0]
  have es : stV o (d + 1) = stV n (d + 1) := by unfold stV; rw [ho, hn, e1]
  unfold fon; rw [et, es]
theorem mem_fires {l : LL} {r : Rec} {x : Int × Int} : x ∈ fires l r ↔ x.1 ∈ days r ∧ x.2 ∈ fon l r x.1 := by
  unfold fires firesOf fonP
  rw [List.mem_flatMap]
  constructor
  · rintro ⟨d, hd, hx⟩
    obtain ⟨t, ht, rfl⟩ := List.mem_map.1 hx
    exact ⟨hd, ht⟩
  · rintro ⟨h1, h2⟩
    exact ⟨x.1, h1, List.mem_map.2 ⟨x.2, h2, rfl⟩⟩
theorem fires_same {o n : LL} {r : Rec} {day : Int} (ho : valid o = true) (hn : valid n = true) (h : flt o day = flt n day) {x : Int × Int} (hx : x ∈ fires o r) (hd : x.1 < day) : x ∈ fires n r := by
  rw [mem_fires] at hx ⊢
  rw [← fon_same ho hn h hd]; exact hx
theorem less_day {o n : LL} {r : Rec} {day t : Int} (ho : valid o = true) (hn : valid n = true) (h : flt o day = flt n day) {x : Int × Int} (hx : x ∈ less (fires o r) (fires n r) t) : day ≤ x.1 := by
  unfold less at hx
  rw [List.mem_filter] at hx
  obtain ⟨h1, h2⟩ := hx
  rcases Int.lt_or_le x.1 day with hlt | hle
  · have := List.contains_iff_mem.2 (fires_same ho hn h h1 hlt)
    rw [this] at h2
    simp at h2
  · exact hle
theorem co_ok {o n : LL} {r : Rec} {t : Int} (h0 : 0 ≤ t) (h1 : t ≤ 3000000000000000) : coE o n r t = 0 ↔ fiE o r = 0 ∧ fiE n r = 0 := by
  unfold coE; rw [if_pos ⟨h0, h1⟩]
  split
  · rename_i h; exact ⟨fun e => ⟨h, e⟩, fun e => e.2⟩
  · rename_i h; exact ⟨fun e => absurd e h, fun e => absurd e.1 h⟩
theorem co_day {o n : LL} {r : Rec} {day t : Int} (h0 : 0 ≤ t) (h1 : t ≤ 3000000000000000) (hE : coE o n r t = 0) (h : flt o day = flt n day) :
    (∀ x ∈ coF o n r t, day ≤ x.1) ∧ (∀ x ∈ coN o n r t, day ≤ x.1) := by
  obtain ⟨e1, e2⟩ := (co_ok h0 h1).1 hE
  obtain ⟨v1, -, -, f1, -⟩ := fi_ok e1
  obtain ⟨v2, -, -, f2, -⟩ := fi_ok e2
  unfold coF coN
  rw [if_pos hE, if_pos hE, f1, f2]
  exact ⟨fun x hx => less_day v1 v2 h hx, fun x hx => less_day v2 v1 h.symm hx⟩
end Go.Proofs.YtmicbniipbcapaaDoor.Rc
