/- Plain facts on the fires: what a wall clock shows at them, that they rise, how many a day has. No program in sight. -/
import Derived.Test.YtmicbniipbcapaaDoorReMath5
set_option linter.unusedVariables false
namespace Go.Proofs.YtmicbniipbcapaaDoor.Rc
open Lpm
theorem lenD_last {l : LL} (hv : valid l = true) : lenD l 34000 = 86400000000 := by
  have := start_last hv
  unfold lenD
  show start l 34001 - start l 34000 = _
  omega
/-- the times of a day's fires -/
theorem fon_mem {l : LL} {r : Rec} {d t : Int} (hv : valid l = true) (hr : validB r = true) (h0 : 0 ≤ d) (h1 : d ≤ 34000) (ht : t ∈ fon l r d) :
    (t = start l d + r.sec * 1000000 ∧ r.sec * 1000000 < lenD l d) ∨ (r.sec = 86399 ∧ t = start l d + 86400000000 ∧ 86400000000 < lenD l d) ∨ (r.sec = 86399 ∧ r.shift = true ∧ t = start l (d + 1) ∧ lenD l d = 86399000000 ∧ d + 1 ≤ 34000) := by
  have hV := (of_decide_eq_true hr : Val r).2.2.1
  have ways := tim_ways hv hV.1 hV.2 d
  unfold fon at ht
  rcases ways with ⟨a1, a2, e⟩ | ⟨a1, a2, e⟩ | ⟨a1, a2, e⟩ | ⟨a1, a2, e⟩
  · rw [e] at ht
    simp at ht
    exact .inl ⟨ht, a2⟩
  · rw [e] at ht
    simp at ht
    obtain ⟨hs, ht⟩ := ht
    have hd : d + 1 ≤ 34000 := by
      rcases Int.lt_or_le d 34000 with h | h
      · omega
      · exfalso
        obtain rfl : d = 34000 := by omega
        have := lenD_last hv
        omega
    exact .inr (.inr ⟨a1, hs, by rw [ht]; exact (st_yes hv (by omega) hd).2.1, a2, hd⟩)
  · rw [e] at ht
    simp at ht
    exact .inl ⟨ht, by rw [a2, a1]; decide⟩
  · rw [e] at ht
    have : t = start l d + r.sec * 1000000 ∨ t = start l d + (r.sec * 1000000 + 1000000) := by
      split at ht
      · rename_i h; exact absurd h.1 (by simp)
      · split at ht
        · simp at ht; exact .inl ht
        · simpa using ht
    rcases this with h | h
    · exact .inl ⟨h, by rw [a2, a1]; decide⟩
    · exact .inr (.inl ⟨a1, by rw [h, a1]; omega, by rw [a2]; decide⟩)
theorem fon_bd {l : LL} {r : Rec} {d t : Int} (hv : valid l = true) (hr : validB r = true) (h0 : 0 ≤ d) (h1 : d ≤ 34000) (ht : t ∈ fon l r d) :
    start l d + r.sec * 1000000 ≤ t ∧ (t < start l (d + 1) ∨ (t = start l (d + 1) ∧ r.sec = 86399)) := by
  have e : lenD l d = start l (d + 1) - start l d := rfl
  rcases fon_mem hv hr h0 h1 ht with ⟨rfl, h⟩ | ⟨a, rfl, h⟩ | ⟨a, -, rfl, h, -⟩
  · exact ⟨Int.le_refl _, .inl (by omega)⟩
  · exact ⟨by omega, .inl (by omega)⟩
  · exact ⟨by omega, .inr ⟨rfl, a⟩⟩
theorem tim_rise {l : LL} {sec d : Int} : (tim l sec d).Pairwise (· < ·) := by
  unfold tim; split
  · simp
  · split
    · simp; omega
    · simp
theorem fon_rise {l : LL} {r : Rec} {d : Int} : (fon l r d).Pairwise (· < ·) := by
  unfold fon
  split
  · simp
  · split
    · exact tim_rise.take
    · exact tim_rise
theorem firesOf_rise {l : LL} {r : Rec} (hv : valid l = true) (hr : validB r = true) (ds : List Int) (hs : ds.Pairwise (· < ·)) (hb : ∀ d ∈ ds, 0 ≤ d ∧ d ≤ 34000) : (firesOf l r ds).Pairwise fun x y => x.2 < y.2 := by
  have hV := (of_decide_eq_true hr : Val r).2.2.1
  induction ds with
  | nil => exact List.Pairwise.nil
  | cons d ds ih =>
    have e : firesOf l r (d :: ds) = fonP l r d ++ firesOf l r ds := rfl
    obtain ⟨s1, s2⟩ := List.pairwise_cons.1 hs
    rw [e, List.pairwise_append]
    refine ⟨?_, ih s2 fun x hx => hb x (List.mem_cons_of_mem _ hx), ?_⟩
    · unfold fonP; rw [List.pairwise_map]; exact fon_rise
    · intro x hx y hy
      obtain ⟨t, ht, rfl⟩ := List.mem_map.1 hx
      obtain ⟨d', hd', hy⟩ := List.mem_flatMap.1 hy
      obtain ⟨t', ht', rfl⟩ := List.mem_map.1 hy
      obtain ⟨b0, b1⟩ := hb d (List.mem_cons_self)
      obtain ⟨c0, c1⟩ := hb d' (List.mem_cons_of_mem _ hd')
      have hlt := s1 d' hd'
      have f1 := fon_bd hv hr b0 b1 ht
      have f2 := fon_bd hv hr c0 c1 ht'
      have := start_le hv (a := d + 1) (b := d') (by omega)
      show t < t'
      omega
/-- how many fires have a day -/
def cnt (L : LL) (d : Int) : Nat := (L.filter fun x => x.1 == d).length
theorem cnt_snoc (L : LL) (x : Int × Int) (d : Int) : cnt (L ++ [x]) d = cnt L d + (if x.1 = d then 1 else 0) := by
  unfold cnt
  rw [List.filter_append, List.length_append]
  by_cases h : x.1 = d <;> simp [h]
theorem cnt_fonP (l : LL) (r : Rec) (d d' : Int) : cnt (fonP l r d) d' = if d = d' then (fon l r d).length else 0 := by
  unfold cnt fonP
  by_cases h : d = d'
  · subst h
    rw [if_pos rfl, List.filter_eq_self.2, List.length_map]
    intro x hx
    obtain ⟨t, -, rfl⟩ := List.mem_map.1 hx
    simp
  · rw [if_neg h, List.filter_eq_nil_iff.2]
    · rfl
    · intro x hx
      obtain ⟨t, -, rfl⟩ := List.mem_map.1 hx
      simpa using h
theorem cnt_firesOf (l : LL) (r : Rec) (ds : List Int) (hs : ds.Pairwise (· < ·)) (d : Int) : cnt (firesOf l r ds) d = if d ∈ ds then (fon l r d).length else 0 := by
  induction ds with
  | nil => rfl
  | cons x ds ih =>
    have e : firesOf l r (x :: ds) = fonP l r x ++ firesOf l r ds := rfl
    obtain ⟨s1, s2⟩ := List.pairwise_cons.1 hs
    have ea : cnt (firesOf l r (x :: ds)) d = cnt (fonP l r x) d + cnt (firesOf l r ds) d := by rw [e]; unfold cnt; rw [List.filter_append, List.length_append]
    rw [ea, ih s2, cnt_fonP]
    by_cases h : x = d
    · subst h
      have : x ∉ ds := fun hm => by have := s1 x hm; omega
      simp [this]
    · have h' : d ≠ x := fun e => h e.symm
      simp [h, h']
/-- how many fires a day is to have -/
def want (l : LL) (r : Rec) (d : Int) : Int := if r.sec = 86399 ∧ lenD l d < 86400000000 ∧ r.shift = false then 0 else if r.sec = 86399 ∧ 86400000000 < lenD l d ∧ r.both = true then 2 else 1
theorem want_is {l : LL} {r : Rec} {d : Int} (hv : valid l = true) (hr : validB r = true) : want l r d = (fon l r d).length := by
  have hV := (of_decide_eq_true hr : Val r).2.2.1
  have ways := tim_ways hv hV.1 hV.2 d
  unfold want fon
  rcases ways with ⟨a1, a2, e⟩ | ⟨a1, a2, e⟩ | ⟨a1, a2, e⟩ | ⟨a1, a2, e⟩
  · rw [e, if_neg (by omega), if_neg (by omega)]; simp
  · rw [e, a1, a2]; cases r.shift <;> simp
  · rw [e, a1, a2]; simp
  · rw [e, a1, a2]; cases r.both <;> simp
end Go.Proofs.YtmicbniipbcapaaDoor.Rc
