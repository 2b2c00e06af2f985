/- Plain facts on other schedules: another second; an earlier Until. No program in sight. -/
import Derived.Test.YtmicbniipbcapaaDoorReMath2
set_option linter.unusedVariables false
namespace Go.Proofs.YtmicbniipbcapaaDoor.Rc
open Lpm
abbrev setSec (r : Rec) (s : Int) : Rec := ⟨r.kind, r.every, r.wd, r.nth, r.frm, r.unt, s, r.shift, r.both⟩
theorem val_sec {r : Rec} {s : Int} (h : validB r = true) (h0 : 0 ≤ s) (h1 : s ≤ 86399) : validB (setSec r s) = true := by
  have := (of_decide_eq_true h : Val r)
  exact decide_eq_true ⟨this.1, this.2.1, ⟨h0, h1⟩, this.2.2.2⟩
theorem dysE_sec {r : Rec} {s : Int} (h : validB r = true) (h' : validB (setSec r s) = true) : dysE (setSec r s) = dysE r := by
  have e : days (setSec r s) = days r := rfl
  unfold dysE
  rw [h, h', e]
theorem fires_one {l : LL} {r : Rec} (hv : valid l = true) (h0 : 0 ≤ r.sec) (h1 : r.sec < 86399) : fires l r = (days r).map fun d => (d, start l d + r.sec * 1000000) := by
  have hd : ∀ d, fonP l r d = [(d, start l d + r.sec * 1000000)] := fun d => by
    have ht : tim l r.sec d = [start l d + r.sec * 1000000] := by
      rcases tim_ways hv h0 (Int.le_of_lt h1) d with ⟨-, -, h⟩ | ⟨h, -⟩ | ⟨h, -⟩ | ⟨h, -⟩
      · exact h
      all_goals omega
    simp [fonP, fon, ht]
  unfold fires firesOf
  rw [show fonP l r = fun d => [(d, start l d + r.sec * 1000000)] from funext hd]
  induction days r with
  | nil => rfl
  | cons x xs ih => simpa using ih
theorem fi_lim {l : LL} {r : Rec} (hv : valid l = true) (h : validB r = true) : fiE l r = 0 ∨ fiE l r = 2 := by
  by_cases c : 1000 < (days r).length
  · have e := (dys_far h c).1
    exact .inr ((fi_days hv (by rw [e]; decide)).1.trans e)
  · have e := (dys_yes h c).1
    by_cases c2 : 1000 < (fires l r).length
    · exact .inr (fi_far hv e c2).1
    · exact .inl (fi_yes hv e c2).1
theorem fi_sec {l : LL} {r : Rec} {s : Int} (hv : valid l = true) (h : validB r = true) (h1 : r.sec < 86399) (s0 : 0 ≤ s) (s1 : s < 86399) :
    fiE l (setSec r s) = fiE l r ∧ (fiV l (setSec r s)).length = (fiV l r).length ∧ (fiE l r = 0 ∨ fiE l r = 2) := by
  have hV := (of_decide_eq_true h : Val r)
  have h' := val_sec h s0 (by omega : s ≤ 86399)
  have e1 := dysE_sec h h'
  have e2 := fires_one (r := r) hv hV.2.2.1.1 h1
  have e3 := fires_one (r := setSec r s) hv s0 s1
  have e4 : days (setSec r s) = days r := rfl
  have e5 : (fires l (setSec r s)).length = (fires l r).length := by rw [e2, e3, e4]; simp
  have e6 : fiE l (setSec r s) = fiE l r := by unfold fiE; rw [e1, e5]
  refine ⟨e6, ?_, ?_⟩
  · unfold fiV; rw [e6]; split
    · exact e5
    · rfl
  · exact fi_lim hv h
theorem sec_at {l : LL} {r : Rec} {s : Int} (hv : valid l = true) (h : validB r = true) (h1 : r.sec < 86399) (s0 : 0 ≤ s) (s1 : s < 86399) (hE : fiE l r = 0) {k : Nat} (hk : k < (fiV l r).length) :
    ∃ d u v, (fiV l r)[k]?.getD (0, 0) = (d, u) ∧ (fiV l (setSec r s))[k]?.getD (0, 0) = (d, v) ∧ -10000000000 ≤ u ∧ u ≤ 4000000000000000 ∧ -10000000000 ≤ v ∧ v ≤ 4000000000000000 ∧ v - u = (s - r.sec) * 1000000 := by
  have hV := (of_decide_eq_true h : Val r)
  have e2 := fires_one (r := r) hv hV.2.2.1.1 h1
  have e3 := fires_one (r := setSec r s) hv s0 s1
  have e4 : days (setSec r s) = days r := rfl
  have hE' := (fi_sec (s := s) hv h h1 s0 s1).1.trans hE
  rw [(fi_ok hE).2.2.2.1] at hk ⊢
  rw [(fi_ok hE').2.2.2.1, e3, e4]
  rw [e2] at hk ⊢
  rw [List.length_map] at hk
  have hm : (days r)[k] ∈ days r := List.getElem_mem _
  rw [mem_days] at hm
  have hb := start_bd (a := (days r)[k]) hv
  refine ⟨(days r)[k], start l (days r)[k] + r.sec * 1000000, start l (days r)[k] + s * 1000000, by simp [hk], by simp [hk], ?_⟩
  have := hV.2.1
  have := hV.2.2.1
  omega
/-! an earlier Until -/
abbrev setUnt (r : Rec) (u : Int) : Rec := ⟨r.kind, r.every, r.wd, r.nth, r.frm, u, r.sec, r.shift, r.both⟩
def before (u d : Int) : Bool := decide (d < u)
def beforeP (u : Int) (x : Int × Int) : Bool := decide (x.1 < u)
theorem val_unt {r : Rec} {u : Int} (h : validB r = true) (h0 : r.frm < u) (h1 : u ≤ r.unt) : validB (setUnt r u) = true := by
  have := (of_decide_eq_true h : Val r)
  refine decide_eq_true ⟨this.1, ⟨this.2.1.1, h0, ?_⟩, this.2.2⟩
  have := this.2.1.2.2
  show u ≤ 34001
  omega
theorem days_unt {r : Rec} {u : Int} (h0 : r.frm < u) (h1 : u ≤ r.unt) : days (setUnt r u) = (days r).filter (before u) := by
  have e1 : days (setUnt r u) = ((List.range (u - r.frm).toNat).map fun i : Nat => r.frm + i).filter (hasB r) := rfl
  have e2 : days r = ((List.range (r.unt - r.frm).toNat).map fun i : Nat => r.frm + i).filter (hasB r) := rfl
  rw [e1, e2, show (r.unt - r.frm).toNat = (u - r.frm).toNat + (r.unt - u).toNat by omega, List.range_add, List.map_append, List.filter_append, List.filter_append]
  have a1 : (((List.range (u - r.frm).toNat).map fun i : Nat => r.frm + i).filter (hasB r)).filter (before u) = ((List.range (u - r.frm).toNat).map fun i : Nat => r.frm + i).filter (hasB r) := by
    rw [List.filter_eq_self]
    intro x hx
    obtain ⟨hx, -⟩ := List.mem_filter.1 hx
    obtain ⟨i, hi, rfl⟩ := List.mem_map.1 hx
    have := List.mem_range.1 hi
    exact decide_eq_true (by omega)
  have a2 : ((((List.range (r.unt - u).toNat).map fun x => (u - r.frm).toNat + x).map fun i : Nat => r.frm + (i : Int)).filter (hasB r)).filter (before u) = [] := by
    rw [List.filter_eq_nil_iff]
    intro x hx
    obtain ⟨hx, -⟩ := List.mem_filter.1 hx
    obtain ⟨i, hi, rfl⟩ := List.mem_map.1 hx
    obtain ⟨j, -, rfl⟩ := List.mem_map.1 hi
    simp only [before, decide_eq_true_iff]
    omega
  rw [a1, a2, List.append_nil]
theorem firesOf_before {l : LL} {r : Rec} {u : Int} (ds : List Int) : (firesOf l r ds).filter (beforeP u) = firesOf l r (ds.filter (before u)) := by
  induction ds with
  | nil => rfl
  | cons d ds ih =>
    have e : firesOf l r (d :: ds) = fonP l r d ++ firesOf l r ds := rfl
    rw [e, List.filter_append, ih]
    by_cases h : d < u
    · have e1 : (fonP l r d).filter (beforeP u) = fonP l r d := by
        rw [List.filter_eq_self]
        intro x hx
        obtain ⟨t, -, rfl⟩ := List.mem_map.1 hx
        exact decide_eq_true h
      rw [e1, List.filter_cons, if_pos (by exact decide_eq_true h)]
      rfl
    · have e1 : (fonP l r d).filter (beforeP u) = [] := by
        rw [List.filter_eq_nil_iff]
        intro x hx
        obtain ⟨t, -, rfl⟩ := List.mem_map.1 hx
        simp only [beforeP, decide_eq_true_iff]; exact h
      rw [e1, List.filter_cons, if_neg (by simp only [before, decide_eq_true_iff]; exact h)]
      rfl
theorem fires_unt {l : LL} {r : Rec} {u : Int} (h0 : r.frm < u) (h1 : u ≤ r.unt) : fires l (setUnt r u) = (fires l r).filter (beforeP u) := by
  have e : fires l (setUnt r u) = firesOf l r (days (setUnt r u)) := rfl
  rw [e, days_unt h0 h1, ← firesOf_before]; rfl
theorem unt_ok {l : LL} {r : Rec} {u : Int} (h0 : r.frm < u) (h1 : u ≤ r.unt) (hF : fiE l r = 0) :
    dysE (setUnt r u) = 0 ∧ dysV (setUnt r u) = (dysV r).filter (before u) ∧ fiE l (setUnt r u) = 0 ∧ fiV l (setUnt r u) = (fiV l r).filter (beforeP u) := by
  obtain ⟨hv, hB, hD, hV, c1, c2⟩ := fi_ok hF
  have e1 := days_unt h0 h1
  have e2 := fires_unt (l := l) h0 h1
  have n1 := List.length_filter_le (before u) (days r)
  have n2 := List.length_filter_le (beforeP u) (fires l r)
  rw [← e1] at n1
  rw [← e2] at n2
  obtain ⟨d1, d2⟩ := dys_yes (val_unt hB h0 h1) (by omega)
  obtain ⟨f1, f2⟩ := fi_yes hv d1 (r := setUnt r u) (by omega)
  refine ⟨d1, ?_, f1, ?_⟩
  · rw [d2, e1, (dysV_ok hD).2]
  · rw [f2, e2, hV]
theorem dys_lim {r : Rec} (h : validB r = true) : dysE r = 0 ∨ dysE r = 2 := by
  by_cases c : 1000 < (days r).length
  · exact .inr (dys_far h c).1
  · exact .inl (dys_yes h c).1
end Go.Proofs.YtmicbniipbcapaaDoor.Rc
