/- Plain facts on the fires of a schedule: the times of a day, the fires of a day, of all days, and what a correction takes away. No program in sight. -/
import Derived.Test.YtmicbniipbcapaaDoorReMath
import Derived.Test.YtmicbniipbcapaaDoorLpMath2
set_option linter.unusedVariables false
namespace Go.Proofs.YtmicbniipbcapaaDoor.Rc
open Lpm
/-- how long a day is -/
def lenD (l : LL) (d : Int) : Int := start l (d + 1) - start l d
theorem lenD_is {l : LL} (h : valid l = true) (d : Int) : lenD l d = 86399000000 ∨ lenD l d = 86400000000 ∨ lenD l d = 86401000000 := by
  have := ofs_succ (day := d) h; unfold lenD start; omega
/-- the times of a second of a day -/
def tim (l : LL) (sec d : Int) : List Int :=
  if lenD l d ≤ sec * 1000000 then [] else if sec = 86399 ∧ sec * 1000000 + 1000000 < lenD l d then [start l d + sec * 1000000, start l d + (sec * 1000000 + 1000000)] else [start l d + sec * 1000000]
/-- the four ways -/
theorem tim_ways {l : LL} (h : valid l = true) {sec : Int} (h0 : 0 ≤ sec) (h1 : sec ≤ 86399) (d : Int) :
    (sec < 86399 ∧ sec * 1000000 < lenD l d ∧ tim l sec d = [start l d + sec * 1000000]) ∨ (sec = 86399 ∧ lenD l d = 86399000000 ∧ tim l sec d = []) ∨
    (sec = 86399 ∧ lenD l d = 86400000000 ∧ tim l sec d = [start l d + sec * 1000000]) ∨ (sec = 86399 ∧ lenD l d = 86401000000 ∧ tim l sec d = [start l d + sec * 1000000, start l d + (sec * 1000000 + 1000000)]) := by
  have hl := lenD_is h d
  unfold tim
  by_cases c : sec = 86399
  · subst c
    rcases hl with e | e | e <;> rw [e] <;> simp
  · refine .inl ⟨by omega, by omega, ?_⟩
    rw [if_neg (by omega), if_neg (by omega)]
theorem tim_len (l : LL) (sec d : Int) : (tim l sec d).length ≤ 2 := by
  unfold tim; split
  · simp
  · split <;> simp
/-- the times at which a schedule fires on a day -/
def fon (l : LL) (r : Rec) (d : Int) : List Int :=
  if (tim l r.sec d).length = 0 ∧ r.shift = true then [stV l (d + 1)] else if 1 < (tim l r.sec d).length ∧ r.both = false then (tim l r.sec d).take 1 else tim l r.sec d
theorem fon_len (l : LL) (r : Rec) (d : Int) : (fon l r d).length ≤ 2 := by
  have := tim_len l r.sec d
  unfold fon; split
  · simp
  · split
    · simp; omega
    · exact this
def fonP (l : LL) (r : Rec) (d : Int) : LL := (fon l r d).map fun t => (d, t)
/-- the fires of some days -/
def firesOf (l : LL) (r : Rec) (ds : List Int) : LL := ds.flatMap (fonP l r)
theorem firesOf_snoc (l : LL) (r : Rec) (ds : List Int) (d : Int) : firesOf l r (ds ++ [d]) = firesOf l r ds ++ fonP l r d := by simp [firesOf]
theorem firesOf_len (l : LL) (r : Rec) (ds : List Int) : (firesOf l r ds).length ≤ 2 * ds.length := by
  induction ds with
  | nil => simp [firesOf]
  | cons d ds ih =>
    have e : firesOf l r (d :: ds) = fonP l r d ++ firesOf l r ds := rfl
    have := fon_len l r d
    rw [e, List.length_append, List.length_cons]
    unfold fonP; rw [List.length_map]; omega
noncomputable def fires (l : LL) (r : Rec) : LL := firesOf l r (days r)
/-- what Fires returns -/
noncomputable def fiE (l : LL) (r : Rec) : Int := if valid l then (if dysE r = 0 then (if 1000 < (fires l r).length then 2 else 0) else dysE r) else 1
noncomputable def fiV (l : LL) (r : Rec) : LL := if fiE l r = 0 then fires l r else []
theorem fi_bad {l : LL} {r : Rec} (h : valid l = false) : fiE l r = 1 ∧ fiV l r = [] := by simp [fiE, fiV, h]
theorem fi_days {l : LL} {r : Rec} (h : valid l = true) (h1 : dysE r ≠ 0) : fiE l r = dysE r ∧ fiV l r = [] := by simp [fiE, fiV, h, h1]
theorem fi_far {l : LL} {r : Rec} (h : valid l = true) (h1 : dysE r = 0) (h2 : 1000 < (fires l r).length) : fiE l r = 2 ∧ fiV l r = [] := by simp [fiE, fiV, h, h1, h2]
theorem fi_yes {l : LL} {r : Rec} (h : valid l = true) (h1 : dysE r = 0) (h2 : ¬ 1000 < (fires l r).length) : fiE l r = 0 ∧ fiV l r = fires l r := by simp [fiE, fiV, h, h1, h2]
theorem dysV_ok {r : Rec} (h : dysE r = 0) : validB r = true ∧ dysV r = days r := by
  unfold dysV; rw [if_pos h]
  refine ⟨?_, rfl⟩
  unfold dysE at h
  split at h
  · assumption
  · cases h
theorem fi_ok {l : LL} {r : Rec} (h : fiE l r = 0) : valid l = true ∧ validB r = true ∧ dysE r = 0 ∧ fiV l r = fires l r ∧ (fires l r).length ≤ 1000 ∧ (days r).length ≤ 1000 := by
  have h2 : fiV l r = fires l r := by unfold fiV; rw [if_pos h]
  unfold fiE at h
  split at h
  · rename_i hv
    split at h
    · rename_i hd
      split at h
      · cases h
      · refine ⟨hv, (dysV_ok hd).1, hd, h2, by omega, ?_⟩
        have := dysV_len r
        rwa [(dysV_ok hd).2] at this
    · rename_i hd
      exact absurd h hd
  · cases h
theorem fiV_len (l : LL) (r : Rec) : (fiV l r).length ≤ 1000 := by
  unfold fiV; split
  · rename_i h; exact (fi_ok h).2.2.2.2.1
  · simp
/-- the fires after a time that are not in another list -/
def less (a b : LL) (t : Int) : LL := a.filter fun x => decide (t < x.2) && !b.contains x
noncomputable def coE (o n : LL) (r : Rec) (t : Int) : Int := if 0 ≤ t ∧ t ≤ 3000000000000000 then (if fiE o r = 0 then fiE n r else fiE o r) else 1
noncomputable def coF (o n : LL) (r : Rec) (t : Int) : LL := if coE o n r t = 0 then less (fiV o r) (fiV n r) t else []
noncomputable def coN (o n : LL) (r : Rec) (t : Int) : LL := if coE o n r t = 0 then less (fiV n r) (fiV o r) t else []
theorem less_len (a b : LL) (t : Int) : (less a b t).length ≤ a.length := List.length_filter_le _ _
end Go.Proofs.YtmicbniipbcapaaDoor.Rc
