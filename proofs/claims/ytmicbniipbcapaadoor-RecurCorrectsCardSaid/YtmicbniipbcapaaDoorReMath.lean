/- Plain facts on recurring schedules: the days of a schedule, found period by period, are those found day by day. No program in sight. -/
import Derived.Test.YtmicbniipbcapaaDoorMath
set_option linter.unusedVariables false
namespace Go.Proofs.YtmicbniipbcapaaDoor

/-- a schedule -/
structure Rec where
  (kind every wd nth frm unt sec : Int)
  (shift both : Bool)

namespace Rc
open Cal

def Val (r : Rec) : Prop := (1 ≤ r.every ∧ r.every ≤ 1000) ∧ (0 ≤ r.frm ∧ r.frm < r.unt ∧ r.unt ≤ 34001) ∧ (0 ≤ r.sec ∧ r.sec ≤ 86399) ∧
  ((r.kind = 1 ∧ r.wd = 0 ∧ r.nth = 0) ∨ (r.kind = 2 ∧ (0 ≤ r.wd ∧ r.wd ≤ 6) ∧ r.nth = 0) ∨ (r.kind = 3 ∧ r.wd = 0 ∧ 1 ≤ r.nth ∧ r.nth ≤ 31) ∨ (r.kind = 4 ∧ (0 ≤ r.wd ∧ r.wd ≤ 6) ∧ (r.nth = -1 ∨ 1 ≤ r.nth ∧ r.nth ≤ 5)))
instance (r : Rec) : Decidable (Val r) := by unfold Val; exact inferInstance
def validB (r : Rec) : Bool := decide (Val r)

/-- the number of the month of a day, from January 2000 on -/
noncomputable def mon (d : Int) : Int := 12 * (dY d - 2000) + dM d - 1
/-- the number of the period of a day -/
noncomputable def per (r : Rec) (d : Int) : Int := if r.kind = 1 then d else if r.kind = 2 then (d + 5) / 7 else mon d
/-- whether a day is one of the kind -/
noncomputable def ofKind (r : Rec) (d : Int) : Bool :=
  if r.kind = 1 then true else if r.kind = 2 then decide ((d + 5) % 7 = r.wd) else if r.kind = 3 then decide (dD d = r.nth)
  else decide (nthE (dY d) (dM d) r.wd r.nth = 0 ∧ nthV (dY d) (dM d) r.wd r.nth = d)
noncomputable def hasB (r : Rec) (d : Int) : Bool := ofKind r d && decide ((per r d - per r r.frm) % r.every = 0)
/-- the year and the month of a period -/
noncomputable def pY (r : Rec) (n : Int) : Int := dY r.frm + (dM r.frm - 1 + n * r.every) / 12
noncomputable def pM (r : Rec) (n : Int) : Int := 1 + (dM r.frm - 1 + n * r.every) % 12
/-- the day of a period, and the error -/
noncomputable def pd (r : Rec) (n : Int) : Int :=
  if r.kind = 1 then r.frm + n * r.every else if r.kind = 2 then r.frm - (r.frm + 5) % 7 + r.wd + 7 * n * r.every
  else if r.kind = 3 then nV (pY r n) (pM r n) r.nth else nthV (pY r n) (pM r n) r.wd r.nth
noncomputable def pE (r : Rec) (n : Int) : Int := if r.kind = 1 then 0 else if r.kind = 2 then 0 else if r.kind = 3 then nE (pY r n) (pM r n) r.nth else nthE (pY r n) (pM r n) r.wd r.nth
def inR (r : Rec) (d : Int) : Bool := decide (r.frm ≤ d ∧ d ≤ r.unt - 1)
noncomputable def pick (r : Rec) (n : Int) : Option Int := if pE r n = 0 ∧ inR r (pd r n) = true then some (pd r n) else none
noncomputable def outTo (r : Rec) (k : Nat) : List Int := (List.range k).filterMap fun n : Nat => pick r n
noncomputable def daysTo (r : Rec) (k : Nat) : List Int := ((List.range k).map fun i : Nat => r.frm + i).filter (hasB r)
noncomputable def days (r : Rec) : List Int := daysTo r (r.unt - r.frm).toNat

theorem mon_step {d : Int} (h : 0 ≤ d) : mon d ≤ mon (d + 1) ∧ mon (d + 1) ≤ mon d + 1 := by
  obtain ⟨⟨a1, a2, a3, a4, a5⟩, e⟩ := date_of h
  unfold mon
  generalize dY d = y at *
  generalize dM d = m at *
  generalize dD d = k at *
  by_cases c : k < len y m
  · obtain ⟨x1, x2, x3⟩ := date_is (n := d + 1) (y := y) (m := m) (d := k + 1) ⟨a1, a2, a3, by omega, by omega⟩ (by omega)
    rw [x1, x2]; omega
  · by_cases c2 : m ≤ 11
    · have := fst_succ y m a2 c2
      have := len_bd y (m + 1)
      obtain ⟨x1, x2, x3⟩ := date_is (n := d + 1) (y := y) (m := m + 1) (d := 1) ⟨a1, by omega, by omega, by omega, by omega⟩ (by omega)
      rw [x1, x2]; omega
    · obtain rfl : m = 12 := by omega
      have := fst_year y
      have := len_bd (y + 1) 1
      obtain ⟨x1, x2, x3⟩ := date_is (n := d + 1) (y := y + 1) (m := 1) (d := 1) ⟨by omega, by omega, by omega, by omega, by omega⟩ (by omega)
      rw [x1, x2]; omega
theorem per_step (r : Rec) {d : Int} (h : 0 ≤ d) : per r d ≤ per r (d + 1) ∧ per r (d + 1) ≤ per r d + 1 := by
  have := mon_step h
  unfold per
  by_cases c1 : r.kind = 1
  · simp only [if_pos c1]; omega
  · by_cases c2 : r.kind = 2
    · simp only [if_neg c1, if_pos c2]; omega
    · simp only [if_neg c1, if_neg c2]; exact this
theorem per_le (r : Rec) {d : Int} (h : 0 ≤ d) (n : Nat) : per r d ≤ per r (d + n) ∧ per r (d + n) ≤ per r d + n := by
  induction n with
  | zero => simp
  | succ n ih =>
    have a := per_step r (d := d + n) (by omega)
    rw [show d + (n : Int) + 1 = d + ((n + 1 : Nat) : Int) by omega] at a
    omega
theorem per_mono (r : Rec) {d d' : Int} (h : 0 ≤ d) (h' : d ≤ d') : per r d ≤ per r d' ∧ per r d' ≤ per r d + (d' - d) := by
  have := per_le r h (d' - d).toNat
  rw [show d + ((d' - d).toNat : Int) = d' by omega] at this
  omega

theorem pM_bd (r : Rec) (n : Int) : 1 ≤ pM r n ∧ pM r n ≤ 12 := by unfold pM; omega
theorem pYM (r : Rec) (n : Int) : 12 * (pY r n - 2000) + pM r n - 1 = mon r.frm + n * r.every := by
  unfold pY pM mon; generalize n * r.every = t; omega
theorem nE_zero {y m d : Int} (h : nE y m d = 0) : V y m d ∧ nV y m d = fst y m + d - 1 ∧ y ≤ 2093 ∧ fst y m + d - 1 ≤ 34000 := by
  unfold nE at h
  split at h
  · rename_i c
    split at h
    · cases h
    · rename_i c2
      have c' := c
      simp only [datB, decide_eq_true_eq] at c'
      refine ⟨⟨by omega, by omega, by omega, by omega, by omega⟩, ?_, by omega, by omega⟩
      unfold nV; rw [if_pos c, if_neg c2]
  · cases h
theorem nthE_zero {y m w n : Int} (h : nthE y m w n = 0) : (2000 ≤ y ∧ y ≤ 2093 ∧ 1 ≤ m ∧ m ≤ 12 ∧ 0 ≤ w ∧ w ≤ 6 ∧ (n = -1 ∨ 1 ≤ n ∧ n ≤ 5)) ∧ nthV y m w n = nthD y m w n ∧ nthD y m w n < fst y m + len y m ∧ fst y m ≤ nthD y m w n ∧ nthD y m w n ≤ 34000 := by
  unfold nthE at h
  split at h
  · rename_i c
    split at h
    · cases h
    · rename_i c2
      split at h
      · cases h
      · rename_i c3
        have c' := c
        simp only [nthB, decide_eq_true_eq] at c'
        have := nthS_bd y m w
        have hl := len_bd y m
        refine ⟨c', ?_, by omega, ?_, by omega⟩
        · unfold nthV; rw [if_pos c, if_neg c2, if_neg c3]
        · unfold nthD; split <;> omega
  · cases h
/-- the day of a period lies in it, and is one of the kind -/
theorem pd_has {r : Rec} (h : Val r) {n : Int} (hn : 0 ≤ n) (he : pE r n = 0) (h0 : 0 ≤ pd r n) : per r (pd r n) = per r r.frm + n * r.every ∧ ofKind r (pd r n) = true := by
  obtain ⟨⟨e1, e2⟩, ⟨f1, f2, f3⟩, ⟨s1, s2⟩, hk⟩ := h
  have hym := pYM r n
  have hM := pM_bd r n
  rcases hk with ⟨k, kw, kn⟩ | ⟨k, kw, kn⟩ | ⟨k, kw, kn⟩ | ⟨k, kw, kn⟩
  · unfold per ofKind pd
    simp [k]
  · unfold per ofKind pd at *
    simp only [k, eq_self, if_true, if_false, true_and, show ¬ ((2 : Int) = 1) by decide, decide_eq_true_eq] at *
    rw [Int.mul_assoc] at *
    generalize n * r.every = t at *
    omega
  · unfold per ofKind pd pE at *
    simp only [k, eq_self, if_true, if_false, true_and, show ¬ ((3 : Int) = 1) by decide, show ¬ ((3 : Int) = 2) by decide, decide_eq_true_eq] at *
    obtain ⟨v, e, v1, v2⟩ := nE_zero he
    obtain ⟨x1, x2, x3⟩ := date_is (n := nV (pY r n) (pM r n) r.nth) v e.symm
    unfold mon at *
    rw [x1, x2, x3]
    omega
  · unfold per ofKind pd pE at *
    simp only [k, eq_self, if_true, if_false, true_and, show ¬ ((4 : Int) = 1) by decide, show ¬ ((4 : Int) = 2) by decide, show ¬ ((4 : Int) = 3) by decide, decide_eq_true_eq] at *
    obtain ⟨v, e, v1, v2, v3⟩ := nthE_zero he
    obtain ⟨x1, x2, x3⟩ := date_is (n := nthV (pY r n) (pM r n) r.wd r.nth) (y := pY r n) (m := pM r n) (d := nthV (pY r n) (pM r n) r.wd r.nth - fst (pY r n) (pM r n) + 1) ⟨by omega, by omega, by omega, by omega, by omega⟩ (by omega)
    unfold mon at *
    rw [x1, x2]
    omega
theorem nE_mk {y m d : Int} (h : V y m d) (h1 : fst y m + d - 1 ≤ 34000) : nE y m d = 0 ∧ nV y m d = fst y m + d - 1 := by
  have hy := h.year h1
  obtain ⟨a1, a2, a3, a4, a5⟩ := h
  have c : datB y m d = true := by simp only [datB, decide_eq_true_eq]; omega
  unfold nE nV
  rw [if_pos c, if_neg (by omega), if_pos c, if_neg (by omega)]
  exact ⟨rfl, rfl⟩
/-- a day of the kind is the day of its period -/
theorem has_pd {r : Rec} (h : Val r) {n d : Int} (hn : 0 ≤ n) (hd : 0 ≤ d) (hd' : d ≤ 34000) (hp : per r d = per r r.frm + n * r.every) (hk : ofKind r d = true) : pE r n = 0 ∧ pd r n = d := by
  obtain ⟨⟨e1, e2⟩, ⟨f1, f2, f3⟩, ⟨s1, s2⟩, hkk⟩ := h
  have hym := pYM r n
  have hM := pM_bd r n
  have hmon : r.kind ≠ 1 → r.kind ≠ 2 → pY r n = dY d ∧ pM r n = dM d := fun a b => by
    unfold per at hp
    rw [if_neg a, if_neg b, if_neg a, if_neg b] at hp
    obtain ⟨⟨_, v1, v2, _⟩, _⟩ := date_of hd
    unfold mon at *
    omega
  rcases hkk with ⟨k, kw, kn⟩ | ⟨k, kw, kn⟩ | ⟨k, kw, kn⟩ | ⟨k, kw, kn⟩
  · unfold per at hp
    unfold pd pE
    simp only [k, eq_self, if_true, true_and] at *
    omega
  · unfold per ofKind at *
    unfold pd pE
    simp only [k, eq_self, if_true, if_false, true_and, show ¬ ((2 : Int) = 1) by decide, decide_eq_true_eq] at *
    rw [Int.mul_assoc]
    generalize n * r.every = t at *
    omega
  · obtain ⟨x, y⟩ := hmon (by omega) (by omega)
    obtain ⟨v, e⟩ := date_of hd
    unfold ofKind at hk
    unfold pd pE
    simp only [k, eq_self, if_true, if_false, true_and, show ¬ ((3 : Int) = 1) by decide, show ¬ ((3 : Int) = 2) by decide, decide_eq_true_eq] at *
    rw [x, y, ← hk]
    obtain ⟨g1, g2⟩ := nE_mk v (by omega)
    exact ⟨g1, by omega⟩
  · obtain ⟨x, y⟩ := hmon (by omega) (by omega)
    unfold ofKind at hk
    unfold pd pE
    simp only [k, eq_self, if_true, if_false, true_and, show ¬ ((4 : Int) = 1) by decide, show ¬ ((4 : Int) = 2) by decide, show ¬ ((4 : Int) = 3) by decide, decide_eq_true_eq] at *
    rw [x, y]
    exact hk
theorem pick_some {r : Rec} {n d : Int} : pick r n = some d ↔ pE r n = 0 ∧ pd r n = d ∧ r.frm ≤ d ∧ d ≤ r.unt - 1 := by
  unfold pick inR
  constructor
  · intro h
    split at h
    · rename_i c
      simp only [decide_eq_true_eq] at c
      simp only [Option.some.injEq] at h
      subst h; omega
    · cases h
  · rintro ⟨a, rfl, b, c⟩
    rw [if_pos]
    simp only [decide_eq_true_eq]; omega
theorem sorted_ext : ∀ {a b : List Int}, a.Pairwise (· < ·) → b.Pairwise (· < ·) → (∀ x, x ∈ a ↔ x ∈ b) → a = b
  | [], [], _, _, _ => rfl
  | [], y :: b, _, _, h => by have := (h y).2 (List.mem_cons_self ..); cases this
  | x :: a, [], _, _, h => by have := (h x).1 (List.mem_cons_self ..); cases this
  | x :: a, y :: b, ha, hb, h => by
    obtain ⟨a1, a2⟩ := List.pairwise_cons.1 ha
    obtain ⟨b1, b2⟩ := List.pairwise_cons.1 hb
    have e : x = y := by
      have h1 := (h x).1 (List.mem_cons_self ..)
      have h2 := (h y).2 (List.mem_cons_self ..)
      rcases List.mem_cons.1 h1 with h1 | h1
      · exact h1
      · rcases List.mem_cons.1 h2 with h2 | h2
        · exact h2.symm
        · have := a1 _ h2; have := b1 _ h1; omega
    subst e
    congr 1
    refine sorted_ext a2 b2 fun z => ⟨fun hz => ?_, fun hz => ?_⟩
    · rcases List.mem_cons.1 ((h z).1 (List.mem_cons_of_mem _ hz)) with e | e
      · subst e; have := a1 _ hz; omega
      · exact e
    · rcases List.mem_cons.1 ((h z).2 (List.mem_cons_of_mem _ hz)) with e | e
      · subst e; have := b1 _ hz; omega
      · exact e
theorem range_map_sorted (f : Int) (k : Nat) : ((List.range k).map fun i : Nat => f + i).Pairwise (· < ·) := by
  rw [List.pairwise_map]
  exact List.pairwise_lt_range.imp fun h => by omega
theorem daysTo_sorted (r : Rec) (k : Nat) : (daysTo r k).Pairwise (· < ·) := (range_map_sorted r.frm k).filter _
theorem mem_days {r : Rec} {d : Int} : d ∈ days r ↔ r.frm ≤ d ∧ d < r.unt ∧ hasB r d = true := by
  unfold days daysTo
  rw [List.mem_filter, List.mem_map]
  constructor
  · rintro ⟨⟨i, hi, rfl⟩, h⟩
    have := List.mem_range.1 hi
    exact ⟨by omega, by omega, h⟩
  · rintro ⟨a, b, c⟩
    exact ⟨⟨(d - r.frm).toNat, List.mem_range.2 (by omega), by omega⟩, c⟩
theorem outTo_sorted {r : Rec} (h : Val r) (k : Nat) : (outTo r k).Pairwise (· < ·) := by
  unfold outTo
  rw [List.pairwise_filterMap]
  refine List.pairwise_lt_range.imp ?_
  intro a b hab x hx y hy
  obtain ⟨p1, rfl, p3, p4⟩ := pick_some.1 hx
  obtain ⟨q1, rfl, q3, q4⟩ := pick_some.1 hy
  have hf := h.2.1
  obtain ⟨u1, -⟩ := pd_has h (n := a) (by omega) p1 (by omega)
  obtain ⟨v1, -⟩ := pd_has h (n := b) (by omega) q1 (by omega)
  rcases Int.lt_or_le (pd r a) (pd r b) with c | c
  · exact c
  · have hm := (per_mono r (d := pd r b) (by omega) c).1
    rw [u1, v1] at hm
    have : (a : Int) * r.every < (b : Int) * r.every := Int.mul_lt_mul_of_pos_right (by omega) (by have := h.1; omega)
    omega
/-- how many periods are looked at -/
def most (r : Rec) : Nat := ((r.unt - r.frm) / r.every).toNat + 2
theorem out_days {r : Rec} (h : Val r) : outTo r (most r) = days r := by
  refine sorted_ext (outTo_sorted h _) (daysTo_sorted _ _) fun d => ?_
  rw [mem_days]
  unfold outTo
  rw [List.mem_filterMap]
  have hf := h.2.1
  have he := h.1
  constructor
  · rintro ⟨n, hn, hp⟩
    obtain ⟨p1, p2, p3, p4⟩ := pick_some.1 hp
    obtain ⟨u1, u2⟩ := pd_has h (n := n) (by omega) p1 (by omega)
    rw [p2] at u1 u2
    refine ⟨p3, by omega, ?_⟩
    unfold hasB
    rw [u2, u1]
    simp only [Bool.true_and, decide_eq_true_eq]
    rw [show per r r.frm + n * r.every - per r r.frm = n * r.every by omega]
    exact Int.mul_emod_left ..
  · rintro ⟨a, b, c⟩
    unfold hasB at c
    simp only [Bool.and_eq_true, decide_eq_true_eq] at c
    obtain ⟨c1, c2⟩ := c
    have hm := per_mono r (d := r.frm) (d' := d) (by omega) a
    obtain ⟨q, hq⟩ : ∃ q, per r d - per r r.frm = r.every * q := Int.dvd_of_emod_eq_zero c2
    have hq0 : 0 ≤ q := by
      rcases Int.lt_or_le q 0 with h | h
      · have := Int.mul_lt_mul_of_pos_left h (show 0 < r.every by omega); omega
      · exact h
    obtain ⟨g1, g2⟩ := has_pd h (n := q) (d := d) hq0 (by omega) (by omega) (by rw [Int.mul_comm q]; omega) c1
    refine ⟨q.toNat, List.mem_range.2 ?_, ?_⟩
    · have : q ≤ (r.unt - r.frm) / r.every := by
        rw [Int.le_ediv_iff_mul_le (by omega), Int.mul_comm]; omega
      unfold most; omega
    · rw [show ((q.toNat : Nat) : Int) = q by omega]
      exact pick_some.2 ⟨g1, g2, a, by omega⟩
end Rc
end Go.Proofs.YtmicbniipbcapaaDoor
namespace Go.Proofs.YtmicbniipbcapaaDoor.Rc
/-! the loops, round by round -/
theorem outTo_succ (r : Rec) (k : Nat) : outTo r (k + 1) = outTo r k ++ (pick r k).toList := by
  unfold outTo
  rw [List.range_succ, List.filterMap_append]
  cases h : pick r k <;> simp [h]
theorem pick_no {r : Rec} {k : Nat} (h : ¬ (pE r k = 0 ∧ inR r (pd r k) = true)) : outTo r (k + 1) = outTo r k := by
  rw [outTo_succ]; unfold pick; rw [if_neg h]; simp
theorem pick_yes {r : Rec} {k : Nat} (h : pE r k = 0 ∧ inR r (pd r k) = true) : outTo r (k + 1) = outTo r k ++ [pd r k] := by
  rw [outTo_succ]; unfold pick; rw [if_pos h]; rfl
theorem outTo_pre (r : Rec) {k m : Nat} (h : k ≤ m) : (outTo r k).length ≤ (outTo r m).length := by
  obtain ⟨d, rfl⟩ := Nat.exists_eq_add_of_le h
  clear h
  induction d with
  | zero => exact Nat.le_refl _
  | succ d ih =>
    rw [← Nat.add_assoc, outTo_succ, List.length_append]; omega
theorem daysTo_succ (r : Rec) (k : Nat) : daysTo r (k + 1) = daysTo r k ++ (if hasB r (r.frm + k) then [r.frm + k] else []) := by
  unfold daysTo
  rw [List.range_succ, List.map_append, List.filter_append]
  cases h : hasB r (r.frm + k) <;> simp [h]
theorem daysTo_pre (r : Rec) {k m : Nat} (h : k ≤ m) : (daysTo r k).length ≤ (daysTo r m).length := by
  obtain ⟨d, rfl⟩ := Nat.exists_eq_add_of_le h
  clear h
  induction d with
  | zero => exact Nat.le_refl _
  | succ d ih =>
    rw [← Nat.add_assoc, daysTo_succ, List.length_append]; omega
/-- what Days returns -/
noncomputable def dysE (r : Rec) : Int := if validB r then (if 1000 < (days r).length then 2 else 0) else 1
noncomputable def dysV (r : Rec) : List Int := if dysE r = 0 then days r else []
theorem dys_no {r : Rec} (h : validB r = false) : dysE r = 1 ∧ dysV r = [] := by simp [dysE, dysV, h]
theorem dys_far {r : Rec} (h : validB r = true) (h1 : 1000 < (days r).length) : dysE r = 2 ∧ dysV r = [] := by simp [dysE, dysV, h, h1]
theorem dys_yes {r : Rec} (h : validB r = true) (h1 : ¬ 1000 < (days r).length) : dysE r = 0 ∧ dysV r = days r := by simp [dysE, dysV, h, h1]
theorem dysV_len (r : Rec) : (dysV r).length ≤ 1000 := by
  unfold dysV
  split
  · rename_i h
    unfold dysE at h
    split at h
    · split at h
      · cases h
      · omega
    · cases h
  · simp
end Go.Proofs.YtmicbniipbcapaaDoor.Rc
