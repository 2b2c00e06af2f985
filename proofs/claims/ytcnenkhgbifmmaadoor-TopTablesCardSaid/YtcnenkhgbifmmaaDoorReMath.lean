/- Plain facts on recurring schedules: the days of a schedule, found period by period, are those found day by day. No program in sight. -/
import Derived.Test.YtcnenkhgbifmmaaDoorMath
import Derived.Test.YtcnenkhgbifmmaaDoorLpMath
set_option linter.unusedVariables false
namespace Go.Proofs.YtcnenkhgbifmmaaDoor

/-- a schedule -/
structure Rec where
  (kind every wd nth frm unt sec : Int)
  (shift both : Bool)

namespace Rc
open Cal

def Val (r : Rec) : Prop := (1 ≤ r.every ∧ r.every ≤ 1000) ∧ (0 ≤ r.frm ∧ r.frm < r.unt ∧ r.unt ≤ 34001) ∧ (0 ≤ r.sec ∧ r.sec ≤ 86399) ∧
  ((r.kind = 1 ∧ r.wd = 0 ∧ r.nth = 0) ∨ (r.kind = 2 ∧ (0 ≤ r.wd ∧ r.wd ≤ 6) ∧ r.nth = 0) ∨ (r.kind = 3 ∧ r.wd = 0 ∧ 1 ≤ r.nth ∧ r.nth ≤ 31) ∨ (r.kind = 4 ∧ (0 ≤ r.wd ∧ r.wd ≤ 6) ∧ (r.nth = -1 ∨ 1 ≤ r.nth ∧ r.nth ≤ 5)))
instance (r : Rec) : Decidable (Val r) := by unfold Val; exact inferInstance
def validB (r : Rec) : Bool := decide (Val r)

/-- the number of the month of a day, from January 2000 on -/
noncomputable def mon (d : Int) : Int := 12 * (dY d - 2000) + dM d - 1
/-- the number of the period of a day -/
noncomputable def per (r : Rec) (d : Int) : Int := if r.kind = 1 then d else if r.kind = 2 then (d + 5) / 7 else mon d
/-- whether a day is one of the kind -/
noncomputable def ofKind (r : Rec) (d : Int) : Bool :=
  if r.kind = 1 then true else if r.kind = 2 then decide ((d + 5) % 7 = r.wd) else if r.kind = 3 then decide (dD d = r.nth)
  else decide (nthE (dY d) (dM d) r.wd r.nth = 0 ∧ nthV (dY d) (dM d) r.wd r.nth = d)
noncomputable def hasB (r : Rec) (d : Int) : Bool := ofKind r d && decide ((per r d - per r r.frm) % r.every = 0)
/-- the year and the month of a period -/
noncomputable def pY (r : Rec) (n : Int) : Int := dY r.frm + (dM r.frm - 1 + n * r.every) / 12
noncomputable def pM (r : Rec) (n : Int) : Int := 1 + (dM r.frm - 1 + n * r.every) % 12
/-- the day of a period, and the error -/
noncomputable def pd (r : Rec) (n : Int) : Int :=
  if r.kind = 1 then r.frm + n * r.every else if r.kind = 2 then r.frm - (r.frm + 5) % 7 + r.wd + 7 * n * r.every
  else if r.kind = 3 then nV (pY r n) (pM r n) r.nth else nthV (pY r n) (pM r n) r.wd r.nth
noncomputable def pE (r : Rec) (n : Int) : Int := if r.kind = 1 then 0 else if r.kind = 2 then 0 else if r.kind = 3 then nE (pY r n) (pM r n) r.nth else nthE (pY r n) (pM r n) r.wd r.nth
def inR (r : Rec) (d : Int) : Bool := decide (r.frm ≤ d ∧ d ≤ r.unt - 1)
noncomputable def pick (r : Rec) (n : Int) : Option Int := if pE r n = 0 ∧ inR r (pd r n) = true then some (pd r n) else none
noncomputable def outTo (r : Rec) (k : Nat) : List Int := (List.range k).filterMap fun n : Nat => pick r n
noncomputable def daysTo (r : Rec) (k : Nat) : List Int := ((List.range k).map fun i : Nat => r.frm + i).filter (hasB r)
noncomputable def days (r : Rec) : List Int := daysTo r (r.unt - r.frm).toNat

theorem mon_step {d : Int} (h : 0 ≤ d) : mon d ≤ mon (d + 1) ∧ mon (d + 1) ≤ mon d + 1 := by
  obtain ⟨⟨a1, a2, a3, a4, a5⟩, e⟩ := date_of h
  unfold mon
  generalize dY d = y at *
  generalize dM d = m at *
  generalize dD d = k at *
  by_cases c : k < len y m
  · obtain ⟨x1, x2, x3⟩ := date_is (n := d + 1) (y := y) (m := m) (d := k + 1) ⟨a1, a2, a3, by omega, by omega⟩ (by omega)
    rw [x1, x2]; omega
  · by_cases c2 : m ≤ 11
    · have := fst_succ y m a2 c2
      have := len_bd y (m + 1)
      obtain ⟨x1, x2, x3⟩ := date_is (n := d + 1) (y := y) (m := m + 1) (d := 1) ⟨a1, by omega, by omega, by omega, by omega⟩ (by omega)
      rw [x1, x2]; omega
    · obtain rfl : m = 12 := by omega
      have := fst_year y
      have := len_bd (y + 1) 1
      obtain ⟨x1, x2, x3⟩ := date_is (n := d + 1) (y := y + 1) (m := 1) (d := 1) ⟨by omega, by omega, by omega, by omega, by omega⟩ (by omega)
      rw [x1, x2]; omega
theorem per_step (r : Rec) {d : Int} (h : 0 ≤ d) : per r d ≤ per r (d + 1) ∧ per r (d + 1) ≤ per r d + 1 := by
  have := mon_step h
  unfold per
  by_cases c1 : r.kind = 1
  · simp only [if_pos c1]; omega
  · by_cases c2 : r.kind = 2
    · simp only [if_neg c1, if_pos c2]; omega
    · simp only [if_neg c1, if_neg c2]; exact this
theorem per_le (r : Rec) {d : Int} (h : 0 ≤ d) (n : Nat) : per r d ≤ per r (d + n) ∧ per r (d + n) ≤ per r d + n := by
  induction n with
  | zero => simp
  | succ n ih =>
    have a := per_step r (d := d + n) (by omega)
    rw [show d + (n : Int) + 1 = d + ((n + 1 : Nat) : Int) by omega] at a
    omega
theorem per_mono (r : Rec) {d d' : Int} (h : 0 ≤ d) (h' : d ≤ d') : per r d ≤ per r d' ∧ per r d' ≤ per r d + (d' - d) := by
  have := per_le r h (d' - d).toNat
  rw [show d + ((d' - d).toNat : Int) = d' by omega] at this
  omega

theorem pM_bd (r : Rec) (n : Int) : 1 ≤ pM r n ∧ pM r n ≤ 12 := by unfold pM; omega
theorem pYM (r : Rec) (n : Int) : 12 * (pY r n - 2000) + pM r n - 1 = mon r.frm + n * r.every := by
  unfold pY pM mon; generalize n * r.every = t; omega
theorem nE_zero {y m d : Int} (h : nE y m d = 0) : V y m d ∧ nV y m d = fst y m + d - 1 ∧ y ≤ 2093 ∧ fst y m + d - 1 ≤ 34000 := by
  unfold nE at h
  split at h
  · rename_i c
    split at h
    · cases h
    · rename_i c2
      have c' := c
      simp only [datB, decide_eq_true_eq] at c'
      refine ⟨⟨by omega, by omega, by omega, by omega, by omega⟩, ?_, by omega, by omega⟩
      unfold nV; rw [if_pos c, if_neg c2]
  · cases h
theorem nthE_zero {y m w n : Int} (h : nthE y m w n = 0) : (2000 ≤ y ∧ y ≤ 2093 ∧ 1 ≤ m ∧ m ≤ 12 ∧ 0 ≤ w ∧ w ≤ 6 ∧ (n = -1 ∨ 1 ≤ n ∧ n ≤ 5)) ∧ nthV y m w n = nthD y m w n ∧ nthD y m w n < fst y m + len y m ∧ fst y m ≤ nthD y m w n ∧ nthD y m w n ≤ 34000 := by
  unfold nthE at h
  split at h
  · rename_i c
    split at h
    · cases h
    · rename_i c2
      split at h
      · cases h
      · rename_i c3
        have c' := c
        simp only [nthB, decide_eq_true_eq] at c'
        have := nthS_bd y m w
        have hl := len_bd y m
        refine ⟨c', ?_, by omega, ?_, by omega⟩
        · unfold nthV; rw [if_pos c, if_neg c2, if_neg c3]
        · unfold nthD; split <;> omega
  · cases h
/-- the day of a period lies in it, and is one of the kind -/
theorem pd_has {r : Rec} (h : Val r) {n : Int} (hn : 0 ≤ n) (he : pE r n = 0) (h0 : 0 ≤ pd r n) : per r (pd r n) = per r r.frm + n * r.every ∧ ofKind r (pd r n) = true := by
  obtain ⟨⟨e1, e2⟩, ⟨f1, f2, f3⟩, ⟨s1, s2⟩, hk⟩ := h
  have hym := pYM r n
  have hM := pM_bd r n
  rcases hk with ⟨k, kw, kn⟩ | ⟨k, kw, kn⟩ | ⟨k, kw, kn⟩ | ⟨k, kw, kn⟩
  · unfold per ofKind pd
    simp [k]
  · unfold per ofKind pd at *
    simp only [k, eq_self, if_true, if_false, true_and, show ¬ ((2 : Int) = 1) by decide, decide_eq_true_eq] at *
    rw [Int.mul_assoc] at *
    generalize n * r.every = t at *
    omega
  · unfold per ofKind pd pE at *
    simp only [k, eq_self, if_true, if_false, true_and, show ¬ ((3 : Int) = 1) by decide, show ¬ ((3 : Int) = 2) by decide, decide_eq_true_eq] at *
    obtain ⟨v, e, v1, v2⟩ := nE_zero he
    obtain ⟨x1, x2, x3⟩ := date_is (n := nV (pY r n) (pM r n) r.nth) v e.symm
    unfold mon at *
    rw [x1, x2, x3]
    omega
  · unfold per ofKind pd pE at *
    simp only [k, eq_self, if_true, if_false, true_and, show ¬ ((4 : Int) = 1) by decide, show ¬ ((4 : Int) = 2) by decide, show ¬ ((4 : Int) = 3) by decide, decide_eq_true_eq] at *
    obtain ⟨v, e, v1, v2, v3⟩ := nthE_zero he
    obtain ⟨x1, x2, x3⟩ := date_is (n := nthV (pY r n) (pM r n) r.wd r.nth) (y := pY r n) (m := pM r n) (d := nthV (pY r n) (pM r n) r.wd r.nth - fst (pY r n) (pM r n) + 1) ⟨by omega, by omega, by omega, by omega, by omega⟩ (by omega)
    unfold mon at *
    rw [x1, x2]
    omega
theorem nE_mk {y m d : Int} (h : V y m d) (h1 : fst y m + d - 1 ≤ 34000) : nE y m d = 0 ∧ nV y m d = fst y m + d - 1 := by
  have hy := h.year h1
  obtain ⟨a1, a2, a3, a4, a5⟩ := h
  have c : datB y m d = true := by simp only [datB, decide_eq_true_eq]; omega
  unfold nE nV
  rw [if_pos c, if_neg (by omega), if_pos c, if_neg (by omega)]
  exact ⟨rfl, rfl⟩
/-- a day of the kind is the day of its period -/
theorem has_pd {r : Rec} (h : Val r) {n d : Int} (hn : 0 ≤ n) (hd : 0 ≤ d) (hd' : d ≤ 34000) (hp : per r d = per r r.frm + n * r.every) (hk : ofKind r d = true) : pE r n = 0 ∧ pd r n = d := by
  obtain ⟨⟨e1, e2⟩, ⟨f1, f2, f3⟩, ⟨s1, s2⟩, hkk⟩ := h
  have hym := pYM r n
  have hM := pM_bd r n
  have hmon : r.kind ≠ 1 → r.kind ≠ 2 → pY r n = dY d ∧ pM r n = dM d := fun a b => by
    unfold per at hp
    rw [if_neg a, if_neg b, if_neg a, if_neg b] at hp
    obtain ⟨⟨_, v1, v2, _⟩, _⟩ := date_of hd
    unfold mon at *
    omega
  rcases hkk with ⟨k, kw, kn⟩ | ⟨k, kw, kn⟩ | ⟨k, kw, kn⟩ | ⟨k, kw, kn⟩
  · unfold per at hp
    unfold pd pE
    simp only [k, eq_self, if_true, true_and] at *
    omega
  · unfold per ofKind at *
    unfold pd pE
    simp only [k, eq_self, if_true, if_false, true_and, show ¬ ((2 : Int) = 1) by decide, decide_eq_true_eq] at *
    rw [Int.mul_assoc]
    generalize n * r.every = t at *
    omega
  · obtain ⟨x, y⟩ := hmon (by omega) (by omega)
    obtain ⟨v, e⟩ := date_of hd
    unfold ofKind at hk
    unfold pd pE
    simp only [k, eq_self, if_true, if_false, true_and, show ¬ ((3 : Int) = 1) by decide, show ¬ ((3 : Int) = 2) by decide, decide_eq_true_eq] at *
    rw [x, y, ← hk]
    obtain ⟨g1, g2⟩ := nE_mk v (by omega)
    exact ⟨g1, by omega⟩
  · obtain ⟨x, y⟩ := hmon (by omega) (by omega)
    unfold ofKind at hk
    unfold pd pE
    simp only [k, eq_self, if_true, if_false, true_and, show ¬ ((4 : Int) = 1) by decide, show ¬ ((4 : Int) = 2) by decide, show ¬ ((4 : Int) = 3) by decide, decide_eq_true_eq] at *
    rw [x, y]
    exact hk
theorem pick_some {r : Rec} {n d : Int} : pick r n = some d ↔ pE r n = 0 ∧ pd r n = d ∧ r.frm ≤ d ∧ d ≤ r.unt - 1 := by
  unfold pick inR
  constructor
  · intro h
    split at h
    · rename_i c
      simp only [decide_eq_true_eq] at c
      simp only [Option.some.injEq] at h
      subst h; omega
    · cases h
  · rintro ⟨a, rfl, b, c⟩
    rw [if_pos]
    simp only [decide_eq_true_eq]; omega
theorem sorted_ext : ∀ {a b : List Int}, a.Pairwise (· < ·) → b.Pairwise (· < ·) → (∀ x, x ∈ a ↔ x ∈ b) → a = b
  | [], [], _, _, _ => rfl
  | [], y :: b, _, _, h => by have := (h y).2 (List.mem_cons_self ..); cases this
  | x :: a, [], _, _, h => by have := (h x).1 (List.mem_cons_self ..); cases this
  | x :: a, y :: b, ha, hb, h => by
    obtain ⟨a1, a2⟩ := List.pairwise_cons.1 ha
    obtain ⟨b1, b2⟩ := List.pairwise_cons.1 hb
    have e : x = y := by
      have h1 := (h x).1 (List.mem_cons_self ..)
      have h2 := (h y).2 (List.mem_cons_self ..)
      rcases List.mem_cons.1 h1 with h1 | h1
      · exact h1
      · rcases List.mem_cons.1 h2 with h2 | h2
        · exact h2.symm
        · have := a1 _ h2; have := b1 _ h1; omega
    subst e
    congr 1
    refine sorted_ext a2 b2 fun z => ⟨fun hz => ?_, fun hz => ?_⟩
    · rcases List.mem_cons.1 ((h z).1 (List.mem_cons_of_mem _ hz)) with e | e
      · subst e; have := a1 _ hz; omega
      · exact e
    · rcases List.mem_cons.1 ((h z).2 (List.mem_cons_of_mem _ hz)) with e | e
      · subst e; have := b1 _ hz; omega
      · exact e
theorem range_map_sorted (f : Int) (k : Nat) : ((List.range k).map fun i : Nat => f + i).Pairwise (· < ·) := by
  rw [List.pairwise_map]
  exact List.pairwise_lt_range.imp fun h => by omega
theorem daysTo_sorted (r : Rec) (k : Nat) : (daysTo r k).Pairwise (· < ·) := (range_map_sorted r.frm k).filter _
theorem mem_days {r : Rec} {d : Int} : d ∈ days r ↔ r.frm ≤ d ∧ d < r.unt ∧ hasB r d = true := by
  unfold days daysTo
  rw [List.mem_filter, List.mem_map]
  constructor
  · rintro ⟨⟨i, hi, rfl⟩, h⟩
    have := List.mem_range.1 hi
    exact ⟨by omega, by omega, h⟩
  · rintro ⟨a, b, c⟩
    exact ⟨⟨(d - r.frm).toNat, List.mem_range.2 (by omega), by omega⟩, c⟩
theorem outTo_sorted {r : Rec} (h : Val r) (k : Nat) : (outTo r k).Pairwise (· < ·) := by
  unfold outTo
  rw [List.pairwise_filterMap]
  refine List.pairwise_lt_range.imp ?_
  intro a b hab x hx y hy
  obtain ⟨p1, rfl, p3, p4⟩ := pick_some.1 hx
  obtain ⟨q1, rfl, q3, q4⟩ := pick_some.1 hy
  have hf := h.2.1
  obtain ⟨u1, -⟩ := pd_has h (n := a) (by omega) p1 (by omega)
  obtain ⟨v1, -⟩ := pd_has h (n := b) (by omega) q1 (by omega)
  rcases Int.lt_or_le (pd r a) (pd r b) with c | c
  · exact c
  · have hm := (per_mono r (d := pd r b) (by omega) c).1
    rw [u1, v1] at hm
    have : (a : Int) * r.every < (b : Int) * r.every := Int.mul_lt_mul_of_pos_right (by omega) (by have := h.1; omega)
    omega
/-- how many periods are looked at -/
def most (r : Rec) : Nat := ((r.unt - r.frm) / r.every).toNat + 2
theorem out_days {r : Rec} (h : Val r) : outTo r (most r) = days r := by
  refine sorted_ext (outTo_sorted h _) (daysTo_sorted _ _) fun d => ?_
  rw [mem_days]
  unfold outTo
  rw [List.mem_filterMap]
  have hf := h.2.1
  have he := h.1
  constructor
  · rintro ⟨n, hn, hp⟩
    obtain ⟨p1, p2, p3, p4⟩ := pick_some.1 hp
    obtain ⟨u1, u2⟩ := pd_has h (n := n) (by omega) p1 (by omega)
    rw [p2] at u1 u2
    refine ⟨p3, by omega, ?_⟩
    unfold hasB
    rw [u2, u1]
    simp only [Bool.true_and, decide_eq_true_eq]
    rw [show per r r.frm + n * r.every - per r r.frm = n * r.every by omega]
    exact Int.mul_emod_left ..
  · rintro ⟨a, b, c⟩
    unfold hasB at c
    simp only [Bool.and_eq_true, decide_eq_true_eq] at c
    obtain ⟨c1, c2⟩ := c
    have hm := per_mono r (d := r.frm) (d' := d) (by omega) a
    obtain ⟨q, hq⟩ : ∃ q, per r d - per r r.frm = r.every * q := Int.dvd_of_emod_eq_zero c2
    have hq0 : 0 ≤ q := by
      rcases Int.lt_or_le q 0 with h | h
      · have := Int.mul_lt_mul_of_pos_left h (show 0 < r.every by omega); omega
      · exact h
    obtain ⟨g1, g2⟩ := has_pd h (n := q) (d := d) hq0 (by omega) (by omega) (by rw [Int.mul_comm q]; omega) c1
    refine ⟨q.toNat, List.mem_range.2 ?_, ?_⟩
    · have : q ≤ (r.unt - r.frm) / r.every := by
        rw [Int.le_ediv_iff_mul_le (by omega), Int.mul_comm]; omega
      unfold most; omega
    · rw [show ((q.toNat : Nat) : Int) = q by omega]
      exact pick_some.2 ⟨g1, g2, a, by omega⟩
end Rc
end Go.Proofs.YtcnenkhgbifmmaaDoor
namespace Go.Proofs.YtcnenkhgbifmmaaDoor.Rc
/-! the loops, round by round -/
theorem outTo_succ (r : Rec) (k : Nat) : outTo r (k + 1) = outTo r k ++ (pick r k).toList := by
  unfold outTo
  rw [List.range_succ, List.filterMap_append]
  cases h : pick r k <;> simp [h]
theorem pick_no {r : Rec} {k : Nat} (h : ¬ (pE r k = 0 ∧ inR r (pd r k) = true)) : outTo r (k + 1) = outTo r k := by
  rw [outTo_succ]; unfold pick; rw [if_neg h]; simp
theorem pick_yes {r : Rec} {k : Nat} (h : pE r k = 0 ∧ inR r (pd r k) = true) : outTo r (k + 1) = outTo r k ++ [pd r k] := by
  rw [outTo_succ]; unfold pick; rw [if_pos h]; rfl
theorem outTo_pre (r : Rec) {k m : Nat} (h : k ≤ m) : (outTo r k).length ≤ (outTo r m).length := by
  obtain ⟨d, rfl⟩ := Nat.exists_eq_add_of_le h
  clear h
  induction d with
  | zero => exact Nat.le_refl _
  | succ d ih =>
    rw [← Nat.add_assoc, outTo_succ, List.length_append]; omega
theorem daysTo_succ (r : Rec) (k : Nat) : daysTo r (k + 1) = daysTo r k ++ (if hasB r (r.frm + k) then [r.frm + k] else []) := by
  unfold daysTo
  rw [List.range_succ, List.map_append, List.filter_append]
  cases h : hasB r (r.frm + k) <;> simp [h]
theorem daysTo_pre (r : Rec) {k m : Nat} (h : k ≤ m) : (daysTo r k).length ≤ (daysTo r m).length := by
  obtain ⟨d, rfl⟩ := Nat.exists_eq_add_of_le h
  clear h
  induction d with
  | zero => exact Nat.le_refl _
  | succ d ih =>
    rw [← Nat.add_assoc, daysTo_succ, List.length_append]; omega
/-- what Days returns -/
noncomputable def dysE (r : Rec) : Int := if validB r then (if 1000 < (days r).length then 2 else 0) else 1
noncomputable def dysV (r : Rec) : List Int := if dysE r = 0 then days r else []
theorem dys_no {r : Rec} (h : validB r = false) : dysE r = 1 ∧ dysV r = [] := by simp [dysE, dysV, h]
theorem dys_far {r : Rec} (h : validB r = true) (h1 : 1000 < (days r).length) : dysE r = 2 ∧ dysV r = [] := by simp [dysE, dysV, h, h1]
theorem dys_yes {r : Rec} (h : validB r = true) (h1 : ¬ 1000 < (days r).length) : dysE r = 0 ∧ dysV r = days r := by simp [dysE, dysV, h, h1]
theorem dysV_len (r : Rec) : (dysV r).length ≤ 1000 := by
  unfold dysV
  split
  · rename_i h
    unfold dysE at h
    split at h
    · split at h
      · cases h
      · omega
    · cases h
  · simp
end Go.Proofs.YtcnenkhgbifmmaaDoor.Rc

/- Plain facts on the fires of a schedule: the times of a day, the fires of a day, of all days, and what a correction takes away. No program in sight. -/
set_option linter.unusedVariables false
namespace Go.Proofs.YtcnenkhgbifmmaaDoor.Rc
open Lpm
/-- how long a day is -/
def lenD (l : LL) (d : Int) : Int := start l (d + 1) - start l d
theorem lenD_is {l : LL} (h : valid l = true) (d : Int) : lenD l d = 86399000000 ∨ lenD l d = 86400000000 ∨ lenD l d = 86401000000 := by
  have := ofs_succ (day := d) h; unfold lenD start; omega
/-- the times of a second of a day -/
def tim (l : LL) (sec d : Int) : List Int :=
  if lenD l d ≤ sec * 1000000 then [] else if sec = 86399 ∧ sec * 1000000 + 1000000 < lenD l d then [start l d + sec * 1000000, start l d + (sec * 1000000 + 1000000)] else [start l d + sec * 1000000]
/-- the four ways -/
theorem tim_ways {l : LL} (h : valid l = true) {sec : Int} (h0 : 0 ≤ sec) (h1 : sec ≤ 86399) (d : Int) :
    (sec < 86399 ∧ sec * 1000000 < lenD l d ∧ tim l sec d = [start l d + sec * 1000000]) ∨ (sec = 86399 ∧ lenD l d = 86399000000 ∧ tim l sec d = []) ∨
    (sec = 86399 ∧ lenD l d = 86400000000 ∧ tim l sec d = [start l d + sec * 1000000]) ∨ (sec = 86399 ∧ lenD l d = 86401000000 ∧ tim l sec d = [start l d + sec * 1000000, start l d + (sec * 1000000 + 1000000)]) := by
  have hl := lenD_is h d
  unfold tim
  by_cases c : sec = 86399
  · subst c
    rcases hl with e | e | e <;> rw [e] <;> simp
  · refine .inl ⟨by omega, by omega, ?_⟩
    rw [if_neg (by omega), if_neg (by omega)]
theorem tim_len (l : LL) (sec d : Int) : (tim l sec d).length ≤ 2 := by
  unfold tim; split
  · simp
  · split <;> simp
/-- the times at which a schedule fires on a day -/
def fon (l : LL) (r : Rec) (d : Int) : List Int :=
  if (tim l r.sec d).length = 0 ∧ r.shift = true then [stV l (d + 1)] else if 1 < (tim l r.sec d).length ∧ r.both = false then (tim l r.sec d).take 1 else tim l r.sec d
theorem fon_len (l : LL) (r : Rec) (d : Int) : (fon l r d).length ≤ 2 := by
  have := tim_len l r.sec d
  unfold fon; split
  · simp
  · split
    · simp; omega
    · exact this
def fonP (l : LL) (r : Rec) (d : Int) : LL := (fon l r d).map fun t => (d, t)
/-- the fires of some days -/
def firesOf (l : LL) (r : Rec) (ds : List Int) : LL := ds.flatMap (fonP l r)
theorem firesOf_snoc (l : LL) (r : Rec) (ds : List Int) (d : Int) : firesOf l r (ds ++ [d]) = firesOf l r ds ++ fonP l r d := by simp [firesOf]
theorem firesOf_len (l : LL) (r : Rec) (ds : List Int) : (firesOf l r ds).length ≤ 2 * ds.length := by
  induction ds with
  | nil => simp [firesOf]
  | cons d ds ih =>
    have e : firesOf l r (d :: ds) = fonP l r d ++ firesOf l r ds := rfl
    have := fon_len l r d
    rw [e, List.length_append, List.length_cons]
    unfold fonP; rw [List.length_map]; omega
noncomputable def fires (l : LL) (r : Rec) : LL := firesOf l r (days r)
/-- what Fires returns -/
noncomputable def fiE (l : LL) (r : Rec) : Int := if valid l then (if dysE r = 0 then (if 1000 < (fires l r).length then 2 else 0) else dysE r) else 1
noncomputable def fiV (l : LL) (r : Rec) : LL := if fiE l r = 0 then fires l r else []
theorem fi_bad {l : LL} {r : Rec} (h : valid l = false) : fiE l r = 1 ∧ fiV l r = [] := by simp [fiE, fiV, h]
theorem fi_days {l : LL} {r : Rec} (h : valid l = true) (h1 : dysE r ≠ 0) : fiE l r = dysE r ∧ fiV l r = [] := by simp [fiE, fiV, h, h1]
theorem fi_far {l : LL} {r : Rec} (h : valid l = true) (h1 : dysE r = 0) (h2 : 1000 < (fires l r).length) : fiE l r = 2 ∧ fiV l r = [] := by simp [fiE, fiV, h, h1, h2]
theorem fi_yes {l : LL} {r : Rec} (h : valid l = true) (h1 : dysE r = 0) (h2 : ¬ 1000 < (fires l r).length) : fiE l r = 0 ∧ fiV l r = fires l r := by simp [fiE, fiV, h, h1, h2]
theorem dysV_ok {r : Rec} (h : dysE r = 0) : validB r = true ∧ dysV r = days r := by
  unfold dysV; rw [if_pos h]
  refine ⟨?_, rfl⟩
  unfold dysE at h
  split at h
  · assumption
  · cases h
theorem fi_ok {l : LL} {r : Rec} (h : fiE l r = 0) : valid l = true ∧ validB r = true ∧ dysE r = 0 ∧ fiV l r = fires l r ∧ (fires l r).length ≤ 1000 ∧ (days r).length ≤ 1000 := by
  have h2 : fiV l r = fires l r := by unfold fiV; rw [if_pos h]
  unfold fiE at h
  split at h
  · rename_i hv
    split at h
    · rename_i hd
      split at h
      · cases h
      · refine ⟨hv, (dysV_ok hd).1, hd, h2, by omega, ?_⟩
        have := dysV_len r
        rwa [(dysV_ok hd).2] at this
    · rename_i hd
      exact absurd h hd
  · cases h
theorem fiV_len (l : LL) (r : Rec) : (fiV l r).length ≤ 1000 := by
  unfold fiV; split
  · rename_i h; exact (fi_ok h).2.2.2.2.1
  · simp
/-- the fires after a time that are not in another list -/
def less (a b : LL) (t : Int) : LL := a.filter fun x => decide (t < x.2) && !b.contains x
noncomputable def coE (o n : LL) (r : Rec) (t : Int) : Int := if 0 ≤ t ∧ t ≤ 3000000000000000 then (if fiE o r = 0 then fiE n r else fiE o r) else 1
noncomputable def coF (o n : LL) (r : Rec) (t : Int) : LL := if coE o n r t = 0 then less (fiV o r) (fiV n r) t else []
noncomputable def coN (o n : LL) (r : Rec) (t : Int) : LL := if coE o n r t = 0 then less (fiV n r) (fiV o r) t else []
theorem less_len (a b : LL) (t : Int) : (less a b t).length ≤ a.length := List.length_filter_le _ _
end Go.Proofs.YtcnenkhgbifmmaaDoor.Rc

/- Plain facts on the examples of chapter 21's head. No program in sight. -/
set_option linter.unusedVariables false
namespace Go.Proofs.YtcnenkhgbifmmaaDoor.Rc
open Cal Lpm
def pickC (y m : Int) (r : Rec) (n : Int) : Option Int :=
  if (if r.kind = 3 then nE (y + (m - 1 + n * r.every) / 12) (1 + (m - 1 + n * r.every) % 12) r.nth else nthE (y + (m - 1 + n * r.every) / 12) (1 + (m - 1 + n * r.every) % 12) r.wd r.nth) = 0 ∧
    inR r (if r.kind = 3 then nV (y + (m - 1 + n * r.every) / 12) (1 + (m - 1 + n * r.every) % 12) r.nth else nthV (y + (m - 1 + n * r.every) / 12) (1 + (m - 1 + n * r.every) % 12) r.wd r.nth) = true then
    some (if r.kind = 3 then nV (y + (m - 1 + n * r.every) / 12) (1 + (m - 1 + n * r.every) % 12) r.nth else nthV (y + (m - 1 + n * r.every) / 12) (1 + (m - 1 + n * r.every) % 12) r.wd r.nth) else none
theorem pick_C {r : Rec} {y m : Int} (h1 : dY r.frm = y) (h2 : dM r.frm = m) (hk : r.kind = 3 ∨ r.kind = 4) (n : Int) : pick r n = pickC y m r n := by
  unfold pick pE pd pY pM pickC
  rw [h1, h2]
  rcases hk with h | h <;> simp [h]
theorem days_C {r : Rec} (hv : Val r) {y m : Int} (h1 : dY r.frm = y) (h2 : dM r.frm = m) (hk : r.kind = 3 ∨ r.kind = 4) : days r = (List.range (most r)).filterMap fun n : Nat => pickC y m r n := by
  rw [← out_days hv]; unfold outTo; congr 1; funext n; exact pick_C h1 h2 hk n
def r1 : Rec := ⟨2, 2, 1, 0, 0, 40, 0, false, false⟩
def r2 : Rec := ⟨3, 1, 0, 31, 0, 130, 0, false, false⟩
def r3 : Rec := ⟨4, 1, 4, -1, 0, 60, 0, false, false⟩
def r4 : Rec := ⟨1, 1, 0, 0, 10, 11, 86399, false, true⟩
def r5 : Rec := ⟨1, 0, 0, 0, 0, 5, 0, false, false⟩
theorem d0 : dY 0 = 2000 ∧ dM 0 = 1 := by
  obtain ⟨a, b, -⟩ := date_is (n := 0) (y := 2000) (m := 1) (d := 1) ⟨by decide, by decide, by decide, by decide, by decide⟩ (by decide)
  exact ⟨a, b⟩
theorem v1 : validB r1 = true := by decide
theorem v2 : validB r2 = true := by decide
theorem v3 : validB r3 = true := by decide
theorem v4 : validB r4 = true := by decide
theorem v5 : validB r5 = false := by decide
theorem e1 : days r1 = [10, 24, 38] := by rfl
theorem e2 : days r2 = [30, 90] := by rw [days_C (of_decide_eq_true v2) d0.1 d0.2 (by decide)]; decide +kernel
theorem e3 : days r3 = [27, 55] := by rw [days_C (of_decide_eq_true v3) d0.1 d0.2 (by decide)]; decide +kernel
theorem e4 : days r4 = [10] := by rfl
theorem f1 : fires [(10, 1)] r4 = [(10, 950399000000), (10, 950400000000)] := by unfold fires; rw [e4]; decide +kernel
theorem f2 : fires [(10, -1)] r4 = [] := by unfold fires; rw [e4]; decide +kernel
theorem f3 : fires [] r4 = [(10, 950399000000)] := by unfold fires; rw [e4]; decide +kernel
theorem y1 : dysE r1 = 0 ∧ dysV r1 = [10, 24, 38] := by obtain ⟨a, b⟩ := dys_yes v1 (by rw [e1]; decide); exact ⟨a, b.trans e1⟩
theorem y2 : dysE r2 = 0 ∧ dysV r2 = [30, 90] := by obtain ⟨a, b⟩ := dys_yes v2 (by rw [e2]; decide); exact ⟨a, b.trans e2⟩
theorem y3 : dysE r3 = 0 ∧ dysV r3 = [27, 55] := by obtain ⟨a, b⟩ := dys_yes v3 (by rw [e3]; decide); exact ⟨a, b.trans e3⟩
theorem y4 : dysE r4 = 0 ∧ dysV r4 = [10] := by obtain ⟨a, b⟩ := dys_yes v4 (by rw [e4]; decide); exact ⟨a, b.trans e4⟩
theorem y5 : dysE r5 = 1 ∧ dysV r5 = [] := dys_no v5
theorem g1 : fiE [(10, 1)] r4 = 0 ∧ fiV [(10, 1)] r4 = [(10, 950399000000), (10, 950400000000)] := by obtain ⟨a, b⟩ := fi_yes (l := [(10, 1)]) (by decide) y4.1 (by rw [f1]; decide); exact ⟨a, b.trans f1⟩
theorem g2 : fiE [(10, -1)] r4 = 0 ∧ fiV [(10, -1)] r4 = [] := by obtain ⟨a, b⟩ := fi_yes (l := [(10, -1)]) (by decide) y4.1 (by rw [f2]; decide); exact ⟨a, b.trans f2⟩
theorem g3 : fiE [] r4 = 0 ∧ fiV [] r4 = [(10, 950399000000)] := by obtain ⟨a, b⟩ := fi_yes (l := []) (by decide) y4.1 (by rw [f3]; decide); exact ⟨a, b.trans f3⟩
theorem c1 : coE [] [(10, 1)] r4 0 = 0 ∧ coF [] [(10, 1)] r4 0 = [] ∧ coN [] [(10, 1)] r4 0 = [(10, 950400000000)] := by
  have h : coE [] [(10, 1)] r4 0 = 0 := by unfold coE; rw [if_pos (by decide), if_pos g3.1, g1.1]
  refine ⟨h, ?_, ?_⟩
  · unfold coF; rw [if_pos h, g3.2, g1.2]; decide
  · unfold coN; rw [if_pos h, g3.2, g1.2]; decide
end Go.Proofs.YtcnenkhgbifmmaaDoor.Rc

/- Plain facts on other schedules: another second; an earlier Until. No program in sight. -/
set_option linter.unusedVariables false
namespace Go.Proofs.YtcnenkhgbifmmaaDoor.Rc
open Lpm
abbrev setSec (r : Rec) (s : Int) : Rec := ⟨r.kind, r.every, r.wd, r.nth, r.frm, r.unt, s, r.shift, r.both⟩
theorem val_sec {r : Rec} {s : Int} (h : validB r = true) (h0 : 0 ≤ s) (h1 : s ≤ 86399) : validB (setSec r s) = true := by
  have := (of_decide_eq_true h : Val r)
  exact decide_eq_true ⟨this.1, this.2.1, ⟨h0, h1⟩, this.2.2.2⟩
theorem dysE_sec {r : Rec} {s : Int} (h : validB r = true) (h' : validB (setSec r s) = true) : dysE (setSec r s) = dysE r := by
  have e : days (setSec r s) = days r := rfl
  unfold dysE
  rw [h, h', e]
theorem fires_one {l : LL} {r : Rec} (hv : valid l = true) (h0 : 0 ≤ r.sec) (h1 : r.sec < 86399) : fires l r = (days r).map fun d => (d, start l d + r.sec * 1000000) := by
  have hd : ∀ d, fonP l r d = [(d, start l d + r.sec * 1000000)] := fun d => by
    have ht : tim l r.sec d = [start l d + r.sec * 1000000] := by
      rcases tim_ways hv h0 (Int.le_of_lt h1) d with ⟨-, -, h⟩ | ⟨h, -⟩ | ⟨h, -⟩ | ⟨h, -⟩
      · exact h
      all_goals omega
    simp [fonP, fon, ht]
  unfold fires firesOf
  rw [show fonP l r = fun d => [(d, start l d + r.sec * 1000000)] from funext hd]
  induction days r with
  | nil => rfl
  | cons x xs ih => simpa using ih
theorem fi_lim {l : LL} {r : Rec} (hv : valid l = true) (h : validB r = true) : fiE l r = 0 ∨ fiE l r = 2 := by
  by_cases c : 1000 < (days r).length
  · have e := (dys_far h c).1
    exact .inr ((fi_days hv (by rw [e]; decide)).1.trans e)
  · have e := (dys_yes h c).1
    by_cases c2 : 1000 < (fires l r).length
    · exact .inr (fi_far hv e c2).1
    · exact .inl (fi_yes hv e c2).1
theorem fi_sec {l : LL} {r : Rec} {s : Int} (hv : valid l = true) (h : validB r = true) (h1 : r.sec < 86399) (s0 : 0 ≤ s) (s1 : s < 86399) :
    fiE l (setSec r s) = fiE l r ∧ (fiV l (setSec r s)).length = (fiV l r).length ∧ (fiE l r = 0 ∨ fiE l r = 2) := by
  have hV := (of_decide_eq_true h : Val r)
  have h' := val_sec h s0 (by omega : s ≤ 86399)
  have e1 := dysE_sec h h'
  have e2 := fires_one (r := r) hv hV.2.2.1.1 h1
  have e3 := fires_one (r := setSec r s) hv s0 s1
  have e4 : days (setSec r s) = days r := rfl
  have e5 : (fires l (setSec r s)).length = (fires l r).length := by rw [e2, e3, e4]; simp
  have e6 : fiE l (setSec r s) = fiE l r := by unfold fiE; rw [e1, e5]
  refine ⟨e6, ?_, ?_⟩
  · unfold fiV; rw [e6]; split
    · exact e5
    · rfl
  · exact fi_lim hv h
theorem sec_at {l : LL} {r : Rec} {s : Int} (hv : valid l = true) (h : validB r = true) (h1 : r.sec < 86399) (s0 : 0 ≤ s) (s1 : s < 86399) (hE : fiE l r = 0) {k : Nat} (hk : k < (fiV l r).length) :
    ∃ d u v, (fiV l r)[k]?.getD (0, 0) = (d, u) ∧ (fiV l (setSec r s))[k]?.getD (0, 0) = (d, v) ∧ -10000000000 ≤ u ∧ u ≤ 4000000000000000 ∧ -10000000000 ≤ v ∧ v ≤ 4000000000000000 ∧ v - u = (s - r.sec) * 1000000 := by
  have hV := (of_decide_eq_true h : Val r)
  have e2 := fires_one (r := r) hv hV.2.2.1.1 h1
  have e3 := fires_one (r := setSec r s) hv s0 s1
  have e4 : days (setSec r s) = days r := rfl
  have hE' := (fi_sec (s := s) hv h h1 s0 s1).1.trans hE
  rw [(fi_ok hE).2.2.2.1] at hk ⊢
  rw [(fi_ok hE').2.2.2.1, e3, e4]
  rw [e2] at hk ⊢
  rw [List.length_map] at hk
  have hm : (days r)[k] ∈ days r := List.getElem_mem _
  rw [mem_days] at hm
  have hb := start_bd (a := (days r)[k]) hv
  refine ⟨(days r)[k], start l (days r)[k] + r.sec * 1000000, start l (days r)[k] + s * 1000000, by simp [hk], by simp [hk], ?_⟩
  have := hV.2.1
  have := hV.2.2.1
  omega
/-! an earlier Until -/
abbrev setUnt (r : Rec) (u : Int) : Rec := ⟨r.kind, r.every, r.wd, r.nth, r.frm, u, r.sec, r.shift, r.both⟩
def before (u d : Int) : Bool := decide (d < u)
def beforeP (u : Int) (x : Int × Int) : Bool := decide (x.1 < u)
theorem val_unt {r : Rec} {u : Int} (h : validB r = true) (h0 : r.frm < u) (h1 : u ≤ r.unt) : validB (setUnt r u) = true := by
  have := (of_decide_eq_true h : Val r)
  refine decide_eq_true ⟨this.1, ⟨this.2.1.1, h0, ?_⟩, this.2.2⟩
  have := this.2.1.2.2
  show u ≤ 34001
  omega
theorem days_unt {r : Rec} {u : Int} (h0 : r.frm < u) (h1 : u ≤ r.unt) : days (setUnt r u) = (days r).filter (before u) := by
  have e1 : days (setUnt r u) = ((List.range (u - r.frm).toNat).map fun i : Nat => r.frm + i).filter (hasB r) := rfl
  have e2 : days r = ((List.range (r.unt - r.frm).toNat).map fun i : Nat => r.frm + i).filter (hasB r) := rfl
  rw [e1, e2, show (r.unt - r.frm).toNat = (u - r.frm).toNat + (r.unt - u).toNat by omega, List.range_add, List.map_append, List.filter_append, List.filter_append]
  have a1 : (((List.range (u - r.frm).toNat).map fun i : Nat => r.frm + i).filter (hasB r)).filter (before u) = ((List.range (u - r.frm).toNat).map fun i : Nat => r.frm + i).filter (hasB r) := by
    rw [List.filter_eq_self]
    intro x hx
    obtain ⟨hx, -⟩ := List.mem_filter.1 hx
    obtain ⟨i, hi, rfl⟩ := List.mem_map.1 hx
    have := List.mem_range.1 hi
    exact decide_eq_true (by omega)
  have a2 : ((((List.range (r.unt - u).toNat).map fun x => (u - r.frm).toNat + x).map fun i : Nat => r.frm + (i : Int)).filter (hasB r)).filter (before u) = [] := by
    rw [List.filter_eq_nil_iff]
    intro x hx
    obtain ⟨hx, -⟩ := List.mem_filter.1 hx
    obtain ⟨i, hi, rfl⟩ := List.mem_map.1 hx
    obtain ⟨j, -, rfl⟩ := List.mem_map.1 hi
    simp only [before, decide_eq_true_iff]
    omega
  rw [a1, a2, List.append_nil]
theorem firesOf_before {l : LL} {r : Rec} {u : Int} (ds : List Int) : (firesOf l r ds).filter (beforeP u) = firesOf l r (ds.filter (before u)) := by
  induction ds with
  | nil => rfl
  | cons d ds ih =>
    have e : firesOf l r (d :: ds) = fonP l r d ++ firesOf l r ds := rfl
    rw [e, List.filter_append, ih]
    by_cases h : d < u
    · have e1 : (fonP l r d).filter (beforeP u) = fonP l r d := by
        rw [List.filter_eq_self]
        intro x hx
        obtain ⟨t, -, rfl⟩ := List.mem_map.1 hx
        exact decide_eq_true h
      rw [e1, List.filter_cons, if_pos (by exact decide_eq_true h)]
      rfl
    · have e1 : (fonP l r d).filter (beforeP u) = [] := by
        rw [List.filter_eq_nil_iff]
        intro x hx
        obtain ⟨t, -, rfl⟩ := List.mem_map.1 hx
        simp only [beforeP, decide_eq_true_iff]; exact h
      rw [e1, List.filter_cons, if_neg (by simp only [before, decide_eq_true_iff]; exact h)]
      rfl
theorem fires_unt {l : LL} {r : Rec} {u : Int} (h0 : r.frm < u) (h1 : u ≤ r.unt) : fires l (setUnt r u) = (fires l r).filter (beforeP u) := by
  have e : fires l (setUnt r u) = firesOf l r (days (setUnt r u)) := rfl
  rw [e, days_unt h0 h1, ← firesOf_before]; rfl
theorem unt_ok {l : LL} {r : Rec} {u : Int} (h0 : r.frm < u) (h1 : u ≤ r.unt) (hF : fiE l r = 0) :
    dysE (setUnt r u) = 0 ∧ dysV (setUnt r u) = (dysV r).filter (before u) ∧ fiE l (setUnt r u) = 0 ∧ fiV l (setUnt r u) = (fiV l r).filter (beforeP u) := by
  obtain ⟨hv, hB, hD, hV, c1, c2⟩ := fi_ok hF
  have e1 := days_unt h0 h1
  have e2 := fires_unt (l := l) h0 h1
  have n1 := List.length_filter_le (before u) (days r)
  have n2 := List.length_filter_le (beforeP u) (fires l r)
  rw [← e1] at n1
  rw [← e2] at n2
  obtain ⟨d1, d2⟩ := dys_yes (val_unt hB h0 h1) (by omega)
  obtain ⟨f1, f2⟩ := fi_yes hv d1 (r := setUnt r u) (by omega)
  refine ⟨d1, ?_, f1, ?_⟩
  · rw [d2, e1, (dysV_ok hD).2]
  · rw [f2, e2, hV]
theorem dys_lim {r : Rec} (h : validB r = true) : dysE r = 0 ∨ dysE r = 2 := by
  by_cases c : 1000 < (days r).length
  · exact .inr (dys_far h c).1
  · exact .inl (dys_yes h c).1
end Go.Proofs.YtcnenkhgbifmmaaDoor.Rc

/- Plain facts: by the same table nothing is corrected; a change of the table from a day on corrects no fire of an earlier day. No program in sight. -/
set_option linter.unusedVariables false
namespace Go.Proofs.YtcnenkhgbifmmaaDoor.Rc
open Lpm
theorem less_self (a : LL) (t : Int) : less a a t = [] := by
  unfold less
  rw [List.filter_eq_nil_iff]
  intro x hx h
  simp only [Bool.and_eq_true, decide_eq_true_eq, Bool.not_eq_true'] at h
  have := List.contains_iff_mem.2 hx
  rw [this] at h
  exact absurd h.2 (by decide)
theorem co_self (o : LL) (r : Rec) (t : Int) : coF o o r t = [] ∧ coN o o r t = [] := by
  unfold coF coN
  constructor <;> (split <;> first | rfl | exact less_self _ _)
theorem flt_flt {l : LL} {d day : Int} (h : d ≤ day) : flt l d = (flt l day).filter fun x => decide (x.1 < d) := by
  unfold flt
  rw [List.filter_filter]
  congr 1
  funext x
  rw [Bool.eq_iff_iff]
  simp only [Bool.and_eq_true, decide_eq_true_eq]
  omega
theorem start_same {o n : LL} {day d : Int} (ho : valid o = true) (hn : valid n = true) (h : flt o day = flt n day) (hd : d ≤ day) : start o d = start n d := by
  have e : ofs o d = ofs n d := by
    rw [ofs_flt ho, ofs_flt hn, flt_flt hd, h, ← flt_flt hd]
  unfold start; rw [e]
theorem fon_same {o n : LL} {r : Rec} {day d : Int} (ho : valid o = true) (hn : valid n = true) (h : flt o day = flt n day) (hd : d < day) : fon o r d = fon n r d := by
  have e0 := start_same ho hn h (d := d) (by omega)
  have e1 := start_same ho hn h (d := d + 1) (by omega)
  have el : lenD o d = lenD n d := by unfold lenD; rw [e0, e1]
  have et : tim o r.sec d = tim n r.sec d := by unfold tim; rw [el, e0]
  have es : stV o (d + 1) = stV n (d + 1) := by unfold stV; rw [ho, hn, e1]
  unfold fon; rw [et, es]
theorem mem_fires {l : LL} {r : Rec} {x : Int × Int} : x ∈ fires l r ↔ x.1 ∈ days r ∧ x.2 ∈ fon l r x.1 := by
  unfold fires firesOf fonP
  rw [List.mem_flatMap]
  constructor
  · rintro ⟨d, hd, hx⟩
    obtain ⟨t, ht, rfl⟩ := List.mem_map.1 hx
    exact ⟨hd, ht⟩
  · rintro ⟨h1, h2⟩
    exact ⟨x.1, h1, List.mem_map.2 ⟨x.2, h2, rfl⟩⟩
theorem fires_same {o n : LL} {r : Rec} {day : Int} (ho : valid o = true) (hn : valid n = true) (h : flt o day = flt n day) {x : Int × Int} (hx : x ∈ fires o r) (hd : x.1 < day) : x ∈ fires n r := by
  rw [mem_fires] at hx ⊢
  rw [← fon_same ho hn h hd]; exact hx
theorem less_day {o n : LL} {r : Rec} {day t : Int} (ho : valid o = true) (hn : valid n = true) (h : flt o day = flt n day) {x : Int × Int} (hx : x ∈ less (fires o r) (fires n r) t) : day ≤ x.1 := by
  unfold less at hx
  rw [List.mem_filter] at hx
  obtain ⟨h1, h2⟩ := hx
  rcases Int.lt_or_le x.1 day with hlt | hle
  · have := List.contains_iff_mem.2 (fires_same ho hn h h1 hlt)
    rw [this] at h2
    simp at h2
  · exact hle
theorem co_ok {o n : LL} {r : Rec} {t : Int} (h0 : 0 ≤ t) (h1 : t ≤ 3000000000000000) : coE o n r t = 0 ↔ fiE o r = 0 ∧ fiE n r = 0 := by
  unfold coE; rw [if_pos ⟨h0, h1⟩]
  split
  · rename_i h; exact ⟨fun e => ⟨h, e⟩, fun e => e.2⟩
  · rename_i h; exact ⟨fun e => absurd e h, fun e => absurd e.1 h⟩
theorem co_day {o n : LL} {r : Rec} {day t : Int} (h0 : 0 ≤ t) (h1 : t ≤ 3000000000000000) (hE : coE o n r t = 0) (h : flt o day = flt n day) :
    (∀ x ∈ coF o n r t, day ≤ x.1) ∧ (∀ x ∈ coN o n r t, day ≤ x.1) := by
  obtain ⟨e1, e2⟩ := (co_ok h0 h1).1 hE
  obtain ⟨v1, -, -, f1, -⟩ := fi_ok e1
  obtain ⟨v2, -, -, f2, -⟩ := fi_ok e2
  unfold coF coN
  rw [if_pos hE, if_pos hE, f1, f2]
  exact ⟨fun x hx => less_day v1 v2 h hx, fun x hx => less_day v2 v1 h.symm hx⟩
end Go.Proofs.YtcnenkhgbifmmaaDoor.Rc

/- Plain facts on the fires: what a wall clock shows at them, that they rise, how many a day has. No program in sight. -/
set_option linter.unusedVariables false
namespace Go.Proofs.YtcnenkhgbifmmaaDoor.Rc
open Lpm
theorem lenD_last {l : LL} (hv : valid l = true) : lenD l 34000 = 86400000000 := by
  have := start_last hv
  unfold lenD
  show start l 34001 - start l 34000 = _
  omega
/-- the times of a day's fires -/
theorem fon_mem {l : LL} {r : Rec} {d t : Int} (hv : valid l = true) (hr : validB r = true) (h0 : 0 ≤ d) (h1 : d ≤ 34000) (ht : t ∈ fon l r d) :
    (t = start l d + r.sec * 1000000 ∧ r.sec * 1000000 < lenD l d) ∨ (r.sec = 86399 ∧ t = start l d + 86400000000 ∧ 86400000000 < lenD l d) ∨ (r.sec = 86399 ∧ r.shift = true ∧ t = start l (d + 1) ∧ lenD l d = 86399000000 ∧ d + 1 ≤ 34000) := by
  have hV := (of_decide_eq_true hr : Val r).2.2.1
  have ways := tim_ways hv hV.1 hV.2 d
  unfold fon at ht
  rcases ways with ⟨a1, a2, e⟩ | ⟨a1, a2, e⟩ | ⟨a1, a2, e⟩ | ⟨a1, a2, e⟩
  · rw [e] at ht
    simp at ht
    exact .inl ⟨ht, a2⟩
  · rw [e] at ht
    simp at ht
    obtain ⟨hs, ht⟩ := ht
    have hd : d + 1 ≤ 34000 := by
      rcases Int.lt_or_le d 34000 with h | h
      · omega
      · exfalso
        obtain rfl : d = 34000 := by omega
        have := lenD_last hv
        omega
    exact .inr (.inr ⟨a1, hs, by rw [ht]; exact (st_yes hv (by omega) hd).2.1, a2, hd⟩)
  · rw [e] at ht
    simp at ht
    exact .inl ⟨ht, by rw [a2, a1]; decide⟩
  · rw [e] at ht
    have : t = start l d + r.sec * 1000000 ∨ t = start l d + (r.sec * 1000000 + 1000000) := by
      split at ht
      · rename_i h; exact absurd h.1 (by simp)
      · split at ht
        · simp at ht; exact .inl ht
        · simpa using ht
    rcases this with h | h
    · exact .inl ⟨h, by rw [a2, a1]; decide⟩
    · exact .inr (.inl ⟨a1, by rw [h, a1]; omega, by rw [a2]; decide⟩)
theorem fon_bd {l : LL} {r : Rec} {d t : Int} (hv : valid l = true) (hr : validB r = true) (h0 : 0 ≤ d) (h1 : d ≤ 34000) (ht : t ∈ fon l r d) :
    start l d + r.sec * 1000000 ≤ t ∧ (t < start l (d + 1) ∨ (t = start l (d + 1) ∧ r.sec = 86399)) := by
  have e : lenD l d = start l (d + 1) - start l d := rfl
  rcases fon_mem hv hr h0 h1 ht with ⟨rfl, h⟩ | ⟨a, rfl, h⟩ | ⟨a, -, rfl, h, -⟩
  · exact ⟨Int.le_refl _, .inl (by omega)⟩
  · exact ⟨by omega, .inl (by omega)⟩
  · exact ⟨by omega, .inr ⟨rfl, a⟩⟩
theorem tim_rise {l : LL} {sec d : Int} : (tim l sec d).Pairwise (· < ·) := by
  unfold tim; split
  · simp
  · split
    · simp; omega
    · simp
theorem fon_rise {l : LL} {r : Rec} {d : Int} : (fon l r d).Pairwise (· < ·) := by
  unfold fon
  split
  · simp
  · split
    · exact tim_rise.take
    · exact tim_rise
theorem firesOf_rise {l : LL} {r : Rec} (hv : valid l = true) (hr : validB r = true) (ds : List Int) (hs : ds.Pairwise (· < ·)) (hb : ∀ d ∈ ds, 0 ≤ d ∧ d ≤ 34000) : (firesOf l r ds).Pairwise fun x y => x.2 < y.2 := by
  have hV := (of_decide_eq_true hr : Val r).2.2.1
  induction ds with
  | nil => exact List.Pairwise.nil
  | cons d ds ih =>
    have e : firesOf l r (d :: ds) = fonP l r d ++ firesOf l r ds := rfl
    obtain ⟨s1, s2⟩ := List.pairwise_cons.1 hs
    rw [e, List.pairwise_append]
    refine ⟨?_, ih s2 fun x hx => hb x (List.mem_cons_of_mem _ hx), ?_⟩
    · unfold fonP; rw [List.pairwise_map]; exact fon_rise
    · intro x hx y hy
      obtain ⟨t, ht, rfl⟩ := List.mem_map.1 hx
      obtain ⟨d', hd', hy⟩ := List.mem_flatMap.1 hy
      obtain ⟨t', ht', rfl⟩ := List.mem_map.1 hy
      obtain ⟨b0, b1⟩ := hb d (List.mem_cons_self)
      obtain ⟨c0, c1⟩ := hb d' (List.mem_cons_of_mem _ hd')
      have hlt := s1 d' hd'
      have f1 := fon_bd hv hr b0 b1 ht
      have f2 := fon_bd hv hr c0 c1 ht'
      have := start_le hv (a := d + 1) (b := d') (by omega)
      show t < t'
      omega
/-- how many fires have a day -/
def cnt (L : LL) (d : Int) : Nat := (L.filter fun x => x.1 == d).length
theorem cnt_snoc (L : LL) (x : Int × Int) (d : Int) : cnt (L ++ [x]) d = cnt L d + (if x.1 = d then 1 else 0) := by
  unfold cnt
  rw [List.filter_append, List.length_append]
  by_cases h : x.1 = d <;> simp [h]
theorem cnt_fonP (l : LL) (r : Rec) (d d' : Int) : cnt (fonP l r d) d' = if d = d' then (fon l r d).length else 0 := by
  unfold cnt fonP
  by_cases h : d = d'
  · subst h
    rw [if_pos rfl, List.filter_eq_self.2, List.length_map]
    intro x hx
    obtain ⟨t, -, rfl⟩ := List.mem_map.1 hx
    simp
  · rw [if_neg h, List.filter_eq_nil_iff.2]
    · rfl
    · intro x hx
      obtain ⟨t, -, rfl⟩ := List.mem_map.1 hx
      simpa using h
theorem cnt_firesOf (l : LL) (r : Rec) (ds : List Int) (hs : ds.Pairwise (· < ·)) (d : Int) : cnt (firesOf l r ds) d = if d ∈ ds then (fon l r d).length else 0 := by
  induction ds with
  | nil => rfl
  | cons x ds ih =>
    have e : firesOf l r (x :: ds) = fonP l r x ++ firesOf l r ds := rfl
    obtain ⟨s1, s2⟩ := List.pairwise_cons.1 hs
    have ea : cnt (firesOf l r (x :: ds)) d = cnt (fonP l r x) d + cnt (firesOf l r ds) d := by rw [e]; unfold cnt; rw [List.filter_append, List.length_append]
    rw [ea, ih s2, cnt_fonP]
    by_cases h : x = d
    · subst h
      have : x ∉ ds := fun hm => by have := s1 x hm; omega
      simp [this]
    · have h' : d ≠ x := fun e => h e.symm
      simp [h, h']
/-- how many fires a day is to have -/
def want (l : LL) (r : Rec) (d : Int) : Int := if r.sec = 86399 ∧ lenD l d < 86400000000 ∧ r.shift = false then 0 else if r.sec = 86399 ∧ 86400000000 < lenD l d ∧ r.both = true then 2 else 1
theorem want_is {l : LL} {r : Rec} {d : Int} (hv : valid l = true) (hr : validB r = true) : want l r d = (fon l r d).length := by
  have hV := (of_decide_eq_true hr : Val r).2.2.1
  have ways := tim_ways hv hV.1 hV.2 d
  unfold want fon
  rcases ways with ⟨a1, a2, e⟩ | ⟨a1, a2, e⟩ | ⟨a1, a2, e⟩ | ⟨a1, a2, e⟩
  · rw [e, if_neg (by omega), if_neg (by omega)]; simp
  · rw [e, a1, a2]; cases r.shift <;> simp
  · rw [e, a1, a2]; simp
  · rw [e, a1, a2]; cases r.both <;> simp
end Go.Proofs.YtcnenkhgbifmmaaDoor.Rc

/- Plain facts on corrections: the fires by the old table, without those that fall away, with those that come instead, are those by the new table. No program in sight. -/
set_option linter.unusedVariables false
namespace Go.Proofs.YtcnenkhgbifmmaaDoor.Rc
open Lpm
theorem fires_nodup {l : LL} {r : Rec} (hv : valid l = true) (hr : validB r = true) : (fires l r).Nodup := by
  have hs : (days r).Pairwise (· < ·) := daysTo_sorted _ _
  have hV := (of_decide_eq_true hr : Val r).2.1
  have h := firesOf_rise hv hr (days r) hs fun d hd => by
    obtain ⟨a, b, -⟩ := mem_days.1 hd
    omega
  exact h.imp fun {a b} hab e => by subst e; omega
/-- the fires after a time -/
def aft (a : LL) (t : Int) : LL := a.filter fun x => decide (t < x.2)
theorem count_snoc (L : LL) (x y : Int × Int) : (L ++ [x]).count y = L.count y + if x = y then 1 else 0 := by
  rw [List.count_append, List.count_singleton]
  by_cases h : x = y
  · subst h; simp
  · simp [h]
theorem count_nodup {L : LL} (h : L.Nodup) (x : Int × Int) : L.count x = if x ∈ L then 1 else 0 := by
  by_cases hx : x ∈ L
  · rw [if_pos hx, h.count, if_pos hx]
  · rw [if_neg hx, List.count_eq_zero_of_not_mem hx]
theorem net_zero {a b : LL} (ha : a.Nodup) (hb : b.Nodup) (t : Int) (x : Int × Int) : ((aft a t).count x : Int) - (less a b t).count x + (less b a t).count x - (aft b t).count x = 0 := by
  have e1 := count_nodup (L := aft a t) (ha.filter _) x
  have e2 := count_nodup (L := aft b t) (hb.filter _) x
  have e3 := count_nodup (L := less a b t) (ha.filter _) x
  have e4 := count_nodup (L := less b a t) (hb.filter _) x
  rw [e1, e2, e3, e4]
  unfold less aft
  simp only [List.mem_filter, Bool.and_eq_true, Bool.not_eq_true', decide_eq_true_iff, List.contains_iff_mem, Bool.eq_false_iff, ne_eq]
  by_cases p : x ∈ a <;> by_cases q : x ∈ b <;> by_cases u : t < x.2 <;> simp [p, q, u]
theorem aft_yes {l : LL} {k n : Nat} {x : Int × Int} {t : Int} (h : l.length = n) (hk : k < n) (hx : l[k]?.getD (0, 0) = x) (hp : t < x.2) : aft (l.take (k + 1)) t = aft (l.take k) t ++ [x] := by
  unfold aft
  have e : l.take (k + 1) = l.take k ++ [x] := by
    rw [← hx, List.getElem?_eq_getElem (by omega)]
    simp
  rw [e, List.filter_append]
  simp [hp]
theorem aft_no {l : LL} {k n : Nat} {x : Int × Int} {t : Int} (h : l.length = n) (hk : k < n) (hx : l[k]?.getD (0, 0) = x) (hp : ¬ t < x.2) : aft (l.take (k + 1)) t = aft (l.take k) t := by
  unfold aft
  have e : l.take (k + 1) = l.take k ++ [x] := by
    rw [← hx, List.getElem?_eq_getElem (by omega)]
    simp
  rw [e, List.filter_append]
  simp [hp]
theorem count_le (L : LL) (k : Nat) (hk : L.length ≤ k) (x : Int × Int) : L.count x ≤ k := Nat.le_trans List.count_le_length hk
theorem aft_len (L : LL) (t : Int) : (aft L t).length ≤ L.length := List.length_filter_le _ _
end Go.Proofs.YtcnenkhgbifmmaaDoor.Rc
