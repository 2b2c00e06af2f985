/- Plain facts on editions: where two tables differ first, what the same is by both; the fires that a correction concerns. No program in sight. -/
import Derived.Test.YtcnenkhgbifmmaaDoorTpB
set_option linter.unusedVariables false
namespace Go.Proofs.YtcnenkhgbifmmaaDoor
namespace Tpm
open Lpm
theorem okF {last : Int} {x : Int × Int} {l : LL} (h : okFrom last (x :: l) = true) : (last < x.1 ∧ x.1 < 34000 ∧ (x.2 = 1 ∨ x.2 = -1)) ∧ okFrom x.1 l = true := by
  rw [okFrom_cons] at h
  simp only [Bool.and_eq_true, Bool.not_eq_true'] at h
  obtain ⟨h1, h2⟩ := h
  refine ⟨?_, h2⟩
  unfold bad at h1
  have := of_decide_eq_false h1
  omega
theorem flt_nil {last e : Int} {l : LL} (h : okFrom last l = true) (he : e ≤ last + 1) : flt l e = [] := by
  have hm := okFrom_mem h
  unfold flt
  rw [List.filter_eq_nil_iff]
  intro x hx
  have := hm x hx
  simp; omega
theorem flt_cons (x : Int × Int) (l : LL) (e : Int) : flt (x :: l) e = if x.1 < e then x :: flt l e else flt l e := by
  unfold flt
  by_cases h : x.1 < e
  · rw [List.filter_cons_of_pos (by simpa using h), if_pos h]
  · rw [List.filter_cons_of_neg (by simpa using h), if_neg h]
theorem sum_cons (x : Int × Int) (l : LL) : sum (x :: l) = x.2 + sum l := by
  simp [sum]
/-- the first day on which two tables differ -/
theorem dif_spec : ∀ {a b : LL} {last d : Int}, okFrom last a = true → okFrom last b = true → dif a b = some d → flt a d = flt b d ∧ sum (flt a (d + 1)) ≠ sum (flt b (d + 1)) ∧ last < d ∧ d < 34000
  | [], [], _, _, _, _, h => by cases h
  | [], y :: b, last, d, ha, hb, h => by
    obtain rfl : y.1 = d := Option.some.inj h
    obtain ⟨h1, h2⟩ := okF hb
    refine ⟨?_, ?_, h1.1, h1.2.1⟩
    · rw [flt_cons, if_neg (by omega), flt_nil h2 (by omega)]; rfl
    · rw [flt_cons, if_pos (by omega), flt_nil h2 (by omega), sum_cons]
      have e : sum (flt [] (y.1 + 1)) = 0 := rfl
      have e2 : sum ([] : LL) = 0 := rfl
      rw [e, e2]; omega
  | x :: a, [], last, d, ha, hb, h => by
    obtain rfl : x.1 = d := Option.some.inj h
    obtain ⟨h1, h2⟩ := okF ha
    refine ⟨?_, ?_, h1.1, h1.2.1⟩
    · rw [flt_cons, if_neg (by omega), flt_nil h2 (by omega)]; rfl
    · rw [flt_cons, if_pos (by omega), flt_nil h2 (by omega), sum_cons]
      have e : sum (flt [] (x.1 + 1)) = 0 := rfl
      have e2 : sum ([] : LL) = 0 := rfl
      rw [e, e2]; omega
  | x :: a, y :: b, last, d, ha, hb, h => by
    obtain ⟨h1, h2⟩ := okF ha
    obtain ⟨h3, h4⟩ := okF hb
    unfold dif at h
    by_cases e : x = y
    · subst e
      rw [if_pos rfl] at h
      obtain ⟨i1, i2, i3, i4⟩ := dif_spec h2 h4 h
      refine ⟨?_, ?_, by omega, i4⟩
      · rw [flt_cons, flt_cons, if_pos (by omega), if_pos (by omega), i1]
      · rw [flt_cons, flt_cons, if_pos (by omega), if_pos (by omega), sum_cons, sum_cons]
        omega
    · rw [if_neg e] at h
      obtain rfl : min x.1 y.1 = d := Option.some.inj h
      have e2 : sum ([] : LL) = 0 := rfl
      rcases Int.lt_trichotomy x.1 y.1 with g | g | g
      · rw [show min x.1 y.1 = x.1 by omega]
        refine ⟨?_, ?_, h1.1, h1.2.1⟩
        · rw [flt_cons, flt_cons, if_neg (by omega), if_neg (by omega), flt_nil h2 (by omega), flt_nil h4 (by omega)]
        · rw [flt_cons, flt_cons, if_pos (by omega), if_neg (by omega), flt_nil h2 (by omega), flt_nil h4 (by omega), sum_cons, e2]
          omega
      · rw [show min x.1 y.1 = x.1 by omega]
        refine ⟨?_, ?_, h1.1, h1.2.1⟩
        · rw [flt_cons, flt_cons, if_neg (by omega), if_neg (by omega), flt_nil h2 (by omega), flt_nil h4 (by omega)]
        · rw [flt_cons, flt_cons, if_pos (by omega), if_pos (by omega), flt_nil h2 (by omega), flt_nil h4 (by omega), sum_cons, sum_cons, e2]
          have : x.2 ≠ y.2 := fun q => e (Prod.ext g q)
          omega
      · rw [show min x.1 y.1 = y.1 by omega]
        refine ⟨?_, ?_, h3.1, h3.2.1⟩
        · rw [flt_cons, flt_cons, if_neg (by omega), if_neg (by omega), flt_nil h2 (by omega), flt_nil h4 (by omega)]
        · rw [flt_cons, flt_cons, if_neg (by omega), if_pos (by omega), flt_nil h2 (by omega), flt_nil h4 (by omega), sum_cons, e2]
          omega
theorem dif_same : ∀ {a b : LL}, dif a b = none → a = b
  | [], [], _ => rfl
  | [], _ :: _, h => by cases h
  | _ :: _, [], h => by cases h
  | x :: a, y :: b, h => by
    unfold dif at h
    by_cases e : x = y
    · rw [if_pos e] at h
      rw [e, dif_same h]
    · rw [if_neg e] at h; cases h
/-- the tables of an edition and of one that follows it -/
structure Fol (la lb : LL) (F d : Int) : Prop where
  va : valid la = true
  vb : valid lb = true
  d0 : 0 ≤ d
  d1 : d < 34000
  fl : flt la d = flt lb d
  ne : Rc.lenD la d ≠ Rc.lenD lb d
  fa : F ≤ Lpm.start la (d + 1)
  fb : F ≤ Lpm.start lb (d + 1)
theorem fol_of {a b : Ed} {la lb : LL} {d : Int} (h : foV a b la lb = true) (hd : dif la lb = some d) : Fol la lb b.frm d := by
  unfold foV foB formedB at h
  rw [hd] at h
  simp only [Bool.and_eq_true, decide_eq_true_iff] at h
  obtain ⟨⟨⟨⟨⟨-, va⟩, ⟨-, vb⟩⟩, -⟩, -⟩, g1, g2⟩ := h
  obtain ⟨i1, i2, i3, i4⟩ := dif_spec (valid_ok va) (valid_ok vb) hd
  have d0 : 0 ≤ d := by omega
  obtain ⟨-, s1, l1⟩ := st_yes (day := d) va d0 (by omega)
  obtain ⟨-, s2, l2⟩ := st_yes (day := d) vb d0 (by omega)
  have ss := Rc.start_same va vb i1 (Int.le_refl d)
  refine ⟨va, vb, d0, i4, i1, ?_, by omega, by omega⟩
  unfold Rc.lenD
  have o1 := ofs_flt (day := d + 1) va
  have o2 := ofs_flt (day := d + 1) vb
  unfold Lpm.start at *
  omega
/-- a time before the edition's begin is of the same day by both tables -/
theorem fol_day {la lb : LL} {F d t : Int} (h : Fol la lb F d) (t0 : 0 ≤ t) (t1 : t < F) : ∃ D, AtDay la D t ∧ AtDay lb D t ∧ Lpm.start la D = Lpm.start lb D := by
  have hfa := h.fa
  have hfb := h.fb
  have hd1 := h.d1
  have e1 : Lpm.start la (d + 1) ≤ Lpm.start la 34001 := start_le h.va (by omega)
  obtain ⟨a1, a2, a3⟩ := dayNo_in h.va t0 (by omega)
  obtain ⟨a0, -, -, -⟩ := dayNo_spec la t
  have hD : dayNo la t ≤ d := by
    rcases Int.lt_or_le d (dayNo la t) with g | g
    · have := start_le h.va (a := d + 1) (b := dayNo la t) (by omega)
      omega
    · exact g
  have ss := Rc.start_same h.va h.vb h.fl hD
  refine ⟨dayNo la t, ⟨h.va, a0, a1, a2, a3⟩, ⟨h.vb, a0, a1, by omega, ?_⟩, ss⟩
  by_cases e : dayNo la t = d
  · rw [e]; omega
  · have := Rc.start_same h.va h.vb h.fl (show dayNo la t + 1 ≤ d by omega)
    omega
theorem fon_has {l : LL} {r : Rec} {d : Int} (hv : valid l = true) (hr : Rc.validB r = true) (h : r.sec * 1000000 < Rc.lenD l d) : Lpm.start l d + r.sec * 1000000 ∈ Rc.fon l r d := by
  have hV := (of_decide_eq_true hr : Rc.Val r).2.2.1
  have ways := Rc.tim_ways hv hV.1 hV.2 d
  unfold Rc.fon
  rcases ways with ⟨a1, a2, e⟩ | ⟨a1, a2, e⟩ | ⟨a1, a2, e⟩ | ⟨a1, a2, e⟩
  · rw [e]; simp
  · omega
  · rw [e]; simp
  · rw [e]; cases r.both <;> simp
/-- no fire before the edition's begin falls away -/
theorem fol_less {la lb : LL} {F d t : Int} {r : Rec} (h : Fol la lb F d) (hr : Rc.validB r = true) (hs : Lpm.start la d = Lpm.start lb d) {x : Int × Int} (hx : x ∈ Rc.less (Rc.fires la r) (Rc.fires lb r) t) : F ≤ x.2 := by
  have hday := Rc.less_day h.va h.vb h.fl hx
  unfold Rc.less at hx
  obtain ⟨m1, m2⟩ := List.mem_filter.1 hx
  simp only [Bool.and_eq_true, Bool.not_eq_true'] at m2
  have hno : x ∉ Rc.fires lb r := fun q => by
    have : (Rc.fires lb r).contains x = true := by simpa using q
    rw [this] at m2; exact absurd m2.2 (by decide)
  obtain ⟨k1, k2⟩ := Rc.mem_fires.1 m1
  obtain ⟨u1, u2, -⟩ := Rc.mem_days.1 k1
  have hV := (of_decide_eq_true hr : Rc.Val r).2
  have b0 : 0 ≤ x.1 := by omega
  have b1 : x.1 ≤ 34000 := by omega
  have hfa := h.fa
  have hfb := h.fb
  have hd1 := h.d1
  rcases Int.lt_or_le d x.1 with g | g
  · have f1 := (Rc.fon_bd h.va hr b0 b1 k2).1
    have f2 := start_le h.va (a := d + 1) (b := x.1) (by omega)
    have := hV.2.1
    omega
  · obtain rfl : x.1 = d := by omega
    have la3 := Rc.lenD_is h.va x.1
    have lb3 := Rc.lenD_is h.vb x.1
    have ne := h.ne
    have hla : Rc.lenD la x.1 = Lpm.start la (x.1 + 1) - Lpm.start la x.1 := rfl
    have hlb : Rc.lenD lb x.1 = Lpm.start lb (x.1 + 1) - Lpm.start lb x.1 := rfl
    rcases Rc.fon_mem h.va hr b0 b1 k2 with ⟨e, q⟩ | ⟨q, e, p⟩ | ⟨q, -, e, p, -⟩
    · rcases Int.lt_or_le (r.sec * 1000000) (Rc.lenD lb x.1) with z | z
      · exfalso
        have := fon_has h.vb hr z
        refine hno (Rc.mem_fires.2 ⟨k1, ?_⟩)
        rw [e, hs]; exact this
      · omega
    · omega
    · omega
theorem Fol.symm {la lb : LL} {F d : Int} (h : Fol la lb F d) : Fol lb la F d := ⟨h.vb, h.va, h.d0, h.d1, h.fl.symm, fun e => h.ne e.symm, h.fb, h.fa⟩
/-- whatever a correction concerns is not before the edition's begin -/
theorem fol_co {a b : Ed} {la lb : LL} {r : Rec} (h : foV a b la lb = true) (hr : Rc.validB r = true) (hE : Rc.coE la lb r 0 = 0) : ∀ x, (x ∈ Rc.coF la lb r 0 ∨ x ∈ Rc.coN la lb r 0) → b.frm ≤ x.2 := by
  intro x hx
  cases hd : dif la lb with
  | none =>
    have e := dif_same hd
    subst e
    rw [(Rc.co_self la r 0).1, (Rc.co_self la r 0).2] at hx
    rcases hx with hx | hx <;> exact absurd hx (List.not_mem_nil)
  | some d =>
    have hF := fol_of h hd
    obtain ⟨f1, f2⟩ := (Rc.co_ok (by decide) (by decide)).1 hE
    obtain ⟨-, -, -, e1, -, -⟩ := Rc.fi_ok f1
    obtain ⟨-, -, -, e2, -, -⟩ := Rc.fi_ok f2
    have ss := Rc.start_same hF.va hF.vb hF.fl (Int.le_refl d)
    unfold Rc.coF Rc.coN at hx
    rw [if_pos hE, if_pos hE, e1, e2] at hx
    rcases hx with hx | hx
    · exact fol_less hF hr ss hx
    · exact fol_less hF.symm hr ss.symm hx
end Tpm
end Go.Proofs.YtcnenkhgbifmmaaDoor
