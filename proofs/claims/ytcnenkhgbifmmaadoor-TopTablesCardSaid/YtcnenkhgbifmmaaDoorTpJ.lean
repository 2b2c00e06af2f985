/- The law TopTables: all ways together. -/
import Derived.Test.YtcnenkhgbifmmaaDoorTpI
set_option linter.unusedVariables false
namespace Go.Proofs.YtcnenkhgbifmmaaDoor
open Go.RowKit
theorem co_lim {o n : Lpm.LL} {r : Rec} {t : Int} (v1 : Lpm.valid o = true) (v2 : Lpm.valid n = true) (hB : Rc.validB r = true) (h0 : 0 ≤ t) (h1 : t ≤ 3000000000000000) : Rc.coE o n r t = 0 ∨ Rc.coE o n r t = 2 := by
  rw [coE_in h0 h1]
  split
  · exact Rc.fi_lim v2 hB
  · exact Rc.fi_lim v1 hB
theorem tables_law (v1 : Value) (x1 : Ed × Lpm.LL) (v2 : Value) (x2 : Ed × Lpm.LL) (v3 : Value) (r : Rec) (t : Int) (w : World) (i1 : IsEd w v1 x1) (i2 : IsEd w v2 x2) (i3 : IsRc v3 r) (i4 : (Lit.int .i64 t).wf = true) (ht : Tab w) :
    Calls Tryd.prog 4 #[v1, v2, v3, .int .i64 t] w (LawPost w) := by
  obtain ⟨a, la⟩ := x1
  obtain ⟨b, lb⟩ := x2
  obtain ⟨A1, n1, c1, rfl, h1⟩ := i1
  obtain ⟨A2, n2, c2, rfl, h2⟩ := i2
  obtain ⟨rfl, hk⟩ := i3
  simp only at h1 h2 ⊢
  cases ga : (decide (n1 ≤ 20) && formedB a la)
  · exact tables_ea A1 A2 n1 c1 n2 c2 la lb a b r t w ht h1 h2 (Lib.hid ga)
  cases gb : (decide (n2 ≤ 20) && formedB b lb)
  · exact tables_eb A1 A2 n1 c1 n2 c2 la lb a b r t w ht h1 h2 (Lib.hid ga) (Lib.hid gb)
  have ga' := ga
  have gb' := gb
  simp only [Bool.and_eq_true, decide_eq_true_iff] at ga' gb'
  have m1 : n1 ≤ 110 := by omega
  have m2 : n2 ≤ 110 := by omega
  have fe := fo_e ga'.2 gb'.2
  have va : Lpm.valid la = true := by have := ga'.2; unfold formedB at this; simp only [Bool.and_eq_true] at this; exact this.2
  have vb : Lpm.valid lb = true := by have := gb'.2; unfold formedB at this; simp only [Bool.and_eq_true] at this; exact this.2
  cases fv : foV a b la lb
  · exact tables_nf A1 A2 n1 c1 n2 c2 la lb a b r t w ht h1 h2 (Lib.hid ga) (Lib.hid gb) m1 m2 (Lib.hid fe) (Lib.hid fv)
  by_cases p1 : 0 ≤ t
  · by_cases p2 : t < b.frm
    · have key : (∃ E : Int, Lpm.dE la t = E ∧ Lpm.dE lb t = E ∧ E ≠ 0) ∨ ∃ D, AtDay la D t ∧ AtDay lb D t ∧ Lpm.start la D = Lpm.start lb D := by
        cases hd : dif la lb with
        | none =>
          have e := Tpm.dif_same hd
          subst e
          by_cases hE : Lpm.dE la t = 0
          · obtain ⟨q0, q1⟩ := (Smm.dE_zero va).1 hE
            obtain ⟨j1, j2, j3⟩ := Lpm.dayNo_in va q0 q1
            obtain ⟨j0, -, -, -⟩ := Lpm.dayNo_spec la t
            exact .inr ⟨_, ⟨va, j0, j1, j2, j3⟩, ⟨va, j0, j1, j2, j3⟩, rfl⟩
          · exact .inl ⟨_, rfl, rfl, hE⟩
        | some d => exact .inr (Tpm.fol_day (Tpm.fol_of fv hd) p1 p2)
      rcases key with ⟨E, e1, e2, e3⟩ | ⟨D, a1, a2, ss⟩
      · cases vr : Rc.validB r
        · exact tables_E_vr A1 A2 n1 c1 n2 c2 la lb a b r t w ht h1 h2 (Lib.hid ga) (Lib.hid gb) m1 m2 (Lib.hid fe) (Lib.hid fv) p1 p2 va vb E e1 e2 e3 (Lib.hid vr)
        · by_cases few : r.unt - r.frm ≤ 1200
          · rcases co_lim va vb vr (t := 0) (by decide) (by decide) with ec | ec
            · exact tables_E_ok A1 A2 n1 c1 n2 c2 la lb a b r t w ht h1 h2 (Lib.hid ga) (Lib.hid gb) m1 m2 (Lib.hid fe) (Lib.hid fv) p1 p2 va vb E e1 e2 e3 (Lib.hid vr) (Lib.hid (decide_eq_true few)) ⟨hk, fun _ => few⟩ (Lib.hid ec) (Lib.hid (Tpm.fol_co fv vr ec))
            · exact tables_E_lim A1 A2 n1 c1 n2 c2 la lb a b r t w ht h1 h2 (Lib.hid ga) (Lib.hid gb) m1 m2 (Lib.hid fe) (Lib.hid fv) p1 p2 va vb E e1 e2 e3 (Lib.hid vr) (Lib.hid (decide_eq_true few)) ⟨hk, fun _ => few⟩ (Lib.hid ec)
          · exact tables_E_few A1 A2 n1 c1 n2 c2 la lb a b r t w ht h1 h2 (Lib.hid ga) (Lib.hid gb) m1 m2 (Lib.hid fe) (Lib.hid fv) p1 p2 va vb E e1 e2 e3 (Lib.hid vr) (Lib.hid (decide_eq_false few))
      · cases vr : Rc.validB r
        · exact tables_K_vr A1 A2 n1 c1 n2 c2 la lb a b r t w ht h1 h2 (Lib.hid ga) (Lib.hid gb) m1 m2 (Lib.hid fe) (Lib.hid fv) p1 p2 D a1 a2 ss (Lib.hid vr)
        · by_cases few : r.unt - r.frm ≤ 1200
          · rcases co_lim va vb vr (t := 0) (by decide) (by decide) with ec | ec
            · exact tables_K_ok A1 A2 n1 c1 n2 c2 la lb a b r t w ht h1 h2 (Lib.hid ga) (Lib.hid gb) m1 m2 (Lib.hid fe) (Lib.hid fv) p1 p2 D a1 a2 ss (Lib.hid vr) (Lib.hid (decide_eq_true few)) ⟨hk, fun _ => few⟩ (Lib.hid ec) (Lib.hid (Tpm.fol_co fv vr ec))
            · exact tables_K_lim A1 A2 n1 c1 n2 c2 la lb a b r t w ht h1 h2 (Lib.hid ga) (Lib.hid gb) m1 m2 (Lib.hid fe) (Lib.hid fv) p1 p2 D a1 a2 ss (Lib.hid vr) (Lib.hid (decide_eq_true few)) ⟨hk, fun _ => few⟩ (Lib.hid ec)
          · exact tables_K_few A1 A2 n1 c1 n2 c2 la lb a b r t w ht h1 h2 (Lib.hid ga) (Lib.hid gb) m1 m2 (Lib.hid fe) (Lib.hid fv) p1 p2 D a1 a2 ss (Lib.hid vr) (Lib.hid (decide_eq_false few))
    · cases vr : Rc.validB r
      · exact tables_B_vr A1 A2 n1 c1 n2 c2 la lb a b r t w ht h1 h2 (Lib.hid ga) (Lib.hid gb) m1 m2 (Lib.hid fe) (Lib.hid fv) p1 p2 (Lib.hid vr)
      · by_cases few : r.unt - r.frm ≤ 1200
        · rcases co_lim va vb vr (t := 0) (by decide) (by decide) with ec | ec
          · exact tables_B_ok A1 A2 n1 c1 n2 c2 la lb a b r t w ht h1 h2 (Lib.hid ga) (Lib.hid gb) m1 m2 (Lib.hid fe) (Lib.hid fv) p1 p2 (Lib.hid vr) (Lib.hid (decide_eq_true few)) ⟨hk, fun _ => few⟩ (Lib.hid ec) (Lib.hid (Tpm.fol_co fv vr ec))
          · exact tables_B_lim A1 A2 n1 c1 n2 c2 la lb a b r t w ht h1 h2 (Lib.hid ga) (Lib.hid gb) m1 m2 (Lib.hid fe) (Lib.hid fv) p1 p2 (Lib.hid vr) (Lib.hid (decide_eq_true few)) ⟨hk, fun _ => few⟩ (Lib.hid ec)
        · exact tables_B_few A1 A2 n1 c1 n2 c2 la lb a b r t w ht h1 h2 (Lib.hid ga) (Lib.hid gb) m1 m2 (Lib.hid fe) (Lib.hid fv) p1 p2 (Lib.hid vr) (Lib.hid (decide_eq_false few))
  · cases vr : Rc.validB r
    · exact tables_A_vr A1 A2 n1 c1 n2 c2 la lb a b r t w ht h1 h2 (Lib.hid ga) (Lib.hid gb) m1 m2 (Lib.hid fe) (Lib.hid fv) p1 (Lib.hid vr)
    · by_cases few : r.unt - r.frm ≤ 1200
      · rcases co_lim va vb vr (t := 0) (by decide) (by decide) with ec | ec
        · exact tables_A_ok A1 A2 n1 c1 n2 c2 la lb a b r t w ht h1 h2 (Lib.hid ga) (Lib.hid gb) m1 m2 (Lib.hid fe) (Lib.hid fv) p1 (Lib.hid vr) (Lib.hid (decide_eq_true few)) ⟨hk, fun _ => few⟩ (Lib.hid ec) (Lib.hid (Tpm.fol_co fv vr ec))
        · exact tables_A_lim A1 A2 n1 c1 n2 c2 la lb a b r t w ht h1 h2 (Lib.hid ga) (Lib.hid gb) m1 m2 (Lib.hid fe) (Lib.hid fv) p1 (Lib.hid vr) (Lib.hid (decide_eq_true few)) ⟨hk, fun _ => few⟩ (Lib.hid ec)
      · exact tables_A_few A1 A2 n1 c1 n2 c2 la lb a b r t w ht h1 h2 (Lib.hid ga) (Lib.hid gb) m1 m2 (Lib.hid fe) (Lib.hid fv) p1 (Lib.hid vr) (Lib.hid (decide_eq_false few))
end Go.Proofs.YtcnenkhgbifmmaaDoor
