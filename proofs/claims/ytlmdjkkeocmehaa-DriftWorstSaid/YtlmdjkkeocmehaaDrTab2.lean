/- Plain facts on the worst rate bound and on segments. No program in sight. -/
import Derived.Test.YtlmdjkkeocmehaaDrTab
set_option linter.unusedVariables false
namespace Go.Proofs.Ytlmdjkkeocmehaa.Tab
open Go.Proofs.Ytlmdjkkeocmehaa
theorem inn_spec {ag r : List Int} {y : Int} (h : Up ag) : ∀ f b m, b + f ≤ ag.length → m ≤ inn ag r y f b m ∧ (∀ j, b ≤ j → j < b + f → ai ag j ≤ y → ai r j ≤ inn ag r y f b m) ∧ (inn ag r y f b m = m ∨ ∃ j, b ≤ j ∧ j < b + f ∧ ai ag j ≤ y ∧ inn ag r y f b m = ai r j) := by
  intro f
  induction f with
  | zero => intro b m _; exact ⟨Int.le_refl _, fun j h1 h2 => by omega, .inl rfl⟩
  | succ f ih =>
    intro b m hb
    by_cases hy : y < ai ag b
    · rw [inn_stop hy]
      refine ⟨Int.le_refl _, fun j h1 h2 h3 => ?_, .inl rfl⟩
      have := up_le h h1 (by omega); omega
    · rw [inn_go hy]
      obtain ⟨i1, i2, i3⟩ := ih (b + 1) (mx m (ai r b)) (by omega)
      obtain ⟨g1, g2⟩ := @mx_le m (ai r b)
      refine ⟨by omega, fun j h1 h2 h3 => ?_, ?_⟩
      · rcases Nat.lt_or_ge b j with h4 | h4
        · exact i2 j h4 (by omega) h3
        · rw [show j = b by omega]; omega
      · rcases i3 with h5 | ⟨j, j1, j2, j3, j4⟩
        · rw [h5]
          rcases @mx_or m (ai r b) with h6 | h6
          · exact .inl h6
          · exact .inr ⟨b, Nat.le_refl _, by omega, by omega, h6⟩
        · exact .inr ⟨j, by omega, by omega, j3, j4⟩
def cellAt (t : Tb) (a j : Nat) : Int := ai (row t.ra a) j
theorem out_spec {t : Tb} (ok : Ok t) {x y : Int} {k : Nat} (hk : k ≤ t.ag.length) : ∀ f a m, a + f ≤ t.te.length → m ≤ out t x y k f a m ∧ (∀ a' j, a ≤ a' → a' < a + f → ai t.te a' ≤ x → k ≤ j → j < t.ag.length → ai t.ag j ≤ y → cellAt t a' j ≤ out t x y k f a m) ∧
    (out t x y k f a m = m ∨ ∃ a' j, a ≤ a' ∧ a' < a + f ∧ ai t.te a' ≤ x ∧ k ≤ j ∧ j < t.ag.length ∧ ai t.ag j ≤ y ∧ out t x y k f a m = cellAt t a' j) := by
  intro f
  induction f with
  | zero => intro a m _; exact ⟨Int.le_refl _, fun a' j h1 h2 => by omega, .inl rfl⟩
  | succ f ih =>
    intro a m ha
    by_cases hx : x < ai t.te a
    · rw [out_stop hx]
      refine ⟨Int.le_refl _, fun a' j h1 h2 h3 => ?_, .inl rfl⟩
      have := up_le ok.ua h1 (by omega); omega
    · rw [out_go hx]
      obtain ⟨p1, p2, p3⟩ := inn_spec (r := row t.ra a) (y := y) ok.ub (t.ag.length - k) k m (by omega)
      obtain ⟨i1, i2, i3⟩ := ih (a + 1) (inn t.ag (row t.ra a) y (t.ag.length - k) k m) (by omega)
      refine ⟨by omega, fun a' j h1 h2 h3 h4 h5 h6 => ?_, ?_⟩
      · rcases Nat.lt_or_ge a a' with h7 | h7
        · exact i2 a' j h7 (by omega) h3 h4 h5 h6
        · obtain rfl : a' = a := by omega
          have := p2 j h4 (by omega) h6
          unfold cellAt; omega
      · rcases i3 with h7 | ⟨a', j, j1, j2, j3, j4, j5, j6, j7⟩
        · rw [h7]
          rcases p3 with h8 | ⟨j, j1, j2, j3, j4⟩
          · exact .inl h8
          · exact .inr ⟨a, j, Nat.le_refl _, by omega, by omega, j1, by omega, j3, j4⟩
        · exact .inr ⟨a', j, by omega, by omega, j3, j4, j5, j6, j7⟩
/-- the greatest of some cells -/
structure IsW (t : Tb) (i k : Nat) (x y V : Int) : Prop where
  up : ∀ a j, i ≤ a → a < t.te.length → ai t.te a ≤ x → k ≤ j → j < t.ag.length → ai t.ag j ≤ y → cellAt t a j ≤ V
  at' : ∃ a j, i ≤ a ∧ a < t.te.length ∧ ai t.te a ≤ x ∧ k ≤ j ∧ j < t.ag.length ∧ ai t.ag j ≤ y ∧ V = cellAt t a j
theorem IsW.one {t : Tb} {i k : Nat} {x y V V' : Int} (h : IsW t i k x y V) (h' : IsW t i k x y V') : V = V' := by
  obtain ⟨u, a, j, a1, a2, a3, a4, a5, a6, a7⟩ := h
  obtain ⟨u', b, l, b1, b2, b3, b4, b5, b6, b7⟩ := h'
  have g1 := u b l b1 b2 b3 b4 b5 b6
  have g2 := u' a j a1 a2 a3 a4 a5 a6
  omega
theorem wB_yes {t : Tb} {x1 x2 y1 y2 : Int} (h : wB t x1 x2 y1 y2 = true) : valid t = true ∧ x1 ≤ x2 ∧ y1 ≤ y2 := by
  unfold wB at h
  simp only [Bool.and_eq_true, decide_eq_true_eq] at h
  exact ⟨h.1.1, h.1.2, h.2⟩
theorem wE_zero {t : Tb} {x1 x2 y1 y2 : Int} (h : wE t x1 x2 y1 y2 = 0) : wB t x1 x2 y1 y2 = true ∧ wN t x1 y1 = true := by
  unfold wE at h
  cases h1 : wB t x1 x2 y1 y2 <;> cases h2 : wN t x1 y1 <;> simp_all
theorem wI_at {t : Tb} {x y : Int} (h : wN t x y = true) : ai t.te (wI t x) ≤ x ∧ ai t.ag (wK t y) ≤ y := by
  unfold wN at h
  simp only [Bool.and_eq_true, decide_eq_true_eq] at h
  exact ⟨bd_at _ h.1, bd_at _ h.2⟩
theorem wV_is {t : Tb} {x1 x2 y1 y2 : Int} (h : wE t x1 x2 y1 y2 = 0) : IsW t (wI t x1) (wK t y1) x2 y2 (wV t x1 x2 y1 y2) := by
  obtain ⟨h1, h2⟩ := wE_zero h
  obtain ⟨v1, v2, v3⟩ := wB_yes h1
  have ok := valid_ok v1
  obtain ⟨-, i2, -, i4⟩ := wN_is h2
  obtain ⟨a1, a2⟩ := wI_at h2
  have e : wV t x1 x2 y1 y2 = out t x2 y2 (wK t y1) (t.te.length - wI t x1) (wI t x1) 0 := by unfold wV; rw [h1, h2]; rfl
  rw [e]
  obtain ⟨p1, p2, p3⟩ := out_spec ok (x := x2) (y := y2) (k := wK t y1) (by omega) (t.te.length - wI t x1) (wI t x1) 0 (by omega)
  refine ⟨fun a j h1 h2 h3 h4 h5 h6 => p2 a j h1 (by omega) h3 h4 h5 h6, ?_⟩
  rcases p3 with h5 | ⟨a', j, j1, j2, j3, j4, j5, j6, j7⟩
  · refine ⟨wI t x1, wK t y1, Nat.le_refl _, i2, by omega, Nat.le_refl _, i4, by omega, ?_⟩
    have g1 := p2 (wI t x1) (wK t y1) (Nat.le_refl _) (by omega) (by omega) (Nat.le_refl _) i4 (by omega)
    have g2 := ((ok.r (wI t x1) i2).2 (wK t y1) i4).1
    unfold cellAt at *
    omega
  · exact ⟨a', j, j1, by omega, j3, j4, j5, j6, j7⟩
theorem wV_bd {t : Tb} {x1 x2 y1 y2 : Int} (h : wE t x1 x2 y1 y2 = 0) : 0 ≤ wV t x1 x2 y1 y2 ∧ wV t x1 x2 y1 y2 ≤ 1000000 := by
  obtain ⟨-, a, j, a1, a2, a3, a4, a5, a6, a7⟩ := wV_is h
  obtain ⟨h1, h2⟩ := wE_zero h
  have ok := valid_ok (wB_yes h1).1
  have := (ok.r a a2).2 j a5
  unfold cellAt at a7
  omega
theorem wE_of {t : Tb} {x1 x2 y1 y2 : Int} (h1 : wB t x1 x2 y1 y2 = true) (h2 : wN t x1 y1 = true) : wE t x1 x2 y1 y2 = 0 := by unfold wE; rw [h1, h2]; rfl
theorem wV_z {t : Tb} {x1 x2 y1 y2 : Int} (h : wE t x1 x2 y1 y2 ≠ 0) : wV t x1 x2 y1 y2 = 0 := by
  unfold wV
  cases h1 : wB t x1 x2 y1 y2 <;> cases h2 : wN t x1 y1 <;> simp
  exact absurd (wE_of h1 h2) h
/-- segments -/
structure Sg where
  n : Int
  x1 : Int
  x2 : Int
  y1 : Int
  y2 : Int
def s0 : Sg := ⟨0, 0, 0, 0, 0⟩
def sAt (l : List Sg) (k : Nat) : Sg := l[k]?.getD s0
def sgE (t : Tb) (s : Sg) : Int := if Drm.sB s.n then wE t s.x1 s.x2 s.y1 s.y2 else 1
def sgR (t : Tb) (s : Sg) : Int := wV t s.x1 s.x2 s.y1 s.y2
def sgLo (t : Tb) (s : Sg) : Int := Drm.elLo (sgR t s) s.n
def sgHi (t : Tb) (s : Sg) : Int := Drm.elHi (sgR t s) s.n
abbrev R3 := Int × Int × Int
def sv (t : Tb) : List Sg → Int → Int → R3
  | [], lo, hi => if 3000000000000000 < hi then (0, 0, 3) else (lo, hi, 0)
  | s :: r, lo, hi => if sgE t s = 0 then sv t r (lo + sgLo t s) (hi + sgHi t s) else (0, 0, sgE t s)
def several (t : Tb) (l : List Sg) : R3 := if valid t then (if 64 < l.length then (0, 0, 2) else sv t l 0 0) else (0, 0, 1)
theorem drop_at {l : List Sg} {k n : Nat} (h : l.length = n) (hk : k < n) : l.drop k = sAt l k :: l.drop (k + 1) := by
  rw [List.drop_eq_getElem_cons (by omega)]; unfold sAt; simp [show k < l.length by omega]
theorem sg_ok {t : Tb} {s : Sg} (h : sgE t s = 0) : (0 ≤ s.n ∧ s.n ≤ 1000000000000000) ∧ wE t s.x1 s.x2 s.y1 s.y2 = 0 ∧ (0 ≤ sgR t s ∧ sgR t s ≤ 1000000) ∧ 0 ≤ sgLo t s ∧ sgLo t s ≤ 2000000000000000 ∧ 0 ≤ sgHi t s ∧ sgHi t s ≤ 2000000000000000 := by
  unfold sgE at h
  cases h1 : Drm.sB s.n
  · rw [h1] at h; simp at h
  rw [h1, if_pos rfl] at h
  obtain ⟨n1, n2⟩ := Drm.sB_bd h1
  have hr : 0 ≤ sgR t s ∧ sgR t s ≤ 1000000 := wV_bd h
  have := Drm.el_bd (r := sgR t s) (n := s.n) hr.1 hr.2 n1
  unfold sgLo sgHi
  omega
theorem sg_el {t : Tb} {s : Sg} (h : sgE t s = 0) : Drm.eE (sgR t s) s.n = 0 ∧ Drm.eLo (sgR t s) s.n = sgLo t s ∧ Drm.eHi (sgR t s) s.n = sgHi t s := by
  obtain ⟨h1, -, h2, -⟩ := sg_ok h
  have := Drm.okE_yes (Drm.okE_mk h2 h1)
  exact ⟨this.1, this.2.1, this.2.2.1⟩
end Go.Proofs.Ytlmdjkkeocmehaa.Tab
