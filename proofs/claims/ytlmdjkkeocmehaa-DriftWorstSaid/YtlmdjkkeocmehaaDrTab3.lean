/- Plain facts on the reference's ways: bands, tables, the worst of rows, and the laws on the worst and on segments. No program in sight. -/
import Derived.Test.YtlmdjkkeocmehaaDrTab2
set_option linter.unusedVariables false
namespace Go.Proofs.Ytlmdjkkeocmehaa.Tab
open Go.Proofs.Ytlmdjkkeocmehaa
/-- an integer of a list in its place -/
def gd (l : List Int) (i : Nat) : Bool := decide (-1000000 ≤ ai l i) && decide (ai l i ≤ 1000000) && (decide (i = 0) || decide (ai l (i - 1) < ai l i))
theorem gd_yes {l : List Int} {i : Nat} (h1 : -1000000 ≤ ai l i) (h2 : ai l i ≤ 1000000) (h3 : i = 0 ∨ ai l (i - 1) < ai l i) : gd l i = true := by
  unfold gd; rw [decide_eq_true h1, decide_eq_true h2]; rcases h3 with h | h
  · rw [decide_eq_true h]; rfl
  · rw [decide_eq_true h]; simp
theorem gd_bd {l : List Int} {i : Nat} (h : gd l i = true) : -1000000 ≤ ai l i ∧ ai l i ≤ 1000000 ∧ (i = 0 ∨ ai l (i - 1) < ai l i) := by
  unfold gd at h; simp only [Bool.and_eq_true, Bool.or_eq_true, decide_eq_true_eq] at h; exact ⟨h.1.1, h.1.2, h.2⟩
theorem rising_gd {l : List Int} (h : rising l = true) : ∀ i, i < l.length → gd l i = true := by
  obtain ⟨h1, h2, h3, h4, h5⟩ := rising_facts h
  intro i hi
  have e1 := up_le h5 (i := 0) (k := i) (by omega) hi
  have e2 := up_le h5 (i := i) (k := l.length - 1) (by omega) (by omega)
  refine gd_yes (by omega) (by omega) ?_
  rcases Nat.eq_zero_or_pos i with h6 | h6
  · exact .inl h6
  · right; have := h5 (i - 1) (by omega); rwa [show i - 1 + 1 = i by omega] at this
theorem rising_bad {l : List Int} {i : Nat} (hi : i < l.length) (h : gd l i = false) : rising l = false := by
  cases h1 : rising l
  · rfl
  · have := rising_gd h1 i hi; rw [h] at this; cases this
theorem rising_all {l : List Int} {n : Nat} (hn : l.length = n) (h : ∀ i, i < n → gd l i = true) : rising l = (decide (1 ≤ n) && decide (n ≤ 8)) := by
  rw [rising_n hn]
  by_cases h1 : 1 ≤ n
  · have g0 := gd_bd (h 0 (by omega))
    have g1 := gd_bd (h (n - 1) (by omega))
    have hu : (nb l (n - 1)).all lt2 = true := by
      rw [← hn]; refine up_to fun j hj => ?_
      have := (gd_bd (h (j + 1) (by omega))).2.2
      rcases this with e | e
      · omega
      · simpa using e
    rw [decide_eq_true g0.1, decide_eq_true g1.2.1, hu]; simp
  · rw [decide_eq_false h1]; rfl
/-- the greatest of a part of the cells -/
structure Pr (t : Tb) (i k K : Nat) (a b : Nat) (m : Int) : Prop where
  up : ∀ a' j, i ≤ a' → k ≤ j → j ≤ K → (a' < a ∨ a' = a ∧ j < b) → cellAt t a' j ≤ m
  at' : m = 0 ∨ ∃ a' j, i ≤ a' ∧ k ≤ j ∧ j ≤ K ∧ (a' < a ∨ a' = a ∧ j < b) ∧ m = cellAt t a' j
theorem Pr.start {t : Tb} {i k K : Nat} : Pr t i k K i k 0 := ⟨fun a' j h1 h2 h3 h4 => by omega, .inl rfl⟩
theorem Pr.next {t : Tb} {i k K a : Nat} {m : Int} (h : Pr t i k K a (K + 1) m) : Pr t i k K (a + 1) k m := by
  refine ⟨fun a' j h1 h2 h3 h4 => h.up a' j h1 h2 h3 (by omega), ?_⟩
  rcases h.at' with h1 | ⟨a', j, h1, h2, h3, h4, h5⟩
  · exact .inl h1
  · exact .inr ⟨a', j, h1, h2, h3, by omega, h5⟩
theorem Pr.step {t : Tb} {i k K a b : Nat} {m : Int} (h : Pr t i k K a b m) (hi : i ≤ a) (hk : k ≤ b) (hb : b ≤ K) : Pr t i k K a (b + 1) (mx m (cellAt t a b)) := by
  obtain ⟨m1, m2⟩ := @mx_le m (cellAt t a b)
  refine ⟨fun a' j h1 h2 h3 h4 => ?_, ?_⟩
  · by_cases e : a' = a ∧ j = b
    · obtain ⟨rfl, rfl⟩ := e; exact m2
    · exact Int.le_trans (h.up a' j h1 h2 h3 (by omega)) m1
  · rcases @mx_or m (cellAt t a b) with e | e
    · rw [e]
      rcases h.at' with h1 | ⟨a', j, h1, h2, h3, h4, h5⟩
      · exact .inl h1
      · exact .inr ⟨a', j, h1, h2, h3, by omega, h5⟩
    · exact .inr ⟨a, b, hi, hk, hb, by omega, e⟩
theorem wI_le {t : Tb} (ok : Ok t) {x1 x2 y1 : Int} (h : wN t x1 y1 = true) (hx : x1 ≤ x2) : ∃ I : Nat, bd t.te x2 t.te.length = (I : Int) ∧ wI t x1 ≤ I ∧ I < t.te.length := by
  have h1 := (wN_is h).1
  have h2 := bd_mono ok.ua hx
  have h3 := @bd_lt t.te x2 t.te.length
  exact ⟨(bd t.te x2 t.te.length).toNat, by omega, by omega, by omega⟩
theorem wK_le {t : Tb} (ok : Ok t) {x1 y1 y2 : Int} (h : wN t x1 y1 = true) (hy : y1 ≤ y2) : ∃ K : Nat, bd t.ag y2 t.ag.length = (K : Int) ∧ wK t y1 ≤ K ∧ K < t.ag.length := by
  have h1 := (wN_is h).2.2.1
  have h2 := bd_mono ok.ub hy
  have h3 := @bd_lt t.ag y2 t.ag.length
  exact ⟨(bd t.ag y2 t.ag.length).toNat, by omega, by omega, by omega⟩
/-- the reference's worst one is the same -/
theorem Pr.worst {t : Tb} {x1 x2 y1 y2 : Int} (h : wE t x1 x2 y1 y2 = 0) {I K : Nat} (hI : bd t.te x2 t.te.length = (I : Int)) (hK : bd t.ag y2 t.ag.length = (K : Int)) {m : Int} (hp : Pr t (wI t x1) (wK t y1) K (I + 1) (wK t y1) m) : wV t x1 x2 y1 y2 = m := by
  obtain ⟨h1, h2⟩ := wE_zero h
  obtain ⟨v1, v2, v3⟩ := wB_yes h1
  have ok := valid_ok v1
  obtain ⟨i1, i2, i3, i4⟩ := wN_is h2
  have m1 := bd_mono ok.ua v2
  have m2 := bd_mono ok.ub v3
  have b1 := @bd_lt t.te x2 t.te.length
  have b2 := @bd_lt t.ag y2 t.ag.length
  refine (wV_is h).one ⟨fun a j h1 h2 h3 h4 h5 h6 => ?_, ?_⟩
  · have e1 := (bd_iff ok.ua h2).2 h3
    have e2 := (bd_iff ok.ub h5).2 h6
    exact hp.up a j h1 h4 (by omega) (by omega)
  · rcases hp.at' with h3 | ⟨a', j, h3, h4, h5, h6, h7⟩
    · have c0 := ((ok.r (wI t x1) i2).2 (wK t y1) i4).1
      have c1 := hp.up (wI t x1) (wK t y1) (Nat.le_refl _) (Nat.le_refl _) (by omega) (by omega)
      refine ⟨wI t x1, wK t y1, Nat.le_refl _, i2, (bd_iff ok.ua i2).1 (by omega), Nat.le_refl _, i4, (bd_iff ok.ub i4).1 (by omega), ?_⟩
      unfold cellAt at *; omega
    · exact ⟨a', j, h3, by omega, (bd_iff ok.ua (by omega)).1 (by omega), h4, by omega, (bd_iff ok.ub (by omega)).1 (by omega), h7⟩
/-- the rate is the cell of its bands -/
theorem rate_is {t : Tb} {x y : Int} (h : wE t x x y y = 0) : wV t x x y y = cellAt t (wI t x) (wK t y) := by
  obtain ⟨h1, h2⟩ := wE_zero h
  have ok := valid_ok (wB_yes h1).1
  obtain ⟨i1, i2, i3, i4⟩ := wN_is h2
  obtain ⟨-, a, j, a1, a2, a3, a4, a5, a6, a7⟩ := wV_is h
  have e1 := (bd_iff ok.ua a2).2 a3
  have e2 := (bd_iff ok.ub a5).2 a6
  rw [a7, show a = wI t x by omega, show j = wK t y by omega]
/-- narrower ranges -/
theorem clamp_ok {t : Tb} {x1 x2 y1 y2 a b : Int} (h : wE t x1 x2 y1 y2 = 0) (ha : x1 ≤ a) (ha2 : a ≤ x2) (hb : y1 ≤ b) (hb2 : b ≤ y2) : wE t a x2 b y2 = 0 ∧ wV t a x2 b y2 ≤ wV t x1 x2 y1 y2 ∧ wE t a a b b = 0 ∧ wV t a a b b ≤ wV t x1 x2 y1 y2 := by
  obtain ⟨h1, h2⟩ := wE_zero h
  obtain ⟨v1, v2, v3⟩ := wB_yes h1
  have ok := valid_ok v1
  obtain ⟨i1, i2, i3, i4⟩ := wN_is h2
  have m1 := bd_mono ok.ua ha
  have m2 := bd_mono ok.ub hb
  have hn : wN t a b = true := by unfold wN; rw [decide_eq_true (by omega), decide_eq_true (by omega)]; rfl
  obtain ⟨j1, j2, j3, j4⟩ := wN_is hn
  have e1 : wE t a x2 b y2 = 0 := wE_of (by unfold wB; rw [v1, decide_eq_true ha2, decide_eq_true hb2]; rfl) hn
  have e2 : wE t a a b b = 0 := wE_of (by unfold wB; rw [v1, decide_eq_true (Int.le_refl a), decide_eq_true (Int.le_refl b)]; rfl) hn
  have u := (wV_is h).up
  refine ⟨e1, ?_, e2, ?_⟩
  · obtain ⟨-, c, d, c1, c2, c3, c4, c5, c6, c7⟩ := wV_is e1
    rw [c7]; exact u c d (by omega) c2 c3 (by omega) c5 c6
  · obtain ⟨-, c, d, c1, c2, c3, c4, c5, c6, c7⟩ := wV_is e2
    rw [c7]; exact u c d (by omega) c2 (by omega) (by omega) c5 (by omega)
/-- where the worst one is met: at the lower end of a range, or at a beginning in it -/
theorem worst_met {t : Tb} {x1 x2 y1 y2 : Int} (h : wE t x1 x2 y1 y2 = 0) : ∃ c d : Int, (c = x1 ∨ ∃ a, a < t.te.length ∧ c = ai t.te a) ∧ (d = y1 ∨ ∃ j, j < t.ag.length ∧ d = ai t.ag j) ∧ x1 ≤ c ∧ c ≤ x2 ∧ y1 ≤ d ∧ d ≤ y2 ∧ wE t c c d d = 0 ∧ wV t c c d d = wV t x1 x2 y1 y2 := by
  obtain ⟨h1, h2⟩ := wE_zero h
  obtain ⟨v1, v2, v3⟩ := wB_yes h1
  have ok := valid_ok v1
  obtain ⟨i1, i2, i3, i4⟩ := wN_is h2
  obtain ⟨-, a, j, a1, a2, a3, a4, a5, a6, a7⟩ := wV_is h
  have hc : ∃ c, (c = x1 ∨ ∃ a, a < t.te.length ∧ c = ai t.te a) ∧ x1 ≤ c ∧ c ≤ x2 ∧ bd t.te c t.te.length = (a : Int) := by
    rcases Nat.lt_or_ge (wI t x1) a with e | e
    · have e1 : ¬ ai t.te a ≤ x1 := fun q => by have := (bd_iff ok.ua a2).2 q; omega
      refine ⟨ai t.te a, .inr ⟨a, a2, rfl⟩, by omega, a3, ?_⟩
      have e2 := (bd_iff (x := ai t.te a) ok.ua a2).2 (Int.le_refl _)
      have e3 := @bd_lt t.te (ai t.te a) t.te.length
      rcases Int.lt_or_le (a : Int) (bd t.te (ai t.te a) t.te.length) with e4 | e4
      · have e5 := (bd_iff (x := ai t.te a) ok.ua (j := a + 1) (by omega)).1 (by omega)
        have := ok.ua a (by omega); omega
      · omega
    · exact ⟨x1, .inl rfl, by omega, v2, by omega⟩
  have hd : ∃ d, (d = y1 ∨ ∃ j, j < t.ag.length ∧ d = ai t.ag j) ∧ y1 ≤ d ∧ d ≤ y2 ∧ bd t.ag d t.ag.length = (j : Int) := by
    rcases Nat.lt_or_ge (wK t y1) j with e | e
    · have e1 : ¬ ai t.ag j ≤ y1 := fun q => by have := (bd_iff ok.ub a5).2 q; omega
      refine ⟨ai t.ag j, .inr ⟨j, a5, rfl⟩, by omega, a6, ?_⟩
      have e2 := (bd_iff (x := ai t.ag j) ok.ub a5).2 (Int.le_refl _)
      have e3 := @bd_lt t.ag (ai t.ag j) t.ag.length
      rcases Int.lt_or_le (j : Int) (bd t.ag (ai t.ag j) t.ag.length) with e4 | e4
      · have e5 := (bd_iff (x := ai t.ag j) ok.ub (j := j + 1) (by omega)).1 (by omega)
        have := ok.ub j (by omega); omega
      · omega
    · exact ⟨y1, .inl rfl, by omega, v3, by omega⟩
  obtain ⟨c, c1, c2, c3, c4⟩ := hc
  obtain ⟨d, d1, d2, d3, d4⟩ := hd
  have hn : wN t c d = true := by unfold wN; rw [decide_eq_true (by omega), decide_eq_true (by omega)]; rfl
  obtain ⟨j1, j2, j3, j4⟩ := wN_is hn
  have e2 : wE t c c d d = 0 := wE_of (by unfold wB; rw [v1, decide_eq_true (Int.le_refl c), decide_eq_true (Int.le_refl d)]; rfl) hn
  exact ⟨c, d, c1, d1, c2, c3, d2, d3, e2, by rw [rate_is e2, a7, show wI t c = a by omega, show wK t d = j by omega]⟩
/-- what segments add up to -/
def suLo (t : Tb) (l : List Sg) : Int := (l.map (sgLo t)).sum
def suHi (t : Tb) (l : List Sg) : Int := (l.map (sgHi t)).sum
theorem sv_ok {t : Tb} : ∀ (l : List Sg) (lo hi : Int), (∀ s ∈ l, sgE t s = 0) → sv t l lo hi = if 3000000000000000 < hi + suHi t l then (0, 0, 3) else (lo + suLo t l, hi + suHi t l, 0) := by
  intro l
  induction l with
  | nil => intro lo hi _; simp [sv, suLo, suHi]
  | cons s r ih =>
    intro lo hi h
    have h1 := h s (by simp)
    have h2 := ih (lo + sgLo t s) (hi + sgHi t s) (fun x hx => h x (by simp [hx]))
    show (if sgE t s = 0 then _ else _) = _
    rw [if_pos h1, h2]
    have e1 : suLo t (s :: r) = sgLo t s + suLo t r := by simp [suLo]
    have e2 : suHi t (s :: r) = sgHi t s + suHi t r := by simp [suHi]
    rw [e1, e2, ← Int.add_assoc, ← Int.add_assoc]
theorem sv_no {t : Tb} : ∀ (l : List Sg) (lo hi : Int), (∃ s ∈ l, sgE t s ≠ 0) → ∃ e, e ≠ 0 ∧ sv t l lo hi = (0, 0, e) := by
  intro l
  induction l with
  | nil => rintro lo hi ⟨s, h, -⟩; simp at h
  | cons s r ih =>
    rintro lo hi ⟨x, hx, hx2⟩
    by_cases h1 : sgE t s = 0
    · have : ∃ s ∈ r, sgE t s ≠ 0 := by
        rcases List.mem_cons.1 hx with e | e
        · rw [e] at hx2; exact absurd h1 hx2
        · exact ⟨x, e, hx2⟩
      obtain ⟨e, e1, e2⟩ := ih (lo + sgLo t s) (hi + sgHi t s) this
      exact ⟨e, e1, by show (if sgE t s = 0 then _ else _) = _; rw [if_pos h1]; exact e2⟩
    · exact ⟨sgE t s, h1, by show (if sgE t s = 0 then _ else _) = _; rw [if_neg h1]⟩
theorem su_nn {t : Tb} : ∀ l : List Sg, (∀ s ∈ l, sgE t s = 0) → 0 ≤ suLo t l ∧ 0 ≤ suHi t l := by
  intro l
  induction l with
  | nil => intro _; simp [suLo, suHi]
  | cons s r ih =>
    intro h
    have h1 := ih (fun x hx => h x (by simp [hx]))
    have h2 := sg_ok (h s (by simp))
    have e1 : suLo t (s :: r) = sgLo t s + suLo t r := by simp [suLo]
    have e2 : suHi t (s :: r) = sgHi t s + suHi t r := by simp [suHi]
    omega
theorem su_le {t : Tb} : ∀ l : List Sg, (∀ s ∈ l, sgE t s = 0) → suLo t l ≤ suHi t l := by
  intro l
  induction l with
  | nil => intro _; simp [suLo, suHi]
  | cons s r ih =>
    intro h
    have h1 := ih (fun x hx => h x (by simp [hx]))
    have h2 := sg_ok (h s (by simp))
    have h3 := Drm.el_bd h2.2.2.1.1 h2.2.2.1.2 h2.1.1
    have e1 : suLo t (s :: r) = sgLo t s + suLo t r := by simp [suLo]
    have e2 : suHi t (s :: r) = sgHi t s + suHi t r := by simp [suHi]
    have e3 : sgLo t s ≤ sgHi t s := by unfold sgLo sgHi; omega
    omega
theorem su_app {t : Tb} (l r : List Sg) : suLo t (l ++ r) = suLo t l + suLo t r ∧ suHi t (l ++ r) = suHi t l + suHi t r := by simp [suLo, suHi]
theorem su_rev {t : Tb} (l : List Sg) : suLo t l.reverse = suLo t l ∧ suHi t l.reverse = suHi t l := by
  induction l with
  | nil => simp
  | cons s r ih =>
    rw [List.reverse_cons, (su_app _ _).1, (su_app _ _).2, ih.1, ih.2]
    simp [suLo, suHi, Int.add_comm]
/-- what the sum says: with an error of any kind nothing; without one each segment has an answer -/
theorem several_ways {t : Tb} {l : List Sg} (hl : l.length ≤ 64) : ((several t l).2.2 ≠ 0 ∧ (several t l).1 = 0 ∧ (several t l).2.1 = 0 ∧ (several t l.reverse).2.2 ≠ 0) ∨
    (valid t = true ∧ (∀ s ∈ l, sgE t s = 0) ∧ suHi t l ≤ 3000000000000000 ∧ several t l = (suLo t l, suHi t l, 0) ∧ several t l.reverse = (suLo t l, suHi t l, 0)) := by
  have el : ∀ m : List Sg, m.length ≤ 64 → valid t = true → several t m = sv t m 0 0 := fun m hm hv => by unfold several; rw [hv, if_pos rfl, if_neg (by omega)]
  cases hv : valid t
  · have h0 : ∀ m, several t m = (0, 0, 1) := fun m => by unfold several; rw [hv]; rfl
    left; rw [h0, h0]; simp
  have e1 := el l hl hv
  have e2 := el l.reverse (by simpa using hl) hv
  by_cases hs : ∀ s ∈ l, sgE t s = 0
  · have f1 := sv_ok l 0 0 hs
    have f2 := sv_ok l.reverse 0 0 (fun s h => hs s (by simpa using h))
    rw [(su_rev l).1, (su_rev l).2] at f2
    simp only [Int.zero_add] at f1 f2
    by_cases hb : 3000000000000000 < suHi t l
    · rw [if_pos hb] at f1 f2
      left; rw [e1, e2, f1, f2]; simp
    · rw [if_neg hb] at f1 f2
      exact .inr ⟨rfl, hs, by omega, e1.trans f1, e2.trans f2⟩
  · have hs' : ∃ s ∈ l, sgE t s ≠ 0 := by simpa using hs
    obtain ⟨s, q1, q2⟩ := hs'
    obtain ⟨a, a1, a2⟩ := sv_no l 0 0 ⟨s, q1, q2⟩
    obtain ⟨b, b1, b2⟩ := sv_no l.reverse 0 0 ⟨s, by simpa using q1, q2⟩
    left; rw [e1, e2, a2, b2]; exact ⟨a1, rfl, rfl, b1⟩
/-- all but the last one -/
theorem several_init {t : Tb} {l : List Sg} {n : Nat} (hn : l.length = n) (h0 : 0 < n) (hl : n ≤ 64) (hv : valid t = true) (hs : ∀ s ∈ l, sgE t s = 0) (hb : suHi t l ≤ 3000000000000000) :
    several t (l.take (n - 1)) = (suLo t (l.take (n - 1)), suHi t (l.take (n - 1)), 0) ∧ sgE t (sAt l (n - 1)) = 0 ∧ suLo t l = suLo t (l.take (n - 1)) + sgLo t (sAt l (n - 1)) ∧ suHi t l = suHi t (l.take (n - 1)) + sgHi t (sAt l (n - 1)) := by
  have e : l = l.take (n - 1) ++ [sAt l (n - 1)] := by
    have h1 := List.take_append_drop (n - 1) l
    rw [drop_at hn (show n - 1 < n by omega), show n - 1 + 1 = n by omega, List.drop_eq_nil_of_le (by omega)] at h1
    exact h1.symm
  have hm : sgE t (sAt l (n - 1)) = 0 := hs _ (by unfold sAt; rw [List.getElem?_eq_getElem (by omega)]; exact List.getElem_mem _)
  have hi : ∀ s ∈ l.take (n - 1), sgE t s = 0 := fun s h => hs s (List.mem_of_mem_take h)
  have a := su_app (t := t) (l.take (n - 1)) [sAt l (n - 1)]
  rw [← e] at a
  have z : suLo t [sAt l (n - 1)] = sgLo t (sAt l (n - 1)) ∧ suHi t [sAt l (n - 1)] = sgHi t (sAt l (n - 1)) := by simp [suLo, suHi]
  rw [z.1, z.2] at a
  have p := sg_ok hm
  refine ⟨?_, hm, a.1, a.2⟩
  have f := sv_ok (l.take (n - 1)) 0 0 hi
  simp only [Int.zero_add] at f
  rw [if_neg (by omega)] at f
  unfold several
  rw [hv, if_pos rfl, if_neg (by rw [List.length_take]; omega)]
  exact f
end Go.Proofs.Ytlmdjkkeocmehaa.Tab
