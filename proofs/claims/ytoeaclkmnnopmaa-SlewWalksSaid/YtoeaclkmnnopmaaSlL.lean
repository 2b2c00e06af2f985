/- The walk of the law SlewWalks: it returns true for all clocks, limits and turns; nothing that was there has changed. -/
import Derived.Test.YtoeaclkmnnopmaaSlK
set_option linter.unusedVariables false
namespace Go.Proofs.Ytoeaclkmnnopmaa
open Go.RowKit
theorem OAt.set3 {W : World} {k : Nat} {a s r : Int} (h : OAt W k a s r) (a' s' r' : Int) : OAt (((W.setCell ⟨k, 0, none⟩ (.int .i64 a')).setCell ⟨k, 1, none⟩ (.int .i64 s')).setCell ⟨k, 2, none⟩ (.int .i64 r')) k a' s' r' := by
  obtain ⟨h0, ⟨h1, h2, h3⟩, h4, h5, h6⟩ := h
  refine ⟨by simpa using h0, ⟨?_, ?_, ?_⟩, by simpa using h4, by simpa using h5, by simpa using h6⟩
  · rw [World.cell?_setCell_other _ ⟨k, 2, none⟩ ⟨k, 0, none⟩ _ (by simp), World.cell?_setCell_other _ ⟨k, 1, none⟩ ⟨k, 0, none⟩ _ (by simp)]; exact World.cell?_setCell_same _ _ _ h1
  · rw [World.cell?_setCell_other _ ⟨k, 2, none⟩ ⟨k, 1, none⟩ _ (by simp)]; exact World.cell?_setCell_same _ _ _ (u := .int .i64 s) (by rw [World.cell?_setCell_other _ ⟨k, 0, none⟩ ⟨k, 1, none⟩ _ (by simp)]; exact h2)
  · exact World.cell?_setCell_same _ _ _ (u := .int .i64 r) (by rw [World.cell?_setCell_other _ ⟨k, 1, none⟩ ⟨k, 2, none⟩ _ (by simp), World.cell?_setCell_other _ ⟨k, 0, none⟩ ⟨k, 2, none⟩ _ (by simp)]; exact h3)
theorem OAt.rules {W : World} {k : Nat} {a s r : Int} (h : OAt W k a s r) : (W.cell? ⟨k, 0, none⟩ = some (.int .i64 a) ∧ W.cell? ⟨k, 1, none⟩ = some (.int .i64 s) ∧ W.cell? ⟨k, 2, none⟩ = some (.int .i64 r)) ∧
    ((∀ o, (W.alloc o).cell? ⟨k, 0, none⟩ = some (.int .i64 a)) ∧ (∀ o, (W.alloc o).cell? ⟨k, 1, none⟩ = some (.int .i64 s)) ∧ (∀ o, (W.alloc o).cell? ⟨k, 2, none⟩ = some (.int .i64 r))) ∧
    ((W.frozen? ⟨k, 0, none⟩ = false ∧ W.frozen? ⟨k, 1, none⟩ = false ∧ W.frozen? ⟨k, 2, none⟩ = false) ∧ (∀ o, (W.alloc o).frozen? ⟨k, 0, none⟩ = false) ∧ (∀ o, (W.alloc o).frozen? ⟨k, 1, none⟩ = false) ∧ (∀ o, (W.alloc o).frozen? ⟨k, 2, none⟩ = false)) ∧ k < W.heap.size :=
  ⟨h.2.1, ⟨fun o => (h.alloc o).2.1.1, fun o => (h.alloc o).2.1.2.1, fun o => (h.alloc o).2.1.2.2⟩, ⟨h.2.2, fun o => (h.alloc o).2.2.1, fun o => (h.alloc o).2.2.2.1, fun o => (h.alloc o).2.2.2.2⟩, h.1⟩
/-- what holds at the head of each round -/
def WalkR (w : World) (B n : Nat) (at' show' l : Int) (k : Nat) (c S R : Int) (wr : World) : Prop :=
  k ≤ n ∧ (0 ≤ c ∧ c ≤ k * 1000000000) ∧ (-l ≤ R ∧ R ≤ l) ∧ show' ≤ S ∧ show' + c + Slm.part c (-l) - k ≤ S ∧ S ≤ show' + c + Slm.part c l ∧ OAt wr B (at' + c) S R ∧ w.heap.size ≤ B ∧ Below w.heap.size w wr
theorem walk_step {at' show' l c S R n : Int} {k : Nat} (l1 : 0 ≤ l) (l2 : l ≤ 100000000) (hc : 0 ≤ c) (hn : 0 ≤ n) (r1 : -l ≤ R) (r2 : R ≤ l) (h1 : show' ≤ S) (h2 : show' + c + Slm.part c (-l) - k ≤ S) (h3 : S ≤ show' + c + Slm.part c l) :
    S ≤ S + n + Slm.part n R ∧ show' + (c + n) + Slm.part (c + n) (-l) - (k + 1 : Nat) ≤ S + n + Slm.part n R ∧ S + n + Slm.part n R ≤ show' + (c + n) + Slm.part (c + n) l := by
  have p0 := Slm.part_lo (n := n) (r := R) hn (by omega) (by omega)
  have p1 := Slm.part_mono hn r1
  have p2 := Slm.part_mono hn r2
  have q1 := Slm.part_add c n (-l)
  have q2 := Slm.part_add c n l
  omega
theorem walk_bd {show' l c S : Int} (l1 : 0 ≤ l) (l2 : l ≤ 100000000) (hc : 0 ≤ c) (hc2 : c ≤ 8000001000) (s0 : 0 ≤ show') (s1 : show' ≤ 1500000000000000) (h1 : show' ≤ S) (h3 : S ≤ show' + c + Slm.part c l) : 0 ≤ S ∧ S ≤ 1500010000000000 := by
  have := Slm.part_bd (n := c) (r := l) hc (by omega) l2
  omega
theorem sh_walk {a s r n : Int} (a1 : 0 ≤ a) (a2 : a ≤ 1600000000000000) (s1 : 0 ≤ s) (s2 : s ≤ 1600000000000000) (r1 : -100000000 ≤ r) (r2 : r ≤ 100000000) (n1 : 0 ≤ n) (n2 : n ≤ 1000000000) :
    Slm.shE a s r (a + n) = 0 ∧ Slm.shV a s r (a + n) = s + n + Slm.part n r ∧ Slm.shn a s r (a + n) = s + n + Slm.part n r := by
  have e : Slm.shn a s r (a + n) = s + n + Slm.part n r := by
    show s + (a + n - a) + Slm.part (a + n - a) r = _
    rw [show a + n - a = n by omega]
  have hp := Slm.part_bd (n := n) (r := r) n1 r1 r2
  have g := Slm.sh_yes (a := a) (s := s) (r := r) (t := a + n) (Slm.vO_yes ⟨a1, by omega⟩ ⟨s1, by omega⟩ ⟨r1, r2⟩) (Slm.tT_yes ⟨by omega, by omega⟩) (by omega) (by rw [e]; omega)
  exact ⟨g.1, g.2.trans e, e⟩
theorem st_walk {a s r n want l h : Int} (a1 : 0 ≤ a) (a2 : a ≤ 1600000000000000) (s1 : 0 ≤ s) (s2 : s ≤ 1600000000000000) (r1 : -l ≤ r) (r2 : r ≤ l) (n1 : 0 ≤ n) (n2 : n ≤ 1000000000) (w1 : 0 ≤ want) (w2 : want ≤ 1600000000000000) (l1 : 0 ≤ l) (l2 : l ≤ 100000000) (h1 : 1 ≤ h) (h2 : h ≤ 1000000000000) :
    Slm.stE a s r (a + n) want l h = 0 ∧ Slm.stA a s r (a + n) want l h = a + n ∧ Slm.stS a s r (a + n) want l h = s + n + Slm.part n r ∧ ∃ R, Slm.stR a s r (a + n) want l h = R ∧ -l ≤ R ∧ R ≤ l := by
  obtain ⟨g1, g2, g3⟩ := sh_walk (a := a) (s := s) (r := r) (n := n) a1 a2 s1 s2 (by omega) (by omega) n1 n2
  have hv : Slm.vO a s r = true := Slm.vO_yes ⟨a1, by omega⟩ ⟨s1, by omega⟩ ⟨by omega, by omega⟩
  have hB : Slm.stB a s r (a + n) want l h = true := by
    unfold Slm.stB; rw [hv, Slm.tT_yes ⟨by omega, by omega⟩, Slm.tT_yes ⟨w1, by omega⟩, decide_eq_true l1, decide_eq_true l2, decide_eq_true h1, decide_eq_true h2]; rfl
  have e : Slm.stE a s r (a + n) want l h = 0 := by unfold Slm.stE; rw [hB, if_pos rfl]; exact g1
  obtain ⟨_, _, q3, q4, q5⟩ := Slm.st_ok e
  have hR := Slm.spd_bd (d := want - Slm.shn a s r (a + n)) (l := l) (h := h) h1 l1
  exact ⟨e, q3, q4.trans g3, _, q5, hR.1, hR.2⟩
set_option maxHeartbeats 2000000 in
set_option maxRecDepth 100000 in
theorem walks_bad (at' sh l : Int) (A : Option Addr) (n c : Nat) (w : World) (hc : c ≤ maxLen) (hnc : n ≤ c) (hg : Slm.vO at' sh 0 = false ∨ Slm.vO at' sh 0 = true ∧ ¬ (0 ≤ l ∧ l ≤ 100000000 ∧ (n : Int) ≤ 8 ∧ at' ≤ 1500000000000000 ∧ sh ≤ 1500000000000000)) :
    Calls Try.prog 8 #[.int .i64 at', .int .i64 sh, .int .i64 l, .slice A n c] w (LawPost w) := by
  have hb := Below.refl w.heap.size w
  unfold maxLen at hc
  rcases hg with h1 | ⟨h1, h2⟩
  all_goals
    go_enter Try.func8, Try.ntmps8
    go_wp2_with (first | (go_at_call 9; refine (head_c (by assumption)).mono ?_; rintro e w1 ⟨rfl, hb⟩) | (go_at_call 16; refine (Start_c (by assumption)).mono ?_; rintro e w1 ⟨rfl, hb⟩))
    all_goals go_ret
    all_goals exact ⟨rfl, hb.alloc hb.size _⟩
set_option maxHeartbeats 2000000 in
set_option maxRecDepth 100000 in
theorem walks_main (at' sh l : Int) (A : Option Addr) (n c : Nat) (w : World) (hc : c ≤ maxLen) (hnc : n ≤ c) (h1 : Slm.vO at' sh 0 = true) (l1 : 0 ≤ l) (l2 : l ≤ 100000000) (hn : n ≤ 8) (a2 : at' ≤ 1500000000000000) (s2 : sh ≤ 1500000000000000) (hT : Tr w.heap.size w A n) :
    Calls Try.prog 8 #[.int .i64 at', .int .i64 sh, .int .i64 l, .slice A n c] w (LawPost w) := by
  have hb := Below.refl w.heap.size w
  unfold maxLen at hc
  obtain ⟨⟨a1, _⟩, ⟨s1, _⟩, _⟩ := Slm.vO_bd h1
  have o1 : oB true at' = at' := rfl
  have o2 : oB true sh = sh := rfl
  have HT := Lib.hid hT
  clear hT
  go_enter Try.func8, Try.ntmps8
  go_wp2_with (first | (go_at_call 9; refine (head_c (by assumption)).mono ?_; rintro e w1 ⟨rfl, hb⟩) | (go_at_call 16; refine (Start_c (by assumption)).mono ?_; rintro e w1 ⟨rfl, hb⟩))
  have H1 := Lib.hid h1
  clear h1 o1 o2
  go_loopw [58, 12, 13] (fun i nw sw wr => ∃ (k : Nat) (c S R : Int), i = .int .i64 k ∧ nw = .int .i64 (at' + c) ∧ sw = .int .i64 S ∧ WalkR w w1.heap.size n at' sh l k c S R wr) (fun i _ _ _ => n - (intOf i).toNat)
  case atStart => exact ⟨0, 0, sh, 0, rfl, by simp, rfl, Nat.zero_le _, ⟨by omega, by omega⟩, ⟨by omega, by omega⟩, Int.le_refl _, by rw [Slm.part_zero]; omega, by rw [Slm.part_zero]; omega, by rw [Int.add_zero]; exact OAt.new _ _ _ _ _, hb.size, hb.alloc hb.size _⟩
  case round =>
    obtain ⟨k, c', S, R, rfl, rfl, rfl, hk, ⟨c1, c2⟩, ⟨r1, r2⟩, i1, i2, i3, hO, hB, hbw⟩ := hrel
    have hkb : (k : Int) ≤ 8 := by omega
    obtain ⟨b1, b2⟩ := walk_bd l1 l2 c1 (by omega) s1 s2 i1 i3
    by_cases hlt : k < n
    · obtain ⟨b, off, rfl, hbb, hcl⟩ := HT.out (by omega)
      obtain ⟨x, y, z, ⟨x1, x2⟩, ⟨y1, y2⟩, ⟨z1, z2⟩, d0, d1, d2⟩ := hcl k hlt
      have d0 := (hbw.cell (p := ⟨b, off + k * 3, none⟩) hbb).trans d0
      have d1 := (hbw.cell (p := ⟨b, off + k * 3 + 1, none⟩) hbb).trans d1
      have d2 := (hbw.cell (p := ⟨b, off + k * 3 + 2, none⟩) hbb).trans d2
      clear hcl
      obtain ⟨⟨e0, e1, e2⟩, ⟨g0, g1, g2⟩, _, hsz⟩ := hO.rules
      obtain ⟨m, hm⟩ : ∃ m, x % 1000000001 = m := ⟨_, rfl⟩
      have m1 : 0 ≤ m := by omega
      have m2 : m ≤ 1000000000 := by omega
      obtain ⟨u1, u2, _⟩ := sh_walk (a := at' + c') (s := S) (r := R) (n := m) (by omega) (by omega) (by omega) (by omega) (by omega) (by omega) m1 m2
      obtain ⟨v1, v2, v3, R', v4, v5, v6⟩ := st_walk (a := at' + c') (s := S) (r := R) (n := m) (want := sh + y) (l := l) (h := 1 + z) (by omega) (by omega) (by omega) (by omega) r1 r2 m1 m2 (by omega) (by omega) l1 l2 (by omega) (by omega)
      have hst := walk_step (at' := at') (n := m) l1 l2 c1 m1 r1 r2 i1 i2 i3
      obtain ⟨P, hP⟩ : ∃ p, S + m + Slm.part m R = p := ⟨_, rfl⟩
      rw [hP] at u2 v3 hst
      obtain ⟨j1, j2, j3⟩ := hst
      have HJ := Lib.hid (And.intro j2 j3)
      clear j2 j3 i2 i3 hP
      go_wp2_with fail
      refine (Show_any _ _ _ _ _).mono ?_
      rintro e w2 ⟨rfl, hn2⟩
      have hO2 := (hO.alloc _).below hn2
      have hbw2 := Below.goA hbw hn2
      obtain ⟨⟨x0', x1', x2'⟩, _⟩ := blk3 (keep' (heap_new _ _) hn2)
      clear hn2
      obtain ⟨⟨p0, p1, p2⟩, _⟩ := hO2.rules
      go_wp2_with fail
      refine (Steer_any _ _ _ _ _ _ _ _).mono ?_
      rintro e w3 ⟨rfl, hn3⟩
      have hO3 := hO2.below hn3
      have hbw3 := Below.go hbw2 hn3
      clear hn3
      obtain ⟨_, _, ⟨⟨f0, f1, f2⟩, F0, F1, F2⟩, hs3⟩ := hO3.rules
      go_wp2
      go_roundw
      case rel => exact ⟨k + 1, c' + m, P, R', by go_num, by rw [Int.add_assoc], rfl, by omega, ⟨by omega, by omega⟩, ⟨v5, v6⟩, by omega, HJ.out.1, HJ.out.2, by rw [← Int.add_assoc]; exact (hO3.set3 _ _ _).alloc _, hB, ((((hbw3.setCell hB _).setCell hB _).setCell hB _).alloc (by simpa using hbw3.size) _)⟩
      case measure => simp [intOf]; omega
    · obtain rfl : k = n := by omega
      obtain ⟨⟨e0, e1, e2⟩, _⟩ := hO.rules
      obtain ⟨u1, u2, _⟩ := sh_walk (a := at' + c') (s := S) (r := R) (n := 1000) (by omega) (by omega) (by omega) (by omega) (by omega) (by omega) (by omega) (by omega)
      have hst := walk_step (at' := at') (n := 1000) l1 l2 c1 (by omega) r1 r2 i1 i2 i3
      obtain ⟨P, hP⟩ : ∃ p, S + 1000 + Slm.part 1000 R = p := ⟨_, rfl⟩
      rw [hP] at u2 hst
      obtain ⟨j1, j2, j3⟩ := hst
      have q1 := Slm.part_bd (n := c' + 1000) (r := -l) (by omega) (by omega) (by omega)
      have q2 := Slm.part_bd (n := c' + 1000) (r := l) (by omega) (by omega) (by omega)
      clear i2 i3 hP
      go_wp2_with fail
      refine (Show_any _ _ _ _ _).mono ?_
      rintro e w2 ⟨rfl, hn2⟩
      have hbw2 := Below.go hbw hn2
      clear hn2
      have hcnt : at' + c' + 1000 - at' = c' + 1000 := by omega
      obtain ⟨X, hX⟩ : ∃ x, Slm.part (c' + 1000) (-l) = x := ⟨_, rfl⟩
      obtain ⟨Y, hY⟩ : ∃ x, Slm.part (c' + 1000) l = x := ⟨_, rfl⟩
      rw [hX] at j2 q1
      rw [hY] at j3 q2
      have t1 : decide (c' + 1000 + X - (k : Int) - 1 ≤ P - sh) = true := decide_eq_true (by omega)
      have t2 : decide (P - sh ≤ c' + 1000 + Y) = true := decide_eq_true (by omega)
      go_wp2_with (go_at_call 11; refine (part_any _ _ _ (by omega) (by omega) (by omega) (by omega)).mono ?_; rintro e w3 ⟨rfl, hn3⟩; have hbw2 := Below.go hbw2 hn3)
      go_ret
      exact ⟨rfl, hbw2⟩
theorem walks_law (at' sh l : Int) (v : Value) (u : Unit) (w : World) (h1 : (Lit.int .i64 at').wf = true) (h2 : (Lit.int .i64 sh).wf = true) (h3 : (Lit.int .i64 l).wf = true) (hv : IsTurns w v u) :
    Calls Try.prog 8 #[.int .i64 at', .int .i64 sh, .int .i64 l, v] w (LawPost w) := by
  obtain ⟨A, n, c, rfl, hnc, hc, hA, hT⟩ := hv
  cases hv : Slm.vO at' sh 0
  · exact walks_bad at' sh l A n c w hc hnc (.inl hv)
  · by_cases hg : 0 ≤ l ∧ l ≤ 100000000 ∧ (n : Int) ≤ 8 ∧ at' ≤ 1500000000000000 ∧ sh ≤ 1500000000000000
    · exact walks_main at' sh l A n c w hc hnc hv hg.1 hg.2.1 (by omega) hg.2.2.2.1 hg.2.2.2.2 hT
    · exact walks_bad at' sh l A n c w hc hnc (.inr ⟨hv, hg⟩)
end Go.Proofs.Ytoeaclkmnnopmaa
