/- The contracts of package edition: formed, difference, Follows. Conditions: tables of up to 110 leap seconds. -/
import Derived.Test.YtcnenkhgbifmmaaDoorReAA
import Derived.Test.YtcnenkhgbifmmaaDoorReT
import Derived.Test.YtcnenkhgbifmmaaDoorReMath
set_option linter.unusedVariables false
namespace Go.Proofs.YtcnenkhgbifmmaaDoor
open Go.RowKit
/-- an edition, without its table -/
structure Ed where
  ver : Int
  frm : Int
  unt : Int
  sc : Int
  ss : Int
def formedB (e : Ed) (l : Lpm.LL) : Bool := decide (1 ≤ e.ver ∧ e.ver ≤ 1000 ∧ 0 ≤ e.frm ∧ e.frm < e.unt ∧ e.unt ≤ 3000000000000000) && Lpm.valid l
theorem formed_no {e : Ed} {l : Lpm.LL} (h : ¬ (1 ≤ e.ver ∧ e.ver ≤ 1000 ∧ 0 ≤ e.frm ∧ e.frm < e.unt ∧ e.unt ≤ 3000000000000000)) : false = formedB e l := by simp [formedB, h]
theorem formed_yes {e : Ed} {l : Lpm.LL} (h : 1 ≤ e.ver ∧ e.ver ≤ 1000 ∧ 0 ≤ e.frm ∧ e.frm < e.unt ∧ e.unt ≤ 3000000000000000) : Lpm.valid l = formedB e l := by simp [formedB, h]
theorem blk6 {W : World} {k : Nat} {a b c d e f : Value} {t : TypeId} (h : W.heap[k]? = some (.cells #[a, b, c, d, e, f] t)) : W.cell? ⟨k, 0, none⟩ = some a ∧ W.cell? ⟨k, 1, none⟩ = some b ∧ W.cell? ⟨k, 2, none⟩ = some c ∧ W.cell? ⟨k, 3, none⟩ = some d ∧ W.cell? ⟨k, 4, none⟩ = some e ∧ W.cell? ⟨k, 5, none⟩ = some f := by
  simp [World.cell?, h]
set_option maxHeartbeats 2000000 in
set_option maxRecDepth 100000 in
theorem formed_any (A : Option Addr) (n c : Nat) (l : Lpm.LL) (e : Ed) (w : World) (hl : Lp w.heap.size w A n l) (hn : n ≤ 110) :
    Calls Tryd.prog 33 #[(.agg #[.int .i64 e.ver, .int .i64 e.frm, .int .i64 e.unt, .slice A n c, .int .i64 e.sc, .int .i64 e.ss])] w (RetB (.bool (formedB e l)) w) := by
  have H1 : Hid (∀ W, Below w.heap.size w W → Lp W.heap.size W A n l) := Lib.hid fun W hW => hl.go hW
  clear hl
  have hb := Below.goN (Below.refl w.heap.size w) (.cells #[.int .i64 e.ver, .int .i64 e.frm, .int .i64 e.unt, .slice A n c, .int .i64 e.sc, .int .i64 e.ss] 43)
  obtain ⟨k0, k1, k2, k3, k4, k5⟩ := blk6 (heap_new w (.cells #[.int .i64 e.ver, .int .i64 e.frm, .int .i64 e.unt, .slice A n c, .int .i64 e.sc, .int .i64 e.ss] 43))
  go_enter Tryd.func33, Tryd.ntmps33
  by_cases q0 : 1 ≤ e.ver
  · have d0 : decide (1 ≤ e.ver) = true := decide_eq_true q0
    by_cases q1 : e.ver ≤ 1000
    · have d1 : decide (e.ver ≤ 1000) = true := decide_eq_true q1
      by_cases q2 : 0 ≤ e.frm
      · have d2 : decide (0 ≤ e.frm) = true := decide_eq_true q2
        by_cases q3 : e.frm < e.unt
        · have d3 : decide (e.frm < e.unt) = true := decide_eq_true q3
          by_cases q4 : e.unt ≤ 3000000000000000
          · have d4 : decide (e.unt ≤ 3000000000000000) = true := decide_eq_true q4
            go_wp2_with fail
            refine (valid_c (c := c) (H1.out _ hb) (Nat.le_refl _) hn (Below.refl _ _)).mono ?_
            rintro v w1 ⟨rfl, hn1⟩
            have hb := Below.go hb hn1
            clear hn1
            go_wp2
            go_ret
            exact ⟨ret_bool (formed_yes ⟨q0, q1, q2, q3, q4⟩), hb⟩
          · have d4 : decide (e.unt ≤ 3000000000000000) = false := decide_eq_false q4
            go_wp2
            go_ret
            exact ⟨ret_bool (formed_no (by omega)), hb⟩
        · have d3 : decide (e.frm < e.unt) = false := decide_eq_false q3
          go_wp2
          go_ret
          exact ⟨ret_bool (formed_no (by omega)), hb⟩
      · have d2 : decide (0 ≤ e.frm) = false := decide_eq_false q2
        go_wp2
        go_ret
        exact ⟨ret_bool (formed_no (by omega)), hb⟩
    · have d1 : decide (e.ver ≤ 1000) = false := decide_eq_false q1
      go_wp2
      go_ret
      exact ⟨ret_bool (formed_no (by omega)), hb⟩
  · have d0 : decide (1 ≤ e.ver) = false := decide_eq_false q0
    go_wp2
    go_ret
    exact ⟨ret_bool (formed_no (by omega)), hb⟩
set_option maxHeartbeats 2000000 in
set_option maxRecDepth 100000 in
theorem refFormed_any (A : Option Addr) (n c : Nat) (l : Lpm.LL) (e : Ed) (w : World) (hl : Lp w.heap.size w A n l) (hn : n ≤ 110) :
    Calls Tryd.prog 32 #[(.agg #[.int .i64 e.ver, .int .i64 e.frm, .int .i64 e.unt, .slice A n c, .int .i64 e.sc, .int .i64 e.ss])] w (RetB (.bool (formedB e l)) w) := by
  have H1 : Hid (∀ W, Below w.heap.size w W → Lp W.heap.size W A n l) := Lib.hid fun W hW => hl.go hW
  clear hl
  have hb := Below.goN (Below.refl w.heap.size w) (.cells #[.int .i64 e.ver, .int .i64 e.frm, .int .i64 e.unt, .slice A n c, .int .i64 e.sc, .int .i64 e.ss] 43)
  have kx := Lib.hid (heap_new w (.cells #[.int .i64 e.ver, .int .i64 e.frm, .int .i64 e.unt, .slice A n c, .int .i64 e.sc, .int .i64 e.ss] 43))
  obtain ⟨k0, k1, k2, k3, k4, k5⟩ := blk6 kx.out
  go_enter Tryd.func32, Tryd.ntmps32
  go_wp2_with fail
  refine (refValid_c (c := c) (H1.out _ hb) (Nat.le_refl _) hn (Below.refl _ _)).mono ?_
  rintro v w1 ⟨rfl, hn1⟩
  obtain ⟨k0, k1, k2, k3, k4, k5⟩ := blk6 (keep' kx.out hn1)
  have hb := Below.go hb hn1
  clear hn1
  by_cases q0 : 1 ≤ e.ver
  · have d0 : decide (1 ≤ e.ver) = true := decide_eq_true q0
    by_cases q1 : e.ver ≤ 1000
    · have d1 : decide (e.ver ≤ 1000) = true := decide_eq_true q1
      by_cases q2 : 0 ≤ e.frm
      · have d2 : decide (0 ≤ e.frm) = true := decide_eq_true q2
        by_cases q3 : e.frm < e.unt
        · have d3 : decide (e.frm < e.unt) = true := decide_eq_true q3
          by_cases q4 : e.unt ≤ 3000000000000000
          · have d4 : decide (e.unt ≤ 3000000000000000) = true := decide_eq_true q4
            go_wp2
            go_ret
            exact ⟨ret_bool (formed_yes ⟨q0, q1, q2, q3, q4⟩), hb⟩
          · have d4 : decide (e.unt ≤ 3000000000000000) = false := decide_eq_false q4
            go_wp2
            go_ret
            exact ⟨ret_bool (formed_no (by omega)), hb⟩
        · have d3 : decide (e.frm < e.unt) = false := decide_eq_false q3
          go_wp2
          go_ret
          exact ⟨ret_bool (formed_no (by omega)), hb⟩
      · have d2 : decide (0 ≤ e.frm) = false := decide_eq_false q2
        go_wp2
        go_ret
        exact ⟨ret_bool (formed_no (by omega)), hb⟩
    · have d1 : decide (e.ver ≤ 1000) = false := decide_eq_false q1
      go_wp2
      go_ret
      exact ⟨ret_bool (formed_no (by omega)), hb⟩
  · have d0 : decide (1 ≤ e.ver) = false := decide_eq_false q0
    go_wp2
    go_ret
    exact ⟨ret_bool (formed_no (by omega)), hb⟩
/-- the first day on which two tables differ -/
def dif : Lpm.LL → Lpm.LL → Option Int
  | [], [] => none
  | [], y :: _ => some y.1
  | x :: _, [] => some x.1
  | x :: a, y :: b => if x = y then dif a b else some (min x.1 y.1)
theorem dif_end {a b : Lpm.LL} {k : Nat} (ha : a.length ≤ k) (hb : b.length ≤ k) (h : dif a b = dif (a.drop k) (b.drop k)) : dif a b = none := by
  rw [h, List.drop_eq_nil_of_le ha, List.drop_eq_nil_of_le hb]; rfl
theorem dif_a {a b : Lpm.LL} {k n : Nat} {d s : Int} (hn : b.length = n) (ha : a.length ≤ k) (hb : k < n) (hx : b[k]?.getD (0, 0) = (d, s)) (h : dif a b = dif (a.drop k) (b.drop k)) : dif a b = some d := by
  rw [h, List.drop_eq_nil_of_le ha, drop_cons hn hb, hx]; rfl
theorem dif_b {a b : Lpm.LL} {k n : Nat} {d s : Int} (hn : a.length = n) (hb : b.length ≤ k) (ha : k < n) (hx : a[k]?.getD (0, 0) = (d, s)) (h : dif a b = dif (a.drop k) (b.drop k)) : dif a b = some d := by
  rw [h, List.drop_eq_nil_of_le hb, drop_cons hn ha, hx]; rfl
theorem dif_c {a b : Lpm.LL} {k n m : Nat} {d s d' s' : Int} (hn : a.length = n) (hm : b.length = m) (ha : k < n) (hb : k < m) (hx : a[k]?.getD (0, 0) = (d, s)) (hy : b[k]?.getD (0, 0) = (d', s')) (h : dif a b = dif (a.drop k) (b.drop k)) :
    ((d, s) = (d', s') → dif a b = dif (a.drop (k + 1)) (b.drop (k + 1))) ∧ ((d, s) ≠ (d', s') → dif a b = some (min d d')) := by
  rw [h, drop_cons hn ha, drop_cons hm hb, hx, hy]
  exact ⟨fun e => by rw [dif, if_pos e], fun e => by rw [dif, if_neg e]⟩
def difV (a b : Lpm.LL) : Value := .tuple #[.int .i64 ((dif a b).getD 0), .bool (dif a b).isSome]
theorem dif_ret {a b : Lpm.LL} {d : Int} (h : dif a b = some d) : Ending.returned (.tuple #[.int .i64 d, .bool true]) = .returned (difV a b) := by unfold difV; rw [h]; rfl
theorem dif_ret0 {a b : Lpm.LL} (h : dif a b = none) : Ending.returned (.tuple #[.int .i64 0, .bool false]) = .returned (difV a b) := by unfold difV; rw [h]; rfl
set_option maxHeartbeats 2000000 in
set_option maxRecDepth 100000 in
theorem difference_any (A1 A2 : Option Addr) (n1 c1 n2 c2 : Nat) (a b : Lpm.LL) (w : World) (h1 : Lp w.heap.size w A1 n1 a) (h2 : Lp w.heap.size w A2 n2 b) (m1 : n1 ≤ 110) (m2 : n2 ≤ 110) :
    Calls Tryd.prog 34 #[.slice A1 n1 c1, .slice A2 n2 c2] w (RetB (difV a b) w) := by
  have H1 := Lib.hid h1
  have H2 := Lib.hid h2
  have N1 := Lib.hid h1.1
  have N2 := Lib.hid h2.1
  clear h1 h2
  by_cases hq : n1 < n2
  · have hqI : (n1 : Int) < (n2 : Int) := by omega
    have hM1 : ∀ k, k < n2 → k < n1 ∨ k < n2 := fun k hk => by omega
    have hM2 : n1 ≤ n2 ∧ n2 ≤ n2 ∧ n2 ≤ 110 := by omega
    go_enter Tryd.func34, Tryd.ntmps34
    go_wp2
    go_loopw [12] (fun i wr => ∃ k : Nat, k ≤ n2 ∧ i = .int .i64 k ∧ Hid (dif a b = dif (a.drop k) (b.drop k)) ∧ Below w.heap.size w wr) (fun i _ => n2 - (intOf i).toNat)
    case atStart => exact ⟨0, Nat.zero_le _, rfl, Lib.hid rfl, Below.refl _ _⟩
    case round =>
      obtain ⟨k, hk, rfl, hD, hb⟩ := hrel
      by_cases hlt : k < n2
      · have i0 : (0 : Int) ≤ (k : Int) := by omega
        have i1 : (k : Int) < (n2 : Int) := by omega
        by_cases q1 : n1 ≤ k
        · have q2 : k < n2 := by have := hM1 k hlt; omega
          obtain ⟨b2, off2, rfl, hB2, hc2⟩ := H2.out.2 (by omega)
          have y0 := (hb.cell (p := ⟨b2, off2 + k * 2, none⟩) hB2).trans (hc2 k q2).1
          obtain ⟨d, s, hx⟩ : ∃ d s, b[k]?.getD (0, 0) = (d, s) := ⟨_, _, rfl⟩
          rw [hx] at y0
          have HE := Lib.hid (dif_a N2.out (by rw [N1.out]; exact q1) q2 hx hD.out)
          have g1 : (n1 : Int) ≤ (k : Int) := by omega
          have g2 : (k : Int) < (n2 : Int) := by omega
          clear hc2 hx
          go_wp2
          go_ret2
          exact ⟨dif_ret HE.out, hb⟩
        · obtain ⟨b1, off1, rfl, hB1, hc1⟩ := H1.out.2 (by omega)
          have x0 := (hb.cell (p := ⟨b1, off1 + k * 2, none⟩) hB1).trans (hc1 k (by omega)).1
          have x1 := (hb.cell (p := ⟨b1, off1 + k * 2 + 1, none⟩) hB1).trans (hc1 k (by omega)).2
          obtain ⟨d, s, hx⟩ : ∃ d s, a[k]?.getD (0, 0) = (d, s) := ⟨_, _, rfl⟩
          rw [hx] at x0 x1
          have g1 : ¬ (n1 : Int) ≤ (k : Int) := by omega
          have g2 : (k : Int) < (n1 : Int) := by omega
          clear hc1
          by_cases q2 : n2 ≤ k
          · omega
          · obtain ⟨b2, off2, rfl, hB2, hc2⟩ := H2.out.2 (by omega)
            have y0 := (hb.cell (p := ⟨b2, off2 + k * 2, none⟩) hB2).trans (hc2 k (by omega)).1
            have y1 := (hb.cell (p := ⟨b2, off2 + k * 2 + 1, none⟩) hB2).trans (hc2 k (by omega)).2
            obtain ⟨d', s', hy⟩ : ∃ d s, b[k]?.getD (0, 0) = (d, s) := ⟨_, _, rfl⟩
            rw [hy] at y0 y1
            obtain ⟨E1, E2⟩ := dif_c N1.out N2.out (by omega) (by omega) hx hy hD.out
            have g3 : ¬ (n2 : Int) ≤ (k : Int) := by omega
            have g4 : (k : Int) < (n2 : Int) := by omega
            clear hc2 hx hy
            cases u : (d == d')
            · have HE := E2 (fun e => by cases e; simp at u)
              clear E1 E2
              by_cases qm : d ≤ d'
              · have qn : ¬ d' < d := by omega
                rw [show min d d' = d by omega] at HE
                have HE := Lib.hid HE
                go_wp2
                go_quiet (fail)
                go_wp2
                go_quiet (fail)
                go_wp2
                go_ret2
                exact ⟨dif_ret HE.out, below_drewN (below_drewN hb _) _⟩
              · have qn : d' < d := by omega
                rw [show min d d' = d' by omega] at HE
                have HE := Lib.hid HE
                go_wp2
                go_quiet (fail)
                go_wp2
                go_quiet (fail)
                go_wp2
                go_ret2
                exact ⟨dif_ret HE.out, below_drewN (below_drewN hb _) _⟩
            · cases v : (s == s')
              · have HE := E2 (fun e => by cases e; simp at v)
                rw [beq_iff_eq] at u
                subst u
                rw [show min d d = d by omega] at HE
                have HE := Lib.hid HE
                clear E1 E2
                go_wp2
                go_quiet (fail)
                go_wp2
                go_quiet (fail)
                go_wp2
                go_ret2
                exact ⟨dif_ret HE.out, below_drewN (below_drewN hb _) _⟩
              · have HE := Lib.hid (E1 (by rw [beq_iff_eq] at u v; rw [u, v]))
                clear E1 E2
                go_wp2
                go_quiet (fail)
                go_wp2
                go_roundw
                case rel => exact ⟨k + 1, by omega, by go_num, HE, below_drewN hb _⟩
                case measure => simp [intOf]; omega
      · obtain rfl : k = n2 := by omega
        have HE := Lib.hid (dif_end (by rw [N1.out]; exact hM2.1) (by rw [N2.out]; exact hM2.2.1) hD.out)
        go_wp2
        go_ret2
        exact ⟨dif_ret0 HE.out, hb⟩
  · have hqI : ¬ (n1 : Int) < (n2 : Int) := by omega
    have hqJ : (n2 : Int) ≤ (n1 : Int) := by omega
    have hM1 : ∀ k, k < n1 → k < n1 ∨ k < n2 := fun k hk => by omega
    have hM2 : n1 ≤ n1 ∧ n2 ≤ n1 ∧ n1 ≤ 110 := by omega
    go_enter Tryd.func34, Tryd.ntmps34
    go_wp2
    go_loopw [12] (fun i wr => ∃ k : Nat, k ≤ n1 ∧ i = .int .i64 k ∧ Hid (dif a b = dif (a.drop k) (b.drop k)) ∧ Below w.heap.size w wr) (fun i _ => n1 - (intOf i).toNat)
    case atStart => exact ⟨0, Nat.zero_le _, rfl, Lib.hid rfl, Below.refl _ _⟩
    case round =>
      obtain ⟨k, hk, rfl, hD, hb⟩ := hrel
      by_cases hlt : k < n1
      · have i0 : (0 : Int) ≤ (k : Int) := by omega
        have i1 : (k : Int) < (n1 : Int) := by omega
        by_cases q1 : n1 ≤ k
        · omega
        · obtain ⟨b1, off1, rfl, hB1, hc1⟩ := H1.out.2 (by omega)
          have x0 := (hb.cell (p := ⟨b1, off1 + k * 2, none⟩) hB1).trans (hc1 k (by omega)).1
          have x1 := (hb.cell (p := ⟨b1, off1 + k * 2 + 1, none⟩) hB1).trans (hc1 k (by omega)).2
          obtain ⟨d, s, hx⟩ : ∃ d s, a[k]?.getD (0, 0) = (d, s) := ⟨_, _, rfl⟩
          rw [hx] at x0 x1
          have g1 : ¬ (n1 : Int) ≤ (k : Int) := by omega
          have g2 : (k : Int) < (n1 : Int) := by omega
          clear hc1
          by_cases q2 : n2 ≤ k
          · have HE := Lib.hid (dif_b N1.out (by rw [N2.out]; exact q2) (by omega) hx hD.out)
            have g3 : (n2 : Int) ≤ (k : Int) := by omega
            clear hx
            go_wp2
            go_ret2
            exact ⟨dif_ret HE.out, hb⟩
          · obtain ⟨b2, off2, rfl, hB2, hc2⟩ := H2.out.2 (by omega)
            have y0 := (hb.cell (p := ⟨b2, off2 + k * 2, none⟩) hB2).trans (hc2 k (by omega)).1
            have y1 := (hb.cell (p := ⟨b2, off2 + k * 2 + 1, none⟩) hB2).trans (hc2 k (by omega)).2
            obtain ⟨d', s', hy⟩ : ∃ d s, b[k]?.getD (0, 0) = (d, s) := ⟨_, _, rfl⟩
            rw [hy] at y0 y1
            obtain ⟨E1, E2⟩ := dif_c N1.out N2.out (by omega) (by omega) hx hy hD.out
            have g3 : ¬ (n2 : Int) ≤ (k : Int) := by omega
            have g4 : (k : Int) < (n2 : Int) := by omega
            clear hc2 hx hy
            cases u : (d == d')
            · have HE := E2 (fun e => by cases e; simp at u)
              clear E1 E2
              by_cases qm : d ≤ d'
              · have qn : ¬ d' < d := by omega
                rw [show min d d' = d by omega] at HE
                have HE := Lib.hid HE
                go_wp2
                go_quiet (fail)
                go_wp2
                go_quiet (fail)
                go_wp2
                go_ret2
                exact ⟨dif_ret HE.out, below_drewN (below_drewN hb _) _⟩
              · have qn : d' < d := by omega
                rw [show min d d' = d' by omega] at HE
                have HE := Lib.hid HE
                go_wp2
                go_quiet (fail)
                go_wp2
                go_quiet (fail)
                go_wp2
                go_ret2
                exact ⟨dif_ret HE.out, below_drewN (below_drewN hb _) _⟩
            · cases v : (s == s')
              · have HE := E2 (fun e => by cases e; simp at v)
                rw [beq_iff_eq] at u
                subst u
                rw [show min d d = d by omega] at HE
                have HE := Lib.hid HE
                clear E1 E2
                go_wp2
                go_quiet (fail)
                go_wp2
                go_quiet (fail)
                go_wp2
                go_ret2
                exact ⟨dif_ret HE.out, below_drewN (below_drewN hb _) _⟩
              · have HE := Lib.hid (E1 (by rw [beq_iff_eq] at u v; rw [u, v]))
                clear E1 E2
                go_wp2
                go_quiet (fail)
                go_wp2
                go_roundw
                case rel => exact ⟨k + 1, by omega, by go_num, HE, below_drewN hb _⟩
                case measure => simp [intOf]; omega
      · obtain rfl : k = n1 := by omega
        have HE := Lib.hid (dif_end (by rw [N1.out]; exact hM2.1) (by rw [N2.out]; exact hM2.2.1) hD.out)
        go_wp2
        go_ret2
        exact ⟨dif_ret0 HE.out, hb⟩
end Go.Proofs.YtcnenkhgbifmmaaDoor
