/- The contract of smear.From. -/
import Derived.Test.YtcnenkhgbifmmaaDoorSmF
set_option linter.unusedVariables false
namespace Go.Proofs.YtcnenkhgbifmmaaDoor
open Go.RowKit
abbrev I2 (a b : Int) : Value := .agg #[.int .i64 a, .int .i64 b]
abbrev oIv (x y : Int) : Obj := .cells #[.int .i64 x, .int .i64 y] 62
theorem ret_fr {a b e a' b' e' : Int} {i i' : Bool} (h1 : a' = a) (h2 : b' = b) (h3 : i' = i) (h4 : e' = e) : Ending.returned (.tuple #[I2 a b, .bool i, .int .i64 e]) = .returned (.tuple #[I2 a' b', .bool i', .int .i64 e']) := by rw [h1, h2, h3, h4]
theorem below3 (w : World) (o p q : Obj) : Below w.heap.size w (((w.alloc o).alloc p).alloc q) := (((Below.refl _ _).alloc (Nat.le_refl _) _).alloc (by simp) _).alloc (by simp; omega) _
theorem fr_ways {l : Lpm.LL} {h v : Int} (hf : Smm.fr l h v = false) : Smm.can l h = false ∨ Smm.can l h = true ∧ v < 0 ∨ Smm.can l h = true ∧ 0 ≤ v ∧ 3000000000000000 < v := by
  unfold Smm.fr at hf
  cases hc : Smm.can l h
  · exact .inl rfl
  · rw [hc] at hf
    simp only [Bool.true_and, decide_eq_false_iff_not] at hf
    rcases Int.lt_or_le v 0 with e | e
    · exact .inr (.inl ⟨rfl, e⟩)
    · exact .inr (.inr ⟨rfl, e, by omega⟩)
set_option maxHeartbeats 2000000 in
set_option maxRecDepth 100000 in
theorem From_no (A : Option Addr) (m c : Nat) (tl : Lpm.LL) (h v : Int) (w : World) (hL : Lp w.heap.size w A m tl) (hm : m ≤ 110) (hf : Smm.fr tl h v = false) : Calls Tryd.prog 20 #[.slice A m c, .int .i64 h, .int .i64 v] w (RetB (.tuple #[I2 (Smm.frLo tl h v) (Smm.frHi tl h v), .bool (Smm.frI tl h v), .int .i64 (Smm.frE tl h v)]) w) := by
  have hb0 := below3 w (.cells #[.slice A m c] 22) (.cells #[.int .i64 h] 3) (oIv 0 0)
  have kl := Lib.hid (new30 w (.cells #[.slice A m c] 22) (.cells #[.int .i64 h] 3) (oIv 0 0))
  have kh := Lib.hid (new31 w (.cells #[.slice A m c] 22) (.cells #[.int .i64 h] 3) (oIv 0 0))
  have kr := Lib.hid (new32 w (.cells #[.slice A m c] 22) (.cells #[.int .i64 h] 3) (oIv 0 0))
  have hC := Lib.hid (can_any A m c tl h _ ((hL.below hb0).mono hb0.size) hm)
  have hz := Lib.hid (Smm.fr_bad hf)
  have cl := blk1 kl.out
  have ch := blk1 kh.out
  rcases fr_ways hf with h1 | ⟨h1, h2⟩ | ⟨h1, h2, h3⟩
  all_goals
    rw [h1] at hC
    clear hf h1 hL
    go_enter Tryd.func20, Tryd.ntmps20
    go_wp2_with fail
    refine hC.out.mono ?_
    rintro e w1 ⟨rfl, hb1⟩
    have hb := Below.go hb0 hb1
    obtain ⟨⟨d0, d1⟩, f0, f1⟩ := blk2 (keep' kr.out hb1)
    go_wp2
    exact bodyPost_ret (v := .tuple #[I2 0 0, .bool false, .int .i64 1]) (by simp [results, Tryd.results20, go_sem, d0, d1]) rfl ⟨ret_fr hz.out.2.2.1 hz.out.2.2.2 hz.out.2.1 hz.out.1, by (repeat (with_reducible first | exact hb | refine Below.drew ?_ | refine Below.setCell ?_ ?_ _)); all_goals (first | omega | (simp; done) | (simp; omega))⟩
set_option maxHeartbeats 4000000 in
set_option maxRecDepth 100000 in
theorem From_ok (A : Option Addr) (m c : Nat) (tl : Lpm.LL) (h v : Int) (w : World) (hL : Lp w.heap.size w A m tl) (hm : m ≤ 110) (hc : Smm.can tl h = true) (v0 : 0 ≤ v) (v1 : v ≤ 3000000000000000) : Calls Tryd.prog 20 #[.slice A m c, .int .i64 h, .int .i64 v] w (RetB (.tuple #[I2 (Smm.frLo tl h v) (Smm.frHi tl h v), .bool (Smm.frI tl h v), .int .i64 (Smm.frE tl h v)]) w) := by
  have hb0 := below3 w (.cells #[.slice A m c] 22) (.cells #[.int .i64 h] 3) (oIv 0 0)
  have kl := Lib.hid (new30 w (.cells #[.slice A m c] 22) (.cells #[.int .i64 h] 3) (oIv 0 0))
  have kh := Lib.hid (new31 w (.cells #[.slice A m c] 22) (.cells #[.int .i64 h] 3) (oIv 0 0))
  have kr := Lib.hid (new32 w (.cells #[.slice A m c] 22) (.cells #[.int .i64 h] 3) (oIv 0 0))
  have hC := Lib.hid (can_any A m c tl h _ ((hL.below hb0).mono hb0.size) hm)
  rw [hc] at hC
  have HC := Lib.hid (Smm.can_yes hc)
  have hfb := Smm.fin_bd HC.out
  have hme := Smm.end_bd HC.out.v
  have hfe : Smm.fin tl = Lpm.start tl 34000 + 86400000000 := hme.1
  have HS : Hid (∀ W, Below w.heap.size w W → Calls Tryd.prog 21 #[.slice A m c, .int .i64 34000] W (RetB (.tuple #[.int .i64 (Lpm.start tl 34000), .int .i64 0]) W)) := Lib.hid fun W hW => Start_ok w.heap.size A m c tl 34000 W (hL.below hW) hW.size hm HC.out.v (by omega) (by omega)
  have cl := blk1 kl.out
  have ch := blk1 kh.out
  have u1 : decide (v < 0) = false := decide_eq_false (by omega)
  have u2 : decide (3000000000000000 < v) = false := decide_eq_false (by omega)
  obtain ⟨lo, hlo⟩ : ∃ x, (if 0 < v - 101000000 then v - 101000000 else 0) = x := ⟨_, rfl⟩
  obtain ⟨hi, hhi⟩ : ∃ x, (if v + 101000000 < Smm.fin tl then v + 101000000 else Smm.fin tl) = x := ⟨_, rfl⟩
  obtain ⟨W1, W2⟩ := Smm.from_ways HC.out v0 hlo hhi
  have hw1 := Lib.hid W1
  have hw2 := Lib.hid W2
  have lob : 0 ≤ lo ∧ lo ≤ 3000000000000000 := by rw [← hlo]; split <;> omega
  have hib : 101000000 ≤ hi ∧ hi ≤ 3000000000000000 + 101000000 := by rw [← hhi]; split <;> omega
  have hgap : hi - lo ≤ 300000000 := by rw [← hlo, ← hhi]; split <;> split <;> omega
  rw [hfe] at hhi
  have HFE := Lib.hid hfe
  clear W1 W2 hfe
  have HL := Lib.hid hL
  clear hL
  generalize Lpm.start tl 34000 = S at *
  have hlo2 : (0 < v - 101000000 ∧ lo = v - 101000000) ∨ (v - 101000000 ≤ 0 ∧ lo = 0) := by rw [← hlo]; split <;> omega
  have hhi2 : (v + 101000000 < S + 86400000000 ∧ hi = v + 101000000) ∨ (S + 86400000000 ≤ v + 101000000 ∧ hi = S + 86400000000) := by rw [← hhi]; split <;> omega
  have hloB : (if 101000000 < v then v - 101000000 else 0) = lo := by rw [← hlo]; split <;> split <;> omega
  clear hlo2 hhi2
  by_cases hlt : lo < hi
  rotate_left
  · have hz := Lib.hid (Smm.fr_none HC.out v0 v1 (hw1.out (by omega)))
    have q : decide (hi ≤ lo) = true := decide_eq_true (by omega)
    all_goals
      go_enter Tryd.func20, Tryd.ntmps20
      go_wp2_with fail
      refine hC.out.mono ?_
      rintro e w1 ⟨rfl, hb1⟩
      have hb := Below.go hb0 hb1
      have cl1 := blk1 (keep' kl.out hb1)
      go_wp2_with fail
      refine (HS.out _ hb).mono ?_
      rintro e w2 ⟨rfl, hb2⟩
      have hbF := Below.go hb hb2
      have kr2 := fun a b => keepN (keepN (keep' (keep' kr.out hb1) hb2) (.cells #[.int .i64 a] 3)) (.cells #[.int .i64 b] 3)
      have d0 := fun a b => (blk2 (kr2 a b)).1.1
      have d1 := fun a b => (blk2 (kr2 a b)).1.2
      have f0 := fun a b => (blk2 (kr2 a b)).2.1
      have f1 := fun a b => (blk2 (kr2 a b)).2.2
      have co := fun a b => blk1 (new0 w2 (.cells #[.int .i64 a] 3) (.cells #[.int .i64 b] 3))
      have ci := fun a b => blk1 (new1 w2 (.cells #[.int .i64 a] 3) (.cells #[.int .i64 b] 3))
      have zr := lt_of_heap (keep' (keep' kr.out hb1) hb2)
      clear kr2
      go_wp2
      exact bodyPost_ret (v := .tuple #[I2 0 0, .bool false, .int .i64 0]) (by simp [results, Tryd.results20, go_sem, d0, d1]) rfl ⟨ret_fr hz.out.2.2.1 hz.out.2.2.2 hz.out.2.1 hz.out.1, by (repeat (with_reducible first | exact hbF | refine Below.drew ?_ | refine Below.setCell ?_ ?_ _ | refine Below.alloc ?_ ?_ _)); all_goals (first | omega | exact hbF.size | (simp; done) | (have := hbF.size; simp; omega))⟩
  · obtain ⟨l0, i0, ⟨f1, f2⟩, f3, f4⟩ := hw2.out hlt
    have q : decide (hi ≤ lo) = false := decide_eq_false (by omega)
    have Hf := Lib.hid (And.intro f1 (And.intro f2 (And.intro f3 f4)))
    have hFb : -1 ≤ Smm.fst tl h v ∧ Smm.fst tl h v ≤ 4000000000000000 ∧ -1 ≤ Smm.fst tl h (v + 1) ∧ Smm.fst tl h (v + 1) ≤ 4000000000000000 := by omega
    have Hs : Hid (∀ W (_ : Below w.heap.size w W) (u : Int), lo ≤ Smm.fst tl h u → Smm.fst tl h u ≤ hi → ∀ bo bi, W.heap[w.heap.size]? = some (.cells #[.slice A m c] 22) → W.heap[w.heap.size + 1]? = some (.cells #[.int .i64 h] 3) → W.heap[bo]? = some (.cells #[.int .i64 lo] 3) → W.heap[bi]? = some (.cells #[.int .i64 hi] 3) →
        Calls Tryd.prog 44 #[.int .i64 u, .pointer (some ⟨bo, 0, none⟩), .pointer (some ⟨bi, 0, none⟩), .pointer (some ⟨w.heap.size, 0, none⟩), .pointer (some ⟨w.heap.size + 1, 0, none⟩)] W (RetB (.int .i64 (Smm.fst tl h u)) W)) := Lib.hid fun W hW u g1 g2 bo bi q1 q2 q3 q4 =>
      least_any bo bi w.heap.size (w.heap.size + 1) A m c tl h lo hi u W ((HL.out.below hW).mono hW.size) hm HC.out q1 q2 q3 q4 l0 i0 hlt hgap g1 g2
    have hz : Hid ((Smm.fst tl h v < Smm.fst tl h (v + 1) → Smm.frE tl h v = 0 ∧ Smm.frI tl h v = true ∧ Smm.frLo tl h v = Smm.fst tl h v ∧ Smm.frHi tl h v = Smm.fst tl h (v + 1) - 1) ∧ (¬ Smm.fst tl h v < Smm.fst tl h (v + 1) → Smm.frE tl h v = 0 ∧ Smm.frI tl h v = false ∧ Smm.frLo tl h v = 0 ∧ Smm.frHi tl h v = 0)) := Lib.hid ⟨fun g => Smm.fr_is HC.out v0 v1 g, fun g => Smm.fr_none HC.out v0 v1 g⟩
    have HA := Lib.hid (fun W hW => Hs.out W hW v Hf.out.1 Hf.out.2.1)
    have HB := Lib.hid (fun W hW => Hs.out W hW (v + 1) Hf.out.2.2.1 Hf.out.2.2.2)
    clear Hs Hf f1 f2 f3 f4 hw1 hw2 l0 i0
    generalize Smm.fst tl h v = F at *
    generalize Smm.fst tl h (v + 1) = G at *
    have hways : F < G ∨ ¬ F < G := by omega
    rcases hways with hFG | hFG
    · have hz2 := Lib.hid (hz.out.1 hFG)
      have q3 : decide (G - 1 < F) = false := decide_eq_false (by omega)
      all_goals
        go_enter Tryd.func20, Tryd.ntmps20
        go_wp2_with fail
        refine hC.out.mono ?_
        rintro e w1 ⟨rfl, hb1⟩
        have hb := Below.go hb0 hb1
        have cl1 := blk1 (keep' kl.out hb1)
        go_wp2_with fail
        refine (HS.out _ hb).mono ?_
        rintro e w2 ⟨rfl, hb2⟩
        have hb5 := fun a b => Below.goN (Below.goN (Below.go hb hb2) (.cells #[.int .i64 a] 3)) (.cells #[.int .i64 b] 3)
        have kl2 := Lib.hid (fun a b => keepN (keepN (keep' (keep' kl.out hb1) hb2) (.cells #[.int .i64 a] 3)) (.cells #[.int .i64 b] 3))
        have kh2 := Lib.hid (fun a b => keepN (keepN (keep' (keep' kh.out hb1) hb2) (.cells #[.int .i64 a] 3)) (.cells #[.int .i64 b] 3))
        have kr2 := Lib.hid (fun a b => keepN (keepN (keep' (keep' kr.out hb1) hb2) (.cells #[.int .i64 a] 3)) (.cells #[.int .i64 b] 3))
        have ko2 := Lib.hid (fun a b => new0 w2 (.cells #[.int .i64 a] 3) (.cells #[.int .i64 b] 3))
        have ki2 := Lib.hid (fun a b => new1 w2 (.cells #[.int .i64 a] 3) (.cells #[.int .i64 b] 3))
        have co := fun a b => blk1 (ko2.out a b)
        have ci := fun a b => blk1 (ki2.out a b)
        go_wp2_with fail
        refine (HA.out _ (hb5 _ _) _ _ (kl2.out _ _) (kh2.out _ _) (ko2.out _ _) (ki2.out _ _)).mono ?_
        rintro e w3 ⟨rfl, hb3⟩
        have hb6 := Below.go (hb5 _ _) hb3
        go_wp2_with fail
        refine (HB.out _ hb6 _ _ (keep' (kl2.out _ _) hb3) (keep' (kh2.out _ _) hb3) (keep' (ko2.out _ _) hb3) (keep' (ki2.out _ _) hb3)).mono ?_
        rintro e w4 ⟨rfl, hb4⟩
        have hbF := Below.go hb6 hb4
        have kr4 := Lib.hid (keep' (keep' (kr2.out _ _) hb3) hb4)
        have zr := lt_of_heap kr4.out
        have kn := Lib.hid (heap_new w4 (oIv F (G - 1)))
        have krN := Lib.hid (keepN kr4.out (oIv F (G - 1)))
        obtain ⟨⟨d0, d1⟩, g0, g1⟩ := blk2 krN.out
        obtain ⟨⟨d0', d1'⟩, g0', g1'⟩ := blk2 kr4.out
        obtain ⟨⟨n0, n1⟩, -⟩ := blk2 kn.out
        go_wp2
        exact bodyPost_ret (v := .tuple #[I2 F (G - 1), .bool true, .int .i64 0]) (by simp [results, Tryd.results20, go_sem, d0', d1', cell_old, zr]) rfl ⟨ret_fr hz2.out.2.2.1 hz2.out.2.2.2 hz2.out.2.1 hz2.out.1, by (repeat (with_reducible first | exact hbF | refine Below.drew ?_ | refine Below.setCell ?_ ?_ _ | refine Below.alloc ?_ ?_ _)); all_goals (first | omega | exact hbF.size | (simp; done) | (have := hbF.size; simp; omega))⟩
    · have hz2 := Lib.hid (hz.out.2 hFG)
      have q3 : decide (G - 1 < F) = true := decide_eq_true (by omega)
      all_goals
        go_enter Tryd.func20, Tryd.ntmps20
        go_wp2_with fail
        refine hC.out.mono ?_
        rintro e w1 ⟨rfl, hb1⟩
        have hb := Below.go hb0 hb1
        have cl1 := blk1 (keep' kl.out hb1)
        go_wp2_with fail
        refine (HS.out _ hb).mono ?_
        rintro e w2 ⟨rfl, hb2⟩
        have hb5 := fun a b => Below.goN (Below.goN (Below.go hb hb2) (.cells #[.int .i64 a] 3)) (.cells #[.int .i64 b] 3)
        have kl2 := Lib.hid (fun a b => keepN (keepN (keep' (keep' kl.out hb1) hb2) (.cells #[.int .i64 a] 3)) (.cells #[.int .i64 b] 3))
        have kh2 := Lib.hid (fun a b => keepN (keepN (keep' (keep' kh.out hb1) hb2) (.cells #[.int .i64 a] 3)) (.cells #[.int .i64 b] 3))
        have kr2 := Lib.hid (fun a b => keepN (keepN (keep' (keep' kr.out hb1) hb2) (.cells #[.int .i64 a] 3)) (.cells #[.int .i64 b] 3))
        have ko2 := Lib.hid (fun a b => new0 w2 (.cells #[.int .i64 a] 3) (.cells #[.int .i64 b] 3))
        have ki2 := Lib.hid (fun a b => new1 w2 (.cells #[.int .i64 a] 3) (.cells #[.int .i64 b] 3))
        have co := fun a b => blk1 (ko2.out a b)
        have ci := fun a b => blk1 (ki2.out a b)
        go_wp2_with fail
        refine (HA.out _ (hb5 _ _) _ _ (kl2.out _ _) (kh2.out _ _) (ko2.out _ _) (ki2.out _ _)).mono ?_
        rintro e w3 ⟨rfl, hb3⟩
        have hb6 := Below.go (hb5 _ _) hb3
        go_wp2_with fail
        refine (HB.out _ hb6 _ _ (keep' (kl2.out _ _) hb3) (keep' (kh2.out _ _) hb3) (keep' (ko2.out _ _) hb3) (keep' (ki2.out _ _) hb3)).mono ?_
        rintro e w4 ⟨rfl, hb4⟩
        have hbF := Below.go hb6 hb4
        have kr4 := Lib.hid (keep' (keep' (kr2.out _ _) hb3) hb4)
        have zr := lt_of_heap kr4.out
        have kn := Lib.hid (heap_new w4 (oIv F (G - 1)))
        have krN := Lib.hid (keepN kr4.out (oIv F (G - 1)))
        obtain ⟨⟨d0, d1⟩, g0, g1⟩ := blk2 krN.out
        obtain ⟨⟨d0', d1'⟩, g0', g1'⟩ := blk2 kr4.out
        obtain ⟨⟨n0, n1⟩, -⟩ := blk2 kn.out
        go_wp2
        exact bodyPost_ret (v := .tuple #[I2 0 0, .bool false, .int .i64 0]) (by simp [results, Tryd.results20, go_sem, d0', d1', cell_old, zr]) rfl ⟨ret_fr hz2.out.2.2.1 hz2.out.2.2.2 hz2.out.2.1 hz2.out.1, by (repeat (with_reducible first | exact hbF | refine Below.drew ?_ | refine Below.setCell ?_ ?_ _ | refine Below.alloc ?_ ?_ _)); all_goals (first | omega | exact hbF.size | (simp; done) | (have := hbF.size; simp; omega))⟩
theorem From_any (A : Option Addr) (m c : Nat) (tl : Lpm.LL) (h v : Int) (w : World) (hL : Lp w.heap.size w A m tl) (hm : m ≤ 110) : Calls Tryd.prog 20 #[.slice A m c, .int .i64 h, .int .i64 v] w (RetB (.tuple #[I2 (Smm.frLo tl h v) (Smm.frHi tl h v), .bool (Smm.frI tl h v), .int .i64 (Smm.frE tl h v)]) w) := by
  cases hf : Smm.fr tl h v
  · exact From_no A m c tl h v w hL hm hf
  · unfold Smm.fr at hf
    simp only [Bool.and_eq_true, decide_eq_true_eq] at hf
    exact From_ok A m c tl h v w hL hm hf.1 hf.2.1 hf.2.2
end Go.Proofs.YtcnenkhgbifmmaaDoor
