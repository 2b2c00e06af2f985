/- The walk of the law DriftWorst. -/
import Derived.Test.YtlmdjkkeocmehaaDrU
set_option linter.unusedVariables false
namespace Go.Proofs.Ytlmdjkkeocmehaa
open Go.RowKit
def cells1 (l : List Int) : List Value := l.map fun x => .int .i64 x
theorem cells1_len (l : List Int) : (cells1 l).length = l.length := by simp [cells1]
theorem cells1_one (l : List Int) : ∀ u ∈ cells1 l, u.oneCell' = true := by
  intro u hu
  simp only [cells1, List.mem_map] at hu
  obtain ⟨x, -, rfl⟩ := hu
  rfl
theorem cells1_at (l : List Int) (j : Nat) (h : j < l.length) : (cells1 l)[j]? = some (.int .i64 (Tab.ai l j)) := by simp [cells1, Tab.ai, h]
abbrev tI : TypeId := 3
theorem infoI : (Try.prog.info? tI).map (fun i => (i.zero, i.size, i.bytes)) = some (some (.int .i64 0), 1, 8) := by kernel_rfl
theorem own1_li {B : Nat} {W : World} {v : Value} {l : List Int} {m : Nat} (h : W.ownsRow B tI 1 v m (cells1 l)) (hm : l.length = m) : ∃ A c, v = .slice A m c ∧ Li W.heap.size W A m l := by
  subst hm
  obtain ⟨h0, ⟨rfl, hz⟩ | ⟨g, cap, cur, rfl, hB, hg, hnc, hcm, hcs, ht⟩⟩ := h
  · have : l = [] := List.eq_nil_of_length_eq_zero hz
    subst this
    exact ⟨none, 0, rfl, ⟨rfl, fun h => absurd h (by simp)⟩⟩
  · refine ⟨_, _, rfl, ⟨rfl, fun hn => ⟨g, 0, rfl, lt_of_heap hg, fun j hj => ?_⟩⟩⟩
    have hu := cells1_at l j hj
    rw [← ht] at hu
    have hi : cur.toList[j]? = some (.int .i64 (Tab.ai l j)) := by
      rw [List.getElem?_take] at hu; split at hu
      · exact hu
      · cases hu
    have : cur[j]? = some (.int .i64 (Tab.ai l j)) := by simpa using hi
    simp [World.cell?, hg, this]
theorem own1_made (w : World) (x : Int) : (w.alloc (.cells #[.int .i64 x] tI)).ownsRow w.heap.size tI 1 (.slice (some ⟨w.heap.size, 0, none⟩) 1 1) 1 [.int .i64 x] :=
  ⟨by simp, .inr ⟨w.heap.size, 1, #[.int .i64 x], rfl, Nat.le_refl _, heap_alloc_new w _, Nat.le_refl _, by unfold maxLen; omega, by simp, by simp⟩⟩
theorem li_news {B : Nat} {W : World} {b off n : Nat} {l : List Int} (h : Li B W (some ⟨b, off, none⟩) n l) : ∀ j u, (cells1 l)[j]? = some u → W.cell? ((⟨b, off, none⟩ : Addr).add j) = some u := by
  intro j u hu
  by_cases hj : j < l.length
  · rw [cells1_at l j hj] at hu
    cases hu
    obtain ⟨b', off', e, -, hc⟩ := h.2 (by have := h.1; omega)
    cases e
    rw [ad_eq]
    exact hc j (by have := h.1; omega)
  · rw [List.getElem?_eq_none (by rw [cells1_len]; omega)] at hu
    cases hu
def hitD (t : Tab.Tb) (x1 x2 y1 y2 w c d : Int) : Prop := x1 ≤ c ∧ c ≤ x2 ∧ y1 ≤ d ∧ d ≤ y2 ∧ Tab.wE t c c d d = 0 ∧ Tab.wV t c c d d = w
theorem miss_next {P : Int → Int → Prop} {L2 : List Int} {C D : Int} {b : Nat} (h : ∀ q, q < b → ¬ P C (Tab.ai L2 q)) (hD : Tab.ai L2 b = D) (hn : ¬ P C D) : ∀ q, q < b + 1 → ¬ P C (Tab.ai L2 q) := by
  intro q hq
  by_cases e : q = b
  · subst e; rw [hD]; exact hn
  · exact h q (by omega)
theorem miss_row {P : Int → Int → Prop} {L1 L2 : List Int} {C : Int} {a N : Nat} (h : ∀ p, p < a → ∀ q, q < N → ¬ P (Tab.ai L1 p) (Tab.ai L2 q)) (hC : Tab.ai L1 a = C) (hn : ∀ q, q < N → ¬ P C (Tab.ai L2 q)) : ∀ p, p < a + 1 → ∀ q, q < N → ¬ P (Tab.ai L1 p) (Tab.ai L2 q) := by
  intro p hp
  by_cases e : p = a
  · subst e; rw [hC]; exact hn
  · exact h p (by omega)
theorem len_ints (W : World) (A : Option Addr) (n c : Nat) : (Builtin.len_ #[22] 3 #[.slice A n c]).run Try.prog W = .ok (.int .i64 n) W := by
  simp [Builtin.len_, run_underlying Try.underlying22, goInt, Result.andThen]
abbrev WoC (v : TabV) (x1 x2 y1 y2 r e : Int) (W : World) : Prop := Calls Try.prog 15 #[T3 v, I2 x1 x2, I2 y1 y2] W (RetB (.tuple #[.int .i64 r, .int .i64 e]) W)
abbrev RaC (v : TabV) (x y r e : Int) (W : World) : Prop := Calls Try.prog 11 #[T3 v, .int .i64 x, .int .i64 y] W (RetB (.tuple #[.int .i64 r, .int .i64 e]) W)
set_option maxHeartbeats 8000000 in
set_option maxRecDepth 100000 in
theorem worst_main (v : TabV) (t : Tab.Tb) (x1 x2 y1 y2 x y m a m' b R N V : Int) (w : World) (HT : Hid (∀ W, Below w.heap.size w W → TabIn W v t))
    (n1 : t.te.length ≤ 8) (n2 : t.ag.length ≤ 8) (n3 : 1 ≤ t.te.length) (n4 : 1 ≤ t.ag.length)
    (hW : Hid (∀ W, Below w.heap.size w W → WoC v x1 x2 y1 y2 V 0 W)) (hR : Hid (∀ W, Below w.heap.size w W → RaC v a b R 0 W)) (hN : Hid (∀ W, Below w.heap.size w W → WoC v a x2 b y2 N 0 W))
    (hRt : Hid (∀ W c d, Below w.heap.size w W → RaC v c d (Tab.wV t c c d d) (Tab.wE t c c d d) W))
    (ea : (if x2 < x then x2 else x) = m) (eb : (if x1 < m then m else x1) = a) (ec : (if y2 < y then y2 else y) = m') (ed : (if y1 < m' then m' else y1) = b)
    (q1 : decide (V < R) = false) (q2 : decide (V < N) = false)
    (hmet : Hid (∃ p q, p < t.te.length + 1 ∧ q < t.ag.length + 1 ∧ hitD t x1 x2 y1 y2 V (Tab.ai (x1 :: t.te) p) (Tab.ai (y1 :: t.ag) q))) :
    Calls Try.prog 6 #[T3 v, I2 x1 x2, I2 y1 y2, .int .i64 x, .int .i64 y] w (LawPost w) := by
  have hb := below3 w (oT v) (oRg x1 x2) (oRg y1 y2)
  have kt := Lib.hid (new30 w (oT v) (oRg x1 x2) (oRg y1 y2))
  have kx := Lib.hid (new31 w (oT v) (oRg x1 x2) (oRg y1 y2))
  have ky := Lib.hid (new32 w (oT v) (oRg x1 x2) (oRg y1 y2))
  obtain ⟨i0, hi, hz0, hz1, hz2⟩ := info_parts infoI
  have hT0 := HT.out _ (Below.refl _ _)
  have f1 := hT0.l1.1
  have f2 := hT0.l2.1
  obtain ⟨A1, k1, c1, A2, k2, c2, A3, k3, c3⟩ := v
  dsimp only [T3, s1, s2, s3, oT] at *
  rw [f1] at n1 n3 hmet
  rw [f2] at n2 n4 hmet
  obtain ⟨b1, o1, rfl, -, -⟩ := hT0.l1.2 (by simp only []; omega)
  obtain ⟨b2, o2, rfl, -, -⟩ := hT0.l2.2 (by simp only []; omega)
  obtain ⟨M1, hM1, m1, m2⟩ : ∃ M1, 1 + k1 = M1 ∧ 1 ≤ M1 ∧ M1 ≤ 9 := ⟨_, rfl, by omega, by omega⟩
  obtain ⟨M2, hM2, m3, m4⟩ : ∃ M2, 1 + k2 = M2 ∧ 1 ≤ M2 ∧ M2 ≤ 9 := ⟨_, rfl, by omega, by omega⟩
  rw [show k1 + 1 = M1 by omega, show k2 + 1 = M2 by omega] at hmet
  have HL1 := Lib.hid (show (x1 :: t.te).length = M1 by simp [f1]; omega)
  have HL2 := Lib.hid (show (y1 :: t.ag).length = M2 by simp [f2]; omega)
  have HM1 := Lib.hid hM1
  have HM2' := Lib.hid hM2
  clear hM1 hM2
  have F1 := Lib.hid f1
  have F2 := Lib.hid f2
  clear hT0 f1 f2
  go_enter Try.func6, Try.ntmps6
  go_wp2_with fail
  refine (head_any _).mono ?_
  rintro e w1 ⟨rfl, hn⟩
  have hb := (by first | exact Below.go hb hn | exact Below.goA hb hn | exact Below.goAA hb hn | exact Below.goD hb hn | exact Below.goAD hb hn : Below w.heap.size w w1)
  have kt := Lib.hid (by first | exact keep' kt.out hn | exact keepA kt.out hn | exact keepAA kt.out hn | exact keepD kt.out hn | exact keepAD kt.out hn)
  have kx := Lib.hid (by first | exact keep' kx.out hn | exact keepA kx.out hn | exact keepAA kx.out hn | exact keepD kx.out hn | exact keepAD kx.out hn)
  have ky := Lib.hid (by first | exact keep' ky.out hn | exact keepA ky.out hn | exact keepAA ky.out hn | exact keepD ky.out hn | exact keepAD ky.out hn)
  clear hn
  obtain ⟨⟨kt0, kt1, kt2⟩, -⟩ := blk3 kt.out
  have ktz := lt_of_heap kt.out
  obtain ⟨⟨kx0, kx1⟩, -⟩ := blk2 kx.out
  have kxz := lt_of_heap kx.out
  obtain ⟨⟨ky0, ky1⟩, -⟩ := blk2 ky.out
  have kyz := lt_of_heap ky.out
  go_wp2_with fail
  refine (few_any _ t _ (HT.out _ hb)).mono ?_
  rintro e w2 ⟨f, rfl, hn2⟩
  have hb := (Below.go hb hn2 : Below w.heap.size w w2)
  have kt := Lib.hid (keep' kt.out hn2)
  have kx := Lib.hid (keep' kx.out hn2)
  have ky := Lib.hid (keep' ky.out hn2)
  clear hn2
  obtain ⟨⟨kt0, kt1, kt2⟩, -⟩ := blk3 kt.out
  obtain ⟨⟨kx0, kx1⟩, -⟩ := blk2 kx.out
  obtain ⟨⟨ky0, ky1⟩, -⟩ := blk2 ky.out
  cases f
  · go_wp2
    go_ret
    exact ⟨rfl, hb⟩
  go_wp2_with fail
  refine (hW.out _ hb).mono ?_
  rintro e w3 ⟨rfl, hn⟩
  have hb := (by first | exact Below.go hb hn | exact Below.goA hb hn | exact Below.goAA hb hn | exact Below.goD hb hn | exact Below.goAD hb hn : Below w.heap.size w w3)
  have kt := Lib.hid (by first | exact keep' kt.out hn | exact keepA kt.out hn | exact keepAA kt.out hn | exact keepD kt.out hn | exact keepAD kt.out hn)
  have kx := Lib.hid (by first | exact keep' kx.out hn | exact keepA kx.out hn | exact keepAA kx.out hn | exact keepD kx.out hn | exact keepAD kx.out hn)
  have ky := Lib.hid (by first | exact keep' ky.out hn | exact keepA ky.out hn | exact keepAA ky.out hn | exact keepD ky.out hn | exact keepAD ky.out hn)
  clear hn
  obtain ⟨⟨kt0, kt1, kt2⟩, -⟩ := blk3 kt.out
  have ktz := lt_of_heap kt.out
  obtain ⟨⟨kx0, kx1⟩, -⟩ := blk2 kx.out
  have kxz := lt_of_heap kx.out
  obtain ⟨⟨ky0, ky1⟩, -⟩ := blk2 ky.out
  have kyz := lt_of_heap ky.out
  obtain ⟨⟨kx0, kx1⟩, -⟩ := blk2 kx.out
  obtain ⟨⟨ky0, ky1⟩, -⟩ := blk2 ky.out
  go_wp2_with fail
  go_quiet (fail)
  have hq := Below.drewN (Below.refl w3.heap.size w3) nq
  have hb := (Below.go hb hq : Below w.heap.size w _)
  have kt := Lib.hid (keep' kt.out hq)
  have kx := Lib.hid (keep' kx.out hq)
  have ky := Lib.hid (keep' ky.out hq)
  clear hq
  clear kx0 kx1 ky0 ky1
  generalize w3.drewN nq = w4 at *
  obtain ⟨⟨kt0, kt1, kt2⟩, -⟩ := blk3 kt.out
  obtain ⟨⟨kx0, kx1⟩, -⟩ := blk2 kx.out
  obtain ⟨⟨ky0, ky1⟩, -⟩ := blk2 ky.out
  go_wp2_with fail
  refine (hR.out _ hb).mono ?_
  rintro e w5 ⟨rfl, hn⟩
  have hb := (by first | exact Below.go hb hn | exact Below.goA hb hn | exact Below.goAA hb hn | exact Below.goD hb hn | exact Below.goAD hb hn : Below w.heap.size w w5)
  have kt := Lib.hid (by first | exact keep' kt.out hn | exact keepA kt.out hn | exact keepAA kt.out hn | exact keepD kt.out hn | exact keepAD kt.out hn)
  have kx := Lib.hid (by first | exact keep' kx.out hn | exact keepA kx.out hn | exact keepAA kx.out hn | exact keepD kx.out hn | exact keepAD kx.out hn)
  have ky := Lib.hid (by first | exact keep' ky.out hn | exact keepA ky.out hn | exact keepAA ky.out hn | exact keepD ky.out hn | exact keepAD ky.out hn)
  clear hn
  obtain ⟨⟨kt0, kt1, kt2⟩, -⟩ := blk3 kt.out
  have ktz := lt_of_heap kt.out
  obtain ⟨⟨kx0, kx1⟩, -⟩ := blk2 kx.out
  have kxz := lt_of_heap kx.out
  obtain ⟨⟨ky0, ky1⟩, -⟩ := blk2 ky.out
  have kyz := lt_of_heap ky.out
  go_wp2_with fail
  refine (hN.out _ hb).mono ?_
  rintro e w6 ⟨rfl, hn⟩
  have hb := (by first | exact Below.go hb hn | exact Below.goA hb hn | exact Below.goAA hb hn | exact Below.goD hb hn | exact Below.goAD hb hn : Below w.heap.size w w6)
  have kt := Lib.hid (by first | exact keep' kt.out hn | exact keepA kt.out hn | exact keepAA kt.out hn | exact keepD kt.out hn | exact keepAD kt.out hn)
  have kx := Lib.hid (by first | exact keep' kx.out hn | exact keepA kx.out hn | exact keepAA kx.out hn | exact keepD kx.out hn | exact keepAD kx.out hn)
  have ky := Lib.hid (by first | exact keep' ky.out hn | exact keepA ky.out hn | exact keepAA ky.out hn | exact keepD ky.out hn | exact keepAD ky.out hn)
  clear hn
  obtain ⟨⟨kt0, kt1, kt2⟩, -⟩ := blk3 kt.out
  have ktz := lt_of_heap kt.out
  obtain ⟨⟨kx0, kx1⟩, -⟩ := blk2 kx.out
  have kxz := lt_of_heap kx.out
  obtain ⟨⟨ky0, ky1⟩, -⟩ := blk2 ky.out
  have kyz := lt_of_heap ky.out
  obtain ⟨⟨kt0, kt1, kt2⟩, -⟩ := blk3 kt.out
  obtain ⟨⟨kx0, kx1⟩, -⟩ := blk2 kx.out
  obtain ⟨⟨ky0, ky1⟩, -⟩ := blk2 ky.out
  clear ea eb ec ed
  have hl1 := Lib.hid (HT.out _ (hb.alloc hb.size (.cells #[.int .i64 x1] tI))).l1
  go_wp2_with (at_builtin; refine wpList_append_own_at _ rfl _ _ 22 rfl w6.heap.size tI i0 (.int .i64 0) 1 8 Try.underlying22 hi hz0 hz1 hz2 rfl (by decide) _ 1 [.int .i64 x1] rfl (own1_made _ _) ⟨b1, o1, none⟩ k1 c1 (cells1 t.te) rfl (by rw [cells1_len, F1.out]; omega) (li_news hl1.out) (cells1_one _) (by unfold maxLen; omega) (by omega) (by simp) ?_; intro v1 wA hownA hgrowA _ _)
  have hA := Below.grown ((Below.refl w6.heap.size w6).alloc (Nat.le_refl _) (.cells #[.int .i64 x1] tI)) hgrowA (by simp) (fun g hg => ((own1_made w6 x1).lt g hg).1)
  rw [HM1.out] at hownA
  obtain ⟨AA, cA, rfl, hLA⟩ := own1_li (l := x1 :: t.te) hownA HL1.out
  obtain ⟨bA, oA, rfl, hBA, hcA⟩ := hLA.2 (by omega)
  have HcA := Lib.hid hcA
  have hb := Below.go hb hA
  have kt := Lib.hid (keep' kt.out hA)
  have kx := Lib.hid (keep' kx.out hA)
  have ky := Lib.hid (keep' ky.out hA)
  clear hcA hLA hownA hgrowA hA hl1 kt0 kt1 kt2 kx0 kx1 ky0 ky1
  go_wp2_with fail
  simp only [len_ints, Result.andThen_ok]
  go_wp2_with fail
  go_loopg [102] M1 (fun g s102 wr => ∃ p : Nat, p + g = M1 ∧ s102 = .int .i64 p ∧ Hid (∀ p', p' < p → ∀ q, q < M2 → ¬ hitD t x1 x2 y1 y2 V (Tab.ai (x1 :: t.te) p') (Tab.ai (y1 :: t.ag) q)) ∧ Below wA.heap.size wA wr)
  case atStart => exact ⟨0, by omega, rfl, Lib.hid fun p' h => absurd h (by omega), Below.refl _ _⟩
  case round =>
    obtain ⟨p, hpg, rfl, hmiss, hbr⟩ := hrel
    cases gk with
    | zero =>
      obtain ⟨p', q', h1, h2, h3⟩ := hmet.out
      exact absurd h3 (hmiss.out p' (by omega) q' (by omega))
    | succ g =>
      have r1 := (hbr.cell (p := ⟨bA, oA + p, none⟩) hBA).trans (HcA.out p (by omega))
      obtain ⟨C, hC⟩ : ∃ C, Tab.ai (x1 :: t.te) p = C := ⟨_, rfl⟩
      rw [hC] at r1
      have HC := Lib.hid hC
      clear hC
      have hbw := Below.go hb hbr
      have ktr := Lib.hid (keep' kt.out hbr)
      have kxr := Lib.hid (keep' kx.out hbr)
      have kyr := Lib.hid (keep' ky.out hbr)
      obtain ⟨⟨kt0, kt1, kt2⟩, -⟩ := blk3 ktr.out
      obtain ⟨⟨ky0, ky1⟩, -⟩ := blk2 kyr.out
      have ktz := lt_of_heap ktr.out
      have kyz := lt_of_heap kyr.out
      have j0 : (0 : Int) ≤ (p : Int) := by omega
      have j1 : (p : Int) < (M1 : Int) := by omega
      have j2 : decide ((p : Int) < (M1 : Int)) = true := decide_eq_true j1
      have j3 : decide (p < M1) = true := decide_eq_true (by omega)
      have hl2 := Lib.hid (HT.out _ (hbw.alloc hbw.size (.cells #[.int .i64 y1] tI))).l2
      go_wp2_with (at_builtin; refine wpList_append_own_at _ rfl _ _ 22 rfl wr.heap.size tI i0 (.int .i64 0) 1 8 Try.underlying22 hi hz0 hz1 hz2 rfl (by decide) _ 1 [.int .i64 y1] rfl (own1_made _ _) ⟨b2, o2, none⟩ k2 c2 (cells1 t.ag) rfl (by rw [cells1_len, F2.out]; omega) (li_news hl2.out) (cells1_one _) (by unfold maxLen; omega) (by omega) (by simp) ?_; intro v2 wB hownB hgrowB _ _)
      have hB := Below.grown ((Below.refl wr.heap.size wr).alloc (Nat.le_refl _) (.cells #[.int .i64 y1] tI)) hgrowB (by simp) (fun g hg => ((own1_made wr y1).lt g hg).1)
      rw [HM2'.out] at hownB
      obtain ⟨AB, cB, rfl, hLB⟩ := own1_li (l := y1 :: t.ag) hownB HL2.out
      obtain ⟨bB, oB, rfl, hBB, hcB⟩ := hLB.2 (by omega)
      have HcB := Lib.hid hcB
      have hbB := Below.go hbw hB
      have hbAB := Below.go hbr hB
      have ktB := Lib.hid (keep' ktr.out hB)
      have kxB := Lib.hid (keep' kxr.out hB)
      have kyB := Lib.hid (keep' kyr.out hB)
      clear hcB hLB hownB hgrowB hB hl2 kt0 kt1 kt2 ky0 ky1 r1 ktr kxr kyr
      go_wp2_with fail
      simp only [len_ints, Result.andThen_ok]
      go_wp2_with fail
      go_loopg [113] M2 (fun g2 s113 wq => ∃ q : Nat, q + g2 = M2 ∧ s113 = .int .i64 q ∧ Hid (∀ q', q' < q → ¬ hitD t x1 x2 y1 y2 V C (Tab.ai (y1 :: t.ag) q')) ∧ Below wB.heap.size wB wq)
      case atStart => exact ⟨0, by omega, rfl, Lib.hid fun q' h => absurd h (by omega), Below.refl _ _⟩
      case round =>
        obtain ⟨q, hqg, rfl, hmiss2, hbq⟩ := hrel
        cases gk with
        | zero =>
          obtain rfl : q = M2 := by omega
          have z2 : decide ((q : Int) < (q : Int)) = false := decide_eq_false (by omega)
          have hall := Lib.hid (miss_row hmiss.out HC.out hmiss2.out)
          go_wp2
          go_roundg g
          case measure => omega
          case rel => exact ⟨p + 1, by omega, by go_num, hall, Below.go hbAB hbq⟩
        | succ g2 =>
          have r2 := (hbq.cell (p := ⟨bB, oB + q, none⟩) hBB).trans (HcB.out q (by omega))
          obtain ⟨D, hD⟩ : ∃ D, Tab.ai (y1 :: t.ag) q = D := ⟨_, rfl⟩
          rw [hD] at r2
          have HM : Hid (¬ hitD t x1 x2 y1 y2 V C D → ∀ q', q' < q + 1 → ¬ hitD t x1 x2 y1 y2 V C (Tab.ai (y1 :: t.ag) q')) := Lib.hid fun hn => miss_next hmiss2.out hD hn
          clear hD hmiss2
          have hbqw := Below.go hbB hbq
          obtain ⟨⟨kt0, kt1, kt2⟩, -⟩ := blk3 (keep' ktB.out hbq)
          obtain ⟨⟨kx0, kx1⟩, -⟩ := blk2 (keep' kxB.out hbq)
          obtain ⟨⟨ky0, ky1⟩, -⟩ := blk2 (keep' kyB.out hbq)
          have z0 : (0 : Int) ≤ (q : Int) := by omega
          have z1 : (q : Int) < (M2 : Int) := by omega
          have z2 : decide ((q : Int) < (M2 : Int)) = true := decide_eq_true z1
          have z3 : decide (q < M2) = true := decide_eq_true (by omega)
          have hway : (decide (C < x1) = true ∧ ¬ x1 ≤ C) ∨ (decide (C < x1) = false ∧ decide (x2 < C) = true ∧ ¬ C ≤ x2) ∨ (decide (C < x1) = false ∧ decide (x2 < C) = false ∧ decide (D < y1) = true ∧ ¬ y1 ≤ D) ∨ (decide (C < x1) = false ∧ decide (x2 < C) = false ∧ decide (D < y1) = false ∧ decide (y2 < D) = true ∧ ¬ D ≤ y2) ∨ (decide (C < x1) = false ∧ decide (x2 < C) = false ∧ decide (D < y1) = false ∧ decide (y2 < D) = false) := by
            simp only [decide_eq_true_eq, decide_eq_false_iff_not]; omega
          rcases hway with ⟨u1, un⟩ | ⟨u1, u2, un⟩ | ⟨u1, u2, u3, un⟩ | ⟨u1, u2, u3, u4, un⟩ | ⟨u1, u2, u3, u4⟩
          · have hall := Lib.hid (HM.out fun h => un h.1)
            clear un
            go_wp2
            go_roundg g2
            case measure => omega
            case rel => exact ⟨q + 1, by omega, by go_num, hall, hbq⟩
          · have hall := Lib.hid (HM.out fun h => un h.2.1)
            clear un
            go_wp2
            go_roundg g2
            case measure => omega
            case rel => exact ⟨q + 1, by omega, by go_num, hall, hbq⟩
          · have hall := Lib.hid (HM.out fun h => un h.2.2.1)
            clear un
            go_wp2
            go_roundg g2
            case measure => omega
            case rel => exact ⟨q + 1, by omega, by go_num, hall, hbq⟩
          · have hall := Lib.hid (HM.out fun h => un h.2.2.2.1)
            clear un
            go_wp2
            go_roundg g2
            case measure => omega
            case rel => exact ⟨q + 1, by omega, by go_num, hall, hbq⟩
          · go_wp2_with fail
            refine (hRt.out _ C D hbqw).mono ?_
            rintro e wZ ⟨rfl, hZ⟩
            have hbz := Below.go hbqw hZ
            have hbqz := Below.go hbq hZ
            have HM2 : Hid ((Tab.wE t C C D D = 0 → ¬ Tab.wV t C C D D = V) → ∀ q', q' < q + 1 → ¬ hitD t x1 x2 y1 y2 V C (Tab.ai (y1 :: t.ag) q')) := Lib.hid fun hn => HM.out fun h => hn h.2.2.2.2.1 h.2.2.2.2.2
            clear HM hZ kt0 kt1 kt2 kx0 kx1 ky0 ky1
            generalize Tab.wE t C C D D = E at *
            generalize Tab.wV t C C D D = U at *
            by_cases hE : E = 0
            · subst hE
              by_cases hU : U = V
              · subst hU
                go_wp2
                go_ret
                exact ⟨rfl, hbz⟩
              · have hall := Lib.hid (HM2.out fun _ => hU)
                have y1' : (U == V) = false := by simp; exact hU
                clear HM2 hU
                go_wp2
                go_roundg g2
                case measure => omega
                case rel => exact ⟨q + 1, by omega, by go_num, hall, hbqz⟩
            · have hall := Lib.hid (HM2.out fun h => absurd h hE)
              have y1' : (E == 0) = false := by simp; exact hE
              clear HM2 hE
              go_wp2
              go_roundg g2
              case measure => omega
              case rel => exact ⟨q + 1, by omega, by go_num, hall, hbqz⟩
set_option maxHeartbeats 2000000 in
set_option maxRecDepth 100000 in
theorem worst_bad (v : TabV) (t : Tab.Tb) (x1 x2 y1 y2 x y E : Int) (w : World) (HT : Hid (∀ W, Below w.heap.size w W → TabIn W v t)) (hE : ¬ E = 0)
    (hW : Hid (∀ W, Below w.heap.size w W → WoC v x1 x2 y1 y2 0 E W)) :
    Calls Try.prog 6 #[T3 v, I2 x1 x2, I2 y1 y2, .int .i64 x, .int .i64 y] w (LawPost w) := by
  have hb := below3 w (oT v) (oRg x1 x2) (oRg y1 y2)
  have kt := Lib.hid (new30 w (oT v) (oRg x1 x2) (oRg y1 y2))
  have kx := Lib.hid (new31 w (oT v) (oRg x1 x2) (oRg y1 y2))
  have ky := Lib.hid (new32 w (oT v) (oRg x1 x2) (oRg y1 y2))
  have k1 := bne_of hE
  clear hE
  obtain ⟨A1, m1, c1, A2, m2, c2, A3, m3, c3⟩ := v
  dsimp only [T3, s1, s2, s3, oT] at *
  go_enter Try.func6, Try.ntmps6
  go_wp2_with fail
  refine (head_any _).mono ?_
  rintro e w1 ⟨rfl, hn⟩
  have hb := (by first | exact Below.go hb hn | exact Below.goA hb hn | exact Below.goAA hb hn | exact Below.goD hb hn | exact Below.goAD hb hn : Below w.heap.size w w1)
  have kt := Lib.hid (by first | exact keep' kt.out hn | exact keepA kt.out hn | exact keepAA kt.out hn | exact keepD kt.out hn | exact keepAD kt.out hn)
  have kx := Lib.hid (by first | exact keep' kx.out hn | exact keepA kx.out hn | exact keepAA kx.out hn | exact keepD kx.out hn | exact keepAD kx.out hn)
  have ky := Lib.hid (by first | exact keep' ky.out hn | exact keepA ky.out hn | exact keepAA ky.out hn | exact keepD ky.out hn | exact keepAD ky.out hn)
  clear hn
  obtain ⟨⟨kt0, kt1, kt2⟩, -⟩ := blk3 kt.out
  have ktz := lt_of_heap kt.out
  obtain ⟨⟨kx0, kx1⟩, -⟩ := blk2 kx.out
  have kxz := lt_of_heap kx.out
  obtain ⟨⟨ky0, ky1⟩, -⟩ := blk2 ky.out
  have kyz := lt_of_heap ky.out
  go_wp2_with fail
  refine (few_any _ t _ (HT.out _ hb)).mono ?_
  rintro e w2 ⟨f, rfl, hn2⟩
  have hb := (Below.go hb hn2 : Below w.heap.size w w2)
  have kt := Lib.hid (keep' kt.out hn2)
  have kx := Lib.hid (keep' kx.out hn2)
  have ky := Lib.hid (keep' ky.out hn2)
  clear hn2
  obtain ⟨⟨kt0, kt1, kt2⟩, -⟩ := blk3 kt.out
  obtain ⟨⟨kx0, kx1⟩, -⟩ := blk2 kx.out
  obtain ⟨⟨ky0, ky1⟩, -⟩ := blk2 ky.out
  cases f
  · go_wp2
    go_ret
    exact ⟨rfl, hb⟩
  go_wp2_with fail
  refine (hW.out _ hb).mono ?_
  rintro e w3 ⟨rfl, hn3⟩
  have hb := (Below.go hb hn3 : Below w.heap.size w w3)
  go_wp2
  go_ret
  exact ⟨rfl, hb⟩
theorem mm_ge {x1 x2 x : Int} (h : x1 ≤ x2) : x1 ≤ (if x1 < (if x2 < x then x2 else x) then (if x2 < x then x2 else x) else x1) ∧ (if x1 < (if x2 < x then x2 else x) then (if x2 < x then x2 else x) else x1) ≤ x2 := by
  constructor <;> (repeat' split) <;> omega
theorem pos_in {l : List Int} {x1 c : Int} (h : c = x1 ∨ ∃ a, a < l.length ∧ c = Tab.ai l a) : ∃ p, p < l.length + 1 ∧ Tab.ai (x1 :: l) p = c := by
  rcases h with rfl | ⟨a, ha, rfl⟩
  · exact ⟨0, by omega, rfl⟩
  · exact ⟨a + 1, by omega, by simp [Tab.ai]⟩
theorem worst_law (v : Value) (p : TabV × Tab.Tb) (u : Value) (a : Int × Int) (u' : Value) (b : Int × Int) (x y : Int) (w : World) (hv : IsTb w v p) (hu : IsRg u a) (hu' : IsRg u' b) (g1 : (Lit.int .i64 x).wf = true) (g2 : (Lit.int .i64 y).wf = true) : Calls Try.prog 6 #[v, u, u', .int .i64 x, .int .i64 y] w (LawPost w) := by
  obtain ⟨V, t⟩ := p
  obtain ⟨rfl, ht⟩ := hv
  obtain rfl : u = I2 a.1 a.2 := hu
  obtain rfl : u' = I2 b.1 b.2 := hu'
  obtain ⟨x1, x2⟩ := a
  obtain ⟨y1, y2⟩ := b
  have HT : Hid (∀ W, Below w.heap.size w W → TabIn W V t) := Lib.hid fun W hW => ht.below hW
  by_cases hE : Tab.wE t x1 x2 y1 y2 = 0
  rotate_left
  · refine worst_bad V t x1 x2 y1 y2 x y _ w HT hE (Lib.hid fun W hW => ?_)
    have := Worst_any V t x1 x2 y1 y2 W (HT.out W hW)
    rw [Tab.wV_z hE] at this; exact this
  obtain ⟨h1, h2⟩ := Tab.wE_zero hE
  obtain ⟨v1, v2, v3⟩ := Tab.wB_yes h1
  have ok := Tab.valid_ok v1
  have mx := mm_ge (x := x) (show x1 ≤ x2 by omega)
  have my := mm_ge (x := y) (show y1 ≤ y2 by omega)
  obtain ⟨m, hm⟩ : ∃ m, (if x2 < x then x2 else x) = m := ⟨_, rfl⟩
  obtain ⟨a, ha⟩ : ∃ a, (if x1 < m then m else x1) = a := ⟨_, rfl⟩
  obtain ⟨m', hm'⟩ : ∃ m', (if y2 < y then y2 else y) = m' := ⟨_, rfl⟩
  obtain ⟨b, hb⟩ : ∃ b, (if y1 < m' then m' else y1) = b := ⟨_, rfl⟩
  rw [hm, ha] at mx
  rw [hm', hb] at my
  obtain ⟨c1, c2, c3, c4⟩ := Tab.clamp_ok hE mx.1 mx.2 my.1 my.2
  obtain ⟨c, d, d1, d2, d3, d4, d5, d6, d7, d8⟩ := Tab.worst_met hE
  obtain ⟨p, p1, p2⟩ := pos_in d1
  obtain ⟨q, q1, q2⟩ := pos_in d2
  refine worst_main V t x1 x2 y1 y2 x y m a m' b _ _ _ w HT ok.a8 ok.b8 ok.a1 ok.b1 (Lib.hid fun W hW => ?_) (Lib.hid fun W hW => ?_) (Lib.hid fun W hW => ?_) (Lib.hid fun W c d hW => Rate_any V t c d W (HT.out W hW)) hm ha hm' hb (decide_eq_false (Int.not_lt.mpr c4)) (decide_eq_false (Int.not_lt.mpr c2)) (Lib.hid ⟨p, q, p1, q1, by rw [p2, q2]; exact ⟨d3, d4, d5, d6, d7, d8⟩⟩)
  · have := Worst_any V t x1 x2 y1 y2 W (HT.out W hW); rw [hE] at this; exact this
  · have := Rate_any V t a b W (HT.out W hW); rw [c3] at this; exact this
  · have := Worst_any V t a x2 b y2 W (HT.out W hW); rw [c1] at this; exact this
end Go.Proofs.Ytlmdjkkeocmehaa
