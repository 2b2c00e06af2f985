/- The walk of the law DriftSegments. -/
import Derived.Test.YtlmdjkkeocmehaaDrT
import Derived.Deep.AppendLies
set_option linter.unusedVariables false
namespace Go.Proofs.Ytlmdjkkeocmehaa
open Go.RowKit
def cells5 (l : List Tab.Sg) : List Value := l.flatMap fun s => [.int .i64 s.n, .int .i64 s.x1, .int .i64 s.x2, .int .i64 s.y1, .int .i64 s.y2]
theorem cells5_app (a b : List Tab.Sg) : cells5 (a ++ b) = cells5 a ++ cells5 b := by simp [cells5]
theorem cells5_at (l : List Tab.Sg) (j : Nat) (h : j < l.length) : (cells5 l)[j * 5]? = some (.int .i64 (Tab.sAt l j).n) ∧ (cells5 l)[j * 5 + 1]? = some (.int .i64 (Tab.sAt l j).x1) ∧ (cells5 l)[j * 5 + 2]? = some (.int .i64 (Tab.sAt l j).x2) ∧ (cells5 l)[j * 5 + 3]? = some (.int .i64 (Tab.sAt l j).y1) ∧ (cells5 l)[j * 5 + 4]? = some (.int .i64 (Tab.sAt l j).y2) := by
  induction l generalizing j with
  | nil => simp at h
  | cons x r ih =>
    cases j with
    | zero => simp [cells5, Tab.sAt]
    | succ k =>
      have := ih k (by simpa using h)
      have e : Tab.sAt (x :: r) (k + 1) = Tab.sAt r k := by simp [Tab.sAt]
      rw [e]
      have e2 : cells5 (x :: r) = [.int .i64 x.n, .int .i64 x.x1, .int .i64 x.x2, .int .i64 x.y1, .int .i64 x.y2] ++ cells5 r := rfl
      rw [e2, show (k + 1) * 5 = k * 5 + 5 by omega]
      simpa [List.getElem?_append_right] using this
abbrev tSg : TypeId := 45
def Own5 (B : Nat) (W : World) (v : Value) (l : List Tab.Sg) : Prop := W.ownsRow B tSg 5 v l.length (cells5 l)
theorem own5_below {B : Nat} {W W' : World} {v : Value} {n : Nat} {xs : List Value} (h : W.ownsRow B tSg 5 v n xs) (hb : Below W.heap.size W W') : W'.ownsRow B tSg 5 v n xs := by
  obtain ⟨h0, h1 | ⟨g, cap, cur, e, hB, hg, r⟩⟩ := h
  · exact ⟨h0, .inl h1⟩
  · exact ⟨h0, .inr ⟨g, cap, cur, e, hB, keep' hg hb, r⟩⟩
theorem Own5.lg {B : Nat} {W : World} {v : Value} {l : List Tab.Sg} (h : Own5 B W v l) : ∃ A n c, v = .slice A n c ∧ n = l.length ∧ Lg W.heap.size W A n l := by
  obtain ⟨h0, ⟨rfl, hz⟩ | ⟨g, cap, cur, rfl, hB, hg, hnc, hcm, hcs, ht⟩⟩ := h
  · have : l = [] := List.eq_nil_of_length_eq_zero hz
    subst this
    exact ⟨none, 0, 0, rfl, rfl, ⟨rfl, fun h => absurd h (by omega)⟩⟩
  · refine ⟨_, _, _, rfl, rfl, ⟨rfl, fun hn => ⟨g, 0, rfl, lt_of_heap hg, fun j hj => ?_⟩⟩⟩
    obtain ⟨a, b, c, d, e⟩ := cells5_at l j hj
    have hc : ∀ i u, (cells5 l)[i]? = some u → W.cell? ⟨g, i, none⟩ = some u := fun i u hu => by
      rw [← ht] at hu
      have hi : cur.toList[i]? = some u := by
        rw [List.getElem?_take] at hu; split at hu
        · exact hu
        · cases hu
      have : cur[i]? = some u := by simpa using hi
      simp [World.cell?, hg, this]
    simp only [Nat.zero_add]
    exact ⟨hc _ _ a, hc _ _ b, hc _ _ c, hc _ _ d, hc _ _ e⟩
theorem infoSg : (Try.prog.info? tSg).map (fun i => (i.zero, i.size, i.bytes)) = some (some (.agg #[.int .i64 0, .int .i64 0, .int .i64 0, .int .i64 0, .int .i64 0]), 5, 40) := by kernel_rfl
theorem own5_snoc {B : Nat} {W : World} {v : Value} {l : List Tab.Sg} {s : Tab.Sg} (h : W.ownsRow B tSg 5 v (l.length + 1) (cells5 l ++ [.int .i64 s.n, .int .i64 s.x1, .int .i64 s.x2, .int .i64 s.y1, .int .i64 s.y2])) : Own5 B W v (l ++ [s]) := by
  unfold Own5; rw [cells5_app, List.length_append]; exact h
theorem Lg.take {B : Nat} {W : World} {A : Option Addr} {n k : Nat} {l : List Tab.Sg} (h : Lg B W A n l) (hk : k ≤ n) : Lg B W A k (l.take k) :=
  ⟨by rw [List.length_take, h.1]; omega, fun hn => by
    obtain ⟨b, off, e, hB, hc⟩ := h.2 (by omega)
    refine ⟨b, off, e, hB, fun j hj => ?_⟩
    have : Tab.sAt (l.take k) j = Tab.sAt l j := by unfold Tab.sAt; rw [List.getElem?_take, if_pos hj]
    rw [this]; exact hc j (by omega)⟩
theorem rev_step {l : List Tab.Sg} {k n : Nat} (h : l.length = n) (hk : k < n) : (l.drop k).reverse = (l.drop (k + 1)).reverse ++ [Tab.sAt l k] := by
  rw [Tab.drop_at h hk, List.reverse_cons]
abbrev SvC (v : TabV) (A : Option Addr) (n c : Nat) (a b e : Int) (W : World) : Prop := Calls Try.prog 21 #[.agg #[.slice v.A1 v.n1 v.c1, .slice v.A2 v.n2 v.c2, .slice v.A3 v.n3 v.c3], .slice A n c] W (RetB (.tuple #[I2 a b, .int .i64 e]) W)
set_option maxHeartbeats 4000000 in
set_option maxRecDepth 100000 in
theorem seg_main (v : TabV) (t : Tab.Tb) (A : Option Addr) (n c : Nat) (l : List Tab.Sg) (w : World) (a1 a2 E1 b1 b2 E2 : Int) (HT : Hid (∀ W, Below w.heap.size w W → TabIn W v t)) (HG : Hid (∀ W, Below w.heap.size w W → Lg W.heap.size W A n l)) (n0 : 1 ≤ n) (n1 : n ≤ 64) (hnc : n ≤ c) (hcm : c ≤ 9223372036854775807)
    (hS1 : Hid (∀ W, Below w.heap.size w W → SvC v A n c a1 a2 E1 W)) (hS2 : Hid (∀ W A' n' c', Below w.heap.size w W → n' ≤ 64 → Lg W.heap.size W A' n' l.reverse → SvC v A' n' c' b1 b2 E2 W))
    (hfin : Hid ((E1 ≠ 0 ∧ E2 ≠ 0 ∧ a1 = 0 ∧ a2 = 0) ∨ (E1 = 0 ∧ E2 = 0 ∧ b1 = a1 ∧ b2 = a2 ∧ ∃ d1 d2 e1 e2 r : Int, (0 ≤ d1 ∧ d1 ≤ 3000000000000000 ∧ 0 ≤ d2 ∧ d2 ≤ 3000000000000000 ∧ 0 ≤ e1 ∧ e1 ≤ 3000000000000000 ∧ 0 ≤ e2 ∧ e2 ≤ 3000000000000000) ∧ (∀ W, Below w.heap.size w W → SvC v A (n - 1) c d1 d2 0 W) ∧
      (∀ W, Below w.heap.size w W → Calls Try.prog 15 #[T3 v, I2 (Tab.sAt l (n - 1)).x1 (Tab.sAt l (n - 1)).x2, I2 (Tab.sAt l (n - 1)).y1 (Tab.sAt l (n - 1)).y2] W (RetB (.tuple #[.int .i64 r, .int .i64 0]) W)) ∧ (∀ W, Calls Try.prog 17 #[.int .i64 r, .int .i64 (Tab.sAt l (n - 1)).n] W (RetB (.tuple #[I2 e1 e2, .int .i64 0]) W)) ∧ a1 = d1 + e1 ∧ a2 = d2 + e2))) :
    Calls Try.prog 7 #[T3 v, .slice A n c] w (LawPost w) := by
  obtain ⟨p, rfl⟩ : ∃ p, n = p + 1 := ⟨n - 1, by omega⟩
  rw [Nat.add_sub_cancel] at hfin
  have hb : Below w.heap.size w (w.alloc (oT v)) := (Below.refl _ _).alloc (Nat.le_refl _) _
  have kt := Lib.hid (heap_new w (oT v))
  obtain ⟨i0, hi, hz0, hz1, hz2⟩ := info_parts infoSg
  have hlen := Lib.hid (HG.out _ (Below.refl _ _)).1
  obtain ⟨A1, m1, c1, A2, m2, c2, A3, m3, c3⟩ := v
  dsimp only [T3, s1, s2, s3, oT] at *
  have q1 : ((p : Int) + 1 == 0) = false := by simp; omega
  have q3 : decide (64 < (p : Int) + 1) = false := decide_eq_false (by omega)
  have q4 : decide (64 < p + 1) = false := decide_eq_false (by omega)
  have q5 : ¬ (p : Int) + 1 = 0 := by omega
  go_enter Try.func7, Try.ntmps7
  go_wp2_with fail
  refine (head_any _).mono ?_
  rintro e w1 ⟨rfl, hn⟩
  have hb := (by first | exact Below.go hb hn | exact Below.goA hb hn | exact Below.goAA hb hn | exact Below.goD hb hn | exact Below.goAD hb hn : Below w.heap.size w w1)
  have kt := Lib.hid (by first | exact keep' kt.out hn | exact keepA kt.out hn | exact keepAA kt.out hn | exact keepD kt.out hn | exact keepAD kt.out hn)
  clear hn
  obtain ⟨⟨kt0, kt1, kt2⟩, -⟩ := blk3 kt.out
  have ktz := lt_of_heap kt.out
  go_wp2_with fail
  refine (few_any _ t _ (HT.out _ hb)).mono ?_
  rintro e w2 ⟨f, rfl, hn2⟩
  have hb := (Below.go hb hn2 : Below w.heap.size w w2)
  have kt := Lib.hid (keep' kt.out hn2)
  clear hn2
  obtain ⟨⟨kt0, kt1, kt2⟩, -⟩ := blk3 kt.out
  cases f
  · go_wp2
    go_ret
    exact ⟨rfl, hb⟩
  go_wp2_with fail
  refine (hS1.out _ hb).mono ?_
  rintro e w3 ⟨rfl, hn⟩
  have hb := (by first | exact Below.go hb hn | exact Below.goA hb hn | exact Below.goAA hb hn | exact Below.goD hb hn | exact Below.goAD hb hn : Below w.heap.size w w3)
  have kt := Lib.hid (by first | exact keep' kt.out hn | exact keepA kt.out hn | exact keepAA kt.out hn | exact keepD kt.out hn | exact keepAD kt.out hn)
  clear hn
  obtain ⟨⟨kt0, kt1, kt2⟩, -⟩ := blk3 kt.out
  have ktz := lt_of_heap kt.out
  have sz3 := hb.size
  have ka := Lib.hid (heap_new w3 (oRg a1 a2))
  have kt := Lib.hid (keepN kt.out (oRg a1 a2))
  have hb := Below.goN hb (oRg a1 a2)
  go_wp2
  clear kt0 kt1 kt2 ktz
  go_loopw [8, 9] (fun v i wr => ∃ k : Nat, k ≤ p + 1 ∧ i = .int .i64 ((k : Int) - 1) ∧ Own5 (w3.heap.size + 1) wr v ((l.drop k).reverse) ∧ Below (w3.heap.size + 1) (w3.alloc (oRg a1 a2)) wr) (fun _ i _ => (intOf i + 1).toNat)
  case atStart => exact ⟨p + 1, Nat.le_refl _, by go_num, by rw [List.drop_eq_nil_of_le (by rw [hlen.out]; exact Nat.le_refl _)]; exact World.ownsRow_nil _ _ _ _, Below.refl _ _⟩
  case round =>
    obtain ⟨k, hk, rfl, hown, hbr⟩ := hrel
    have hsr := hbr.size
    cases k with
    | zero =>
      have hbw : Below w.heap.size w wr := hb.trans (hbr.mono (by omega))
      rw [List.drop_zero] at hown
      obtain ⟨A', n', c', rfl, hn', hL⟩ := hown.lg
      have HL := Lib.hid hL
      have hn64 : n' ≤ 64 := by rw [hn', List.length_reverse, hlen.out]; exact n1
      have kt5 := Lib.hid (keep kt.out hbr (by have := lt_of_heap kt.out; simp at this; omega))
      have ka5 := Lib.hid (keep ka.out hbr (by omega))
      clear hown hL hn'
      have e0 : ((0 : Nat) : Int) - 1 = -1 := rfl
      simp only [e0]
      obtain ⟨⟨kt0, kt1, kt2⟩, -⟩ := blk3 kt5.out
      obtain ⟨⟨ka0, ka1⟩, -⟩ := blk2 ka5.out
      go_wp2_with fail
      refine (hS2.out _ A' n' c' hbw hn64 HL.out).mono ?_
      rintro e w6 ⟨rfl, hn6⟩
      have hb6 := Below.go hbw hn6
      have kt6 := Lib.hid (keep' kt5.out hn6)
      have ka6 := Lib.hid (keep' ka5.out hn6)
      clear hn6 kt0 kt1 kt2 ka0 ka1 hbr hbw HL
      rcases hfin.out with ⟨h1, h2, rfl, rfl⟩ | ⟨rfl, rfl, rfl, rfl, d1, d2, e1, e2, r, ⟨y1, y2, y3, y4, y5, y6, y7, y8⟩, z1, z2, z3, z4, z5⟩
      · have k1 := bne_of h1
        have k2 := bne_of h2
        have ka2 := Lib.hid (keepN ka6.out (oRg b1 b2))
        obtain ⟨⟨ka0, ka1⟩, -⟩ := blk2 ka2.out
        clear h1 h2
        go_wp2
        go_ret
        exact ⟨rfl, Below.goN hb6 _⟩
      · have Z1 := Lib.hid z1
        have Z2 := Lib.hid z2
        have Z3 := Lib.hid z3
        have Z4 := Lib.hid z4
        have Z5 := Lib.hid z5
        obtain ⟨b, off, rfl, hbB, hc⟩ := (HG.out _ (Below.goN hb6 (oRg b1 b2))).2 (by omega)
        obtain ⟨g0, g1, g2, g3, g4⟩ := hc p (by omega)
        clear hc z1 z2 z3 z4 z5 hfin hS1 hS2
        generalize Tab.sAt l p = s at *
        have kb7 := Lib.hid (heap_new w6 (oRg b1 b2))
        have ka7 := Lib.hid (keepN ka6.out (oRg b1 b2))
        have kt7 := Lib.hid (keepN kt6.out (oRg b1 b2))
        have hb7 := Below.goN hb6 (oRg b1 b2)
        have w3' : (0 : Int) ≤ (p : Int) := by omega
        have w4' : (p : Int) < (p : Int) + 1 := by omega
        have w5' : (p : Int) ≤ (c : Int) := by omega
        have w6' : IntKind.i64.wrap ((p : Int) + 1 - 1) = (p : Int) := by rw [show (p : Int) + 1 - 1 = p by omega]; exact IntWalk.i64_in _ (by omega)
        have w7' : IntKind.i64.wrap (p : Int) = (p : Int) := IntWalk.i64_in _ (by omega)
        have kl8 := Lib.hid (new1 w6 (oRg b1 b2) (oSg s))
        have kb8 := Lib.hid (keepN kb7.out (oSg s))
        have ka8 := Lib.hid (keepN ka7.out (oSg s))
        have kt8 := Lib.hid (keepN kt7.out (oSg s))
        have hb8 := Below.goN hb7 (oSg s)
        have HP : Hid (∀ W, Below ((w6.alloc (oRg b1 b2)).alloc (oSg s)).heap.size ((w6.alloc (oRg b1 b2)).alloc (oSg s)) W → W.cell? ⟨w.heap.size, 0, none⟩ = some (.slice A1 m1 c1) ∧ W.cell? ⟨w.heap.size, 1, none⟩ = some (.slice A2 m2 c2) ∧ W.cell? ⟨w.heap.size, 2, none⟩ = some (.slice A3 m3 c3)) := Lib.hid fun W hW => (blk3 (keep' kt8.out hW)).1
        have SC : Hid (∀ W, Below ((w6.alloc (oRg b1 b2)).alloc (oSg s)).heap.size ((w6.alloc (oRg b1 b2)).alloc (oSg s)) W → Calls Try.prog 21 #[.agg #[.slice A1 m1 c1, .slice A2 m2 c2, .slice A3 m3 c3], .slice (some ⟨b, off, none⟩) p c] W (fun e W' => e = .returned (.tuple #[I2 d1 d2, .int .i64 0]) ∧ Below ((w6.alloc (oRg b1 b2)).alloc (oSg s)).heap.size ((w6.alloc (oRg b1 b2)).alloc (oSg s)) W' ∧ Below W.heap.size W W')) := Lib.hid fun W hW => (Z1.out W (Below.go hb8 hW)).mono fun _ _ q => ⟨q.1, Below.go hW q.2, q.2⟩
        have hr0 := Below.refl ((w6.alloc (oRg b1 b2)).alloc (oSg s)).heap.size ((w6.alloc (oRg b1 b2)).alloc (oSg s))
        have hr1 := hr0.drew
        have hr2 := hr0.alloc (Nat.le_refl _) (oRg 0 0)
        have hr3 := hr2.drew
        go_wp2_with fail
        go_region_held3 (fun W => W.cell? ⟨w.heap.size, 0, none⟩ = some (.slice A1 m1 c1) ∧ W.cell? ⟨w.heap.size, 1, none⟩ = some (.slice A2 m2 c2) ∧ W.cell? ⟨w.heap.size, 2, none⟩ = some (.slice A3 m3 c3)) (first | exact HP.out _ (by assumption) | exact HP.out _ (hY.setCell (by simp) _) | exact HP.out _ ((hY.setCell (by simp) _).setCell (by simp) _) | exact HP.out _ (hY.alloc hY.size _) | exact HP.out _ ((hY.alloc hY.size _).setCell hY.size _) | exact HP.out _ (((hY.alloc hY.size _).setCell hY.size _).setCell hY.size _))
          (first | (go_at_call 21; refine (SC.out _ (by assumption)).mono ?_; rintro e wY ⟨rfl, hY, hY2⟩; first | (have kz : wY.heap[w6.heap.size + 1 + 1]? = some (oRg 0 0) := (by have hq := newAD (o := oRg 0 0) hY2; simp only [World.size_alloc] at hq; exact hq); obtain ⟨⟨x0, x1⟩, xf0, xf1⟩ := blk2 kz) | (have kz := heap_new wY (oRg 0 0); obtain ⟨⟨x0, x1⟩, xf0, xf1⟩ := blk2 kz)))
        · have kc := Lib.hid (heap_new wY (oRg d1 d2))
          have ktA := Lib.hid (keepN (keep' kt8.out hY) (oRg d1 d2))
          have kaA := Lib.hid (keepN (keep' ka8.out hY) (oRg d1 d2))
          have kbA := Lib.hid (keepN (keep' kb8.out hY) (oRg d1 d2))
          have klA := Lib.hid (keepN (keep' kl8.out hY) (oRg d1 d2))
          have hbA := Below.goN (Below.go hb8 hY) (oRg d1 d2)
          clear hY hY2 HP SC hr0 hr1 hr2 hr3 w6' w7' g0 g1 g2 g3 g4 kz x0 x1 xf0 xf1
          obtain ⟨⟨kt0, kt1, kt2⟩, -⟩ := blk3 ktA.out
          obtain ⟨g0, g1, g2, g3, g4⟩ := blk5 klA.out
          go_wp2_with fail
          refine (Z2.out _ hbA).mono ?_
          rintro e wV ⟨rfl, hV⟩
          clear kt0 kt1 kt2 g0 g1 g2 g3 g4
          obtain ⟨g0, g1, g2, g3, g4⟩ := blk5 (keep' klA.out hV)
          have hbV := Below.go hbA hV
          go_wp2_with fail
          refine (Z3.out _).mono ?_
          rintro e wZ ⟨rfl, hZ⟩
          clear g0 g1 g2 g3 g4
          have hbZ := Below.goN (Below.go hbV hZ) (oRg e1 e2)
          have kd := Lib.hid (heap_new wZ (oRg e1 e2))
          have kaZ := Lib.hid (keepN (keep' (keep' kaA.out hV) hZ) (oRg e1 e2))
          have kbZ := Lib.hid (keepN (keep' (keep' kbA.out hV) hZ) (oRg e1 e2))
          have kcZ := Lib.hid (keepN (keep' (keep' kc.out hV) hZ) (oRg e1 e2))
          obtain ⟨⟨p0, p1⟩, -⟩ := blk2 kaZ.out
          obtain ⟨⟨p2, p3⟩, -⟩ := blk2 kbZ.out
          obtain ⟨⟨p4, p5⟩, -⟩ := blk2 kcZ.out
          obtain ⟨⟨p6, p7⟩, -⟩ := blk2 kd.out
          have z4 := Z4.out
          have z5 := Z5.out
          go_wp2
          go_ret
          exact ⟨by simp, hbZ⟩
        · have zt := lt_of_heap kt8.out
          have za := lt_of_heap ka8.out
          have zb := lt_of_heap kb8.out
          have zl := lt_of_heap kl8.out
          simp only [World.size_alloc] at zt za zb zl
          have kc := Lib.hid (st2 (k := w6.heap.size + 1 + 1) kz (.int .i64 d1) (.int .i64 d2))
          have ktA := Lib.hid (st2o (k := w6.heap.size + 1 + 1) (keep' kt8.out hY) (by omega) (.int .i64 d1) (.int .i64 d2))
          have kaA := Lib.hid (st2o (k := w6.heap.size + 1 + 1) (keep' ka8.out hY) (by omega) (.int .i64 d1) (.int .i64 d2))
          have kbA := Lib.hid (st2o (k := w6.heap.size + 1 + 1) (keep' kb8.out hY) (by omega) (.int .i64 d1) (.int .i64 d2))
          have klA := Lib.hid (st2o (k := w6.heap.size + 1 + 1) (keep' kl8.out hY) (by omega) (.int .i64 d1) (.int .i64 d2))
          have hbA := Below.set2 (k := w6.heap.size + 1 + 1) (Below.go hb8 hY) (.int .i64 d1) (.int .i64 d2) (by have := hb6.size; omega)
          clear hY hY2 HP SC hr0 hr1 hr2 hr3 w6' w7' g0 g1 g2 g3 g4 kz x0 x1 xf0 xf1
          obtain ⟨⟨kt0, kt1, kt2⟩, -⟩ := blk3 ktA.out
          obtain ⟨g0, g1, g2, g3, g4⟩ := blk5 klA.out
          go_wp2_with fail
          refine (Z2.out _ hbA).mono ?_
          rintro e wV ⟨rfl, hV⟩
          clear kt0 kt1 kt2 g0 g1 g2 g3 g4
          obtain ⟨g0, g1, g2, g3, g4⟩ := blk5 (keep' klA.out hV)
          have hbV := Below.go hbA hV
          go_wp2_with fail
          refine (Z3.out _).mono ?_
          rintro e wZ ⟨rfl, hZ⟩
          clear g0 g1 g2 g3 g4
          have hbZ := Below.goN (Below.go hbV hZ) (oRg e1 e2)
          have kd := Lib.hid (heap_new wZ (oRg e1 e2))
          have kaZ := Lib.hid (keepN (keep' (keep' kaA.out hV) hZ) (oRg e1 e2))
          have kbZ := Lib.hid (keepN (keep' (keep' kbA.out hV) hZ) (oRg e1 e2))
          have kcZ := Lib.hid (keepN (keep' (keep' kc.out hV) hZ) (oRg e1 e2))
          obtain ⟨⟨p0, p1⟩, -⟩ := blk2 kaZ.out
          obtain ⟨⟨p2, p3⟩, -⟩ := blk2 kbZ.out
          obtain ⟨⟨p4, p5⟩, -⟩ := blk2 kcZ.out
          obtain ⟨⟨p6, p7⟩, -⟩ := blk2 kd.out
          have z4 := Z4.out
          have z5 := Z5.out
          go_wp2
          go_ret
          exact ⟨by simp, hbZ⟩
    | succ k =>
      have hbw : Below w.heap.size w wr := hb.trans (hbr.mono (by omega))
      obtain ⟨b, off, rfl, hbB, hc⟩ := (HG.out _ hbw).2 (by omega)
      obtain ⟨g0, g1, g2, g3, g4⟩ := hc k (by omega)
      have hst := Lib.hid (rev_step hlen.out (show k < p + 1 by omega))
      have hln : Hid (((l.drop (k + 1)).reverse).length ≤ 64) := Lib.hid (by simp; have := hlen.out; omega)
      clear hc
      generalize Tab.sAt l k = s at *
      generalize (l.drop (k + 1)).reverse = F at *
      have e : ((k + 1 : Nat) : Int) - 1 = (k : Int) := by omega
      simp only [e]
      have hln2 := hln.out
      have j0 : (0 : Int) ≤ (k : Int) := by omega
      have j1 : (k : Int) < (p : Int) + 1 := by omega
      have j2 : decide ((0 : Int) ≤ (k : Int)) = true := decide_eq_true j0
      have hsr2 : w3.heap.size + 1 ≤ wr.heap.size := by simp at hsr; omega
      go_wp2_with (at_builtin; refine wpList_append_own_at _ rfl _ _ 28 rfl (w3.heap.size + 1) tSg i0 (.agg #[.int .i64 0, .int .i64 0, .int .i64 0, .int .i64 0, .int .i64 0]) 5 40 Try.underlying28 hi hz0 hz1 hz2 rfl (by decide) _ _ _ rfl (hown.alloc _) ⟨wr.heap.size, 0, none⟩ 1 1 [.int .i64 s.n, .int .i64 s.x1, .int .i64 s.x2, .int .i64 s.y1, .int .i64 s.y2] rfl rfl (World.news_of_block (heap_new wr _)) (by simp [Value.oneCell']) (by unfold maxLen; omega) (by omega) (by simp; omega) ?_; intro v' w5 hown' hgrow _ _)
      have hb3 := Below.grown (hbr.alloc hsr2 _) hgrow (by simp; omega) (fun g hg => (hown.lt g hg).1)
      have ho3 := own5_snoc hown'
      clear hown' hgrow hown g0 g1 g2 g3 g4
      go_wp2
      go_roundw
      case rel => exact ⟨k, by omega, by go_num, by rw [hst.out]; exact ho3, hb3⟩
      case measure => simp [intOf]
set_option maxHeartbeats 2000000 in
set_option maxRecDepth 100000 in
theorem seg_bad (v : TabV) (t : Tab.Tb) (A : Option Addr) (n c : Nat) (w : World) (HT : Hid (∀ W, Below w.heap.size w W → TabIn W v t)) (hn : n = 0 ∨ 64 < n) (hm : n ≤ 9223372036854775807) :
    Calls Try.prog 7 #[T3 v, .slice A n c] w (LawPost w) := by
  have hb : Below w.heap.size w (w.alloc (oT v)) := (Below.refl _ _).alloc (Nat.le_refl _) _
  have kt := Lib.hid (heap_new w (oT v))
  obtain ⟨A1, m1, c1, A2, m2, c2, A3, m3, c3⟩ := v
  dsimp only [T3, s1, s2, s3, oT] at *
  have q : (((n : Int) == 0) = true ∧ (n == 0) = true) ∨ (((n : Int) == 0) = false ∧ (n == 0) = false ∧ decide (64 < (n : Int)) = true ∧ decide (64 < n) = true) := by
    rcases hn with h | h
    · left; subst h; exact ⟨rfl, rfl⟩
    · right; exact ⟨by simp; omega, by simp; omega, decide_eq_true (by omega), decide_eq_true h⟩
  clear hn
  go_enter Try.func7, Try.ntmps7
  go_wp2_with fail
  refine (head_any _).mono ?_
  rintro e w1 ⟨rfl, hn⟩
  have hb := (by first | exact Below.go hb hn | exact Below.goA hb hn | exact Below.goAA hb hn | exact Below.goD hb hn | exact Below.goAD hb hn : Below w.heap.size w w1)
  have kt := Lib.hid (by first | exact keep' kt.out hn | exact keepA kt.out hn | exact keepAA kt.out hn | exact keepD kt.out hn | exact keepAD kt.out hn)
  clear hn
  obtain ⟨⟨kt0, kt1, kt2⟩, -⟩ := blk3 kt.out
  have ktz := lt_of_heap kt.out
  go_wp2_with fail
  refine (few_any _ t _ (HT.out _ hb)).mono ?_
  rintro e w2 ⟨f, rfl, hn2⟩
  have hb := (Below.go hb hn2 : Below w.heap.size w w2)
  cases f
  · go_wp2
    go_ret
    exact ⟨rfl, hb⟩
  · rcases q with ⟨q1, q2⟩ | ⟨q1, q2, q3, q4⟩
    · go_wp2
      go_ret
      exact ⟨rfl, hb⟩
    · go_wp2
      go_ret
      exact ⟨rfl, hb⟩
theorem segments_law (v : Value) (x : TabV × Tab.Tb) (z : Value) (l : List Tab.Sg) (w : World) (hv : IsTb w v x) (hz : IsSg w z l) : Calls Try.prog 7 #[v, z] w (LawPost w) := by
  obtain ⟨V, t⟩ := x
  obtain ⟨rfl, ht⟩ := hv
  obtain ⟨A, n, c, rfl, hnc, hc, hg⟩ := hz
  have HT : Hid (∀ W, Below w.heap.size w W → TabIn W V t) := Lib.hid fun W hW => ht.below hW
  have HG : Hid (∀ W, Below w.heap.size w W → Lg W.heap.size W A n l) := Lib.hid fun W hW => (hg.below hW).mono hW.size
  by_cases hn : 1 ≤ n ∧ n ≤ 64
  rotate_left
  · exact seg_bad V t A n c w HT (by omega) (by omega)
  obtain ⟨n0, n1⟩ := hn
  have hlen : l.length = n := hg.1
  have hS1 : ∀ W, Below w.heap.size w W → SvC V A n c (Tab.several t l).1 (Tab.several t l).2.1 (Tab.several t l).2.2 W := fun W hW => Several_any V t A n c l W (HT.out W hW) (HG.out W hW) (by omega)
  have hS2 : ∀ W A' n' c', Below w.heap.size w W → n' ≤ 64 → Lg W.heap.size W A' n' l.reverse → SvC V A' n' c' (Tab.several t l.reverse).1 (Tab.several t l.reverse).2.1 (Tab.several t l.reverse).2.2 W := fun W A' n' c' hW hn' hL => Several_any V t A' n' c' l.reverse W (HT.out W hW) hL (by omega)
  refine seg_main V t A n c l w _ _ _ _ _ _ HT HG n0 n1 hnc hc (Lib.hid hS1) (Lib.hid hS2) (Lib.hid ?_)
  rcases Tab.several_ways (t := t) (l := l) (by omega) with ⟨h1, h2, h3, h4⟩ | ⟨hv, hs, hsum, he1, he2⟩
  · exact .inl ⟨h1, h4, h2, h3⟩
  · right
    obtain ⟨i1, i2, i3, i4⟩ := Tab.several_init hlen n0 n1 hv hs hsum
    have hsi : ∀ s ∈ l.take (n - 1), Tab.sgE t s = 0 := fun s q => hs s (List.mem_of_mem_take q)
    have nn := Tab.su_nn (t := t) (l.take (n - 1)) hsi
    have ok := Tab.sg_ok i2
    have el := Tab.sg_el i2
    have nl := Tab.su_nn (t := t) l hs
    have hlo : Tab.suLo t (l.take (n - 1)) ≤ Tab.suHi t (l.take (n - 1)) := Tab.su_le _ hsi
    rw [he1, he2]
    refine ⟨rfl, rfl, rfl, rfl, Tab.suLo t (l.take (n - 1)), Tab.suHi t (l.take (n - 1)), Tab.sgLo t (Tab.sAt l (n - 1)), Tab.sgHi t (Tab.sAt l (n - 1)), Tab.sgR t (Tab.sAt l (n - 1)), ⟨nn.1, by omega, nn.2, by omega, by omega, by omega, by omega, by omega⟩, fun W hW => ?_, fun W hW => ?_, fun W => ?_, i3, i4⟩
    · have := Several_any V t A (n - 1) c (l.take (n - 1)) W (HT.out W hW) ((HG.out W hW).take (by omega)) (by omega)
      rw [i1] at this; exact this
    · have := Worst_any V t (Tab.sAt l (n - 1)).x1 (Tab.sAt l (n - 1)).x2 (Tab.sAt l (n - 1)).y1 (Tab.sAt l (n - 1)).y2 W (HT.out W hW)
      rw [ok.2.1] at this; exact this
    · have := Elapsed_any (Tab.sgR t (Tab.sAt l (n - 1))) (Tab.sAt l (n - 1)).n W
      rw [el.1, el.2.1, el.2.2] at this; exact this
end Go.Proofs.Ytlmdjkkeocmehaa
