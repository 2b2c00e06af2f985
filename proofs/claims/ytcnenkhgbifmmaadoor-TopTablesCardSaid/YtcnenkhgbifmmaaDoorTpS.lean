/- An argument that is an edition, opened; the contracts of r14Edition, civil.Show and edition.Move. -/
import Derived.Test.YtcnenkhgbifmmaaDoorTpM
import Derived.Test.YtcnenkhgbifmmaaDoorTpR
set_option linter.unusedVariables false
namespace Go.Proofs.YtcnenkhgbifmmaaDoor
open Go.RowKit Go.ChangeShapes Go.WideShapes Go.Deep
/-- what the walk is told of an edition that came in -/
def IsEd (W : World) (v : Value) (x : Ed × Lpm.LL) : Prop := ∃ A n c, v = (.agg #[.int .i64 x.1.ver, .int .i64 x.1.frm, .int .i64 x.1.unt, .slice A n c, .int .i64 x.1.sc, .int .i64 x.1.ss]) ∧ Lp W.heap.size W A n x.2
theorem array6 {cs : Array Value} (h : cs.size = 6) : ∃ a0 a1 a2 a3 a4 a5, cs = #[a0, a1, a2, a3, a4, a5] := by
  obtain ⟨l⟩ := cs
  match l, h with
  | [a0, a1, a2, a3, a4, a5], _ => exact ⟨a0, a1, a2, a3, a4, a5, rfl⟩
set_option maxRecDepth 100000 in
theorem cellsEd : Tryd.prog.cellsOf 43 = 6 := by kernel_rfl
set_option maxRecDepth 100000 in
theorem tab_of_trod {H : Type} {enc : TypeId × Value → H} {W : World} {base : Nat} {sp : Nat → Bool} {hd : Bool} {v : Value} {fuel : Nat} {y : DataW H × List MemPlace}
    (hf : DataW.trod enc Tryd.prog W base sp hd fuel 22 [v] = some y) : ∃ l A n c, v = .slice A n c ∧ Lp W.heap.size W A n l := by
  rcases open_slice_fields Tryd.underlying22 Tryd.underlying69 (by kernel_rfl) cellsLeap hf with ⟨hcs, _⟩ | ⟨a, n, c, m, D, Pl, hcs, _, hl, hm, hmm, _, hc⟩
  · simp at hcs
    subst hcs
    exact ⟨[], none, 0, 0, rfl, rfl, fun h => absurd h (by omega)⟩
  · simp at hcs
    subst hcs
    have hnm : n ≤ m := by rw [hmm]; split <;> omega
    have hex : ∀ i, i < n → ∃ x : Int × Int, W.cell? (a.add (i * 2)) = some (.int .i64 x.1) ∧ W.cell? (a.add (i * 2 + 1)) = some (.int .i64 x.2) := fun i hi => by
      obtain ⟨ys, k, _, _, _, hj⟩ := hc i (by omega)
      obtain ⟨v0, y0, c0, _, t0⟩ := hj 0 _ rfl
      obtain ⟨v1, y1, c1, _, t1⟩ := hj 1 _ rfl
      obtain ⟨z0, e0, _, _⟩ := DataW.trod_int Tryd.underlying3 t0
      obtain ⟨z1, e1, _, _⟩ := DataW.trod_int Tryd.underlying3 t1
      simp at e0 e1
      subst e0 e1
      exact ⟨(z0, z1), c0, c1⟩
    have hch : ∃ f : Nat → Int × Int, ∀ i, i < n → W.cell? (a.add (i * 2)) = some (.int .i64 (f i).1) ∧ W.cell? (a.add (i * 2 + 1)) = some (.int .i64 (f i).2) :=
      ⟨fun i => if hi : i < n then Classical.choose (hex i hi) else (0, 0), fun i hi => by simp only [dif_pos hi]; exact Classical.choose_spec (hex i hi)⟩
    obtain ⟨f, hfc⟩ := hch
    refine ⟨(List.range n).map f, some a, n, c, rfl, by simp, fun hn => ?_⟩
    have h0 := (hfc 0 hn).1
    obtain ⟨b, off, sp⟩ := a
    have hsp : sp = none := by simpa [Addr.add] using World.cell?_spot h0
    subst hsp
    refine ⟨b, off, rfl, by simpa [Addr.add] using World.block_lt_of_cell? W _ h0, fun j hj => ?_⟩
    have e : ((List.range n).map f)[j]?.getD (0, 0) = f j := by simp [hj]
    rw [e]
    have ad : ∀ k, (⟨b, off, none⟩ : Addr).add k = ⟨b, off + k, none⟩ := fun k => by unfold Addr.add; split <;> simp_all
    have := hfc j hj
    rw [ad, ad] at this
    exact ⟨this.1, by rw [Nat.add_assoc]; exact this.2⟩
set_option maxRecDepth 100000 in
theorem open_ed {H : Type} {enc : TypeId × Value → H} {W : World} {base b0 : Nat} {r : Reach} {sp : Nat → Bool} {hd : Bool} {v : Value} {d : DataW H} {p : List MemPlace}
    (hv : Value.okWide Tryd.prog W r b0 43 v) (h : DataW.Trod enc Tryd.prog W base sp hd 43 v d p) : ∃ x, IsEd W v x := by
  obtain ⟨cs, rfl, hsz⟩ := okWide_struct Tryd.underlying43 hv
  obtain ⟨a0, a1, a2, a3, a4, a5, rfl⟩ := array6 (hsz.trans cellsEd)
  obtain ⟨fuel, hf⟩ := h
  obtain ⟨ys, n', hn', hy, hlen, hyl, hg⟩ := DataW.trod_struct Tryd.underlying43 hf
  have key : ∀ (j : Nat) (f : Field) (x : List Value), j < 5 → ys[j]? = DataW.trod enc Tryd.prog W base sp hd n' f.type x → ∃ y, DataW.trod enc Tryd.prog W base sp hd n' f.type x = some y := fun j f x hj e => by
    have hs : ys.length = 5 := hyl
    exact ⟨ys[j]'(by omega), e.symm.trans (List.getElem?_eq_getElem (by omega))⟩
  obtain ⟨y0, t0⟩ := key 0 _ [a0] (by decide) (hg 0 _ rfl).symm
  obtain ⟨y1, t1⟩ := key 1 _ [a1] (by decide) (hg 1 _ rfl).symm
  obtain ⟨y2, t2⟩ := key 2 _ [a2] (by decide) (hg 2 _ rfl).symm
  obtain ⟨y3, t3⟩ := key 3 _ [a3] (by decide) (hg 3 _ rfl).symm
  obtain ⟨y4, t4⟩ := key 4 _ [a4, a5] (by decide) (hg 4 _ rfl).symm
  obtain ⟨z0, e0, -, u0⟩ := DataW.trod_int Tryd.underlying3 t0
  obtain ⟨z1, e1, -, u1⟩ := DataW.trod_int Tryd.underlying3 t1
  obtain ⟨z2, e2, -, u2⟩ := DataW.trod_int Tryd.underlying3 t2
  obtain ⟨l, A, n, c, rfl, hl⟩ := tab_of_trod t3
  obtain ⟨w0, w1, m', -, -, s0, s1⟩ := trod_struct2 Tryd.underlying41 t4
  obtain ⟨z4, e4, -, u4⟩ := DataW.trod_int Tryd.underlying3 s0
  obtain ⟨z5, e5, -, u5⟩ := DataW.trod_int Tryd.underlying3 s1
  simp at e0 e1 e2
  have q4 : [a4] = [Value.int .i64 z4] := e4
  have q5 : [a5] = [Value.int .i64 z5] := e5
  obtain rfl : a4 = .int .i64 z4 := (List.cons.inj q4).1
  obtain rfl : a5 = .int .i64 z5 := (List.cons.inj q5).1
  subst e0 e1 e2
  exact ⟨(⟨z0, z1, z2, z4, z5⟩, l), A, n, c, rfl, hl⟩
set_option maxHeartbeats 2000000 in
set_option maxRecDepth 100000 in
theorem r14Ed_any (A : Option Addr) (n c : Nat) (l : Lpm.LL) (e : Ed) (w : World) (hl : Lp w.heap.size w A n l) :
    Calls Tryd.prog 12 #[(.agg #[.int .i64 e.ver, .int .i64 e.frm, .int .i64 e.unt, .slice A n c, .int .i64 e.sc, .int .i64 e.ss])] w (RetB (.bool (decide (n ≤ 20) && formedB e l)) w) := by
  have kx := Lib.hid (heap_new w (.cells #[.int .i64 e.ver, .int .i64 e.frm, .int .i64 e.unt, .slice A n c, .int .i64 e.sc, .int .i64 e.ss] 43))
  have hb := Below.goN (Below.refl w.heap.size w) (.cells #[.int .i64 e.ver, .int .i64 e.frm, .int .i64 e.unt, .slice A n c, .int .i64 e.sc, .int .i64 e.ss] 43)
  have H1 : Hid (∀ W, Below w.heap.size w W → Lp W.heap.size W A n l) := Lib.hid fun W hW => hl.go hW
  obtain ⟨k0, k1, k2, k3, k4, k5⟩ := blk6 kx.out
  clear hl
  by_cases q : n ≤ 20
  · have q' : (n : Int) ≤ 20 := by omega
    rw [decide_eq_true q, Bool.true_and]
    go_enter Tryd.func12, Tryd.ntmps12
    go_wp2_with fail
    refine (refFormed_any A n c l e _ (H1.out _ hb) (by omega)).mono ?_
    rintro v w1 ⟨rfl, hn⟩
    have hb := Below.go hb hn
    generalize formedB e l = g at *
    clear hn
    go_wp2
    go_ret
    exact ⟨rfl, hb⟩
  · have q' : ¬ (n : Int) ≤ 20 := by omega
    rw [decide_eq_false q, Bool.false_and]
    go_enter Tryd.func12, Tryd.ntmps12
    go_wp2
    go_ret
    exact ⟨rfl, hb⟩
/-- what a wall clock shows of a microsecond of a day -/
def wall (d m : Int) : Value := .agg #[.int .i64 d, .int .i64 (if m / 1000000 ≤ 86399 then m / 1000000 else 86399), .int .i64 (m % 1000000)]
set_option maxHeartbeats 2000000 in
set_option maxRecDepth 100000 in
theorem Show_gen (A : Option Addr) (n c : Nat) (l : Lpm.LL) (d t : Int) (w : World) (hl : Lp w.heap.size w A n l) (hn : n ≤ 110) (h : AtDay l d t) :
    Calls Tryd.prog 15 #[.slice A n c, .int .i64 t] w (RetB (.tuple #[wall d (t - Lpm.start l d), .int .i64 0]) w) := by
  obtain ⟨-, -, b0, b1, -⟩ := at_day h
  have H1 : Hid (∀ W, Below w.heap.size w W → Lp W.heap.size W A n l) := Lib.hid fun W hW => hl.go hW
  have HT := fun (W : World) (hb : Below w.heap.size w W) => To_at A n c l d t W (H1.out W hb) hn h
  unfold wall
  generalize t - Lpm.start l d = m at *
  have HT := Lib.hid HT
  obtain ⟨s, hs⟩ : ∃ s, m / 1000000 = s := ⟨_, rfl⟩
  obtain ⟨u, hu⟩ : ∃ u, m % 1000000 = u := ⟨_, rfl⟩
  have hs0 : 0 ≤ s := by omega
  have hs1 : s ≤ 86400 := by omega
  have hs2 : Int.tdiv m 1000000 = s := by rw [Int.tdiv_eq_ediv_of_nonneg b0]; exact hs
  have hu2 : Int.tmod m 1000000 = u := by rw [Int.tmod_eq_emod_of_nonneg b0]; exact hu
  have hwr : IntKind.i64.wrap s = s := IntWalk.i64_in _ (by omega)
  rw [hs, hu]
  clear hl h
  have hb := Below.goN (Below.refl w.heap.size w) (.cells #[.int .i64 0, .int .i64 0, .int .i64 0] 52)
  have kx := Lib.hid (heap_new w (.cells #[.int .i64 0, .int .i64 0, .int .i64 0] 52))
  by_cases g : s ≤ 86399
  · rw [if_pos g]
    have g' : ¬ (86399 : Int) < s := by omega
    go_enter Tryd.func15, Tryd.ntmps15
    go_wp2_with fail
    refine (HT.out _ hb).mono ?_
    rintro e w1 ⟨rfl, hn1⟩
    have kx := Lib.hid (keep' kx.out hn1)
    have hb := Below.go hb hn1
    clear hn1
    obtain ⟨⟨c0, c1, c2⟩, f0, f1, f2⟩ := blk3 kx.out
    have hlt := lt_of_heap kx.out
    obtain ⟨⟨g0, g1, g2⟩, -⟩ := blk3 (keepN kx.out (.cells #[.int .i64 d, .int .i64 m] 48))
    obtain ⟨⟨x0, x1⟩, -⟩ := blk2 (heap_new w1 (.cells #[.int .i64 d, .int .i64 m] 48))
    go_wp2
    go_quiet (fail)
    go_wp2
    exact bodyPost_ret (v := .tuple #[.agg #[.int .i64 d, .int .i64 s, .int .i64 u], .int .i64 0]) (by simp [results, Tryd.results15, go_sem, g0, g1, g2]) rfl ⟨rfl, by (repeat (with_reducible first | exact hb | refine Below.drew ?_ | refine below_drewN ?_ _ | refine Below.goN ?_ _ | refine Below.setCell ?_ ?_ _)); all_goals (first | omega | (simp; done) | (simp; omega))⟩
  · rw [if_neg g]
    have g' : (86399 : Int) < s := by omega
    go_enter Tryd.func15, Tryd.ntmps15
    go_wp2_with fail
    refine (HT.out _ hb).mono ?_
    rintro e w1 ⟨rfl, hn1⟩
    have kx := Lib.hid (keep' kx.out hn1)
    have hb := Below.go hb hn1
    clear hn1
    obtain ⟨⟨c0, c1, c2⟩, f0, f1, f2⟩ := blk3 kx.out
    have hlt := lt_of_heap kx.out
    obtain ⟨⟨g0, g1, g2⟩, -⟩ := blk3 (keepN kx.out (.cells #[.int .i64 d, .int .i64 m] 48))
    obtain ⟨⟨x0, x1⟩, -⟩ := blk2 (heap_new w1 (.cells #[.int .i64 d, .int .i64 m] 48))
    go_wp2
    go_quiet (fail)
    go_wp2
    exact bodyPost_ret (v := .tuple #[.agg #[.int .i64 d, .int .i64 86399, .int .i64 u], .int .i64 0]) (by simp [results, Tryd.results15, go_sem, g0, g1, g2]) rfl ⟨rfl, by (repeat (with_reducible first | exact hb | refine Below.drew ?_ | refine below_drewN ?_ _ | refine Below.goN ?_ _ | refine Below.setCell ?_ ?_ _)); all_goals (first | omega | (simp; done) | (simp; omega))⟩
set_option maxHeartbeats 2000000 in
set_option maxRecDepth 100000 in
theorem Show_err (A : Option Addr) (n c : Nat) (l : Lpm.LL) (t : Int) (w : World) (hl : Lp w.heap.size w A n l) (hn : n ≤ 110) (h : Lpm.dE l t ≠ 0) :
    Calls Tryd.prog 15 #[.slice A n c, .int .i64 t] w (RetB (.tuple #[.agg #[.int .i64 0, .int .i64 0, .int .i64 0], .int .i64 (Lpm.dE l t)]) w) := by
  have HT := Lib.hid (fun (W : World) (hb : Below w.heap.size w W) => To_err A n c l t W (hl.go hb) hn h)
  generalize Lpm.dE l t = E at *
  have hE : (E != 0) = true := bne_of h
  clear hl h
  have hb := Below.goN (Below.refl w.heap.size w) (.cells #[.int .i64 0, .int .i64 0, .int .i64 0] 52)
  have kx := Lib.hid (heap_new w (.cells #[.int .i64 0, .int .i64 0, .int .i64 0] 52))
  go_enter Tryd.func15, Tryd.ntmps15
  go_wp2_with fail
  refine (HT.out _ hb).mono ?_
  rintro e w1 ⟨rfl, hn1⟩
  have kx := Lib.hid (keep' kx.out hn1)
  have hb := Below.go hb hn1
  clear hn1 HT
  obtain ⟨⟨c0, c1, c2⟩, f0, f1, f2⟩ := blk3 kx.out
  have hlt := lt_of_heap kx.out
  obtain ⟨WZ, hWZ⟩ : ∃ W : World, W = ((w1.setCell ⟨w.heap.size, 0, none⟩ (.int .i64 0)).setCell ⟨w.heap.size, 1, none⟩ (.int .i64 0)).setCell ⟨w.heap.size, 2, none⟩ (.int .i64 0) := ⟨_, rfl⟩
  have hlt2 : w.heap.size < WZ.heap.size := by rw [hWZ]; simpa using hlt
  have e0 : WZ.cell? ⟨w.heap.size, 0, none⟩ = some (.int .i64 0) := by rw [hWZ]; simp [go_sem, c0, c1, c2]
  have e1 : WZ.cell? ⟨w.heap.size, 1, none⟩ = some (.int .i64 0) := by rw [hWZ]; simp [go_sem, c0, c1, c2]
  have e2 : WZ.cell? ⟨w.heap.size, 2, none⟩ = some (.int .i64 0) := by rw [hWZ]; simp [go_sem, c0, c1, c2]
  have g0 := ((Below.goN (Below.refl _ WZ) (.cells #[.int .i64 0, .int .i64 0] 48)).cell (p := ⟨w.heap.size, 0, none⟩) hlt2).trans e0
  have g1 := ((Below.goN (Below.refl _ WZ) (.cells #[.int .i64 0, .int .i64 0] 48)).cell (p := ⟨w.heap.size, 1, none⟩) hlt2).trans e1
  have g2 := ((Below.goN (Below.refl _ WZ) (.cells #[.int .i64 0, .int .i64 0] 48)).cell (p := ⟨w.heap.size, 2, none⟩) hlt2).trans e2
  rw [hWZ] at g0 g1 g2
  clear e0 e1 e2 hlt2 hWZ
  go_wp2
  exact bodyPost_ret (v := .tuple #[.agg #[.int .i64 0, .int .i64 0, .int .i64 0], .int .i64 E]) (by simp [results, Tryd.results15, go_sem, g0, g1, g2]) rfl ⟨rfl, by (repeat (with_reducible first | exact hb | refine Below.drew ?_ | refine below_drewN ?_ _ | refine Below.goN ?_ _ | refine Below.setCell ?_ ?_ _)); all_goals (first | omega | (simp; done) | (simp; omega))⟩
set_option maxHeartbeats 2000000 in
set_option maxRecDepth 100000 in
theorem Move_at (A1 A2 : Option Addr) (n1 c1 n2 c2 : Nat) (la lb : Lpm.LL) (d d' t : Int) (w : World) (h1 : Lp w.heap.size w A1 n1 la) (h2 : Lp w.heap.size w A2 n2 lb) (m1 : n1 ≤ 110) (m2 : n2 ≤ 110) (ha : AtDay la d t) (hb' : AtDay lb d' t) :
    Calls Tryd.prog 16 #[.slice A1 n1 c1, .slice A2 n2 c2, .agg #[.int .i64 d, .int .i64 (t - Lpm.start la d)]] w (RetB (.tuple #[.agg #[.int .i64 d', .int .i64 (t - Lpm.start lb d')], .int .i64 0]) w) := by
  have V1 := fun (W : World) (hb : Below w.heap.size w W) => valid_c (c := c1) (h1.go hb) (Nat.le_refl _) m1 (Below.refl W.heap.size W)
  have V2 := fun (W : World) (hb : Below w.heap.size w W) => valid_c (c := c2) (h2.go hb) (Nat.le_refl _) m2 (Below.refl W.heap.size W)
  rw [ha.v] at V1
  rw [hb'.v] at V2
  have V1 := Lib.hid V1
  have V2 := Lib.hid V2
  have HF := Lib.hid (fun (W : World) (hb : Below w.heap.size w W) => From_at A1 n1 c1 la d t W (h1.go hb) m1 ha)
  have HT := Lib.hid (fun (W : World) (hb : Below w.heap.size w W) => To_at A2 n2 c2 lb d' t W (h2.go hb) m2 hb')
  generalize t - Lpm.start la d = m at *
  generalize t - Lpm.start lb d' = m' at *
  clear h1 h2 ha hb'
  have hb := Below.goN (Below.goN (Below.refl w.heap.size w) (.cells #[.int .i64 d, .int .i64 m] 48)) (.cells #[.int .i64 0, .int .i64 0] 48)
  have kx := Lib.hid (new0 w (.cells #[.int .i64 d, .int .i64 m] 48) (.cells #[.int .i64 0, .int .i64 0] 48))
  have ky := Lib.hid (new1 w (.cells #[.int .i64 d, .int .i64 m] 48) (.cells #[.int .i64 0, .int .i64 0] 48))
  go_enter Tryd.func16, Tryd.ntmps16
  go_wp2_with fail
  refine (V1.out _ hb).mono ?_
  rintro e w1 ⟨rfl, hn⟩
  have hb := Below.go hb hn
  have kx := Lib.hid (keep' kx.out hn)
  have ky := Lib.hid (keep' ky.out hn)
  clear hn
  go_wp2_with fail
  refine (V2.out _ hb).mono ?_
  rintro e w2 ⟨rfl, hn⟩
  have hb := Below.go hb hn
  have kx := Lib.hid (keep' kx.out hn)
  have ky := Lib.hid (keep' ky.out hn)
  clear hn
  obtain ⟨⟨x0, x1⟩, -⟩ := blk2 kx.out
  go_wp2_with fail
  refine (HF.out _ hb).mono ?_
  rintro e w3 ⟨rfl, hn⟩
  have hb := Below.go hb hn
  have ky := Lib.hid (keep' ky.out hn)
  clear hn x0 x1
  go_wp2_with fail
  refine (HT.out _ hb).mono ?_
  rintro e w4 ⟨rfl, hn⟩
  have hb := Below.go hb hn
  have ky := Lib.hid (keep' ky.out hn)
  clear hn
  have hlt := lt_of_heap ky.out
  obtain ⟨⟨c0, c1⟩, f0, f1⟩ := blk2 ky.out
  go_wp2
  exact bodyPost_ret (v := .tuple #[.agg #[.int .i64 d', .int .i64 m'], .int .i64 0]) (by simp [results, Tryd.results16, go_sem, c0, c1]) rfl ⟨rfl, by (repeat (with_reducible first | exact hb | refine Below.drew ?_ | refine below_drewN ?_ _ | refine Below.goN ?_ _ | refine Below.setCell ?_ ?_ _)); all_goals (first | omega | (simp; done) | (simp; omega))⟩
end Go.Proofs.YtcnenkhgbifmmaaDoor
