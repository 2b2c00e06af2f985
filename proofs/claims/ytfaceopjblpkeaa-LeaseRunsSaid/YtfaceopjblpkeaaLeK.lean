/- Arguments that are leases and intervals, opened; the walk of the law LeaseFree. -/
import Derived.Test.YtfaceopjblpkeaaLeJ
import Derived.Test.YtfaceopjblpkeaaOpenF
import Derived.Lib.SmallJoins
set_option linter.unusedVariables false
namespace Go.Proofs.Ytfaceopjblpkeaa
open Go.RowKit Go.ChangeShapes Go.WideShapes Go.Deep
def IsLeases (W : World) (v : Value) (l : List Lem.T3) : Prop := ∃ A n c, v = .slice A n c ∧ Lin W A n c l
def IsI2 (v : Value) (x : Int × Int) : Prop := v = I2 x.1 x.2 ∧ (Lit.int .i64 x.1).wf = true ∧ (Lit.int .i64 x.2).wf = true
theorem cellsIv : Try.prog.cellsOf 24 = 2 := by kernel_rfl
theorem cellsLease : Try.prog.cellsOf 42 = 3 := by kernel_rfl
theorem open_i2 {H : Type} {enc : TypeId × Value → H} {W : World} {base b0 : Nat} {r : Reach} {sp : Nat → Bool} {hd : Bool} {v : Value} {d : DataW H} {p : List MemPlace}
    (hv : Value.okWide Try.prog W r b0 24 v) (h : DataW.Trod enc Try.prog W base sp hd 24 v d p) : ∃ x, IsI2 v x := by
  obtain ⟨c0, c1, y0, y1, m, rfl, rfl, rfl, h0, h1⟩ := Go.Joins.open_agg2 Try.underlying24 (by kernel_rfl) cellsIv hv h
  obtain ⟨a, e0, _, f0⟩ := DataW.trod_int Try.underlying3 h0
  obtain ⟨b, e1, _, f1⟩ := DataW.trod_int Try.underlying3 h1
  simp at e0 e1
  subst e0 e1
  exact ⟨(a, b), rfl, f0, f1⟩
theorem open_leases {H : Type} {enc : TypeId × Value → H} {W : World} {base b0 : Nat} {r : Reach} {sp : Nat → Bool} {hd : Bool} {v : Value} {d : DataW H} {p : List MemPlace}
    (hv : Value.okWide Try.prog W r b0 22 v) (h : DataW.Trod enc Try.prog W base sp hd 22 v d p) : ∃ l, IsLeases W v l := by
  obtain ⟨A, n, c, rfl⟩ := okWide_slice Try.underlying22 hv
  obtain ⟨fuel, hf⟩ := h
  rcases open_slice_fields Try.underlying22 Try.underlying42 (by kernel_rfl) cellsLease hf with ⟨hcs, _⟩ | ⟨a, len, cap, m, D, Pl, hcs, _, hl, hm, hmm, _, hc⟩
  · simp [Value.cells] at hcs
    obtain ⟨rfl, rfl, rfl⟩ := hcs
    exact ⟨[], none, 0, 0, rfl, Lin.none W⟩
  · simp [Value.cells] at hcs
    obtain ⟨rfl, rfl, rfl⟩ := hcs
    have hnm : n ≤ m := by rw [hmm]; split <;> omega
    have hex : ∀ i, i < n → ∃ x : Lem.T3, W.cell? (a.add (i * 3)) = some (.int .i64 x.1) ∧ W.cell? (a.add (i * 3 + 1)) = some (.int .i64 x.2.1) ∧ W.cell? (a.add (i * 3 + 2)) = some (.int .i64 x.2.2) := fun i hi => by
      obtain ⟨ys, k, _, _, _, hj⟩ := hc i (by omega)
      obtain ⟨v0, y0, c0, _, t0⟩ := hj 0 _ rfl
      obtain ⟨v1, y1, c1, _, t1⟩ := hj 1 _ rfl
      obtain ⟨v2, y2, c2, _, t2⟩ := hj 2 _ rfl
      obtain ⟨z0, e0, _, _⟩ := DataW.trod_int Try.underlying3 t0
      obtain ⟨z1, e1, _, _⟩ := DataW.trod_int Try.underlying3 t1
      obtain ⟨z2, e2, _, _⟩ := DataW.trod_int Try.underlying3 t2
      simp at e0 e1 e2
      subst e0 e1 e2
      exact ⟨(z0, z1, z2), c0, c1, c2⟩
    have hch : ∃ f : Nat → Lem.T3, ∀ i, i < n → W.cell? (a.add (i * 3)) = some (.int .i64 (f i).1) ∧ W.cell? (a.add (i * 3 + 1)) = some (.int .i64 (f i).2.1) ∧ W.cell? (a.add (i * 3 + 2)) = some (.int .i64 (f i).2.2) :=
      ⟨fun i => if hi : i < n then Classical.choose (hex i hi) else (0, 0, 0), fun i hi => by simp only [dif_pos hi]; exact Classical.choose_spec (hex i hi)⟩
    obtain ⟨f, hfc⟩ := hch
    refine ⟨(List.range n).map f, some a, n, c, rfl, ⟨⟨by simp, fun hn => ?_⟩, hl, by unfold maxLen at hm; omega, fun h => by cases h⟩⟩
    have h0 := (hfc 0 hn).1
    obtain ⟨b, off, sp⟩ := a
    have hsp : sp = none := by simpa [Addr.add] using World.cell?_spot h0
    subst hsp
    refine ⟨b, off, rfl, by simpa [Addr.add] using World.block_lt_of_cell? W _ h0, fun j hj => ?_⟩
    have e : Lem.at' ((List.range n).map f) j = f j := by unfold Lem.at'; simp [hj]
    rw [e]
    have ad : ∀ k, (⟨b, off, none⟩ : Addr).add k = ⟨b, off + k, none⟩ := fun k => by unfold Addr.add; split <;> simp_all
    have := hfc j hj
    rw [ad, ad, ad] at this
    exact ⟨this.1, by rw [Nat.add_assoc]; exact this.2.1, by rw [Nat.add_assoc]; exact this.2.2⟩
theorem or_ways {A B : Bool} (h : A = false → B = true) : A = true ∨ A = false ∧ B = true := by cases A <;> simp_all
theorem or3 {A B C : Bool} (h : A = false → B = false → C = true) : A = true ∨ (A = false ∧ B = true) ∨ (A = false ∧ B = false ∧ C = true) := by cases A <;> cases B <;> simp_all
set_option maxHeartbeats 2000000 in
set_option maxRecDepth 100000 in
theorem free_bad (A : Option Addr) (n c : Nat) (l : List Lem.T3) (b1 b2 c1 c2 h : Int) (w : World) (hl : Lin w A n c l)
    (hc : 70 < n ∨ n ≤ 70 ∧ Lem.valid l = false ∨ n ≤ 70 ∧ Lem.valid l = true ∧ Lem.iV b1 b2 = false ∨ n ≤ 70 ∧ Lem.valid l = true ∧ Lem.iV b1 b2 = true ∧ Lem.iV c1 c2 = false) :
    Calls Try.prog 8 #[.slice A n c, I2 b1 b2, I2 c1 c2, .int .u8 h] w (LawPost w) := by
  have hb := two_box w (oI b1 b2) (oI c1 c2)
  have kb := Lib.hid (new0 w (oI b1 b2) (oI c1 c2))
  have kc := Lib.hid (new1 w (oI b1 b2) (oI c1 c2))
  have HL := Lib.hid hl
  have hcap := hl.cap
  have hnc := hl.nc
  clear hl
  rcases hc with q | ⟨q, v⟩ | ⟨q, v, i⟩ | ⟨q, v, i, j⟩
  · go_enter Try.func8, Try.ntmps8
    go_wp2_with fail
    refine (head_any _).mono ?_
    rintro e wN ⟨rfl, hn⟩
    have hb := (by first | exact Below.go hb hn | exact Below.goA hb hn | exact Below.goAA hb hn | exact Below.goD hb hn | exact Below.goAD hb hn : Below w.heap.size w wN)
    have kb := Lib.hid (by first | exact keep' kb.out hn | exact keepA kb.out hn | exact keepAA kb.out hn | exact keepD kb.out hn | exact keepAD kb.out hn)
    have kc := Lib.hid (by first | exact keep' kc.out hn | exact keepA kc.out hn | exact keepAA kc.out hn | exact keepD kc.out hn | exact keepAD kc.out hn)
    clear hn
    obtain ⟨⟨kb0, kb1⟩, -⟩ := blk2 kb.out
    have kbz := lt_of_heap kb.out
    obtain ⟨⟨kc0, kc1⟩, -⟩ := blk2 kc.out
    have kcz := lt_of_heap kc.out
    go_wp2
    go_ret
    exact ⟨rfl, hb⟩
  · go_enter Try.func8, Try.ntmps8
    go_wp2_with fail
    refine (head_any _).mono ?_
    rintro e wN ⟨rfl, hn⟩
    have hb := (by first | exact Below.go hb hn | exact Below.goA hb hn | exact Below.goAA hb hn | exact Below.goD hb hn | exact Below.goAD hb hn : Below w.heap.size w wN)
    have kb := Lib.hid (by first | exact keep' kb.out hn | exact keepA kb.out hn | exact keepAA kb.out hn | exact keepD kb.out hn | exact keepAD kb.out hn)
    have kc := Lib.hid (by first | exact keep' kc.out hn | exact keepA kc.out hn | exact keepAA kc.out hn | exact keepD kc.out hn | exact keepAD kc.out hn)
    clear hn
    obtain ⟨⟨kb0, kb1⟩, -⟩ := blk2 kb.out
    have kbz := lt_of_heap kb.out
    obtain ⟨⟨kc0, kc1⟩, -⟩ := blk2 kc.out
    have kcz := lt_of_heap kc.out
    go_wp2_with fail
    refine (rValid_any A n c l _ (HL.out.below hb).ls q).mono ?_
    rintro e wN ⟨rfl, hn⟩
    have hb := (by first | exact Below.go hb hn | exact Below.goA hb hn | exact Below.goAA hb hn | exact Below.goD hb hn | exact Below.goAD hb hn : Below w.heap.size w wN)
    have kb := Lib.hid (by first | exact keep' kb.out hn | exact keepA kb.out hn | exact keepAA kb.out hn | exact keepD kb.out hn | exact keepAD kb.out hn)
    have kc := Lib.hid (by first | exact keep' kc.out hn | exact keepA kc.out hn | exact keepAA kc.out hn | exact keepD kc.out hn | exact keepAD kc.out hn)
    clear hn
    obtain ⟨⟨kb0, kb1⟩, -⟩ := blk2 kb.out
    have kbz := lt_of_heap kb.out
    obtain ⟨⟨kc0, kc1⟩, -⟩ := blk2 kc.out
    have kcz := lt_of_heap kc.out
    go_wp2
    go_ret
    exact ⟨rfl, hb⟩
  · go_enter Try.func8, Try.ntmps8
    go_wp2_with fail
    refine (head_any _).mono ?_
    rintro e wN ⟨rfl, hn⟩
    have hb := (by first | exact Below.go hb hn | exact Below.goA hb hn | exact Below.goAA hb hn | exact Below.goD hb hn | exact Below.goAD hb hn : Below w.heap.size w wN)
    have kb := Lib.hid (by first | exact keep' kb.out hn | exact keepA kb.out hn | exact keepAA kb.out hn | exact keepD kb.out hn | exact keepAD kb.out hn)
    have kc := Lib.hid (by first | exact keep' kc.out hn | exact keepA kc.out hn | exact keepAA kc.out hn | exact keepD kc.out hn | exact keepAD kc.out hn)
    clear hn
    obtain ⟨⟨kb0, kb1⟩, -⟩ := blk2 kb.out
    have kbz := lt_of_heap kb.out
    obtain ⟨⟨kc0, kc1⟩, -⟩ := blk2 kc.out
    have kcz := lt_of_heap kc.out
    go_wp2_with fail
    refine (rValid_any A n c l _ (HL.out.below hb).ls q).mono ?_
    rintro e wN ⟨rfl, hn⟩
    have hb := (by first | exact Below.go hb hn | exact Below.goA hb hn | exact Below.goAA hb hn | exact Below.goD hb hn | exact Below.goAD hb hn : Below w.heap.size w wN)
    have kb := Lib.hid (by first | exact keep' kb.out hn | exact keepA kb.out hn | exact keepAA kb.out hn | exact keepD kb.out hn | exact keepAD kb.out hn)
    have kc := Lib.hid (by first | exact keep' kc.out hn | exact keepA kc.out hn | exact keepAA kc.out hn | exact keepD kc.out hn | exact keepAD kc.out hn)
    clear hn
    obtain ⟨⟨kb0, kb1⟩, -⟩ := blk2 kb.out
    have kbz := lt_of_heap kb.out
    obtain ⟨⟨kc0, kc1⟩, -⟩ := blk2 kc.out
    have kcz := lt_of_heap kc.out
    go_wp2_with fail
    refine (rIV_any _ _ _).mono ?_
    rintro e wN ⟨rfl, hn⟩
    have hb := (by first | exact Below.go hb hn | exact Below.goA hb hn | exact Below.goAA hb hn | exact Below.goD hb hn | exact Below.goAD hb hn : Below w.heap.size w wN)
    have kb := Lib.hid (by first | exact keep' kb.out hn | exact keepA kb.out hn | exact keepAA kb.out hn | exact keepD kb.out hn | exact keepAD kb.out hn)
    have kc := Lib.hid (by first | exact keep' kc.out hn | exact keepA kc.out hn | exact keepAA kc.out hn | exact keepD kc.out hn | exact keepAD kc.out hn)
    clear hn
    obtain ⟨⟨kb0, kb1⟩, -⟩ := blk2 kb.out
    have kbz := lt_of_heap kb.out
    obtain ⟨⟨kc0, kc1⟩, -⟩ := blk2 kc.out
    have kcz := lt_of_heap kc.out
    go_wp2
    go_ret
    exact ⟨rfl, hb⟩
  · go_enter Try.func8, Try.ntmps8
    go_wp2_with fail
    refine (head_any _).mono ?_
    rintro e wN ⟨rfl, hn⟩
    have hb := (by first | exact Below.go hb hn | exact Below.goA hb hn | exact Below.goAA hb hn | exact Below.goD hb hn | exact Below.goAD hb hn : Below w.heap.size w wN)
    have kb := Lib.hid (by first | exact keep' kb.out hn | exact keepA kb.out hn | exact keepAA kb.out hn | exact keepD kb.out hn | exact keepAD kb.out hn)
    have kc := Lib.hid (by first | exact keep' kc.out hn | exact keepA kc.out hn | exact keepAA kc.out hn | exact keepD kc.out hn | exact keepAD kc.out hn)
    clear hn
    obtain ⟨⟨kb0, kb1⟩, -⟩ := blk2 kb.out
    have kbz := lt_of_heap kb.out
    obtain ⟨⟨kc0, kc1⟩, -⟩ := blk2 kc.out
    have kcz := lt_of_heap kc.out
    go_wp2_with fail
    refine (rValid_any A n c l _ (HL.out.below hb).ls q).mono ?_
    rintro e wN ⟨rfl, hn⟩
    have hb := (by first | exact Below.go hb hn | exact Below.goA hb hn | exact Below.goAA hb hn | exact Below.goD hb hn | exact Below.goAD hb hn : Below w.heap.size w wN)
    have kb := Lib.hid (by first | exact keep' kb.out hn | exact keepA kb.out hn | exact keepAA kb.out hn | exact keepD kb.out hn | exact keepAD kb.out hn)
    have kc := Lib.hid (by first | exact keep' kc.out hn | exact keepA kc.out hn | exact keepAA kc.out hn | exact keepD kc.out hn | exact keepAD kc.out hn)
    clear hn
    obtain ⟨⟨kb0, kb1⟩, -⟩ := blk2 kb.out
    have kbz := lt_of_heap kb.out
    obtain ⟨⟨kc0, kc1⟩, -⟩ := blk2 kc.out
    have kcz := lt_of_heap kc.out
    go_wp2_with fail
    refine (rIV_any _ _ _).mono ?_
    rintro e wN ⟨rfl, hn⟩
    have hb := (by first | exact Below.go hb hn | exact Below.goA hb hn | exact Below.goAA hb hn | exact Below.goD hb hn | exact Below.goAD hb hn : Below w.heap.size w wN)
    have kb := Lib.hid (by first | exact keep' kb.out hn | exact keepA kb.out hn | exact keepAA kb.out hn | exact keepD kb.out hn | exact keepAD kb.out hn)
    have kc := Lib.hid (by first | exact keep' kc.out hn | exact keepA kc.out hn | exact keepAA kc.out hn | exact keepD kc.out hn | exact keepAD kc.out hn)
    clear hn
    obtain ⟨⟨kb0, kb1⟩, -⟩ := blk2 kb.out
    have kbz := lt_of_heap kb.out
    obtain ⟨⟨kc0, kc1⟩, -⟩ := blk2 kc.out
    have kcz := lt_of_heap kc.out
    go_wp2_with fail
    refine (rIV_any _ _ _).mono ?_
    rintro e wN ⟨rfl, hn⟩
    have hb := (by first | exact Below.go hb hn | exact Below.goA hb hn | exact Below.goAA hb hn | exact Below.goD hb hn | exact Below.goAD hb hn : Below w.heap.size w wN)
    have kb := Lib.hid (by first | exact keep' kb.out hn | exact keepA kb.out hn | exact keepAA kb.out hn | exact keepD kb.out hn | exact keepAD kb.out hn)
    have kc := Lib.hid (by first | exact keep' kc.out hn | exact keepA kc.out hn | exact keepAA kc.out hn | exact keepD kc.out hn | exact keepAD kc.out hn)
    clear hn
    obtain ⟨⟨kb0, kb1⟩, -⟩ := blk2 kb.out
    have kbz := lt_of_heap kb.out
    obtain ⟨⟨kc0, kc1⟩, -⟩ := blk2 kc.out
    have kcz := lt_of_heap kc.out
    go_wp2
    go_ret
    exact ⟨rfl, hb⟩
set_option maxHeartbeats 2000000 in
set_option maxRecDepth 100000 in
theorem free_main (A : Option Addr) (n c : Nat) (l : List Lem.T3) (b1 b2 c1 c2 h W : Int) (w : World) (hl : Lin w A n c l) (q : n ≤ 70) (v : Lem.valid l = true) (i : Lem.iV b1 b2 = true) (j : Lem.iV c1 c2 = true) (h0 : 0 ≤ h) (h1 : h < 256) (hW : h % 64 = W)
    (e1 : Lem.drE l b1 b2 = 0) (e2 : Lem.seE l (1 + W) c1 c2 = 0) (hf : Hid (Lem.frV l b1 b2 = decide ((Lem.drL l b1 b2).length = 0)))
    (hx : (!Lem.frV l b1 b2) = true ∨ (!Lem.frV l b1 b2) = false ∧ decide (c2 < b1) = true ∨ (!Lem.frV l b1 b2) = false ∧ decide (c2 < b1) = false ∧ (!Lem.seV l (1 + W) c1 c2) = true) :
    Calls Try.prog 8 #[.slice A n c, I2 b1 b2, I2 c1 c2, .int .u8 h] w (LawPost w) := by
  have hb := two_box w (oI b1 b2) (oI c1 c2)
  have kb := Lib.hid (new0 w (oI b1 b2) (oI c1 c2))
  have kc := Lib.hid (new1 w (oI b1 b2) (oI c1 c2))
  have HL := Lib.hid hl
  have hcap := hl.cap
  have hnc := hl.nc
  clear hl
  have W0 : 0 ≤ W := by omega
  have W1 : W < 64 := by omega
  go_enter Try.func8, Try.ntmps8
  go_wp2_with fail
  refine (head_any _).mono ?_
  rintro e wN ⟨rfl, hn⟩
  have hb := (by first | exact Below.go hb hn | exact Below.goA hb hn | exact Below.goAA hb hn | exact Below.goD hb hn | exact Below.goAD hb hn : Below w.heap.size w wN)
  have kb := Lib.hid (by first | exact keep' kb.out hn | exact keepA kb.out hn | exact keepAA kb.out hn | exact keepD kb.out hn | exact keepAD kb.out hn)
  have kc := Lib.hid (by first | exact keep' kc.out hn | exact keepA kc.out hn | exact keepAA kc.out hn | exact keepD kc.out hn | exact keepAD kc.out hn)
  clear hn
  obtain ⟨⟨kb0, kb1⟩, -⟩ := blk2 kb.out
  have kbz := lt_of_heap kb.out
  obtain ⟨⟨kc0, kc1⟩, -⟩ := blk2 kc.out
  have kcz := lt_of_heap kc.out
  go_wp2_with fail
  refine (rValid_any A n c l _ (HL.out.below hb).ls q).mono ?_
  rintro e wN ⟨rfl, hn⟩
  have hb := (by first | exact Below.go hb hn | exact Below.goA hb hn | exact Below.goAA hb hn | exact Below.goD hb hn | exact Below.goAD hb hn : Below w.heap.size w wN)
  have kb := Lib.hid (by first | exact keep' kb.out hn | exact keepA kb.out hn | exact keepAA kb.out hn | exact keepD kb.out hn | exact keepAD kb.out hn)
  have kc := Lib.hid (by first | exact keep' kc.out hn | exact keepA kc.out hn | exact keepAA kc.out hn | exact keepD kc.out hn | exact keepAD kc.out hn)
  clear hn
  obtain ⟨⟨kb0, kb1⟩, -⟩ := blk2 kb.out
  have kbz := lt_of_heap kb.out
  obtain ⟨⟨kc0, kc1⟩, -⟩ := blk2 kc.out
  have kcz := lt_of_heap kc.out
  go_wp2_with fail
  refine (rIV_any _ _ _).mono ?_
  rintro e wN ⟨rfl, hn⟩
  have hb := (by first | exact Below.go hb hn | exact Below.goA hb hn | exact Below.goAA hb hn | exact Below.goD hb hn | exact Below.goAD hb hn : Below w.heap.size w wN)
  have kb := Lib.hid (by first | exact keep' kb.out hn | exact keepA kb.out hn | exact keepAA kb.out hn | exact keepD kb.out hn | exact keepAD kb.out hn)
  have kc := Lib.hid (by first | exact keep' kc.out hn | exact keepA kc.out hn | exact keepAA kc.out hn | exact keepD kc.out hn | exact keepAD kc.out hn)
  clear hn
  obtain ⟨⟨kb0, kb1⟩, -⟩ := blk2 kb.out
  have kbz := lt_of_heap kb.out
  obtain ⟨⟨kc0, kc1⟩, -⟩ := blk2 kc.out
  have kcz := lt_of_heap kc.out
  go_wp2_with fail
  refine (rIV_any _ _ _).mono ?_
  rintro e wN ⟨rfl, hn⟩
  have hb := (by first | exact Below.go hb hn | exact Below.goA hb hn | exact Below.goAA hb hn | exact Below.goD hb hn | exact Below.goAD hb hn : Below w.heap.size w wN)
  have kb := Lib.hid (by first | exact keep' kb.out hn | exact keepA kb.out hn | exact keepAA kb.out hn | exact keepD kb.out hn | exact keepAD kb.out hn)
  have kc := Lib.hid (by first | exact keep' kc.out hn | exact keepA kc.out hn | exact keepAA kc.out hn | exact keepD kc.out hn | exact keepAD kc.out hn)
  clear hn
  obtain ⟨⟨kb0, kb1⟩, -⟩ := blk2 kb.out
  have kbz := lt_of_heap kb.out
  obtain ⟨⟨kc0, kc1⟩, -⟩ := blk2 kc.out
  have kcz := lt_of_heap kc.out
  go_wp2_with fail
  refine (Free_any A n c l _ _ _ (HL.out.below hb) q).mono ?_
  rintro e wN ⟨rfl, hn⟩
  have hb := (by first | exact Below.go hb hn | exact Below.goA hb hn | exact Below.goAA hb hn | exact Below.goD hb hn | exact Below.goAD hb hn : Below w.heap.size w wN)
  have kb := Lib.hid (by first | exact keep' kb.out hn | exact keepA kb.out hn | exact keepAA kb.out hn | exact keepD kb.out hn | exact keepAD kb.out hn)
  have kc := Lib.hid (by first | exact keep' kc.out hn | exact keepA kc.out hn | exact keepAA kc.out hn | exact keepD kc.out hn | exact keepAD kc.out hn)
  clear hn
  obtain ⟨⟨kb0, kb1⟩, -⟩ := blk2 kb.out
  have kbz := lt_of_heap kb.out
  obtain ⟨⟨kc0, kc1⟩, -⟩ := blk2 kc.out
  have kcz := lt_of_heap kc.out
  go_wp2_with fail
  refine (Drop_any A n c l _ _ _ (HL.out.below hb) q).mono ?_
  rintro e wN ⟨vN, rfl, hown, hn⟩
  have hb := (by first | exact Below.go hb hn | exact Below.goA hb hn | exact Below.goAA hb hn | exact Below.goD hb hn | exact Below.goAD hb hn : Below w.heap.size w wN)
  have kb := Lib.hid (by first | exact keep' kb.out hn | exact keepA kb.out hn | exact keepAA kb.out hn | exact keepD kb.out hn | exact keepAD kb.out hn)
  have kc := Lib.hid (by first | exact keep' kc.out hn | exact keepA kc.out hn | exact keepAA kc.out hn | exact keepD kc.out hn | exact keepAD kc.out hn)
  clear hn
  obtain ⟨⟨kb0, kb1⟩, -⟩ := blk2 kb.out
  have kbz := lt_of_heap kb.out
  obtain ⟨⟨kc0, kc1⟩, -⟩ := blk2 kc.out
  have kcz := lt_of_heap kc.out
  obtain ⟨A', n', c', rfl, hn', -⟩ := hown.lin
  have hq : ((n' : Int) == 0) = Lem.frV l b1 b2 := by rw [hf.out, ← hn', Bool.eq_iff_iff]; simp
  clear hn' hown
  go_wp2_with fail
  refine (Serves_any A n c l _ _ _ _ (HL.out.below hb) q).mono ?_
  rintro e wN ⟨rfl, hn⟩
  have hb := (by first | exact Below.go hb hn | exact Below.goA hb hn | exact Below.goAA hb hn | exact Below.goD hb hn | exact Below.goAD hb hn : Below w.heap.size w wN)
  have kb := Lib.hid (by first | exact keep' kb.out hn | exact keepA kb.out hn | exact keepAA kb.out hn | exact keepD kb.out hn | exact keepAD kb.out hn)
  have kc := Lib.hid (by first | exact keep' kc.out hn | exact keepA kc.out hn | exact keepAA kc.out hn | exact keepD kc.out hn | exact keepAD kc.out hn)
  clear hn
  obtain ⟨⟨kb0, kb1⟩, -⟩ := blk2 kb.out
  have kbz := lt_of_heap kb.out
  obtain ⟨⟨kc0, kc1⟩, -⟩ := blk2 kc.out
  have kcz := lt_of_heap kc.out
  generalize Lem.frV l b1 b2 = F at *
  generalize Lem.seV l (1 + W) c1 c2 = X at *
  rcases hx with x1 | ⟨x1, x2⟩ | ⟨x1, x2, x3⟩
  · obtain rfl : F = false := by simpa using x1
    clear x1
    go_wp2
    go_ret
    exact ⟨rfl, hb⟩
  · obtain rfl : F = true := by simpa using x1
    clear x1
    go_wp2
    go_ret
    exact ⟨rfl, hb⟩
  · obtain rfl : F = true := by simpa using x1
    obtain rfl : X = false := by simpa using x3
    clear x1 x3
    go_wp2
    go_ret
    exact ⟨rfl, hb⟩
theorem over_no {l : List Lem.T3} {h lo hi b : Int} (hd : (l.filter (Lem.stays b)).length = 0) (hc : b ≤ hi) : l.any (Lem.lets h lo hi) = false := by
  rw [List.any_eq_false]
  intro x hx
  have hnil := List.eq_nil_of_length_eq_zero hd
  rw [List.filter_eq_nil_iff] at hnil
  have := hnil x hx
  simp only [Lem.stays, Lem.over, Bool.not_eq_true', decide_eq_false_iff_not, Classical.not_not] at this
  simp only [Lem.lets, decide_eq_true_eq]
  omega
theorem free_law (v : Value) (l : List Lem.T3) (u : Value) (b : Int × Int) (u' : Value) (cc : Int × Int) (h : Int) (w : World) (hv : IsLeases w v l) (hu : IsI2 u b) (hu' : IsI2 u' cc) (h1 : (Lit.int .u8 h).wf = true) :
    Calls Try.prog 8 #[v, u, u', .int .u8 h] w (LawPost w) := by
  obtain ⟨A, n, c, rfl, hl⟩ := hv
  obtain ⟨b1, b2⟩ := b
  obtain ⟨c1, c2⟩ := cc
  obtain ⟨rfl, -, -⟩ := hu
  obtain ⟨rfl, -, -⟩ := hu'
  have hh := bounds_u8 h1
  show Calls Try.prog 8 #[.slice A n c, I2 b1 b2, I2 c1 c2, .int .u8 h] w (LawPost w)
  by_cases q : n ≤ 70
  rotate_left
  · exact free_bad A n c l b1 b2 c1 c2 h w hl (.inl (by omega))
  cases hva : Lem.valid l
  · exact free_bad A n c l b1 b2 c1 c2 h w hl (.inr (.inl ⟨q, hva⟩))
  cases hi : Lem.iV b1 b2
  · exact free_bad A n c l b1 b2 c1 c2 h w hl (.inr (.inr (.inl ⟨q, hva, hi⟩)))
  cases hj : Lem.iV c1 c2
  · exact free_bad A n c l b1 b2 c1 c2 h w hl (.inr (.inr (.inr ⟨q, hva, hi, hj⟩)))
  obtain ⟨W, hW⟩ : ∃ d, h % 64 = d := ⟨_, rfl⟩
  have hB : Lem.drB l b1 b2 = true := by unfold Lem.drB; rw [hva, hi]; rfl
  have hS : Lem.seB l (1 + W) c1 c2 = true := by unfold Lem.seB; rw [hva, hj, Lem.hB_yes ⟨by omega, by omega⟩]; rfl
  have hL : Lem.drL l b1 b2 = l.filter (Lem.stays b1) := by unfold Lem.drL; rw [hB]; rfl
  have hF : Lem.frV l b1 b2 = decide ((Lem.drL l b1 b2).length = 0) := by unfold Lem.frV; rw [hB]; rfl
  refine free_main A n c l b1 b2 c1 c2 h W w hl q hva hi hj (by omega) (by omega) hW (by unfold Lem.drE; rw [hB]; rfl) (by unfold Lem.seE; rw [hS]; rfl) (Lib.hid hF) (or3 ?_)
  intro x1 x2
  have x1' : Lem.frV l b1 b2 = true := by simpa using x1
  rw [hF, hL] at x1'
  have hz := of_decide_eq_true x1'
  have hc := of_decide_eq_false x2
  unfold Lem.seV
  rw [hS, over_no hz (by omega)]; rfl
end Go.Proofs.Ytfaceopjblpkeaa
