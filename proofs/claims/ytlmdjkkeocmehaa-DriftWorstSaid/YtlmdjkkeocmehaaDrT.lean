/- Tables and segments that came in, opened; the walk of the law DriftMatchesReference. -/
import Derived.Test.YtlmdjkkeocmehaaDrS
import Derived.ProofKit
import Derived.OpenShut
import Derived.Deep.Slices
import Derived.Lib.SmallJoins
import Derived.ChangeSame
set_option linter.unusedVariables false
namespace Go.Proofs.Ytlmdjkkeocmehaa
open Go.RowKit Go.ChangeShapes Go.WideShapes Go.Deep
theorem cellsInt : Try.prog.cellsOf 3 = 1 := by kernel_rfl
theorem cellsRow : Try.prog.cellsOf 22 = 1 := by kernel_rfl
theorem cellsRg : Try.prog.cellsOf 27 = 2 := by kernel_rfl
theorem cellsSg : Try.prog.cellsOf 45 = 5 := by kernel_rfl
theorem cellsTab : Try.prog.cellsOf 25 = 3 := by kernel_rfl
theorem ad_eq (b off k : Nat) : (⟨b, off, none⟩ : Addr).add k = ⟨b, off + k, none⟩ := by unfold Addr.add; split <;> simp_all
section
variable {H : Type} {enc : TypeId × Value → H} {W : World} {base b0 : Nat} {r : Reach} {sp : Nat → Bool} {hd : Bool}
theorem ints_of {fuel : Nat} {cs : List Value} {x : DataW H × List MemPlace} (h : DataW.trod enc Try.prog W base sp hd fuel 22 cs = some x) : ∃ (A : Option Addr) (n c : Nat) (l : List Int), cs = [.slice A n c] ∧ Li W.heap.size W A n l ∧ n ≤ c ∧ c ≤ 9223372036854775807 := by
  rcases open_slice1 Try.underlying22 cellsInt h with ⟨rfl, _⟩ | ⟨a, n, c, m, k, V, D, Pl, rfl, _, hl, hm, hmm, _, hc⟩
  · exact ⟨none, 0, 0, [], rfl, ⟨rfl, fun h => absurd h (by omega)⟩, by omega, by omega⟩
  · have hnm : n ≤ m := by rw [hmm]; split <;> omega
    have hex : ∀ i, i < n → ∃ z : Int, W.cell? (a.add i) = some (.int .i64 z) := fun i hi => by
      obtain ⟨h1, h2⟩ := hc i (by omega)
      obtain ⟨z, e, _, _⟩ := DataW.trod_int Try.underlying3 h2
      simp at e
      exact ⟨z, by rw [h1, e]⟩
    obtain ⟨f, hf⟩ : ∃ f : Nat → Int, ∀ i, i < n → W.cell? (a.add i) = some (.int .i64 (f i)) := ⟨fun i => if hi : i < n then Classical.choose (hex i hi) else 0, fun i hi => by simp only [dif_pos hi]; exact Classical.choose_spec (hex i hi)⟩
    refine ⟨some a, n, c, (List.range n).map f, rfl, ⟨by simp, fun hn => ?_⟩, hl, by unfold maxLen at hm; omega⟩
    have h0 := hf 0 hn
    obtain ⟨b, off, sp⟩ := a
    have hsp : sp = none := by simpa [Addr.add] using World.cell?_spot h0
    subst hsp
    refine ⟨b, off, rfl, by simpa [Addr.add] using World.block_lt_of_cell? W _ h0, fun j hj => ?_⟩
    have e : Tab.ai ((List.range n).map f) j = f j := by unfold Tab.ai; simp [hj]
    rw [e, ← ad_eq]; exact hf j hj
theorem rows_of {fuel : Nat} {cs : List Value} {x : DataW H × List MemPlace} (h : DataW.trod enc Try.prog W base sp hd fuel 23 cs = some x) : ∃ (A : Option Addr) (n c : Nat) (l : List (List Int)), cs = [.slice A n c] ∧ Lr W.heap.size W A n l ∧ n ≤ c ∧ c ≤ 9223372036854775807 := by
  rcases open_slice1 Try.underlying23 cellsRow h with ⟨rfl, _⟩ | ⟨a, n, c, m, k, V, D, Pl, rfl, _, hl, hm, hmm, _, hc⟩
  · exact ⟨none, 0, 0, [], rfl, ⟨rfl, fun h => absurd h (by omega)⟩, by omega, by omega⟩
  · have hnm : n ≤ m := by rw [hmm]; split <;> omega
    have hex : ∀ i, i < n → ∃ l : List Int, ∃ (A' : Option Addr) (m c : Nat), W.cell? (a.add i) = some (.slice A' m c) ∧ Li W.heap.size W A' m l ∧ m ≤ c ∧ c ≤ 9223372036854775807 := fun i hi => by
      obtain ⟨h1, h2⟩ := hc i (by omega)
      obtain ⟨A', m', c', l', e, h3⟩ := ints_of h2
      simp at e
      exact ⟨l', A', m', c', by rw [h1, e], h3⟩
    obtain ⟨f, hf⟩ : ∃ f : Nat → List Int, ∀ i, i < n → ∃ (A' : Option Addr) (m c : Nat), W.cell? (a.add i) = some (.slice A' m c) ∧ Li W.heap.size W A' m (f i) ∧ m ≤ c ∧ c ≤ 9223372036854775807 := ⟨fun i => if hi : i < n then Classical.choose (hex i hi) else [], fun i hi => by simp only [dif_pos hi]; exact Classical.choose_spec (hex i hi)⟩
    refine ⟨some a, n, c, (List.range n).map f, rfl, ⟨by simp, fun hn => ?_⟩, hl, by unfold maxLen at hm; omega⟩
    obtain ⟨A0, m0, c0, h0, -⟩ := hf 0 hn
    obtain ⟨b, off, sp⟩ := a
    have hsp : sp = none := by simpa [Addr.add] using World.cell?_spot h0
    subst hsp
    refine ⟨b, off, rfl, by simpa [Addr.add] using World.block_lt_of_cell? W _ h0, fun j hj => ?_⟩
    have e : Tab.row ((List.range n).map f) j = f j := by unfold Tab.row; simp [hj]
    rw [e, ← ad_eq]; exact hf j hj
/-- what the walk is told of a table, of a range, of segments that came in -/
def IsTb (W : World) (v : Value) (x : TabV × Tab.Tb) : Prop := v = T3 x.1 ∧ TabIn W x.1 x.2
def IsRg (v : Value) (x : Int × Int) : Prop := v = I2 x.1 x.2
def IsSg (W : World) (v : Value) (l : List Tab.Sg) : Prop := ∃ A n c, v = .slice A n c ∧ n ≤ c ∧ c ≤ 9223372036854775807 ∧ Lg W.heap.size W A n l
theorem open_tb {v : Value} {d : DataW H} {p : List MemPlace} (hv : Value.okWide Try.prog W r b0 25 v) (h : DataW.Trod enc Try.prog W base sp hd 25 v d p) : ∃ x, IsTb W v x := by
  obtain ⟨c0, c1, c2, y0, y1, y2, m, rfl, rfl, rfl, h0, h1, h2⟩ := Go.Joins.open_agg3 Try.underlying25 (by kernel_rfl) cellsTab hv h
  obtain ⟨A1, n1, k1, l1, e1, g1, m1, k1'⟩ := ints_of h0
  obtain ⟨A2, n2, k2, l2, e2, g2, m2, k2'⟩ := ints_of h1
  obtain ⟨A3, n3, k3, l3, e3, g3, m3, k3'⟩ := rows_of h2
  simp at e1 e2 e3
  subst e1 e2 e3
  exact ⟨(⟨A1, n1, k1, A2, n2, k2, A3, n3, k3⟩, ⟨l1, l2, l3⟩), rfl, g1, g2, g3, Nat.le_trans m1 k1', Nat.le_trans m2 k2', Nat.le_trans m3 k3', m3, k3'⟩
theorem open_rg {v : Value} {d : DataW H} {p : List MemPlace} (hv : Value.okWide Try.prog W r b0 27 v) (h : DataW.Trod enc Try.prog W base sp hd 27 v d p) : ∃ x, IsRg v x := by
  obtain ⟨c0, c1, y0, y1, m, rfl, rfl, rfl, h0, h1⟩ := Go.Joins.open_agg2 Try.underlying27 (by kernel_rfl) cellsRg hv h
  obtain ⟨a, e0, _, _⟩ := DataW.trod_int Try.underlying3 h0
  obtain ⟨b, e1, _, _⟩ := DataW.trod_int Try.underlying3 h1
  simp at e0 e1
  subst e0 e1
  exact ⟨(a, b), rfl⟩
theorem open_sg {v : Value} {d : DataW H} {p : List MemPlace} (hv : Value.okWide Try.prog W r b0 28 v) (h : DataW.Trod enc Try.prog W base sp hd 28 v d p) : ∃ l, IsSg W v l := by
  obtain ⟨A, n, c, rfl⟩ := okWide_slice Try.underlying28 hv
  obtain ⟨fuel, hf⟩ := h
  rcases open_slice Try.underlying28 hf with ⟨hcs, _⟩ | ⟨a, len, cap, m, f', D, Pl, hcs, _, hl, hm, hmm, _, hc⟩
  · simp [Value.cells] at hcs
    obtain ⟨rfl, rfl, rfl⟩ := hcs
    exact ⟨[], none, 0, 0, rfl, by omega, by omega, rfl, fun h => absurd h (by omega)⟩
  · simp [Value.cells] at hcs
    obtain ⟨rfl, rfl, rfl⟩ := hcs
    have hnm : n ≤ m := by rw [hmm]; split <;> omega
    have hex : ∀ i, i < n → ∃ s : Tab.Sg, W.cell? (a.add (i * 5)) = some (.int .i64 s.n) ∧ W.cell? (a.add (i * 5 + 1)) = some (.int .i64 s.x1) ∧ W.cell? (a.add (i * 5 + 2)) = some (.int .i64 s.x2) ∧ W.cell? (a.add (i * 5 + 3)) = some (.int .i64 s.y1) ∧ W.cell? (a.add (i * 5 + 4)) = some (.int .i64 s.y2) := fun i hi => by
      obtain ⟨cs', hcc, ht'⟩ := hc i (by omega)
      rw [cellsSg] at hcc
      obtain ⟨_, hcl, hat⟩ := World.cells?_some hcc
      obtain ⟨y0, y1, y2, m', _, _, h0, h1, h2⟩ := trod_struct3 Try.underlying45 ht'
      simp only [cellsInt, cellsRg, List.drop_zero] at h0 h1 h2
      obtain ⟨z0, z1, m0, _, _, g0, g1⟩ := trod_struct2 Try.underlying27 h1
      obtain ⟨u0, u1, m1, _, _, k0, k1⟩ := trod_struct2 Try.underlying27 h2
      simp only [cellsInt, List.drop_zero] at g0 g1 k0 k1
      match cs', hcl with
      | [c0, c1, c2, c3, c4], _ =>
        obtain ⟨n0, e0, _, _⟩ := DataW.trod_int Try.underlying3 h0
        obtain ⟨n1, e1, _, _⟩ := DataW.trod_int Try.underlying3 g0
        obtain ⟨n2, e2, _, _⟩ := DataW.trod_int Try.underlying3 g1
        obtain ⟨n3, e3, _, _⟩ := DataW.trod_int Try.underlying3 k0
        obtain ⟨n4, e4, _, _⟩ := DataW.trod_int Try.underlying3 k1
        simp at e0 e1 e2 e3 e4
        subst e0 e1 e2 e3 e4
        have q := fun j (hj : j < 5) => hat j hj
        refine ⟨⟨n0, n1, n2, n3, n4⟩, ?_, ?_, ?_, ?_, ?_⟩
        · have := q 0 (by omega); simpa [Go.Deep.add_add] using this
        · have := q 1 (by omega); rw [Go.Deep.add_add] at this; simpa using this
        · have := q 2 (by omega); rw [Go.Deep.add_add] at this; simpa using this
        · have := q 3 (by omega); rw [Go.Deep.add_add] at this; simpa using this
        · have := q 4 (by omega); rw [Go.Deep.add_add] at this; simpa using this
    obtain ⟨f, hfc⟩ : ∃ f : Nat → Tab.Sg, ∀ i, i < n → W.cell? (a.add (i * 5)) = some (.int .i64 (f i).n) ∧ W.cell? (a.add (i * 5 + 1)) = some (.int .i64 (f i).x1) ∧ W.cell? (a.add (i * 5 + 2)) = some (.int .i64 (f i).x2) ∧ W.cell? (a.add (i * 5 + 3)) = some (.int .i64 (f i).y1) ∧ W.cell? (a.add (i * 5 + 4)) = some (.int .i64 (f i).y2) :=
      ⟨fun i => if hi : i < n then Classical.choose (hex i hi) else Tab.s0, fun i hi => by simp only [dif_pos hi]; exact Classical.choose_spec (hex i hi)⟩
    refine ⟨(List.range n).map f, some a, n, c, rfl, hl, by unfold maxLen at hm; omega, by simp, fun hn => ?_⟩
    have h0 := (hfc 0 hn).1
    obtain ⟨b, off, sp⟩ := a
    have hsp : sp = none := by simpa [Addr.add] using World.cell?_spot h0
    subst hsp
    refine ⟨b, off, rfl, by simpa [Addr.add] using World.block_lt_of_cell? W _ h0, fun j hj => ?_⟩
    have e : Tab.sAt ((List.range n).map f) j = f j := by unfold Tab.sAt; simp [hj]
    have := hfc j hj
    rw [e]
    simp only [ad_eq] at this
    simpa only [Nat.add_assoc] using this
end
def FewPost (w : World) (e : Ending) (w' : World) : Prop := ∃ b : Bool, e = .returned (.bool b) ∧ Below w.heap.size w w'
set_option maxHeartbeats 2000000 in
set_option maxRecDepth 100000 in
theorem few_any (v : TabV) (t : Tab.Tb) (w : World) (ht : TabIn w v t) : Calls Try.prog 10 #[T3 v] w (FewPost w) := by
  have hb0 : Below w.heap.size w (w.alloc (oT v)) := (Below.refl _ _).alloc (Nat.le_refl _) _
  have HT := Lib.hid (ht.alloc (oT v))
  have m3 := ht.m3
  clear ht
  obtain ⟨A1, n1, c1, A2, n2, c2, A3, n3, c3⟩ := v
  dsimp only [T3, s1, s2, s3, oT] at *
  go_enter Try.func10, Try.ntmps10
  go_wp2
  go_loopg [3, 20] n3 (fun g s3 s20 wr => ∃ (k : Nat) (s : Int), k + g = n3 ∧ s20 = .int .i64 k ∧ s3 = .int .i64 s ∧ Below (w.alloc (oT ⟨A1, n1, c1, A2, n2, c2, A3, n3, c3⟩)).heap.size (w.alloc (oT ⟨A1, n1, c1, A2, n2, c2, A3, n3, c3⟩)) wr)
  case atStart => exact ⟨0, _, by omega, rfl, rfl, Below.refl _ _⟩
  case round =>
    obtain ⟨k, s, hkg, rfl, rfl, hbr⟩ := hrel
    have hb := Below.go hb0 hbr
    cases gk with
    | zero =>
      obtain rfl : k = n3 := by omega
      have q : decide ((k : Int) < (k : Int)) = false := decide_eq_false (by omega)
      go_wp2
      go_ret
      exact ⟨_, rfl, hb⟩
    | succ g =>
      have h3 := (HT.out.below hbr).l3
      (try simp only [] at h3)
      obtain ⟨b, off, rfl, hbB, hc⟩ := h3.2 (by omega)
      obtain ⟨A', m', c', r1, r2, r3, r4⟩ := hc k (by omega)
      clear hc r2 h3
      have j0 : (0 : Int) ≤ (k : Int) := by omega
      have j1 : (k : Int) < (n3 : Int) := by omega
      have j2 : decide ((k : Int) < (n3 : Int)) = true := decide_eq_true j1
      have j3 : decide (k < n3) = true := decide_eq_true (by omega)
      go_wp2
      go_roundg g
      case measure => omega
      case rel => exact ⟨k + 1, _, by omega, by go_num, rfl, hbr⟩
theorem rate_c' (v : TabV) (t : Tab.Tb) (x y : Int) (w : World) (ht : TabIn w v t) : Calls Try.prog 11 #[T3 v, .int .i64 x, .int .i64 y] w (RetB (.tuple #[.int .i64 (Tab.wV t x x y y), .int .i64 (Tab.wE t x x y y)]) w) := Rate_any v t x y w ht
set_option maxHeartbeats 8000000 in
set_option maxRecDepth 100000 in
theorem matches_main (v : TabV) (t : Tab.Tb) (x1 x2 y1 y2 r q : Int) (A : Option Addr) (n c : Nat) (l : List Tab.Sg) (w : World) (HT : Hid (∀ W, Below w.heap.size w W → TabIn W v t)) (HG : Hid (∀ W, Below w.heap.size w W → Lg W.heap.size W A n l)) (hn : n ≤ 70) :
    Calls Try.prog 3 #[T3 v, I2 x1 x2, I2 y1 y2, .slice A n c, .int .i64 r, .int .i64 q] w (LawPost w) := by
  have hb := below3 w (oT v) (oRg x1 x2) (oRg y1 y2)
  have kt := Lib.hid (new30 w (oT v) (oRg x1 x2) (oRg y1 y2))
  have ks := Lib.hid (new31 w (oT v) (oRg x1 x2) (oRg y1 y2))
  have kg := Lib.hid (new32 w (oT v) (oRg x1 x2) (oRg y1 y2))
  have qn : decide (70 < (n : Int)) = false := decide_eq_false (by omega)
  obtain ⟨A1, n1, c1, A2, n2, c2, A3, n3, c3⟩ := v
  dsimp only [T3, s1, s2, s3, oT] at *
  go_enter Try.func3, Try.ntmps3
  go_wp2_with fail
  refine (head_any _).mono ?_
  rintro e w1 ⟨rfl, hn⟩
  have hb := (by first | exact Below.go hb hn | exact Below.goA hb hn | exact Below.goAA hb hn | exact Below.goD hb hn | exact Below.goAD hb hn : Below w.heap.size w w1)
  have kt := Lib.hid (by first | exact keep' kt.out hn | exact keepA kt.out hn | exact keepAA kt.out hn | exact keepD kt.out hn | exact keepAD kt.out hn)
  have ks := Lib.hid (by first | exact keep' ks.out hn | exact keepA ks.out hn | exact keepAA ks.out hn | exact keepD ks.out hn | exact keepAD ks.out hn)
  have kg := Lib.hid (by first | exact keep' kg.out hn | exact keepA kg.out hn | exact keepAA kg.out hn | exact keepD kg.out hn | exact keepAD kg.out hn)
  clear hn
  obtain ⟨⟨kt0, kt1, kt2⟩, -⟩ := blk3 kt.out
  have ktz := lt_of_heap kt.out
  obtain ⟨⟨ks0, ks1⟩, -⟩ := blk2 ks.out
  have ksz := lt_of_heap ks.out
  obtain ⟨⟨kg0, kg1⟩, -⟩ := blk2 kg.out
  have kgz := lt_of_heap kg.out
  go_wp2_with fail
  refine (few_any _ t _ (HT.out _ hb)).mono ?_
  rintro e w2 ⟨f, rfl, hn2⟩
  have hb := (Below.go hb hn2 : Below w.heap.size w w2)
  have kt := Lib.hid (keep' kt.out hn2)
  have ks := Lib.hid (keep' ks.out hn2)
  have kg := Lib.hid (keep' kg.out hn2)
  clear hn2
  obtain ⟨⟨kt0, kt1, kt2⟩, -⟩ := blk3 kt.out
  obtain ⟨⟨ks0, ks1⟩, -⟩ := blk2 ks.out
  obtain ⟨⟨kg0, kg1⟩, -⟩ := blk2 kg.out
  cases f
  · go_wp2
    go_ret
    exact ⟨rfl, hb⟩
  go_wp2_with fail
  refine (Rate_any _ t _ _ _ (HT.out _ hb)).mono ?_
  rintro e w3 ⟨rfl, hn⟩
  have hb := (by first | exact Below.go hb hn | exact Below.goA hb hn | exact Below.goAA hb hn | exact Below.goD hb hn | exact Below.goAD hb hn : Below w.heap.size w w3)
  have kt := Lib.hid (by first | exact keep' kt.out hn | exact keepA kt.out hn | exact keepAA kt.out hn | exact keepD kt.out hn | exact keepAD kt.out hn)
  have ks := Lib.hid (by first | exact keep' ks.out hn | exact keepA ks.out hn | exact keepAA ks.out hn | exact keepD ks.out hn | exact keepAD ks.out hn)
  have kg := Lib.hid (by first | exact keep' kg.out hn | exact keepA kg.out hn | exact keepAA kg.out hn | exact keepD kg.out hn | exact keepAD kg.out hn)
  clear hn
  obtain ⟨⟨kt0, kt1, kt2⟩, -⟩ := blk3 kt.out
  have ktz := lt_of_heap kt.out
  obtain ⟨⟨ks0, ks1⟩, -⟩ := blk2 ks.out
  have ksz := lt_of_heap ks.out
  obtain ⟨⟨kg0, kg1⟩, -⟩ := blk2 kg.out
  have kgz := lt_of_heap kg.out
  go_wp2_with fail
  refine (rRate_any _ t _ _ _ (HT.out _ hb)).mono ?_
  rintro e w4 ⟨rfl, hn⟩
  have hb := (by first | exact Below.go hb hn | exact Below.goA hb hn | exact Below.goAA hb hn | exact Below.goD hb hn | exact Below.goAD hb hn : Below w.heap.size w w4)
  have kt := Lib.hid (by first | exact keep' kt.out hn | exact keepA kt.out hn | exact keepAA kt.out hn | exact keepD kt.out hn | exact keepAD kt.out hn)
  have ks := Lib.hid (by first | exact keep' ks.out hn | exact keepA ks.out hn | exact keepAA ks.out hn | exact keepD ks.out hn | exact keepAD ks.out hn)
  have kg := Lib.hid (by first | exact keep' kg.out hn | exact keepA kg.out hn | exact keepAA kg.out hn | exact keepD kg.out hn | exact keepAD kg.out hn)
  clear hn
  obtain ⟨⟨kt0, kt1, kt2⟩, -⟩ := blk3 kt.out
  have ktz := lt_of_heap kt.out
  obtain ⟨⟨ks0, ks1⟩, -⟩ := blk2 ks.out
  have ksz := lt_of_heap ks.out
  obtain ⟨⟨kg0, kg1⟩, -⟩ := blk2 kg.out
  have kgz := lt_of_heap kg.out
  have HP : Hid (∀ W, Below w4.heap.size w4 W → W.cell? ⟨w.heap.size, 0, none⟩ = some (.slice A1 n1 c1) ∧ W.cell? ⟨w.heap.size, 1, none⟩ = some (.slice A2 n2 c2) ∧ W.cell? ⟨w.heap.size, 2, none⟩ = some (.slice A3 n3 c3)) := Lib.hid fun W hW => (blk3 (keep' kt.out hW)).1
  have VC : Hid (∀ W, Below w4.heap.size w4 W → Calls Try.prog 13 #[.agg #[.slice A1 n1 c1, .slice A2 n2 c2, .slice A3 n3 c3]] W (fun e W' => e = .returned (.bool (Tab.valid t)) ∧ Below w4.heap.size w4 W')) := Lib.hid fun W hW => (Valid_any _ t W (HT.out _ (Below.go hb hW))).mono fun _ _ h => ⟨h.1, Below.go hW h.2⟩
  have RC : Hid (∀ W, Below w4.heap.size w4 W → Calls Try.prog 14 #[.agg #[.slice A1 n1 c1, .slice A2 n2 c2, .slice A3 n3 c3]] W (fun e W' => e = .returned (.bool (Tab.valid t)) ∧ Below w4.heap.size w4 W')) := Lib.hid fun W hW => (rValid_any _ t W (HT.out _ (Below.go hb hW))).mono fun _ _ h => ⟨h.1, Below.go hW h.2⟩
  have hr0 := Below.refl w4.heap.size w4
  have hr1 := hr0.drew
  clear kt0 kt1 kt2
  go_wp2_with fail
  go_region_held3 (fun W => W.cell? ⟨w.heap.size, 0, none⟩ = some (.slice A1 n1 c1) ∧ W.cell? ⟨w.heap.size, 1, none⟩ = some (.slice A2 n2 c2) ∧ W.cell? ⟨w.heap.size, 2, none⟩ = some (.slice A3 n3 c3)) (exact HP.out _ (by assumption))
    (first | (go_at_call 13; refine (VC.out _ (by assumption)).mono ?_; rintro e wY ⟨rfl, hY⟩) | (go_at_call 14; refine (RC.out _ (by assumption)).mono ?_; rintro e wY ⟨rfl, hY⟩))
  have hb := (Below.go hb hY : Below w.heap.size w wY)
  have kt := Lib.hid (keep' kt.out hY)
  have ks := Lib.hid (keep' ks.out hY)
  have kg := Lib.hid (keep' kg.out hY)
  clear hY HP VC RC hr0 hr1
  obtain ⟨⟨kt0, kt1, kt2⟩, -⟩ := blk3 kt.out
  obtain ⟨⟨ks0, ks1⟩, -⟩ := blk2 ks.out
  obtain ⟨⟨kg0, kg1⟩, -⟩ := blk2 kg.out
  go_wp2_with fail
  refine (Worst_any _ t _ _ _ _ _ (HT.out _ hb)).mono ?_
  rintro e w5 ⟨rfl, hn⟩
  have hb := (by first | exact Below.go hb hn | exact Below.goA hb hn | exact Below.goAA hb hn | exact Below.goD hb hn | exact Below.goAD hb hn : Below w.heap.size w w5)
  have kt := Lib.hid (by first | exact keep' kt.out hn | exact keepA kt.out hn | exact keepAA kt.out hn | exact keepD kt.out hn | exact keepAD kt.out hn)
  have ks := Lib.hid (by first | exact keep' ks.out hn | exact keepA ks.out hn | exact keepAA ks.out hn | exact keepD ks.out hn | exact keepAD ks.out hn)
  have kg := Lib.hid (by first | exact keep' kg.out hn | exact keepA kg.out hn | exact keepAA kg.out hn | exact keepD kg.out hn | exact keepAD kg.out hn)
  clear hn
  obtain ⟨⟨kt0, kt1, kt2⟩, -⟩ := blk3 kt.out
  have ktz := lt_of_heap kt.out
  obtain ⟨⟨ks0, ks1⟩, -⟩ := blk2 ks.out
  have ksz := lt_of_heap ks.out
  obtain ⟨⟨kg0, kg1⟩, -⟩ := blk2 kg.out
  have kgz := lt_of_heap kg.out
  go_wp2_with fail
  refine (rWorst_any _ t _ _ _ _ _ (HT.out _ hb)).mono ?_
  rintro e w6 ⟨rfl, hn⟩
  have hb := (by first | exact Below.go hb hn | exact Below.goA hb hn | exact Below.goAA hb hn | exact Below.goD hb hn | exact Below.goAD hb hn : Below w.heap.size w w6)
  have kt := Lib.hid (by first | exact keep' kt.out hn | exact keepA kt.out hn | exact keepAA kt.out hn | exact keepD kt.out hn | exact keepAD kt.out hn)
  have ks := Lib.hid (by first | exact keep' ks.out hn | exact keepA ks.out hn | exact keepAA ks.out hn | exact keepD ks.out hn | exact keepAD ks.out hn)
  have kg := Lib.hid (by first | exact keep' kg.out hn | exact keepA kg.out hn | exact keepAA kg.out hn | exact keepD kg.out hn | exact keepAD kg.out hn)
  clear hn
  obtain ⟨⟨kt0, kt1, kt2⟩, -⟩ := blk3 kt.out
  have ktz := lt_of_heap kt.out
  obtain ⟨⟨ks0, ks1⟩, -⟩ := blk2 ks.out
  have ksz := lt_of_heap ks.out
  obtain ⟨⟨kg0, kg1⟩, -⟩ := blk2 kg.out
  have kgz := lt_of_heap kg.out
  go_wp2_with fail
  refine (Elapsed_any _ _ _).mono ?_
  rintro e w7 ⟨rfl, hn⟩
  have hb := (by first | exact Below.go hb hn | exact Below.goA hb hn | exact Below.goAA hb hn | exact Below.goD hb hn | exact Below.goAD hb hn : Below w.heap.size w w7)
  have kt := Lib.hid (by first | exact keep' kt.out hn | exact keepA kt.out hn | exact keepAA kt.out hn | exact keepD kt.out hn | exact keepAD kt.out hn)
  clear hn
  obtain ⟨⟨kt0, kt1, kt2⟩, -⟩ := blk3 kt.out
  have ktz := lt_of_heap kt.out
  have sz7 := hb.size
  go_wp2_with fail
  refine (rElapsed_any _ _ _).mono ?_
  rintro e w8 ⟨rfl, hn⟩
  have hb := (by first | exact Below.go hb hn | exact Below.goA hb hn | exact Below.goAA hb hn | exact Below.goD hb hn | exact Below.goAD hb hn : Below w.heap.size w w8)
  have kt := Lib.hid (by first | exact keep' kt.out hn | exact keepA kt.out hn | exact keepAA kt.out hn | exact keepD kt.out hn | exact keepAD kt.out hn)
  have kx := Lib.hid (by first | exact keep' (heap_new _ _) hn | exact newAD hn)
  clear hn
  obtain ⟨⟨kt0, kt1, kt2⟩, -⟩ := blk3 kt.out
  have ktz := lt_of_heap kt.out
  obtain ⟨⟨kx0, kx1⟩, -⟩ := blk2 kx.out
  have kxz := lt_of_heap kx.out
  have sz8 := hb.size
  obtain ⟨-, kxf0, kxf1⟩ := blk2 kx.out
  go_wp2_with fail
  refine (Counts_any _ _ _).mono ?_
  rintro e w9 ⟨rfl, hn⟩
  have hb := (by first | exact Below.go hb hn | exact Below.goA hb hn | exact Below.goAA hb hn | exact Below.goD hb hn | exact Below.goAD hb hn : Below w.heap.size w w9)
  have kt := Lib.hid (by first | exact keep' kt.out hn | exact keepA kt.out hn | exact keepAA kt.out hn | exact keepD kt.out hn | exact keepAD kt.out hn)
  have kx := Lib.hid (by first | exact keep' kx.out hn | exact keepA kx.out hn | exact keepAA kx.out hn | exact keepD kx.out hn | exact keepAD kx.out hn)
  have ky := Lib.hid (by first | exact keep' (heap_new _ _) hn | exact newAD hn)
  clear hn
  obtain ⟨⟨kt0, kt1, kt2⟩, -⟩ := blk3 kt.out
  have ktz := lt_of_heap kt.out
  obtain ⟨⟨kx0, kx1⟩, kxf0, kxf1⟩ := blk2 kx.out
  have kxz := lt_of_heap kx.out
  obtain ⟨⟨ky0, ky1⟩, kyf0, kyf1⟩ := blk2 ky.out
  have kyz := lt_of_heap ky.out
  go_wp2_with fail
  refine (rCounts_any _ _ _).mono ?_
  rintro e w10 ⟨rfl, hn⟩
  have hb := (Below.go (Below.set2 hb _ _ (by omega)) hn : Below w.heap.size w w10)
  have kx := Lib.hid (keep' (st2 kx.out _ _) hn)
  have kt := Lib.hid (keep' (st2o kt.out (by omega) _ _) hn)
  have ky := Lib.hid (keep' (st2o ky.out (by omega) _ _) hn)
  clear hn
  obtain ⟨⟨kx0, kx1⟩, kxf0, kxf1⟩ := blk2 kx.out
  have kxz := lt_of_heap kx.out
  obtain ⟨⟨kt0, kt1, kt2⟩, -⟩ := blk3 kt.out
  have ktz := lt_of_heap kt.out
  obtain ⟨⟨ky0, ky1⟩, kyf0, kyf1⟩ := blk2 ky.out
  have kyz := lt_of_heap ky.out
  go_wp2_with fail
  refine (Several_any _ t _ _ _ l _ (HT.out _ (Below.set2 hb _ _ (by omega))) (HG.out _ (Below.set2 hb _ _ (by omega))) (by omega)).mono ?_
  rintro e w11 ⟨rfl, hn⟩
  have hb := (Below.go (Below.set2 hb _ _ (by omega)) hn : Below w.heap.size w w11)
  have ky := Lib.hid (keep' (st2 ky.out _ _) hn)
  have kt := Lib.hid (keep' (st2o kt.out (by omega) _ _) hn)
  have kx := Lib.hid (keep' (st2o kx.out (by omega) _ _) hn)
  clear hn
  obtain ⟨⟨ky0, ky1⟩, kyf0, kyf1⟩ := blk2 ky.out
  have kyz := lt_of_heap ky.out
  obtain ⟨⟨kt0, kt1, kt2⟩, -⟩ := blk3 kt.out
  have ktz := lt_of_heap kt.out
  obtain ⟨⟨kx0, kx1⟩, kxf0, kxf1⟩ := blk2 kx.out
  have kxz := lt_of_heap kx.out
  go_wp2_with fail
  refine (rSeveral_any _ t _ _ _ l _ (HT.out _ (Below.set2 hb _ _ (by omega))) (HG.out _ (Below.set2 hb _ _ (by omega))) (by omega)).mono ?_
  rintro e w12 ⟨rfl, hn⟩
  have hb := (Below.go (Below.set2 hb _ _ (by omega)) hn : Below w.heap.size w w12)
  have kx := Lib.hid (keep' (st2 kx.out _ _) hn)
  have kt := Lib.hid (keep' (st2o kt.out (by omega) _ _) hn)
  have ky := Lib.hid (keep' (st2o ky.out (by omega) _ _) hn)
  clear hn
  obtain ⟨⟨kx0, kx1⟩, kxf0, kxf1⟩ := blk2 kx.out
  have kxz := lt_of_heap kx.out
  obtain ⟨⟨kt0, kt1, kt2⟩, -⟩ := blk3 kt.out
  have ktz := lt_of_heap kt.out
  obtain ⟨⟨ky0, ky1⟩, kyf0, kyf1⟩ := blk2 ky.out
  have kyz := lt_of_heap ky.out
  go_wp2
  go_ret
  exact ⟨by simp, by (repeat (with_reducible first | exact hb | refine Below.setCell ?_ ?_ _)); all_goals (first | omega | (simp; done) | (simp; omega))⟩
theorem matches_bad (v : TabV) (t : Tab.Tb) (x1 x2 y1 y2 r q : Int) (A : Option Addr) (n c : Nat) (w : World) (HT : Hid (∀ W, Below w.heap.size w W → TabIn W v t)) (hn : 70 < n) (hm : n ≤ 9223372036854775807) :
    Calls Try.prog 3 #[T3 v, I2 x1 x2, I2 y1 y2, .slice A n c, .int .i64 r, .int .i64 q] w (LawPost w) := by
  have hb := below3 w (oT v) (oRg x1 x2) (oRg y1 y2)
  have kt := Lib.hid (new30 w (oT v) (oRg x1 x2) (oRg y1 y2))
  have qn : decide (70 < (n : Int)) = true := decide_eq_true (by omega)
  have qn2 : decide (70 < n) = true := decide_eq_true (by omega)
  obtain ⟨A1, n1, c1, A2, n2, c2, A3, n3, c3⟩ := v
  dsimp only [T3, s1, s2, s3, oT] at *
  go_enter Try.func3, Try.ntmps3
  go_wp2_with fail
  refine (head_any _).mono ?_
  rintro e w1 ⟨rfl, hn⟩
  have hb := (by first | exact Below.go hb hn | exact Below.goA hb hn | exact Below.goAA hb hn | exact Below.goD hb hn | exact Below.goAD hb hn : Below w.heap.size w w1)
  have kt := Lib.hid (by first | exact keep' kt.out hn | exact keepA kt.out hn | exact keepAA kt.out hn | exact keepD kt.out hn | exact keepAD kt.out hn)
  clear hn
  obtain ⟨⟨kt0, kt1, kt2⟩, -⟩ := blk3 kt.out
  have ktz := lt_of_heap kt.out
  go_wp2_with fail
  refine (few_any _ t _ (HT.out _ hb)).mono ?_
  rintro e w2 ⟨f, rfl, hn2⟩
  have hb := (Below.go hb hn2 : Below w.heap.size w w2)
  cases f
  · go_wp2
    go_ret
    exact ⟨rfl, hb⟩
  · go_wp2
    go_ret
    exact ⟨rfl, hb⟩
theorem matches_law (v : Value) (x : TabV × Tab.Tb) (u : Value) (a : Int × Int) (u' : Value) (b : Int × Int) (z : Value) (l : List Tab.Sg) (r q : Int) (w : World) (hv : IsTb w v x) (hu : IsRg u a) (hu' : IsRg u' b) (hz : IsSg w z l) (h1 : (Lit.int .i64 r).wf = true) (h2 : (Lit.int .i64 q).wf = true) :
    Calls Try.prog 3 #[v, u, u', z, .int .i64 r, .int .i64 q] w (LawPost w) := by
  obtain ⟨V, t⟩ := x
  obtain ⟨rfl, ht⟩ := hv
  obtain ⟨A, n, c, rfl, hnc, hc, hg⟩ := hz
  obtain rfl : u = I2 a.1 a.2 := hu
  obtain rfl : u' = I2 b.1 b.2 := hu'
  by_cases hn : n ≤ 70
  · exact matches_main V t _ _ _ _ r q A n c l w (Lib.hid fun W hW => ht.below hW) (Lib.hid fun W hW => (hg.below hW).mono hW.size) hn
  · exact matches_bad V t _ _ _ _ r q A n c w (Lib.hid fun W hW => ht.below hW) (by omega) (by omega)
end Go.Proofs.Ytlmdjkkeocmehaa
