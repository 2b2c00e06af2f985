/- slices.Clone and DeleteFunc over fires. -/
import Derived.Test.YtmicbniipbcapaaDoorReQ
import Derived.Lib.SliceRun
set_option linter.unusedVariables false
namespace Go.Proofs.YtmicbniipbcapaaDoor
open Go.RowKit
def ClonePost (l : Lpm.LL) (n : Nat) (w : World) (e : Ending) (w' : World) : Prop := ∃ A c, e = .returned (.slice A n c) ∧ w'.ownsRow w.heap.size tF 2 (.slice A n c) n (cellsL l) ∧ Below w.heap.size w w'
set_option maxHeartbeats 2000000 in
set_option maxRecDepth 100000 in
theorem clone_any (A : Option Addr) (n c : Nat) (l : Lpm.LL) (w : World) (hl : Lp w.heap.size w A n l) (hA : A = none → n = 0 ∧ c = 0) (hn : n ≤ 100000) :
    Calls Tryd.prog 38 #[.slice A n c] w (ClonePost l n w) := by
  obtain ⟨i0, hi, hz0, hz1, hz2⟩ := info_parts infoF
  cases A with
  | none =>
    obtain ⟨rfl, rfl⟩ := hA rfl
    have hl0 : l = [] := List.eq_nil_of_length_eq_zero hl.1
    subst hl0
    have hnl := fun (w : World) (a : Option Addr) (n c : Nat) => Lib.run_eql_slice_nil (P := Tryd.prog) w 33 tF a n c 0 0 Tryd.underlying33
    clear hl hA
    go_enter Tryd.func38, Tryd.ntmps38
    go_wp2
    go_ret
    exact ⟨none, 0, rfl, own_nil, Below.refl _ _⟩
  | some ad =>
    have hmade := Lib.hid (World.ownsRow_made (base := w.heap.size) (e := tF) (size := 2) w #[] 0 (Nat.le_refl _) (by unfold maxLen; omega) (by simp))
    have hb0 : Below w.heap.size w (w.alloc (.cells #[] tF)) := (Below.refl _ _).alloc (Nat.le_refl _) _
    have hnews := Lib.hid (lp_news (hl.go hb0) ad rfl)
    have hlen := Lib.hid hl.1
    have hnl := fun (w : World) (a : Option Addr) (n c : Nat) => Lib.run_eql_slice_nil (P := Tryd.prog) w 33 tF a n c 0 0 Tryd.underlying33
    clear hl hA
    go_enter Tryd.func38, Tryd.ntmps38
    go_wp2_with (at_builtin; refine wpList_append_own_at _ rfl _ _ 33 rfl w.heap.size tF i0 (.agg #[.int .i64 0, .int .i64 0]) 2 16 Tryd.underlying33 hi hz0 hz1 hz2 rfl (by decide) _ 0 [] rfl hmade.out ad n c (cellsL l) rfl (by rw [cellsL_len, hlen.out]) hnews.out (cellsL_one l) (by unfold maxLen; omega) (by omega) (by simp) ?_; intro v' w2 hown' hgrow _ _)
    simp only [Nat.zero_add, List.nil_append] at hown'
    have hb2 := Below.grown hb0 hgrow (by simp) (fun g hg => (hmade.out.lt g hg).1)
    obtain ⟨A', c', rfl, -, -, -⟩ := own_lp hown' hlen.out
    have HO := Lib.hid hown'
    clear hown' hgrow
    go_wp2
    go_ret
    exact ⟨A', c', rfl, HO.out, hb2⟩
/-- the row of a slice of fires, cell by cell, that may be written -/
def Arr (W : World) (g : Nat) (C : Lpm.LL) : Prop :=
  ∀ q, q < C.length → (W.cell? ⟨g, q * 2, none⟩ = some (.int .i64 (C[q]?.getD (0, 0)).1) ∧ W.cell? ⟨g, q * 2 + 1, none⟩ = some (.int .i64 (C[q]?.getD (0, 0)).2)) ∧ W.frozen? ⟨g, q * 2, none⟩ = false ∧ W.frozen? ⟨g, q * 2 + 1, none⟩ = false
theorem arr_of {B : Nat} {W : World} {g n c : Nat} {l : Lpm.LL} (h : W.ownsRow B tF 2 (.slice (some ⟨g, 0, none⟩) n c) n (cellsL l)) (hn : l.length = n) : Arr W g l ∧ B ≤ g ∧ g < W.heap.size ∧ n ≤ c := by
  subst hn
  obtain ⟨-, ⟨e, -⟩ | ⟨g', cap, cur, e, hB, hg, hnc, hcm, hcs, ht⟩⟩ := h
  · cases e
  · cases e
    refine ⟨fun q hq => ?_, hB, lt_of_heap hg, hnc⟩
    obtain ⟨a, b⟩ := cellsL_at l q hq
    have hfz : ∀ o, W.frozen? ⟨g, o, none⟩ = false := fun o => by simp [World.frozen?, hg]
    exact ⟨⟨row_cell (B := B) hg ht _ _ a, row_cell (B := B) hg ht _ _ b⟩, hfz _, hfz _⟩
theorem Arr.below {W W' : World} {g : Nat} {C : Lpm.LL} (h : Arr W g C) (hb : Below W.heap.size W W') (hg : g < W.heap.size) : Arr W' g C := fun q hq => by
  obtain ⟨⟨a, b⟩, c, d⟩ := h q hq
  exact ⟨⟨(hb.cell (p := ⟨g, q * 2, none⟩) hg).trans a, (hb.cell (p := ⟨g, q * 2 + 1, none⟩) hg).trans b⟩, (hb.frozen (p := ⟨g, q * 2, none⟩) hg).trans c, (hb.frozen (p := ⟨g, q * 2 + 1, none⟩) hg).trans d⟩
theorem Arr.set {W : World} {g : Nat} {C : Lpm.LL} (h : Arr W g C) {i : Nat} (hi : i < C.length) (x y : Int) : Arr ((W.setCell ⟨g, i * 2, none⟩ (.int .i64 x)).setCell ⟨g, i * 2 + 1, none⟩ (.int .i64 y)) g (C.set i (x, y)) := fun q hq => by
  rw [List.length_set] at hq
  obtain ⟨⟨a, b⟩, c, d⟩ := h q hq
  obtain ⟨⟨a', b'⟩, c', d'⟩ := h i hi
  have hfr : ∀ (W : World) p u o, (W.setCell p u).frozen? ⟨g, o, none⟩ = W.frozen? ⟨g, o, none⟩ := fun W p u o => World.frozen?_setCell ..
  refine ⟨?_, by rw [hfr, hfr]; exact c, by rw [hfr, hfr]; exact d⟩
  by_cases e : q = i
  · subst e
    have hx : (C.set q (x, y))[q]?.getD (0, 0) = (x, y) := by simp [hi]
    rw [hx]
    constructor
    · rw [World.cell?_setCell_other _ _ _ _ (by simp)]
      exact World.cell?_setCell_same _ _ _ a
    · have hb : (W.setCell ⟨g, q * 2, none⟩ (.int .i64 x)).cell? ⟨g, q * 2 + 1, none⟩ = some (.int .i64 (C[q]?.getD (0, 0)).2) := by rw [World.cell?_setCell_other _ _ _ _ (by simp)]; exact b
      exact World.cell?_setCell_same _ _ _ hb
  · have hx : (C.set i (x, y))[q]?.getD (0, 0) = C[q]?.getD (0, 0) := by simp [List.getElem?_set, Ne.symm e]
    rw [hx]
    constructor
    · rw [World.cell?_setCell_other _ _ _ _ (by first | (simp; done) | (simp; omega)), World.cell?_setCell_other _ _ _ _ (by first | (simp; done) | (simp; omega))]; exact a
    · rw [World.cell?_setCell_other _ _ _ _ (by first | (simp; done) | (simp; omega)), World.cell?_setCell_other _ _ _ _ (by first | (simp; done) | (simp; omega))]; exact b
theorem below_setCells {B g : Nat} {w : World} (hg : B ≤ g) : ∀ (vs : List Value) (o : Nat) (W : World), Below B w W → Below B w (W.setCells g o vs)
  | [], _, _, h => h
  | v :: r, o, W, h => below_setCells hg r (o + 1) _ (h.setCell (p := ⟨g, o, none⟩) hg v)
theorem clear_run (w : World) (ty : TypeId) (g o n c : Nat) (hn : 0 < n) (hc : ∀ j, j < n * 2 → (w.cell? ⟨g, o + j, none⟩).isSome = true) (hf : ∀ j, j < n * 2 → w.frozen? ⟨g, o + j, none⟩ = false) :
    ∃ zs : List Value, (Builtin.clear_ #[33] ty #[.slice (some ⟨g, o, none⟩) n c]).run Tryd.prog w = .ok (.tuple #[]) (w.setCells g o zs) := by
  have hv : ∀ w, (zeroValue tF).run Tryd.prog w = .ok (.agg #[.int .i64 0, .int .i64 0]) w := fun w => by kernel_rfl
  obtain ⟨zs, hzs⟩ : ∃ zs, (Builtin.zeroCells (Value.cells (.agg #[.int .i64 0, .int .i64 0])) n).toList = zs := ⟨_, rfl⟩
  have hl : zs.length = n * 2 := by rw [← hzs]; simp [Builtin.zeroCells, Value.cells]
  have h1 : ∀ v ∈ zs, v.oneCell' = true := by
    intro v hv'
    rw [← hzs] at hv'
    simp [Builtin.zeroCells, Value.cells] at hv'
    obtain ⟨a, -, e⟩ := hv'
    rcases (show a % 2 = 0 ∨ a % 2 = 1 by omega) with h | h <;> rw [h] at e <;> subst e <;> rfl
  have hst := run_storeCells_cells (P := Tryd.prog) g o zs 0 w (by rw [hl]; simpa using hc) (by rw [hl]; simpa using hf) h1
  simp only [Nat.add_zero] at hst
  obtain ⟨m, rfl⟩ : ∃ m, n = m + 1 := ⟨n - 1, by omega⟩
  refine ⟨zs, ?_⟩
  simp [Builtin.clear_, run_underlying Tryd.underlying33, hv, hzs, hst]
end Go.Proofs.YtmicbniipbcapaaDoor
