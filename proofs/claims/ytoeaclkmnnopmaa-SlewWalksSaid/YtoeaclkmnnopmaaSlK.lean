/- The walk of the law SlewWalks: it returns true for all clocks, limits and turns; nothing that was there has changed. -/
import Derived.Test.YtoeaclkmnnopmaaSlI
import Derived.Test.YtoeaclkmnnopmaaOpenF
set_option linter.unusedVariables false
namespace Go.Proofs.Ytoeaclkmnnopmaa
open Go.RowKit Go.ChangeShapes Go.WideShapes Go.Deep
abbrev TT := Int × Int × Int
/-- the slice (A, n) holds turns, in a block below B -/
def Tr (B : Nat) (W : World) (A : Option Addr) (n : Nat) : Prop :=
  0 < n → ∃ b off, A = some ⟨b, off, none⟩ ∧ b < B ∧ ∀ j, j < n → ∃ x y z : Int, (0 ≤ x ∧ x < 4294967296) ∧ (0 ≤ y ∧ y < 4294967296) ∧ (0 ≤ z ∧ z < 4294967296) ∧
    W.cell? ⟨b, off + j * 3, none⟩ = some (.int .u32 x) ∧ W.cell? ⟨b, off + j * 3 + 1, none⟩ = some (.int .u32 y) ∧ W.cell? ⟨b, off + j * 3 + 2, none⟩ = some (.int .u32 z)
def IsTurns (W : World) (v : Value) (u : Unit) : Prop := ∃ A n c, v = .slice A n c ∧ n ≤ c ∧ c ≤ maxLen ∧ (A = none → c = 0) ∧ Tr W.heap.size W A n
theorem cellsTurn : Try.prog.cellsOf 41 = 3 := by kernel_rfl
theorem open_turns {H : Type} {enc : TypeId × Value → H} {W : World} {base b0 : Nat} {r : Reach} {sp : Nat → Bool} {hd : Bool} {v : Value} {d : DataW H} {p : List MemPlace}
    (hv : Value.okWide Try.prog W r b0 37 v) (h : DataW.Trod enc Try.prog W base sp hd 37 v d p) : ∃ u, IsTurns W v u := by
  obtain ⟨A, n, c, rfl⟩ := okWide_slice Try.underlying37 hv
  obtain ⟨fuel, hf⟩ := h
  rcases open_slice_fields Try.underlying37 Try.underlying41 (by kernel_rfl) cellsTurn hf with ⟨hcs, _⟩ | ⟨a, len, cap, m, D, Pl, hcs, _, hl, hm, hmm, _, hc⟩
  · simp [Value.cells] at hcs
    obtain ⟨rfl, rfl, rfl⟩ := hcs
    exact ⟨(), none, 0, 0, rfl, by omega, by unfold maxLen; omega, fun _ => rfl, fun h => absurd h (by omega)⟩
  · simp [Value.cells] at hcs
    obtain ⟨rfl, rfl, rfl⟩ := hcs
    have hnm : n ≤ m := by rw [hmm]; split <;> omega
    have hex : ∀ i, i < n → ∃ x y z : Int, (0 ≤ x ∧ x < 4294967296) ∧ (0 ≤ y ∧ y < 4294967296) ∧ (0 ≤ z ∧ z < 4294967296) ∧ W.cell? (a.add (i * 3)) = some (.int .u32 x) ∧ W.cell? (a.add (i * 3 + 1)) = some (.int .u32 y) ∧ W.cell? (a.add (i * 3 + 2)) = some (.int .u32 z) := fun i hi => by
      obtain ⟨ys, k, _, _, _, hj⟩ := hc i (by omega)
      obtain ⟨v0, y0, c0, _, t0⟩ := hj 0 _ rfl
      obtain ⟨v1, y1, c1, _, t1⟩ := hj 1 _ rfl
      obtain ⟨v2, y2, c2, _, t2⟩ := hj 2 _ rfl
      obtain ⟨z0, e0, _, f0⟩ := DataW.trod_int Try.underlying39 t0
      obtain ⟨z1, e1, _, f1⟩ := DataW.trod_int Try.underlying39 t1
      obtain ⟨z2, e2, _, f2⟩ := DataW.trod_int Try.underlying39 t2
      simp at e0 e1 e2
      subst e0 e1 e2
      have g0 := bounds_u32 f0
      have g1 := bounds_u32 f1
      have g2 := bounds_u32 f2
      exact ⟨z0, z1, z2, ⟨by omega, by omega⟩, ⟨by omega, by omega⟩, ⟨by omega, by omega⟩, c0, c1, c2⟩
    refine ⟨(), some a, n, c, rfl, hl, hm, (fun h => by cases h), fun hn => ?_⟩
    obtain ⟨_, _, _, _, _, _, h0, _⟩ := hex 0 hn
    obtain ⟨b, off, sp⟩ := a
    have hsp : sp = none := by simpa [Addr.add] using World.cell?_spot h0
    subst hsp
    refine ⟨b, off, rfl, by simpa [Addr.add] using World.block_lt_of_cell? W _ h0, fun j hj => ?_⟩
    have ad : ∀ k, (⟨b, off, none⟩ : Addr).add k = ⟨b, off + k, none⟩ := fun k => by unfold Addr.add; split <;> simp_all
    have := hex j hj
    simp only [ad] at this
    exact this
/-- the clock lies at block k, and may be written -/
def OAt (W : World) (k : Nat) (a s r : Int) : Prop := k < W.heap.size ∧ (W.cell? ⟨k, 0, none⟩ = some (.int .i64 a) ∧ W.cell? ⟨k, 1, none⟩ = some (.int .i64 s) ∧ W.cell? ⟨k, 2, none⟩ = some (.int .i64 r)) ∧ W.frozen? ⟨k, 0, none⟩ = false ∧ W.frozen? ⟨k, 1, none⟩ = false ∧ W.frozen? ⟨k, 2, none⟩ = false
theorem OAt.below {W W' : World} {k : Nat} {a s r : Int} (h : OAt W k a s r) (hb : Below W.heap.size W W') : OAt W' k a s r := by
  obtain ⟨h0, ⟨h1, h2, h3⟩, h4, h5, h6⟩ := h
  have hs := hb.size
  exact ⟨by omega, ⟨(hb.cell (p := ⟨k, 0, none⟩) h0).trans h1, (hb.cell (p := ⟨k, 1, none⟩) h0).trans h2, (hb.cell (p := ⟨k, 2, none⟩) h0).trans h3⟩, (hb.frozen (p := ⟨k, 0, none⟩) h0).trans h4, (hb.frozen (p := ⟨k, 1, none⟩) h0).trans h5, (hb.frozen (p := ⟨k, 2, none⟩) h0).trans h6⟩
theorem OAt.alloc {W : World} {k : Nat} {a s r : Int} (h : OAt W k a s r) (o : Obj) : OAt (W.alloc o) k a s r := h.below ((Below.refl _ _).alloc (Nat.le_refl _) _)
theorem OAt.new (W : World) (a s r : Int) (t : TypeId) : OAt (W.alloc (.cells #[.int .i64 a, .int .i64 s, .int .i64 r] t)) W.heap.size a s r :=
  ⟨by simp, blk3 (heap_new W _)⟩
end Go.Proofs.Ytoeaclkmnnopmaa
