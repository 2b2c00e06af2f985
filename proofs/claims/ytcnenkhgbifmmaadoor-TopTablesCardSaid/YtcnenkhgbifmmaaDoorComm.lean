/- Small facts on worlds: blocks that stay, cells of new blocks, chains of calls. -/
import Derived.Test.YtcnenkhgbifmmaaDoorLpE
set_option linter.unusedVariables false
namespace Go.Proofs.YtcnenkhgbifmmaaDoor
open Go.RowKit
theorem heap_new (w : World) (o : Obj) : (w.alloc o).heap[w.heap.size]? = some o := World.alloc_heap_new w o
theorem keep {B : Nat} {W W' : World} {k : Nat} {o : Obj} (h : W.heap[k]? = some o) (hb : Below B W W') (hk : k < B) : W'.heap[k]? = some o := by rw [hb.block _ hk]; exact h
theorem lt_of_heap {W : World} {k : Nat} {o : Obj} (h : W.heap[k]? = some o) : k < W.heap.size := by
  rcases Nat.lt_or_ge k W.heap.size with h1 | h1
  · exact h1
  · rw [Array.getElem?_eq_none h1] at h; cases h
theorem keep' {W W' : World} {k : Nat} {o : Obj} (h : W.heap[k]? = some o) (hb : Below W.heap.size W W') : W'.heap[k]? = some o := keep h hb (lt_of_heap h)
theorem keepN {W : World} {k : Nat} {o : Obj} (h : W.heap[k]? = some o) (p : Obj) : (W.alloc p).heap[k]? = some o := (Below.heap_alloc _ _ _ (lt_of_heap h)).trans h
theorem keepA {W W' : World} {k : Nat} {o p : Obj} (h : W.heap[k]? = some o) (hb : Below (W.alloc p).heap.size (W.alloc p) W') : W'.heap[k]? = some o := keep' (keepN h p) hb
theorem Below.go {w0 W w : World} (h : Below w0.heap.size w0 W) (hb : Below W.heap.size W w) : Below w0.heap.size w0 w := h.trans (hb.mono h.size)
theorem Below.goA {w0 W w : World} {o : Obj} (h : Below w0.heap.size w0 W) (hb : Below (W.alloc o).heap.size (W.alloc o) w) : Below w0.heap.size w0 w := Below.go (h.alloc h.size o) hb
theorem keepAA {W W' : World} {k : Nat} {o p q : Obj} (h : W.heap[k]? = some o) (hb : Below ((W.alloc p).alloc q).heap.size ((W.alloc p).alloc q) W') : W'.heap[k]? = some o := keep' (keepN (keepN h p) q) hb
theorem Below.goAA {w0 W w : World} {o p : Obj} (h : Below w0.heap.size w0 W) (hb : Below ((W.alloc o).alloc p).heap.size ((W.alloc o).alloc p) w) : Below w0.heap.size w0 w := Below.goA (h.alloc h.size o) hb
theorem Below.goN {w0 W : World} (h : Below w0.heap.size w0 W) (o : Obj) : Below w0.heap.size w0 (W.alloc o) := h.alloc h.size o
theorem cell_old {W : World} {o : Obj} {k j : Nat} (h : k < W.heap.size) : (W.alloc o).cell? ⟨k, j, none⟩ = W.cell? ⟨k, j, none⟩ := ((Below.refl W.heap.size W).alloc (Nat.le_refl _) o).cell (p := ⟨k, j, none⟩) h
theorem frozen_old {W : World} {o : Obj} {k j : Nat} (h : k < W.heap.size) : (W.alloc o).frozen? ⟨k, j, none⟩ = W.frozen? ⟨k, j, none⟩ := ((Below.refl W.heap.size W).alloc (Nat.le_refl _) o).frozen (p := ⟨k, j, none⟩) h
theorem heap_new' (w : World) (o : Obj) : (w.alloc o).heap[w.heap.size]? = some o := heap_new w o
theorem blk2 {W : World} {k : Nat} {x y : Value} {t : TypeId} (h : W.heap[k]? = some (.cells #[x, y] t)) : (W.cell? ⟨k, 0, none⟩ = some x ∧ W.cell? ⟨k, 1, none⟩ = some y) ∧ W.frozen? ⟨k, 0, none⟩ = false ∧ W.frozen? ⟨k, 1, none⟩ = false := by
  simp [World.cell?, World.frozen?, h]
theorem blk3 {W : World} {k : Nat} {x y z : Value} {t : TypeId} (h : W.heap[k]? = some (.cells #[x, y, z] t)) : (W.cell? ⟨k, 0, none⟩ = some x ∧ W.cell? ⟨k, 1, none⟩ = some y ∧ W.cell? ⟨k, 2, none⟩ = some z) ∧ W.frozen? ⟨k, 0, none⟩ = false ∧ W.frozen? ⟨k, 1, none⟩ = false ∧ W.frozen? ⟨k, 2, none⟩ = false := by
  simp [World.cell?, World.frozen?, h]
theorem blk2A {W : World} {k : Nat} {x y : Value} {t : TypeId} (h : W.heap[k]? = some (.cells #[x, y] t)) : ((∀ o, (W.alloc o).cell? ⟨k, 0, none⟩ = some x) ∧ (∀ o, (W.alloc o).cell? ⟨k, 1, none⟩ = some y)) ∧ (∀ o, (W.alloc o).frozen? ⟨k, 0, none⟩ = false) ∧ (∀ o, (W.alloc o).frozen? ⟨k, 1, none⟩ = false) := by
  have := fun o => blk2 (keepN h o)
  exact ⟨⟨fun o => (this o).1.1, fun o => (this o).1.2⟩, fun o => (this o).2.1, fun o => (this o).2.2⟩
theorem blk3A {W : World} {k : Nat} {x y z : Value} {t : TypeId} (h : W.heap[k]? = some (.cells #[x, y, z] t)) :
    ((∀ o, (W.alloc o).cell? ⟨k, 0, none⟩ = some x) ∧ (∀ o, (W.alloc o).cell? ⟨k, 1, none⟩ = some y) ∧ (∀ o, (W.alloc o).cell? ⟨k, 2, none⟩ = some z)) ∧ (∀ o, (W.alloc o).frozen? ⟨k, 0, none⟩ = false) ∧ (∀ o, (W.alloc o).frozen? ⟨k, 1, none⟩ = false) ∧ (∀ o, (W.alloc o).frozen? ⟨k, 2, none⟩ = false) := by
  have := fun o => blk3 (keepN h o)
  exact ⟨⟨fun o => (this o).1.1, fun o => (this o).1.2.1, fun o => (this o).1.2.2⟩, fun o => (this o).2.1, fun o => (this o).2.2.1, fun o => (this o).2.2.2⟩
theorem new0 (w : World) (o p : Obj) : ((w.alloc o).alloc p).heap[w.heap.size]? = some o := keepN (heap_new w o) p
theorem new1 (w : World) (o p : Obj) : ((w.alloc o).alloc p).heap[w.heap.size + 1]? = some p := by have := heap_new (w.alloc o) p; rwa [World.size_alloc] at this
theorem new30 (w : World) (o p q : Obj) : (((w.alloc o).alloc p).alloc q).heap[w.heap.size]? = some o := keepN (new0 w o p) q
theorem new31 (w : World) (o p q : Obj) : (((w.alloc o).alloc p).alloc q).heap[w.heap.size + 1]? = some p := by have := new0 (w.alloc o) p q; rwa [World.size_alloc] at this
theorem new32 (w : World) (o p q : Obj) : (((w.alloc o).alloc p).alloc q).heap[w.heap.size + 2]? = some q := by have := new1 (w.alloc o) p q; rwa [World.size_alloc] at this
theorem new40 (w : World) (o p q r : Obj) : ((((w.alloc o).alloc p).alloc q).alloc r).heap[w.heap.size]? = some o := keepN (new30 w o p q) r
theorem new41 (w : World) (o p q r : Obj) : ((((w.alloc o).alloc p).alloc q).alloc r).heap[w.heap.size + 1]? = some p := keepN (new31 w o p q) r
theorem new42 (w : World) (o p q r : Obj) : ((((w.alloc o).alloc p).alloc q).alloc r).heap[w.heap.size + 2]? = some q := keepN (new32 w o p q) r
theorem new43 (w : World) (o p q r : Obj) : ((((w.alloc o).alloc p).alloc q).alloc r).heap[w.heap.size + 3]? = some r := by have := new32 (w.alloc o) p q r; rwa [World.size_alloc] at this
theorem bne_of {x : Int} (h : x ≠ 0) : (x != 0) = true := by simpa using h
theorem beq_of {x : Int} (h : x ≠ 0) : (x == 0) = false := by simpa using h
theorem ret_i2 {a b a' b' e e' : Int} (h1 : a = a') (h2 : b = b') (h3 : e = e') : Ending.returned (.tuple #[.agg #[.int .i64 a, .int .i64 b], .int .i64 e]) = .returned (.tuple #[.agg #[.int .i64 a', .int .i64 b'], .int .i64 e']) := by rw [h1, h2, h3]
theorem ret_i3 {a b c a' b' c' e e' : Int} (h1 : a = a') (h2 : b = b') (h3 : c = c') (h4 : e = e') : Ending.returned (.tuple #[.agg #[.int .i64 a, .int .i64 b, .int .i64 c], .int .i64 e]) = .returned (.tuple #[.agg #[.int .i64 a', .int .i64 b', .int .i64 c'], .int .i64 e']) := by rw [h1, h2, h3, h4]
def LawPost (w : World) (e : Ending) (w' : World) : Prop := e = .returned (.bool true) ∧ Below w.heap.size w w'
end Go.Proofs.YtcnenkhgbifmmaaDoor
