/- The contracts of the laws' example and head. -/
import Derived.Test.YtlmdjkkeocmehaaDrJ
set_option linter.unusedVariables false
namespace Go.Proofs.Ytlmdjkkeocmehaa
open Go.RowKit
def exT : Tab.Tb := ⟨[-40, 20], [0, 100], [[50, 70], [30, 60]]⟩
abbrev oI2 (x y : Int) : Obj := .cells #[.int .i64 x, .int .i64 y] 3
def exV (B : Nat) : TabV := ⟨some ⟨B + 1, 0, none⟩, 2, 2, some ⟨B + 2, 0, none⟩, 2, 2, some ⟨B + 5, 0, none⟩, 2, 2⟩
theorem li2 {W : World} {b : Nat} {x y : Int} (h : W.heap[b]? = some (oI2 x y)) : Li W.heap.size W (some ⟨b, 0, none⟩) 2 [x, y] := by
  refine ⟨rfl, fun _ => ⟨b, 0, rfl, lt_of_heap h, fun j hj => ?_⟩⟩
  obtain ⟨⟨c0, c1⟩, -⟩ := blk2 h
  rcases (show j = 0 ∨ j = 1 by omega) with rfl | rfl
  · exact c0
  · exact c1
abbrev oS2 (b c : Nat) : Obj := .cells #[.slice (some ⟨b, 0, none⟩) 2 2, .slice (some ⟨c, 0, none⟩) 2 2] 22
theorem ex_in {W : World} {B : Nat} (h1 : W.heap[B + 1]? = some (oI2 (-40) 20)) (h2 : W.heap[B + 2]? = some (oI2 0 100)) (h3 : W.heap[B + 3]? = some (oI2 50 70)) (h4 : W.heap[B + 4]? = some (oI2 30 60)) (h5 : W.heap[B + 5]? = some (oS2 (B + 3) (B + 4))) : TabIn W (exV B) exT := by
  refine ⟨li2 h1, li2 h2, ⟨rfl, fun _ => ⟨B + 5, 0, rfl, lt_of_heap h5, fun j hj => ?_⟩⟩, by simp [exV], by simp [exV], by simp [exV], by simp [exV], by simp [exV]⟩
  obtain ⟨⟨c0, c1⟩, -⟩ := blk2 h5
  rcases (show j = 0 ∨ j = 1 by have : j < 2 := hj; omega) with rfl | rfl
  · exact ⟨_, _, _, c0, li2 h3, by decide, by decide⟩
  · exact ⟨_, _, _, c1, li2 h4, by decide, by decide⟩
def ExPost (w : World) (e : Ending) (w' : World) : Prop := ∃ v, e = .returned (T3 v) ∧ TabIn w' v exT ∧ Below w.heap.size w w'
theorem below6 (w : World) (o p q r s t : Obj) : Below w.heap.size w ((((((w.alloc o).alloc p).alloc q).alloc r).alloc s).alloc t) := Below.goN (Below.goN (Below.goN (below3 w o p q) r) s) t
theorem six (w : World) (o p q r s t : Obj) : ((((((w.alloc o).alloc p).alloc q).alloc r).alloc s).alloc t).heap[w.heap.size + 1]? = some p ∧ ((((((w.alloc o).alloc p).alloc q).alloc r).alloc s).alloc t).heap[w.heap.size + 2]? = some q ∧ ((((((w.alloc o).alloc p).alloc q).alloc r).alloc s).alloc t).heap[w.heap.size + 3]? = some r ∧ ((((((w.alloc o).alloc p).alloc q).alloc r).alloc s).alloc t).heap[w.heap.size + 4]? = some s ∧ ((((((w.alloc o).alloc p).alloc q).alloc r).alloc s).alloc t).heap[w.heap.size + 5]? = some t := by
  refine ⟨keepN (keepN (new41 w o p q r) s) t, keepN (keepN (new42 w o p q r) s) t, keepN (keepN (new43 w o p q r) s) t, ?_, ?_⟩
  · have := keepN (new43 (w.alloc o) p q r s) t
    rwa [World.size_alloc] at this
  · have := new43 ((w.alloc o).alloc p) q r s t
    rwa [World.size_alloc, World.size_alloc] at this
set_option maxHeartbeats 1000000 in
theorem example_any (w : World) : Calls Try.prog 27 #[] w (ExPost w) := by
  go_enter Try.func27, Try.ntmps27
  go_wp2
  refine bodyPost_ret (v := T3 (exV w.heap.size)) (by simp [results, Try.results27, go_sem, exV]) rfl ⟨exV w.heap.size, rfl, ?_, below6 _ _ _ _ _ _ _⟩
  obtain ⟨h1, h2, h3, h4, h5⟩ := six w _ _ _ _ _ _
  exact ex_in h1 h2 h3 h4 h5
end Go.Proofs.Ytlmdjkkeocmehaa
