/- The walk of the law on the reference of chapter 1: it returns true for all integers and lists; nothing that was there has changed. -/
import Derived.Test.YthcbkagjlhchkaaScS
import Derived.ProofKit
import Derived.OpenShut
set_option linter.unusedVariables false
namespace Go.Proofs.Ythcbkagjlhchkaa
open Go.RowKit Go.ChangeShapes Go.WideShapes

/-- what the walk is told of a list of integers that came in -/
def IsInts (W : World) (v : Value) (l : List Int) : Prop := ∃ A n c, v = .slice A n c ∧ n ≤ c ∧ c ≤ maxLen ∧ (A = none → c = 0) ∧ Is W.heap.size W A n l
theorem cellsInt : Try.prog.cellsOf 3 = 1 := by kernel_rfl
theorem open_il {H : Type} {enc : TypeId × Value → H} {W : World} {base b0 : Nat} {r : Reach} {sp : Nat → Bool} {hd : Bool} {v : Value} {d : DataW H} {p : List MemPlace}
    (hv : Value.okWide Try.prog W r b0 22 v) (h : DataW.Trod enc Try.prog W base sp hd 22 v d p) : ∃ l, IsInts W v l := by
  obtain ⟨A, n, c, rfl⟩ := okWide_slice Try.underlying22 hv
  obtain ⟨fuel, hf⟩ := h
  rcases open_ints Try.underlying22 Try.underlying3 cellsInt hf with ⟨hcs, _⟩ | ⟨a, len, cap, zs, hcs, _, hl, hm, hz, _, hc, _⟩
  · simp [Value.cells] at hcs
    obtain ⟨rfl, rfl, rfl⟩ := hcs
    exact ⟨[], none, 0, 0, rfl, by omega, by unfold maxLen; omega, fun _ => rfl, rfl, fun h => absurd h (by omega)⟩
  · simp [Value.cells] at hcs
    obtain ⟨rfl, rfl, rfl⟩ := hcs
    have hnm : n ≤ zs.length := by rw [hz]; split <;> omega
    refine ⟨zs.take n, some a, n, c, rfl, hl, hm, (fun h => by cases h), by simp; omega, fun hn => ?_⟩
    have h0 := hc 0 (by omega)
    obtain ⟨b, off, sp⟩ := a
    have hsp : sp = none := by simpa [Addr.add] using World.cell?_spot h0
    subst hsp
    refine ⟨b, off, rfl, by simpa [Addr.add] using World.block_lt_of_cell? W _ h0, fun j hj => ?_⟩
    have ad : ∀ k, (⟨b, off, none⟩ : Addr).add k = ⟨b, off + k, none⟩ := fun k => by unfold Addr.add; split <;> simp_all
    have := hc j (by omega)
    rw [ad] at this
    rw [this, List.getElem?_take, if_pos hj, List.getD_eq_getElem?_getD]
theorem Is.take {B : Nat} {W : World} {A : Option Addr} {n m : Nat} {l : List Int} (h : Is B W A n l) (hm : m ≤ n) : Is B W A m (l.take m) := by
  refine ⟨by have := h.1; simp; omega, fun hp => ?_⟩
  obtain ⟨b, off, e, hB, hc⟩ := h.2 (by omega)
  exact ⟨b, off, e, hB, fun j hj => by rw [hc j (by omega), List.getElem?_take, if_pos hj]⟩
theorem rFloor_c {a n d : Int} {w0 w : World} (hb : Below w0.heap.size w0 w) :
    Calls Try.prog 12 #[.int .i64 a, .int .i64 n, .int .i64 d] w (RetB (.tuple #[.int .i64 (Scm.rV a n d (Scm.sF a n d)), .int .i64 (Scm.rE a n d (Scm.sF a n d))]) w0) := chain hb (rFloor_any a n d w)
theorem rCeil_c {a n d : Int} {w0 w : World} (hb : Below w0.heap.size w0 w) :
    Calls Try.prog 14 #[.int .i64 a, .int .i64 n, .int .i64 d] w (RetB (.tuple #[.int .i64 (Scm.rV a n d (Scm.sC a n d)), .int .i64 (Scm.rE a n d (Scm.sC a n d))]) w0) := chain hb (rCeil_any a n d w)
theorem rNear_c {a n d : Int} {w0 w : World} (hb : Below w0.heap.size w0 w) :
    Calls Try.prog 16 #[.int .i64 a, .int .i64 n, .int .i64 d] w (RetB (.tuple #[.int .i64 (Scm.rV a n d (Scm.sN a n d)), .int .i64 (Scm.rE a n d (Scm.sN a n d))]) w0) := chain hb (rNear_any a n d w)
theorem SumL_c {A : Option Addr} {n c : Nat} {l : List Int} {w0 w : World} (hl : Is w0.heap.size w0 A n l) (hn : n ≤ 1000) (hb : Below w0.heap.size w0 w) :
    Calls Try.prog 17 #[.slice A n c] w (RetB (.tuple #[.int .i64 (Scm.suV l), .int .i64 (Scm.suE l)]) w0) := chain hb (Sum_any _ A n c l w (hl.below hb) hn)
theorem rSumL_c {A : Option Addr} {n c : Nat} {l : List Int} {w0 w : World} (hl : Is w0.heap.size w0 A n l) (hn : n ≤ 1000) (hb : Below w0.heap.size w0 w) :
    Calls Try.prog 18 #[.slice A n c] w (RetB (.tuple #[.int .i64 (Scm.suV l), .int .i64 (Scm.suE l)]) w0) := chain hb (rSum_any _ A n c l w (hl.below hb) hn)
set_option maxHeartbeats 2000000 in
set_option maxRecDepth 100000 in
theorem matches_core (a n d : Int) (A : Option Addr) (len m c : Nat) (l : List Int) (w : World) (hl : Is w.heap.size w A m l) (hlen : len ≤ c) (hc : c ≤ maxLen) (hA : A = none → c = 0) (hm : m ≤ 1000) (hmi : (if (1000 : Int) < (len : Int) then 1000 else (len : Int)) = (m : Int)) (hml : m ≤ len) :
    Calls Try.prog 3 #[.int .i64 a, .int .i64 n, .int .i64 d, .slice A len c] w (LawPost w) := by
  have hb := Below.refl w.heap.size w
  have HL := Lib.hid hl
  unfold maxLen at hc
  clear hl
  cases A with
  | none =>
    obtain rfl : c = 0 := hA rfl
    obtain rfl : len = 0 := by omega
    obtain rfl : m = 0 := by omega
    clear hA hmi
    go_enter Try.func3, Try.ntmps3
    go_wp2_with (first | (go_at_call 10; refine (head_c (by assumption)).mono ?_; rintro e w1 ⟨rfl, hb⟩) | (go_at_call 11; refine (Floor_c (by assumption)).mono ?_; rintro e w1 ⟨rfl, hb⟩) | (go_at_call 13; refine (Ceil_c (by assumption)).mono ?_; rintro e w1 ⟨rfl, hb⟩) | (go_at_call 15; refine (Near_c (by assumption)).mono ?_; rintro e w1 ⟨rfl, hb⟩) | (go_at_call 12; refine (rFloor_c (by assumption)).mono ?_; rintro e w1 ⟨rfl, hb⟩) | (go_at_call 14; refine (rCeil_c (by assumption)).mono ?_; rintro e w1 ⟨rfl, hb⟩) | (go_at_call 16; refine (rNear_c (by assumption)).mono ?_; rintro e w1 ⟨rfl, hb⟩) | (go_at_call 17; refine (SumL_c HL.out hm (by assumption)).mono ?_; rintro e w1 ⟨rfl, hb⟩) | (go_at_call 18; refine (rSumL_c HL.out hm (by assumption)).mono ?_; rintro e w1 ⟨rfl, hb⟩))
    go_ret
    exact ⟨rfl, by assumption⟩
  | some ad =>
    clear hA
    go_enter Try.func3, Try.ntmps3
    go_wp2_with (first | (go_at_call 10; refine (head_c (by assumption)).mono ?_; rintro e w1 ⟨rfl, hb⟩) | (go_at_call 11; refine (Floor_c (by assumption)).mono ?_; rintro e w1 ⟨rfl, hb⟩) | (go_at_call 13; refine (Ceil_c (by assumption)).mono ?_; rintro e w1 ⟨rfl, hb⟩) | (go_at_call 15; refine (Near_c (by assumption)).mono ?_; rintro e w1 ⟨rfl, hb⟩) | (go_at_call 12; refine (rFloor_c (by assumption)).mono ?_; rintro e w1 ⟨rfl, hb⟩) | (go_at_call 14; refine (rCeil_c (by assumption)).mono ?_; rintro e w1 ⟨rfl, hb⟩) | (go_at_call 16; refine (rNear_c (by assumption)).mono ?_; rintro e w1 ⟨rfl, hb⟩) | (go_at_call 17; refine (SumL_c HL.out hm (by assumption)).mono ?_; rintro e w1 ⟨rfl, hb⟩) | (go_at_call 18; refine (rSumL_c HL.out hm (by assumption)).mono ?_; rintro e w1 ⟨rfl, hb⟩))
    go_ret
    exact ⟨rfl, by assumption⟩
theorem matches_law (a n d : Int) (v : Value) (l : List Int) (w : World) (h1 : (Lit.int .i64 a).wf = true) (h2 : (Lit.int .i64 n).wf = true) (h3 : (Lit.int .i64 d).wf = true) (hv : IsInts w v l) :
    Calls Try.prog 3 #[.int .i64 a, .int .i64 n, .int .i64 d, v] w (LawPost w) := by
  obtain ⟨A, len, c, rfl, hlen, hc, hA, hl⟩ := hv
  by_cases h : len ≤ 1000
  · exact matches_core a n d A len len c l w hl hlen hc hA h (if_neg (by omega)) (Nat.le_refl _)
  · exact matches_core a n d A len 1000 c _ w (hl.take (m := 1000) (by omega)) hlen hc hA (Nat.le_refl _) (if_pos (by omega)) (by omega)
end Go.Proofs.Ythcbkagjlhchkaa
