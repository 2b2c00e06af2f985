/- The reference's Correct, and Same. -/
import Derived.Test.YtcnenkhgbifmmaaDoorReM
set_option linter.unusedVariables false
namespace Go.Proofs.YtcnenkhgbifmmaaDoor
open Go.RowKit
theorem Fires_any (A : Option Addr) (n c : Nat) (l : Lpm.LL) (r : Rec) (w : World) (ht : Tab w) (hl : Lp w.heap.size w A n l) (hn : n ≤ 110) (hr : Fit21 r) :
    Calls Tryd.prog 10 #[.slice A n c, (.agg #[.int .i64 r.kind, .int .i64 r.every, .int .i64 r.wd, .int .i64 r.nth, .int .i64 r.frm, .int .i64 r.unt, .int .i64 r.sec, .bool r.shift, .bool r.both])] w (FiresPost l r w) := by
  cases hv : Lpm.valid l
  · exact Fires_bad A n c l r w hl hn hv
  · by_cases hE : Rc.dysE r = 0
    · exact Fires_yes A n c l r w ht hl hn hv hr hE
    · exact Fires_err A n c l r w ht hl hn hv hr hE
theorem takeL_snoc {l : Lpm.LL} {k n : Nat} (h : l.length = n) (hk : k < n) : l.take (k + 1) = l.take k ++ [l[k]?.getD (0, 0)] := by
  rw [List.take_succ_eq_append_getElem (by omega)]; simp [show k < l.length by omega]
theorem cont_yes {l : Lpm.LL} {k n : Nat} {x : Int × Int} (h : l.length = n) (hk : k < n) (hx : l[k]?.getD (0, 0) = x) : l.contains x = true := by
  rw [List.contains_iff_mem, ← hx, List.getElem?_eq_getElem (by omega)]
  exact List.getElem_mem _
theorem cont_no {l : Lpm.LL} {n : Nat} {x : Int × Int} (h : l.length = n) (hx : ∀ k, k < n → l[k]?.getD (0, 0) ≠ x) : l.contains x = false := by
  rw [Bool.eq_false_iff, Ne, List.contains_iff_mem]
  intro hm
  obtain ⟨i, hi, e⟩ := List.getElem_of_mem hm
  exact hx i (by omega) (by rw [List.getElem?_eq_getElem hi]; exact e)
end Go.Proofs.YtcnenkhgbifmmaaDoor
