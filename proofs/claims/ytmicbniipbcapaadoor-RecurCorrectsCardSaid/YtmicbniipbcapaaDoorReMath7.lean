/- Plain facts on corrections: the fires by the old table, without those that fall away, with those that come instead, are those by the new table. No program in sight. -/
import Derived.Test.YtmicbniipbcapaaDoorReMath6
set_option linter.unusedVariables false
namespace Go.Proofs.YtmicbniipbcapaaDoor.Rc
open Lpm
theorem fires_nodup {l : LL} {r : Rec} (hv : valid l = true) (hr : validB r = true) : (fires l r).Nodup := by
  have hs : (days r).Pairwise (· < ·) := daysTo_sorted _ _
  have hV := (of_decide_eq_true hr : Val r).2.1
  have h := firesOf_rise hv hr (days r) hs fun d hd => by
    obtain ⟨a, b, -⟩ := mem_days.1 hd
    omega
  exact h.imp fun {a b} hab e => by subst e; omega
/-- the fires after a time -/
def aft (a : LL) (t : Int) : LL := a.filter fun x => decide (t < x.2)
theorem count_snoc (L : LL) (x y : Int × Int) : (L ++ [x]).count y = L.count y + if x = y then 1 else 0 := by
  rw [List.count_append, List.count_singleton]
  by_cases h : x = y
  · subst h; simp
  · simp [h]
theorem count_nodup {L : LL} (h : L.Nodup) (x : Int × Int) : L.count x = if x ∈ L then 1 else 0 := by
  by_cases hx : x ∈ L
  · rw [if_pos hx, h.count, if_pos hx]
  · rw [if_neg hx, List.count_eq_zero_of_not_mem hx]
theorem net_zero {a b : LL} (ha : a.Nodup) (hb : b.Nodup) (t : Int) (x : Int × Int) : ((aft a t).count x : Int) - (less a b t).count x + (less b a t).count x - (aft b t).count x = 0 := by
  have e1 := count_nodup (L := aft a t) (ha.filter _) x
  have e2 := count_nodup (L := aft b t) (hb.filter _) x
  have e3 := count_nodup (L := less a b t) (ha.filter _) x
  have e4 := count_nodup (L := less b a t) (hb.filter _) x
  rw [e1, e2, e3, e4]
  unfold less aft
  simp only [List.mem_filter, Bool.and_eq_true, Bool.not_eq_true', decide_eq_true_iff, List.contains_iff_mem, Bool.eq_false_iff, ne_eq]
  by_cases p : x ∈ a <;> by_cases q : x ∈ b <;> by_cases u : t < x.2 <;> simp [p, q, u]
theorem aft_yes {l : LL} {k n : Nat} {x : Int × Int} {t : Int} (h : l.length = n) (hk : k < n) (hx : l[k]?.getD (0, 0) = x) (hp : t < x.2) : aft (l.take (k + 1)) t = aft (l.take k) t ++ [x] := by
  unfold aft
  have e : l.take (k + 1) = l.take k ++ [x] := by
    rw [← hx, List.getElem?_eq_getElem (by omega)]
    simp
  rw [e, List.filter_append]
  simp [hp]
theorem aft_no {l : LL} {k n : Nat} {x : Int × Int} {t : Int} (h : l.length = n) (hk : k < n) (hx : l[k]?.getD (0, 0) = x) (hp : ¬ t < x.2) : aft (l.take (k + 1)) t = aft (l.take k) t := by
  unfold aft
  have e : l.take (k + 1) = l.take k ++ [x] := by
    rw [← hx, List.getElem?_eq_getElem (by omega)]
    simp
  rw [e, List.filter_append]
  simp [hp]
theorem count_le (L : LL) (k : Nat) (hk : L.length ≤ k) (x : Int × Int) : L.count x ≤ k := Nat.le_trans List.count_le_length hk
theorem aft_len (L : LL) (t : Int) : (aft L t).length ≤ L.length := List.length_filter_le _ _
end Go.Proofs.YtmicbniipbcapaaDoor.Rc
