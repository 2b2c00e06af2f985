/- Plain facts on leases. No program in sight. -/
set_option linter.unusedVariables false
namespace Go.Proofs.Ytfaceopjblpkeaa.Lem
abbrev T3 := Int × Int × Int
def hB (n : Int) : Bool := decide (1 ≤ n ∧ n ≤ 64)
def iV (lo hi : Int) : Bool := decide (0 ≤ lo ∧ lo ≤ hi ∧ hi ≤ 3000000000000000)
theorem hB_bd {n : Int} (h : hB n = true) : 1 ≤ n ∧ n ≤ 64 := of_decide_eq_true h
theorem hB_no {n : Int} (h : hB n = false) : ¬ (1 ≤ n ∧ n ≤ 64) := of_decide_eq_false h
theorem hB_yes {n : Int} (h : 1 ≤ n ∧ n ≤ 64) : hB n = true := decide_eq_true h
theorem iV_bd {x y : Int} (h : iV x y = true) : 0 ≤ x ∧ x ≤ y ∧ y ≤ 3000000000000000 := of_decide_eq_true h
theorem iV_no {x y : Int} (h : iV x y = false) : ¬ (0 ≤ x ∧ x ≤ y ∧ y ≤ 3000000000000000) := of_decide_eq_false h
theorem iV_yes {x y : Int} (h : 0 ≤ x ∧ x ≤ y ∧ y ≤ 3000000000000000) : iV x y = true := decide_eq_true h
def form (x : T3) : Bool := decide (1 ≤ x.1 ∧ x.1 ≤ 64 ∧ 0 ≤ x.2.1 ∧ x.2.1 < x.2.2 ∧ x.2.2 ≤ 3000000000000000)
/-- x clashes with y -/
def clash (x y : T3) : Bool := decide (y.1 ≠ x.1 ∧ y.2.1 < x.2.2 ∧ x.2.1 < y.2.2)
def at' (l : List T3) (k : Nat) : T3 := l[k]?.getD (0, 0, 0)
/-- the first k leases are well-formed -/
def vp (l : List T3) : Nat → Bool
  | 0 => true
  | k + 1 => vp l k && (form (at' l k) && !(l.take k).any (clash (at' l k)))
def valid (l : List T3) : Bool := vp l l.length && decide (l.length ≤ 64)
def lets (h lo hi : Int) (x : T3) : Bool := decide (x.1 = h ∧ x.2.1 ≤ lo ∧ hi < x.2.2)
def over (lo : Int) (x : T3) : Bool := decide (x.2.2 ≤ lo)
def blocks (h lo : Int) (x : T3) : Bool := decide (x.1 ≠ h) && !over lo x
def stays (lo : Int) (x : T3) : Bool := !over lo x
def seB (l : List T3) (h lo hi : Int) : Bool := valid l && hB h && iV lo hi
def seE (l : List T3) (h lo hi : Int) : Int := if seB l h lo hi then 0 else 1
def seV (l : List T3) (h lo hi : Int) : Bool := seB l h lo hi && l.any (lets h lo hi)
def grB (l : List T3) (h len lo hi : Int) : Bool := valid l && hB h && decide (1 ≤ len) && decide (len ≤ 3000000000000000) && iV lo hi
def grE (l : List T3) (h len lo hi : Int) : Int :=
  if grB l h len lo hi then (if 3000000000000000 < lo + len then 3 else if l.any (blocks h lo) then 62 else if l.length = 64 then 2 else 0) else 1
def grL (l : List T3) (h len lo hi : Int) : List T3 := if grE l h len lo hi = 0 then l ++ [(h, lo, lo + len)] else []
def drB (l : List T3) (lo hi : Int) : Bool := valid l && iV lo hi
def drE (l : List T3) (lo hi : Int) : Int := if drB l lo hi then 0 else 1
def drL (l : List T3) (lo hi : Int) : List T3 := if drB l lo hi then l.filter (stays lo) else []
def frV (l : List T3) (lo hi : Int) : Bool := drB l lo hi && decide ((drL l lo hi).length = 0)
theorem drop_cons {l : List T3} {k n : Nat} (h : l.length = n) (hk : k < n) : l.drop k = at' l k :: l.drop (k + 1) := by
  unfold at'; rw [List.drop_eq_getElem_cons (by omega)]; simp [show k < l.length by omega]
theorem take_snoc {l : List T3} {k n : Nat} (h : l.length = n) (hk : k < n) : l.take (k + 1) = l.take k ++ [at' l k] := by
  unfold at'; rw [List.take_succ_eq_append_getElem (by omega)]; simp [show k < l.length by omega]
theorem any_snoc {l : List T3} {k n : Nat} (p : T3 → Bool) (h : l.length = n) (hk : k < n) : (l.take (k + 1)).any p = ((l.take k).any p || p (at' l k)) := by
  rw [take_snoc h hk, List.any_append]; simp
theorem filter_snoc {l : List T3} {k n : Nat} (p : T3 → Bool) (h : l.length = n) (hk : k < n) : (l.take (k + 1)).filter p = (l.take k).filter p ++ (if p (at' l k) then [at' l k] else []) := by
  rw [take_snoc h hk, List.filter_append]; simp [List.filter_cons]
theorem vp_false {l : List T3} {k n : Nat} (hk : k ≤ n) (h : vp l k = false) : vp l n = false := by
  induction n with
  | zero => have hz : k = 0 := by omega
            rw [← hz]; exact h
  | succ m ih =>
    by_cases he : k = m + 1
    · rw [← he]; exact h
    · have := ih (by omega)
      simp [vp, this]
theorem any_take {l : List T3} {k : Nat} {p : T3 → Bool} (h : (l.take k).any p = true) : l.any p = true := by
  rw [List.any_eq_true] at *; obtain ⟨x, hx, hp⟩ := h; exact ⟨x, List.mem_of_mem_take hx, hp⟩
end Go.Proofs.Ytfaceopjblpkeaa.Lem
