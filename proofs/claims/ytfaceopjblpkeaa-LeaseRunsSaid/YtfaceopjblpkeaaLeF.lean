/- Contracts of slices.Clone over leases, and of lease.Grant. -/
import Derived.Test.YtfaceopjblpkeaaLeE
import Derived.Lib.SliceRun
set_option linter.unusedVariables false
namespace Go.Proofs.Ytfaceopjblpkeaa
open Go.RowKit
theorem cells3_one (l : List Lem.T3) : ∀ u ∈ cells3 l, u.oneCell' = true := by
  intro u hu
  unfold cells3 at hu
  rw [List.mem_flatMap] at hu
  obtain ⟨x, -, hx⟩ := hu
  simp at hx
  rcases hx with rfl | rfl | rfl <;> rfl
theorem Ls.news {B : Nat} {W : World} {b off n : Nat} {l : List Lem.T3} (h : Ls B W (some ⟨b, off, none⟩) n l) : ∀ j u, (cells3 l)[j]? = some u → W.cell? ((⟨b, off, none⟩ : Addr).add j) = some u := by
  intro j u hu
  have hj : j < l.length * 3 := by
    rcases Nat.lt_or_ge j (cells3 l).length with h1 | h1
    · rw [cells3_len] at h1; exact h1
    · rw [List.getElem?_eq_none h1] at hu; cases hu
  obtain ⟨b', off', e, -, hc⟩ := h.2 (by have := h.1; omega)
  simp only [Option.some.injEq, Addr.mk.injEq, and_true] at e
  obtain ⟨rfl, rfl⟩ := e
  have ad : (⟨b, off, none⟩ : Addr).add j = ⟨b, off + j, none⟩ := by unfold Addr.add; split <;> simp_all
  rw [ad]
  have hq := hc (j / 3) (by have := h.1; omega)
  have hr := cells3_at l (j / 3) (by omega)
  rcases (show j % 3 = 0 ∨ j % 3 = 1 ∨ j % 3 = 2 by omega) with h0 | h0 | h0
  · have e : j = j / 3 * 3 := by omega
    rw [e] at hu ⊢
    rw [hr.1] at hu; cases hu
    rw [show off + j / 3 * 3 = off + j / 3 * 3 from rfl]; exact hq.1
  · have e : j = j / 3 * 3 + 1 := by omega
    rw [e] at hu ⊢
    rw [hr.2.1] at hu; cases hu
    rw [← Nat.add_assoc]; exact hq.2.1
  · have e : j = j / 3 * 3 + 2 := by omega
    rw [e] at hu ⊢
    rw [hr.2.2] at hu; cases hu
    rw [← Nat.add_assoc]; exact hq.2.2
set_option maxHeartbeats 1000000 in
theorem Clone_any (A : Option Addr) (n c : Nat) (l : List Lem.T3) (w : World) (hl : Lin w A n c l) (hn : n ≤ 70) :
    Calls Try.prog 30 #[.slice A n c] w (OwnPost l w) := by
  obtain ⟨hls, hnc, hcap, hnil⟩ := hl
  have hlen := Lib.hid hls.1
  cases A with
  | none =>
    obtain rfl : c = 0 := hnil rfl
    obtain rfl : n = 0 := by omega
    have hz : l = [] := List.eq_nil_of_length_eq_zero hls.1
    subst hz
    clear hls hnil hlen
    have hnl := fun (w : World) (a : Option Addr) (n c : Nat) => Lib.run_eql_slice_nil (P := Try.prog) w 22 tL a n c 0 0 Try.underlying22
    go_enter Try.func30, Try.ntmps30
    go_wp2
    go_ret
    exact ⟨_, rfl, Own.nil _ _, Below.refl _ _⟩
  | some a =>
    obtain ⟨i0, hi, hz0, hz1, hz2⟩ := info_parts infoLease
    have hnews : Hid (∀ j u, (cells3 l)[j]? = some u → (w.alloc (.cells #[] tL)).cell? (a.add j) = some u) := Lib.hid (by
      by_cases h0 : 0 < n
      · obtain ⟨b, off, e, -, -⟩ := hls.2 h0
        cases e
        exact ((hls.below ((Below.refl _ _).alloc (Nat.le_refl _) _))).news
      · have hz : l = [] := List.eq_nil_of_length_eq_zero (by rw [hls.1]; omega)
        subst hz
        intro j u hu; simp [cells3] at hu)
    clear hls hnil
    have hmade := Lib.hid (World.ownsRow_made (base := w.heap.size) (e := tL) (size := 3) w #[] 0 (Nat.le_refl _) (by unfold maxLen; omega) (by simp))
    have hb0 : Below w.heap.size w (w.alloc (.cells #[] tL)) := (Below.refl _ _).alloc (Nat.le_refl _) _
    have hnl := fun (w : World) (a : Option Addr) (n c : Nat) => Lib.run_eql_slice_nil (P := Try.prog) w 22 tL a n c 0 0 Try.underlying22
    go_enter Try.func30, Try.ntmps30
    go_wp2_with (at_builtin; refine wpList_append_own_at _ rfl _ _ 22 rfl w.heap.size tL i0 (.agg #[.int .i64 0, .int .i64 0, .int .i64 0]) 3 24 Try.underlying22 hi hz0 hz1 hz2 rfl (by decide) _ 0 [] rfl hmade.out a n c (cells3 l) rfl (by rw [cells3_len, hlen.out]) hnews.out (cells3_one l) (by unfold maxLen; omega) (by omega) (by simp) ?_; intro v' w2 hown' hgrow _ _)
    simp only [Nat.zero_add, List.nil_append] at hown'
    have ho : Own w.heap.size w2 v' l := by unfold Own; rw [hlen.out]; exact hown'
    have hb2 := Below.grown hb0 hgrow (by simp) (fun g hg => (hmade.out.lt g hg).1)
    clear hown' hgrow
    go_wp2
    go_ret
    exact ⟨_, rfl, ho, hb2⟩
end Go.Proofs.Ytfaceopjblpkeaa
