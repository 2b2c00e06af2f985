/- Contracts of package lease's closures, and of Valid. -/
import Derived.Test.YtfaceopjblpkeaaComm
set_option linter.unusedVariables false
namespace Go.Proofs.Ytfaceopjblpkeaa
open Go.RowKit
abbrev oL (x : Lem.T3) : Obj := .cells #[.int .i64 x.1, .int .i64 x.2.1, .int .i64 x.2.2] 42
abbrev oI (a b : Int) : Obj := .cells #[.int .i64 a, .int .i64 b] 24
abbrev oN (n : Int) : Obj := .cells #[.int .i64 n] 3
abbrev ptr (b : Nat) : Value := .pointer (some ⟨b, 0, none⟩)
theorem blk1A {W : World} {k : Nat} {x : Value} {t : TypeId} (h : W.heap[k]? = some (.cells #[x] t)) : W.cell? ⟨k, 0, none⟩ = some x ∧ ∀ o, (W.alloc o).cell? ⟨k, 0, none⟩ = some x := by
  have aux : ∀ W' : World, W'.heap[k]? = some (.cells #[x] t) → W'.cell? ⟨k, 0, none⟩ = some x := fun W' h' => by simp [World.cell?, h']
  exact ⟨aux _ h, fun o => aux _ (keepN h o)⟩
theorem holder_any (v : Int) (w : World) : Calls Try.prog 25 #[.int .i64 v] w (Ret (.bool (Lem.hB v)) w) := by
  go_enter Try.func25, Try.ntmps25
  go_wp2
  all_goals go_ret
  all_goals exact ⟨ret_bool (by unfold Lem.hB; rw [Bool.eq_iff_iff]; simp; try omega), rfl⟩
theorem iValid_any (x y : Int) (w : World) : Calls Try.prog 26 #[I2 x y] w (RetB (.bool (Lem.iV x y)) w) := by
  go_enter Try.func26, Try.ntmps26
  go_wp2
  all_goals go_ret
  all_goals exact ⟨ret_bool (by unfold Lem.iV; rw [Bool.eq_iff_iff]; simp; try omega), (Below.refl _ _).alloc (Nat.le_refl _) _⟩
set_option maxHeartbeats 1000000 in
theorem clV (x y : Lem.T3) (b : Nat) (w : World) (h : w.heap[b]? = some (oL x)) : Calls Try.prog 32 #[L3 y, ptr b] w (RetB (.bool (Lem.clash x y)) w) := by
  obtain ⟨⟨c0, c1, c2⟩, -⟩ := blk3A h
  have hc : Hid (Lem.clash x y = decide (y.1 ≠ x.1 ∧ y.2.1 < x.2.2 ∧ x.2.1 < y.2.2)) := Lib.hid rfl
  clear h
  generalize Lem.clash x y = C at *
  obtain ⟨x0, x1, x2⟩ := x
  obtain ⟨y0, y1, y2⟩ := y
  simp only [] at c0 c1 c2 hc
  by_cases h1 : y0 = x0
  · have hq : (y0 != x0) = false := by simpa using h1
    clear h1
    go_enter Try.func32, Try.ntmps32
    go_wp2
    go_ret
    exact ⟨ret_bool (by rw [hc.out]; simp at hq; simp [hq]), (Below.refl _ _).alloc (Nat.le_refl _) _⟩
  · have hq : (y0 != x0) = true := by simpa using h1
    go_enter Try.func32, Try.ntmps32
    go_wp2
    all_goals go_ret
    all_goals exact ⟨ret_bool (by rw [hc.out, Bool.eq_iff_iff]; simp [h1]; try omega), (Below.refl _ _).alloc (Nat.le_refl _) _⟩
theorem form_ways {x : Lem.T3} (h : Lem.form x = false) : Lem.hB x.1 = false ∨ Lem.hB x.1 = true ∧ ¬ (0 ≤ x.2.1 ∧ x.2.1 < x.2.2 ∧ x.2.2 ≤ 3000000000000000) := by
  have := of_decide_eq_false h
  cases hh : Lem.hB x.1
  · exact .inl rfl
  · have := Lem.hB_bd hh; exact .inr ⟨rfl, by omega⟩
theorem form_bd {x : Lem.T3} (h : Lem.form x = true) : Lem.hB x.1 = true ∧ 0 ≤ x.2.1 ∧ x.2.1 < x.2.2 ∧ x.2.2 ≤ 3000000000000000 := by
  have := of_decide_eq_true h
  exact ⟨Lem.hB_yes ⟨by omega, by omega⟩, by omega, by omega, by omega⟩
theorem Ls.take {B : Nat} {W : World} {A : Option Addr} {n m : Nat} {l : List Lem.T3} (h : Ls B W A n l) (hm : m ≤ n) : Ls B W A m (l.take m) := by
  refine ⟨by have := h.1; simp; omega, fun hp => ?_⟩
  obtain ⟨b, off, e, hB, hc⟩ := h.2 (by omega)
  have e2 : ∀ j, j < m → Lem.at' (l.take m) j = Lem.at' l j := fun j hj => by unfold Lem.at'; rw [List.getElem?_take, if_pos hj]
  exact ⟨b, off, e, hB, fun j hj => by rw [e2 j hj]; exact hc j (by omega)⟩
theorem valid_no {l : List Lem.T3} {k n : Nat} (hl : l.length = n) (hk : k < n) (h : Lem.form (Lem.at' l k) = false ∨ (l.take k).any (Lem.clash (Lem.at' l k)) = true) : Lem.valid l = false := by
  have : Lem.vp l (k + 1) = false := by rcases h with h | h <;> simp [Lem.vp, h]
  unfold Lem.valid; rw [hl, Lem.vp_false (by omega) this]; rfl
set_option maxHeartbeats 2000000 in
set_option maxRecDepth 100000 in
theorem Valid_any (A : Option Addr) (n c : Nat) (l : List Lem.T3) (w : World) (hl : Ls w.heap.size w A n l) (hn : n ≤ 70) (hnc : n ≤ c) (hcap : c ≤ 9223372036854775807) :
    Calls Try.prog 13 #[.slice A n c] w (RetB (.bool (Lem.valid l)) w) := by
  have HL := Lib.hid hl
  obtain ⟨hlen, hcell⟩ := hl
  have Hlen := Lib.hid hlen
  clear hlen
  go_enter Try.func13, Try.ntmps13
  go_wp2
  go_loopw [8] (fun i wr => ∃ k : Nat, k ≤ n ∧ i = .int .i64 k ∧ Hid (Lem.vp l k = true) ∧ Below w.heap.size w wr) (fun i _ => n - (intOf i).toNat)
  case atStart => exact ⟨0, Nat.zero_le _, rfl, Lib.hid rfl, Below.refl _ _⟩
  case round =>
    obtain ⟨k, hk, rfl, hv, hb⟩ := hrel
    by_cases hlt : k < n
    · obtain ⟨b, off, rfl, hbB, hc⟩ := hcell (by omega)
      obtain ⟨c0, c1, c2⟩ := hc k hlt
      have c0 := (hb.cell (p := ⟨b, off + k * 3, none⟩) hbB).trans c0
      have c1 := (hb.cell (p := ⟨b, off + k * 3 + 1, none⟩) hbB).trans c1
      have c2 := (hb.cell (p := ⟨b, off + k * 3 + 2, none⟩) hbB).trans c2
      have hno := Lib.hid (valid_no Hlen.out hlt)
      have hvs : Hid (Lem.vp l (k + 1) = (Lem.vp l k && (Lem.form (Lem.at' l k) && !(l.take k).any (Lem.clash (Lem.at' l k))))) := Lib.hid rfl
      clear hc hcell
      generalize Lem.at' l k = x at *
      cases hf : Lem.form x
      · rcases form_ways hf with h1 | ⟨h1, h2⟩
        all_goals
          go_wp2_with (go_at_call 25; refine (holder_any _ _).mono ?_; rintro e w' ⟨rfl, rfl⟩)
          all_goals go_ret
          all_goals exact ⟨ret_bool (hno.out (.inl hf)).symm, hb.alloc hb.size _⟩
      · obtain ⟨h1, h2, h3, h4⟩ := form_bd hf
        have hLs : Ls (wr.alloc (oL x)).heap.size (wr.alloc (oL x)) (some ⟨b, off, none⟩) k (l.take k) := ((HL.out.below (hb.alloc hb.size (oL x))).mono (by have := hb.size; simp; omega)).take (by omega)
        have hcon := Lib.hid (contains_V (ptr wr.heap.size) (Lem.clash x) (some ⟨b, off, none⟩) k c (l.take k) (wr.alloc (oL x)) hLs (by omega) (fun y w' hb' => clV x y _ w' (keep' (heap_new wr _) hb')))
        clear hLs
        cases hcl : (l.take k).any (Lem.clash x)
        · rw [hcl] at hcon
          go_wp2_with (first | (go_at_call 25; refine (holder_any _ _).mono ?_; rintro e w' ⟨rfl, rfl⟩) | (go_at_call 29; refine hcon.out.mono ?_; rintro e w1 ⟨rfl, hb1⟩; have hb2 := Below.goA hb hb1))
          go_roundw
          case rel => exact ⟨k + 1, by omega, by go_num, Lib.hid (by rw [hvs.out, hv.out, hf, hcl]; rfl), hb2⟩
          case measure => simp [intOf]; omega
        · rw [hcl] at hcon
          go_wp2_with (first | (go_at_call 25; refine (holder_any _ _).mono ?_; rintro e w' ⟨rfl, rfl⟩) | (go_at_call 29; refine hcon.out.mono ?_; rintro e w1 ⟨rfl, hb1⟩; have hb2 := Below.goA hb hb1))
          go_ret
          exact ⟨ret_bool (hno.out (.inr hcl)).symm, hb2⟩
    · obtain rfl : k = n := by omega
      have hz : Hid (Lem.valid l = decide ((k : Int) ≤ 64)) := Lib.hid (by unfold Lem.valid; rw [Hlen.out, hv.out, Bool.true_and, decide_eq_decide]; omega)
      go_wp2
      go_ret
      exact ⟨ret_bool (by rw [hz.out]), hb⟩
end Go.Proofs.Ytfaceopjblpkeaa
