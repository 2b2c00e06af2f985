/- slices.DeleteFunc over fires. -/
import Derived.Test.YtcnenkhgbifmmaaDoorReP
set_option linter.unusedVariables false
namespace Go.Proofs.YtcnenkhgbifmmaaDoor
open Go.RowKit
def DelPost (B : Nat) (l : Lpm.LL) (w : World) (e : Ending) (w' : World) : Prop := ∃ A k c, e = .returned (.slice A k c) ∧ (A = none → k = 0 ∧ c = 0) ∧ (∀ ad, A = some ad → B ≤ ad.block) ∧ Lp w'.heap.size w' A k l ∧ Below B w w'
theorem arr_lp {W : World} {g n : Nat} {C l : Lpm.LL} (h : Arr W g C) (hg : g < W.heap.size) (hl : l.length = n) (hn : n ≤ C.length) (he : ∀ q, q < n → C[q]?.getD (0, 0) = l[q]?.getD (0, 0)) : Lp W.heap.size W (some ⟨g, 0, none⟩) n l :=
  ⟨hl, fun _ => ⟨g, 0, rfl, hg, fun j hj => by
    obtain ⟨⟨a, b⟩, -⟩ := h j (by omega)
    rw [he j hj] at a b
    simp only [Nat.zero_add]
    exact ⟨a, b⟩⟩⟩
theorem take_getD {C l : Lpm.LL} {i : Nat} (h : C.take i = l) {q : Nat} (hq : q < i) : C[q]?.getD (0, 0) = l[q]?.getD (0, 0) := by
  rw [← h, List.getElem?_take, if_pos hq]
theorem drop_getD {C l : Lpm.LL} {j : Nat} (h : C.drop j = l.drop j) : C[j]?.getD (0, 0) = l[j]?.getD (0, 0) := by
  have := congrArg (fun L : Lpm.LL => L[0]?) h
  simp at this
  rw [this]
/-- what holds of the row in the loop -/
def InLoop (p : Int × Int → Bool) (l C : Lpm.LL) (i j : Nat) : Prop := C.length = l.length ∧ C.take i = (l.take j).filter (fun x => !p x) ∧ C.drop j = l.drop j
theorem in_start {p : Int × Int → Bool} {l : Lpm.LL} {i : Nat} (hi : i < l.length) (hp : p (l[i]?.getD (0, 0)) = true) (hno : ∀ q, q < i → p (l[q]?.getD (0, 0)) = false) : InLoop p l l i (i + 1) := by
  refine ⟨rfl, ?_, rfl⟩
  rw [takeL_snoc rfl hi, List.filter_append]
  have e : (l.take i).filter (fun x => !p x) = l.take i := by
    rw [List.filter_eq_self]
    intro x hx
    obtain ⟨q, hq, e⟩ := List.getElem_of_mem hx
    rw [List.length_take] at hq
    have := hno q (by omega)
    rw [List.getElem?_eq_getElem (by omega)] at this
    rw [List.getElem_take] at e
    simp only [Option.getD_some, e] at this
    simp [this]
  rw [e]; simp [hp]
theorem in_skip {p : Int × Int → Bool} {l C : Lpm.LL} {i j : Nat} (h : InLoop p l C i j) (hj : j < l.length) (hp : p (l[j]?.getD (0, 0)) = true) : InLoop p l C i (j + 1) := by
  obtain ⟨a, b, c⟩ := h
  refine ⟨a, ?_, ?_⟩
  · rw [takeL_snoc rfl hj, List.filter_append, b]; simp [hp]
  · rw [← List.drop_drop, ← List.drop_drop, c]
theorem in_keep {p : Int × Int → Bool} {l C : Lpm.LL} {i j : Nat} (h : InLoop p l C i j) (hij : i < j) (hj : j < l.length) (hp : p (l[j]?.getD (0, 0)) = false) : InLoop p l (C.set i (l[j]?.getD (0, 0))) (i + 1) (j + 1) := by
  obtain ⟨a, b, c⟩ := h
  refine ⟨by rw [List.length_set]; exact a, ?_, ?_⟩
  · rw [takeL_snoc (l := l) rfl hj, List.filter_append, ← b]
    have hl : (C.set i (l[j]?.getD (0, 0))).length = l.length := by rw [List.length_set]; exact a
    rw [takeL_snoc hl (by omega : i < l.length), List.take_set_of_le (Nat.le_refl _)]
    have e : (C.set i (l[j]?.getD (0, 0)))[i]?.getD (0, 0) = l[j]?.getD (0, 0) := by
      rw [List.getElem?_set_self (by omega)]; rfl
    rw [e]; simp [hp]
  · rw [List.drop_set_of_lt (by omega), ← List.drop_drop, ← List.drop_drop, c]
theorem in_end {p : Int × Int → Bool} {l C : Lpm.LL} {i j : Nat} (h : InLoop p l C i j) (hj : l.length ≤ j) : C.take i = l.filter (fun x => !p x) := by
  rw [h.2.1, List.take_of_length_le hj]
theorem arr_some {W : World} {g : Nat} {C : Lpm.LL} (h : Arr W g C) {o : Nat} (ho : o < C.length * 2) : (W.cell? ⟨g, o, none⟩).isSome = true ∧ W.frozen? ⟨g, o, none⟩ = false := by
  obtain ⟨⟨a, b⟩, c, d⟩ := h (o / 2) (by omega)
  rcases (show o = o / 2 * 2 ∨ o = o / 2 * 2 + 1 by omega) with e | e
  · rw [← e] at a c; rw [a]; exact ⟨rfl, c⟩
  · rw [← e] at b d; rw [b]; exact ⟨rfl, d⟩
theorem arr_cut {W : World} {g i : Nat} {C l : Lpm.LL} {zs : List Value} (h : Arr W g C) (hg : g < W.heap.size) (hi : i ≤ C.length) (he : C.take i = l) : Lp (W.setCells g (i * 2) zs).heap.size (W.setCells g (i * 2) zs) (some ⟨g, 0, none⟩) i l := by
  have hs : ∀ (vs : List Value) (o : Nat) (W : World), (W.setCells g o vs).heap.size = W.heap.size := by
    intro vs
    induction vs with
    | nil => intro o W; rfl
    | cons v r ih => intro o W; show ((W.setCell ⟨g, o, none⟩ v).setCells g (o + 1) r).heap.size = _; rw [ih]; simp
  refine ⟨by rw [← he, List.length_take]; omega, fun _ => ⟨g, 0, rfl, by rw [hs]; exact hg, fun q hq => ?_⟩⟩
  obtain ⟨⟨a, b⟩, -⟩ := h q (by omega)
  rw [take_getD he hq] at a b
  simp only [Nat.zero_add]
  exact ⟨by rw [World.cell?_setCells_out _ _ _ _ _ (fun _ _ => .inl (by show q * 2 < i * 2; omega))]; exact a, by rw [World.cell?_setCells_out _ _ _ _ _ (fun _ _ => .inl (by show q * 2 + 1 < i * 2; omega))]; exact b⟩
set_option maxHeartbeats 2000000 in
set_option maxRecDepth 100000 in
theorem deleteF_any (b : Lpm.LL) (t : Int) (ja jt bm B : Nat) (A : Option Addr) (n c : Nat) (l : Lpm.LL) (w : World) (hown : w.ownsRow B tF 2 (.slice A n c) n (cellsL l)) (hlen : l.length = n) (hn : n ≤ 100000) (hc : c ≤ maxLen) (hw : WfL l)
    (hB : B ≤ w.heap.size) (hD : ∀ W, Below B w W → DelAt W b t ja jt bm) :
    Calls Tryd.prog 29 #[.slice A n c, dFn ja jt] w (DelPost B (l.filter (fun x => !delP b t x)) w) := by
  obtain ⟨A', c', hAe, hnc, hA, hL⟩ := own_lp hown hlen
  cases hAe
  have HI := Lib.hid (idx_any b t ja jt bm A n c l w hL (hD _ (Below.refl _ _)) hn hw)
  have HL := Lib.hid hL
  have HLen := Lib.hid hlen
  have hA0 : Hid (A = none → n = 0 ∧ c = 0) := Lib.hid fun h => by have := hA h; omega
  have HD := Lib.hid hD
  have HW := Lib.hid (fun k (hk : k < n) => (hw (l[k]?.getD (0, 0)) (by rw [List.getElem?_eq_getElem (by omega)]; exact List.getElem_mem _)))
  have HO := Lib.hid hown
  unfold maxLen at hc
  clear hown hL hA hD hw hlen
  go_enter Tryd.func29, Tryd.ntmps29
  go_wp2_with fail
  refine HI.out.mono ?_
  rintro e w1 ⟨hb1, ⟨rfl, hall⟩ | ⟨i0, rfl, hi0, hp0, hno⟩⟩
  · have HF : Hid (l.filter (fun x => !delP b t x) = l) := Lib.hid (List.filter_eq_self.2 fun x hx => by rw [hall x hx]; rfl)
    clear hall
    go_wp2
    go_ret
    exact ⟨A, n, c, rfl, hA0.out, own_fresh HO.out, by rw [HF.out]; exact HL.out.go hb1, hb1.mono hB⟩
  · have hi0n : i0 < n := by rw [← HLen.out]; exact hi0
    obtain ⟨ad, rfl⟩ : ∃ ad, A = some ad := by
      cases A with
      | none => have := (hA0.out rfl).1; omega
      | some ad => exact ⟨ad, rfl⟩
    obtain ⟨g, rfl⟩ : ∃ g, ad = ⟨g, 0, none⟩ := by
      obtain ⟨-, ⟨e, -⟩ | ⟨g, cap, cur, e, -⟩⟩ := HO.out
      · cases e
      · cases e; exact ⟨g, rfl⟩
    obtain ⟨hArr, hBg, hgw, -⟩ := arr_of HO.out HLen.out
    have HArr := Lib.hid (hArr.below hb1 hgw)
    have HIn := Lib.hid (in_start hi0 hp0 hno)
    have hb := hb1.mono hB
    have hgw1 : g < w1.heap.size := by have := hb1.size; omega
    have hne : ((i0 : Int) == -1) = false := by first | (simp; done) | (simp; omega)
    clear hArr hi0 hp0 hno hb1 HI
    go_wp2
    go_loopw [5, 6] (fun iv jv wr => ∃ (i j : Nat) (C : Lpm.LL), iv = .int .i64 i ∧ jv = .int .i64 j ∧ i < j ∧ j ≤ n ∧ Hid (InLoop (delP b t) l C i j) ∧ Hid (Arr wr g C) ∧ Below B w wr ∧ g < wr.heap.size) (fun _ jv _ => n - (intOf jv).toNat)
    case atStart => exact ⟨i0, i0 + 1, l, rfl, by go_num, by omega, by omega, HIn, HArr, hb, hgw1⟩
    case round =>
      obtain ⟨i, j, C, rfl, rfl, hij, hjn, hin, harr, hbr, hgr⟩ := hrel
      have hCl : C.length = n := hin.out.1.trans HLen.out
      by_cases hlt : j < n
      · obtain ⟨x, hx⟩ : ∃ x, l[j]?.getD (0, 0) = x := ⟨_, rfl⟩
        have hcx : C[j]?.getD (0, 0) = x := (drop_getD hin.out.2.2).trans hx
        obtain ⟨⟨c0, c1⟩, -⟩ := harr.out j (by omega)
        rw [hcx] at c0 c1
        have HX := Lib.hid (HW.out j hlt)
        rw [hx] at HX
        have HE := Lib.hid hx
        have hbx := Below.goN (Below.refl wr.heap.size wr) (.cells #[.int .i64 x.1, .int .i64 x.2] tF)
        have hbB : Below B w (wr.alloc (.cells #[.int .i64 x.1, .int .i64 x.2] tF)) := hbr.alloc (by have := hbr.size; omega) _
        have HC := Lib.hid (del_any b t ja jt bm x _ (HD.out _ hbB) HX.out)
        have j0 : (0 : Int) ≤ (j : Int) := by omega
        have j1 : (j : Int) < (n : Int) := by omega
        have k0 : (0 : Int) ≤ (i : Int) := by omega
        have k1 : (i : Int) < (n : Int) := by omega
        clear hcx hx
        cases hp : delP b t x
        · have HIn2 := Lib.hid (in_keep hin.out hij (by rw [HLen.out]; exact hlt) (by rw [HE.out]; exact hp))
          rw [HE.out] at HIn2
          rw [hp] at HC
          clear hp
          go_wp2_with fail
          refine HC.out.mono ?_
          rintro e w5 ⟨rfl, hb5⟩
          have hb6 := Below.go hbx hb5
          have harr5 := Lib.hid (harr.out.below hb6 hgr)
          obtain ⟨⟨a0, a1⟩, a2, a3⟩ := harr5.out i (by omega)
          obtain ⟨⟨e0, e1⟩, -⟩ := blk2 (keep' (heap_new wr (.cells #[.int .i64 x.1, .int .i64 x.2] tF)) hb5)
          have hbB5 : Below B w w5 := hbB.trans (hb5.mono (by have := hbr.size; simp; omega))
          have hg5 : g < w5.heap.size := by have := hb6.size; omega
          have HSet := Lib.hid (harr5.out.set (i := i) (by omega) x.1 x.2)
          clear hb5 c0 c1
          go_wp2
          go_roundw
          case rel => exact ⟨i + 1, j + 1, _, by go_num, by go_num, by omega, by omega, HIn2, HSet, (hbB5.setCell (p := ⟨g, i * 2, none⟩) hBg _).setCell (p := ⟨g, i * 2 + 1, none⟩) hBg _, by simpa using hg5⟩
          case measure => simp [intOf]; omega
        · have HIn2 := Lib.hid (in_skip hin.out (by rw [HLen.out]; exact hlt) (by rw [HE.out]; exact hp))
          rw [hp] at HC
          clear hp
          go_wp2_with fail
          refine HC.out.mono ?_
          rintro e w5 ⟨rfl, hb5⟩
          have hb6 := Below.go hbx hb5
          have harr5 := Lib.hid (harr.out.below hb6 hgr)
          have hbB5 : Below B w w5 := hbB.trans (hb5.mono (by have := hbr.size; simp; omega))
          have hg5 : g < w5.heap.size := by have := hb6.size; omega
          clear hb5 c0 c1
          go_wp2
          go_roundw
          case rel => exact ⟨i, j + 1, C, rfl, by go_num, by omega, by omega, HIn2, harr5, hbB5, hg5⟩
          case measure => simp [intOf]; omega
      · obtain rfl : j = n := by omega
        have k0 : (0 : Int) ≤ (i : Int) := by omega
        have k1 : (i : Int) ≤ (j : Int) := by omega
        have k2 : (i : Int) < (c : Int) := by omega
        have k3 : ¬ (c = i) := by omega
        have hcl := clear_run wr 0 g (i * 2) (j - i) (c - i) (by omega) (fun q hq => (arr_some harr.out (by omega)).1) (fun q hq => (arr_some harr.out (by omega)).2)
        obtain ⟨zs, hcl⟩ := hcl
        have HCut := Lib.hid (arr_cut (zs := zs) harr.out hgr (by omega) (in_end hin.out (by rw [HLen.out]; exact Nat.le_refl _)))
        have hbz := below_setCells hBg zs (i * 2) wr hbr
        go_wp2
        go_ret
        exact ⟨some ⟨g, 0, none⟩, i, c, rfl, (fun h => by cases h), (fun ad h => by cases h; exact hBg), HCut.out, hbz⟩
end Go.Proofs.YtcnenkhgbifmmaaDoor
