/- The walk of the law SmearLater. -/
import Derived.Test.YtcabegloipllhaaSmS
import Derived.Deep.RegionLaw
set_option linter.unusedVariables false
namespace Go.Proofs.Ytcabegloipllhaa
open Go.RowKit
set_option maxHeartbeats 2000000 in
set_option maxRecDepth 100000 in
theorem lt_zero (A : Option Addr) (c : Nat) (l : Lpm.LL) (h t u X S M V E P V2 E2 P2 : Int) (b2 less : Bool) (w : World) (hn : 0 ≤ 99) (hlen : Hid (l.length = 0)) (hAc : Hid (A = none → c = 0)) (u0 : 0 ≤ u) (u1 : u ≤ 65535) (h0 : 1000000 ≤ h) (h1 : h ≤ 43200000000) (m0 : 0 ≤ M) (m1 : M ≤ 4000000000000000) (hX : u = X) (hS : (if less then -1 else 1) = S)
    (HL : Hid (LpC A 0 l w)) (hC : Hid (CanC A 0 c h true w)) (hT : Hid (ToC A 0 c h t V E w)) (hP : Hid (ApC A 0 c h t P E w))
    (HM : Hid (∀ W A' c', Below w.heap.size w W → Lp W.heap.size W A' (0 + 1) (l ++ [(X, S)]) → CanC A' (0 + 1) c' h b2 W ∧ ToC A' (0 + 1) c' h t V2 E2 W ∧ ApC A' (0 + 1) c' h t P2 E2 W ∧ (b2 = true → MiC A' (0 + 1) c' ((0 : Nat) : Int) M W)))
    (hway : b2 = false ∨ (b2 = true ∧ decide (M - h ≤ t) = true) ∨ (b2 = true ∧ decide (M - h ≤ t) = false ∧ V2 = V ∧ E2 = E ∧ P2 = P)) : Calls Try.prog 7 #[.slice A 0 c, .int .i64 h, .int .i64 t, .int .u16 u, .bool less] w (LawPost w) := by
  have hb := Below.refl w.heap.size w
  obtain ⟨i0, hi, hz0, hz1, hz2⟩ := info_parts infoLp
  cases less
  · skip
    have hXS := hS
    simp only [if_false, Bool.false_eq_true] at hXS
    have HX := Lib.hid hX
    have HSS := Lib.hid hXS
    clear hS hXS
    clear hX
    go_enter Try.func7, Try.ntmps7
    go_wp2_with fail
    refine (head_any _).mono ?_
    rintro e wN ⟨rfl, hn⟩
    have hb := (by first | exact Below.go hb hn | exact Below.goA hb hn | exact Below.goAA hb hn | exact Below.goD hb hn | exact Below.goAD hb hn : Below w.heap.size w wN)
    clear hn
    go_wp2_with fail
    refine (hC.out _ hb).mono ?_
    rintro e w2 ⟨rfl, hn⟩
    have hb := (by first | exact Below.go hb hn | exact Below.goA hb hn | exact Below.goAA hb hn | exact Below.goD hb hn | exact Below.goAD hb hn : Below w.heap.size w w2)
    clear hn
    have kx := Lib.hid (heap_new w2 (oLp u 1))
    have hsz2 := hb.size
    have hbo := hb
    have hb := Below.goN hb (oLp u 1)
    have kx0 := fun o => (blk2A kx.out).1.1 o
    go_wp2_with fail
    have kx5 : Hid ((w2.alloc (oLp u 1)).heap[w2.heap.size]? = some (oLp X S)) := Lib.hid (by rw [← HSS.out, ← HX.out]; exact kx.out)
    have hb5 : Below w.heap.size w (w2.alloc (oLp u 1)) := hb
    generalize (w2.alloc (oLp u 1)) = w5 at *
    generalize w2.heap.size = k at *
    have hb := hb5
    clear hb5 hsz2 kx kx0
    have hr0 := Below.refl w5.heap.size w5
    have hrE := (hr0.alloc (Nat.le_refl _) (.cells #[] tLp)).drew
    have hrEX := hrE.alloc (by simp) (oLp X S)
    have hkEX : Hid (((w5.alloc (.cells #[] tLp)).drew.alloc (oLp X S)).heap[w5.heap.size + 1]? = some (oLp X S)) := Lib.hid (by have := heap_new (w5.alloc (.cells #[] tLp)).drew (oLp X S); simpa using this)
    have HLd : Hid (∀ W, Below w5.heap.size w5 W → Lp W.heap.size W A 0 l) := Lib.hid fun W hW => HL.out _ (Below.go hb hW)
    have HS : Hid (∀ W, Below w5.heap.size w5 W → W.cell? ⟨k, 0, none⟩ = some (.int .i64 X) ∧ W.cell? ⟨k, 1, none⟩ = some (.int .i64 S)) := Lib.hid fun W hW => (blk2 (keep' kx5.out hW)).1
    go_wp2_with fail
    have hmX : Hid (((w5.drew.alloc (oLp X S)).alloc (.cells #[] tLp)).ownsRow w5.heap.size tLp 2 (.slice (some ⟨w5.heap.size + 1, 0, none⟩) 0 0) 0 []) := Lib.hid (by have := (World.ownsRow_made (base := w5.heap.size) (e := tLp) (size := 2) (w5.drew.alloc (oLp X S)) #[] 0 (by simp) (by unfold maxLen; omega) (by simp)); rw [World.size_alloc] at this; exact this)
    have hr1 := hr0.drew
    have hrX := hr1.alloc (Nat.le_refl _) (oLp X S)
    have hrXE := hrX.alloc (by simp) (.cells #[] tLp)
    have hkXE := Lib.hid (new0 w5.drew (oLp X S) (.cells #[] tLp))
    have c2 := (HS.out _ hr1).1
    have c3 := (HS.out _ hr1).2
    have c0 := (HS.out _ hrE).1
    have c1 := (HS.out _ hrE).2
    go_region_law
      (first
        | (refine step_app (by rfl) _ _ _ (by rfl) w5.heap.size tLp i0 (.agg #[.int .i64 0, .int .i64 0]) 2 16 Try.underlying22 hi hz0 hz1 hz2 rfl (by decide) _ 0 [] (by rfl) (World.ownsRow.drew (World.ownsRow_made (base := w5.heap.size) (e := tLp) (size := 2) w5 #[] 0 (by simp) (by unfold maxLen; omega) (by simp))) A 0 c (cellsL l) (by rfl) (by rw [cellsL_len, hlen.out]) (fun e => ⟨rfl, hAc.out e⟩) (lp_news (HLd.out _ hrE)) (cellsL_one l) (by unfold maxLen; omega) (by omega) (by simp; try omega) ?_; intro v6 w6 hown6 hgrow6; have hw6 := Below.grown hrE hgrow6 (by simp; try omega) (fun g hg => (((World.ownsRow.drew (World.ownsRow_made (base := w5.heap.size) (e := tLp) (size := 2) w5 #[] 0 (by simp) (by unfold maxLen; omega) (by simp)))).lt g hg).1); have c60 := (HS.out _ hw6).1; have c61 := (HS.out _ hw6).2)
        | (refine step_app (by rfl) _ _ _ (by rfl) w5.heap.size tLp i0 (.agg #[.int .i64 0, .int .i64 0]) 2 16 Try.underlying22 hi hz0 hz1 hz2 rfl (by decide) _ 0 [] (by rfl) (World.ownsRow.alloc (World.ownsRow.drew (World.ownsRow_made (base := w5.heap.size) (e := tLp) (size := 2) w5 #[] 0 (by simp) (by unfold maxLen; omega) (by simp))) (oLp X S)) A 0 c (cellsL l) (by rfl) (by rw [cellsL_len, hlen.out]) (fun e => ⟨rfl, hAc.out e⟩) (lp_news (HLd.out _ hrEX)) (cellsL_one l) (by unfold maxLen; omega) (by omega) (by simp; try omega) ?_; intro v6 w6 hown6 hgrow6; have hw6 := Below.grown hrEX hgrow6 (by simp; try omega) (fun g hg => ((World.ownsRow.alloc (World.ownsRow.drew (World.ownsRow_made (base := w5.heap.size) (e := tLp) (size := 2) w5 #[] 0 (by simp) (by unfold maxLen; omega) (by simp))) (oLp X S)).lt g hg).1); have c60 := (HS.out _ hw6).1; have c61 := (HS.out _ hw6).2; have kX := (hgrow6.block (w5.heap.size + 1) (by simp) (by simp [Value.ownBlock])).trans hkEX.out)
        | (refine step_app (by rfl) _ _ _ (by rfl) w5.heap.size tLp i0 (.agg #[.int .i64 0, .int .i64 0]) 2 16 Try.underlying22 hi hz0 hz1 hz2 rfl (by decide) _ 0 [] (by rfl) hmX.out A 0 c (cellsL l) (by rfl) (by rw [cellsL_len, hlen.out]) (fun e => ⟨rfl, hAc.out e⟩) (lp_news (HLd.out _ hrXE)) (cellsL_one l) (by unfold maxLen; omega) (by omega) (by simp; try omega) ?_; intro v6 w6 hown6 hgrow6; have hw6 := Below.grown hrXE hgrow6 (by simp; try omega) (fun g hg => ((hmX.out).lt g hg).1); have c60 := (HS.out _ hw6).1; have c61 := (HS.out _ hw6).2; have kX := (hgrow6.block w5.heap.size (by first | (simp; done) | (simp; omega)) (by simp [Value.ownBlock])).trans hkXE.out)
        | (refine step_app (by rfl) _ _ _ (by rfl) w5.heap.size tLp i0 (.agg #[.int .i64 0, .int .i64 0]) 2 16 Try.underlying22 hi hz0 hz1 hz2 rfl (by decide) _ (0 + 0) ([] ++ cellsL l) (by rfl) hown6 (some ⟨w5.heap.size + 1, 0, none⟩) 1 1 [.int .i64 X, .int .i64 S] (by rfl) (by rfl) (fun h => by cases h) (fun ad h => by cases h; exact World.news_of_block kX) (by simp [Value.oneCell']) (by unfold maxLen; omega) (by omega) (by have := hw6.size; simp; try omega) ?_; intro v8 w8 hown8 hgrow8; have hw8 := Below.grown hw6 hgrow8 (by have := hw6.size; simp; try omega) (fun g hg => (hown6.lt g hg).1))
        | (refine step_app (by rfl) _ _ _ (by rfl) w5.heap.size tLp i0 (.agg #[.int .i64 0, .int .i64 0]) 2 16 Try.underlying22 hi hz0 hz1 hz2 rfl (by decide) _ (0 + 0) ([] ++ cellsL l) (by rfl) hown6 (some ⟨w5.heap.size, 0, none⟩) 1 1 [.int .i64 X, .int .i64 S] (by rfl) (by rfl) (fun h => by cases h) (fun ad h => by cases h; exact World.news_of_block kX) (by simp [Value.oneCell']) (by unfold maxLen; omega) (by omega) (by have := hw6.size; simp; try omega) ?_; intro v8 w8 hown8 hgrow8; have hw8 := Below.grown hw6 hgrow8 (by have := hw6.size; simp; try omega) (fun g hg => (hown6.lt g hg).1))
        | (refine step_app (by rfl) _ _ _ (by rfl) w5.heap.size tLp i0 (.agg #[.int .i64 0, .int .i64 0]) 2 16 Try.underlying22 hi hz0 hz1 hz2 rfl (by decide) _ (0 + 0) ([] ++ cellsL l) (by rfl) (hown6.alloc (oLp X S)) (some ⟨w6.heap.size, 0, none⟩) 1 1 [.int .i64 X, .int .i64 S] (by rfl) (by rfl) (fun h => by cases h) (fun ad h => by cases h; exact World.news_of_block (heap_new w6 (oLp X S))) (by simp [Value.oneCell']) (by unfold maxLen; omega) (by omega) (by have := hw6.size; simp; try omega) ?_; intro v8 w8 hown8 hgrow8; have hw8 := Below.grown (hw6.alloc hw6.size (oLp X S)) hgrow8 (by have := hw6.size; simp; try omega) (fun g hg => (hown6.lt g hg).1)))
    all_goals
      have hown9 : w8.ownsRow w5.heap.size tLp 2 v8 (0 + 1) (cellsL (l ++ [(X, S)])) := by
        have := hown8
        simp only [List.nil_append, Nat.zero_add] at this
        rw [cellsL_app]; exact this
      obtain ⟨A', c', rfl, hL'⟩ := lp_own hown9 (by simp [hlen.out])
      have hb8 := Below.go hb hw8
      have HT := Lib.hid (HM.out _ A' c' hb8 hL')
      have h8 := Below.refl w8.heap.size w8
      clear hown8 hown9 hL' hgrow8 hgrow6 hown6 hw8 hw6 HS HLd hr0 hr1 hmX hrX hrXE hkXE hrE hrEX hkEX
      rcases hway with rfl | ⟨rfl, w1⟩ | ⟨rfl, w1, rfl, rfl, rfl⟩
      · skip
        go_wp2_with fail
        refine (HT.out.1 _ h8).mono ?_
        rintro e wa ⟨rfl, hna⟩
        have h8 := Below.go h8 hna
        clear hna
        go_wp2
        go_ret
        exact ⟨by simp, Below.go hb8 h8⟩
      · skip
        go_wp2_with fail
        refine (HT.out.1 _ h8).mono ?_
        rintro e wa ⟨rfl, hna⟩
        have h8 := Below.go h8 hna
        clear hna
        go_wp2_with fail
        refine (HT.out.2.2.2 (by trivial) _ h8).mono ?_
        rintro e wa ⟨rfl, hna⟩
        have h8 := Below.go h8 hna
        clear hna
        go_wp2
        go_ret
        exact ⟨by simp, Below.go hb8 h8⟩
      · skip
        go_wp2_with fail
        refine (HT.out.1 _ h8).mono ?_
        rintro e wa ⟨rfl, hna⟩
        have h8 := Below.go h8 hna
        clear hna
        go_wp2_with fail
        refine (HT.out.2.2.2 (by trivial) _ h8).mono ?_
        rintro e wa ⟨rfl, hna⟩
        have h8 := Below.go h8 hna
        clear hna
        go_wp2_with fail
        refine (hT.out _ (Below.go hb8 h8)).mono ?_
        rintro e wa ⟨rfl, hna⟩
        have h8 := Below.go h8 hna
        clear hna
        go_wp2_with fail
        refine (HT.out.2.1 _ h8).mono ?_
        rintro e wa ⟨rfl, hna⟩
        have h8 := Below.go h8 hna
        clear hna
        go_wp2_with fail
        refine (hP.out _ (Below.go hb8 h8)).mono ?_
        rintro e wa ⟨rfl, hna⟩
        have h8 := Below.go h8 hna
        clear hna
        go_wp2_with fail
        refine (HT.out.2.2.1 _ h8).mono ?_
        rintro e wa ⟨rfl, hna⟩
        have h8 := Below.go h8 hna
        clear hna
        go_wp2
        go_ret
        exact ⟨by simp, Below.go hb8 h8⟩
  · skip
    have hXS := hS
    simp only [if_true] at hXS
    have HX := Lib.hid hX
    have HSS := Lib.hid hXS
    clear hS hXS
    clear hX
    go_enter Try.func7, Try.ntmps7
    go_wp2_with fail
    refine (head_any _).mono ?_
    rintro e wN ⟨rfl, hn⟩
    have hb := (by first | exact Below.go hb hn | exact Below.goA hb hn | exact Below.goAA hb hn | exact Below.goD hb hn | exact Below.goAD hb hn : Below w.heap.size w wN)
    clear hn
    go_wp2_with fail
    refine (hC.out _ hb).mono ?_
    rintro e w2 ⟨rfl, hn⟩
    have hb := (by first | exact Below.go hb hn | exact Below.goA hb hn | exact Below.goAA hb hn | exact Below.goD hb hn | exact Below.goAD hb hn : Below w.heap.size w w2)
    clear hn
    have kx := Lib.hid (heap_new w2 (oLp u 1))
    have hsz2 := hb.size
    have hbo := hb
    have hb := Below.goN hb (oLp u 1)
    have kx0 := fun o => (blk2A kx.out).1.1 o
    go_wp2_with fail
    skip
    have kx5 : Hid ((w2.alloc (oLp u (-1))).heap[w2.heap.size]? = some (oLp X S)) := Lib.hid (by rw [← HSS.out, ← HX.out]; exact (heap_new w2 (oLp u (-1))))
    have hb5 : Below w.heap.size w (w2.alloc (oLp u (-1))) := (Below.goN hbo (oLp u (-1)))
    generalize (w2.alloc (oLp u (-1))) = w5 at *
    generalize w2.heap.size = k at *
    have hb := hb5
    clear hb5 hsz2 kx kx0
    have hr0 := Below.refl w5.heap.size w5
    have hrE := (hr0.alloc (Nat.le_refl _) (.cells #[] tLp)).drew
    have hrEX := hrE.alloc (by simp) (oLp X S)
    have hkEX : Hid (((w5.alloc (.cells #[] tLp)).drew.alloc (oLp X S)).heap[w5.heap.size + 1]? = some (oLp X S)) := Lib.hid (by have := heap_new (w5.alloc (.cells #[] tLp)).drew (oLp X S); simpa using this)
    have HLd : Hid (∀ W, Below w5.heap.size w5 W → Lp W.heap.size W A 0 l) := Lib.hid fun W hW => HL.out _ (Below.go hb hW)
    have HS : Hid (∀ W, Below w5.heap.size w5 W → W.cell? ⟨k, 0, none⟩ = some (.int .i64 X) ∧ W.cell? ⟨k, 1, none⟩ = some (.int .i64 S)) := Lib.hid fun W hW => (blk2 (keep' kx5.out hW)).1
    go_wp2_with fail
    have hmX : Hid (((w5.drew.alloc (oLp X S)).alloc (.cells #[] tLp)).ownsRow w5.heap.size tLp 2 (.slice (some ⟨w5.heap.size + 1, 0, none⟩) 0 0) 0 []) := Lib.hid (by have := (World.ownsRow_made (base := w5.heap.size) (e := tLp) (size := 2) (w5.drew.alloc (oLp X S)) #[] 0 (by simp) (by unfold maxLen; omega) (by simp)); rw [World.size_alloc] at this; exact this)
    have hr1 := hr0.drew
    have hrX := hr1.alloc (Nat.le_refl _) (oLp X S)
    have hrXE := hrX.alloc (by simp) (.cells #[] tLp)
    have hkXE := Lib.hid (new0 w5.drew (oLp X S) (.cells #[] tLp))
    have c2 := (HS.out _ hr1).1
    have c3 := (HS.out _ hr1).2
    have c0 := (HS.out _ hrE).1
    have c1 := (HS.out _ hrE).2
    go_region_law
      (first
        | (refine step_app (by rfl) _ _ _ (by rfl) w5.heap.size tLp i0 (.agg #[.int .i64 0, .int .i64 0]) 2 16 Try.underlying22 hi hz0 hz1 hz2 rfl (by decide) _ 0 [] (by rfl) (World.ownsRow.drew (World.ownsRow_made (base := w5.heap.size) (e := tLp) (size := 2) w5 #[] 0 (by simp) (by unfold maxLen; omega) (by simp))) A 0 c (cellsL l) (by rfl) (by rw [cellsL_len, hlen.out]) (fun e => ⟨rfl, hAc.out e⟩) (lp_news (HLd.out _ hrE)) (cellsL_one l) (by unfold maxLen; omega) (by omega) (by simp; try omega) ?_; intro v6 w6 hown6 hgrow6; have hw6 := Below.grown hrE hgrow6 (by simp; try omega) (fun g hg => (((World.ownsRow.drew (World.ownsRow_made (base := w5.heap.size) (e := tLp) (size := 2) w5 #[] 0 (by simp) (by unfold maxLen; omega) (by simp)))).lt g hg).1); have c60 := (HS.out _ hw6).1; have c61 := (HS.out _ hw6).2)
        | (refine step_app (by rfl) _ _ _ (by rfl) w5.heap.size tLp i0 (.agg #[.int .i64 0, .int .i64 0]) 2 16 Try.underlying22 hi hz0 hz1 hz2 rfl (by decide) _ 0 [] (by rfl) (World.ownsRow.alloc (World.ownsRow.drew (World.ownsRow_made (base := w5.heap.size) (e := tLp) (size := 2) w5 #[] 0 (by simp) (by unfold maxLen; omega) (by simp))) (oLp X S)) A 0 c (cellsL l) (by rfl) (by rw [cellsL_len, hlen.out]) (fun e => ⟨rfl, hAc.out e⟩) (lp_news (HLd.out _ hrEX)) (cellsL_one l) (by unfold maxLen; omega) (by omega) (by simp; try omega) ?_; intro v6 w6 hown6 hgrow6; have hw6 := Below.grown hrEX hgrow6 (by simp; try omega) (fun g hg => ((World.ownsRow.alloc (World.ownsRow.drew (World.ownsRow_made (base := w5.heap.size) (e := tLp) (size := 2) w5 #[] 0 (by simp) (by unfold maxLen; omega) (by simp))) (oLp X S)).lt g hg).1); have c60 := (HS.out _ hw6).1; have c61 := (HS.out _ hw6).2; have kX := (hgrow6.block (w5.heap.size + 1) (by simp) (by simp [Value.ownBlock])).trans hkEX.out)
        | (refine step_app (by rfl) _ _ _ (by rfl) w5.heap.size tLp i0 (.agg #[.int .i64 0, .int .i64 0]) 2 16 Try.underlying22 hi hz0 hz1 hz2 rfl (by decide) _ 0 [] (by rfl) hmX.out A 0 c (cellsL l) (by rfl) (by rw [cellsL_len, hlen.out]) (fun e => ⟨rfl, hAc.out e⟩) (lp_news (HLd.out _ hrXE)) (cellsL_one l) (by unfold maxLen; omega) (by omega) (by simp; try omega) ?_; intro v6 w6 hown6 hgrow6; have hw6 := Below.grown hrXE hgrow6 (by simp; try omega) (fun g hg => ((hmX.out).lt g hg).1); have c60 := (HS.out _ hw6).1; have c61 := (HS.out _ hw6).2; have kX := (hgrow6.block w5.heap.size (by first | (simp; done) | (simp; omega)) (by simp [Value.ownBlock])).trans hkXE.out)
        | (refine step_app (by rfl) _ _ _ (by rfl) w5.heap.size tLp i0 (.agg #[.int .i64 0, .int .i64 0]) 2 16 Try.underlying22 hi hz0 hz1 hz2 rfl (by decide) _ (0 + 0) ([] ++ cellsL l) (by rfl) hown6 (some ⟨w5.heap.size + 1, 0, none⟩) 1 1 [.int .i64 X, .int .i64 S] (by rfl) (by rfl) (fun h => by cases h) (fun ad h => by cases h; exact World.news_of_block kX) (by simp [Value.oneCell']) (by unfold maxLen; omega) (by omega) (by have := hw6.size; simp; try omega) ?_; intro v8 w8 hown8 hgrow8; have hw8 := Below.grown hw6 hgrow8 (by have := hw6.size; simp; try omega) (fun g hg => (hown6.lt g hg).1))
        | (refine step_app (by rfl) _ _ _ (by rfl) w5.heap.size tLp i0 (.agg #[.int .i64 0, .int .i64 0]) 2 16 Try.underlying22 hi hz0 hz1 hz2 rfl (by decide) _ (0 + 0) ([] ++ cellsL l) (by rfl) hown6 (some ⟨w5.heap.size, 0, none⟩) 1 1 [.int .i64 X, .int .i64 S] (by rfl) (by rfl) (fun h => by cases h) (fun ad h => by cases h; exact World.news_of_block kX) (by simp [Value.oneCell']) (by unfold maxLen; omega) (by omega) (by have := hw6.size; simp; try omega) ?_; intro v8 w8 hown8 hgrow8; have hw8 := Below.grown hw6 hgrow8 (by have := hw6.size; simp; try omega) (fun g hg => (hown6.lt g hg).1))
        | (refine step_app (by rfl) _ _ _ (by rfl) w5.heap.size tLp i0 (.agg #[.int .i64 0, .int .i64 0]) 2 16 Try.underlying22 hi hz0 hz1 hz2 rfl (by decide) _ (0 + 0) ([] ++ cellsL l) (by rfl) (hown6.alloc (oLp X S)) (some ⟨w6.heap.size, 0, none⟩) 1 1 [.int .i64 X, .int .i64 S] (by rfl) (by rfl) (fun h => by cases h) (fun ad h => by cases h; exact World.news_of_block (heap_new w6 (oLp X S))) (by simp [Value.oneCell']) (by unfold maxLen; omega) (by omega) (by have := hw6.size; simp; try omega) ?_; intro v8 w8 hown8 hgrow8; have hw8 := Below.grown (hw6.alloc hw6.size (oLp X S)) hgrow8 (by have := hw6.size; simp; try omega) (fun g hg => (hown6.lt g hg).1)))
    all_goals
      have hown9 : w8.ownsRow w5.heap.size tLp 2 v8 (0 + 1) (cellsL (l ++ [(X, S)])) := by
        have := hown8
        simp only [List.nil_append, Nat.zero_add] at this
        rw [cellsL_app]; exact this
      obtain ⟨A', c', rfl, hL'⟩ := lp_own hown9 (by simp [hlen.out])
      have hb8 := Below.go hb hw8
      have HT := Lib.hid (HM.out _ A' c' hb8 hL')
      have h8 := Below.refl w8.heap.size w8
      clear hown8 hown9 hL' hgrow8 hgrow6 hown6 hw8 hw6 HS HLd hr0 hr1 hmX hrX hrXE hkXE hrE hrEX hkEX
      rcases hway with rfl | ⟨rfl, w1⟩ | ⟨rfl, w1, rfl, rfl, rfl⟩
      · skip
        go_wp2_with fail
        refine (HT.out.1 _ h8).mono ?_
        rintro e wa ⟨rfl, hna⟩
        have h8 := Below.go h8 hna
        clear hna
        go_wp2
        go_ret
        exact ⟨by simp, Below.go hb8 h8⟩
      · skip
        go_wp2_with fail
        refine (HT.out.1 _ h8).mono ?_
        rintro e wa ⟨rfl, hna⟩
        have h8 := Below.go h8 hna
        clear hna
        go_wp2_with fail
        refine (HT.out.2.2.2 (by trivial) _ h8).mono ?_
        rintro e wa ⟨rfl, hna⟩
        have h8 := Below.go h8 hna
        clear hna
        go_wp2
        go_ret
        exact ⟨by simp, Below.go hb8 h8⟩
      · skip
        go_wp2_with fail
        refine (HT.out.1 _ h8).mono ?_
        rintro e wa ⟨rfl, hna⟩
        have h8 := Below.go h8 hna
        clear hna
        go_wp2_with fail
        refine (HT.out.2.2.2 (by trivial) _ h8).mono ?_
        rintro e wa ⟨rfl, hna⟩
        have h8 := Below.go h8 hna
        clear hna
        go_wp2_with fail
        refine (hT.out _ (Below.go hb8 h8)).mono ?_
        rintro e wa ⟨rfl, hna⟩
        have h8 := Below.go h8 hna
        clear hna
        go_wp2_with fail
        refine (HT.out.2.1 _ h8).mono ?_
        rintro e wa ⟨rfl, hna⟩
        have h8 := Below.go h8 hna
        clear hna
        go_wp2_with fail
        refine (hP.out _ (Below.go hb8 h8)).mono ?_
        rintro e wa ⟨rfl, hna⟩
        have h8 := Below.go h8 hna
        clear hna
        go_wp2_with fail
        refine (HT.out.2.2.1 _ h8).mono ?_
        rintro e wa ⟨rfl, hna⟩
        have h8 := Below.go h8 hna
        clear hna
        go_wp2
        go_ret
        exact ⟨by simp, Below.go hb8 h8⟩
end Go.Proofs.Ytcabegloipllhaa
