/- The walk of the law LeapFurther, a theorem a way. -/
import Derived.Test.YtdmjciklobokbaaLpI
import Derived.Deep.RegionLaw
import Derived.Deep.QuietTactic
import Derived.BigQuiet
import Derived.WalkSmall
set_option linter.unusedVariables false
namespace Go.Proofs.Ytdmjciklobokbaa
open Go.RowKit
theorem on_s (n : Int) (w : World) (h0 : 0 ≤ n) (h1 : n ≤ 4294967295) : Calls Try.prog 22 #[.int .u32 n] w fun e w' => e = .returned (.int .i64 (n % 34001)) ∧ w = w' := (on_q n w h0 h1).mono fun e w' h => ⟨h.1, h.2.symm⟩
/-- what both tables say of a day -/
def FurF (l : Lpm.LL) (X S N a b c d : Int) : Prop := Lpm.stE l N = 0 ∧ Lpm.stV l N = a ∧ Lpm.stE (l ++ [(X, S)]) N = 0 ∧ Lpm.stV (l ++ [(X, S)]) N = b ∧ Lpm.leV l N = c ∧ Lpm.leV (l ++ [(X, S)]) N = d
set_option maxHeartbeats 2000000 in
set_option maxRecDepth 100000 in
theorem lf_long (A : Option Addr) (n c : Nat) (l : Lpm.LL) (day nn X S N a c0 : Int) (step : Bool) (w : World) (hl : Lp w.heap.size w A n l) (hAc : Hid (A = none → n = 0 ∧ c = 0)) (hreach : n * 16 ≤ 140737488351232) (d0 : 0 ≤ day) (d1 : day ≤ 4294967295) (n0 : 0 ≤ nn) (n1 : nn ≤ 4294967295) (hX : Hid (day % 34000 = X)) (hS : Hid ((if step then 1 else -1) = S)) (hN : Hid (nn % 34001 = N)) (x0 : 0 ≤ X) (x1 : X ≤ 34000) (s0 : -1 ≤ S) (s1 : S ≤ 1) (a0 : -4000000000000000 ≤ a) (a1 : a ≤ 4000000000000000) (c1 : -100000000000 ≤ c0) (c2 : c0 ≤ 100000000000) (g1 : 100 ≤ n) :
    Calls Try.prog 7 #[.slice A n c, .int .u32 day, .bool step, .int .u32 nn] w (LawPost w) := by
  have hb := Below.refl w.heap.size w
  have hlen := Lib.hid hl.1
  have HL : Hid (∀ W, Below w.heap.size w W → Lp W.heap.size W A n l) := Lib.hid fun W hW => (hl.below hW).mono hW.size
  clear hl
  obtain ⟨i0, hi, hz0, hz1, hz2⟩ := info_parts infoLp
  have t1 : decide (99 < n) = true := decide_eq_true (by omega)
  have t2 : decide (99 < (n : Int)) = true := decide_eq_true (by omega)
  cases step
  · skip
    have HSS : Hid ((-1 : Int) = S) := Lib.hid (by have := hS.out; simpa using this)
    go_enter Try.func7, Try.ntmps7
    go_wp2_with fail
    refine (head_c (Below.refl _ _)).mono ?_
    rintro e w2 ⟨rfl, hn⟩
    have hb := (by first | exact Below.go hb hn | exact Below.goA hb hn | exact Below.goAA hb hn | exact Below.goD hb hn | exact Below.goAD hb hn : Below w.heap.size w w2)
    clear hn
    have hsz2 := hb.size
    have hbo := hb
    go_wp2_with fail
    have kx5 : Hid ((w2.alloc (oLp (day % 34000) (-1))).heap[w2.heap.size]? = some (oLp X S)) := Lib.hid (by rw [← HSS.out, ← hX.out]; exact (heap_new w2 (oLp (day % 34000) (-1))))
    have hb5 : Below w.heap.size w (w2.alloc (oLp (day % 34000) (-1))) := (Below.goN hbo (oLp (day % 34000) (-1)))
    generalize (w2.alloc (oLp (day % 34000) (-1))) = w5 at *
    generalize w2.heap.size = k at *
    have hb := hb5
    clear hb5 hsz2 hbo
    have hr0 := Below.refl w5.heap.size w5
    have hrE := (hr0.alloc (Nat.le_refl _) (.cells #[] tLp)).drew
    have hrEX := hrE.alloc (by simp) (oLp X S)
    have hkEX : Hid (((w5.alloc (.cells #[] tLp)).drew.alloc (oLp X S)).heap[w5.heap.size + 1]? = some (oLp X S)) := Lib.hid (by have := heap_new (w5.alloc (.cells #[] tLp)).drew (oLp X S); simpa using this)
    have HLd : Hid (∀ W, Below w5.heap.size w5 W → Lp W.heap.size W A n l) := Lib.hid fun W hW => HL.out _ (Below.go hb hW)
    have HS : Hid (∀ W, Below w5.heap.size w5 W → W.cell? ⟨k, 0, none⟩ = some (.int .i64 X) ∧ W.cell? ⟨k, 1, none⟩ = some (.int .i64 S)) := Lib.hid fun W hW => (blk2 (keep' kx5.out hW)).1
    go_wp2_with fail
    have hmX : Hid (((w5.drew.alloc (oLp X S)).alloc (.cells #[] tLp)).ownsRow w5.heap.size tLp 2 (.slice (some ⟨w5.heap.size + 1, 0, none⟩) 0 0) 0 []) := Lib.hid (by have := (World.ownsRow_made (base := w5.heap.size) (e := tLp) (size := 2) (w5.drew.alloc (oLp X S)) #[] 0 (by simp) (by unfold maxLen; omega) (by simp)); rw [World.size_alloc] at this; exact this)
    have hr1 := hr0.drew
    have hrX := hr1.alloc (Nat.le_refl _) (oLp X S)
    have hrXE := hrX.alloc (by simp) (.cells #[] tLp)
    have hkXE := Lib.hid (new0 w5.drew (oLp X S) (.cells #[] tLp))
    have c2 := (HS.out _ hr1).1
    have c3 := (HS.out _ hr1).2
    have c0 := (HS.out _ hrE).1
    have c1 := (HS.out _ hrE).2
    go_region_law
      (first
        | (refine step_app (by rfl) _ _ _ (by rfl) w5.heap.size tLp i0 (.agg #[.int .i64 0, .int .i64 0]) 2 16 Try.underlying22 hi hz0 hz1 hz2 rfl (by decide) _ 0 [] (by rfl) (World.ownsRow.drew (World.ownsRow_made (base := w5.heap.size) (e := tLp) (size := 2) w5 #[] 0 (by simp) (by unfold maxLen; omega) (by simp))) A n c (cellsL l) (by rfl) (by rw [cellsL_len, hlen.out]) (fun e => hAc.out e) (lp_news (HLd.out _ hrE)) (cellsL_one l) (by unfold maxLen; omega) (by omega) (by simp; try omega) ?_; intro v6 w6 hown6 hgrow6; have hw6 := Below.grown hrE hgrow6 (by simp; try omega) (fun g hg => (((World.ownsRow.drew (World.ownsRow_made (base := w5.heap.size) (e := tLp) (size := 2) w5 #[] 0 (by simp) (by unfold maxLen; omega) (by simp)))).lt g hg).1); have c60 := (HS.out _ hw6).1; have c61 := (HS.out _ hw6).2)
        | (refine step_app (by rfl) _ _ _ (by rfl) w5.heap.size tLp i0 (.agg #[.int .i64 0, .int .i64 0]) 2 16 Try.underlying22 hi hz0 hz1 hz2 rfl (by decide) _ 0 [] (by rfl) (World.ownsRow.alloc (World.ownsRow.drew (World.ownsRow_made (base := w5.heap.size) (e := tLp) (size := 2) w5 #[] 0 (by simp) (by unfold maxLen; omega) (by simp))) (oLp X S)) A n c (cellsL l) (by rfl) (by rw [cellsL_len, hlen.out]) (fun e => hAc.out e) (lp_news (HLd.out _ hrEX)) (cellsL_one l) (by unfold maxLen; omega) (by omega) (by simp; try omega) ?_; intro v6 w6 hown6 hgrow6; have hw6 := Below.grown hrEX hgrow6 (by simp; try omega) (fun g hg => ((World.ownsRow.alloc (World.ownsRow.drew (World.ownsRow_made (base := w5.heap.size) (e := tLp) (size := 2) w5 #[] 0 (by simp) (by unfold maxLen; omega) (by simp))) (oLp X S)).lt g hg).1); have c60 := (HS.out _ hw6).1; have c61 := (HS.out _ hw6).2; have kX := (hgrow6.block (w5.heap.size + 1) (by simp) (by simp [Value.ownBlock])).trans hkEX.out)
        | (refine step_app (by rfl) _ _ _ (by rfl) w5.heap.size tLp i0 (.agg #[.int .i64 0, .int .i64 0]) 2 16 Try.underlying22 hi hz0 hz1 hz2 rfl (by decide) _ 0 [] (by rfl) hmX.out A n c (cellsL l) (by rfl) (by rw [cellsL_len, hlen.out]) (fun e => hAc.out e) (lp_news (HLd.out _ hrXE)) (cellsL_one l) (by unfold maxLen; omega) (by omega) (by simp; try omega) ?_; intro v6 w6 hown6 hgrow6; have hw6 := Below.grown hrXE hgrow6 (by simp; try omega) (fun g hg => ((hmX.out).lt g hg).1); have c60 := (HS.out _ hw6).1; have c61 := (HS.out _ hw6).2; have kX := (hgrow6.block w5.heap.size (by first | (simp; done) | (simp; omega)) (by simp [Value.ownBlock])).trans hkXE.out)
        | (refine step_app (by rfl) _ _ _ (by rfl) w5.heap.size tLp i0 (.agg #[.int .i64 0, .int .i64 0]) 2 16 Try.underlying22 hi hz0 hz1 hz2 rfl (by decide) _ (0 + n) ([] ++ cellsL l) (by rfl) hown6 (some ⟨w5.heap.size + 1, 0, none⟩) 1 1 [.int .i64 X, .int .i64 S] (by rfl) (by rfl) (fun h => by cases h) (fun ad h => by cases h; exact World.news_of_block kX) (by simp [Value.oneCell']) (by unfold maxLen; omega) (by omega) (by have := hw6.size; simp; try omega) ?_; intro v8 w8 hown8 hgrow8; have hw8 := Below.grown hw6 hgrow8 (by have := hw6.size; simp; try omega) (fun g hg => (hown6.lt g hg).1))
        | (refine step_app (by rfl) _ _ _ (by rfl) w5.heap.size tLp i0 (.agg #[.int .i64 0, .int .i64 0]) 2 16 Try.underlying22 hi hz0 hz1 hz2 rfl (by decide) _ (0 + n) ([] ++ cellsL l) (by rfl) hown6 (some ⟨w5.heap.size, 0, none⟩) 1 1 [.int .i64 X, .int .i64 S] (by rfl) (by rfl) (fun h => by cases h) (fun ad h => by cases h; exact World.news_of_block kX) (by simp [Value.oneCell']) (by unfold maxLen; omega) (by omega) (by have := hw6.size; simp; try omega) ?_; intro v8 w8 hown8 hgrow8; have hw8 := Below.grown hw6 hgrow8 (by have := hw6.size; simp; try omega) (fun g hg => (hown6.lt g hg).1))
        | (refine step_app (by rfl) _ _ _ (by rfl) w5.heap.size tLp i0 (.agg #[.int .i64 0, .int .i64 0]) 2 16 Try.underlying22 hi hz0 hz1 hz2 rfl (by decide) _ (0 + n) ([] ++ cellsL l) (by rfl) (hown6.alloc (oLp X S)) (some ⟨w6.heap.size, 0, none⟩) 1 1 [.int .i64 X, .int .i64 S] (by rfl) (by rfl) (fun h => by cases h) (fun ad h => by cases h; exact World.news_of_block (heap_new w6 (oLp X S))) (by simp [Value.oneCell']) (by unfold maxLen; omega) (by omega) (by have := hw6.size; simp; try omega) ?_; intro v8 w8 hown8 hgrow8; have hw8 := Below.grown (hw6.alloc hw6.size (oLp X S)) hgrow8 (by have := hw6.size; simp; try omega) (fun g hg => (hown6.lt g hg).1)))
    all_goals
      have hown9 : w8.ownsRow w5.heap.size tLp 2 v8 (n + 1) (cellsL (l ++ [(X, S)])) := by
        have := hown8
        simp only [List.nil_append, Nat.zero_add] at this
        rw [cellsL_app]; exact this
      obtain ⟨A', c', rfl, hL'⟩ := lp_own hown9 (by simp [hlen.out])
      have hb8 := Below.go hb hw8
      have kx8 := Lib.hid (keep' kx5.out hw8)
      have HLW : Hid (∀ W, Below w8.heap.size w8 W → Lp W.heap.size W A n l) := Lib.hid fun W hW => HL.out _ (Below.go hb8 hW)
      have HMW : Hid (∀ W, Below w8.heap.size w8 W → Lp W.heap.size W A' (n + 1) (l ++ [(X, S)])) := Lib.hid fun W hW => (hL'.below hW).mono hW.size
      have h8 := Below.refl w8.heap.size w8
      clear hown8 hown9 hL' hgrow8 hgrow6 hown6 hw8 hw6 HS HLd hr0 hr1 hmX hrX hrXE hkXE hrE hrEX hkEX
      go_wp2_with fail
      go_wp2
      go_ret
      exact ⟨by simp, Below.go hb8 h8⟩
  · skip
    have HSS : Hid ((1 : Int) = S) := Lib.hid (by have := hS.out; simpa using this)
    go_enter Try.func7, Try.ntmps7
    go_wp2_with fail
    refine (head_c (Below.refl _ _)).mono ?_
    rintro e w2 ⟨rfl, hn⟩
    have hb := (by first | exact Below.go hb hn | exact Below.goA hb hn | exact Below.goAA hb hn | exact Below.goD hb hn | exact Below.goAD hb hn : Below w.heap.size w w2)
    clear hn
    have hsz2 := hb.size
    have hbo := hb
    go_wp2_with fail
    have kx5 : Hid ((w2.alloc (oLp (day % 34000) 1)).heap[w2.heap.size]? = some (oLp X S)) := Lib.hid (by rw [← HSS.out, ← hX.out]; exact (heap_new w2 (oLp (day % 34000) 1)))
    have hb5 : Below w.heap.size w (w2.alloc (oLp (day % 34000) 1)) := (Below.goN hbo (oLp (day % 34000) 1))
    generalize (w2.alloc (oLp (day % 34000) 1)) = w5 at *
    generalize w2.heap.size = k at *
    have hb := hb5
    clear hb5 hsz2 hbo
    have hr0 := Below.refl w5.heap.size w5
    have hrE := (hr0.alloc (Nat.le_refl _) (.cells #[] tLp)).drew
    have hrEX := hrE.alloc (by simp) (oLp X S)
    have hkEX : Hid (((w5.alloc (.cells #[] tLp)).drew.alloc (oLp X S)).heap[w5.heap.size + 1]? = some (oLp X S)) := Lib.hid (by have := heap_new (w5.alloc (.cells #[] tLp)).drew (oLp X S); simpa using this)
    have HLd : Hid (∀ W, Below w5.heap.size w5 W → Lp W.heap.size W A n l) := Lib.hid fun W hW => HL.out _ (Below.go hb hW)
    have HS : Hid (∀ W, Below w5.heap.size w5 W → W.cell? ⟨k, 0, none⟩ = some (.int .i64 X) ∧ W.cell? ⟨k, 1, none⟩ = some (.int .i64 S)) := Lib.hid fun W hW => (blk2 (keep' kx5.out hW)).1
    go_wp2_with fail
    have hmX : Hid (((w5.drew.alloc (oLp X S)).alloc (.cells #[] tLp)).ownsRow w5.heap.size tLp 2 (.slice (some ⟨w5.heap.size + 1, 0, none⟩) 0 0) 0 []) := Lib.hid (by have := (World.ownsRow_made (base := w5.heap.size) (e := tLp) (size := 2) (w5.drew.alloc (oLp X S)) #[] 0 (by simp) (by unfold maxLen; omega) (by simp)); rw [World.size_alloc] at this; exact this)
    have hr1 := hr0.drew
    have hrX := hr1.alloc (Nat.le_refl _) (oLp X S)
    have hrXE := hrX.alloc (by simp) (.cells #[] tLp)
    have hkXE := Lib.hid (new0 w5.drew (oLp X S) (.cells #[] tLp))
    have c2 := (HS.out _ hr1).1
    have c3 := (HS.out _ hr1).2
    have c0 := (HS.out _ hrE).1
    have c1 := (HS.out _ hrE).2
    go_region_law
      (first
        | (refine step_app (by rfl) _ _ _ (by rfl) w5.heap.size tLp i0 (.agg #[.int .i64 0, .int .i64 0]) 2 16 Try.underlying22 hi hz0 hz1 hz2 rfl (by decide) _ 0 [] (by rfl) (World.ownsRow.drew (World.ownsRow_made (base := w5.heap.size) (e := tLp) (size := 2) w5 #[] 0 (by simp) (by unfold maxLen; omega) (by simp))) A n c (cellsL l) (by rfl) (by rw [cellsL_len, hlen.out]) (fun e => hAc.out e) (lp_news (HLd.out _ hrE)) (cellsL_one l) (by unfold maxLen; omega) (by omega) (by simp; try omega) ?_; intro v6 w6 hown6 hgrow6; have hw6 := Below.grown hrE hgrow6 (by simp; try omega) (fun g hg => (((World.ownsRow.drew (World.ownsRow_made (base := w5.heap.size) (e := tLp) (size := 2) w5 #[] 0 (by simp) (by unfold maxLen; omega) (by simp)))).lt g hg).1); have c60 := (HS.out _ hw6).1; have c61 := (HS.out _ hw6).2)
        | (refine step_app (by rfl) _ _ _ (by rfl) w5.heap.size tLp i0 (.agg #[.int .i64 0, .int .i64 0]) 2 16 Try.underlying22 hi hz0 hz1 hz2 rfl (by decide) _ 0 [] (by rfl) (World.ownsRow.alloc (World.ownsRow.drew (World.ownsRow_made (base := w5.heap.size) (e := tLp) (size := 2) w5 #[] 0 (by simp) (by unfold maxLen; omega) (by simp))) (oLp X S)) A n c (cellsL l) (by rfl) (by rw [cellsL_len, hlen.out]) (fun e => hAc.out e) (lp_news (HLd.out _ hrEX)) (cellsL_one l) (by unfold maxLen; omega) (by omega) (by simp; try omega) ?_; intro v6 w6 hown6 hgrow6; have hw6 := Below.grown hrEX hgrow6 (by simp; try omega) (fun g hg => ((World.ownsRow.alloc (World.ownsRow.drew (World.ownsRow_made (base := w5.heap.size) (e := tLp) (size := 2) w5 #[] 0 (by simp) (by unfold maxLen; omega) (by simp))) (oLp X S)).lt g hg).1); have c60 := (HS.out _ hw6).1; have c61 := (HS.out _ hw6).2; have kX := (hgrow6.block (w5.heap.size + 1) (by simp) (by simp [Value.ownBlock])).trans hkEX.out)
        | (refine step_app (by rfl) _ _ _ (by rfl) w5.heap.size tLp i0 (.agg #[.int .i64 0, .int .i64 0]) 2 16 Try.underlying22 hi hz0 hz1 hz2 rfl (by decide) _ 0 [] (by rfl) hmX.out A n c (cellsL l) (by rfl) (by rw [cellsL_len, hlen.out]) (fun e => hAc.out e) (lp_news (HLd.out _ hrXE)) (cellsL_one l) (by unfold maxLen; omega) (by omega) (by simp; try omega) ?_; intro v6 w6 hown6 hgrow6; have hw6 := Below.grown hrXE hgrow6 (by simp; try omega) (fun g hg => ((hmX.out).lt g hg).1); have c60 := (HS.out _ hw6).1; have c61 := (HS.out _ hw6).2; have kX := (hgrow6.block w5.heap.size (by first | (simp; done) | (simp; omega)) (by simp [Value.ownBlock])).trans hkXE.out)
        | (refine step_app (by rfl) _ _ _ (by rfl) w5.heap.size tLp i0 (.agg #[.int .i64 0, .int .i64 0]) 2 16 Try.underlying22 hi hz0 hz1 hz2 rfl (by decide) _ (0 + n) ([] ++ cellsL l) (by rfl) hown6 (some ⟨w5.heap.size + 1, 0, none⟩) 1 1 [.int .i64 X, .int .i64 S] (by rfl) (by rfl) (fun h => by cases h) (fun ad h => by cases h; exact World.news_of_block kX) (by simp [Value.oneCell']) (by unfold maxLen; omega) (by omega) (by have := hw6.size; simp; try omega) ?_; intro v8 w8 hown8 hgrow8; have hw8 := Below.grown hw6 hgrow8 (by have := hw6.size; simp; try omega) (fun g hg => (hown6.lt g hg).1))
        | (refine step_app (by rfl) _ _ _ (by rfl) w5.heap.size tLp i0 (.agg #[.int .i64 0, .int .i64 0]) 2 16 Try.underlying22 hi hz0 hz1 hz2 rfl (by decide) _ (0 + n) ([] ++ cellsL l) (by rfl) hown6 (some ⟨w5.heap.size, 0, none⟩) 1 1 [.int .i64 X, .int .i64 S] (by rfl) (by rfl) (fun h => by cases h) (fun ad h => by cases h; exact World.news_of_block kX) (by simp [Value.oneCell']) (by unfold maxLen; omega) (by omega) (by have := hw6.size; simp; try omega) ?_; intro v8 w8 hown8 hgrow8; have hw8 := Below.grown hw6 hgrow8 (by have := hw6.size; simp; try omega) (fun g hg => (hown6.lt g hg).1))
        | (refine step_app (by rfl) _ _ _ (by rfl) w5.heap.size tLp i0 (.agg #[.int .i64 0, .int .i64 0]) 2 16 Try.underlying22 hi hz0 hz1 hz2 rfl (by decide) _ (0 + n) ([] ++ cellsL l) (by rfl) (hown6.alloc (oLp X S)) (some ⟨w6.heap.size, 0, none⟩) 1 1 [.int .i64 X, .int .i64 S] (by rfl) (by rfl) (fun h => by cases h) (fun ad h => by cases h; exact World.news_of_block (heap_new w6 (oLp X S))) (by simp [Value.oneCell']) (by unfold maxLen; omega) (by omega) (by have := hw6.size; simp; try omega) ?_; intro v8 w8 hown8 hgrow8; have hw8 := Below.grown (hw6.alloc hw6.size (oLp X S)) hgrow8 (by have := hw6.size; simp; try omega) (fun g hg => (hown6.lt g hg).1)))
    all_goals
      have hown9 : w8.ownsRow w5.heap.size tLp 2 v8 (n + 1) (cellsL (l ++ [(X, S)])) := by
        have := hown8
        simp only [List.nil_append, Nat.zero_add] at this
        rw [cellsL_app]; exact this
      obtain ⟨A', c', rfl, hL'⟩ := lp_own hown9 (by simp [hlen.out])
      have hb8 := Below.go hb hw8
      have kx8 := Lib.hid (keep' kx5.out hw8)
      have HLW : Hid (∀ W, Below w8.heap.size w8 W → Lp W.heap.size W A n l) := Lib.hid fun W hW => HL.out _ (Below.go hb8 hW)
      have HMW : Hid (∀ W, Below w8.heap.size w8 W → Lp W.heap.size W A' (n + 1) (l ++ [(X, S)])) := Lib.hid fun W hW => (hL'.below hW).mono hW.size
      have h8 := Below.refl w8.heap.size w8
      clear hown8 hown9 hL' hgrow8 hgrow6 hown6 hw8 hw6 HS HLd hr0 hr1 hmX hrX hrXE hkXE hrE hrEX hkEX
      go_wp2_with fail
      go_wp2
      go_ret
      exact ⟨by simp, Below.go hb8 h8⟩
set_option maxHeartbeats 2000000 in
set_option maxRecDepth 100000 in
theorem lf_bad (A : Option Addr) (n c : Nat) (l : Lpm.LL) (day nn X S N a c0 : Int) (step : Bool) (w : World) (hl : Lp w.heap.size w A n l) (hAc : Hid (A = none → n = 0 ∧ c = 0)) (hreach : n * 16 ≤ 140737488351232) (d0 : 0 ≤ day) (d1 : day ≤ 4294967295) (n0 : 0 ≤ nn) (n1 : nn ≤ 4294967295) (hX : Hid (day % 34000 = X)) (hS : Hid ((if step then 1 else -1) = S)) (hN : Hid (nn % 34001 = N)) (x0 : 0 ≤ X) (x1 : X ≤ 34000) (s0 : -1 ≤ S) (s1 : S ≤ 1) (a0 : -4000000000000000 ≤ a) (a1 : a ≤ 4000000000000000) (c1 : -100000000000 ≤ c0) (c2 : c0 ≤ 100000000000) (g1 : n ≤ 99) (hbad : Hid (Lpm.valid (l ++ [(X, S)]) = false)) :
    Calls Try.prog 7 #[.slice A n c, .int .u32 day, .bool step, .int .u32 nn] w (LawPost w) := by
  have hb := Below.refl w.heap.size w
  have hlen := Lib.hid hl.1
  have HL : Hid (∀ W, Below w.heap.size w W → Lp W.heap.size W A n l) := Lib.hid fun W hW => (hl.below hW).mono hW.size
  clear hl
  obtain ⟨i0, hi, hz0, hz1, hz2⟩ := info_parts infoLp
  have t1 : decide (99 < n) = false := decide_eq_false (by omega)
  have t2 : decide (99 < (n : Int)) = false := decide_eq_false (by omega)
  cases step
  · skip
    have HSS : Hid ((-1 : Int) = S) := Lib.hid (by have := hS.out; simpa using this)
    go_enter Try.func7, Try.ntmps7
    go_wp2_with fail
    refine (head_c (Below.refl _ _)).mono ?_
    rintro e w2 ⟨rfl, hn⟩
    have hb := (by first | exact Below.go hb hn | exact Below.goA hb hn | exact Below.goAA hb hn | exact Below.goD hb hn | exact Below.goAD hb hn : Below w.heap.size w w2)
    clear hn
    have hsz2 := hb.size
    have hbo := hb
    go_wp2_with fail
    have kx5 : Hid ((w2.alloc (oLp (day % 34000) (-1))).heap[w2.heap.size]? = some (oLp X S)) := Lib.hid (by rw [← HSS.out, ← hX.out]; exact (heap_new w2 (oLp (day % 34000) (-1))))
    have hb5 : Below w.heap.size w (w2.alloc (oLp (day % 34000) (-1))) := (Below.goN hbo (oLp (day % 34000) (-1)))
    generalize (w2.alloc (oLp (day % 34000) (-1))) = w5 at *
    generalize w2.heap.size = k at *
    have hb := hb5
    clear hb5 hsz2 hbo
    have hr0 := Below.refl w5.heap.size w5
    have hrE := (hr0.alloc (Nat.le_refl _) (.cells #[] tLp)).drew
    have hrEX := hrE.alloc (by simp) (oLp X S)
    have hkEX : Hid (((w5.alloc (.cells #[] tLp)).drew.alloc (oLp X S)).heap[w5.heap.size + 1]? = some (oLp X S)) := Lib.hid (by have := heap_new (w5.alloc (.cells #[] tLp)).drew (oLp X S); simpa using this)
    have HLd : Hid (∀ W, Below w5.heap.size w5 W → Lp W.heap.size W A n l) := Lib.hid fun W hW => HL.out _ (Below.go hb hW)
    have HS : Hid (∀ W, Below w5.heap.size w5 W → W.cell? ⟨k, 0, none⟩ = some (.int .i64 X) ∧ W.cell? ⟨k, 1, none⟩ = some (.int .i64 S)) := Lib.hid fun W hW => (blk2 (keep' kx5.out hW)).1
    go_wp2_with fail
    have hmX : Hid (((w5.drew.alloc (oLp X S)).alloc (.cells #[] tLp)).ownsRow w5.heap.size tLp 2 (.slice (some ⟨w5.heap.size + 1, 0, none⟩) 0 0) 0 []) := Lib.hid (by have := (World.ownsRow_made (base := w5.heap.size) (e := tLp) (size := 2) (w5.drew.alloc (oLp X S)) #[] 0 (by simp) (by unfold maxLen; omega) (by simp)); rw [World.size_alloc] at this; exact this)
    have hr1 := hr0.drew
    have hrX := hr1.alloc (Nat.le_refl _) (oLp X S)
    have hrXE := hrX.alloc (by simp) (.cells #[] tLp)
    have hkXE := Lib.hid (new0 w5.drew (oLp X S) (.cells #[] tLp))
    have c2 := (HS.out _ hr1).1
    have c3 := (HS.out _ hr1).2
    have c0 := (HS.out _ hrE).1
    have c1 := (HS.out _ hrE).2
    go_region_law
      (first
        | (refine step_app (by rfl) _ _ _ (by rfl) w5.heap.size tLp i0 (.agg #[.int .i64 0, .int .i64 0]) 2 16 Try.underlying22 hi hz0 hz1 hz2 rfl (by decide) _ 0 [] (by rfl) (World.ownsRow.drew (World.ownsRow_made (base := w5.heap.size) (e := tLp) (size := 2) w5 #[] 0 (by simp) (by unfold maxLen; omega) (by simp))) A n c (cellsL l) (by rfl) (by rw [cellsL_len, hlen.out]) (fun e => hAc.out e) (lp_news (HLd.out _ hrE)) (cellsL_one l) (by unfold maxLen; omega) (by omega) (by simp; try omega) ?_; intro v6 w6 hown6 hgrow6; have hw6 := Below.grown hrE hgrow6 (by simp; try omega) (fun g hg => (((World.ownsRow.drew (World.ownsRow_made (base := w5.heap.size) (e := tLp) (size := 2) w5 #[] 0 (by simp) (by unfold maxLen; omega) (by simp)))).lt g hg).1); have c60 := (HS.out _ hw6).1; have c61 := (HS.out _ hw6).2)
        | (refine step_app (by rfl) _ _ _ (by rfl) w5.heap.size tLp i0 (.agg #[.int .i64 0, .int .i64 0]) 2 16 Try.underlying22 hi hz0 hz1 hz2 rfl (by decide) _ 0 [] (by rfl) (World.ownsRow.alloc (World.ownsRow.drew (World.ownsRow_made (base := w5.heap.size) (e := tLp) (size := 2) w5 #[] 0 (by simp) (by unfold maxLen; omega) (by simp))) (oLp X S)) A n c (cellsL l) (by rfl) (by rw [cellsL_len, hlen.out]) (fun e => hAc.out e) (lp_news (HLd.out _ hrEX)) (cellsL_one l) (by unfold maxLen; omega) (by omega) (by simp; try omega) ?_; intro v6 w6 hown6 hgrow6; have hw6 := Below.grown hrEX hgrow6 (by simp; try omega) (fun g hg => ((World.ownsRow.alloc (World.ownsRow.drew (World.ownsRow_made (base := w5.heap.size) (e := tLp) (size := 2) w5 #[] 0 (by simp) (by unfold maxLen; omega) (by simp))) (oLp X S)).lt g hg).1); have c60 := (HS.out _ hw6).1; have c61 := (HS.out _ hw6).2; have kX := (hgrow6.block (w5.heap.size + 1) (by simp) (by simp [Value.ownBlock])).trans hkEX.out)
        | (refine step_app (by rfl) _ _ _ (by rfl) w5.heap.size tLp i0 (.agg #[.int .i64 0, .int .i64 0]) 2 16 Try.underlying22 hi hz0 hz1 hz2 rfl (by decide) _ 0 [] (by rfl) hmX.out A n c (cellsL l) (by rfl) (by rw [cellsL_len, hlen.out]) (fun e => hAc.out e) (lp_news (HLd.out _ hrXE)) (cellsL_one l) (by unfold maxLen; omega) (by omega) (by simp; try omega) ?_; intro v6 w6 hown6 hgrow6; have hw6 := Below.grown hrXE hgrow6 (by simp; try omega) (fun g hg => ((hmX.out).lt g hg).1); have c60 := (HS.out _ hw6).1; have c61 := (HS.out _ hw6).2; have kX := (hgrow6.block w5.heap.size (by first | (simp; done) | (simp; omega)) (by simp [Value.ownBlock])).trans hkXE.out)
        | (refine step_app (by rfl) _ _ _ (by rfl) w5.heap.size tLp i0 (.agg #[.int .i64 0, .int .i64 0]) 2 16 Try.underlying22 hi hz0 hz1 hz2 rfl (by decide) _ (0 + n) ([] ++ cellsL l) (by rfl) hown6 (some ⟨w5.heap.size + 1, 0, none⟩) 1 1 [.int .i64 X, .int .i64 S] (by rfl) (by rfl) (fun h => by cases h) (fun ad h => by cases h; exact World.news_of_block kX) (by simp [Value.oneCell']) (by unfold maxLen; omega) (by omega) (by have := hw6.size; simp; try omega) ?_; intro v8 w8 hown8 hgrow8; have hw8 := Below.grown hw6 hgrow8 (by have := hw6.size; simp; try omega) (fun g hg => (hown6.lt g hg).1))
        | (refine step_app (by rfl) _ _ _ (by rfl) w5.heap.size tLp i0 (.agg #[.int .i64 0, .int .i64 0]) 2 16 Try.underlying22 hi hz0 hz1 hz2 rfl (by decide) _ (0 + n) ([] ++ cellsL l) (by rfl) hown6 (some ⟨w5.heap.size, 0, none⟩) 1 1 [.int .i64 X, .int .i64 S] (by rfl) (by rfl) (fun h => by cases h) (fun ad h => by cases h; exact World.news_of_block kX) (by simp [Value.oneCell']) (by unfold maxLen; omega) (by omega) (by have := hw6.size; simp; try omega) ?_; intro v8 w8 hown8 hgrow8; have hw8 := Below.grown hw6 hgrow8 (by have := hw6.size; simp; try omega) (fun g hg => (hown6.lt g hg).1))
        | (refine step_app (by rfl) _ _ _ (by rfl) w5.heap.size tLp i0 (.agg #[.int .i64 0, .int .i64 0]) 2 16 Try.underlying22 hi hz0 hz1 hz2 rfl (by decide) _ (0 + n) ([] ++ cellsL l) (by rfl) (hown6.alloc (oLp X S)) (some ⟨w6.heap.size, 0, none⟩) 1 1 [.int .i64 X, .int .i64 S] (by rfl) (by rfl) (fun h => by cases h) (fun ad h => by cases h; exact World.news_of_block (heap_new w6 (oLp X S))) (by simp [Value.oneCell']) (by unfold maxLen; omega) (by omega) (by have := hw6.size; simp; try omega) ?_; intro v8 w8 hown8 hgrow8; have hw8 := Below.grown (hw6.alloc hw6.size (oLp X S)) hgrow8 (by have := hw6.size; simp; try omega) (fun g hg => (hown6.lt g hg).1)))
    all_goals
      have hown9 : w8.ownsRow w5.heap.size tLp 2 v8 (n + 1) (cellsL (l ++ [(X, S)])) := by
        have := hown8
        simp only [List.nil_append, Nat.zero_add] at this
        rw [cellsL_app]; exact this
      obtain ⟨A', c', rfl, hL'⟩ := lp_own hown9 (by simp [hlen.out])
      have hb8 := Below.go hb hw8
      have kx8 := Lib.hid (keep' kx5.out hw8)
      have HLW : Hid (∀ W, Below w8.heap.size w8 W → Lp W.heap.size W A n l) := Lib.hid fun W hW => HL.out _ (Below.go hb8 hW)
      have HMW : Hid (∀ W, Below w8.heap.size w8 W → Lp W.heap.size W A' (n + 1) (l ++ [(X, S)])) := Lib.hid fun W hW => (hL'.below hW).mono hW.size
      have h8 := Below.refl w8.heap.size w8
      clear hown8 hown9 hL' hgrow8 hgrow6 hown6 hw8 hw6 HS HLd hr0 hr1 hmX hrX hrXE hkXE hrE hrEX hkEX
      have hbad' := hbad.out
      go_wp2_with fail
      refine (refValid_c (HMW.out _ h8) (Nat.le_refl _) (by omega) (Below.refl _ _)).mono ?_
      rintro e wa ⟨rfl, hna⟩
      have h8 := Below.go h8 hna
      clear hna
      go_wp2
      go_ret
      exact ⟨by simp, Below.go hb8 h8⟩
  · skip
    have HSS : Hid ((1 : Int) = S) := Lib.hid (by have := hS.out; simpa using this)
    go_enter Try.func7, Try.ntmps7
    go_wp2_with fail
    refine (head_c (Below.refl _ _)).mono ?_
    rintro e w2 ⟨rfl, hn⟩
    have hb := (by first | exact Below.go hb hn | exact Below.goA hb hn | exact Below.goAA hb hn | exact Below.goD hb hn | exact Below.goAD hb hn : Below w.heap.size w w2)
    clear hn
    have hsz2 := hb.size
    have hbo := hb
    go_wp2_with fail
    have kx5 : Hid ((w2.alloc (oLp (day % 34000) 1)).heap[w2.heap.size]? = some (oLp X S)) := Lib.hid (by rw [← HSS.out, ← hX.out]; exact (heap_new w2 (oLp (day % 34000) 1)))
    have hb5 : Below w.heap.size w (w2.alloc (oLp (day % 34000) 1)) := (Below.goN hbo (oLp (day % 34000) 1))
    generalize (w2.alloc (oLp (day % 34000) 1)) = w5 at *
    generalize w2.heap.size = k at *
    have hb := hb5
    clear hb5 hsz2 hbo
    have hr0 := Below.refl w5.heap.size w5
    have hrE := (hr0.alloc (Nat.le_refl _) (.cells #[] tLp)).drew
    have hrEX := hrE.alloc (by simp) (oLp X S)
    have hkEX : Hid (((w5.alloc (.cells #[] tLp)).drew.alloc (oLp X S)).heap[w5.heap.size + 1]? = some (oLp X S)) := Lib.hid (by have := heap_new (w5.alloc (.cells #[] tLp)).drew (oLp X S); simpa using this)
    have HLd : Hid (∀ W, Below w5.heap.size w5 W → Lp W.heap.size W A n l) := Lib.hid fun W hW => HL.out _ (Below.go hb hW)
    have HS : Hid (∀ W, Below w5.heap.size w5 W → W.cell? ⟨k, 0, none⟩ = some (.int .i64 X) ∧ W.cell? ⟨k, 1, none⟩ = some (.int .i64 S)) := Lib.hid fun W hW => (blk2 (keep' kx5.out hW)).1
    go_wp2_with fail
    have hmX : Hid (((w5.drew.alloc (oLp X S)).alloc (.cells #[] tLp)).ownsRow w5.heap.size tLp 2 (.slice (some ⟨w5.heap.size + 1, 0, none⟩) 0 0) 0 []) := Lib.hid (by have := (World.ownsRow_made (base := w5.heap.size) (e := tLp) (size := 2) (w5.drew.alloc (oLp X S)) #[] 0 (by simp) (by unfold maxLen; omega) (by simp)); rw [World.size_alloc] at this; exact this)
    have hr1 := hr0.drew
    have hrX := hr1.alloc (Nat.le_refl _) (oLp X S)
    have hrXE := hrX.alloc (by simp) (.cells #[] tLp)
    have hkXE := Lib.hid (new0 w5.drew (oLp X S) (.cells #[] tLp))
    have c2 := (HS.out _ hr1).1
    have c3 := (HS.out _ hr1).2
    have c0 := (HS.out _ hrE).1
    have c1 := (HS.out _ hrE).2
    go_region_law
      (first
        | (refine step_app (by rfl) _ _ _ (by rfl) w5.heap.size tLp i0 (.agg #[.int .i64 0, .int .i64 0]) 2 16 Try.underlying22 hi hz0 hz1 hz2 rfl (by decide) _ 0 [] (by rfl) (World.ownsRow.drew (World.ownsRow_made (base := w5.heap.size) (e := tLp) (size := 2) w5 #[] 0 (by simp) (by unfold maxLen; omega) (by simp))) A n c (cellsL l) (by rfl) (by rw [cellsL_len, hlen.out]) (fun e => hAc.out e) (lp_news (HLd.out _ hrE)) (cellsL_one l) (by unfold maxLen; omega) (by omega) (by simp; try omega) ?_; intro v6 w6 hown6 hgrow6; have hw6 := Below.grown hrE hgrow6 (by simp; try omega) (fun g hg => (((World.ownsRow.drew (World.ownsRow_made (base := w5.heap.size) (e := tLp) (size := 2) w5 #[] 0 (by simp) (by unfold maxLen; omega) (by simp)))).lt g hg).1); have c60 := (HS.out _ hw6).1; have c61 := (HS.out _ hw6).2)
        | (refine step_app (by rfl) _ _ _ (by rfl) w5.heap.size tLp i0 (.agg #[.int .i64 0, .int .i64 0]) 2 16 Try.underlying22 hi hz0 hz1 hz2 rfl (by decide) _ 0 [] (by rfl) (World.ownsRow.alloc (World.ownsRow.drew (World.ownsRow_made (base := w5.heap.size) (e := tLp) (size := 2) w5 #[] 0 (by simp) (by unfold maxLen; omega) (by simp))) (oLp X S)) A n c (cellsL l) (by rfl) (by rw [cellsL_len, hlen.out]) (fun e => hAc.out e) (lp_news (HLd.out _ hrEX)) (cellsL_one l) (by unfold maxLen; omega) (by omega) (by simp; try omega) ?_; intro v6 w6 hown6 hgrow6; have hw6 := Below.grown hrEX hgrow6 (by simp; try omega) (fun g hg => ((World.ownsRow.alloc (World.ownsRow.drew (World.ownsRow_made (base := w5.heap.size) (e := tLp) (size := 2) w5 #[] 0 (by simp) (by unfold maxLen; omega) (by simp))) (oLp X S)).lt g hg).1); have c60 := (HS.out _ hw6).1; have c61 := (HS.out _ hw6).2; have kX := (hgrow6.block (w5.heap.size + 1) (by simp) (by simp [Value.ownBlock])).trans hkEX.out)
        | (refine step_app (by rfl) _ _ _ (by rfl) w5.heap.size tLp i0 (.agg #[.int .i64 0, .int .i64 0]) 2 16 Try.underlying22 hi hz0 hz1 hz2 rfl (by decide) _ 0 [] (by rfl) hmX.out A n c (cellsL l) (by rfl) (by rw [cellsL_len, hlen.out]) (fun e => hAc.out e) (lp_news (HLd.out _ hrXE)) (cellsL_one l) (by unfold maxLen; omega) (by omega) (by simp; try omega) ?_; intro v6 w6 hown6 hgrow6; have hw6 := Below.grown hrXE hgrow6 (by simp; try omega) (fun g hg => ((hmX.out).lt g hg).1); have c60 := (HS.out _ hw6).1; have c61 := (HS.out _ hw6).2; have kX := (hgrow6.block w5.heap.size (by first | (simp; done) | (simp; omega)) (by simp [Value.ownBlock])).trans hkXE.out)
        | (refine step_app (by rfl) _ _ _ (by rfl) w5.heap.size tLp i0 (.agg #[.int .i64 0, .int .i64 0]) 2 16 Try.underlying22 hi hz0 hz1 hz2 rfl (by decide) _ (0 + n) ([] ++ cellsL l) (by rfl) hown6 (some ⟨w5.heap.size + 1, 0, none⟩) 1 1 [.int .i64 X, .int .i64 S] (by rfl) (by rfl) (fun h => by cases h) (fun ad h => by cases h; exact World.news_of_block kX) (by simp [Value.oneCell']) (by unfold maxLen; omega) (by omega) (by have := hw6.size; simp; try omega) ?_; intro v8 w8 hown8 hgrow8; have hw8 := Below.grown hw6 hgrow8 (by have := hw6.size; simp; try omega) (fun g hg => (hown6.lt g hg).1))
        | (refine step_app (by rfl) _ _ _ (by rfl) w5.heap.size tLp i0 (.agg #[.int .i64 0, .int .i64 0]) 2 16 Try.underlying22 hi hz0 hz1 hz2 rfl (by decide) _ (0 + n) ([] ++ cellsL l) (by rfl) hown6 (some ⟨w5.heap.size, 0, none⟩) 1 1 [.int .i64 X, .int .i64 S] (by rfl) (by rfl) (fun h => by cases h) (fun ad h => by cases h; exact World.news_of_block kX) (by simp [Value.oneCell']) (by unfold maxLen; omega) (by omega) (by have := hw6.size; simp; try omega) ?_; intro v8 w8 hown8 hgrow8; have hw8 := Below.grown hw6 hgrow8 (by have := hw6.size; simp; try omega) (fun g hg => (hown6.lt g hg).1))
        | (refine step_app (by rfl) _ _ _ (by rfl) w5.heap.size tLp i0 (.agg #[.int .i64 0, .int .i64 0]) 2 16 Try.underlying22 hi hz0 hz1 hz2 rfl (by decide) _ (0 + n) ([] ++ cellsL l) (by rfl) (hown6.alloc (oLp X S)) (some ⟨w6.heap.size, 0, none⟩) 1 1 [.int .i64 X, .int .i64 S] (by rfl) (by rfl) (fun h => by cases h) (fun ad h => by cases h; exact World.news_of_block (heap_new w6 (oLp X S))) (by simp [Value.oneCell']) (by unfold maxLen; omega) (by omega) (by have := hw6.size; simp; try omega) ?_; intro v8 w8 hown8 hgrow8; have hw8 := Below.grown (hw6.alloc hw6.size (oLp X S)) hgrow8 (by have := hw6.size; simp; try omega) (fun g hg => (hown6.lt g hg).1)))
    all_goals
      have hown9 : w8.ownsRow w5.heap.size tLp 2 v8 (n + 1) (cellsL (l ++ [(X, S)])) := by
        have := hown8
        simp only [List.nil_append, Nat.zero_add] at this
        rw [cellsL_app]; exact this
      obtain ⟨A', c', rfl, hL'⟩ := lp_own hown9 (by simp [hlen.out])
      have hb8 := Below.go hb hw8
      have kx8 := Lib.hid (keep' kx5.out hw8)
      have HLW : Hid (∀ W, Below w8.heap.size w8 W → Lp W.heap.size W A n l) := Lib.hid fun W hW => HL.out _ (Below.go hb8 hW)
      have HMW : Hid (∀ W, Below w8.heap.size w8 W → Lp W.heap.size W A' (n + 1) (l ++ [(X, S)])) := Lib.hid fun W hW => (hL'.below hW).mono hW.size
      have h8 := Below.refl w8.heap.size w8
      clear hown8 hown9 hL' hgrow8 hgrow6 hown6 hw8 hw6 HS HLd hr0 hr1 hmX hrX hrXE hkXE hrE hrEX hkEX
      have hbad' := hbad.out
      go_wp2_with fail
      refine (refValid_c (HMW.out _ h8) (Nat.le_refl _) (by omega) (Below.refl _ _)).mono ?_
      rintro e wa ⟨rfl, hna⟩
      have h8 := Below.go h8 hna
      clear hna
      go_wp2
      go_ret
      exact ⟨by simp, Below.go hb8 h8⟩
set_option maxHeartbeats 2000000 in
set_option maxRecDepth 100000 in
theorem lf_lt (A : Option Addr) (n c : Nat) (l : Lpm.LL) (day nn X S N a c0 : Int) (step : Bool) (w : World) (hl : Lp w.heap.size w A n l) (hAc : Hid (A = none → n = 0 ∧ c = 0)) (hreach : n * 16 ≤ 140737488351232) (d0 : 0 ≤ day) (d1 : day ≤ 4294967295) (n0 : 0 ≤ nn) (n1 : nn ≤ 4294967295) (hX : Hid (day % 34000 = X)) (hS : Hid ((if step then 1 else -1) = S)) (hN : Hid (nn % 34001 = N)) (x0 : 0 ≤ X) (x1 : X ≤ 34000) (s0 : -1 ≤ S) (s1 : S ≤ 1) (a0 : -4000000000000000 ≤ a) (a1 : a ≤ 4000000000000000) (c1 : -100000000000 ≤ c0) (c2 : c0 ≤ 100000000000) (g1 : n ≤ 99) (hv2 : Hid (Lpm.valid (l ++ [(X, S)]) = true)) (HF : FurF l X S N a a c0 c0) (hNX : decide (N ≤ X) = true) (hNe : (N == X) = false) :
    Calls Try.prog 7 #[.slice A n c, .int .u32 day, .bool step, .int .u32 nn] w (LawPost w) := by
  have hb := Below.refl w.heap.size w
  have hlen := Lib.hid hl.1
  have HL : Hid (∀ W, Below w.heap.size w W → Lp W.heap.size W A n l) := Lib.hid fun W hW => (hl.below hW).mono hW.size
  clear hl
  obtain ⟨i0, hi, hz0, hz1, hz2⟩ := info_parts infoLp
  have t1 : decide (99 < n) = false := decide_eq_false (by omega)
  have t2 : decide (99 < (n : Int)) = false := decide_eq_false (by omega)
  cases step
  · skip
    have HSS : Hid ((-1 : Int) = S) := Lib.hid (by have := hS.out; simpa using this)
    go_enter Try.func7, Try.ntmps7
    go_wp2_with fail
    refine (head_c (Below.refl _ _)).mono ?_
    rintro e w2 ⟨rfl, hn⟩
    have hb := (by first | exact Below.go hb hn | exact Below.goA hb hn | exact Below.goAA hb hn | exact Below.goD hb hn | exact Below.goAD hb hn : Below w.heap.size w w2)
    clear hn
    have hsz2 := hb.size
    have hbo := hb
    go_wp2_with fail
    have kx5 : Hid ((w2.alloc (oLp (day % 34000) (-1))).heap[w2.heap.size]? = some (oLp X S)) := Lib.hid (by rw [← HSS.out, ← hX.out]; exact (heap_new w2 (oLp (day % 34000) (-1))))
    have hb5 : Below w.heap.size w (w2.alloc (oLp (day % 34000) (-1))) := (Below.goN hbo (oLp (day % 34000) (-1)))
    generalize (w2.alloc (oLp (day % 34000) (-1))) = w5 at *
    generalize w2.heap.size = k at *
    have hb := hb5
    clear hb5 hsz2 hbo
    have hr0 := Below.refl w5.heap.size w5
    have hrE := (hr0.alloc (Nat.le_refl _) (.cells #[] tLp)).drew
    have hrEX := hrE.alloc (by simp) (oLp X S)
    have hkEX : Hid (((w5.alloc (.cells #[] tLp)).drew.alloc (oLp X S)).heap[w5.heap.size + 1]? = some (oLp X S)) := Lib.hid (by have := heap_new (w5.alloc (.cells #[] tLp)).drew (oLp X S); simpa using this)
    have HLd : Hid (∀ W, Below w5.heap.size w5 W → Lp W.heap.size W A n l) := Lib.hid fun W hW => HL.out _ (Below.go hb hW)
    have HS : Hid (∀ W, Below w5.heap.size w5 W → W.cell? ⟨k, 0, none⟩ = some (.int .i64 X) ∧ W.cell? ⟨k, 1, none⟩ = some (.int .i64 S)) := Lib.hid fun W hW => (blk2 (keep' kx5.out hW)).1
    go_wp2_with fail
    have hmX : Hid (((w5.drew.alloc (oLp X S)).alloc (.cells #[] tLp)).ownsRow w5.heap.size tLp 2 (.slice (some ⟨w5.heap.size + 1, 0, none⟩) 0 0) 0 []) := Lib.hid (by have := (World.ownsRow_made (base := w5.heap.size) (e := tLp) (size := 2) (w5.drew.alloc (oLp X S)) #[] 0 (by simp) (by unfold maxLen; omega) (by simp)); rw [World.size_alloc] at this; exact this)
    have hr1 := hr0.drew
    have hrX := hr1.alloc (Nat.le_refl _) (oLp X S)
    have hrXE := hrX.alloc (by simp) (.cells #[] tLp)
    have hkXE := Lib.hid (new0 w5.drew (oLp X S) (.cells #[] tLp))
    have c2 := (HS.out _ hr1).1
    have c3 := (HS.out _ hr1).2
    have c0 := (HS.out _ hrE).1
    have c1 := (HS.out _ hrE).2
    go_region_law
      (first
        | (refine step_app (by rfl) _ _ _ (by rfl) w5.heap.size tLp i0 (.agg #[.int .i64 0, .int .i64 0]) 2 16 Try.underlying22 hi hz0 hz1 hz2 rfl (by decide) _ 0 [] (by rfl) (World.ownsRow.drew (World.ownsRow_made (base := w5.heap.size) (e := tLp) (size := 2) w5 #[] 0 (by simp) (by unfold maxLen; omega) (by simp))) A n c (cellsL l) (by rfl) (by rw [cellsL_len, hlen.out]) (fun e => hAc.out e) (lp_news (HLd.out _ hrE)) (cellsL_one l) (by unfold maxLen; omega) (by omega) (by simp; try omega) ?_; intro v6 w6 hown6 hgrow6; have hw6 := Below.grown hrE hgrow6 (by simp; try omega) (fun g hg => (((World.ownsRow.drew (World.ownsRow_made (base := w5.heap.size) (e := tLp) (size := 2) w5 #[] 0 (by simp) (by unfold maxLen; omega) (by simp)))).lt g hg).1); have c60 := (HS.out _ hw6).1; have c61 := (HS.out _ hw6).2)
        | (refine step_app (by rfl) _ _ _ (by rfl) w5.heap.size tLp i0 (.agg #[.int .i64 0, .int .i64 0]) 2 16 Try.underlying22 hi hz0 hz1 hz2 rfl (by decide) _ 0 [] (by rfl) (World.ownsRow.alloc (World.ownsRow.drew (World.ownsRow_made (base := w5.heap.size) (e := tLp) (size := 2) w5 #[] 0 (by simp) (by unfold maxLen; omega) (by simp))) (oLp X S)) A n c (cellsL l) (by rfl) (by rw [cellsL_len, hlen.out]) (fun e => hAc.out e) (lp_news (HLd.out _ hrEX)) (cellsL_one l) (by unfold maxLen; omega) (by omega) (by simp; try omega) ?_; intro v6 w6 hown6 hgrow6; have hw6 := Below.grown hrEX hgrow6 (by simp; try omega) (fun g hg => ((World.ownsRow.alloc (World.ownsRow.drew (World.ownsRow_made (base := w5.heap.size) (e := tLp) (size := 2) w5 #[] 0 (by simp) (by unfold maxLen; omega) (by simp))) (oLp X S)).lt g hg).1); have c60 := (HS.out _ hw6).1; have c61 := (HS.out _ hw6).2; have kX := (hgrow6.block (w5.heap.size + 1) (by simp) (by simp [Value.ownBlock])).trans hkEX.out)
        | (refine step_app (by rfl) _ _ _ (by rfl) w5.heap.size tLp i0 (.agg #[.int .i64 0, .int .i64 0]) 2 16 Try.underlying22 hi hz0 hz1 hz2 rfl (by decide) _ 0 [] (by rfl) hmX.out A n c (cellsL l) (by rfl) (by rw [cellsL_len, hlen.out]) (fun e => hAc.out e) (lp_news (HLd.out _ hrXE)) (cellsL_one l) (by unfold maxLen; omega) (by omega) (by simp; try omega) ?_; intro v6 w6 hown6 hgrow6; have hw6 := Below.grown hrXE hgrow6 (by simp; try omega) (fun g hg => ((hmX.out).lt g hg).1); have c60 := (HS.out _ hw6).1; have c61 := (HS.out _ hw6).2; have kX := (hgrow6.block w5.heap.size (by first | (simp; done) | (simp; omega)) (by simp [Value.ownBlock])).trans hkXE.out)
        | (refine step_app (by rfl) _ _ _ (by rfl) w5.heap.size tLp i0 (.agg #[.int .i64 0, .int .i64 0]) 2 16 Try.underlying22 hi hz0 hz1 hz2 rfl (by decide) _ (0 + n) ([] ++ cellsL l) (by rfl) hown6 (some ⟨w5.heap.size + 1, 0, none⟩) 1 1 [.int .i64 X, .int .i64 S] (by rfl) (by rfl) (fun h => by cases h) (fun ad h => by cases h; exact World.news_of_block kX) (by simp [Value.oneCell']) (by unfold maxLen; omega) (by omega) (by have := hw6.size; simp; try omega) ?_; intro v8 w8 hown8 hgrow8; have hw8 := Below.grown hw6 hgrow8 (by have := hw6.size; simp; try omega) (fun g hg => (hown6.lt g hg).1))
        | (refine step_app (by rfl) _ _ _ (by rfl) w5.heap.size tLp i0 (.agg #[.int .i64 0, .int .i64 0]) 2 16 Try.underlying22 hi hz0 hz1 hz2 rfl (by decide) _ (0 + n) ([] ++ cellsL l) (by rfl) hown6 (some ⟨w5.heap.size, 0, none⟩) 1 1 [.int .i64 X, .int .i64 S] (by rfl) (by rfl) (fun h => by cases h) (fun ad h => by cases h; exact World.news_of_block kX) (by simp [Value.oneCell']) (by unfold maxLen; omega) (by omega) (by have := hw6.size; simp; try omega) ?_; intro v8 w8 hown8 hgrow8; have hw8 := Below.grown hw6 hgrow8 (by have := hw6.size; simp; try omega) (fun g hg => (hown6.lt g hg).1))
        | (refine step_app (by rfl) _ _ _ (by rfl) w5.heap.size tLp i0 (.agg #[.int .i64 0, .int .i64 0]) 2 16 Try.underlying22 hi hz0 hz1 hz2 rfl (by decide) _ (0 + n) ([] ++ cellsL l) (by rfl) (hown6.alloc (oLp X S)) (some ⟨w6.heap.size, 0, none⟩) 1 1 [.int .i64 X, .int .i64 S] (by rfl) (by rfl) (fun h => by cases h) (fun ad h => by cases h; exact World.news_of_block (heap_new w6 (oLp X S))) (by simp [Value.oneCell']) (by unfold maxLen; omega) (by omega) (by have := hw6.size; simp; try omega) ?_; intro v8 w8 hown8 hgrow8; have hw8 := Below.grown (hw6.alloc hw6.size (oLp X S)) hgrow8 (by have := hw6.size; simp; try omega) (fun g hg => (hown6.lt g hg).1)))
    all_goals
      have hown9 : w8.ownsRow w5.heap.size tLp 2 v8 (n + 1) (cellsL (l ++ [(X, S)])) := by
        have := hown8
        simp only [List.nil_append, Nat.zero_add] at this
        rw [cellsL_app]; exact this
      obtain ⟨A', c', rfl, hL'⟩ := lp_own hown9 (by simp [hlen.out])
      have hb8 := Below.go hb hw8
      have kx8 := Lib.hid (keep' kx5.out hw8)
      have HLW : Hid (∀ W, Below w8.heap.size w8 W → Lp W.heap.size W A n l) := Lib.hid fun W hW => HL.out _ (Below.go hb8 hW)
      have HMW : Hid (∀ W, Below w8.heap.size w8 W → Lp W.heap.size W A' (n + 1) (l ++ [(X, S)])) := Lib.hid fun W hW => (hL'.below hW).mono hW.size
      have h8 := Below.refl w8.heap.size w8
      clear hown8 hown9 hL' hgrow8 hgrow6 hown6 hw8 hw6 HS HLd hr0 hr1 hmX hrX hrXE hkXE hrE hrEX hkEX
      obtain ⟨f1, f2, f3, f4, f5, f6⟩ := HF
      have hv2' := hv2.out
      have hN' := hN.out
      go_wp2_with fail
      refine (refValid_c (HMW.out _ h8) (Nat.le_refl _) (by omega) (Below.refl _ _)).mono ?_
      rintro e wa ⟨rfl, hna⟩
      have h8 := Below.go h8 hna
      clear hna
      go_wp2_with fail
      refine (on_s _ _ n0 n1).mono ?_
      rintro e wz ⟨rfl, rfl⟩
      go_wp2_with fail
      refine (Start_c (day := N) (HLW.out _ h8) (Nat.le_refl _) (by omega) (Below.refl _ _)).mono ?_
      rintro e wa ⟨rfl, hna⟩
      have h8 := Below.go h8 hna
      clear hna
      go_wp2_with fail
      refine (on_s _ _ n0 n1).mono ?_
      rintro e wz ⟨rfl, rfl⟩
      go_wp2_with fail
      refine (Start_c (day := N) (HMW.out _ h8) (Nat.le_refl _) (by omega) (Below.refl _ _)).mono ?_
      rintro e wa ⟨rfl, hna⟩
      have h8 := Below.go h8 hna
      clear hna
      go_wp2_with fail
      refine (on_s _ _ n0 n1).mono ?_
      rintro e wz ⟨rfl, rfl⟩
      go_wp2_with fail
      refine (Length_c (day := N) (HLW.out _ h8) (Nat.le_refl _) (by omega) (Below.refl _ _)).mono ?_
      rintro e wa ⟨rfl, hna⟩
      have h8 := Below.go h8 hna
      clear hna
      go_wp2_with fail
      refine (on_s _ _ n0 n1).mono ?_
      rintro e wz ⟨rfl, rfl⟩
      go_wp2_with fail
      refine (Length_c (day := N) (HMW.out _ h8) (Nat.le_refl _) (by omega) (Below.refl _ _)).mono ?_
      rintro e wa ⟨rfl, hna⟩
      have h8 := Below.go h8 hna
      clear hna
      have kk1 := (blk2 (keep' kx8.out h8)).1
      obtain ⟨cc1, cd1⟩ := kk1
      go_wp2_with fail
      go_quiet ((go_at_call 22; exact Calls.quiet_of_same (on_q _ _ n0 n1)))
      have h8q := below_drewN h8 nq
      clear h8 cc1 cd1
      have h8 := h8q
      clear h8q
      generalize wa.drewN nq = wq at *
      have kk2 := (blk2 (keep' kx8.out h8)).1
      obtain ⟨cc2, cd2⟩ := kk2
      go_wp2_with fail
      go_quiet ((go_at_call 22; exact Calls.quiet_of_same (on_q _ _ n0 n1)))
      have h8q := below_drewN h8 nq
      clear h8 cc2 cd2
      have h8 := h8q
      clear h8q
      have kk3 := (blk2 (keep' kx8.out h8)).1
      obtain ⟨cc3, cd3⟩ := kk3
      go_wp2_with fail
      go_wp2
      go_ret
      exact ⟨by simp, Below.go hb8 h8⟩
  · skip
    have HSS : Hid ((1 : Int) = S) := Lib.hid (by have := hS.out; simpa using this)
    go_enter Try.func7, Try.ntmps7
    go_wp2_with fail
    refine (head_c (Below.refl _ _)).mono ?_
    rintro e w2 ⟨rfl, hn⟩
    have hb := (by first | exact Below.go hb hn | exact Below.goA hb hn | exact Below.goAA hb hn | exact Below.goD hb hn | exact Below.goAD hb hn : Below w.heap.size w w2)
    clear hn
    have hsz2 := hb.size
    have hbo := hb
    go_wp2_with fail
    have kx5 : Hid ((w2.alloc (oLp (day % 34000) 1)).heap[w2.heap.size]? = some (oLp X S)) := Lib.hid (by rw [← HSS.out, ← hX.out]; exact (heap_new w2 (oLp (day % 34000) 1)))
    have hb5 : Below w.heap.size w (w2.alloc (oLp (day % 34000) 1)) := (Below.goN hbo (oLp (day % 34000) 1))
    generalize (w2.alloc (oLp (day % 34000) 1)) = w5 at *
    generalize w2.heap.size = k at *
    have hb := hb5
    clear hb5 hsz2 hbo
    have hr0 := Below.refl w5.heap.size w5
    have hrE := (hr0.alloc (Nat.le_refl _) (.cells #[] tLp)).drew
    have hrEX := hrE.alloc (by simp) (oLp X S)
    have hkEX : Hid (((w5.alloc (.cells #[] tLp)).drew.alloc (oLp X S)).heap[w5.heap.size + 1]? = some (oLp X S)) := Lib.hid (by have := heap_new (w5.alloc (.cells #[] tLp)).drew (oLp X S); simpa using this)
    have HLd : Hid (∀ W, Below w5.heap.size w5 W → Lp W.heap.size W A n l) := Lib.hid fun W hW => HL.out _ (Below.go hb hW)
    have HS : Hid (∀ W, Below w5.heap.size w5 W → W.cell? ⟨k, 0, none⟩ = some (.int .i64 X) ∧ W.cell? ⟨k, 1, none⟩ = some (.int .i64 S)) := Lib.hid fun W hW => (blk2 (keep' kx5.out hW)).1
    go_wp2_with fail
    have hmX : Hid (((w5.drew.alloc (oLp X S)).alloc (.cells #[] tLp)).ownsRow w5.heap.size tLp 2 (.slice (some ⟨w5.heap.size + 1, 0, none⟩) 0 0) 0 []) := Lib.hid (by have := (World.ownsRow_made (base := w5.heap.size) (e := tLp) (size := 2) (w5.drew.alloc (oLp X S)) #[] 0 (by simp) (by unfold maxLen; omega) (by simp)); rw [World.size_alloc] at this; exact this)
    have hr1 := hr0.drew
    have hrX := hr1.alloc (Nat.le_refl _) (oLp X S)
    have hrXE := hrX.alloc (by simp) (.cells #[] tLp)
    have hkXE := Lib.hid (new0 w5.drew (oLp X S) (.cells #[] tLp))
    have c2 := (HS.out _ hr1).1
    have c3 := (HS.out _ hr1).2
    have c0 := (HS.out _ hrE).1
    have c1 := (HS.out _ hrE).2
    go_region_law
      (first
        | (refine step_app (by rfl) _ _ _ (by rfl) w5.heap.size tLp i0 (.agg #[.int .i64 0, .int .i64 0]) 2 16 Try.underlying22 hi hz0 hz1 hz2 rfl (by decide) _ 0 [] (by rfl) (World.ownsRow.drew (World.ownsRow_made (base := w5.heap.size) (e := tLp) (size := 2) w5 #[] 0 (by simp) (by unfold maxLen; omega) (by simp))) A n c (cellsL l) (by rfl) (by rw [cellsL_len, hlen.out]) (fun e => hAc.out e) (lp_news (HLd.out _ hrE)) (cellsL_one l) (by unfold maxLen; omega) (by omega) (by simp; try omega) ?_; intro v6 w6 hown6 hgrow6; have hw6 := Below.grown hrE hgrow6 (by simp; try omega) (fun g hg => (((World.ownsRow.drew (World.ownsRow_made (base := w5.heap.size) (e := tLp) (size := 2) w5 #[] 0 (by simp) (by unfold maxLen; omega) (by simp)))).lt g hg).1); have c60 := (HS.out _ hw6).1; have c61 := (HS.out _ hw6).2)
        | (refine step_app (by rfl) _ _ _ (by rfl) w5.heap.size tLp i0 (.agg #[.int .i64 0, .int .i64 0]) 2 16 Try.underlying22 hi hz0 hz1 hz2 rfl (by decide) _ 0 [] (by rfl) (World.ownsRow.alloc (World.ownsRow.drew (World.ownsRow_made (base := w5.heap.size) (e := tLp) (size := 2) w5 #[] 0 (by simp) (by unfold maxLen; omega) (by simp))) (oLp X S)) A n c (cellsL l) (by rfl) (by rw [cellsL_len, hlen.out]) (fun e => hAc.out e) (lp_news (HLd.out _ hrEX)) (cellsL_one l) (by unfold maxLen; omega) (by omega) (by simp; try omega) ?_; intro v6 w6 hown6 hgrow6; have hw6 := Below.grown hrEX hgrow6 (by simp; try omega) (fun g hg => ((World.ownsRow.alloc (World.ownsRow.drew (World.ownsRow_made (base := w5.heap.size) (e := tLp) (size := 2) w5 #[] 0 (by simp) (by unfold maxLen; omega) (by simp))) (oLp X S)).lt g hg).1); have c60 := (HS.out _ hw6).1; have c61 := (HS.out _ hw6).2; have kX := (hgrow6.block (w5.heap.size + 1) (by simp) (by simp [Value.ownBlock])).trans hkEX.out)
        | (refine step_app (by rfl) _ _ _ (by rfl) w5.heap.size tLp i0 (.agg #[.int .i64 0, .int .i64 0]) 2 16 Try.underlying22 hi hz0 hz1 hz2 rfl (by decide) _ 0 [] (by rfl) hmX.out A n c (cellsL l) (by rfl) (by rw [cellsL_len, hlen.out]) (fun e => hAc.out e) (lp_news (HLd.out _ hrXE)) (cellsL_one l) (by unfold maxLen; omega) (by omega) (by simp; try omega) ?_; intro v6 w6 hown6 hgrow6; have hw6 := Below.grown hrXE hgrow6 (by simp; try omega) (fun g hg => ((hmX.out).lt g hg).1); have c60 := (HS.out _ hw6).1; have c61 := (HS.out _ hw6).2; have kX := (hgrow6.block w5.heap.size (by first | (simp; done) | (simp; omega)) (by simp [Value.ownBlock])).trans hkXE.out)
        | (refine step_app (by rfl) _ _ _ (by rfl) w5.heap.size tLp i0 (.agg #[.int .i64 0, .int .i64 0]) 2 16 Try.underlying22 hi hz0 hz1 hz2 rfl (by decide) _ (0 + n) ([] ++ cellsL l) (by rfl) hown6 (some ⟨w5.heap.size + 1, 0, none⟩) 1 1 [.int .i64 X, .int .i64 S] (by rfl) (by rfl) (fun h => by cases h) (fun ad h => by cases h; exact World.news_of_block kX) (by simp [Value.oneCell']) (by unfold maxLen; omega) (by omega) (by have := hw6.size; simp; try omega) ?_; intro v8 w8 hown8 hgrow8; have hw8 := Below.grown hw6 hgrow8 (by have := hw6.size; simp; try omega) (fun g hg => (hown6.lt g hg).1))
        | (refine step_app (by rfl) _ _ _ (by rfl) w5.heap.size tLp i0 (.agg #[.int .i64 0, .int .i64 0]) 2 16 Try.underlying22 hi hz0 hz1 hz2 rfl (by decide) _ (0 + n) ([] ++ cellsL l) (by rfl) hown6 (some ⟨w5.heap.size, 0, none⟩) 1 1 [.int .i64 X, .int .i64 S] (by rfl) (by rfl) (fun h => by cases h) (fun ad h => by cases h; exact World.news_of_block kX) (by simp [Value.oneCell']) (by unfold maxLen; omega) (by omega) (by have := hw6.size; simp; try omega) ?_; intro v8 w8 hown8 hgrow8; have hw8 := Below.grown hw6 hgrow8 (by have := hw6.size; simp; try omega) (fun g hg => (hown6.lt g hg).1))
        | (refine step_app (by rfl) _ _ _ (by rfl) w5.heap.size tLp i0 (.agg #[.int .i64 0, .int .i64 0]) 2 16 Try.underlying22 hi hz0 hz1 hz2 rfl (by decide) _ (0 + n) ([] ++ cellsL l) (by rfl) (hown6.alloc (oLp X S)) (some ⟨w6.heap.size, 0, none⟩) 1 1 [.int .i64 X, .int .i64 S] (by rfl) (by rfl) (fun h => by cases h) (fun ad h => by cases h; exact World.news_of_block (heap_new w6 (oLp X S))) (by simp [Value.oneCell']) (by unfold maxLen; omega) (by omega) (by have := hw6.size; simp; try omega) ?_; intro v8 w8 hown8 hgrow8; have hw8 := Below.grown (hw6.alloc hw6.size (oLp X S)) hgrow8 (by have := hw6.size; simp; try omega) (fun g hg => (hown6.lt g hg).1)))
    all_goals
      have hown9 : w8.ownsRow w5.heap.size tLp 2 v8 (n + 1) (cellsL (l ++ [(X, S)])) := by
        have := hown8
        simp only [List.nil_append, Nat.zero_add] at this
        rw [cellsL_app]; exact this
      obtain ⟨A', c', rfl, hL'⟩ := lp_own hown9 (by simp [hlen.out])
      have hb8 := Below.go hb hw8
      have kx8 := Lib.hid (keep' kx5.out hw8)
      have HLW : Hid (∀ W, Below w8.heap.size w8 W → Lp W.heap.size W A n l) := Lib.hid fun W hW => HL.out _ (Below.go hb8 hW)
      have HMW : Hid (∀ W, Below w8.heap.size w8 W → Lp W.heap.size W A' (n + 1) (l ++ [(X, S)])) := Lib.hid fun W hW => (hL'.below hW).mono hW.size
      have h8 := Below.refl w8.heap.size w8
      clear hown8 hown9 hL' hgrow8 hgrow6 hown6 hw8 hw6 HS HLd hr0 hr1 hmX hrX hrXE hkXE hrE hrEX hkEX
      obtain ⟨f1, f2, f3, f4, f5, f6⟩ := HF
      have hv2' := hv2.out
      have hN' := hN.out
      go_wp2_with fail
      refine (refValid_c (HMW.out _ h8) (Nat.le_refl _) (by omega) (Below.refl _ _)).mono ?_
      rintro e wa ⟨rfl, hna⟩
      have h8 := Below.go h8 hna
      clear hna
      go_wp2_with fail
      refine (on_s _ _ n0 n1).mono ?_
      rintro e wz ⟨rfl, rfl⟩
      go_wp2_with fail
      refine (Start_c (day := N) (HLW.out _ h8) (Nat.le_refl _) (by omega) (Below.refl _ _)).mono ?_
      rintro e wa ⟨rfl, hna⟩
      have h8 := Below.go h8 hna
      clear hna
      go_wp2_with fail
      refine (on_s _ _ n0 n1).mono ?_
      rintro e wz ⟨rfl, rfl⟩
      go_wp2_with fail
      refine (Start_c (day := N) (HMW.out _ h8) (Nat.le_refl _) (by omega) (Below.refl _ _)).mono ?_
      rintro e wa ⟨rfl, hna⟩
      have h8 := Below.go h8 hna
      clear hna
      go_wp2_with fail
      refine (on_s _ _ n0 n1).mono ?_
      rintro e wz ⟨rfl, rfl⟩
      go_wp2_with fail
      refine (Length_c (day := N) (HLW.out _ h8) (Nat.le_refl _) (by omega) (Below.refl _ _)).mono ?_
      rintro e wa ⟨rfl, hna⟩
      have h8 := Below.go h8 hna
      clear hna
      go_wp2_with fail
      refine (on_s _ _ n0 n1).mono ?_
      rintro e wz ⟨rfl, rfl⟩
      go_wp2_with fail
      refine (Length_c (day := N) (HMW.out _ h8) (Nat.le_refl _) (by omega) (Below.refl _ _)).mono ?_
      rintro e wa ⟨rfl, hna⟩
      have h8 := Below.go h8 hna
      clear hna
      have kk1 := (blk2 (keep' kx8.out h8)).1
      obtain ⟨cc1, cd1⟩ := kk1
      go_wp2_with fail
      go_quiet ((go_at_call 22; exact Calls.quiet_of_same (on_q _ _ n0 n1)))
      have h8q := below_drewN h8 nq
      clear h8 cc1 cd1
      have h8 := h8q
      clear h8q
      generalize wa.drewN nq = wq at *
      have kk2 := (blk2 (keep' kx8.out h8)).1
      obtain ⟨cc2, cd2⟩ := kk2
      go_wp2_with fail
      go_quiet ((go_at_call 22; exact Calls.quiet_of_same (on_q _ _ n0 n1)))
      have h8q := below_drewN h8 nq
      clear h8 cc2 cd2
      have h8 := h8q
      clear h8q
      have kk3 := (blk2 (keep' kx8.out h8)).1
      obtain ⟨cc3, cd3⟩ := kk3
      go_wp2_with fail
      go_wp2
      go_ret
      exact ⟨by simp, Below.go hb8 h8⟩
set_option maxHeartbeats 2000000 in
set_option maxRecDepth 100000 in
theorem lf_eq (A : Option Addr) (n c : Nat) (l : Lpm.LL) (day nn X S N a c0 : Int) (step : Bool) (w : World) (hl : Lp w.heap.size w A n l) (hAc : Hid (A = none → n = 0 ∧ c = 0)) (hreach : n * 16 ≤ 140737488351232) (d0 : 0 ≤ day) (d1 : day ≤ 4294967295) (n0 : 0 ≤ nn) (n1 : nn ≤ 4294967295) (hX : Hid (day % 34000 = X)) (hS : Hid ((if step then 1 else -1) = S)) (hN : Hid (nn % 34001 = N)) (x0 : 0 ≤ X) (x1 : X ≤ 34000) (s0 : -1 ≤ S) (s1 : S ≤ 1) (a0 : -4000000000000000 ≤ a) (a1 : a ≤ 4000000000000000) (c1 : -100000000000 ≤ c0) (c2 : c0 ≤ 100000000000) (g1 : n ≤ 99) (hv2 : Hid (Lpm.valid (l ++ [(X, S)]) = true)) (HF : FurF l X S N a a c0 (c0 + S * 1000000)) (hNX : decide (N ≤ X) = true) (hNe : (N == X) = true) :
    Calls Try.prog 7 #[.slice A n c, .int .u32 day, .bool step, .int .u32 nn] w (LawPost w) := by
  have hb := Below.refl w.heap.size w
  have hlen := Lib.hid hl.1
  have HL : Hid (∀ W, Below w.heap.size w W → Lp W.heap.size W A n l) := Lib.hid fun W hW => (hl.below hW).mono hW.size
  clear hl
  obtain ⟨i0, hi, hz0, hz1, hz2⟩ := info_parts infoLp
  have t1 : decide (99 < n) = false := decide_eq_false (by omega)
  have t2 : decide (99 < (n : Int)) = false := decide_eq_false (by omega)
  cases step
  · skip
    have HSS : Hid ((-1 : Int) = S) := Lib.hid (by have := hS.out; simpa using this)
    go_enter Try.func7, Try.ntmps7
    go_wp2_with fail
    refine (head_c (Below.refl _ _)).mono ?_
    rintro e w2 ⟨rfl, hn⟩
    have hb := (by first | exact Below.go hb hn | exact Below.goA hb hn | exact Below.goAA hb hn | exact Below.goD hb hn | exact Below.goAD hb hn : Below w.heap.size w w2)
    clear hn
    have hsz2 := hb.size
    have hbo := hb
    go_wp2_with fail
    have kx5 : Hid ((w2.alloc (oLp (day % 34000) (-1))).heap[w2.heap.size]? = some (oLp X S)) := Lib.hid (by rw [← HSS.out, ← hX.out]; exact (heap_new w2 (oLp (day % 34000) (-1))))
    have hb5 : Below w.heap.size w (w2.alloc (oLp (day % 34000) (-1))) := (Below.goN hbo (oLp (day % 34000) (-1)))
    generalize (w2.alloc (oLp (day % 34000) (-1))) = w5 at *
    generalize w2.heap.size = k at *
    have hb := hb5
    clear hb5 hsz2 hbo
    have hr0 := Below.refl w5.heap.size w5
    have hrE := (hr0.alloc (Nat.le_refl _) (.cells #[] tLp)).drew
    have hrEX := hrE.alloc (by simp) (oLp X S)
    have hkEX : Hid (((w5.alloc (.cells #[] tLp)).drew.alloc (oLp X S)).heap[w5.heap.size + 1]? = some (oLp X S)) := Lib.hid (by have := heap_new (w5.alloc (.cells #[] tLp)).drew (oLp X S); simpa using this)
    have HLd : Hid (∀ W, Below w5.heap.size w5 W → Lp W.heap.size W A n l) := Lib.hid fun W hW => HL.out _ (Below.go hb hW)
    have HS : Hid (∀ W, Below w5.heap.size w5 W → W.cell? ⟨k, 0, none⟩ = some (.int .i64 X) ∧ W.cell? ⟨k, 1, none⟩ = some (.int .i64 S)) := Lib.hid fun W hW => (blk2 (keep' kx5.out hW)).1
    go_wp2_with fail
    have hmX : Hid (((w5.drew.alloc (oLp X S)).alloc (.cells #[] tLp)).ownsRow w5.heap.size tLp 2 (.slice (some ⟨w5.heap.size + 1, 0, none⟩) 0 0) 0 []) := Lib.hid (by have := (World.ownsRow_made (base := w5.heap.size) (e := tLp) (size := 2) (w5.drew.alloc (oLp X S)) #[] 0 (by simp) (by unfold maxLen; omega) (by simp)); rw [World.size_alloc] at this; exact this)
    have hr1 := hr0.drew
    have hrX := hr1.alloc (Nat.le_refl _) (oLp X S)
    have hrXE := hrX.alloc (by simp) (.cells #[] tLp)
    have hkXE := Lib.hid (new0 w5.drew (oLp X S) (.cells #[] tLp))
    have c2 := (HS.out _ hr1).1
    have c3 := (HS.out _ hr1).2
    have c0 := (HS.out _ hrE).1
    have c1 := (HS.out _ hrE).2
    go_region_law
      (first
        | (refine step_app (by rfl) _ _ _ (by rfl) w5.heap.size tLp i0 (.agg #[.int .i64 0, .int .i64 0]) 2 16 Try.underlying22 hi hz0 hz1 hz2 rfl (by decide) _ 0 [] (by rfl) (World.ownsRow.drew (World.ownsRow_made (base := w5.heap.size) (e := tLp) (size := 2) w5 #[] 0 (by simp) (by unfold maxLen; omega) (by simp))) A n c (cellsL l) (by rfl) (by rw [cellsL_len, hlen.out]) (fun e => hAc.out e) (lp_news (HLd.out _ hrE)) (cellsL_one l) (by unfold maxLen; omega) (by omega) (by simp; try omega) ?_; intro v6 w6 hown6 hgrow6; have hw6 := Below.grown hrE hgrow6 (by simp; try omega) (fun g hg => (((World.ownsRow.drew (World.ownsRow_made (base := w5.heap.size) (e := tLp) (size := 2) w5 #[] 0 (by simp) (by unfold maxLen; omega) (by simp)))).lt g hg).1); have c60 := (HS.out _ hw6).1; have c61 := (HS.out _ hw6).2)
        | (refine step_app (by rfl) _ _ _ (by rfl) w5.heap.size tLp i0 (.agg #[.int .i64 0, .int .i64 0]) 2 16 Try.underlying22 hi hz0 hz1 hz2 rfl (by decide) _ 0 [] (by rfl) (World.ownsRow.alloc (World.ownsRow.drew (World.ownsRow_made (base := w5.heap.size) (e := tLp) (size := 2) w5 #[] 0 (by simp) (by unfold maxLen; omega) (by simp))) (oLp X S)) A n c (cellsL l) (by rfl) (by rw [cellsL_len, hlen.out]) (fun e => hAc.out e) (lp_news (HLd.out _ hrEX)) (cellsL_one l) (by unfold maxLen; omega) (by omega) (by simp; try omega) ?_; intro v6 w6 hown6 hgrow6; have hw6 := Below.grown hrEX hgrow6 (by simp; try omega) (fun g hg => ((World.ownsRow.alloc (World.ownsRow.drew (World.ownsRow_made (base := w5.heap.size) (e := tLp) (size := 2) w5 #[] 0 (by simp) (by unfold maxLen; omega) (by simp))) (oLp X S)).lt g hg).1); have c60 := (HS.out _ hw6).1; have c61 := (HS.out _ hw6).2; have kX := (hgrow6.block (w5.heap.size + 1) (by simp) (by simp [Value.ownBlock])).trans hkEX.out)
        | (refine step_app (by rfl) _ _ _ (by rfl) w5.heap.size tLp i0 (.agg #[.int .i64 0, .int .i64 0]) 2 16 Try.underlying22 hi hz0 hz1 hz2 rfl (by decide) _ 0 [] (by rfl) hmX.out A n c (cellsL l) (by rfl) (by rw [cellsL_len, hlen.out]) (fun e => hAc.out e) (lp_news (HLd.out _ hrXE)) (cellsL_one l) (by unfold maxLen; omega) (by omega) (by simp; try omega) ?_; intro v6 w6 hown6 hgrow6; have hw6 := Below.grown hrXE hgrow6 (by simp; try omega) (fun g hg => ((hmX.out).lt g hg).1); have c60 := (HS.out _ hw6).1; have c61 := (HS.out _ hw6).2; have kX := (hgrow6.block w5.heap.size (by first | (simp; done) | (simp; omega)) (by simp [Value.ownBlock])).trans hkXE.out)
        | (refine step_app (by rfl) _ _ _ (by rfl) w5.heap.size tLp i0 (.agg #[.int .i64 0, .int .i64 0]) 2 16 Try.underlying22 hi hz0 hz1 hz2 rfl (by decide) _ (0 + n) ([] ++ cellsL l) (by rfl) hown6 (some ⟨w5.heap.size + 1, 0, none⟩) 1 1 [.int .i64 X, .int .i64 S] (by rfl) (by rfl) (fun h => by cases h) (fun ad h => by cases h; exact World.news_of_block kX) (by simp [Value.oneCell']) (by unfold maxLen; omega) (by omega) (by have := hw6.size; simp; try omega) ?_; intro v8 w8 hown8 hgrow8; have hw8 := Below.grown hw6 hgrow8 (by have := hw6.size; simp; try omega) (fun g hg => (hown6.lt g hg).1))
        | (refine step_app (by rfl) _ _ _ (by rfl) w5.heap.size tLp i0 (.agg #[.int .i64 0, .int .i64 0]) 2 16 Try.underlying22 hi hz0 hz1 hz2 rfl (by decide) _ (0 + n) ([] ++ cellsL l) (by rfl) hown6 (some ⟨w5.heap.size, 0, none⟩) 1 1 [.int .i64 X, .int .i64 S] (by rfl) (by rfl) (fun h => by cases h) (fun ad h => by cases h; exact World.news_of_block kX) (by simp [Value.oneCell']) (by unfold maxLen; omega) (by omega) (by have := hw6.size; simp; try omega) ?_; intro v8 w8 hown8 hgrow8; have hw8 := Below.grown hw6 hgrow8 (by have := hw6.size; simp; try omega) (fun g hg => (hown6.lt g hg).1))
        | (refine step_app (by rfl) _ _ _ (by rfl) w5.heap.size tLp i0 (.agg #[.int .i64 0, .int .i64 0]) 2 16 Try.underlying22 hi hz0 hz1 hz2 rfl (by decide) _ (0 + n) ([] ++ cellsL l) (by rfl) (hown6.alloc (oLp X S)) (some ⟨w6.heap.size, 0, none⟩) 1 1 [.int .i64 X, .int .i64 S] (by rfl) (by rfl) (fun h => by cases h) (fun ad h => by cases h; exact World.news_of_block (heap_new w6 (oLp X S))) (by simp [Value.oneCell']) (by unfold maxLen; omega) (by omega) (by have := hw6.size; simp; try omega) ?_; intro v8 w8 hown8 hgrow8; have hw8 := Below.grown (hw6.alloc hw6.size (oLp X S)) hgrow8 (by have := hw6.size; simp; try omega) (fun g hg => (hown6.lt g hg).1)))
    all_goals
      have hown9 : w8.ownsRow w5.heap.size tLp 2 v8 (n + 1) (cellsL (l ++ [(X, S)])) := by
        have := hown8
        simp only [List.nil_append, Nat.zero_add] at this
        rw [cellsL_app]; exact this
      obtain ⟨A', c', rfl, hL'⟩ := lp_own hown9 (by simp [hlen.out])
      have hb8 := Below.go hb hw8
      have kx8 := Lib.hid (keep' kx5.out hw8)
      have HLW : Hid (∀ W, Below w8.heap.size w8 W → Lp W.heap.size W A n l) := Lib.hid fun W hW => HL.out _ (Below.go hb8 hW)
      have HMW : Hid (∀ W, Below w8.heap.size w8 W → Lp W.heap.size W A' (n + 1) (l ++ [(X, S)])) := Lib.hid fun W hW => (hL'.below hW).mono hW.size
      have h8 := Below.refl w8.heap.size w8
      clear hown8 hown9 hL' hgrow8 hgrow6 hown6 hw8 hw6 HS HLd hr0 hr1 hmX hrX hrXE hkXE hrE hrEX hkEX
      obtain ⟨f1, f2, f3, f4, f5, f6⟩ := HF
      have hv2' := hv2.out
      have hN' := hN.out
      go_wp2_with fail
      refine (refValid_c (HMW.out _ h8) (Nat.le_refl _) (by omega) (Below.refl _ _)).mono ?_
      rintro e wa ⟨rfl, hna⟩
      have h8 := Below.go h8 hna
      clear hna
      go_wp2_with fail
      refine (on_s _ _ n0 n1).mono ?_
      rintro e wz ⟨rfl, rfl⟩
      go_wp2_with fail
      refine (Start_c (day := N) (HLW.out _ h8) (Nat.le_refl _) (by omega) (Below.refl _ _)).mono ?_
      rintro e wa ⟨rfl, hna⟩
      have h8 := Below.go h8 hna
      clear hna
      go_wp2_with fail
      refine (on_s _ _ n0 n1).mono ?_
      rintro e wz ⟨rfl, rfl⟩
      go_wp2_with fail
      refine (Start_c (day := N) (HMW.out _ h8) (Nat.le_refl _) (by omega) (Below.refl _ _)).mono ?_
      rintro e wa ⟨rfl, hna⟩
      have h8 := Below.go h8 hna
      clear hna
      go_wp2_with fail
      refine (on_s _ _ n0 n1).mono ?_
      rintro e wz ⟨rfl, rfl⟩
      go_wp2_with fail
      refine (Length_c (day := N) (HLW.out _ h8) (Nat.le_refl _) (by omega) (Below.refl _ _)).mono ?_
      rintro e wa ⟨rfl, hna⟩
      have h8 := Below.go h8 hna
      clear hna
      go_wp2_with fail
      refine (on_s _ _ n0 n1).mono ?_
      rintro e wz ⟨rfl, rfl⟩
      go_wp2_with fail
      refine (Length_c (day := N) (HMW.out _ h8) (Nat.le_refl _) (by omega) (Below.refl _ _)).mono ?_
      rintro e wa ⟨rfl, hna⟩
      have h8 := Below.go h8 hna
      clear hna
      have kk1 := (blk2 (keep' kx8.out h8)).1
      obtain ⟨cc1, cd1⟩ := kk1
      go_wp2_with fail
      go_quiet ((go_at_call 22; exact Calls.quiet_of_same (on_q _ _ n0 n1)))
      have h8q := below_drewN h8 nq
      clear h8 cc1 cd1
      have h8 := h8q
      clear h8q
      generalize wa.drewN nq = wq at *
      have kk2 := (blk2 (keep' kx8.out h8)).1
      obtain ⟨cc2, cd2⟩ := kk2
      go_wp2_with fail
      go_quiet ((go_at_call 22; exact Calls.quiet_of_same (on_q _ _ n0 n1)))
      have h8q := below_drewN h8 nq
      clear h8 cc2 cd2
      have h8 := h8q
      clear h8q
      have kk3 := (blk2 (keep' kx8.out h8)).1
      obtain ⟨cc3, cd3⟩ := kk3
      go_wp2_with fail
      go_wp2
      go_ret
      exact ⟨by simp, Below.go hb8 h8⟩
  · skip
    have HSS : Hid ((1 : Int) = S) := Lib.hid (by have := hS.out; simpa using this)
    go_enter Try.func7, Try.ntmps7
    go_wp2_with fail
    refine (head_c (Below.refl _ _)).mono ?_
    rintro e w2 ⟨rfl, hn⟩
    have hb := (by first | exact Below.go hb hn | exact Below.goA hb hn | exact Below.goAA hb hn | exact Below.goD hb hn | exact Below.goAD hb hn : Below w.heap.size w w2)
    clear hn
    have hsz2 := hb.size
    have hbo := hb
    go_wp2_with fail
    have kx5 : Hid ((w2.alloc (oLp (day % 34000) 1)).heap[w2.heap.size]? = some (oLp X S)) := Lib.hid (by rw [← HSS.out, ← hX.out]; exact (heap_new w2 (oLp (day % 34000) 1)))
    have hb5 : Below w.heap.size w (w2.alloc (oLp (day % 34000) 1)) := (Below.goN hbo (oLp (day % 34000) 1))
    generalize (w2.alloc (oLp (day % 34000) 1)) = w5 at *
    generalize w2.heap.size = k at *
    have hb := hb5
    clear hb5 hsz2 hbo
    have hr0 := Below.refl w5.heap.size w5
    have hrE := (hr0.alloc (Nat.le_refl _) (.cells #[] tLp)).drew
    have hrEX := hrE.alloc (by simp) (oLp X S)
    have hkEX : Hid (((w5.alloc (.cells #[] tLp)).drew.alloc (oLp X S)).heap[w5.heap.size + 1]? = some (oLp X S)) := Lib.hid (by have := heap_new (w5.alloc (.cells #[] tLp)).drew (oLp X S); simpa using this)
    have HLd : Hid (∀ W, Below w5.heap.size w5 W → Lp W.heap.size W A n l) := Lib.hid fun W hW => HL.out _ (Below.go hb hW)
    have HS : Hid (∀ W, Below w5.heap.size w5 W → W.cell? ⟨k, 0, none⟩ = some (.int .i64 X) ∧ W.cell? ⟨k, 1, none⟩ = some (.int .i64 S)) := Lib.hid fun W hW => (blk2 (keep' kx5.out hW)).1
    go_wp2_with fail
    have hmX : Hid (((w5.drew.alloc (oLp X S)).alloc (.cells #[] tLp)).ownsRow w5.heap.size tLp 2 (.slice (some ⟨w5.heap.size + 1, 0, none⟩) 0 0) 0 []) := Lib.hid (by have := (World.ownsRow_made (base := w5.heap.size) (e := tLp) (size := 2) (w5.drew.alloc (oLp X S)) #[] 0 (by simp) (by unfold maxLen; omega) (by simp)); rw [World.size_alloc] at this; exact this)
    have hr1 := hr0.drew
    have hrX := hr1.alloc (Nat.le_refl _) (oLp X S)
    have hrXE := hrX.alloc (by simp) (.cells #[] tLp)
    have hkXE := Lib.hid (new0 w5.drew (oLp X S) (.cells #[] tLp))
    have c2 := (HS.out _ hr1).1
    have c3 := (HS.out _ hr1).2
    have c0 := (HS.out _ hrE).1
    have c1 := (HS.out _ hrE).2
    go_region_law
      (first
        | (refine step_app (by rfl) _ _ _ (by rfl) w5.heap.size tLp i0 (.agg #[.int .i64 0, .int .i64 0]) 2 16 Try.underlying22 hi hz0 hz1 hz2 rfl (by decide) _ 0 [] (by rfl) (World.ownsRow.drew (World.ownsRow_made (base := w5.heap.size) (e := tLp) (size := 2) w5 #[] 0 (by simp) (by unfold maxLen; omega) (by simp))) A n c (cellsL l) (by rfl) (by rw [cellsL_len, hlen.out]) (fun e => hAc.out e) (lp_news (HLd.out _ hrE)) (cellsL_one l) (by unfold maxLen; omega) (by omega) (by simp; try omega) ?_; intro v6 w6 hown6 hgrow6; have hw6 := Below.grown hrE hgrow6 (by simp; try omega) (fun g hg => (((World.ownsRow.drew (World.ownsRow_made (base := w5.heap.size) (e := tLp) (size := 2) w5 #[] 0 (by simp) (by unfold maxLen; omega) (by simp)))).lt g hg).1); have c60 := (HS.out _ hw6).1; have c61 := (HS.out _ hw6).2)
        | (refine step_app (by rfl) _ _ _ (by rfl) w5.heap.size tLp i0 (.agg #[.int .i64 0, .int .i64 0]) 2 16 Try.underlying22 hi hz0 hz1 hz2 rfl (by decide) _ 0 [] (by rfl) (World.ownsRow.alloc (World.ownsRow.drew (World.ownsRow_made (base := w5.heap.size) (e := tLp) (size := 2) w5 #[] 0 (by simp) (by unfold maxLen; omega) (by simp))) (oLp X S)) A n c (cellsL l) (by rfl) (by rw [cellsL_len, hlen.out]) (fun e => hAc.out e) (lp_news (HLd.out _ hrEX)) (cellsL_one l) (by unfold maxLen; omega) (by omega) (by simp; try omega) ?_; intro v6 w6 hown6 hgrow6; have hw6 := Below.grown hrEX hgrow6 (by simp; try omega) (fun g hg => ((World.ownsRow.alloc (World.ownsRow.drew (World.ownsRow_made (base := w5.heap.size) (e := tLp) (size := 2) w5 #[] 0 (by simp) (by unfold maxLen; omega) (by simp))) (oLp X S)).lt g hg).1); have c60 := (HS.out _ hw6).1; have c61 := (HS.out _ hw6).2; have kX := (hgrow6.block (w5.heap.size + 1) (by simp) (by simp [Value.ownBlock])).trans hkEX.out)
        | (refine step_app (by rfl) _ _ _ (by rfl) w5.heap.size tLp i0 (.agg #[.int .i64 0, .int .i64 0]) 2 16 Try.underlying22 hi hz0 hz1 hz2 rfl (by decide) _ 0 [] (by rfl) hmX.out A n c (cellsL l) (by rfl) (by rw [cellsL_len, hlen.out]) (fun e => hAc.out e) (lp_news (HLd.out _ hrXE)) (cellsL_one l) (by unfold maxLen; omega) (by omega) (by simp; try omega) ?_; intro v6 w6 hown6 hgrow6; have hw6 := Below.grown hrXE hgrow6 (by simp; try omega) (fun g hg => ((hmX.out).lt g hg).1); have c60 := (HS.out _ hw6).1; have c61 := (HS.out _ hw6).2; have kX := (hgrow6.block w5.heap.size (by first | (simp; done) | (simp; omega)) (by simp [Value.ownBlock])).trans hkXE.out)
        | (refine step_app (by rfl) _ _ _ (by rfl) w5.heap.size tLp i0 (.agg #[.int .i64 0, .int .i64 0]) 2 16 Try.underlying22 hi hz0 hz1 hz2 rfl (by decide) _ (0 + n) ([] ++ cellsL l) (by rfl) hown6 (some ⟨w5.heap.size + 1, 0, none⟩) 1 1 [.int .i64 X, .int .i64 S] (by rfl) (by rfl) (fun h => by cases h) (fun ad h => by cases h; exact World.news_of_block kX) (by simp [Value.oneCell']) (by unfold maxLen; omega) (by omega) (by have := hw6.size; simp; try omega) ?_; intro v8 w8 hown8 hgrow8; have hw8 := Below.grown hw6 hgrow8 (by have := hw6.size; simp; try omega) (fun g hg => (hown6.lt g hg).1))
        | (refine step_app (by rfl) _ _ _ (by rfl) w5.heap.size tLp i0 (.agg #[.int .i64 0, .int .i64 0]) 2 16 Try.underlying22 hi hz0 hz1 hz2 rfl (by decide) _ (0 + n) ([] ++ cellsL l) (by rfl) hown6 (some ⟨w5.heap.size, 0, none⟩) 1 1 [.int .i64 X, .int .i64 S] (by rfl) (by rfl) (fun h => by cases h) (fun ad h => by cases h; exact World.news_of_block kX) (by simp [Value.oneCell']) (by unfold maxLen; omega) (by omega) (by have := hw6.size; simp; try omega) ?_; intro v8 w8 hown8 hgrow8; have hw8 := Below.grown hw6 hgrow8 (by have := hw6.size; simp; try omega) (fun g hg => (hown6.lt g hg).1))
        | (refine step_app (by rfl) _ _ _ (by rfl) w5.heap.size tLp i0 (.agg #[.int .i64 0, .int .i64 0]) 2 16 Try.underlying22 hi hz0 hz1 hz2 rfl (by decide) _ (0 + n) ([] ++ cellsL l) (by rfl) (hown6.alloc (oLp X S)) (some ⟨w6.heap.size, 0, none⟩) 1 1 [.int .i64 X, .int .i64 S] (by rfl) (by rfl) (fun h => by cases h) (fun ad h => by cases h; exact World.news_of_block (heap_new w6 (oLp X S))) (by simp [Value.oneCell']) (by unfold maxLen; omega) (by omega) (by have := hw6.size; simp; try omega) ?_; intro v8 w8 hown8 hgrow8; have hw8 := Below.grown (hw6.alloc hw6.size (oLp X S)) hgrow8 (by have := hw6.size; simp; try omega) (fun g hg => (hown6.lt g hg).1)))
    all_goals
      have hown9 : w8.ownsRow w5.heap.size tLp 2 v8 (n + 1) (cellsL (l ++ [(X, S)])) := by
        have := hown8
        simp only [List.nil_append, Nat.zero_add] at this
        rw [cellsL_app]; exact this
      obtain ⟨A', c', rfl, hL'⟩ := lp_own hown9 (by simp [hlen.out])
      have hb8 := Below.go hb hw8
      have kx8 := Lib.hid (keep' kx5.out hw8)
      have HLW : Hid (∀ W, Below w8.heap.size w8 W → Lp W.heap.size W A n l) := Lib.hid fun W hW => HL.out _ (Below.go hb8 hW)
      have HMW : Hid (∀ W, Below w8.heap.size w8 W → Lp W.heap.size W A' (n + 1) (l ++ [(X, S)])) := Lib.hid fun W hW => (hL'.below hW).mono hW.size
      have h8 := Below.refl w8.heap.size w8
      clear hown8 hown9 hL' hgrow8 hgrow6 hown6 hw8 hw6 HS HLd hr0 hr1 hmX hrX hrXE hkXE hrE hrEX hkEX
      obtain ⟨f1, f2, f3, f4, f5, f6⟩ := HF
      have hv2' := hv2.out
      have hN' := hN.out
      go_wp2_with fail
      refine (refValid_c (HMW.out _ h8) (Nat.le_refl _) (by omega) (Below.refl _ _)).mono ?_
      rintro e wa ⟨rfl, hna⟩
      have h8 := Below.go h8 hna
      clear hna
      go_wp2_with fail
      refine (on_s _ _ n0 n1).mono ?_
      rintro e wz ⟨rfl, rfl⟩
      go_wp2_with fail
      refine (Start_c (day := N) (HLW.out _ h8) (Nat.le_refl _) (by omega) (Below.refl _ _)).mono ?_
      rintro e wa ⟨rfl, hna⟩
      have h8 := Below.go h8 hna
      clear hna
      go_wp2_with fail
      refine (on_s _ _ n0 n1).mono ?_
      rintro e wz ⟨rfl, rfl⟩
      go_wp2_with fail
      refine (Start_c (day := N) (HMW.out _ h8) (Nat.le_refl _) (by omega) (Below.refl _ _)).mono ?_
      rintro e wa ⟨rfl, hna⟩
      have h8 := Below.go h8 hna
      clear hna
      go_wp2_with fail
      refine (on_s _ _ n0 n1).mono ?_
      rintro e wz ⟨rfl, rfl⟩
      go_wp2_with fail
      refine (Length_c (day := N) (HLW.out _ h8) (Nat.le_refl _) (by omega) (Below.refl _ _)).mono ?_
      rintro e wa ⟨rfl, hna⟩
      have h8 := Below.go h8 hna
      clear hna
      go_wp2_with fail
      refine (on_s _ _ n0 n1).mono ?_
      rintro e wz ⟨rfl, rfl⟩
      go_wp2_with fail
      refine (Length_c (day := N) (HMW.out _ h8) (Nat.le_refl _) (by omega) (Below.refl _ _)).mono ?_
      rintro e wa ⟨rfl, hna⟩
      have h8 := Below.go h8 hna
      clear hna
      have kk1 := (blk2 (keep' kx8.out h8)).1
      obtain ⟨cc1, cd1⟩ := kk1
      go_wp2_with fail
      go_quiet ((go_at_call 22; exact Calls.quiet_of_same (on_q _ _ n0 n1)))
      have h8q := below_drewN h8 nq
      clear h8 cc1 cd1
      have h8 := h8q
      clear h8q
      generalize wa.drewN nq = wq at *
      have kk2 := (blk2 (keep' kx8.out h8)).1
      obtain ⟨cc2, cd2⟩ := kk2
      go_wp2_with fail
      go_quiet ((go_at_call 22; exact Calls.quiet_of_same (on_q _ _ n0 n1)))
      have h8q := below_drewN h8 nq
      clear h8 cc2 cd2
      have h8 := h8q
      clear h8q
      have kk3 := (blk2 (keep' kx8.out h8)).1
      obtain ⟨cc3, cd3⟩ := kk3
      go_wp2_with fail
      go_wp2
      go_ret
      exact ⟨by simp, Below.go hb8 h8⟩
set_option maxHeartbeats 2000000 in
set_option maxRecDepth 100000 in
theorem lf_gt (A : Option Addr) (n c : Nat) (l : Lpm.LL) (day nn X S N a c0 : Int) (step : Bool) (w : World) (hl : Lp w.heap.size w A n l) (hAc : Hid (A = none → n = 0 ∧ c = 0)) (hreach : n * 16 ≤ 140737488351232) (d0 : 0 ≤ day) (d1 : day ≤ 4294967295) (n0 : 0 ≤ nn) (n1 : nn ≤ 4294967295) (hX : Hid (day % 34000 = X)) (hS : Hid ((if step then 1 else -1) = S)) (hN : Hid (nn % 34001 = N)) (x0 : 0 ≤ X) (x1 : X ≤ 34000) (s0 : -1 ≤ S) (s1 : S ≤ 1) (a0 : -4000000000000000 ≤ a) (a1 : a ≤ 4000000000000000) (c1 : -100000000000 ≤ c0) (c2 : c0 ≤ 100000000000) (g1 : n ≤ 99) (hv2 : Hid (Lpm.valid (l ++ [(X, S)]) = true)) (HF : FurF l X S N a (a + S * 1000000) c0 c0) (hNX : decide (N ≤ X) = false) (hNe : (N == X) = false) :
    Calls Try.prog 7 #[.slice A n c, .int .u32 day, .bool step, .int .u32 nn] w (LawPost w) := by
  have hb := Below.refl w.heap.size w
  have hlen := Lib.hid hl.1
  have HL : Hid (∀ W, Below w.heap.size w W → Lp W.heap.size W A n l) := Lib.hid fun W hW => (hl.below hW).mono hW.size
  clear hl
  obtain ⟨i0, hi, hz0, hz1, hz2⟩ := info_parts infoLp
  have t1 : decide (99 < n) = false := decide_eq_false (by omega)
  have t2 : decide (99 < (n : Int)) = false := decide_eq_false (by omega)
  cases step
  · skip
    have HSS : Hid ((-1 : Int) = S) := Lib.hid (by have := hS.out; simpa using this)
    go_enter Try.func7, Try.ntmps7
    go_wp2_with fail
    refine (head_c (Below.refl _ _)).mono ?_
    rintro e w2 ⟨rfl, hn⟩
    have hb := (by first | exact Below.go hb hn | exact Below.goA hb hn | exact Below.goAA hb hn | exact Below.goD hb hn | exact Below.goAD hb hn : Below w.heap.size w w2)
    clear hn
    have hsz2 := hb.size
    have hbo := hb
    go_wp2_with fail
    have kx5 : Hid ((w2.alloc (oLp (day % 34000) (-1))).heap[w2.heap.size]? = some (oLp X S)) := Lib.hid (by rw [← HSS.out, ← hX.out]; exact (heap_new w2 (oLp (day % 34000) (-1))))
    have hb5 : Below w.heap.size w (w2.alloc (oLp (day % 34000) (-1))) := (Below.goN hbo (oLp (day % 34000) (-1)))
    generalize (w2.alloc (oLp (day % 34000) (-1))) = w5 at *
    generalize w2.heap.size = k at *
    have hb := hb5
    clear hb5 hsz2 hbo
    have hr0 := Below.refl w5.heap.size w5
    have hrE := (hr0.alloc (Nat.le_refl _) (.cells #[] tLp)).drew
    have hrEX := hrE.alloc (by simp) (oLp X S)
    have hkEX : Hid (((w5.alloc (.cells #[] tLp)).drew.alloc (oLp X S)).heap[w5.heap.size + 1]? = some (oLp X S)) := Lib.hid (by have := heap_new (w5.alloc (.cells #[] tLp)).drew (oLp X S); simpa using this)
    have HLd : Hid (∀ W, Below w5.heap.size w5 W → Lp W.heap.size W A n l) := Lib.hid fun W hW => HL.out _ (Below.go hb hW)
    have HS : Hid (∀ W, Below w5.heap.size w5 W → W.cell? ⟨k, 0, none⟩ = some (.int .i64 X) ∧ W.cell? ⟨k, 1, none⟩ = some (.int .i64 S)) := Lib.hid fun W hW => (blk2 (keep' kx5.out hW)).1
    go_wp2_with fail
    have hmX : Hid (((w5.drew.alloc (oLp X S)).alloc (.cells #[] tLp)).ownsRow w5.heap.size tLp 2 (.slice (some ⟨w5.heap.size + 1, 0, none⟩) 0 0) 0 []) := Lib.hid (by have := (World.ownsRow_made (base := w5.heap.size) (e := tLp) (size := 2) (w5.drew.alloc (oLp X S)) #[] 0 (by simp) (by unfold maxLen; omega) (by simp)); rw [World.size_alloc] at this; exact this)
    have hr1 := hr0.drew
    have hrX := hr1.alloc (Nat.le_refl _) (oLp X S)
    have hrXE := hrX.alloc (by simp) (.cells #[] tLp)
    have hkXE := Lib.hid (new0 w5.drew (oLp X S) (.cells #[] tLp))
    have c2 := (HS.out _ hr1).1
    have c3 := (HS.out _ hr1).2
    have c0 := (HS.out _ hrE).1
    have c1 := (HS.out _ hrE).2
    go_region_law
      (first
        | (refine step_app (by rfl) _ _ _ (by rfl) w5.heap.size tLp i0 (.agg #[.int .i64 0, .int .i64 0]) 2 16 Try.underlying22 hi hz0 hz1 hz2 rfl (by decide) _ 0 [] (by rfl) (World.ownsRow.drew (World.ownsRow_made (base := w5.heap.size) (e := tLp) (size := 2) w5 #[] 0 (by simp) (by unfold maxLen; omega) (by simp))) A n c (cellsL l) (by rfl) (by rw [cellsL_len, hlen.out]) (fun e => hAc.out e) (lp_news (HLd.out _ hrE)) (cellsL_one l) (by unfold maxLen; omega) (by omega) (by simp; try omega) ?_; intro v6 w6 hown6 hgrow6; have hw6 := Below.grown hrE hgrow6 (by simp; try omega) (fun g hg => (((World.ownsRow.drew (World.ownsRow_made (base := w5.heap.size) (e := tLp) (size := 2) w5 #[] 0 (by simp) (by unfold maxLen; omega) (by simp)))).lt g hg).1); have c60 := (HS.out _ hw6).1; have c61 := (HS.out _ hw6).2)
        | (refine step_app (by rfl) _ _ _ (by rfl) w5.heap.size tLp i0 (.agg #[.int .i64 0, .int .i64 0]) 2 16 Try.underlying22 hi hz0 hz1 hz2 rfl (by decide) _ 0 [] (by rfl) (World.ownsRow.alloc (World.ownsRow.drew (World.ownsRow_made (base := w5.heap.size) (e := tLp) (size := 2) w5 #[] 0 (by simp) (by unfold maxLen; omega) (by simp))) (oLp X S)) A n c (cellsL l) (by rfl) (by rw [cellsL_len, hlen.out]) (fun e => hAc.out e) (lp_news (HLd.out _ hrEX)) (cellsL_one l) (by unfold maxLen; omega) (by omega) (by simp; try omega) ?_; intro v6 w6 hown6 hgrow6; have hw6 := Below.grown hrEX hgrow6 (by simp; try omega) (fun g hg => ((World.ownsRow.alloc (World.ownsRow.drew (World.ownsRow_made (base := w5.heap.size) (e := tLp) (size := 2) w5 #[] 0 (by simp) (by unfold maxLen; omega) (by simp))) (oLp X S)).lt g hg).1); have c60 := (HS.out _ hw6).1; have c61 := (HS.out _ hw6).2; have kX := (hgrow6.block (w5.heap.size + 1) (by simp) (by simp [Value.ownBlock])).trans hkEX.out)
        | (refine step_app (by rfl) _ _ _ (by rfl) w5.heap.size tLp i0 (.agg #[.int .i64 0, .int .i64 0]) 2 16 Try.underlying22 hi hz0 hz1 hz2 rfl (by decide) _ 0 [] (by rfl) hmX.out A n c (cellsL l) (by rfl) (by rw [cellsL_len, hlen.out]) (fun e => hAc.out e) (lp_news (HLd.out _ hrXE)) (cellsL_one l) (by unfold maxLen; omega) (by omega) (by simp; try omega) ?_; intro v6 w6 hown6 hgrow6; have hw6 := Below.grown hrXE hgrow6 (by simp; try omega) (fun g hg => ((hmX.out).lt g hg).1); have c60 := (HS.out _ hw6).1; have c61 := (HS.out _ hw6).2; have kX := (hgrow6.block w5.heap.size (by first | (simp; done) | (simp; omega)) (by simp [Value.ownBlock])).trans hkXE.out)
        | (refine step_app (by rfl) _ _ _ (by rfl) w5.heap.size tLp i0 (.agg #[.int .i64 0, .int .i64 0]) 2 16 Try.underlying22 hi hz0 hz1 hz2 rfl (by decide) _ (0 + n) ([] ++ cellsL l) (by rfl) hown6 (some ⟨w5.heap.size + 1, 0, none⟩) 1 1 [.int .i64 X, .int .i64 S] (by rfl) (by rfl) (fun h => by cases h) (fun ad h => by cases h; exact World.news_of_block kX) (by simp [Value.oneCell']) (by unfold maxLen; omega) (by omega) (by have := hw6.size; simp; try omega) ?_; intro v8 w8 hown8 hgrow8; have hw8 := Below.grown hw6 hgrow8 (by have := hw6.size; simp; try omega) (fun g hg => (hown6.lt g hg).1))
        | (refine step_app (by rfl) _ _ _ (by rfl) w5.heap.size tLp i0 (.agg #[.int .i64 0, .int .i64 0]) 2 16 Try.underlying22 hi hz0 hz1 hz2 rfl (by decide) _ (0 + n) ([] ++ cellsL l) (by rfl) hown6 (some ⟨w5.heap.size, 0, none⟩) 1 1 [.int .i64 X, .int .i64 S] (by rfl) (by rfl) (fun h => by cases h) (fun ad h => by cases h; exact World.news_of_block kX) (by simp [Value.oneCell']) (by unfold maxLen; omega) (by omega) (by have := hw6.size; simp; try omega) ?_; intro v8 w8 hown8 hgrow8; have hw8 := Below.grown hw6 hgrow8 (by have := hw6.size; simp; try omega) (fun g hg => (hown6.lt g hg).1))
        | (refine step_app (by rfl) _ _ _ (by rfl) w5.heap.size tLp i0 (.agg #[.int .i64 0, .int .i64 0]) 2 16 Try.underlying22 hi hz0 hz1 hz2 rfl (by decide) _ (0 + n) ([] ++ cellsL l) (by rfl) (hown6.alloc (oLp X S)) (some ⟨w6.heap.size, 0, none⟩) 1 1 [.int .i64 X, .int .i64 S] (by rfl) (by rfl) (fun h => by cases h) (fun ad h => by cases h; exact World.news_of_block (heap_new w6 (oLp X S))) (by simp [Value.oneCell']) (by unfold maxLen; omega) (by omega) (by have := hw6.size; simp; try omega) ?_; intro v8 w8 hown8 hgrow8; have hw8 := Below.grown (hw6.alloc hw6.size (oLp X S)) hgrow8 (by have := hw6.size; simp; try omega) (fun g hg => (hown6.lt g hg).1)))
    all_goals
      have hown9 : w8.ownsRow w5.heap.size tLp 2 v8 (n + 1) (cellsL (l ++ [(X, S)])) := by
        have := hown8
        simp only [List.nil_append, Nat.zero_add] at this
        rw [cellsL_app]; exact this
      obtain ⟨A', c', rfl, hL'⟩ := lp_own hown9 (by simp [hlen.out])
      have hb8 := Below.go hb hw8
      have kx8 := Lib.hid (keep' kx5.out hw8)
      have HLW : Hid (∀ W, Below w8.heap.size w8 W → Lp W.heap.size W A n l) := Lib.hid fun W hW => HL.out _ (Below.go hb8 hW)
      have HMW : Hid (∀ W, Below w8.heap.size w8 W → Lp W.heap.size W A' (n + 1) (l ++ [(X, S)])) := Lib.hid fun W hW => (hL'.below hW).mono hW.size
      have h8 := Below.refl w8.heap.size w8
      clear hown8 hown9 hL' hgrow8 hgrow6 hown6 hw8 hw6 HS HLd hr0 hr1 hmX hrX hrXE hkXE hrE hrEX hkEX
      obtain ⟨f1, f2, f3, f4, f5, f6⟩ := HF
      have hv2' := hv2.out
      have hN' := hN.out
      go_wp2_with fail
      refine (refValid_c (HMW.out _ h8) (Nat.le_refl _) (by omega) (Below.refl _ _)).mono ?_
      rintro e wa ⟨rfl, hna⟩
      have h8 := Below.go h8 hna
      clear hna
      go_wp2_with fail
      refine (on_s _ _ n0 n1).mono ?_
      rintro e wz ⟨rfl, rfl⟩
      go_wp2_with fail
      refine (Start_c (day := N) (HLW.out _ h8) (Nat.le_refl _) (by omega) (Below.refl _ _)).mono ?_
      rintro e wa ⟨rfl, hna⟩
      have h8 := Below.go h8 hna
      clear hna
      go_wp2_with fail
      refine (on_s _ _ n0 n1).mono ?_
      rintro e wz ⟨rfl, rfl⟩
      go_wp2_with fail
      refine (Start_c (day := N) (HMW.out _ h8) (Nat.le_refl _) (by omega) (Below.refl _ _)).mono ?_
      rintro e wa ⟨rfl, hna⟩
      have h8 := Below.go h8 hna
      clear hna
      go_wp2_with fail
      refine (on_s _ _ n0 n1).mono ?_
      rintro e wz ⟨rfl, rfl⟩
      go_wp2_with fail
      refine (Length_c (day := N) (HLW.out _ h8) (Nat.le_refl _) (by omega) (Below.refl _ _)).mono ?_
      rintro e wa ⟨rfl, hna⟩
      have h8 := Below.go h8 hna
      clear hna
      go_wp2_with fail
      refine (on_s _ _ n0 n1).mono ?_
      rintro e wz ⟨rfl, rfl⟩
      go_wp2_with fail
      refine (Length_c (day := N) (HMW.out _ h8) (Nat.le_refl _) (by omega) (Below.refl _ _)).mono ?_
      rintro e wa ⟨rfl, hna⟩
      have h8 := Below.go h8 hna
      clear hna
      have kk1 := (blk2 (keep' kx8.out h8)).1
      obtain ⟨cc1, cd1⟩ := kk1
      go_wp2_with fail
      go_quiet ((go_at_call 22; exact Calls.quiet_of_same (on_q _ _ n0 n1)))
      have h8q := below_drewN h8 nq
      clear h8 cc1 cd1
      have h8 := h8q
      clear h8q
      generalize wa.drewN nq = wq at *
      have kk2 := (blk2 (keep' kx8.out h8)).1
      obtain ⟨cc2, cd2⟩ := kk2
      go_wp2_with fail
      go_quiet ((go_at_call 22; exact Calls.quiet_of_same (on_q _ _ n0 n1)))
      have h8q := below_drewN h8 nq
      clear h8 cc2 cd2
      have h8 := h8q
      clear h8q
      have kk3 := (blk2 (keep' kx8.out h8)).1
      obtain ⟨cc3, cd3⟩ := kk3
      go_wp2_with fail
      go_wp2
      go_ret
      exact ⟨by simp, Below.go hb8 h8⟩
  · skip
    have HSS : Hid ((1 : Int) = S) := Lib.hid (by have := hS.out; simpa using this)
    go_enter Try.func7, Try.ntmps7
    go_wp2_with fail
    refine (head_c (Below.refl _ _)).mono ?_
    rintro e w2 ⟨rfl, hn⟩
    have hb := (by first | exact Below.go hb hn | exact Below.goA hb hn | exact Below.goAA hb hn | exact Below.goD hb hn | exact Below.goAD hb hn : Below w.heap.size w w2)
    clear hn
    have hsz2 := hb.size
    have hbo := hb
    go_wp2_with fail
    have kx5 : Hid ((w2.alloc (oLp (day % 34000) 1)).heap[w2.heap.size]? = some (oLp X S)) := Lib.hid (by rw [← HSS.out, ← hX.out]; exact (heap_new w2 (oLp (day % 34000) 1)))
    have hb5 : Below w.heap.size w (w2.alloc (oLp (day % 34000) 1)) := (Below.goN hbo (oLp (day % 34000) 1))
    generalize (w2.alloc (oLp (day % 34000) 1)) = w5 at *
    generalize w2.heap.size = k at *
    have hb := hb5
    clear hb5 hsz2 hbo
    have hr0 := Below.refl w5.heap.size w5
    have hrE := (hr0.alloc (Nat.le_refl _) (.cells #[] tLp)).drew
    have hrEX := hrE.alloc (by simp) (oLp X S)
    have hkEX : Hid (((w5.alloc (.cells #[] tLp)).drew.alloc (oLp X S)).heap[w5.heap.size + 1]? = some (oLp X S)) := Lib.hid (by have := heap_new (w5.alloc (.cells #[] tLp)).drew (oLp X S); simpa using this)
    have HLd : Hid (∀ W, Below w5.heap.size w5 W → Lp W.heap.size W A n l) := Lib.hid fun W hW => HL.out _ (Below.go hb hW)
    have HS : Hid (∀ W, Below w5.heap.size w5 W → W.cell? ⟨k, 0, none⟩ = some (.int .i64 X) ∧ W.cell? ⟨k, 1, none⟩ = some (.int .i64 S)) := Lib.hid fun W hW => (blk2 (keep' kx5.out hW)).1
    go_wp2_with fail
    have hmX : Hid (((w5.drew.alloc (oLp X S)).alloc (.cells #[] tLp)).ownsRow w5.heap.size tLp 2 (.slice (some ⟨w5.heap.size + 1, 0, none⟩) 0 0) 0 []) := Lib.hid (by have := (World.ownsRow_made (base := w5.heap.size) (e := tLp) (size := 2) (w5.drew.alloc (oLp X S)) #[] 0 (by simp) (by unfold maxLen; omega) (by simp)); rw [World.size_alloc] at this; exact this)
    have hr1 := hr0.drew
    have hrX := hr1.alloc (Nat.le_refl _) (oLp X S)
    have hrXE := hrX.alloc (by simp) (.cells #[] tLp)
    have hkXE := Lib.hid (new0 w5.drew (oLp X S) (.cells #[] tLp))
    have c2 := (HS.out _ hr1).1
    have c3 := (HS.out _ hr1).2
    have c0 := (HS.out _ hrE).1
    have c1 := (HS.out _ hrE).2
    go_region_law
      (first
        | (refine step_app (by rfl) _ _ _ (by rfl) w5.heap.size tLp i0 (.agg #[.int .i64 0, .int .i64 0]) 2 16 Try.underlying22 hi hz0 hz1 hz2 rfl (by decide) _ 0 [] (by rfl) (World.ownsRow.drew (World.ownsRow_made (base := w5.heap.size) (e := tLp) (size := 2) w5 #[] 0 (by simp) (by unfold maxLen; omega) (by simp))) A n c (cellsL l) (by rfl) (by rw [cellsL_len, hlen.out]) (fun e => hAc.out e) (lp_news (HLd.out _ hrE)) (cellsL_one l) (by unfold maxLen; omega) (by omega) (by simp; try omega) ?_; intro v6 w6 hown6 hgrow6; have hw6 := Below.grown hrE hgrow6 (by simp; try omega) (fun g hg => (((World.ownsRow.drew (World.ownsRow_made (base := w5.heap.size) (e := tLp) (size := 2) w5 #[] 0 (by simp) (by unfold maxLen; omega) (by simp)))).lt g hg).1); have c60 := (HS.out _ hw6).1; have c61 := (HS.out _ hw6).2)
        | (refine step_app (by rfl) _ _ _ (by rfl) w5.heap.size tLp i0 (.agg #[.int .i64 0, .int .i64 0]) 2 16 Try.underlying22 hi hz0 hz1 hz2 rfl (by decide) _ 0 [] (by rfl) (World.ownsRow.alloc (World.ownsRow.drew (World.ownsRow_made (base := w5.heap.size) (e := tLp) (size := 2) w5 #[] 0 (by simp) (by unfold maxLen; omega) (by simp))) (oLp X S)) A n c (cellsL l) (by rfl) (by rw [cellsL_len, hlen.out]) (fun e => hAc.out e) (lp_news (HLd.out _ hrEX)) (cellsL_one l) (by unfold maxLen; omega) (by omega) (by simp; try omega) ?_; intro v6 w6 hown6 hgrow6; have hw6 := Below.grown hrEX hgrow6 (by simp; try omega) (fun g hg => ((World.ownsRow.alloc (World.ownsRow.drew (World.ownsRow_made (base := w5.heap.size) (e := tLp) (size := 2) w5 #[] 0 (by simp) (by unfold maxLen; omega) (by simp))) (oLp X S)).lt g hg).1); have c60 := (HS.out _ hw6).1; have c61 := (HS.out _ hw6).2; have kX := (hgrow6.block (w5.heap.size + 1) (by simp) (by simp [Value.ownBlock])).trans hkEX.out)
        | (refine step_app (by rfl) _ _ _ (by rfl) w5.heap.size tLp i0 (.agg #[.int .i64 0, .int .i64 0]) 2 16 Try.underlying22 hi hz0 hz1 hz2 rfl (by decide) _ 0 [] (by rfl) hmX.out A n c (cellsL l) (by rfl) (by rw [cellsL_len, hlen.out]) (fun e => hAc.out e) (lp_news (HLd.out _ hrXE)) (cellsL_one l) (by unfold maxLen; omega) (by omega) (by simp; try omega) ?_; intro v6 w6 hown6 hgrow6; have hw6 := Below.grown hrXE hgrow6 (by simp; try omega) (fun g hg => ((hmX.out).lt g hg).1); have c60 := (HS.out _ hw6).1; have c61 := (HS.out _ hw6).2; have kX := (hgrow6.block w5.heap.size (by first | (simp; done) | (simp; omega)) (by simp [Value.ownBlock])).trans hkXE.out)
        | (refine step_app (by rfl) _ _ _ (by rfl) w5.heap.size tLp i0 (.agg #[.int .i64 0, .int .i64 0]) 2 16 Try.underlying22 hi hz0 hz1 hz2 rfl (by decide) _ (0 + n) ([] ++ cellsL l) (by rfl) hown6 (some ⟨w5.heap.size + 1, 0, none⟩) 1 1 [.int .i64 X, .int .i64 S] (by rfl) (by rfl) (fun h => by cases h) (fun ad h => by cases h; exact World.news_of_block kX) (by simp [Value.oneCell']) (by unfold maxLen; omega) (by omega) (by have := hw6.size; simp; try omega) ?_; intro v8 w8 hown8 hgrow8; have hw8 := Below.grown hw6 hgrow8 (by have := hw6.size; simp; try omega) (fun g hg => (hown6.lt g hg).1))
        | (refine step_app (by rfl) _ _ _ (by rfl) w5.heap.size tLp i0 (.agg #[.int .i64 0, .int .i64 0]) 2 16 Try.underlying22 hi hz0 hz1 hz2 rfl (by decide) _ (0 + n) ([] ++ cellsL l) (by rfl) hown6 (some ⟨w5.heap.size, 0, none⟩) 1 1 [.int .i64 X, .int .i64 S] (by rfl) (by rfl) (fun h => by cases h) (fun ad h => by cases h; exact World.news_of_block kX) (by simp [Value.oneCell']) (by unfold maxLen; omega) (by omega) (by have := hw6.size; simp; try omega) ?_; intro v8 w8 hown8 hgrow8; have hw8 := Below.grown hw6 hgrow8 (by have := hw6.size; simp; try omega) (fun g hg => (hown6.lt g hg).1))
        | (refine step_app (by rfl) _ _ _ (by rfl) w5.heap.size tLp i0 (.agg #[.int .i64 0, .int .i64 0]) 2 16 Try.underlying22 hi hz0 hz1 hz2 rfl (by decide) _ (0 + n) ([] ++ cellsL l) (by rfl) (hown6.alloc (oLp X S)) (some ⟨w6.heap.size, 0, none⟩) 1 1 [.int .i64 X, .int .i64 S] (by rfl) (by rfl) (fun h => by cases h) (fun ad h => by cases h; exact World.news_of_block (heap_new w6 (oLp X S))) (by simp [Value.oneCell']) (by unfold maxLen; omega) (by omega) (by have := hw6.size; simp; try omega) ?_; intro v8 w8 hown8 hgrow8; have hw8 := Below.grown (hw6.alloc hw6.size (oLp X S)) hgrow8 (by have := hw6.size; simp; try omega) (fun g hg => (hown6.lt g hg).1)))
    all_goals
      have hown9 : w8.ownsRow w5.heap.size tLp 2 v8 (n + 1) (cellsL (l ++ [(X, S)])) := by
        have := hown8
        simp only [List.nil_append, Nat.zero_add] at this
        rw [cellsL_app]; exact this
      obtain ⟨A', c', rfl, hL'⟩ := lp_own hown9 (by simp [hlen.out])
      have hb8 := Below.go hb hw8
      have kx8 := Lib.hid (keep' kx5.out hw8)
      have HLW : Hid (∀ W, Below w8.heap.size w8 W → Lp W.heap.size W A n l) := Lib.hid fun W hW => HL.out _ (Below.go hb8 hW)
      have HMW : Hid (∀ W, Below w8.heap.size w8 W → Lp W.heap.size W A' (n + 1) (l ++ [(X, S)])) := Lib.hid fun W hW => (hL'.below hW).mono hW.size
      have h8 := Below.refl w8.heap.size w8
      clear hown8 hown9 hL' hgrow8 hgrow6 hown6 hw8 hw6 HS HLd hr0 hr1 hmX hrX hrXE hkXE hrE hrEX hkEX
      obtain ⟨f1, f2, f3, f4, f5, f6⟩ := HF
      have hv2' := hv2.out
      have hN' := hN.out
      go_wp2_with fail
      refine (refValid_c (HMW.out _ h8) (Nat.le_refl _) (by omega) (Below.refl _ _)).mono ?_
      rintro e wa ⟨rfl, hna⟩
      have h8 := Below.go h8 hna
      clear hna
      go_wp2_with fail
      refine (on_s _ _ n0 n1).mono ?_
      rintro e wz ⟨rfl, rfl⟩
      go_wp2_with fail
      refine (Start_c (day := N) (HLW.out _ h8) (Nat.le_refl _) (by omega) (Below.refl _ _)).mono ?_
      rintro e wa ⟨rfl, hna⟩
      have h8 := Below.go h8 hna
      clear hna
      go_wp2_with fail
      refine (on_s _ _ n0 n1).mono ?_
      rintro e wz ⟨rfl, rfl⟩
      go_wp2_with fail
      refine (Start_c (day := N) (HMW.out _ h8) (Nat.le_refl _) (by omega) (Below.refl _ _)).mono ?_
      rintro e wa ⟨rfl, hna⟩
      have h8 := Below.go h8 hna
      clear hna
      go_wp2_with fail
      refine (on_s _ _ n0 n1).mono ?_
      rintro e wz ⟨rfl, rfl⟩
      go_wp2_with fail
      refine (Length_c (day := N) (HLW.out _ h8) (Nat.le_refl _) (by omega) (Below.refl _ _)).mono ?_
      rintro e wa ⟨rfl, hna⟩
      have h8 := Below.go h8 hna
      clear hna
      go_wp2_with fail
      refine (on_s _ _ n0 n1).mono ?_
      rintro e wz ⟨rfl, rfl⟩
      go_wp2_with fail
      refine (Length_c (day := N) (HMW.out _ h8) (Nat.le_refl _) (by omega) (Below.refl _ _)).mono ?_
      rintro e wa ⟨rfl, hna⟩
      have h8 := Below.go h8 hna
      clear hna
      have kk1 := (blk2 (keep' kx8.out h8)).1
      obtain ⟨cc1, cd1⟩ := kk1
      go_wp2_with fail
      go_quiet ((go_at_call 22; exact Calls.quiet_of_same (on_q _ _ n0 n1)))
      have h8q := below_drewN h8 nq
      clear h8 cc1 cd1
      have h8 := h8q
      clear h8q
      generalize wa.drewN nq = wq at *
      have kk2 := (blk2 (keep' kx8.out h8)).1
      obtain ⟨cc2, cd2⟩ := kk2
      go_wp2_with fail
      go_quiet ((go_at_call 22; exact Calls.quiet_of_same (on_q _ _ n0 n1)))
      have h8q := below_drewN h8 nq
      clear h8 cc2 cd2
      have h8 := h8q
      clear h8q
      have kk3 := (blk2 (keep' kx8.out h8)).1
      obtain ⟨cc3, cd3⟩ := kk3
      go_wp2_with fail
      go_wp2
      go_ret
      exact ⟨by simp, Below.go hb8 h8⟩
end Go.Proofs.Ytdmjciklobokbaa
