/- The contract of lease.Grant. -/
import Derived.Test.YtfaceopjblpkeaaLeF
set_option linter.unusedVariables false
namespace Go.Proofs.Ytfaceopjblpkeaa
open Go.RowKit
theorem grB_ways {l : List Lem.T3} {h len lo hi : Int} (e : Lem.grB l h len lo hi = false) : Lem.valid l = false ∨ Lem.valid l = true ∧ Lem.hB h = false ∨ Lem.valid l = true ∧ Lem.hB h = true ∧ ¬ (1 ≤ len ∧ len ≤ 3000000000000000) ∨ Lem.valid l = true ∧ Lem.hB h = true ∧ (1 ≤ len ∧ len ≤ 3000000000000000) ∧ Lem.iV lo hi = false := by
  unfold Lem.grB at e
  cases h1 : Lem.valid l
  · exact .inl rfl
  cases h2 : Lem.hB h
  · exact .inr (.inl ⟨rfl, rfl⟩)
  rw [h1, h2] at e
  by_cases h3 : 1 ≤ len ∧ len ≤ 3000000000000000
  · refine .inr (.inr (.inr ⟨rfl, rfl, h3, ?_⟩)); simpa [h3.1, h3.2] using e
  · exact .inr (.inr (.inl ⟨rfl, rfl, h3⟩))
set_option maxHeartbeats 2000000 in
set_option maxRecDepth 100000 in
theorem Grant_bad (A : Option Addr) (n c : Nat) (l : List Lem.T3) (h len lo hi : Int) (w : World) (hl : Lin w A n c l) (hn : n ≤ 70) (hB : Lem.grB l h len lo hi = false) :
    Calls Try.prog 11 #[.slice A n c, .int .i64 h, .int .i64 len, I2 lo hi] w (OwnPostE [] 1 w) := by
  have HL := Lib.hid ((hl.alloc (oN h)).alloc (oI lo hi))
  have hb0 := two_box w (oN h) (oI lo hi)
  have k0 := Lib.hid (new0 w (oN h) (oI lo hi))
  have k1 := Lib.hid (new1 w (oN h) (oI lo hi))
  have hlen := Lib.hid hl.ls.1
  clear hl
  have hval := Lib.hid (Valid_any A n c l _ HL.out.ls hn HL.out.nc HL.out.cap)
  rcases grB_ways hB with h1 | ⟨h1, h2⟩ | ⟨h1, h2, h3⟩ | ⟨h1, h2, ⟨h3, h4⟩, h5⟩
  all_goals rw [h1] at hval
  all_goals clear hB h1
  all_goals
    go_enter Try.func11, Try.ntmps11
    go_wp2_with (first | (go_at_call 13; refine hval.out.mono ?_; rintro e w1 ⟨rfl, hb1⟩; obtain ⟨c0, -⟩ := blk1A (keep' k0.out hb1); obtain ⟨⟨d0, d1⟩, -⟩ := blk2 (keep' k1.out hb1); have hb := Below.go hb0 hb1) | (go_at_call 25; refine (holder_any _ _).mono ?_; rintro e w' ⟨rfl, rfl⟩) | (go_at_call 26; refine (iValid_any _ _ _).mono ?_; rintro e w2 ⟨rfl, hb2⟩; have hb3 := Below.go hb1 hb2; have hb := Below.go hb0 hb3; obtain ⟨c0, -⟩ := blk1A (keep' k0.out hb3); obtain ⟨⟨d0, d1⟩, -⟩ := blk2 (keep' k1.out hb3)))
    all_goals go_ret2
    all_goals exact ⟨.slice none 0 0, rfl, Own.nil _ _, hb⟩
set_option maxHeartbeats 2000000 in
set_option maxRecDepth 100000 in
theorem Grant_far (A : Option Addr) (n c : Nat) (l : List Lem.T3) (h len lo hi : Int) (w : World) (hl : Lin w A n c l) (hn : n ≤ 70) (v1 : Lem.valid l = true) (v2 : Lem.hB h = true) (v3 : 1 ≤ len) (v4 : len ≤ 3000000000000000) (v5 : Lem.iV lo hi = true) (hr : 3000000000000000 < lo + len) :
    Calls Try.prog 11 #[.slice A n c, .int .i64 h, .int .i64 len, I2 lo hi] w (OwnPostE [] 3 w) := by
  have HL := Lib.hid ((hl.alloc (oN h)).alloc (oI lo hi))
  have hb0 := two_box w (oN h) (oI lo hi)
  have k0 := Lib.hid (new0 w (oN h) (oI lo hi))
  have k1 := Lib.hid (new1 w (oN h) (oI lo hi))
  have hlen := Lib.hid hl.ls.1
  clear hl
  have hval := Lib.hid (Valid_any A n c l _ HL.out.ls hn HL.out.nc HL.out.cap)
  obtain ⟨i1, i2, i3⟩ := Lem.iV_bd v5
  rw [v1] at hval
  clear v1
  go_enter Try.func11, Try.ntmps11
  go_wp2_with (first | (go_at_call 13; refine hval.out.mono ?_; rintro e w1 ⟨rfl, hb1⟩; obtain ⟨c0, -⟩ := blk1A (keep' k0.out hb1); obtain ⟨⟨d0, d1⟩, -⟩ := blk2 (keep' k1.out hb1); have hb := Below.go hb0 hb1) | (go_at_call 25; refine (holder_any _ _).mono ?_; rintro e w' ⟨rfl, rfl⟩) | (go_at_call 26; refine (iValid_any _ _ _).mono ?_; rintro e w2 ⟨rfl, hb2⟩; have hb3 := Below.go hb1 hb2; have hb := Below.go hb0 hb3; obtain ⟨c0, -⟩ := blk1A (keep' k0.out hb3); obtain ⟨⟨d0, d1⟩, -⟩ := blk2 (keep' k1.out hb3)))
  go_ret2
  exact ⟨.slice none 0 0, rfl, Own.nil _ _, hb.alloc hb.size _⟩
set_option maxHeartbeats 2000000 in
set_option maxRecDepth 100000 in
theorem Grant_block (A : Option Addr) (n c : Nat) (l : List Lem.T3) (h len lo hi : Int) (w : World) (hl : Lin w A n c l) (hn : n ≤ 70) (v1 : Lem.valid l = true) (v2 : Lem.hB h = true) (v3 : 1 ≤ len) (v4 : len ≤ 3000000000000000) (v5 : Lem.iV lo hi = true) (hr : lo + len ≤ 3000000000000000) (hbl : l.any (Lem.blocks h lo) = true) :
    Calls Try.prog 11 #[.slice A n c, .int .i64 h, .int .i64 len, I2 lo hi] w (OwnPostE [] 62 w) := by
  have HL := Lib.hid ((hl.alloc (oN h)).alloc (oI lo hi))
  have hb0 := two_box w (oN h) (oI lo hi)
  have k0 := Lib.hid (new0 w (oN h) (oI lo hi))
  have k1 := Lib.hid (new1 w (oN h) (oI lo hi))
  have hlen := Lib.hid hl.ls.1
  clear hl
  have hval := Lib.hid (Valid_any A n c l _ HL.out.ls hn HL.out.nc HL.out.cap)
  have hcon : Hid (∀ W, Below ((w.alloc (oN h)).alloc (oI lo hi)).heap.size ((w.alloc (oN h)).alloc (oI lo hi)) W → Calls Try.prog 29 #[.slice A n c, .func (Fn.func 27) #[] #[ptr w.heap.size, ptr (w.heap.size + 1)]] W (RetB (.bool (l.any (Lem.blocks h lo))) W)) :=
    Lib.hid (fun W hW => contains_G _ _ _ A n c l W (HL.out.below hW).ls hn (fun x w' hb' => clG x _ _ h lo hi w' (keep' (keep' k0.out hW) hb') (keep' (keep' k1.out hW) hb')))
  rw [hbl] at hcon
  clear hbl
  obtain ⟨i1, i2, i3⟩ := Lem.iV_bd v5
  rw [v1] at hval
  clear v1
  go_enter Try.func11, Try.ntmps11
  go_wp2_with (first | (go_at_call 13; refine hval.out.mono ?_; rintro e w1 ⟨rfl, hb1⟩; obtain ⟨c0, -⟩ := blk1A (keep' k0.out hb1); obtain ⟨⟨d0, d1⟩, -⟩ := blk2 (keep' k1.out hb1); have hb := Below.go hb0 hb1) | (go_at_call 25; refine (holder_any _ _).mono ?_; rintro e w' ⟨rfl, rfl⟩) | (go_at_call 26; refine (iValid_any _ _ _).mono ?_; rintro e w2 ⟨rfl, hb2⟩; have hb3 := Below.go hb1 hb2; have hb := Below.go hb0 hb3; obtain ⟨c0, -⟩ := blk1A (keep' k0.out hb3); obtain ⟨⟨d0, d1⟩, -⟩ := blk2 (keep' k1.out hb3)) | (go_at_call 29; refine (hcon.out _ (hb3.alloc hb3.size _)).mono ?_; rintro e w3 ⟨rfl, hb4⟩; have hb5 := Below.goA hb3 hb4; have hb := Below.go hb0 hb5; have kx := Lib.hid (keep' (heap_new w2 _) hb4)))
  go_ret2
  exact ⟨.slice none 0 0, rfl, Own.nil _ _, hb⟩
set_option maxHeartbeats 2000000 in
set_option maxRecDepth 100000 in
theorem Grant_full (A : Option Addr) (n c : Nat) (l : List Lem.T3) (h len lo hi : Int) (w : World) (hl : Lin w A n c l) (hn : n ≤ 70) (v1 : Lem.valid l = true) (v2 : Lem.hB h = true) (v3 : 1 ≤ len) (v4 : len ≤ 3000000000000000) (v5 : Lem.iV lo hi = true) (hr : lo + len ≤ 3000000000000000) (hbl : l.any (Lem.blocks h lo) = false) (hf : n = 64) :
    Calls Try.prog 11 #[.slice A n c, .int .i64 h, .int .i64 len, I2 lo hi] w (OwnPostE [] 2 w) := by
  have hq : ((n : Int) == 64) = true := by simp; omega
  clear hf
  have HL := Lib.hid ((hl.alloc (oN h)).alloc (oI lo hi))
  have hb0 := two_box w (oN h) (oI lo hi)
  have k0 := Lib.hid (new0 w (oN h) (oI lo hi))
  have k1 := Lib.hid (new1 w (oN h) (oI lo hi))
  have hlen := Lib.hid hl.ls.1
  clear hl
  have hval := Lib.hid (Valid_any A n c l _ HL.out.ls hn HL.out.nc HL.out.cap)
  have hcon : Hid (∀ W, Below ((w.alloc (oN h)).alloc (oI lo hi)).heap.size ((w.alloc (oN h)).alloc (oI lo hi)) W → Calls Try.prog 29 #[.slice A n c, .func (Fn.func 27) #[] #[ptr w.heap.size, ptr (w.heap.size + 1)]] W (RetB (.bool (l.any (Lem.blocks h lo))) W)) :=
    Lib.hid (fun W hW => contains_G _ _ _ A n c l W (HL.out.below hW).ls hn (fun x w' hb' => clG x _ _ h lo hi w' (keep' (keep' k0.out hW) hb') (keep' (keep' k1.out hW) hb')))
  rw [hbl] at hcon
  clear hbl
  obtain ⟨i1, i2, i3⟩ := Lem.iV_bd v5
  rw [v1] at hval
  clear v1
  go_enter Try.func11, Try.ntmps11
  go_wp2_with (first | (go_at_call 13; refine hval.out.mono ?_; rintro e w1 ⟨rfl, hb1⟩; obtain ⟨c0, -⟩ := blk1A (keep' k0.out hb1); obtain ⟨⟨d0, d1⟩, -⟩ := blk2 (keep' k1.out hb1); have hb := Below.go hb0 hb1) | (go_at_call 25; refine (holder_any _ _).mono ?_; rintro e w' ⟨rfl, rfl⟩) | (go_at_call 26; refine (iValid_any _ _ _).mono ?_; rintro e w2 ⟨rfl, hb2⟩; have hb3 := Below.go hb1 hb2; have hb := Below.go hb0 hb3; obtain ⟨c0, -⟩ := blk1A (keep' k0.out hb3); obtain ⟨⟨d0, d1⟩, -⟩ := blk2 (keep' k1.out hb3)) | (go_at_call 29; refine (hcon.out _ (hb3.alloc hb3.size _)).mono ?_; rintro e w3 ⟨rfl, hb4⟩; have hb5 := Below.goA hb3 hb4; have hb := Below.go hb0 hb5; have kx := Lib.hid (keep' (heap_new w2 _) hb4)))
  go_ret2
  exact ⟨.slice none 0 0, rfl, Own.nil _ _, hb⟩
set_option maxHeartbeats 2000000 in
set_option maxRecDepth 100000 in
theorem Grant_ok (A : Option Addr) (n c : Nat) (l : List Lem.T3) (h len lo hi : Int) (w : World) (hl : Lin w A n c l) (hn : n ≤ 70) (v1 : Lem.valid l = true) (v2 : Lem.hB h = true) (v3 : 1 ≤ len) (v4 : len ≤ 3000000000000000) (v5 : Lem.iV lo hi = true) (hr : lo + len ≤ 3000000000000000) (hbl : l.any (Lem.blocks h lo) = false) (hf : n ≠ 64) :
    Calls Try.prog 11 #[.slice A n c, .int .i64 h, .int .i64 len, I2 lo hi] w (OwnPostE (l ++ [(h, lo, lo + len)]) 0 w) := by
  have HL := Lib.hid ((hl.alloc (oN h)).alloc (oI lo hi))
  have hb0 := two_box w (oN h) (oI lo hi)
  have k0 := Lib.hid (new0 w (oN h) (oI lo hi))
  have k1 := Lib.hid (new1 w (oN h) (oI lo hi))
  have hlen := Lib.hid hl.ls.1
  clear hl
  have hval := Lib.hid (Valid_any A n c l _ HL.out.ls hn HL.out.nc HL.out.cap)
  have hcon : Hid (∀ W, Below ((w.alloc (oN h)).alloc (oI lo hi)).heap.size ((w.alloc (oN h)).alloc (oI lo hi)) W → Calls Try.prog 29 #[.slice A n c, .func (Fn.func 27) #[] #[ptr w.heap.size, ptr (w.heap.size + 1)]] W (RetB (.bool (l.any (Lem.blocks h lo))) W)) :=
    Lib.hid (fun W hW => contains_G _ _ _ A n c l W (HL.out.below hW).ls hn (fun x w' hb' => clG x _ _ h lo hi w' (keep' (keep' k0.out hW) hb') (keep' (keep' k1.out hW) hb')))
  rw [hbl] at hcon
  clear hbl
  have hq : ((n : Int) == 64) = false := by simp; omega
  obtain ⟨i0, hi0, hz0, hz1, hz2⟩ := info_parts infoLease
  obtain ⟨i1, i2, i3⟩ := Lem.iV_bd v5
  rw [v1] at hval
  clear v1
  go_enter Try.func11, Try.ntmps11
  go_wp2_with (first | (go_at_call 13; refine hval.out.mono ?_; rintro e w1 ⟨rfl, hb1⟩; obtain ⟨c0, -⟩ := blk1A (keep' k0.out hb1); obtain ⟨⟨d0, d1⟩, -⟩ := blk2 (keep' k1.out hb1); have hb := Below.go hb0 hb1) | (go_at_call 25; refine (holder_any _ _).mono ?_; rintro e w' ⟨rfl, rfl⟩) | (go_at_call 26; refine (iValid_any _ _ _).mono ?_; rintro e w2 ⟨rfl, hb2⟩; have hb3 := Below.go hb1 hb2; have hb := Below.go hb0 hb3; obtain ⟨c0, -⟩ := blk1A (keep' k0.out hb3); obtain ⟨⟨d0, d1⟩, -⟩ := blk2 (keep' k1.out hb3)) | (go_at_call 29; refine (hcon.out _ (hb3.alloc hb3.size _)).mono ?_; rintro e w3 ⟨rfl, hb4⟩; have hb5 := Below.goA hb3 hb4; have hb := Below.go hb0 hb5; have kx := Lib.hid (keep' (heap_new w2 _) hb4)))
  have hsz := hb.size
  have hL3 := HL.out.below hb5
  have hLd : Lin w3.drew A n c l := hL3.below (Below.refl _ _).drew
  have hS : ∀ W, Below w3.heap.size w3 W → W.cell? ⟨w2.heap.size, 0, none⟩ = some (.int .i64 h) ∧ W.cell? ⟨w2.heap.size, 1, none⟩ = some (.int .i64 lo) ∧ W.cell? ⟨w2.heap.size, 2, none⟩ = some (.int .i64 (lo + len)) := fun W hW => (blk3 (keep' kx.out hW)).1
  have HS := Lib.hid hS
  have HLd := Lib.hid hLd
  clear hS hLd hL3
  go_region_held3 (fun W => W.cell? ⟨w2.heap.size, 0, none⟩ = some (.int .i64 h) ∧ W.cell? ⟨w2.heap.size, 1, none⟩ = some (.int .i64 lo) ∧ W.cell? ⟨w2.heap.size, 2, none⟩ = some (.int .i64 (lo + len)))
    (first | exact HS.out _ hw6 | exact HS.out _ (hwc.alloc hwc.size _) | exact HS.out _ hwc | exact HS.out _ ((Below.refl _ _).drew.alloc (by simp) _) | exact HS.out _ (Below.refl _ _).drew | exact HS.out _ (Below.refl _ _))
    (first
      | (go_at_call 30; refine (Clone_any A n c l _ HLd.out hn).mono ?_; rintro e wC ⟨vC, rfl, hoC, hbC⟩; have hwc := Below.go (Below.refl _ w3).drew hbC)
      | (go_at_call 30; refine (Clone_any A n c l _ (HLd.out.alloc _) hn).mono ?_; rintro e wC ⟨vC, rfl, hoC, hbC⟩; have hwc := Below.go ((Below.refl _ w3).drew.alloc (by simp) _) hbC)
      | (refine step_append_lies _ (by rfl) _ _ _ (by rfl) w3.heap.size tL i0 (.agg #[.int .i64 0, .int .i64 0, .int .i64 0]) 3 24 Try.underlying22 hi0 hz0 hz1 hz2 rfl (by decide) vC l.length (cells3 l) (by rfl) ((own_down hoC (by simp)).alloc (oL (h, lo, lo + len))) ⟨wC.heap.size, 0, none⟩ 1 1 [.int .i64 h, .int .i64 lo, .int .i64 (lo + len)] (by rfl) (by rfl) (World.news_of_block (heap_new wC (oL (h, lo, lo + len)))) (by simp [Value.oneCell']) (by omega) (by rw [hlen.out]; unfold maxLen; omega) (by rw [hlen.out]; omega) (by have := hwc.size; simp; omega) _ rfl ?_; intro g cap w6 hown6 hgrow hat hlt; have hw6 := Below.grown (hwc.alloc hwc.size _) hgrow (by have := hwc.size; simp; omega) (fun q hq' => ((own_down hoC (B' := w3.heap.size) (by simp)).lt q hq').1))
      | (refine step_append_lies _ (by rfl) _ _ _ (by rfl) w3.heap.size tL i0 (.agg #[.int .i64 0, .int .i64 0, .int .i64 0]) 3 24 Try.underlying22 hi0 hz0 hz1 hz2 rfl (by decide) vC l.length (cells3 l) (by rfl) (own_down hoC (by simp)) ⟨w3.heap.size, 0, none⟩ 1 1 [.int .i64 h, .int .i64 lo, .int .i64 (lo + len)] (by rfl) (by rfl) (World.news_of_block (keep' (heap_new w3.drew (oL (h, lo, lo + len))) hbC)) (by simp [Value.oneCell']) (by omega) (by rw [hlen.out]; unfold maxLen; omega) (by rw [hlen.out]; omega) (by have := hwc.size; omega) _ rfl ?_; intro g cap w6 hown6 hgrow hat hlt; have hw6 := Below.grown hwc hgrow (by have := hwc.size; omega) (fun q hq' => ((own_down hoC (B' := w3.heap.size) (by simp)).lt q hq').1)))
  all_goals
    have ho6 := own_down (own_snoc (x := (h, lo, lo + len)) hown6) hsz
    have hb6 := Below.go hb hw6
    clear hown6 hgrow
    go_wp2
    go_ret2
    exact ⟨_, rfl, ho6, hb6⟩
theorem Grant_any (A : Option Addr) (n c : Nat) (l : List Lem.T3) (h len lo hi : Int) (w : World) (hl : Lin w A n c l) (hn : n ≤ 70) :
    Calls Try.prog 11 #[.slice A n c, .int .i64 h, .int .i64 len, I2 lo hi] w (OwnPostE (Lem.grL l h len lo hi) (Lem.grE l h len lo hi) w) := by
  have hE : Lem.grE l h len lo hi = if Lem.grB l h len lo hi then (if 3000000000000000 < lo + len then 3 else if l.any (Lem.blocks h lo) then 62 else if l.length = 64 then 2 else 0) else 1 := rfl
  have hV : Lem.grL l h len lo hi = if Lem.grE l h len lo hi = 0 then l ++ [(h, lo, lo + len)] else [] := rfl
  cases hB : Lem.grB l h len lo hi
  · rw [hB] at hE
    rw [hV, hE]
    exact Grant_bad A n c l h len lo hi w hl hn hB
  rw [hB] at hE
  have hB2 := hB
  unfold Lem.grB at hB2
  simp only [Bool.and_eq_true, decide_eq_true_eq] at hB2
  obtain ⟨⟨⟨⟨h1, h2⟩, h3⟩, h4⟩, h5⟩ := hB2
  by_cases hr : 3000000000000000 < lo + len
  · rw [if_pos rfl, if_pos hr] at hE
    rw [hV, hE]
    exact Grant_far A n c l h len lo hi w hl hn h1 h2 h3 h4 h5 hr
  rw [if_pos rfl, if_neg hr] at hE
  cases hbl : l.any (Lem.blocks h lo)
  · rw [hbl, if_neg (by simp), hl.ls.1] at hE
    by_cases hf : n = 64
    · rw [if_pos hf] at hE
      rw [hV, hE]
      exact Grant_full A n c l h len lo hi w hl hn h1 h2 h3 h4 h5 (by omega) hbl hf
    · rw [if_neg hf] at hE
      rw [hV, hE]
      exact Grant_ok A n c l h len lo hi w hl hn h1 h2 h3 h4 h5 (by omega) hbl hf
  · rw [hbl, if_pos rfl] at hE
    rw [hV, hE]
    exact Grant_block A n c l h len lo hi w hl hn h1 h2 h3 h4 h5 (by omega) hbl
end Go.Proofs.Ytfaceopjblpkeaa
