/- What the reference's Grant returns; the walk of the law LeaseMatchesReference. -/
import Derived.Test.YtfaceopjblpkeaaLeN
set_option linter.unusedVariables false
namespace Go.Proofs.Ytfaceopjblpkeaa
open Go.RowKit
theorem blocks_ways (h lo : Int) (x : Lem.T3) : (x.1 != h) = false ∧ Lem.blocks h lo x = false ∨ (x.1 != h) = true ∧ decide (lo < x.2.2) = false ∧ Lem.blocks h lo x = false ∨ (x.1 != h) = true ∧ decide (lo < x.2.2) = true ∧ Lem.blocks h lo x = true := by
  unfold Lem.blocks Lem.over
  by_cases a : x.1 = h
  · left; simp [a]
  · right
    by_cases b : lo < x.2.2
    · right; have : ¬ x.2.2 ≤ lo := by omega
      simp [a, b, this]
    · left; have : x.2.2 ≤ lo := by omega
      simp [a, b, this]
set_option maxHeartbeats 2000000 in
set_option maxRecDepth 100000 in
theorem rGrant_bad (A : Option Addr) (n c : Nat) (l : List Lem.T3) (h len lo hi : Int) (w : World) (hl : Lin w A n c l) (hn : n ≤ 70) (hB : Lem.grB l h len lo hi = false) :
    Calls Try.prog 12 #[.slice A n c, .int .i64 h, .int .i64 len, I2 lo hi] w (OwnPostE [] 1 w) := by
  have hb := (Below.refl w.heap.size w).alloc (Nat.le_refl _) (oI lo hi)
  have kb := Lib.hid (heap_new w (oI lo hi))
  have HL := Lib.hid hl
  clear hl
  have hways : Lem.valid l = false ∨ Lem.valid l = true ∧ Lem.hB h = false ∨ Lem.valid l = true ∧ Lem.hB h = true ∧ Lem.iV lo hi = false ∨ Lem.valid l = true ∧ Lem.hB h = true ∧ Lem.iV lo hi = true ∧ len < 1 ∨ Lem.valid l = true ∧ Lem.hB h = true ∧ Lem.iV lo hi = true ∧ 1 ≤ len ∧ 3000000000000000 < len := by
    cases hi' : Lem.iV lo hi
    · rcases grB_ways hB with a | ⟨a, b⟩ | ⟨a, b, q⟩ | ⟨a, b, q, r⟩
      · exact .inl a
      · exact .inr (.inl ⟨a, b⟩)
      · exact .inr (.inr (.inl ⟨a, b, rfl⟩))
      · exact .inr (.inr (.inl ⟨a, b, rfl⟩))
    · rcases grB_ways hB with a | ⟨a, b⟩ | ⟨a, b, q⟩ | ⟨a, b, q, r⟩
      · exact .inl a
      · exact .inr (.inl ⟨a, b⟩)
      · by_cases l1 : len < 1
        · exact .inr (.inr (.inr (.inl ⟨a, b, rfl, l1⟩)))
        · exact .inr (.inr (.inr (.inr ⟨a, b, rfl, by omega, by omega⟩)))
      · rw [hi'] at r; cases r
  clear hB
  rcases hways with a | ⟨a, b⟩ | ⟨a, b, i⟩ | ⟨a, b, i, l1⟩ | ⟨a, b, i, l1, l2⟩
  all_goals
    go_enter Try.func12, Try.ntmps12
    go_wp2_with fail
    refine (rValid_any A n c l _ (HL.out.below hb).ls (by omega)).mono ?_
    rintro e wN ⟨rfl, hn⟩
    have hb := (by first | exact Below.go hb hn | exact Below.goA hb hn | exact Below.goAA hb hn | exact Below.goD hb hn | exact Below.goAD hb hn : Below w.heap.size w wN)
    have kb := Lib.hid (by first | exact keep' kb.out hn | exact keepA kb.out hn | exact keepAA kb.out hn | exact keepD kb.out hn | exact keepAD kb.out hn)
    clear hn
    obtain ⟨⟨kb0, kb1⟩, -⟩ := blk2 kb.out
    have kbz := lt_of_heap kb.out
    go_wp2_with fail
    refine (rHolder_any _ _).mono ?_
    rintro e w' ⟨rfl, rfl⟩
    go_wp2_with fail
    refine (rIV_any _ _ _).mono ?_
    rintro e wN ⟨rfl, hn⟩
    have hb := (by first | exact Below.go hb hn | exact Below.goA hb hn | exact Below.goAA hb hn | exact Below.goD hb hn | exact Below.goAD hb hn : Below w.heap.size w wN)
    have kb := Lib.hid (by first | exact keep' kb.out hn | exact keepA kb.out hn | exact keepAA kb.out hn | exact keepD kb.out hn | exact keepAD kb.out hn)
    clear hn
    obtain ⟨⟨kb0, kb1⟩, -⟩ := blk2 kb.out
    have kbz := lt_of_heap kb.out
    go_wp2
    go_ret2
    exact ⟨.slice none 0 0, rfl, Own.nil _ _, hb⟩
set_option maxHeartbeats 2000000 in
set_option maxRecDepth 100000 in
theorem rGrant_far (A : Option Addr) (n c : Nat) (l : List Lem.T3) (h len lo hi : Int) (w : World) (hl : Lin w A n c l) (hn : n ≤ 70) (v1 : Lem.valid l = true) (v2 : Lem.hB h = true) (v3 : 1 ≤ len) (v4 : len ≤ 3000000000000000) (v5 : Lem.iV lo hi = true) (hr : 3000000000000000 < lo + len) :
    Calls Try.prog 12 #[.slice A n c, .int .i64 h, .int .i64 len, I2 lo hi] w (OwnPostE [] 3 w) := by
  have hb := (Below.refl w.heap.size w).alloc (Nat.le_refl _) (oI lo hi)
  have kb := Lib.hid (heap_new w (oI lo hi))
  have HL := Lib.hid hl
  clear hl
  obtain ⟨i1, i2, i3⟩ := Lem.iV_bd v5
  go_enter Try.func12, Try.ntmps12
  go_wp2_with fail
  refine (rValid_any A n c l _ (HL.out.below hb).ls (by omega)).mono ?_
  rintro e wN ⟨rfl, hn⟩
  have hb := (by first | exact Below.go hb hn | exact Below.goA hb hn | exact Below.goAA hb hn | exact Below.goD hb hn | exact Below.goAD hb hn : Below w.heap.size w wN)
  have kb := Lib.hid (by first | exact keep' kb.out hn | exact keepA kb.out hn | exact keepAA kb.out hn | exact keepD kb.out hn | exact keepAD kb.out hn)
  clear hn
  obtain ⟨⟨kb0, kb1⟩, -⟩ := blk2 kb.out
  have kbz := lt_of_heap kb.out
  go_wp2_with fail
  refine (rHolder_any _ _).mono ?_
  rintro e w' ⟨rfl, rfl⟩
  go_wp2_with fail
  refine (rIV_any _ _ _).mono ?_
  rintro e wN ⟨rfl, hn⟩
  have hb := (by first | exact Below.go hb hn | exact Below.goA hb hn | exact Below.goAA hb hn | exact Below.goD hb hn | exact Below.goAD hb hn : Below w.heap.size w wN)
  have kb := Lib.hid (by first | exact keep' kb.out hn | exact keepA kb.out hn | exact keepAA kb.out hn | exact keepD kb.out hn | exact keepAD kb.out hn)
  clear hn
  obtain ⟨⟨kb0, kb1⟩, -⟩ := blk2 kb.out
  have kbz := lt_of_heap kb.out
  go_wp2
  go_ret2
  exact ⟨.slice none 0 0, rfl, Own.nil _ _, hb⟩
set_option maxHeartbeats 2000000 in
set_option maxRecDepth 100000 in
theorem rGrant_main (A : Option Addr) (n c : Nat) (l R : List Lem.T3) (h len lo hi E : Int) (w : World) (hl : Lin w A n c l) (hn : n ≤ 64) (v1 : Lem.valid l = true) (v2 : Lem.hB h = true) (v3 : 1 ≤ len) (v4 : len ≤ 3000000000000000) (v5 : Lem.iV lo hi = true) (hr : lo + len ≤ 3000000000000000)
    (f1 : Hid (l.any (Lem.blocks h lo) = true → R = [] ∧ E = 62)) (f2 : Hid (l.any (Lem.blocks h lo) = false → n = 64 → R = [] ∧ E = 2)) (f3 : Hid (l.any (Lem.blocks h lo) = false → n < 64 → R = l ++ [(h, lo, lo + len)] ∧ E = 0)) :
    Calls Try.prog 12 #[.slice A n c, .int .i64 h, .int .i64 len, I2 lo hi] w (OwnPostE R E w) := by
  have hb := (Below.refl w.heap.size w).alloc (Nat.le_refl _) (oI lo hi)
  have kb := Lib.hid (heap_new w (oI lo hi))
  have HL := Lib.hid hl
  have hcap := hl.cap
  have hnc := hl.nc
  have Hlen := Lib.hid hl.ls.1
  clear hl
  obtain ⟨i1, i2, i3⟩ := Lem.iV_bd v5
  obtain ⟨i0, hi0, hz0, hz1, hz2⟩ := info_parts infoLease
  go_enter Try.func12, Try.ntmps12
  go_wp2_with fail
  refine (rValid_any A n c l _ (HL.out.below hb).ls (by omega)).mono ?_
  rintro e wN ⟨rfl, hn⟩
  have hb := (by first | exact Below.go hb hn | exact Below.goA hb hn | exact Below.goAA hb hn | exact Below.goD hb hn | exact Below.goAD hb hn : Below w.heap.size w wN)
  have kb := Lib.hid (by first | exact keep' kb.out hn | exact keepA kb.out hn | exact keepAA kb.out hn | exact keepD kb.out hn | exact keepAD kb.out hn)
  clear hn
  obtain ⟨⟨kb0, kb1⟩, -⟩ := blk2 kb.out
  have kbz := lt_of_heap kb.out
  go_wp2_with fail
  refine (rHolder_any _ _).mono ?_
  rintro e w' ⟨rfl, rfl⟩
  go_wp2_with fail
  refine (rIV_any _ _ _).mono ?_
  rintro e wN ⟨rfl, hn⟩
  have hb := (by first | exact Below.go hb hn | exact Below.goA hb hn | exact Below.goAA hb hn | exact Below.goD hb hn | exact Below.goAD hb hn : Below w.heap.size w wN)
  have kb := Lib.hid (by first | exact keep' kb.out hn | exact keepA kb.out hn | exact keepAA kb.out hn | exact keepD kb.out hn | exact keepAD kb.out hn)
  clear hn
  obtain ⟨⟨kb0, kb1⟩, -⟩ := blk2 kb.out
  have kbz := lt_of_heap kb.out
  go_wp2
  go_loopw [13] (fun i wr => ∃ k : Nat, k ≤ n ∧ i = .int .i64 k ∧ Hid ((l.take k).any (Lem.blocks h lo) = false) ∧ Below wN.heap.size wN wr) (fun i _ => n - (intOf i).toNat)
  case atStart => exact ⟨0, Nat.zero_le _, rfl, Lib.hid rfl, Below.refl _ _⟩
  case round =>
    obtain ⟨k, hk, rfl, hix, hbr⟩ := hrel
    have hbw := Below.go hb hbr
    by_cases hlt : k < n
    · obtain ⟨hlen, hcell⟩ := (HL.out.below hbw).ls
      have hs := Lib.hid (Lem.any_snoc (Lem.blocks h lo) hlen hlt)
      obtain ⟨b, off, rfl, hbB, hc⟩ := hcell (by omega)
      obtain ⟨c0, c1, c2⟩ := hc k hlt
      obtain ⟨⟨d0, d1⟩, -⟩ := blk2 (keep' kb.out hbr)
      clear hc hcell hlen
      have hw := blocks_ways h lo (Lem.at' l k)
      generalize Lem.at' l k = x at *
      have b0 : (0 : Int) ≤ (k : Int) := by omega
      have b1 : (k : Int) < (n : Int) := by omega
      rcases hw with ⟨q1, q2⟩ | ⟨q1, q3, q2⟩ | ⟨q1, q3, q2⟩
      · have hs2 : Hid ((l.take (k + 1)).any (Lem.blocks h lo) = false) := Lib.hid (hs.out.trans (by rw [hix.out, q2]; rfl))
        go_wp2
        go_quiet (fail)
        go_wp2
        go_roundw
        case rel => exact ⟨k + 1, by omega, by go_num, hs2, below_drewN hbr _⟩
        case measure => simp [intOf]; omega
      · have hs2 : Hid ((l.take (k + 1)).any (Lem.blocks h lo) = false) := Lib.hid (hs.out.trans (by rw [hix.out, q2]; rfl))
        go_wp2
        go_quiet (fail)
        go_wp2
        go_roundw
        case rel => exact ⟨k + 1, by omega, by go_num, hs2, below_drewN hbr _⟩
        case measure => simp [intOf]; omega
      · have hs2 : l.any (Lem.blocks h lo) = true := Lem.any_take (k := k + 1) (hs.out.trans (by rw [hix.out, q2]; rfl))
        obtain ⟨rfl, rfl⟩ := f1.out hs2
        clear f1 f2 f3 hs2
        go_wp2
        go_quiet (fail)
        go_wp2
        go_ret2
        exact ⟨.slice none 0 0, rfl, Own.nil _ _, below_drewN hbw _⟩
    · obtain rfl : k = n := by omega
      rw [any_full (p := Lem.blocks h lo) Hlen.out] at hix
      clear f1
      by_cases hf : k = 64
      · obtain ⟨rfl, rfl⟩ := f2.out hix.out hf
        have hq : decide ((64 : Int) ≤ (k : Int)) = true := decide_eq_true (by omega)
        clear f2 f3 hix
        have hq2 : (64 : Int) ≤ (k : Int) := by omega
        have Hf := Lib.hid hf
        clear hf hlt
        go_wp2
        go_ret2
        exact ⟨.slice none 0 0, rfl, Own.nil _ _, hbw⟩
      · obtain ⟨rfl, rfl⟩ := f3.out hix.out (by omega)
        clear f2 f3 hix
        have hq2 : (k : Int) < 64 := by omega
        obtain ⟨wo, rfl⟩ : ∃ wo : World, wo = wr := ⟨_, rfl⟩
        have kb := Lib.hid (keep' kb.out hbr)
        clear hbr
        go_wp2
        go_loopw [15, 14] (fun i v wr => ∃ j : Nat, j ≤ k ∧ i = .int .i64 j ∧ Own wo.heap.size wr v (l.take j) ∧ Below wo.heap.size wo wr) (fun i _ _ => k - (intOf i).toNat)
        case atStart => exact ⟨0, Nat.zero_le _, rfl, World.ownsRow_nil _ _ _ _, Below.refl _ _⟩
        case round =>
          obtain ⟨j, hj, rfl, hown, hbr⟩ := hrel
          have hsz := hbr.size
          by_cases hjk : j < k
          · obtain ⟨hlen, hcell⟩ := (HL.out.below (Below.go hbw hbr)).ls
            have hs := Lib.hid (Lem.take_snoc hlen hjk)
            obtain ⟨b, off, rfl, hbB, hc⟩ := hcell (by omega)
            obtain ⟨c0, c1, c2⟩ := hc j hjk
            have hfl : (l.take j).length ≤ 70 := by have := List.length_take_le j l; omega
            clear hc hcell hlen
            generalize Lem.at' l j = x at *
            generalize l.take j = F at *
            have b0 : (0 : Int) ≤ (j : Int) := by omega
            have b1 : (j : Int) < (k : Int) := by omega
            go_wp2_with (at_builtin; refine wpList_append_own_at _ rfl _ _ 22 rfl wo.heap.size tL i0 (.agg #[.int .i64 0, .int .i64 0, .int .i64 0]) 3 24 Try.underlying22 hi0 hz0 hz1 hz2 rfl (by decide) _ _ _ rfl (hown.alloc _) ⟨wr.heap.size, 0, none⟩ 1 1 [.int .i64 x.1, .int .i64 x.2.1, .int .i64 x.2.2] rfl rfl (World.news_of_block (heap_new wr _)) (by simp [Value.oneCell']) (by unfold maxLen; omega) (by omega) (by simp; omega) ?_; intro v' w2 hown' hgrow _ _)
            have hb3 := Below.grown (hbr.alloc hbr.size _) hgrow (by simp; omega) (fun g hg => (hown.lt g hg).1)
            have ho3 := own_snoc hown'
            clear hown' hgrow hown
            go_wp2
            go_roundw
            case rel => exact ⟨j + 1, by omega, by go_num, by rw [hs.out]; exact ho3, hb3⟩
            case measure => simp [intOf]; omega
          · obtain rfl : j = k := by omega
            rw [any_full (p := Lem.blocks h lo) Hlen.out] at hown
            have hfl : l.length ≤ 70 := by rw [Hlen.out]; omega
            obtain ⟨⟨d0, d1⟩, -⟩ := blk2 (keep' kb.out hbr)
            go_wp2_with (at_builtin; refine wpList_append_own_at _ rfl _ _ 22 rfl wo.heap.size tL i0 (.agg #[.int .i64 0, .int .i64 0, .int .i64 0]) 3 24 Try.underlying22 hi0 hz0 hz1 hz2 rfl (by decide) _ _ _ rfl (hown.alloc _) ⟨wr.heap.size, 0, none⟩ 1 1 [.int .i64 h, .int .i64 lo, .int .i64 (lo + len)] rfl rfl (World.news_of_block (heap_new wr _)) (by simp [Value.oneCell']) (by unfold maxLen; omega) (by omega) (by simp; omega) ?_; intro v' w2 hown' hgrow _ _)
            have hb3 := Below.go hbw (Below.grown (hbr.alloc hbr.size _) hgrow (by simp; omega) (fun g hg => (hown.lt g hg).1))
            have ho3 := own_down (own_snoc (x := (h, lo, lo + len)) hown') hbw.size
            clear hown' hgrow hown
            go_wp2
            go_ret2
            exact ⟨_, rfl, ho3, hb3⟩
theorem rGrant_any (A : Option Addr) (n c : Nat) (l : List Lem.T3) (h len lo hi : Int) (w : World) (hl : Lin w A n c l) (hn : n ≤ 70) :
    Calls Try.prog 12 #[.slice A n c, .int .i64 h, .int .i64 len, I2 lo hi] w (OwnPostE (Lem.grL l h len lo hi) (Lem.grE l h len lo hi) w) := by
  have hE : Lem.grE l h len lo hi = if Lem.grB l h len lo hi then (if 3000000000000000 < lo + len then 3 else if l.any (Lem.blocks h lo) then 62 else if l.length = 64 then 2 else 0) else 1 := rfl
  have hV : Lem.grL l h len lo hi = if Lem.grE l h len lo hi = 0 then l ++ [(h, lo, lo + len)] else [] := rfl
  cases hB : Lem.grB l h len lo hi
  · rw [hB] at hE
    rw [hV, hE]
    exact rGrant_bad A n c l h len lo hi w hl hn hB
  · rw [hB, if_pos rfl] at hE
    unfold Lem.grB at hB
    simp only [Bool.and_eq_true, decide_eq_true_eq] at hB
    obtain ⟨⟨⟨⟨v, hh⟩, g1⟩, g2⟩, g3⟩ := hB
    by_cases hr : 3000000000000000 < lo + len
    · rw [if_pos hr] at hE
      rw [hV, hE]
      exact rGrant_far A n c l h len lo hi w hl hn v hh g1 g2 g3 hr
    · rw [if_neg hr] at hE
      have hlen : l.length = n := hl.ls.1
      have hle := ((Lem.valid_iff l).1 v).2.2
      refine rGrant_main A n c l _ h len lo hi _ w hl (by omega) v hh g1 g2 g3 (by omega) (Lib.hid fun q => ?_) (Lib.hid fun q q2 => ?_) (Lib.hid fun q q2 => ?_)
      · rw [q, if_pos rfl] at hE; rw [hV, hE]; exact ⟨rfl, rfl⟩
      · rw [q, if_neg (by simp), if_pos (by omega)] at hE; rw [hV, hE]; exact ⟨rfl, rfl⟩
      · rw [q, if_neg (by simp), if_neg (by omega)] at hE; rw [hV, hE]; exact ⟨rfl, rfl⟩
end Go.Proofs.Ytfaceopjblpkeaa
