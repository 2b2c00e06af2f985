/- What the reference's Serves, Drop and Free return. -/
import Derived.Test.YtfaceopjblpkeaaLeL
set_option linter.unusedVariables false
namespace Go.Proofs.Ytfaceopjblpkeaa
open Go.RowKit
theorem lets_ways (h lo hi : Int) (x : Lem.T3) : (x.1 == h) = false ∧ Lem.lets h lo hi x = false ∨ (x.1 == h) = true ∧ decide (x.2.1 ≤ lo) = false ∧ Lem.lets h lo hi x = false ∨ (x.1 == h) = true ∧ decide (x.2.1 ≤ lo) = true ∧ decide (hi < x.2.2) = false ∧ Lem.lets h lo hi x = false ∨
    (x.1 == h) = true ∧ decide (x.2.1 ≤ lo) = true ∧ decide (hi < x.2.2) = true ∧ Lem.lets h lo hi x = true := by
  unfold Lem.lets
  by_cases a : x.1 = h <;> by_cases b : x.2.1 ≤ lo <;> by_cases c : hi < x.2.2 <;> simp [a, b, c]
theorem any_full {l : List Lem.T3} {n : Nat} {p : Lem.T3 → Bool} (h : l.length = n) : l.take n = l := List.take_of_length_le (by omega)
set_option maxHeartbeats 2000000 in
set_option maxRecDepth 100000 in
theorem rServes_any (A : Option Addr) (n c : Nat) (l : List Lem.T3) (h lo hi : Int) (w : World) (hl : Lin w A n c l) (hn : n ≤ 70) :
    Calls Try.prog 17 #[.slice A n c, .int .i64 h, I2 lo hi] w (RetB (.tuple #[.bool (Lem.seV l h lo hi), .int .i64 (Lem.seE l h lo hi)]) w) := by
  have hb := (Below.refl w.heap.size w).alloc (Nat.le_refl _) (oI lo hi)
  have kb := Lib.hid (heap_new w (oI lo hi))
  have HL := Lib.hid hl
  have hcap := hl.cap
  have hnc := hl.nc
  have Hlen := Lib.hid hl.ls.1
  clear hl
  have hE : Hid (Lem.seE l h lo hi = if Lem.seB l h lo hi then 0 else 1) := Lib.hid rfl
  have hV : Hid (Lem.seV l h lo hi = (Lem.seB l h lo hi && l.any (Lem.lets h lo hi))) := Lib.hid rfl
  cases hB : Lem.seB l h lo hi
  · rw [hB] at hE hV
    rcases seB_ways hB with h1 | ⟨h1, h2⟩ | ⟨h1, h2, h3⟩
    all_goals
      clear hB
      go_enter Try.func17, Try.ntmps17
      go_wp2_with fail
      refine (rValid_any A n c l _ (HL.out.below hb).ls (by omega)).mono ?_
      rintro e wN ⟨rfl, hn⟩
      have hb := (by first | exact Below.go hb hn | exact Below.goA hb hn | exact Below.goAA hb hn | exact Below.goD hb hn | exact Below.goAD hb hn : Below w.heap.size w wN)
      have kb := Lib.hid (by first | exact keep' kb.out hn | exact keepA kb.out hn | exact keepAA kb.out hn | exact keepD kb.out hn | exact keepAD kb.out hn)
      clear hn
      obtain ⟨⟨kb0, kb1⟩, -⟩ := blk2 kb.out
      have kbz := lt_of_heap kb.out
      go_wp2_with fail
      refine (rHolder_any _ _).mono ?_
      rintro e w' ⟨rfl, rfl⟩
      go_wp2_with fail
      refine (rIV_any _ _ _).mono ?_
      rintro e wN ⟨rfl, hn⟩
      have hb := (by first | exact Below.go hb hn | exact Below.goA hb hn | exact Below.goAA hb hn | exact Below.goD hb hn | exact Below.goAD hb hn : Below w.heap.size w wN)
      have kb := Lib.hid (by first | exact keep' kb.out hn | exact keepA kb.out hn | exact keepAA kb.out hn | exact keepD kb.out hn | exact keepAD kb.out hn)
      clear hn
      obtain ⟨⟨kb0, kb1⟩, -⟩ := blk2 kb.out
      have kbz := lt_of_heap kb.out
      go_wp2
      go_ret2
      exact ⟨ret_be (by rw [hV.out]; rfl) (by rw [hE.out]; rfl), hb⟩
  · rw [hB] at hE hV
    have hB2 := hB
    unfold Lem.seB at hB2
    simp only [Bool.and_eq_true] at hB2
    obtain ⟨⟨h1, h2⟩, h3⟩ := hB2
    clear hB
    go_enter Try.func17, Try.ntmps17
    go_wp2_with fail
    refine (rValid_any A n c l _ (HL.out.below hb).ls (by omega)).mono ?_
    rintro e wN ⟨rfl, hn⟩
    have hb := (by first | exact Below.go hb hn | exact Below.goA hb hn | exact Below.goAA hb hn | exact Below.goD hb hn | exact Below.goAD hb hn : Below w.heap.size w wN)
    have kb := Lib.hid (by first | exact keep' kb.out hn | exact keepA kb.out hn | exact keepAA kb.out hn | exact keepD kb.out hn | exact keepAD kb.out hn)
    clear hn
    obtain ⟨⟨kb0, kb1⟩, -⟩ := blk2 kb.out
    have kbz := lt_of_heap kb.out
    go_wp2_with fail
    refine (rHolder_any _ _).mono ?_
    rintro e w' ⟨rfl, rfl⟩
    go_wp2_with fail
    refine (rIV_any _ _ _).mono ?_
    rintro e wN ⟨rfl, hn⟩
    have hb := (by first | exact Below.go hb hn | exact Below.goA hb hn | exact Below.goAA hb hn | exact Below.goD hb hn | exact Below.goAD hb hn : Below w.heap.size w wN)
    have kb := Lib.hid (by first | exact keep' kb.out hn | exact keepA kb.out hn | exact keepAA kb.out hn | exact keepD kb.out hn | exact keepAD kb.out hn)
    clear hn
    obtain ⟨⟨kb0, kb1⟩, -⟩ := blk2 kb.out
    have kbz := lt_of_heap kb.out
    go_wp2
    go_loopw [11] (fun i wr => ∃ k : Nat, k ≤ n ∧ i = .int .i64 k ∧ Hid ((l.take k).any (Lem.lets h lo hi) = false) ∧ Below wN.heap.size wN wr) (fun i _ => n - (intOf i).toNat)
    case atStart => exact ⟨0, Nat.zero_le _, rfl, Lib.hid rfl, Below.refl _ _⟩
    case round =>
      obtain ⟨k, hk, rfl, hix, hbr⟩ := hrel
      have hbw := Below.go hb hbr
      by_cases hlt : k < n
      · obtain ⟨hlen, hcell⟩ := (HL.out.below hbw).ls
        have hs := Lib.hid (Lem.any_snoc (Lem.lets h lo hi) hlen hlt)
        obtain ⟨b, off, rfl, hbB, hc⟩ := hcell (by omega)
        obtain ⟨c0, c1, c2⟩ := hc k hlt
        obtain ⟨⟨d0, d1⟩, -⟩ := blk2 (keep' kb.out hbr)
        clear hc hcell hlen
        have hw := lets_ways h lo hi (Lem.at' l k)
        generalize Lem.at' l k = x at *
        have b0 : (0 : Int) ≤ (k : Int) := by omega
        have b1 : (k : Int) < (n : Int) := by omega
        rcases hw with ⟨q1, q2⟩ | ⟨q1, q3, q2⟩ | ⟨q1, q3, q4, q2⟩ | ⟨q1, q3, q4, q2⟩
        · have hs2 : Hid ((l.take (k + 1)).any (Lem.lets h lo hi) = false) := Lib.hid (hs.out.trans (by rw [hix.out, q2]; rfl))
          go_wp2
          go_quiet (fail)
          go_wp2
          go_roundw
          case rel => exact ⟨k + 1, by omega, by go_num, hs2, below_drewN hbr _⟩
          case measure => simp [intOf]; omega
        · have hs2 : Hid ((l.take (k + 1)).any (Lem.lets h lo hi) = false) := Lib.hid (hs.out.trans (by rw [hix.out, q2]; rfl))
          go_wp2
          go_quiet (fail)
          go_wp2
          go_roundw
          case rel => exact ⟨k + 1, by omega, by go_num, hs2, below_drewN hbr _⟩
          case measure => simp [intOf]; omega
        · have hs2 : Hid ((l.take (k + 1)).any (Lem.lets h lo hi) = false) := Lib.hid (hs.out.trans (by rw [hix.out, q2]; rfl))
          go_wp2
          go_quiet (fail)
          go_wp2
          go_roundw
          case rel => exact ⟨k + 1, by omega, by go_num, hs2, below_drewN hbr _⟩
          case measure => simp [intOf]; omega
        · have hs2 : Hid (l.any (Lem.lets h lo hi) = true) := Lib.hid (Lem.any_take (k := k + 1) (hs.out.trans (by rw [hix.out, q2]; rfl)))
          go_wp2
          go_quiet (fail)
          go_wp2
          go_ret2
          exact ⟨ret_be (by rw [hV.out, hs2.out]; rfl) (by rw [hE.out]; rfl), below_drewN hbw _⟩
      · obtain rfl : k = n := by omega
        rw [any_full (p := Lem.lets h lo hi) Hlen.out] at hix
        go_wp2
        go_ret2
        exact ⟨ret_be (by rw [hV.out, hix.out]; rfl) (by rw [hE.out]; rfl), hbw⟩
set_option maxHeartbeats 2000000 in
set_option maxRecDepth 100000 in
theorem rDrop_any (A : Option Addr) (n c : Nat) (l : List Lem.T3) (lo hi : Int) (w : World) (hl : Lin w A n c l) (hn : n ≤ 70) :
    Calls Try.prog 21 #[.slice A n c, I2 lo hi] w (OwnPostE (Lem.drL l lo hi) (Lem.drE l lo hi) w) := by
  have hb := (Below.refl w.heap.size w).alloc (Nat.le_refl _) (oI lo hi)
  have kb := Lib.hid (heap_new w (oI lo hi))
  have HL := Lib.hid hl
  have hcap := hl.cap
  have hnc := hl.nc
  have Hlen := Lib.hid hl.ls.1
  clear hl
  have hE : Hid (Lem.drE l lo hi = if Lem.drB l lo hi then 0 else 1) := Lib.hid rfl
  have hV : Hid (Lem.drL l lo hi = if Lem.drB l lo hi then l.filter (Lem.stays lo) else []) := Lib.hid rfl
  cases hB : Lem.drB l lo hi
  · rw [hB] at hE hV
    rcases drB_ways hB with h1 | ⟨h1, h2⟩
    all_goals
      clear hB
      go_enter Try.func21, Try.ntmps21
      go_wp2_with fail
      refine (rValid_any A n c l _ (HL.out.below hb).ls (by omega)).mono ?_
      rintro e wN ⟨rfl, hn⟩
      have hb := (by first | exact Below.go hb hn | exact Below.goA hb hn | exact Below.goAA hb hn | exact Below.goD hb hn | exact Below.goAD hb hn : Below w.heap.size w wN)
      have kb := Lib.hid (by first | exact keep' kb.out hn | exact keepA kb.out hn | exact keepAA kb.out hn | exact keepD kb.out hn | exact keepAD kb.out hn)
      clear hn
      obtain ⟨⟨kb0, kb1⟩, -⟩ := blk2 kb.out
      have kbz := lt_of_heap kb.out
      go_wp2_with fail
      refine (rIV_any _ _ _).mono ?_
      rintro e wN ⟨rfl, hn⟩
      have hb := (by first | exact Below.go hb hn | exact Below.goA hb hn | exact Below.goAA hb hn | exact Below.goD hb hn | exact Below.goAD hb hn : Below w.heap.size w wN)
      have kb := Lib.hid (by first | exact keep' kb.out hn | exact keepA kb.out hn | exact keepAA kb.out hn | exact keepD kb.out hn | exact keepAD kb.out hn)
      clear hn
      obtain ⟨⟨kb0, kb1⟩, -⟩ := blk2 kb.out
      have kbz := lt_of_heap kb.out
      go_wp2
      go_ret2
      exact ⟨.slice none 0 0, by rw [hE.out]; rfl, by rw [hV.out]; exact Own.nil _ _, hb⟩
  · rw [hB] at hE hV
    have hB2 := hB
    unfold Lem.drB at hB2
    simp only [Bool.and_eq_true] at hB2
    obtain ⟨h1, h2⟩ := hB2
    clear hB
    obtain ⟨i0, hi0, hz0, hz1, hz2⟩ := info_parts infoLease
    go_enter Try.func21, Try.ntmps21
    go_wp2_with fail
    refine (rValid_any A n c l _ (HL.out.below hb).ls (by omega)).mono ?_
    rintro e wN ⟨rfl, hn⟩
    have hb := (by first | exact Below.go hb hn | exact Below.goA hb hn | exact Below.goAA hb hn | exact Below.goD hb hn | exact Below.goAD hb hn : Below w.heap.size w wN)
    have kb := Lib.hid (by first | exact keep' kb.out hn | exact keepA kb.out hn | exact keepAA kb.out hn | exact keepD kb.out hn | exact keepAD kb.out hn)
    clear hn
    obtain ⟨⟨kb0, kb1⟩, -⟩ := blk2 kb.out
    have kbz := lt_of_heap kb.out
    go_wp2_with fail
    refine (rIV_any _ _ _).mono ?_
    rintro e wN ⟨rfl, hn⟩
    have hb := (by first | exact Below.go hb hn | exact Below.goA hb hn | exact Below.goAA hb hn | exact Below.goD hb hn | exact Below.goAD hb hn : Below w.heap.size w wN)
    have kb := Lib.hid (by first | exact keep' kb.out hn | exact keepA kb.out hn | exact keepAA kb.out hn | exact keepD kb.out hn | exact keepAD kb.out hn)
    clear hn
    obtain ⟨⟨kb0, kb1⟩, -⟩ := blk2 kb.out
    have kbz := lt_of_heap kb.out
    go_wp2
    go_loopw [9, 8] (fun i v wr => ∃ k : Nat, k ≤ n ∧ i = .int .i64 k ∧ Own wN.heap.size wr v ((l.take k).filter (Lem.stays lo)) ∧ Below wN.heap.size wN wr) (fun i _ _ => n - (intOf i).toNat)
    case atStart => exact ⟨0, Nat.zero_le _, rfl, World.ownsRow_nil _ _ _ _, Below.refl _ _⟩
    case round =>
      obtain ⟨k, hk, rfl, hown, hbr⟩ := hrel
      have hbw := Below.go hb hbr
      by_cases hlt : k < n
      · obtain ⟨hlen, hcell⟩ := (HL.out.below hbw).ls
        have hs := Lib.hid (Lem.filter_snoc (Lem.stays lo) hlen hlt)
        obtain ⟨b, off, rfl, hbB, hc⟩ := hcell (by omega)
        obtain ⟨c0, c1, c2⟩ := hc k hlt
        obtain ⟨⟨d0, d1⟩, -⟩ := blk2 (keep' kb.out hbr)
        have hfl : ((l.take k).filter (Lem.stays lo)).length ≤ 70 := by
          have := List.length_filter_le (Lem.stays lo) (l.take k); have := List.length_take_le k l; omega
        have hsd : Lem.stays lo (Lem.at' l k) = decide (lo < (Lem.at' l k).2.2) := by unfold Lem.stays Lem.over; rw [← decide_not]; congr 1; simp
        clear hc hcell hlen
        generalize Lem.at' l k = x at *
        generalize (l.take k).filter (Lem.stays lo) = F at *
        have b0 : (0 : Int) ≤ (k : Int) := by omega
        have b1 : (k : Int) < (n : Int) := by omega
        cases hp : decide (lo < x.2.2)
        · have hs2 : Hid ((l.take (k + 1)).filter (Lem.stays lo) = F) := Lib.hid (hs.out.trans (by rw [hsd, hp]; simp))
          clear hsd
          go_wp2
          go_quiet (fail)
          go_wp2
          go_roundw
          case rel => exact ⟨k + 1, by omega, by go_num, by rw [hs2.out]; exact own_below hown (below_drewN (Below.refl _ _) _), below_drewN hbr _⟩
          case measure => simp [intOf]; omega
        · have hs2 : Hid ((l.take (k + 1)).filter (Lem.stays lo) = F ++ [x]) := Lib.hid (hs.out.trans (by rw [hsd, hp, if_pos rfl]))
          clear hsd
          go_wp2
          go_quiet (fail)
          have hb1 := below_drewN (Below.refl wr.heap.size wr) nq
          have c0 := (hb1.cell (p := ⟨b, off + k * 3, none⟩) hbB).trans c0
          have c1 := (hb1.cell (p := ⟨b, off + k * 3 + 1, none⟩) hbB).trans c1
          have c2 := (hb1.cell (p := ⟨b, off + k * 3 + 2, none⟩) hbB).trans c2
          have ho1 := own_below hown hb1
          have hbr1 := Below.go hbr hb1
          clear hb1 hown d0 d1
          generalize wr.drewN nq = w1 at *
          have hsz := hbr1.size
          go_wp2_with (at_builtin; refine wpList_append_own_at _ rfl _ _ 22 rfl wN.heap.size tL i0 (.agg #[.int .i64 0, .int .i64 0, .int .i64 0]) 3 24 Try.underlying22 hi0 hz0 hz1 hz2 rfl (by decide) _ _ _ rfl (ho1.alloc _) ⟨w1.heap.size, 0, none⟩ 1 1 [.int .i64 x.1, .int .i64 x.2.1, .int .i64 x.2.2] rfl rfl (World.news_of_block (heap_new w1 _)) (by simp [Value.oneCell']) (by unfold maxLen; omega) (by omega) (by simp; omega) ?_; intro v' w2 hown' hgrow _ _)
          have hb3 := Below.grown (hbr1.alloc hbr1.size _) hgrow (by simp; omega) (fun g hg => (ho1.lt g hg).1)
          have ho3 := own_snoc hown'
          clear hown' hgrow ho1
          go_wp2
          go_roundw
          case rel => exact ⟨k + 1, by omega, by go_num, by rw [hs2.out]; exact ho3, hb3⟩
          case measure => simp [intOf]; omega
      · obtain rfl : k = n := by omega
        rw [any_full (p := Lem.stays lo) Hlen.out] at hown
        go_wp2
        go_ret2
        exact ⟨_, by rw [hE.out]; rfl, by rw [hV.out]; exact own_down hown hb.size, hbw⟩
set_option maxHeartbeats 2000000 in
set_option maxRecDepth 100000 in
theorem rFree_any (A : Option Addr) (n c : Nat) (l : List Lem.T3) (lo hi : Int) (w : World) (hl : Lin w A n c l) (hn : n ≤ 70) :
    Calls Try.prog 19 #[.slice A n c, I2 lo hi] w (RetB (.tuple #[.bool (Lem.frV l lo hi), .int .i64 (Lem.drE l lo hi)]) w) := by
  have hb := (Below.refl w.heap.size w).alloc (Nat.le_refl _) (oI lo hi)
  have kb := Lib.hid (heap_new w (oI lo hi))
  have HL := Lib.hid hl
  clear hl
  have hE : Hid (Lem.drE l lo hi = if Lem.drB l lo hi then 0 else 1) := Lib.hid rfl
  have hV : Hid (Lem.frV l lo hi = (Lem.drB l lo hi && decide ((Lem.drL l lo hi).length = 0))) := Lib.hid rfl
  cases hB : Lem.drB l lo hi
  · rw [hB] at hE hV
    have hE1 : Lem.drE l lo hi = 1 := hE.out
    have hV1 : Hid (Lem.frV l lo hi = false) := Lib.hid hV.out
    clear hE hV hB
    go_enter Try.func19, Try.ntmps19
    go_wp2_with fail
    refine (rDrop_any A n c l _ _ _ (HL.out.below hb) hn).mono ?_
    rintro e wN ⟨vN, rfl, hown, hn⟩
    have hb := (by first | exact Below.go hb hn | exact Below.goA hb hn | exact Below.goAA hb hn | exact Below.goD hb hn | exact Below.goAD hb hn : Below w.heap.size w wN)
    have kb := Lib.hid (by first | exact keep' kb.out hn | exact keepA kb.out hn | exact keepAA kb.out hn | exact keepD kb.out hn | exact keepAD kb.out hn)
    clear hn
    obtain ⟨⟨kb0, kb1⟩, -⟩ := blk2 kb.out
    have kbz := lt_of_heap kb.out
    rw [hE1]
    clear hown
    go_wp2
    go_ret2
    exact ⟨ret_be hV1.out.symm hE1.symm, hb⟩
  · rw [hB] at hE hV
    have hE1 : Lem.drE l lo hi = 0 := hE.out
    clear hE hB
    go_enter Try.func19, Try.ntmps19
    go_wp2_with fail
    refine (rDrop_any A n c l _ _ _ (HL.out.below hb) hn).mono ?_
    rintro e wN ⟨vN, rfl, hown, hn⟩
    have hb := (by first | exact Below.go hb hn | exact Below.goA hb hn | exact Below.goAA hb hn | exact Below.goD hb hn | exact Below.goAD hb hn : Below w.heap.size w wN)
    have kb := Lib.hid (by first | exact keep' kb.out hn | exact keepA kb.out hn | exact keepAA kb.out hn | exact keepD kb.out hn | exact keepAD kb.out hn)
    clear hn
    obtain ⟨⟨kb0, kb1⟩, -⟩ := blk2 kb.out
    have kbz := lt_of_heap kb.out
    obtain ⟨A', n', c', rfl, hn', -⟩ := hown.lin
    have hq : ((n' : Int) == 0) = Lem.frV l lo hi := by rw [hV.out, ← hn', Bool.eq_iff_iff]; simp
    clear hn' hown hV
    rw [hE1]
    generalize Lem.frV l lo hi = F at *
    go_wp2
    go_ret2
    exact ⟨ret_be rfl hE1.symm, hb⟩
end Go.Proofs.Ytfaceopjblpkeaa
