/- The walk of the law LeaseOne: it returns true for all leases, times and numbers; nothing that was there has changed. -/
import Derived.Test.YtfaceopjblpkeaaLeM
import Derived.Test.YtfaceopjblpkeaaLeN
set_option linter.unusedVariables false
namespace Go.Proofs.Ytfaceopjblpkeaa
open Go.RowKit
/-- at no time two holders have a lease -/
theorem one_holder {l : List Lem.T3} (v : Lem.valid l = true) {x y : Lem.T3} {T : Int} (hx : x ∈ l) (hy : y ∈ l) (x1 : x.2.1 ≤ T) (x2 : T < x.2.2) (y1 : y.2.1 ≤ T) (y2 : T < y.2.2) : x.1 = y.1 := by
  have p := ((Lem.valid_iff l).1 v).2.1
  rw [List.pairwise_iff_getElem] at p
  obtain ⟨i, hi, rfl⟩ := List.getElem_of_mem hx
  obtain ⟨j, hj, rfl⟩ := List.getElem_of_mem hy
  rcases Nat.lt_trichotomy i j with h | h | h
  · have := p i j hi hj h
    simp only [Lem.clash, decide_eq_false_iff_not] at this
    omega
  · subst h; rfl
  · have := p j i hj hi h
    simp only [Lem.clash, decide_eq_false_iff_not] at this
    omega
theorem lets_time {l : List Lem.T3} {h lo hi T : Int} (a : lo ≤ T) (b : T ≤ hi) (hl : l.any (Lem.lets h lo hi) = true) : l.any (Lem.lets h T T) = true := by
  rw [List.any_eq_true] at *
  obtain ⟨x, hx, hp⟩ := hl
  refine ⟨x, hx, ?_⟩
  simp only [Lem.lets, decide_eq_true_eq] at *
  omega
theorem lets_two {l : List Lem.T3} (v : Lem.valid l = true) {h g T : Int} (a : l.any (Lem.lets h T T) = true) (b : l.any (Lem.lets g T T) = true) : h = g := by
  rw [List.any_eq_true] at *
  obtain ⟨x, hx, hp⟩ := a
  obtain ⟨y, hy, hq⟩ := b
  simp only [Lem.lets, decide_eq_true_eq] at hp hq
  have := one_holder v hx hy hp.2.1 hp.2.2 hq.2.1 hq.2.2
  omega
set_option maxHeartbeats 2000000 in
set_option maxRecDepth 100000 in
theorem one_bad (A : Option Addr) (n c : Nat) (l : List Lem.T3) (o1 o2 wh a0 a1 b0 b1 : Int) (w : World) (hl : Lin w A n c l) (hc : 70 < n ∨ n ≤ 70 ∧ Lem.valid l = false) :
    Calls Try.prog 4 #[.slice A n c, .int .u8 o1, .int .u8 o2, .int .u64 wh, P2 a0 a1, P2 b0 b1] w (LawPost w) := by
  have hb := two_box w (oP a0 a1) (oP b0 b1)
  have kb := Lib.hid (new0 w (oP a0 a1) (oP b0 b1))
  have kc := Lib.hid (new1 w (oP a0 a1) (oP b0 b1))
  have HL := Lib.hid hl
  have hcap := hl.cap
  have hnc := hl.nc
  clear hl
  rcases hc with q | ⟨q, v⟩
  · go_enter Try.func4, Try.ntmps4
    go_wp2_with fail
    refine (head_any _).mono ?_
    rintro e wN ⟨rfl, hn⟩
    have hb := (by first | exact Below.go hb hn | exact Below.goA hb hn | exact Below.goAA hb hn | exact Below.goD hb hn | exact Below.goAD hb hn : Below w.heap.size w wN)
    have kb := Lib.hid (by first | exact keep' kb.out hn | exact keepA kb.out hn | exact keepAA kb.out hn | exact keepD kb.out hn | exact keepAD kb.out hn)
    have kc := Lib.hid (by first | exact keep' kc.out hn | exact keepA kc.out hn | exact keepAA kc.out hn | exact keepD kc.out hn | exact keepAD kc.out hn)
    clear hn
    obtain ⟨⟨kb0, kb1⟩, -⟩ := blk2 kb.out
    have kbz := lt_of_heap kb.out
    obtain ⟨⟨kc0, kc1⟩, -⟩ := blk2 kc.out
    have kcz := lt_of_heap kc.out
    go_wp2
    go_ret
    exact ⟨rfl, hb⟩
  · go_enter Try.func4, Try.ntmps4
    go_wp2_with fail
    refine (head_any _).mono ?_
    rintro e wN ⟨rfl, hn⟩
    have hb := (by first | exact Below.go hb hn | exact Below.goA hb hn | exact Below.goAA hb hn | exact Below.goD hb hn | exact Below.goAD hb hn : Below w.heap.size w wN)
    have kb := Lib.hid (by first | exact keep' kb.out hn | exact keepA kb.out hn | exact keepAA kb.out hn | exact keepD kb.out hn | exact keepAD kb.out hn)
    have kc := Lib.hid (by first | exact keep' kc.out hn | exact keepA kc.out hn | exact keepAA kc.out hn | exact keepD kc.out hn | exact keepAD kc.out hn)
    clear hn
    obtain ⟨⟨kb0, kb1⟩, -⟩ := blk2 kb.out
    have kbz := lt_of_heap kb.out
    obtain ⟨⟨kc0, kc1⟩, -⟩ := blk2 kc.out
    have kcz := lt_of_heap kc.out
    go_wp2_with fail
    refine (rValid_any A n c l _ (HL.out.below hb).ls (by omega)).mono ?_
    rintro e wN ⟨rfl, hn⟩
    have hb := (by first | exact Below.go hb hn | exact Below.goA hb hn | exact Below.goAA hb hn | exact Below.goD hb hn | exact Below.goAD hb hn : Below w.heap.size w wN)
    have kb := Lib.hid (by first | exact keep' kb.out hn | exact keepA kb.out hn | exact keepAA kb.out hn | exact keepD kb.out hn | exact keepAD kb.out hn)
    have kc := Lib.hid (by first | exact keep' kc.out hn | exact keepA kc.out hn | exact keepAA kc.out hn | exact keepD kc.out hn | exact keepAD kc.out hn)
    clear hn
    obtain ⟨⟨kb0, kb1⟩, -⟩ := blk2 kb.out
    have kbz := lt_of_heap kb.out
    obtain ⟨⟨kc0, kc1⟩, -⟩ := blk2 kc.out
    have kcz := lt_of_heap kc.out
    go_wp2
    go_ret
    exact ⟨rfl, hb⟩
set_option maxHeartbeats 2000000 in
set_option maxRecDepth 100000 in
theorem one_main (A : Option Addr) (n c : Nat) (l : List Lem.T3) (o1 o2 wh a0 a1 b0 b1 T W V I J LO HI LP HP : Int) (X Y Z : Bool) (w : World) (hl : Lin w A n c l) (q : n ≤ 70) (v : Lem.valid l = true)
    (x0 : 0 ≤ o1) (x1 : o1 < 256) (y0 : 0 ≤ o2) (y1 : o2 < 256) (w0 : 0 ≤ wh) (w1 : wh < 18446744073709551616) (hT : wh % 3000000000000001 = T) (hW : o1 % 64 = W) (hV : o2 % 64 = V) (hI : 1 + W = I) (hJ : 1 + V = J)
    (p00 : 0 ≤ a0) (p01 : a0 < 65536) (p10 : 0 ≤ a1) (p11 : a1 < 65536) (q00 : 0 ≤ b0) (q01 : b0 < 65536) (q10 : 0 ≤ b1) (q11 : b1 < 65536)
    (e1 : arLo T a0 = LO) (e2 : arHi T a1 = HI) (e3 : arLo T b0 = LP) (e4 : arHi T b1 = HP) (s1 : Lem.seV l I LO HI = X) (s2 : Lem.seE l I LO HI = 0) (s3 : Lem.seV l J LP HP = Y) (s4 : Lem.seE l J LP HP = 0) (s5 : l.any (Lem.lets I T T) = Z)
    (hx : X = false ∨ X = true ∧ Z = true) (hk : (I == J) = true ∨ (I == J) = false ∧ X = false ∨ (I == J) = false ∧ X = true ∧ Y = false) :
    Calls Try.prog 4 #[.slice A n c, .int .u8 o1, .int .u8 o2, .int .u64 wh, P2 a0 a1, P2 b0 b1] w (LawPost w) := by
  have hb := two_box w (oP a0 a1) (oP b0 b1)
  have kb := Lib.hid (new0 w (oP a0 a1) (oP b0 b1))
  have kc := Lib.hid (new1 w (oP a0 a1) (oP b0 b1))
  have HL := Lib.hid hl
  have hcap := hl.cap
  have hnc := hl.nc
  have Hlen := Lib.hid hl.ls.1
  clear hl
  have T0 : 0 ≤ T := by omega
  have T1 : T ≤ 3000000000000000 := by omega
  have W0 : 0 ≤ W := by omega
  have W1 : W < 64 := by omega
  have V0 : 0 ≤ V := by omega
  have V1 : V < 64 := by omega
  have S5 := Lib.hid s5
  have Hx := Lib.hid hx
  have Hk := Lib.hid hk
  clear s5 hx hk
  go_enter Try.func4, Try.ntmps4
  go_wp2_with fail
  refine (head_any _).mono ?_
  rintro e wN ⟨rfl, hn⟩
  have hb := (by first | exact Below.go hb hn | exact Below.goA hb hn | exact Below.goAA hb hn | exact Below.goD hb hn | exact Below.goAD hb hn : Below w.heap.size w wN)
  have kb := Lib.hid (by first | exact keep' kb.out hn | exact keepA kb.out hn | exact keepAA kb.out hn | exact keepD kb.out hn | exact keepAD kb.out hn)
  have kc := Lib.hid (by first | exact keep' kc.out hn | exact keepA kc.out hn | exact keepAA kc.out hn | exact keepD kc.out hn | exact keepAD kc.out hn)
  clear hn
  obtain ⟨⟨kb0, kb1⟩, -⟩ := blk2 kb.out
  have kbz := lt_of_heap kb.out
  obtain ⟨⟨kc0, kc1⟩, -⟩ := blk2 kc.out
  have kcz := lt_of_heap kc.out
  go_wp2_with fail
  refine (rValid_any A n c l _ (HL.out.below hb).ls (by omega)).mono ?_
  rintro e wN ⟨rfl, hn⟩
  have hb := (by first | exact Below.go hb hn | exact Below.goA hb hn | exact Below.goAA hb hn | exact Below.goD hb hn | exact Below.goAD hb hn : Below w.heap.size w wN)
  have kb := Lib.hid (by first | exact keep' kb.out hn | exact keepA kb.out hn | exact keepAA kb.out hn | exact keepD kb.out hn | exact keepAD kb.out hn)
  have kc := Lib.hid (by first | exact keep' kc.out hn | exact keepA kc.out hn | exact keepAA kc.out hn | exact keepD kc.out hn | exact keepAD kc.out hn)
  clear hn
  obtain ⟨⟨kb0, kb1⟩, -⟩ := blk2 kb.out
  have kbz := lt_of_heap kb.out
  obtain ⟨⟨kc0, kc1⟩, -⟩ := blk2 kc.out
  have kcz := lt_of_heap kc.out
  go_wp2_with fail
  refine (moment_any _ _ w0 w1).mono ?_
  rintro e w' ⟨rfl, rfl⟩
  go_wp2_with fail
  refine (around_any _ _ _ _ T0 T1 p00 p01 p10 p11).mono ?_
  rintro e wN ⟨rfl, hn⟩
  have hb := (by first | exact Below.go hb hn | exact Below.goA hb hn | exact Below.goAA hb hn | exact Below.goD hb hn | exact Below.goAD hb hn : Below w.heap.size w wN)
  have kb := Lib.hid (by first | exact keep' kb.out hn | exact keepA kb.out hn | exact keepAA kb.out hn | exact keepD kb.out hn | exact keepAD kb.out hn)
  have kc := Lib.hid (by first | exact keep' kc.out hn | exact keepA kc.out hn | exact keepAA kc.out hn | exact keepD kc.out hn | exact keepAD kc.out hn)
  clear hn
  obtain ⟨⟨kb0, kb1⟩, -⟩ := blk2 kb.out
  have kbz := lt_of_heap kb.out
  obtain ⟨⟨kc0, kc1⟩, -⟩ := blk2 kc.out
  have kcz := lt_of_heap kc.out
  go_wp2_with fail
  refine (Serves_any A n c l _ _ _ _ (HL.out.below hb) q).mono ?_
  rintro e wN ⟨rfl, hn⟩
  have hb := (by first | exact Below.go hb hn | exact Below.goA hb hn | exact Below.goAA hb hn | exact Below.goD hb hn | exact Below.goAD hb hn : Below w.heap.size w wN)
  have kb := Lib.hid (by first | exact keep' kb.out hn | exact keepA kb.out hn | exact keepAA kb.out hn | exact keepD kb.out hn | exact keepAD kb.out hn)
  have kc := Lib.hid (by first | exact keep' kc.out hn | exact keepA kc.out hn | exact keepAA kc.out hn | exact keepD kc.out hn | exact keepAD kc.out hn)
  clear hn
  obtain ⟨⟨kb0, kb1⟩, -⟩ := blk2 kb.out
  have kbz := lt_of_heap kb.out
  obtain ⟨⟨kc0, kc1⟩, -⟩ := blk2 kc.out
  have kcz := lt_of_heap kc.out
  go_wp2_with fail
  refine (around_any _ _ _ _ T0 T1 q00 q01 q10 q11).mono ?_
  rintro e wN ⟨rfl, hn⟩
  have hb := (by first | exact Below.go hb hn | exact Below.goA hb hn | exact Below.goAA hb hn | exact Below.goD hb hn | exact Below.goAD hb hn : Below w.heap.size w wN)
  have kb := Lib.hid (by first | exact keep' kb.out hn | exact keepA kb.out hn | exact keepAA kb.out hn | exact keepD kb.out hn | exact keepAD kb.out hn)
  have kc := Lib.hid (by first | exact keep' kc.out hn | exact keepA kc.out hn | exact keepAA kc.out hn | exact keepD kc.out hn | exact keepAD kc.out hn)
  clear hn
  obtain ⟨⟨kb0, kb1⟩, -⟩ := blk2 kb.out
  have kbz := lt_of_heap kb.out
  obtain ⟨⟨kc0, kc1⟩, -⟩ := blk2 kc.out
  have kcz := lt_of_heap kc.out
  go_wp2_with fail
  refine (Serves_any A n c l _ _ _ _ (HL.out.below hb) q).mono ?_
  rintro e wN ⟨rfl, hn⟩
  have hb := (by first | exact Below.go hb hn | exact Below.goA hb hn | exact Below.goAA hb hn | exact Below.goD hb hn | exact Below.goAD hb hn : Below w.heap.size w wN)
  have kb := Lib.hid (by first | exact keep' kb.out hn | exact keepA kb.out hn | exact keepAA kb.out hn | exact keepD kb.out hn | exact keepAD kb.out hn)
  have kc := Lib.hid (by first | exact keep' kc.out hn | exact keepA kc.out hn | exact keepAA kc.out hn | exact keepD kc.out hn | exact keepAD kc.out hn)
  clear hn
  obtain ⟨⟨kb0, kb1⟩, -⟩ := blk2 kb.out
  have kbz := lt_of_heap kb.out
  obtain ⟨⟨kc0, kc1⟩, -⟩ := blk2 kc.out
  have kcz := lt_of_heap kc.out
  go_wp2
  go_loopw [21, 22] (fun z i wr => ∃ k : Nat, k ≤ n ∧ i = .int .i64 k ∧ z = .bool ((l.take k).any (Lem.lets I T T)) ∧ Below wN.heap.size wN wr) (fun _ i _ => n - (intOf i).toNat)
  case atStart => exact ⟨0, Nat.zero_le _, rfl, rfl, Below.refl _ _⟩
  case round =>
    obtain ⟨k, hk, rfl, rfl, hbr⟩ := hrel
    have hbw := Below.go hb hbr
    by_cases hlt : k < n
    · obtain ⟨hlen, hcell⟩ := (HL.out.below hbw).ls
      have hs := Lib.hid (Lem.any_snoc (Lem.lets I T T) hlen hlt)
      obtain ⟨b, off, rfl, hbB, hc⟩ := hcell (by omega)
      obtain ⟨c0, c1, c2⟩ := hc k hlt
      clear hc hcell hlen
      have hw := lets_ways I T T (Lem.at' l k)
      generalize Lem.at' l k = x at *
      have b0 : (0 : Int) ≤ (k : Int) := by omega
      have b1 : (k : Int) < (n : Int) := by omega
      obtain ⟨Z', hZ⟩ : ∃ Z', (l.take k).any (Lem.lets I T T) = Z' := ⟨_, rfl⟩
      rw [hZ] at hs
      simp only [hZ]
      clear hZ
      cases Z'
      · rcases hw with ⟨q1, q2⟩ | ⟨q1, q3, q2⟩ | ⟨q1, q3, q4, q2⟩ | ⟨q1, q3, q4, q2⟩
        all_goals
          rw [q2] at hs
          clear q2
          go_wp2
          go_roundw
          case rel => exact ⟨k + 1, by omega, by go_num, by rw [hs.out]; rfl, by first | exact hbr | exact below_drewN hbr _⟩
          case measure => simp [intOf]; omega
      · clear hw
        go_wp2
        go_roundw
        case rel => exact ⟨k + 1, by omega, by go_num, by rw [hs.out]; rfl, by first | exact hbr | exact below_drewN hbr _⟩
        case measure => simp [intOf]; omega
    · obtain rfl : k = n := by omega
      have hz : (l.take k).any (Lem.lets I T T) = Z := by rw [List.take_of_length_le (by rw [Hlen.out]; omega)]; exact S5.out
      simp only [hz]
      clear hz S5
      rcases Hx.out with rfl | ⟨rfl, rfl⟩
      · rcases Hk.out with k1 | ⟨k1, -⟩ | ⟨k1, k2, -⟩
        · clear Hx Hk
          go_wp2
          go_ret
          exact ⟨rfl, hbw⟩
        · clear Hx Hk
          go_wp2
          go_ret
          exact ⟨rfl, hbw⟩
        · cases k2
      · rcases Hk.out with k1 | ⟨k1, k2⟩ | ⟨k1, -, rfl⟩
        · clear Hx Hk
          go_wp2
          go_ret
          exact ⟨rfl, hbw⟩
        · cases k2
        · clear Hx Hk
          go_wp2
          go_ret
          exact ⟨rfl, hbw⟩
theorem one_law (v : Value) (l : List Lem.T3) (o1 o2 wh : Int) (u : Value) (a : Int × Int) (u' : Value) (b : Int × Int) (w : World) (hv : IsLeases w v l) (h1 : (Lit.int .u8 o1).wf = true) (h2 : (Lit.int .u8 o2).wf = true) (h3 : (Lit.int .u64 wh).wf = true) (hu : IsP2 u a) (hu' : IsP2 u' b) :
    Calls Try.prog 4 #[v, .int .u8 o1, .int .u8 o2, .int .u64 wh, u, u'] w (LawPost w) := by
  obtain ⟨A, n, c, rfl, hl⟩ := hv
  obtain ⟨a0, a1⟩ := a
  obtain ⟨b0, b1⟩ := b
  obtain ⟨rfl, x1, x2⟩ := hu
  obtain ⟨rfl, x3, x4⟩ := hu'
  have hh := bounds_u8 h1
  have hh2 := bounds_u8 h2
  have hw := bounds_u64 h3
  have q0 : 0 ≤ a0 ∧ a0 ≤ 65535 := bounds_u16 x1
  have q1 : 0 ≤ a1 ∧ a1 ≤ 65535 := bounds_u16 x2
  have q2 : 0 ≤ b0 ∧ b0 ≤ 65535 := bounds_u16 x3
  have q3 : 0 ≤ b1 ∧ b1 ≤ 65535 := bounds_u16 x4
  show Calls Try.prog 4 #[.slice A n c, .int .u8 o1, .int .u8 o2, .int .u64 wh, P2 a0 a1, P2 b0 b1] w (LawPost w)
  by_cases q : n ≤ 70
  rotate_left
  · exact one_bad A n c l o1 o2 wh a0 a1 b0 b1 w hl (.inl (by omega))
  cases hva : Lem.valid l
  · exact one_bad A n c l o1 o2 wh a0 a1 b0 b1 w hl (.inr ⟨q, hva⟩)
  obtain ⟨T, hT⟩ : ∃ d, wh % 3000000000000001 = d := ⟨_, rfl⟩
  obtain ⟨W, hW⟩ : ∃ d, o1 % 64 = d := ⟨_, rfl⟩
  obtain ⟨V, hV⟩ : ∃ d, o2 % 64 = d := ⟨_, rfl⟩
  have T0 : 0 ≤ T := by omega
  have T1 : T ≤ 3000000000000000 := by omega
  have ab := ar_bd T0 T1 q0.1 q1.1
  have ac := ar_bd T0 T1 q2.1 q3.1
  have s1 := seB_yes (h := 1 + W) (lo := arLo T a0) (hi := arHi T a1) hva (Lem.hB_yes ⟨by omega, by omega⟩) (Lem.iV_yes ⟨by omega, by omega, by omega⟩)
  have s2 := seB_yes (h := 1 + V) (lo := arLo T b0) (hi := arHi T b1) hva (Lem.hB_yes ⟨by omega, by omega⟩) (Lem.iV_yes ⟨by omega, by omega, by omega⟩)
  refine one_main A n c l o1 o2 wh a0 a1 b0 b1 T W V _ _ _ _ _ _ _ _ _ w hl q hva (by omega) (by omega) (by omega) (by omega) (by omega) (by omega) hT hW hV rfl rfl (by omega) (by omega) (by omega) (by omega) (by omega) (by omega) (by omega) (by omega) rfl rfl rfl rfl s1.2 s1.1 s2.2 s2.1 rfl ?_ ?_
  · cases hX : l.any (Lem.lets (1 + W) (arLo T a0) (arHi T a1))
    · exact .inl rfl
    · exact .inr ⟨rfl, lets_time ab.2.1 ab.2.2.1 hX⟩
  · by_cases hk : 1 + W = 1 + V
    · exact .inl (by simpa using hk)
    · right
      cases hX : l.any (Lem.lets (1 + W) (arLo T a0) (arHi T a1))
      · exact .inl ⟨by simpa using hk, rfl⟩
      · refine .inr ⟨by simpa using hk, rfl, ?_⟩
        cases hY : l.any (Lem.lets (1 + V) (arLo T b0) (arHi T b1))
        · rfl
        · exact absurd (lets_two hva (lets_time ab.2.1 ab.2.2.1 hX) (lets_time ac.2.1 ac.2.2.1 hY)) hk
end Go.Proofs.Ytfaceopjblpkeaa
