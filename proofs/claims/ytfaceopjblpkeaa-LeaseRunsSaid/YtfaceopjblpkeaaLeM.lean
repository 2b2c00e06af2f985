/- Arguments that are pairs of numbers, opened; the walk of the law LeaseRefuses. -/
import Derived.Test.YtfaceopjblpkeaaLeL
import Derived.Test.YtfaceopjblpkeaaLeMath3
import Derived.WideKeyPair
set_option linter.unusedVariables false
namespace Go.Proofs.Ytfaceopjblpkeaa
open Go.RowKit
abbrev P2 (a b : Int) : Value := .agg #[.int .u16 a, .int .u16 b]
abbrev oP (a b : Int) : Obj := .cells #[.int .u16 a, .int .u16 b] 38
def IsP2 (v : Value) (x : Int × Int) : Prop := v = P2 x.1 x.2 ∧ (Lit.int .u16 x.1).wf = true ∧ (Lit.int .u16 x.2).wf = true
theorem arrP : Go.WideMaps.ArrKey Try.prog 38 37 2 := ⟨Try.underlying38, by kernel_rfl, by kernel_rfl, by kernel_rfl⟩
theorem open_p2 {H : Type} {enc : TypeId × Value → H} {W : World} {base b0 : Nat} {r : Reach} {sp : Nat → Bool} {hd : Bool} {v : Value} {d : DataW H} {p : List MemPlace}
    (hv : Value.okWide Try.prog W r b0 38 v) (h : DataW.Trod enc Try.prog W base sp hd 38 v d p) : ∃ x, IsP2 v x := by
  obtain ⟨a, b, rfl, -, -, f0, f1⟩ := Go.WideMaps.open_pair arrP Try.underlying37 hv h
  exact ⟨(a, b), rfl, f0, f1⟩
set_option maxHeartbeats 2000000 in
set_option maxRecDepth 100000 in
theorem refuses_bad (A : Option Addr) (n c : Nat) (l : List Lem.T3) (h len wh p0 p1 T : Int) (w : World) (hl : Lin w A n c l) (h0 : 0 ≤ h) (h1 : h < 256) (l0 : 0 ≤ len) (l1 : len < 65536) (w0 : 0 ≤ wh) (w1 : wh < 18446744073709551616) (hT : wh % 3000000000000001 = T)
    (hc : 63 < n ∨ n ≤ 63 ∧ Lem.valid l = false ∨ n ≤ 63 ∧ Lem.valid l = true ∧ 3000000000000000 < T + len + 1) :
    Calls Try.prog 6 #[.slice A n c, .int .u8 h, .int .u16 len, .int .u64 wh, P2 p0 p1] w (LawPost w) := by
  have hb := (Below.refl w.heap.size w).alloc (Nat.le_refl _) (oP p0 p1)
  have kb := Lib.hid (heap_new w (oP p0 p1))
  have HL := Lib.hid hl
  have hcap := hl.cap
  have hnc := hl.nc
  clear hl
  have T0 : 0 ≤ T := by omega
  have T1 : T ≤ 3000000000000000 := by omega
  rcases hc with q | ⟨q, v⟩ | ⟨q, v, i⟩
  · go_enter Try.func6, Try.ntmps6
    go_wp2_with fail
    refine (head_any _).mono ?_
    rintro e wN ⟨rfl, hn⟩
    have hb := (by first | exact Below.go hb hn | exact Below.goA hb hn | exact Below.goAA hb hn | exact Below.goD hb hn | exact Below.goAD hb hn : Below w.heap.size w wN)
    have kb := Lib.hid (by first | exact keep' kb.out hn | exact keepA kb.out hn | exact keepAA kb.out hn | exact keepD kb.out hn | exact keepAD kb.out hn)
    clear hn
    obtain ⟨⟨kb0, kb1⟩, -⟩ := blk2 kb.out
    have kbz := lt_of_heap kb.out
    go_wp2_with fail
    refine (moment_any _ _ w0 w1).mono ?_
    rintro e w' ⟨rfl, rfl⟩
    go_wp2
    go_ret
    exact ⟨rfl, hb⟩
  · go_enter Try.func6, Try.ntmps6
    go_wp2_with fail
    refine (head_any _).mono ?_
    rintro e wN ⟨rfl, hn⟩
    have hb := (by first | exact Below.go hb hn | exact Below.goA hb hn | exact Below.goAA hb hn | exact Below.goD hb hn | exact Below.goAD hb hn : Below w.heap.size w wN)
    have kb := Lib.hid (by first | exact keep' kb.out hn | exact keepA kb.out hn | exact keepAA kb.out hn | exact keepD kb.out hn | exact keepAD kb.out hn)
    clear hn
    obtain ⟨⟨kb0, kb1⟩, -⟩ := blk2 kb.out
    have kbz := lt_of_heap kb.out
    go_wp2_with fail
    refine (moment_any _ _ w0 w1).mono ?_
    rintro e w' ⟨rfl, rfl⟩
    go_wp2_with fail
    refine (rValid_any A n c l _ (HL.out.below hb).ls (by omega)).mono ?_
    rintro e wN ⟨rfl, hn⟩
    have hb := (by first | exact Below.go hb hn | exact Below.goA hb hn | exact Below.goAA hb hn | exact Below.goD hb hn | exact Below.goAD hb hn : Below w.heap.size w wN)
    have kb := Lib.hid (by first | exact keep' kb.out hn | exact keepA kb.out hn | exact keepAA kb.out hn | exact keepD kb.out hn | exact keepAD kb.out hn)
    clear hn
    obtain ⟨⟨kb0, kb1⟩, -⟩ := blk2 kb.out
    have kbz := lt_of_heap kb.out
    go_wp2
    go_ret
    exact ⟨rfl, hb⟩
  · go_enter Try.func6, Try.ntmps6
    go_wp2_with fail
    refine (head_any _).mono ?_
    rintro e wN ⟨rfl, hn⟩
    have hb := (by first | exact Below.go hb hn | exact Below.goA hb hn | exact Below.goAA hb hn | exact Below.goD hb hn | exact Below.goAD hb hn : Below w.heap.size w wN)
    have kb := Lib.hid (by first | exact keep' kb.out hn | exact keepA kb.out hn | exact keepAA kb.out hn | exact keepD kb.out hn | exact keepAD kb.out hn)
    clear hn
    obtain ⟨⟨kb0, kb1⟩, -⟩ := blk2 kb.out
    have kbz := lt_of_heap kb.out
    go_wp2_with fail
    refine (moment_any _ _ w0 w1).mono ?_
    rintro e w' ⟨rfl, rfl⟩
    go_wp2_with fail
    refine (rValid_any A n c l _ (HL.out.below hb).ls (by omega)).mono ?_
    rintro e wN ⟨rfl, hn⟩
    have hb := (by first | exact Below.go hb hn | exact Below.goA hb hn | exact Below.goAA hb hn | exact Below.goD hb hn | exact Below.goAD hb hn : Below w.heap.size w wN)
    have kb := Lib.hid (by first | exact keep' kb.out hn | exact keepA kb.out hn | exact keepAA kb.out hn | exact keepD kb.out hn | exact keepAD kb.out hn)
    clear hn
    obtain ⟨⟨kb0, kb1⟩, -⟩ := blk2 kb.out
    have kbz := lt_of_heap kb.out
    go_wp2
    go_ret
    exact ⟨rfl, hb⟩
set_option maxHeartbeats 2000000 in
set_option maxRecDepth 100000 in
theorem refuses_main (A : Option Addr) (n c : Nat) (l : List Lem.T3) (h len wh p0 p1 T W LO HI LA E F : Int) (w : World) (hl : Lin w A n c l) (h0 : 0 ≤ h) (h1 : h < 256) (l0 : 0 ≤ len) (l1 : len < 65536) (w0 : 0 ≤ wh) (w1 : wh < 18446744073709551616) (hT : wh % 3000000000000001 = T)
    (hW : h % 64 = W) (q : n ≤ 63) (v : Lem.valid l = true) (i : T + len + 1 ≤ 3000000000000000) (p00 : 0 ≤ p0) (p01 : p0 < 65536) (p10 : 0 ≤ p1) (p11 : p1 < 65536)
    (hLO : arLo T p0 = LO) (hHI : arHi T p1 = HI) (hLA : Lem.last (1 + W) l = LA) (hE : Lem.grE l (1 + W) (1 + len) T T = E) (hF : Lem.grE l (1 + W) (1 + len) LO HI = F)
    (hc : E = 0 ∧ decide (LA ≤ T) = true ∧ F = 0 ∧ decide (LA ≤ LO) = true ∨ E = 0 ∧ decide (LA ≤ T) = true ∧ F = 62 ∧ decide (LO < LA) = true ∨ E = 62 ∧ decide (T < LA) = true ∧ decide (LA ≤ T) = false ∧ F = 62 ∧ decide (LO < LA) = true) :
    Calls Try.prog 6 #[.slice A n c, .int .u8 h, .int .u16 len, .int .u64 wh, P2 p0 p1] w (LawPost w) := by
  have hb := (Below.refl w.heap.size w).alloc (Nat.le_refl _) (oP p0 p1)
  have kb := Lib.hid (heap_new w (oP p0 p1))
  have HL := Lib.hid hl
  have hcap := hl.cap
  have hnc := hl.nc
  clear hl
  have T0 : 0 ≤ T := by omega
  have T1 : T ≤ 3000000000000000 := by omega
  have W0 : 0 ≤ W := by omega
  have W1 : W < 64 := by omega
  have HLA := Lib.hid hLA
  have HE := Lib.hid hE
  have HF := Lib.hid hF
  have Hc := Lib.hid hc
  clear hLA hE hF hc
  go_enter Try.func6, Try.ntmps6
  go_wp2_with fail
  refine (head_any _).mono ?_
  rintro e wN ⟨rfl, hn⟩
  have hb := (by first | exact Below.go hb hn | exact Below.goA hb hn | exact Below.goAA hb hn | exact Below.goD hb hn | exact Below.goAD hb hn : Below w.heap.size w wN)
  have kb := Lib.hid (by first | exact keep' kb.out hn | exact keepA kb.out hn | exact keepAA kb.out hn | exact keepD kb.out hn | exact keepAD kb.out hn)
  clear hn
  obtain ⟨⟨kb0, kb1⟩, -⟩ := blk2 kb.out
  have kbz := lt_of_heap kb.out
  go_wp2_with fail
  refine (moment_any _ _ w0 w1).mono ?_
  rintro e w' ⟨rfl, rfl⟩
  go_wp2_with fail
  refine (rValid_any A n c l _ (HL.out.below hb).ls (by omega)).mono ?_
  rintro e wN ⟨rfl, hn⟩
  have hb := (by first | exact Below.go hb hn | exact Below.goA hb hn | exact Below.goAA hb hn | exact Below.goD hb hn | exact Below.goAD hb hn : Below w.heap.size w wN)
  have kb := Lib.hid (by first | exact keep' kb.out hn | exact keepA kb.out hn | exact keepAA kb.out hn | exact keepD kb.out hn | exact keepAD kb.out hn)
  clear hn
  obtain ⟨⟨kb0, kb1⟩, -⟩ := blk2 kb.out
  have kbz := lt_of_heap kb.out
  go_wp2
  go_loopw [14, 15] (fun m i wr => ∃ k : Nat, k ≤ n ∧ i = .int .i64 k ∧ m = .int .i64 (Lem.last (1 + W) (l.take k)) ∧ Below wN.heap.size wN wr) (fun _ i _ => n - (intOf i).toNat)
  case atStart => exact ⟨0, Nat.zero_le _, rfl, rfl, Below.refl _ _⟩
  case round =>
    obtain ⟨k, hk, rfl, rfl, hbr⟩ := hrel
    by_cases hlt : k < n
    · have HL2 := (HL.out.below hb).below hbr
      obtain ⟨hlen, hcell⟩ := HL2.ls
      have hs := Lib.hid (Lem.last_take (1 + W) hlen hlt)
      obtain ⟨b, off, rfl, hbB, hc⟩ := hcell (by omega)
      obtain ⟨c0, c1, c2⟩ := hc k hlt
      clear hc hcell hlen HL2
      generalize Lem.at' l k = x at *
      obtain ⟨M, hM⟩ : ∃ M, Lem.last (1 + W) (l.take k) = M := ⟨_, rfl⟩
      rw [hM] at hs
      simp only [hM]
      have b0 : (0 : Int) ≤ (k : Int) := by omega
      have b1 : (k : Int) < (n : Int) := by omega
      obtain ⟨N, hN⟩ : ∃ N, (if M < x.2.2 then x.2.2 else M) = N := ⟨_, rfl⟩
      rw [hN] at hs
      clear hM
      by_cases hx : x.1 = 1 + W
      · have hx1 : (x.1 != 1 + W) = false := by simpa using hx
        rw [if_neg (by simpa using hx)] at hs
        clear hx
        go_wp2
        go_roundw
        case rel => exact ⟨k + 1, by omega, by go_num, by rw [hs.out], hbr⟩
        case measure => simp [intOf]; omega
      · have hx1 : (x.1 != 1 + W) = true := by simpa using hx
        rw [if_pos hx] at hs
        clear hx
        go_wp2
        go_roundw
        case rel => exact ⟨k + 1, by omega, by go_num, by rw [hs.out], hbr⟩
        case measure => simp [intOf]; omega
    · obtain rfl : k = n := by omega
      have hlast : Lem.last (1 + W) (l.take k) = LA := by rw [List.take_of_length_le (by rw [HL.out.ls.1]; omega)]; exact HLA.out
      simp only [hlast]
      clear hlast HLA
      have hb := Below.go hb hbr
      have kb := Lib.hid (keep' kb.out hbr)
      obtain ⟨⟨kb0, kb1⟩, -⟩ := blk2 kb.out
      obtain ⟨wM, hwM⟩ : ∃ x, x = wr := ⟨_, rfl⟩
      subst hwM
      have hr := HE.out
      have hs := HF.out
      have hc := Hc.out
      clear HE HF Hc
      have hd : 1 + len ≤ 3000000000000000 := by omega
      go_wp2_with fail
      refine (Grant_any A k c l _ _ _ _ _ (HL.out.below hb) (by omega)).mono ?_
      rintro e wN ⟨vN, rfl, hown, hn⟩
      have hb := (by first | exact Below.go hb hn | exact Below.goA hb hn | exact Below.goAA hb hn | exact Below.goD hb hn | exact Below.goAD hb hn : Below w.heap.size w wN)
      have kb := Lib.hid (by first | exact keep' kb.out hn | exact keepA kb.out hn | exact keepAA kb.out hn | exact keepD kb.out hn | exact keepAD kb.out hn)
      clear hn
      obtain ⟨⟨kb0, kb1⟩, -⟩ := blk2 kb.out
      have kbz := lt_of_heap kb.out
      clear hown
      go_wp2_with fail
      refine (around_any _ _ _ _ T0 T1 p00 p01 p10 p11).mono ?_
      rintro e wN ⟨rfl, hn⟩
      have hb := (by first | exact Below.go hb hn | exact Below.goA hb hn | exact Below.goAA hb hn | exact Below.goD hb hn | exact Below.goAD hb hn : Below w.heap.size w wN)
      have kb := Lib.hid (by first | exact keep' kb.out hn | exact keepA kb.out hn | exact keepAA kb.out hn | exact keepD kb.out hn | exact keepAD kb.out hn)
      clear hn
      obtain ⟨⟨kb0, kb1⟩, -⟩ := blk2 kb.out
      have kbz := lt_of_heap kb.out
      go_wp2_with fail
      refine (Grant_any A k c l _ _ _ _ _ ((HL.out.below hb).alloc _) (by omega)).mono ?_
      rintro e wN ⟨vN, rfl, hown, hn⟩
      have hb := (by first | exact Below.go hb hn | exact Below.goA hb hn | exact Below.goAA hb hn | exact Below.goD hb hn | exact Below.goAD hb hn : Below w.heap.size w wN)
      have kb := Lib.hid (by first | exact keep' kb.out hn | exact keepA kb.out hn | exact keepAA kb.out hn | exact keepD kb.out hn | exact keepAD kb.out hn)
      have ki := Lib.hid (by first | exact keep' (heap_new _ _) hn | exact newAD hn)
      clear hn
      obtain ⟨⟨kb0, kb1⟩, -⟩ := blk2 kb.out
      have kbz := lt_of_heap kb.out
      obtain ⟨⟨ki0, ki1⟩, -⟩ := blk2 ki.out
      have kiz := lt_of_heap ki.out
      clear hown
      rcases hc with ⟨rfl, c1, rfl, c2⟩ | ⟨rfl, c1, rfl, c2⟩ | ⟨rfl, c1, c0, rfl, c2⟩
      all_goals
        go_wp2
        go_ret
        exact ⟨rfl, hb⟩
theorem refuses_law (v : Value) (l : List Lem.T3) (h len wh : Int) (u : Value) (p : Int × Int) (w : World) (hv : IsLeases w v l) (h1 : (Lit.int .u8 h).wf = true) (h2 : (Lit.int .u16 len).wf = true) (h3 : (Lit.int .u64 wh).wf = true) (hu : IsP2 u p) :
    Calls Try.prog 6 #[v, .int .u8 h, .int .u16 len, .int .u64 wh, u] w (LawPost w) := by
  obtain ⟨A, n, c, rfl, hl⟩ := hv
  obtain ⟨p0, p1⟩ := p
  obtain ⟨rfl, x1, x2⟩ := hu
  have hh := bounds_u8 h1
  have hl2 := bounds_u16 h2
  have hw := bounds_u64 h3
  have q0 : 0 ≤ p0 ∧ p0 ≤ 65535 := bounds_u16 x1
  have q1 : 0 ≤ p1 ∧ p1 ≤ 65535 := bounds_u16 x2
  show Calls Try.prog 6 #[.slice A n c, .int .u8 h, .int .u16 len, .int .u64 wh, P2 p0 p1] w (LawPost w)
  obtain ⟨T, hT⟩ : ∃ d, wh % 3000000000000001 = d := ⟨_, rfl⟩
  by_cases q : n ≤ 63
  rotate_left
  · exact refuses_bad A n c l h len wh p0 p1 T w hl (by omega) (by omega) (by omega) (by omega) (by omega) (by omega) hT (.inl (by omega))
  cases hva : Lem.valid l
  · exact refuses_bad A n c l h len wh p0 p1 T w hl (by omega) (by omega) (by omega) (by omega) (by omega) (by omega) hT (.inr (.inl ⟨q, hva⟩))
  by_cases hf : 3000000000000000 < T + len + 1
  · exact refuses_bad A n c l h len wh p0 p1 T w hl (by omega) (by omega) (by omega) (by omega) (by omega) (by omega) hT (.inr (.inr ⟨q, hva, hf⟩))
  obtain ⟨W, hW⟩ : ∃ d, h % 64 = d := ⟨_, rfl⟩
  have hlen : l.length = n := hl.ls.1
  have T0 : 0 ≤ T := by omega
  have T1 : T ≤ 3000000000000000 := by omega
  have ab := ar_bd T0 T1 q0.1 q1.1
  have hk : Lem.hB (1 + W) = true := Lem.hB_yes ⟨by omega, by omega⟩
  have e1 := Lem.grE_room (h := 1 + W) (len := 1 + len) (lo := T) (hi := T) hva hk (by omega) (Lem.iV_yes ⟨by omega, by omega, by omega⟩) (by omega) (by omega)
  have e2 := Lem.grE_room (h := 1 + W) (len := 1 + len) (lo := arLo T p0) (hi := arHi T p1) hva hk (by omega) (Lem.iV_yes ⟨by omega, by omega, by omega⟩) (by omega) (by omega)
  refine refuses_main A n c l h len wh p0 p1 T W _ _ _ _ _ w hl (by omega) (by omega) (by omega) (by omega) (by omega) (by omega) hT hW q hva (by omega) (by omega) (by omega) (by omega) (by omega) rfl rfl rfl e1 e2 ?_
  by_cases c1 : T < Lem.last (1 + W) l
  · rw [if_pos c1, if_pos (by omega)]
    exact .inr (.inr ⟨rfl, decide_eq_true c1, decide_eq_false (by omega), rfl, decide_eq_true (by omega)⟩)
  · rw [if_neg c1]
    by_cases c2 : arLo T p0 < Lem.last (1 + W) l
    · rw [if_pos c2]
      exact .inr (.inl ⟨rfl, decide_eq_true (by omega), rfl, decide_eq_true c2⟩)
    · rw [if_neg c2]
      exact .inl ⟨rfl, decide_eq_true (by omega), rfl, decide_eq_true (by omega)⟩
end Go.Proofs.Ytfaceopjblpkeaa
