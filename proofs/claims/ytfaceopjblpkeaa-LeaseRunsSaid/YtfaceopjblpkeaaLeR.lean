/- Arguments that are lists of four numbers, opened; the walk of the law LeaseRuns. -/
import Derived.Test.YtfaceopjblpkeaaLeQ
set_option linter.unusedVariables false
namespace Go.Proofs.Ytfaceopjblpkeaa
open Go.RowKit Go.ChangeShapes Go.WideShapes Go.Deep
abbrev T4 := Int × Int × Int × Int
def at4 (l : List T4) (k : Nat) : T4 := l[k]?.getD (0, 0, 0, 0)
def U16 (x : Int) : Prop := 0 ≤ x ∧ x < 65536
def In4 (x : T4) : Prop := U16 x.1 ∧ U16 x.2.1 ∧ U16 x.2.2.1 ∧ U16 x.2.2.2
/-- asks that lie in a world -/
structure Asks (W : World) (A : Option Addr) (n c : Nat) (l : List T4) : Prop where
  len : l.length = n
  nc : n ≤ c
  cap : c ≤ 9223372036854775807
  bd : ∀ j, j < n → In4 (at4 l j)
  cells : 0 < n → ∃ b off, A = some ⟨b, off, none⟩ ∧ b < W.heap.size ∧ ∀ j, j < n → W.cell? ⟨b, off + j * 4, none⟩ = some (.int .u16 (at4 l j).1) ∧ W.cell? ⟨b, off + j * 4 + 1, none⟩ = some (.int .u16 (at4 l j).2.1) ∧ W.cell? ⟨b, off + j * 4 + 2, none⟩ = some (.int .u16 (at4 l j).2.2.1) ∧ W.cell? ⟨b, off + j * 4 + 3, none⟩ = some (.int .u16 (at4 l j).2.2.2)
theorem Asks.below {W W' : World} {A : Option Addr} {n c : Nat} {l : List T4} (h : Asks W A n c l) (hb : Below W.heap.size W W') : Asks W' A n c l :=
  ⟨h.len, h.nc, h.cap, h.bd, fun hn => by
    obtain ⟨b, off, e, hB, hc⟩ := h.cells hn
    exact ⟨b, off, e, Nat.lt_of_lt_of_le hB hb.size, fun j hj => ⟨(hb.cell (p := ⟨b, off + j * 4, none⟩) hB).trans (hc j hj).1, (hb.cell (p := ⟨b, off + j * 4 + 1, none⟩) hB).trans (hc j hj).2.1, (hb.cell (p := ⟨b, off + j * 4 + 2, none⟩) hB).trans (hc j hj).2.2.1, (hb.cell (p := ⟨b, off + j * 4 + 3, none⟩) hB).trans (hc j hj).2.2.2⟩⟩⟩
def IsAsks (W : World) (v : Value) (l : List T4) : Prop := ∃ A n c, v = .slice A n c ∧ Asks W A n c l
theorem cells4 : Try.prog.cellsOf 50 = 4 := by kernel_rfl
theorem cellsU : Try.prog.cellsOf 37 = 1 := by kernel_rfl
theorem u16_of {x : Int} (h : (Lit.int .u16 x).wf = true) : U16 x := by have := bounds_u16 h; exact ⟨this.1, by omega⟩
theorem open_asks {H : Type} {enc : TypeId × Value → H} {W : World} {base b0 : Nat} {r : Reach} {sp : Nat → Bool} {hd : Bool} {v : Value} {d : DataW H} {p : List MemPlace}
    (hv : Value.okWide Try.prog W r b0 48 v) (h : DataW.Trod enc Try.prog W base sp hd 48 v d p) : ∃ l, IsAsks W v l := by
  obtain ⟨A, n, c, rfl⟩ := okWide_slice Try.underlying48 hv
  obtain ⟨fuel, hf⟩ := h
  rcases open_slice Try.underlying48 hf with ⟨hcs, _⟩ | ⟨a, len, cap, m, f', D, Pl, hcs, _, hl, hm, hmm, _, hc⟩
  · simp [Value.cells] at hcs
    obtain ⟨rfl, rfl, rfl⟩ := hcs
    exact ⟨[], none, 0, 0, rfl, ⟨rfl, by omega, by omega, fun j hj => absurd hj (by omega), fun h => absurd h (by omega)⟩⟩
  · simp [Value.cells] at hcs
    obtain ⟨rfl, rfl, rfl⟩ := hcs
    have hnm : n ≤ m := by rw [hmm]; split <;> omega
    have hex : ∀ i, i < n → ∃ x : T4, In4 x ∧ W.cell? (a.add (i * 4)) = some (.int .u16 x.1) ∧ W.cell? (a.add (i * 4 + 1)) = some (.int .u16 x.2.1) ∧ W.cell? (a.add (i * 4 + 2)) = some (.int .u16 x.2.2.1) ∧ W.cell? (a.add (i * 4 + 3)) = some (.int .u16 x.2.2.2) := fun i hi => by
      obtain ⟨cs', hcc, ht'⟩ := hc i (by omega)
      rw [cells4] at hcc
      obtain ⟨xs, m', _, _, hlen, hxl, hel⟩ := DataW.trod_array Try.underlying50 ht'
      obtain ⟨_, hcl, hat⟩ := World.cells?_some hcc
      rw [cells4] at hlen
      have one : ∀ j, j < 4 → ∃ z, W.cell? (a.add (i * 4 + j)) = some (.int .u16 z) ∧ U16 z := fun j hj => by
        have h1 := hel j hj
        rw [cellsU, Nat.mul_one] at h1
        have hone' : (cs'.drop j).take 1 = [cs'[j]'(by omega)] := by
          rw [List.drop_eq_getElem_cons (by omega)]
          rfl
        rw [hone', List.getElem?_eq_getElem (by omega)] at h1
        obtain ⟨z, e0, _, f0⟩ := DataW.trod_int Try.underlying37 h1
        simp at e0
        refine ⟨z, ?_, u16_of f0⟩
        rw [← Go.Deep.add_add, hat j hj, List.getElem?_eq_getElem (by omega), e0]
      obtain ⟨z0, e0, f0⟩ := one 0 (by omega)
      obtain ⟨z1, e1, f1⟩ := one 1 (by omega)
      obtain ⟨z2, e2, f2⟩ := one 2 (by omega)
      obtain ⟨z3, e3, f3⟩ := one 3 (by omega)
      exact ⟨(z0, z1, z2, z3), ⟨f0, f1, f2, f3⟩, e0, e1, e2, e3⟩
    have hch : ∃ f : Nat → T4, ∀ i, i < n → In4 (f i) ∧ W.cell? (a.add (i * 4)) = some (.int .u16 (f i).1) ∧ W.cell? (a.add (i * 4 + 1)) = some (.int .u16 (f i).2.1) ∧ W.cell? (a.add (i * 4 + 2)) = some (.int .u16 (f i).2.2.1) ∧ W.cell? (a.add (i * 4 + 3)) = some (.int .u16 (f i).2.2.2) :=
      ⟨fun i => if hi : i < n then Classical.choose (hex i hi) else (0, 0, 0, 0), fun i hi => by simp only [dif_pos hi]; exact Classical.choose_spec (hex i hi)⟩
    obtain ⟨f, hfc⟩ := hch
    have ea : ∀ j, j < n → at4 ((List.range n).map f) j = f j := fun j hj => by unfold at4; simp [hj]
    refine ⟨(List.range n).map f, some a, n, c, rfl, ⟨by simp, hl, by unfold maxLen at hm; omega, fun j hj => by rw [ea j hj]; exact (hfc j hj).1, fun hn => ?_⟩⟩
    have h0 := (hfc 0 hn).2.1
    obtain ⟨b, off, sp⟩ := a
    have hsp : sp = none := by simpa [Addr.add] using World.cell?_spot h0
    subst hsp
    refine ⟨b, off, rfl, by simpa [Addr.add] using World.block_lt_of_cell? W _ h0, fun j hj => ?_⟩
    rw [ea j hj]
    have ad : ∀ k, (⟨b, off, none⟩ : Addr).add k = ⟨b, off + k, none⟩ := fun k => by unfold Addr.add; split <;> simp_all
    have := (hfc j hj).2
    rw [ad, ad, ad, ad] at this
    exact ⟨this.1, by rw [Nat.add_assoc]; exact this.2.1, by rw [Nat.add_assoc]; exact this.2.2.1, by rw [Nat.add_assoc]; exact this.2.2.2⟩
/-- what a request leads to -/
theorem ask_ways {L : List Lem.T3} {h len lo hi : Int} (v : Lem.valid L = true) (hh : Lem.hB h = true) (l1 : 1 ≤ len) (i : Lem.iV lo hi = true) (r : lo + len ≤ 3000000000000000) (q : L.length ≤ 63) :
    Lem.grE L h len lo hi = 0 ∧ Lem.valid (Lem.grL L h len lo hi) = true ∧ (Lem.grL L h len lo hi).length = L.length + 1 ∨ Lem.grE L h len lo hi = 62 ∧ Lem.grL L h len lo hi = [] := by
  have e := Lem.grE_room v hh l1 i r q
  by_cases c : lo < Lem.last h L
  · rw [if_pos c] at e
    exact .inr ⟨e, by unfold Lem.grL; rw [e]; rfl⟩
  · rw [if_neg c] at e
    have hs := Lem.valid_snoc e
    have hg : Lem.grL L h len lo hi = L ++ [(h, lo, lo + len)] := by unfold Lem.grL; rw [if_pos e]
    exact .inl ⟨e, by rw [hg]; exact hs.1, by rw [hg]; simp⟩
set_option maxHeartbeats 2000000 in
set_option maxRecDepth 100000 in
theorem runs_long (A : Option Addr) (n c : Nat) (l : List T4) (wh o1 o2 a0 a1 b0 b1 : Int) (w : World) (hl : Asks w A n c l) (q : 12 < n) :
    Calls Try.prog 9 #[.slice A n c, .int .u32 wh, .int .u8 o1, .int .u8 o2, P2 a0 a1, P2 b0 b1] w (LawPost w) := by
  have hb := two_box w (oP a0 a1) (oP b0 b1)
  have kb := Lib.hid (new0 w (oP a0 a1) (oP b0 b1))
  have kc := Lib.hid (new1 w (oP a0 a1) (oP b0 b1))
  have hcap := hl.cap
  have hnc := hl.nc
  clear hl
  go_enter Try.func9, Try.ntmps9
  go_wp2_with fail
  refine (head_any _).mono ?_
  rintro e wN ⟨rfl, hn⟩
  have hb := (by first | exact Below.go hb hn | exact Below.goA hb hn | exact Below.goAA hb hn | exact Below.goD hb hn | exact Below.goAD hb hn : Below w.heap.size w wN)
  have kb := Lib.hid (by first | exact keep' kb.out hn | exact keepA kb.out hn | exact keepAA kb.out hn | exact keepD kb.out hn | exact keepAD kb.out hn)
  have kc := Lib.hid (by first | exact keep' kc.out hn | exact keepA kc.out hn | exact keepAA kc.out hn | exact keepD kc.out hn | exact keepAD kc.out hn)
  clear hn
  obtain ⟨⟨kb0, kb1⟩, -⟩ := blk2 kb.out
  have kbz := lt_of_heap kb.out
  obtain ⟨⟨kc0, kc1⟩, -⟩ := blk2 kc.out
  have kcz := lt_of_heap kc.out
  go_wp2
  go_ret
  exact ⟨rfl, hb⟩
set_option maxHeartbeats 2000000 in
set_option maxRecDepth 100000 in
theorem runs_main (A : Option Addr) (n c : Nat) (l : List T4) (wh o1 o2 a0 a1 b0 b1 W V I J : Int) (w : World) (hl : Asks w A n c l) (q : n ≤ 12)
    (x0 : 0 ≤ o1) (x1 : o1 < 256) (y0 : 0 ≤ o2) (y1 : o2 < 256) (w0 : 0 ≤ wh) (w1 : wh < 4294967296) (hW : o1 % 5 = W) (hV : o2 % 5 = V) (hI : 1 + W = I) (hJ : 1 + V = J)
    (p00 : 0 ≤ a0) (p01 : a0 < 65536) (p10 : 0 ≤ a1) (p11 : a1 < 65536) (q00 : 0 ≤ b0) (q01 : b0 < 65536) (q10 : 0 ≤ b1) (q11 : b1 < 65536) :
    Calls Try.prog 9 #[.slice A n c, .int .u32 wh, .int .u8 o1, .int .u8 o2, P2 a0 a1, P2 b0 b1] w (LawPost w) := by
  have hb := two_box w (oP a0 a1) (oP b0 b1)
  have kb := Lib.hid (new0 w (oP a0 a1) (oP b0 b1))
  have kc := Lib.hid (new1 w (oP a0 a1) (oP b0 b1))
  have HL := Lib.hid hl
  have hcap := hl.cap
  have hnc := hl.nc
  clear hl
  have W0 : 0 ≤ W := by omega
  have W1 : W < 5 := by omega
  have V0 : 0 ≤ V := by omega
  have V1 : V < 5 := by omega
  go_enter Try.func9, Try.ntmps9
  go_wp2_with fail
  refine (head_any _).mono ?_
  rintro e wN ⟨rfl, hn⟩
  have hb := (by first | exact Below.go hb hn | exact Below.goA hb hn | exact Below.goAA hb hn | exact Below.goD hb hn | exact Below.goAD hb hn : Below w.heap.size w wN)
  have kb := Lib.hid (by first | exact keep' kb.out hn | exact keepA kb.out hn | exact keepAA kb.out hn | exact keepD kb.out hn | exact keepAD kb.out hn)
  have kc := Lib.hid (by first | exact keep' kc.out hn | exact keepA kc.out hn | exact keepAA kc.out hn | exact keepD kc.out hn | exact keepAD kc.out hn)
  clear hn
  obtain ⟨⟨kb0, kb1⟩, -⟩ := blk2 kb.out
  have kbz := lt_of_heap kb.out
  obtain ⟨⟨kc0, kc1⟩, -⟩ := blk2 kc.out
  have kcz := lt_of_heap kc.out
  go_wp2
  go_loopw [14, 15, 16] (fun v t i wr => ∃ (k m cc : Nat) (AA : Option Addr) (L : List Lem.T3) (T : Int), k ≤ n ∧ i = .int .i64 k ∧ v = .slice AA m cc ∧ t = .int .i64 T ∧ Lin wr AA m cc L ∧ Hid (Lem.valid L = true) ∧ m ≤ k ∧ 0 ≤ T ∧ T ≤ k * 65535 ∧ Below wN.heap.size wN wr) (fun _ _ i _ => n - (intOf i).toNat)
  case atStart => exact ⟨0, 0, 0, none, [], 0, Nat.zero_le _, rfl, rfl, rfl, Lin.none _, Lib.hid (by decide), by omega, by omega, by omega, Below.refl _ _⟩
  case round =>
    obtain ⟨k, m, cc, AA, L, T, hk, rfl, rfl, rfl, hL, hva, hmk, T0, T1, hbr⟩ := hrel
    have hbw := Below.go hb hbr
    have HLL := Lib.hid hL
    have mcap := hL.cap
    have mnc := hL.nc
    have Hml := Lib.hid hL.ls.1
    clear hL
    by_cases hlt : k < n
    · have hAs := HL.out.below hbw
      obtain ⟨b, off, rfl, hbB, hc⟩ := hAs.cells (by omega)
      have hin := hAs.bd k hlt
      have hS : Hid (∀ W', Below wr.heap.size wr W' → W'.cell? ⟨b, off + k * 4, none⟩ = some (.int .u16 (at4 l k).1) ∧ W'.cell? ⟨b, off + k * 4 + 1, none⟩ = some (.int .u16 (at4 l k).2.1) ∧ W'.cell? ⟨b, off + k * 4 + 2, none⟩ = some (.int .u16 (at4 l k).2.2.1) ∧ W'.cell? ⟨b, off + k * 4 + 3, none⟩ = some (.int .u16 (at4 l k).2.2.2)) :=
        Lib.hid (fun W' h' => ⟨(h'.cell (p := ⟨b, off + k * 4, none⟩) hbB).trans (hc k hlt).1, (h'.cell (p := ⟨b, off + k * 4 + 1, none⟩) hbB).trans (hc k hlt).2.1, (h'.cell (p := ⟨b, off + k * 4 + 2, none⟩) hbB).trans (hc k hlt).2.2.1, (h'.cell (p := ⟨b, off + k * 4 + 3, none⟩) hbB).trans (hc k hlt).2.2.2⟩)
      clear hc hAs
      generalize at4 l k = x at *
      obtain ⟨x0', x1', x2', x3'⟩ := x
      obtain ⟨⟨f0, g0⟩, ⟨f1, g1⟩, ⟨f2, g2⟩, ⟨f3, g3⟩⟩ := hin
      simp only at hS f0 g0 f1 g1 f2 g2 f3 g3
      obtain ⟨c0, c1, c2, c3⟩ := hS.out wr (Below.refl _ _)
      have z0 : (0 : Int) ≤ (k : Int) := by omega
      have z1 : (k : Int) < (n : Int) := by omega
      obtain ⟨U, hU⟩ : ∃ U, T + x0' = U := ⟨_, rfl⟩
      obtain ⟨Hh, hH⟩ : ∃ Hh, x1' % 5 = Hh := ⟨_, rfl⟩
      have U0 : 0 ≤ U := by omega
      have U1 : U ≤ 786420 := by omega
      have U3 : U ≤ (k + 1 : Nat) * 65535 := by push_cast; omega
      have U2 : U ≤ 3000000000000000 := by omega
      have H0 : 0 ≤ Hh := by omega
      have H1 : Hh < 5 := by omega
      have ab := ar_bd U0 U2 f3 f3
      obtain ⟨LO, hLO⟩ : ∃ LO, arLo U x3' = LO := ⟨_, rfl⟩
      obtain ⟨HI, hHI⟩ : ∃ HI, arHi U x3' = HI := ⟨_, rfl⟩
      rw [hLO, hHI] at ab
      have hw := ask_ways (h := 1 + Hh) (len := 1 + x2') (lo := LO) (hi := HI) hva.out (Lem.hB_yes ⟨by omega, by omega⟩) (by omega) (Lem.iV_yes ⟨by omega, by omega, by omega⟩) (by omega) (by rw [Hml.out]; omega)
      obtain ⟨I', hI'⟩ : ∃ I', 1 + Hh = I' := ⟨_, rfl⟩
      obtain ⟨N', hN'⟩ : ∃ N', 1 + x2' = N' := ⟨_, rfl⟩
      rw [hI', hN'] at hw
      have wr1 : IntKind.i64.wrap (1 + Hh) = I' := by rw [← hI']; simp [IntKind.wrap, IntKind.min, IntKind.max, IntKind.signed, IntKind.bits]; omega
      have wr2 : IntKind.i64.wrap (1 + x2') = N' := by rw [← hN']; simp [IntKind.wrap, IntKind.min, IntKind.max, IntKind.signed, IntKind.bits]; omega
      have Hw := Lib.hid hw
      clear hw ab
      go_wp2
      go_region_held3 (fun W' => W'.cell? ⟨b, off + k * 4, none⟩ = some (.int .u16 x0') ∧ W'.cell? ⟨b, off + k * 4 + 1, none⟩ = some (.int .u16 x1') ∧ W'.cell? ⟨b, off + k * 4 + 2, none⟩ = some (.int .u16 x2') ∧ W'.cell? ⟨b, off + k * 4 + 3, none⟩ = some (.int .u16 x3'))
        (first | exact hS.out _ hwg | exact hS.out _ hwc | exact hS.out _ (Below.refl _ _).drew | exact hS.out _ (Below.refl _ _))
        (first
          | (go_at_call 23; refine (around_any _ _ _ _ U0 U2 f3 g3 f3 g3).mono ?_; rintro e wC ⟨rfl, hbC⟩; have hwc := Below.go (Below.refl _ wr).drew hbC)
          | (go_at_call 11; refine (Grant_any AA m cc L _ _ _ _ _ (HLL.out.below hwc) (by omega)).mono ?_; rintro e wG ⟨vG, rfl, hown, hbG⟩; have hwg := Below.go hwc hbG))
      have E1 : IntKind.i64.wrap (1 + (IntKind.i64.wrap x1').tmod 5) = I' := by
        have e : IntKind.i64.wrap x1' = x1' := by simp [IntKind.wrap, IntKind.min, IntKind.max, IntKind.signed, IntKind.bits]; omega
        rw [e, Int.tmod_eq_emod_of_nonneg f1, hH, wr1]
      have E2 : IntKind.i64.wrap (1 + IntKind.i64.wrap x2') = N' := by
        have e : IntKind.i64.wrap x2' = x2' := by simp [IntKind.wrap, IntKind.min, IntKind.max, IntKind.signed, IntKind.bits]; omega
        rw [e, wr2]
      simp only [E1, E2] at hown ⊢
      clear E1 E2 wr1 wr2 c0 c1 c2 c3 hbC hbG
      have hbn := Below.go hbr hwg
      rcases Hw.out with ⟨e1, e2, e3⟩ | ⟨e1, e2⟩
      · obtain ⟨A', c', rfl, hG⟩ := hown.lin1 (m := m + 1) (by rw [e3, Hml.out])
        have HG := Lib.hid hG
        have HV := Lib.hid e2
        clear hown hG e2 e3 Hw hS
        go_wp2
        go_roundw
        case rel => exact ⟨k + 1, m + 1, c', A', _, U, by omega, by go_num, rfl, rfl, HG.out, HV, by omega, U0, U3, hbn⟩
        case measure => simp [intOf]; omega
      · rw [e2] at hown
        obtain ⟨A', c', rfl, -⟩ := hown.lin1 (m := 0) rfl
        have HG := Lib.hid (HLL.out.below hwg)
        clear hown e2 Hw hS
        go_wp2
        go_roundw
        case rel => exact ⟨k + 1, m, cc, AA, L, U, by omega, by go_num, rfl, rfl, HG.out, hva, by omega, U0, U3, hbn⟩
        case measure => simp [intOf]; omega
    · obtain rfl : k = n := by omega
      obtain ⟨S, hS⟩ : ∃ S, wh % (T + 70000) = S := ⟨_, rfl⟩
      have S0 : 0 ≤ S := by rw [← hS]; exact Int.emod_nonneg _ (by omega)
      have S2 : S < T + 70000 := by rw [← hS]; exact Int.emod_lt_of_pos _ (by omega)
      have S1 : S ≤ 3000000000000000 := by omega
      have Dp : 0 < T + 70000 := by omega
      have Dn : (T + 70000 == 0) = false := by simp; omega
      have Dm : wh.tmod (T + 70000) = S := by rw [Int.tmod_eq_emod_of_nonneg w0, hS]
      have ab := ar_bd S0 S1 p00 p10
      have ac := ar_bd S0 S1 q00 q10
      obtain ⟨LO, e1⟩ : ∃ LO, arLo S a0 = LO := ⟨_, rfl⟩
      obtain ⟨HI, e2⟩ : ∃ HI, arHi S a1 = HI := ⟨_, rfl⟩
      obtain ⟨LP, e3⟩ : ∃ LP, arLo S b0 = LP := ⟨_, rfl⟩
      obtain ⟨HP, e4⟩ : ∃ HP, arHi S b1 = HP := ⟨_, rfl⟩
      rw [e1, e2] at ab
      rw [e3, e4] at ac
      have s1 := seB_yes (h := I) (lo := LO) (hi := HI) hva.out (Lem.hB_yes ⟨by omega, by omega⟩) (Lem.iV_yes ⟨by omega, by omega, by omega⟩)
      have s2 := seB_yes (h := J) (lo := LP) (hi := HP) hva.out (Lem.hB_yes ⟨by omega, by omega⟩) (Lem.iV_yes ⟨by omega, by omega, by omega⟩)
      have hk2 : (W == V) = true ∨ (W == V) = false ∧ Lem.seV L I LO HI = false ∨ (W == V) = false ∧ Lem.seV L I LO HI = true ∧ Lem.seV L J LP HP = false := by
        rw [s1.2, s2.2]
        by_cases hkk : W = V
        · exact .inl (by simpa using hkk)
        · right
          cases hX : L.any (Lem.lets I LO HI)
          · exact .inl ⟨by simpa using hkk, rfl⟩
          · refine .inr ⟨by simpa using hkk, rfl, ?_⟩
            cases hY : L.any (Lem.lets J LP HP)
            · rfl
            · have := lets_two hva.out (lets_time ab.2.1 ab.2.2.1 hX) (lets_time ac.2.1 ac.2.2.1 hY)
              omega
      have t1 := s1.1
      have t2 := s2.1
      have tv := hva.out
      have Hk2 := Lib.hid hk2
      obtain ⟨X, hX⟩ : ∃ X, Lem.seV L I LO HI = X := ⟨_, rfl⟩
      obtain ⟨Y, hY⟩ : ∃ Y, Lem.seV L J LP HP = Y := ⟨_, rfl⟩
      rw [hX, hY] at Hk2
      clear s1 s2 hk2 ab ac
      have kb := Lib.hid (keep' kb.out hbr)
      have kc := Lib.hid (keep' kc.out hbr)
      have hb := hbw
      obtain ⟨⟨kb0, kb1⟩, -⟩ := blk2 kb.out
      obtain ⟨⟨kc0, kc1⟩, -⟩ := blk2 kc.out
      clear hbw hbr
      obtain ⟨w3, rfl⟩ : ∃ x, x = wr := ⟨_, rfl⟩
      have hbm := Below.refl w3.heap.size w3
      go_wp2_with fail
      refine (around_any _ _ _ _ S0 S1 p00 p01 p10 p11).mono ?_
      rintro e wN ⟨rfl, hn⟩
      have hb := (by first | exact Below.go hb hn | exact Below.goA hb hn | exact Below.goAA hb hn | exact Below.goD hb hn | exact Below.goAD hb hn : Below w.heap.size w wN)
      have kb := Lib.hid (by first | exact keep' kb.out hn | exact keepA kb.out hn | exact keepAA kb.out hn | exact keepD kb.out hn | exact keepAD kb.out hn)
      have kc := Lib.hid (by first | exact keep' kc.out hn | exact keepA kc.out hn | exact keepAA kc.out hn | exact keepD kc.out hn | exact keepAD kc.out hn)
      have hbm := (by first | exact Below.go hbm hn | exact Below.goA hbm hn | exact Below.goAA hbm hn : Below w3.heap.size w3 wN)
      clear hn
      obtain ⟨⟨kb0, kb1⟩, -⟩ := blk2 kb.out
      have kbz := lt_of_heap kb.out
      obtain ⟨⟨kc0, kc1⟩, -⟩ := blk2 kc.out
      have kcz := lt_of_heap kc.out
      go_wp2_with fail
      refine (Serves_any AA m cc L _ _ _ _ (HLL.out.below hbm) (by omega)).mono ?_
      rintro e wN ⟨rfl, hn⟩
      have hb := (by first | exact Below.go hb hn | exact Below.goA hb hn | exact Below.goAA hb hn | exact Below.goD hb hn | exact Below.goAD hb hn : Below w.heap.size w wN)
      have kb := Lib.hid (by first | exact keep' kb.out hn | exact keepA kb.out hn | exact keepAA kb.out hn | exact keepD kb.out hn | exact keepAD kb.out hn)
      have kc := Lib.hid (by first | exact keep' kc.out hn | exact keepA kc.out hn | exact keepAA kc.out hn | exact keepD kc.out hn | exact keepAD kc.out hn)
      have hbm := (by first | exact Below.go hbm hn | exact Below.goA hbm hn | exact Below.goAA hbm hn : Below w3.heap.size w3 wN)
      clear hn
      obtain ⟨⟨kb0, kb1⟩, -⟩ := blk2 kb.out
      have kbz := lt_of_heap kb.out
      obtain ⟨⟨kc0, kc1⟩, -⟩ := blk2 kc.out
      have kcz := lt_of_heap kc.out
      go_wp2_with fail
      refine (around_any _ _ _ _ S0 S1 q00 q01 q10 q11).mono ?_
      rintro e wN ⟨rfl, hn⟩
      have hb := (by first | exact Below.go hb hn | exact Below.goA hb hn | exact Below.goAA hb hn | exact Below.goD hb hn | exact Below.goAD hb hn : Below w.heap.size w wN)
      have kb := Lib.hid (by first | exact keep' kb.out hn | exact keepA kb.out hn | exact keepAA kb.out hn | exact keepD kb.out hn | exact keepAD kb.out hn)
      have kc := Lib.hid (by first | exact keep' kc.out hn | exact keepA kc.out hn | exact keepAA kc.out hn | exact keepD kc.out hn | exact keepAD kc.out hn)
      have hbm := (by first | exact Below.go hbm hn | exact Below.goA hbm hn | exact Below.goAA hbm hn : Below w3.heap.size w3 wN)
      clear hn
      obtain ⟨⟨kb0, kb1⟩, -⟩ := blk2 kb.out
      have kbz := lt_of_heap kb.out
      obtain ⟨⟨kc0, kc1⟩, -⟩ := blk2 kc.out
      have kcz := lt_of_heap kc.out
      go_wp2_with fail
      refine (Serves_any AA m cc L _ _ _ _ (HLL.out.below hbm) (by omega)).mono ?_
      rintro e wN ⟨rfl, hn⟩
      have hb := (by first | exact Below.go hb hn | exact Below.goA hb hn | exact Below.goAA hb hn | exact Below.goD hb hn | exact Below.goAD hb hn : Below w.heap.size w wN)
      have kb := Lib.hid (by first | exact keep' kb.out hn | exact keepA kb.out hn | exact keepAA kb.out hn | exact keepD kb.out hn | exact keepAD kb.out hn)
      have kc := Lib.hid (by first | exact keep' kc.out hn | exact keepA kc.out hn | exact keepAA kc.out hn | exact keepD kc.out hn | exact keepAD kc.out hn)
      have hbm := (by first | exact Below.go hbm hn | exact Below.goA hbm hn | exact Below.goAA hbm hn : Below w3.heap.size w3 wN)
      clear hn
      obtain ⟨⟨kb0, kb1⟩, -⟩ := blk2 kb.out
      have kbz := lt_of_heap kb.out
      obtain ⟨⟨kc0, kc1⟩, -⟩ := blk2 kc.out
      have kcz := lt_of_heap kc.out
      go_wp2_with fail
      refine (Valid_any AA m cc L _ (HLL.out.below hbm).ls (by omega) (HLL.out.below hbm).nc (HLL.out.below hbm).cap).mono ?_
      rintro e wN ⟨rfl, hn⟩
      have hb := (by first | exact Below.go hb hn | exact Below.goA hb hn | exact Below.goAA hb hn | exact Below.goD hb hn | exact Below.goAD hb hn : Below w.heap.size w wN)
      have kb := Lib.hid (by first | exact keep' kb.out hn | exact keepA kb.out hn | exact keepAA kb.out hn | exact keepD kb.out hn | exact keepAD kb.out hn)
      have kc := Lib.hid (by first | exact keep' kc.out hn | exact keepA kc.out hn | exact keepAA kc.out hn | exact keepD kc.out hn | exact keepAD kc.out hn)
      have hbm := (by first | exact Below.go hbm hn | exact Below.goA hbm hn | exact Below.goAA hbm hn : Below w3.heap.size w3 wN)
      clear hn
      obtain ⟨⟨kb0, kb1⟩, -⟩ := blk2 kb.out
      have kbz := lt_of_heap kb.out
      obtain ⟨⟨kc0, kc1⟩, -⟩ := blk2 kc.out
      have kcz := lt_of_heap kc.out
      rcases Hk2.out with k1 | ⟨k1, rfl⟩ | ⟨k1, rfl, rfl⟩
      · cases X
        all_goals
          clear Hk2
          go_wp2
          go_ret
          exact ⟨rfl, hb⟩
      · clear Hk2
        go_wp2
        go_ret
        exact ⟨rfl, hb⟩
      · clear Hk2
        go_wp2
        go_ret
        exact ⟨rfl, hb⟩
theorem runs_law (v : Value) (l : List T4) (wh o1 o2 : Int) (u : Value) (a : Int × Int) (u' : Value) (b : Int × Int) (w : World) (hv : IsAsks w v l) (h3 : (Lit.int .u32 wh).wf = true) (h1 : (Lit.int .u8 o1).wf = true) (h2 : (Lit.int .u8 o2).wf = true) (hu : IsP2 u a) (hu' : IsP2 u' b) :
    Calls Try.prog 9 #[v, .int .u32 wh, .int .u8 o1, .int .u8 o2, u, u'] w (LawPost w) := by
  obtain ⟨A, n, c, rfl, hl⟩ := hv
  obtain ⟨a0, a1⟩ := a
  obtain ⟨b0, b1⟩ := b
  obtain ⟨rfl, x1, x2⟩ := hu
  obtain ⟨rfl, x3, x4⟩ := hu'
  have hh := bounds_u8 h1
  have hh2 := bounds_u8 h2
  have hw := bounds_u32 h3
  have q0 : 0 ≤ a0 ∧ a0 ≤ 65535 := bounds_u16 x1
  have q1 : 0 ≤ a1 ∧ a1 ≤ 65535 := bounds_u16 x2
  have q2 : 0 ≤ b0 ∧ b0 ≤ 65535 := bounds_u16 x3
  have q3 : 0 ≤ b1 ∧ b1 ≤ 65535 := bounds_u16 x4
  show Calls Try.prog 9 #[.slice A n c, .int .u32 wh, .int .u8 o1, .int .u8 o2, P2 a0 a1, P2 b0 b1] w (LawPost w)
  by_cases q : n ≤ 12
  rotate_left
  · exact runs_long A n c l wh o1 o2 a0 a1 b0 b1 w hl (by omega)
  exact runs_main A n c l wh o1 o2 a0 a1 b0 b1 _ _ _ _ w hl q (by omega) (by omega) (by omega) (by omega) (by omega) (by omega) rfl rfl rfl rfl (by omega) (by omega) (by omega) (by omega) (by omega) (by omega) (by omega) (by omega)
end Go.Proofs.Ytfaceopjblpkeaa
