/- The reference's on; and Same, of two lists of fires. -/
import Derived.Test.YtmicbniipbcapaaDoorReJ
set_option linter.unusedVariables false
namespace Go.Proofs.YtmicbniipbcapaaDoor
open Go.RowKit
theorem take_yes {T : List Int} {i k : Nat} {b : Bool} (hk : T.length = k) (hi : i < k) (h : i = 0 ∨ b = true) : (if b then T else T.take 1).take (i + 1) = (if b then T else T.take 1).take i ++ [T[i]?.getD 0] := by
  have e : T.take (i + 1) = T.take i ++ [T[i]?.getD 0] := by rw [List.take_succ_eq_append_getElem (by omega)]; simp [show i < T.length by omega]
  cases b
  · obtain rfl : i = 0 := by simpa using h
    simpa [List.take_take] using e
  · simpa using e
theorem take_no {T : List Int} {i : Nat} (h : 1 ≤ i) : (T.take 1).take (i + 1) = (T.take 1).take i := by
  rw [List.take_take, List.take_take, Nat.min_eq_right (by omega), Nat.min_eq_right (by omega)]
theorem cellsL_map (d : Int) (l : List Int) : cellsL (l.map fun t => (d, t)) = l.flatMap fun t => [.int .i64 d, .int .i64 t] := by simp [cellsL, List.flatMap_map]
set_option maxHeartbeats 2000000 in
set_option maxRecDepth 100000 in
theorem on_any (A : Option Addr) (n c : Nat) (l : Lpm.LL) (r : Rec) (d : Int) (w : World) (hl : Lp w.heap.size w A n l) (hv : Lpm.valid l = true) (h0 : 0 ≤ d) (h1 : d ≤ 34000) (hs : 0 ≤ r.sec ∧ r.sec ≤ 86399) :
    Calls Tryd.prog 35 #[.slice A n c, (.agg #[.int .i64 r.kind, .int .i64 r.every, .int .i64 r.wd, .int .i64 r.nth, .int .i64 r.frm, .int .i64 r.unt, .int .i64 r.sec, .bool r.shift, .bool r.both]), .int .i64 d] w (LpPost (Rc.fonP l r d) w) := by
  have HF := Lib.hid (refFind_any A n c l d r.sec (w.alloc (.cells #[.int .i64 r.kind, .int .i64 r.every, .int .i64 r.wd, .int .i64 r.nth, .int .i64 r.frm, .int .i64 r.unt, .int .i64 r.sec, .bool r.shift, .bool r.both] 24)) (hl.go (Below.goN (Below.refl _ _) _)) hv h0 h1 hs.1 hs.2)
  have hn : n ≤ 110 := by have := Lpm.valid_len hv; have := hl.1; omega
  have HL : Hid (∀ W, Below w.heap.size w W → Lp W.heap.size W A n l) := Lib.hid fun W hW => hl.go hW
  have kx := Lib.hid (heap_new w (.cells #[.int .i64 r.kind, .int .i64 r.every, .int .i64 r.wd, .int .i64 r.nth, .int .i64 r.frm, .int .i64 r.unt, .int .i64 r.sec, .bool r.shift, .bool r.both] 24))
  have HO : Hid (Rc.fonP l r d = (if (Rc.tim l r.sec d).length = 0 ∧ r.shift = true then [Lpm.stV l (d + 1)] else if 1 < (Rc.tim l r.sec d).length ∧ r.both = false then (Rc.tim l r.sec d).take 1 else Rc.tim l r.sec d).map fun t => (d, t)) := Lib.hid rfl
  have hlen := Rc.tim_len l r.sec d
  obtain ⟨i0, hi, hz0, hz1, hz2⟩ := info_parts infoF
  clear hl hv hs
  go_enter Tryd.func35, Tryd.ntmps35
  go_wp2_with fail
  refine HF.out.mono ?_
  rintro e w1 ⟨v, rfl, hown, hb1⟩
  have kx := Lib.hid (keep' kx.out hb1)
  have hb := Below.goA (Below.refl w.heap.size w) hb1
  clear hb1 HF
  obtain ⟨k, hk⟩ : ∃ k, (Rc.tim l r.sec d).length = k := ⟨_, rfl⟩
  rw [hk] at hown hlen HO
  obtain ⟨A', c', rfl, hkc, hA', hL'⟩ := own_li hown hk
  have HL' := Lib.hid hL'
  have HK := Lib.hid hk
  obtain ⟨-, -, -, -, -, -, -, c7, c8⟩ := blk9 kx.out
  have H8 := Lib.hid (fun W (hW : Below w1.heap.size w1 W) => (blk9 (keep' kx.out hW)).2.2.2.2.2.2.2.2)
  clear hown hL' hk
  generalize Rc.tim l r.sec d = T at *
  obtain ⟨sh, hsh⟩ : ∃ b, r.shift = b := ⟨_, rfl⟩
  obtain ⟨bo, hbo⟩ : ∃ b, r.both = b := ⟨_, rfl⟩
  rw [hsh] at c7 HO
  rw [hbo] at c8 HO H8
  clear hsh hbo
  by_cases hz : k = 0 ∧ sh = true
  · obtain ⟨rfl, rfl⟩ := hz
    go_wp2_with fail
    refine (refStart_c (day := d + 1) (HL.out _ hb) (Nat.le_refl _) hn (Below.refl _ _)).mono ?_
    rintro e w2 ⟨rfl, hb2⟩
    have hb3 := Below.goN (Below.go hb hb2) (.cells #[.int .i64 d, .int .i64 (Lpm.stV l (d + 1))] tF)
    clear hb2
    go_wp2
    go_ret
    exact lp_post (lp_one _ _ _ _) (fun h => by cases h) (by rw [HO.out]; simp) hb3
  · have HT : Hid (Rc.fonP l r d = (if bo then T else T.take 1).map fun t => (d, t)) := Lib.hid (by
      rw [HO.out, if_neg hz]
      cases bo
      · have := HK.out
        by_cases h2 : 1 < k
        · rw [if_pos ⟨h2, rfl⟩]; simp
        · rw [if_neg (fun h => h2 h.1)]
          have e : T.take 1 = T := List.take_of_length_le (by omega)
          rw [if_neg (by simp), e]
      · simp)
    obtain ⟨U, hU⟩ : ∃ U, (if bo then T else T.take 1) = U := ⟨_, rfl⟩
    rw [hU] at HT
    have HU := Lib.hid hU
    clear hU
    have hg : ((k : Int) == 0) = false ∨ (((k : Int) == 0) = true ∧ sh = false) := by
      by_cases h : k = 0
      · right; subst h; cases sh
        · exact ⟨rfl, rfl⟩
        · exact absurd ⟨rfl, rfl⟩ hz
      · left; simp; omega
    have HZ := Lib.hid hz
    clear hz HO
    rcases hg with hg | ⟨hg, rfl⟩
    all_goals
      go_wp2
      go_loopw [11, 12] (fun v i wr => ∃ (q : Nat) (A2 : Option Addr) (m c2 : Nat), q ≤ k ∧ i = .int .i64 q ∧ v = .slice A2 m c2 ∧ m ≤ q ∧ Hid ((U.take q).length = m) ∧ Hid (wr.ownsRow w1.heap.size tF 2 (.slice A2 m c2) m (cellsL ((U.take q).map fun t => (d, t)))) ∧ Below w1.heap.size w1 wr) (fun _ i _ => k - (intOf i).toNat)
      case atStart => exact ⟨0, none, 0, 0, Nat.zero_le _, rfl, rfl, Nat.le_refl _, Lib.hid (by simp), Lib.hid (by simpa [cellsL] using (own_nil (B := w1.heap.size) (W := w1) (t := tF) (sz := 2))), Below.refl _ _⟩
      case round =>
        obtain ⟨q, A2, m, c2, hq, rfl, rfl, hmq, hm, hown, hbr⟩ := hrel
        have e8 := H8.out _ hbr
        by_cases hlt : q < k
        · obtain ⟨b, off, rfl, hbB, hc⟩ := HL'.out.2 (by omega)
          have ct := (hbr.cell (p := ⟨b, off + q, none⟩) hbB).trans (hc q hlt)
          clear hc
          have j0 : (0 : Int) ≤ (q : Int) := by omega
          have j1 : (q : Int) < (k : Int) := by omega
          by_cases hy : q = 0 ∨ bo = true
          · have HS : Hid (U.take (q + 1) = U.take q ++ [T[q]?.getD 0]) := Lib.hid (by rw [← HU.out]; exact take_yes (b := bo) HK.out hlt hy)
            obtain ⟨x, hx⟩ : ∃ x, T[q]?.getD 0 = x := ⟨_, rfl⟩
            rw [hx] at ct HS
            have hbx := Below.goN hbr (.cells #[.int .i64 d, .int .i64 x] tF)
            clear hx
            have hy2 : ((q : Int) == 0) = true ∨ (((q : Int) == 0) = false ∧ bo = true) := by
              rcases hy with h | h
              · left; simp [h]
              · by_cases h2 : q = 0
                · left; simp [h2]
                · right; exact ⟨by simp; omega, h⟩
            clear hy
            rcases hy2 with hy2 | ⟨hy2, rfl⟩
            all_goals
              go_wp2_with (at_builtin; refine wpList_append_own_at _ rfl _ _ 33 rfl w1.heap.size tF i0 (.agg #[.int .i64 0, .int .i64 0]) 2 16 Tryd.underlying33 hi hz0 hz1 hz2 rfl (by decide) _ m _ rfl (hown.out.alloc _) ⟨wr.heap.size, 0, none⟩ 1 1 [.int .i64 d, .int .i64 x] rfl rfl (World.news_of_block (heap_new wr _)) (by simp [Value.oneCell']) (by unfold maxLen; omega) (by omega) (by have := hbr.size; simp; omega) ?_; intro v' w9 hown' hgrow _ _)
              have hb9 := Below.grown hbx hgrow (by have := hbr.size; simp; omega) (fun g hg => (hown.out.lt g hg).1)
              have hn9 : Hid ((U.take (q + 1)).length = m + 1) := Lib.hid (by rw [HS.out, List.length_append, hm.out]; rfl)
              have ho9 : w9.ownsRow w1.heap.size tF 2 v' (m + 1) (cellsL ((U.take (q + 1)).map fun t => (d, t))) := by rw [HS.out, List.map_append, cellsL_app]; exact hown'
              obtain ⟨A3, c3, rfl, -, -, -⟩ := own_lp ho9 (by rw [List.length_map]; exact hn9.out)
              have HO9 := Lib.hid ho9
              clear ho9 hown' hgrow hbx
              go_wp2
              go_roundw
              case rel => exact ⟨q + 1, A3, m + 1, c3, by omega, by go_num, rfl, by omega, hn9, HO9, hb9⟩
              case measure => simp [intOf]; omega
          · have hq0 : ((q : Int) == 0) = false := by simp; omega
            have hbf : bo = false := by cases bo <;> simp_all
            subst hbf
            have HS : Hid (U.take (q + 1) = U.take q) := Lib.hid (by rw [← HU.out, if_neg (by simp)]; exact take_no (by omega))
            clear hy
            go_wp2
            go_roundw
            case rel => exact ⟨q + 1, A2, m, c2, by omega, by go_num, rfl, by omega, by rw [HS.out]; exact hm, by rw [HS.out]; exact hown, hbr⟩
            case measure => simp [intOf]; omega
        · obtain rfl : q = k := by omega
          have e : U.take q = U := List.take_of_length_le (by have := HK.out; rw [← HU.out]; cases bo <;> simp <;> omega)
          have hown2 := hown.out
          have hm2 := hm.out
          rw [e] at hown2 hm2
          obtain ⟨A3, c3, hAe, hkc3, hA3, hL3⟩ := own_lp hown2 (by rw [List.length_map]; exact hm2)
          cases hAe
          have HL3 := Lib.hid hL3
          have HA3 : Hid (A2 = none → m = 0 ∧ c2 = 0) := Lib.hid fun h => by have := hA3 h; omega
          clear hown2 hm2 e hL3 hA3
          go_wp2
          go_ret
          exact lp_post HL3.out HA3.out HT.out (Below.go hb hbr)
end Go.Proofs.YtmicbniipbcapaaDoor
