/- The contracts of the reference's functions of chapter 7 on tables: the same plain values; nothing that was there has changed. -/
import Derived.Test.YtlmdjkkeocmehaaDrP
set_option linter.unusedVariables false
namespace Go.Proofs.Ytlmdjkkeocmehaa
open Go.RowKit
theorem valid_false {t : Tab.Tb} {n1 n2 n3 : Nat} (h : Tab.valid t = (Tab.rising t.te && Tab.rising t.ag && decide (n3 = n1) && t.ra.all (Tab.okR n2))) (hr : t.ra.all (Tab.okR n2) = false) : Tab.valid t = false := by rw [h, hr]; simp
theorem okR_two {m : Nat} {r : List Int} (h : r.length = m) (ha : r.all Drm.rB = true) : Tab.okR m r = true := by unfold Tab.okR; rw [decide_eq_true h, ha]; rfl
theorem okR_len {m n : Nat} {r : List Int} (h : r.length = n) (hn : n ≠ m) : Tab.okR m r = false := by unfold Tab.okR; rw [decide_eq_false (by omega)]; rfl
theorem okR_bad {m : Nat} {r : List Int} (ha : r.all Drm.rB = false) : Tab.okR m r = false := by unfold Tab.okR; rw [ha]; simp
set_option maxHeartbeats 2000000 in
set_option maxRecDepth 100000 in
theorem rValid_any (v : TabV) (t : Tab.Tb) (w : World) (ht : TabIn w v t) : Calls Try.prog 14 #[T3 v] w (RetB (.bool (Tab.valid t)) w) := by
  have hb0 : Below w.heap.size w (w.alloc (oT v)) := (Below.refl _ _).alloc (Nat.le_refl _) _
  have HT := Lib.hid (ht.alloc (oT v))
  have hV := Lib.hid (valid_eq ht)
  have k0 := Lib.hid (heap_new w (oT v))
  have m1 := ht.m1
  have m2 := ht.m2
  have m3 := ht.m3
  clear ht
  obtain ⟨A1, n1, c1, A2, n2, c2, A3, n3, c3⟩ := v
  dsimp only [T3, s1, s2, s3, oT] at *
  cases h1 : Tab.rising t.te
  · have hV2 : Hid (Tab.valid t = false) := Lib.hid (hV.out.trans (by rw [h1]; rfl))
    go_enter Try.func14, Try.ntmps14
    go_wp2_with fail
    refine (rrising_any _ _ _ _ _ HT.out.l1 m1).mono ?_
    rintro e w1 ⟨rfl, hb1⟩
    have hb := Below.go hb0 hb1
    go_wp2
    go_ret
    exact ⟨ret_bool hV2.out.symm, hb⟩
  cases h2 : Tab.rising t.ag
  · have hV2 : Hid (Tab.valid t = false) := Lib.hid (hV.out.trans (by rw [h1, h2]; rfl))
    go_enter Try.func14, Try.ntmps14
    go_wp2_with fail
    refine (rrising_any _ _ _ _ _ HT.out.l1 m1).mono ?_
    rintro e w1 ⟨rfl, hb1⟩
    obtain ⟨⟨d0, d1, d2⟩, -⟩ := blk3 (keep' k0.out hb1)
    go_wp2_with fail
    refine (rrising_any _ _ _ _ _ (HT.out.below hb1).l2 m2).mono ?_
    rintro e w2 ⟨rfl, hb2⟩
    have hb := Below.go (Below.go hb0 hb1) hb2
    go_wp2
    go_ret
    exact ⟨ret_bool hV2.out.symm, hb⟩
  by_cases h3 : n3 = n1
  · have q' : ((n3 : Int) != (n1 : Int)) = false := by simp; omega
    have hV2 : Hid (t.ra.all (Tab.okR n2) = true → Tab.valid t = true) := Lib.hid fun h => hV.out.trans (by rw [h1, h2, decide_eq_true h3, h]; rfl)
    have hV3 : Hid (t.ra.all (Tab.okR n2) = false → Tab.valid t = false) := Lib.hid fun h => valid_false hV.out h
    have q2 : decide (n3 = n1) = true := decide_eq_true h3
    clear h3 hV
    go_enter Try.func14, Try.ntmps14
    go_wp2_with fail
    refine (rrising_any _ _ _ _ _ HT.out.l1 m1).mono ?_
    rintro e w1 ⟨rfl, hb1⟩
    obtain ⟨⟨d0, d1, d2⟩, -⟩ := blk3 (keep' k0.out hb1)
    go_wp2_with fail
    refine (rrising_any _ _ _ _ _ (HT.out.below hb1).l2 m2).mono ?_
    rintro e w2 ⟨rfl, hb2⟩
    have hb12 := Below.go hb1 hb2
    clear d0 d1 d2
    obtain ⟨⟨d0, d1, d2⟩, -⟩ := blk3 (keep' k0.out hb12)
    go_wp2
    clear d0 d1 d2
    go_loopg [3] n3 (fun g s3 wr => ∃ i : Nat, i + g = n3 ∧ s3 = .int .i64 i ∧ Hid ((t.ra.take i).all (Tab.okR n2) = true) ∧ Below (w.alloc (oT ⟨A1, n1, c1, A2, n2, c2, A3, n3, c3⟩)).heap.size (w.alloc (oT ⟨A1, n1, c1, A2, n2, c2, A3, n3, c3⟩)) wr)
    case atStart => exact ⟨0, by omega, rfl, Lib.hid rfl, hb12⟩
    case round =>
      obtain ⟨i, hig, rfl, hall, hbr⟩ := hrel
      obtain ⟨⟨d0, d1, d2⟩, -⟩ := blk3 (keep' k0.out hbr)
      have hL3 := Lib.hid (HT.out.below hbr).l3
      (try simp only [] at hL3)
      have hbw := Below.go hb0 hbr
      cases gk with
      | zero =>
        obtain rfl : i = n3 := by omega
        have q : decide ((i : Int) < (i : Int)) = false := decide_eq_false (by omega)
        have hr : Hid (Tab.valid t = true) := Lib.hid (hV2.out (by have := hall.out; rwa [List.take_of_length_le (by rw [HT.out.l3.1]; exact Nat.le_refl _)] at this))
        go_wp2
        go_ret
        exact ⟨ret_bool hr.out.symm, hbw⟩
      | succ g =>
        obtain ⟨b, off, rfl, hbB, hc⟩ := hL3.out.2 (by omega)
        obtain ⟨A', m', c', r1, r2, r3, r4⟩ := hc i (by omega)
        have HR := Lib.hid r2
        have hlen := HR.out.1
        have hs := Lib.hid (Tab.allR_snoc (Tab.okR n2) HT.out.l3.1 (show i < n3 by omega))
        have hbad : Hid (Tab.okR n2 (Tab.row t.ra i) = false → Tab.valid t = false) := Lib.hid fun h => hV3.out (Tab.allR_no (k := i + 1) (hs.out.trans (by rw [h]; simp)))
        have hnx : Hid (Tab.okR n2 (Tab.row t.ra i) = true → (t.ra.take (i + 1)).all (Tab.okR n2) = true) := Lib.hid fun h => hs.out.trans (by rw [h, hall.out]; rfl)
        clear hc r2 hs
        generalize Tab.row t.ra i = R at *
        have b0 : (0 : Int) ≤ (i : Int) := by omega
        have b1 : (i : Int) < (n3 : Int) := by omega
        have q1 : decide ((i : Int) < (n3 : Int)) = true := decide_eq_true b1
        by_cases hm : m' = n2
        · have q3 : ((m' : Int) != (n2 : Int)) = false := by simp; omega
          obtain rfl := hm
          go_wp2_with fail
          go_quiet (fail)
          go_wp2
          go_loopg [4] m' (fun g2 s4 wq => ∃ j : Nat, j + g2 = m' ∧ s4 = .int .i64 j ∧ Hid ((R.take j).all Drm.rB = true) ∧ ∃ q, wq = wr.drewN q)
          case atStart => exact ⟨0, by omega, rfl, Lib.hid rfl, _, rfl⟩
          case round =>
            obtain ⟨j, hjg, rfl, halj, q, rfl⟩ := hrel
            cases gk with
            | zero =>
              obtain rfl : j = m' := by omega
              have q5 : decide ((j : Int) < (j : Int)) = false := decide_eq_false (by omega)
              have ho : Hid ((t.ra.take (i + 1)).all (Tab.okR j) = true) := Lib.hid (hnx.out (okR_two hlen (by have := halj.out; rwa [List.take_of_length_le (by omega)] at this)))
              go_wp2
              go_roundg g
              case measure => omega
              case rel => exact ⟨i + 1, by omega, by go_num, ho, below_drewN hbr _⟩
            | succ g2 =>
              obtain ⟨b4, o4, rfl, hB4, h4⟩ := HR.out.2 (by omega)
              have c4 := h4 j (by omega)
              have hs := Lib.hid (Tab.all_snoc Drm.rB hlen (show j < m' by omega))
              clear h4
              generalize Tab.ai R j = x at *
              have j0 : (0 : Int) ≤ (j : Int) := by omega
              have j1 : (j : Int) < (m' : Int) := by omega
              have q5 : decide ((j : Int) < (m' : Int)) = true := decide_eq_true j1
              cases hp : Drm.rB x
              · have hr : Hid (Tab.valid t = false) := Lib.hid (hbad.out (okR_bad (Tab.all_no (k := j + 1) (hs.out.trans (by rw [hp]; simp)))))
                go_wp2_with (go_at_call 35; refine (rBound_any _ _).mono ?_; rintro e w' ⟨rfl, rfl⟩)
                go_ret
                exact ⟨ret_bool hr.out.symm, below_drewN hbw _⟩
              · have hs2 : Hid ((R.take (j + 1)).all Drm.rB = true) := Lib.hid (hs.out.trans (by rw [hp, halj.out]; rfl))
                go_wp2_with (go_at_call 35; refine (rBound_any _ _).mono ?_; rintro e w' ⟨rfl, rfl⟩)
                go_roundg g2
                case measure => omega
                case rel => exact ⟨j + 1, by omega, by go_num, hs2, q, rfl⟩
        · have q3 : ((m' : Int) != (n2 : Int)) = true := by simp; omega
          have hr : Hid (Tab.valid t = false) := Lib.hid (hbad.out (okR_len hlen hm))
          go_wp2_with fail
          go_quiet (fail)
          go_wp2
          go_ret
          exact ⟨ret_bool hr.out.symm, below_drewN hbw _⟩
  · have q' : ((n3 : Int) != (n1 : Int)) = true := by simp; omega
    have q2 : decide (n3 = n1) = false := decide_eq_false h3
    have hV2 : Hid (Tab.valid t = false) := Lib.hid (hV.out.trans (by rw [h1, h2, decide_eq_false h3]; rfl))
    go_enter Try.func14, Try.ntmps14
    go_wp2_with fail
    refine (rrising_any _ _ _ _ _ HT.out.l1 m1).mono ?_
    rintro e w1 ⟨rfl, hb1⟩
    obtain ⟨⟨d0, d1, d2⟩, -⟩ := blk3 (keep' k0.out hb1)
    go_wp2_with fail
    refine (rrising_any _ _ _ _ _ (HT.out.below hb1).l2 m2).mono ?_
    rintro e w2 ⟨rfl, hb2⟩
    have hb12 := Below.go hb1 hb2
    clear d0 d1 d2
    obtain ⟨⟨d0, d1, d2⟩, -⟩ := blk3 (keep' k0.out hb12)
    have hb := Below.go hb0 hb12
    go_wp2
    go_ret
    exact ⟨ret_bool hV2.out.symm, hb⟩
end Go.Proofs.Ytlmdjkkeocmehaa
