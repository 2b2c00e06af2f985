/- The contracts of drift.all over rows, and of drift.Valid. -/
import Derived.Test.YtlmdjkkeocmehaaDrE
set_option linter.unusedVariables false
namespace Go.Proofs.Ytlmdjkkeocmehaa
open Go.RowKit
set_option maxHeartbeats 2000000 in
theorem allR_any (A : Option Addr) (n c : Nat) (rs : List (List Int)) (bt : Nat) (A2 : Option Addr) (n2 c2 : Nat) (w : World) (hl : Lr w.heap.size w A n rs) (hn : n ≤ 9223372036854775807) (hn2 : n2 ≤ 9223372036854775807) (hbt : bt < w.heap.size) (ht : w.cell? ⟨bt, 1, none⟩ = some (.slice A2 n2 c2)) :
    Calls Try.prog 30 #[.slice A n c, .func (Fn.func 31) #[] #[.pointer (some ⟨bt, 0, none⟩)]] w (RetB (.bool (rs.all (Tab.okR n2))) w) := by
  obtain ⟨hlen, hcell⟩ := hl
  have Hlen := Lib.hid hlen
  have Hc := Lib.hid hcell
  have Ht := Lib.hid ht
  clear hlen hcell ht
  go_enter Try.func30, Try.ntmps30
  go_wp2
  go_loopw [9] (fun i wr => ∃ k : Nat, k ≤ n ∧ i = .int .i64 k ∧ Hid ((rs.take k).all (Tab.okR n2) = true) ∧ Below w.heap.size w wr) (fun i _ => n - (intOf i).toNat)
  case atStart => exact ⟨0, Nat.zero_le _, rfl, Lib.hid rfl, Below.refl _ _⟩
  case round =>
    obtain ⟨k, hk, rfl, hv, hb⟩ := hrel
    by_cases hlt : k < n
    · obtain ⟨b, off, rfl, hbB, hc⟩ := Hc.out (by omega)
      obtain ⟨A', m, c', h1, h2, h3, h4⟩ := hc k hlt
      have c0 := (hb.cell (p := ⟨b, off + k, none⟩) hbB).trans h1
      have HL := Lib.hid ((h2.below hb).mono hb.size)
      have hT := Lib.hid ((hb.cell (p := ⟨bt, 1, none⟩) hbt).trans Ht.out)
      have hs := Lib.hid (Tab.allR_snoc (Tab.okR n2) Hlen.out hlt)
      clear hc h1 h2
      generalize Tab.row rs k = x at *
      have b0 : (0 : Int) ≤ (k : Int) := by omega
      have b1 : (k : Int) < (n : Int) := by omega
      cases hp : Tab.okR n2 x
      · have hs2 : Hid (rs.all (Tab.okR n2) = false) := Lib.hid (Tab.allR_no (k := k + 1) (hs.out.trans (by rw [hp]; simp)))
        go_wp2_with fail
        refine (valid1_any A' m c' x bt A2 n2 c2 _ HL.out (by omega) hn2 hT.out).mono ?_
        rintro e w1 ⟨rfl, hb1⟩
        have hb2 := Below.go hb hb1
        clear hb1
        go_wp2
        go_ret
        exact ⟨ret_bool hs2.out.symm, hb2⟩
      · have hs2 : Hid ((rs.take (k + 1)).all (Tab.okR n2) = true) := Lib.hid (hs.out.trans (by rw [hp, hv.out]; rfl))
        go_wp2_with fail
        refine (valid1_any A' m c' x bt A2 n2 c2 _ HL.out (by omega) hn2 hT.out).mono ?_
        rintro e w1 ⟨rfl, hb1⟩
        have hb2 := Below.go hb hb1
        clear hb1
        go_wp2
        go_roundw
        case rel => exact ⟨k + 1, by omega, by go_num, hs2, hb2⟩
        case measure => simp [intOf]; omega
    · obtain rfl : k = n := by omega
      have e : rs.take k = rs := List.take_of_length_le (by rw [Hlen.out]; omega)
      rw [e] at hv
      go_wp2
      go_ret
      exact ⟨ret_bool hv.out.symm, hb⟩
/-- a table in memory -/
structure TabV where
  A1 : Option Addr
  n1 : Nat
  c1 : Nat
  A2 : Option Addr
  n2 : Nat
  c2 : Nat
  A3 : Option Addr
  n3 : Nat
  c3 : Nat
abbrev s1 (v : TabV) : Value := .slice v.A1 v.n1 v.c1
abbrev s2 (v : TabV) : Value := .slice v.A2 v.n2 v.c2
abbrev s3 (v : TabV) : Value := .slice v.A3 v.n3 v.c3
abbrev T3 (v : TabV) : Value := .agg #[s1 v, s2 v, s3 v]
abbrev oT (v : TabV) : Obj := .cells #[s1 v, s2 v, s3 v] 25
structure TabIn (W : World) (v : TabV) (t : Tab.Tb) : Prop where
  l1 : Li W.heap.size W v.A1 v.n1 t.te
  l2 : Li W.heap.size W v.A2 v.n2 t.ag
  l3 : Lr W.heap.size W v.A3 v.n3 t.ra
  m1 : v.n1 ≤ 9223372036854775807
  m2 : v.n2 ≤ 9223372036854775807
  m3 : v.n3 ≤ 9223372036854775807
  k3 : v.n3 ≤ v.c3
  k4 : v.c3 ≤ 9223372036854775807
theorem TabIn.below {W W' : World} {v : TabV} {t : Tab.Tb} (h : TabIn W v t) (hb : Below W.heap.size W W') : TabIn W' v t :=
  ⟨(h.l1.below hb).mono hb.size, (h.l2.below hb).mono hb.size, (h.l3.below hb).mono hb.size, h.m1, h.m2, h.m3, h.k3, h.k4⟩
theorem TabIn.alloc {W : World} {v : TabV} {t : Tab.Tb} (h : TabIn W v t) (o : Obj) : TabIn (W.alloc o) v t := h.below ((Below.refl _ _).alloc (Nat.le_refl _) _)
theorem valid_eq {t : Tab.Tb} {W : World} {v : TabV} (h : TabIn W v t) : Tab.valid t = (Tab.rising t.te && Tab.rising t.ag && decide (v.n3 = v.n1) && t.ra.all (Tab.okR v.n2)) := by
  unfold Tab.valid; rw [h.l1.1, h.l2.1, h.l3.1]
set_option maxHeartbeats 2000000 in
theorem Valid_any (v : TabV) (t : Tab.Tb) (w : World) (ht : TabIn w v t) : Calls Try.prog 13 #[T3 v] w (RetB (.bool (Tab.valid t)) w) := by
  have hb0 : Below w.heap.size w (w.alloc (oT v)) := (Below.refl _ _).alloc (Nat.le_refl _) _
  have HT := Lib.hid (ht.alloc (oT v))
  have hV := Lib.hid (valid_eq ht)
  have k0 := Lib.hid (heap_new w (oT v))
  have m1 := ht.m1
  have m2 := ht.m2
  have m3 := ht.m3
  clear ht
  obtain ⟨A1, n1, c1, A2, n2, c2, A3, n3, c3⟩ := v
  simp only [] at *
  cases h1 : Tab.rising t.te
  · have hV2 : Hid (Tab.valid t = false) := Lib.hid (hV.out.trans (by rw [h1]; rfl))
    go_enter Try.func13, Try.ntmps13
    go_wp2_with fail
    refine (rising_any _ _ _ _ _ HT.out.l1 m1).mono ?_
    rintro e w1 ⟨rfl, hb1⟩
    have hb := Below.go hb0 hb1
    go_wp2
    go_ret
    exact ⟨ret_bool hV2.out.symm, hb⟩
  cases h2 : Tab.rising t.ag
  · have hV2 : Hid (Tab.valid t = false) := Lib.hid (hV.out.trans (by rw [h1, h2]; rfl))
    go_enter Try.func13, Try.ntmps13
    go_wp2_with fail
    refine (rising_any _ _ _ _ _ HT.out.l1 m1).mono ?_
    rintro e w1 ⟨rfl, hb1⟩
    obtain ⟨⟨d0, d1, d2⟩, -⟩ := blk3 (keep' k0.out hb1)
    go_wp2_with fail
    refine (rising_any _ _ _ _ _ (HT.out.below hb1).l2 m2).mono ?_
    rintro e w2 ⟨rfl, hb2⟩
    have hb := Below.go (Below.go hb0 hb1) hb2
    go_wp2
    go_ret
    exact ⟨ret_bool hV2.out.symm, hb⟩
  by_cases h3 : n3 = n1
  · have q : ((n3 : Int) == (n1 : Int)) = true := by simp; omega
    have q' : ((n3 : Int) != (n1 : Int)) = false := by simp; omega
    have hV2 : Hid (Tab.valid t = t.ra.all (Tab.okR n2)) := Lib.hid (hV.out.trans (by rw [h1, h2, decide_eq_true h3]; rfl))
    have q2 : decide (n3 = n1) = true := decide_eq_true h3
    clear h3
    go_enter Try.func13, Try.ntmps13
    go_wp2_with fail
    refine (rising_any _ _ _ _ _ HT.out.l1 m1).mono ?_
    rintro e w1 ⟨rfl, hb1⟩
    obtain ⟨⟨d0, d1, d2⟩, -⟩ := blk3 (keep' k0.out hb1)
    go_wp2_with fail
    refine (rising_any _ _ _ _ _ (HT.out.below hb1).l2 m2).mono ?_
    rintro e w2 ⟨rfl, hb2⟩
    have hb12 := Below.go hb1 hb2
    clear d0 d1 d2
    obtain ⟨⟨d0, d1, d2⟩, -⟩ := blk3 (keep' k0.out hb12)
    go_wp2_with fail
    refine (allR_any _ _ _ _ _ _ _ _ _ (HT.out.below hb12).l3 m3 m2 (lt_of_heap (keep' k0.out hb12)) d1).mono ?_
    rintro e w3 ⟨rfl, hb3⟩
    have hb := Below.go (Below.go hb0 hb12) hb3
    go_wp2
    go_ret
    exact ⟨ret_bool hV2.out.symm, hb⟩
  · have q : ((n3 : Int) == (n1 : Int)) = false := by simp; omega
    have q' : ((n3 : Int) != (n1 : Int)) = true := by simp; omega
    have q2 : decide (n3 = n1) = false := decide_eq_false h3
    have hV2 : Hid (Tab.valid t = false) := Lib.hid (hV.out.trans (by rw [h1, h2, decide_eq_false h3]; rfl))
    go_enter Try.func13, Try.ntmps13
    go_wp2_with fail
    refine (rising_any _ _ _ _ _ HT.out.l1 m1).mono ?_
    rintro e w1 ⟨rfl, hb1⟩
    obtain ⟨⟨d0, d1, d2⟩, -⟩ := blk3 (keep' k0.out hb1)
    go_wp2_with fail
    refine (rising_any _ _ _ _ _ (HT.out.below hb1).l2 m2).mono ?_
    rintro e w2 ⟨rfl, hb2⟩
    have hb12 := Below.go hb1 hb2
    clear d0 d1 d2
    obtain ⟨⟨d0, d1, d2⟩, -⟩ := blk3 (keep' k0.out hb12)
    have hb := Below.go hb0 hb12
    go_wp2
    go_ret
    exact ⟨ret_bool hV2.out.symm, hb⟩
end Go.Proofs.Ytlmdjkkeocmehaa
