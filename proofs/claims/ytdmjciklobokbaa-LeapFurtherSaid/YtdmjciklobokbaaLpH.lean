/- The walk of the law on the beginning of a table: it returns true for every table and every number; nothing that was there has changed. -/
import Derived.Test.YtdmjciklobokbaaLpG
import Derived.Deep.QuietTactic
import Derived.BigQuiet
import Derived.WalkSmall
set_option linter.unusedVariables false
namespace Go.Proofs.Ytdmjciklobokbaa
open Go.RowKit

theorem on_q (n : Int) (w : World) (h0 : 0 ≤ n) (h1 : n ≤ 4294967295) : Calls Try.prog 22 #[.int .u32 n] w fun e w' => e = .returned (.int .i64 (n % 34001)) ∧ w' = w := by
  go_enter Try.func22, Try.ntmps22
  go_wp2
  go_ret
  exact ⟨rfl, rfl⟩
theorem Lp.take {B : Nat} {W : World} {A : Option Addr} {n : Nat} {l : Lpm.LL} (h : Lp B W A n l) {k : Nat} (hk : k ≤ n) : Lp B W A k (l.take k) :=
  ⟨by rw [List.length_take, h.1]; omega, fun hn => by
    obtain ⟨b, off, e, hb, hc⟩ := h.2 (by omega)
    refine ⟨b, off, e, hb, fun j hj => ?_⟩
    have : (l.take k)[j]? = l[j]? := by rw [List.getElem?_take, if_pos hj]
    rw [this]; exact hc j (by omega)⟩
set_option maxHeartbeats 2000000 in
set_option maxRecDepth 100000 in
theorem beginnings_law (v : Value) (l : Lpm.LL) (which k x : Int) (w : World) (ht : IsTab w v l) (h1 : (Lit.int .u8 which).wf = true) (h2 : (Lit.int .u32 k).wf = true) (h3 : (Lit.int .u64 x).wf = true) :
    Calls Try.prog 9 #[v, .int .u8 which, .int .u32 k, .int .u64 x] w (LawPost w) := by
  obtain ⟨A, n, c, rfl, hnc, hcm, hAc, hl⟩ := ht
  obtain ⟨i0, i1⟩ := bounds_u8 h1
  obtain ⟨k0, k1⟩ := bounds_u32 h2
  obtain ⟨x0, x1⟩ := bounds_u64 h3
  have hB := Nat.le_refl w.heap.size
  unfold maxLen at hcm
  by_cases hn : n ≤ 110
  rotate_left
  · have hfew : decide (n ≤ 110) = false := by simpa using hn
    have hb := Below.refl w.heap.size w
    go_enter Try.func9, Try.ntmps9
    go_wp2_with (first | (go_at_call 10; refine (head_c (by assumption)).mono ?_; rintro e w1 ⟨rfl, hb⟩) | (go_at_call 11; refine (few_c (by assumption)).mono ?_; rintro e w1 ⟨rfl, hb⟩) | (go_at_call 22; refine (on_c (by omega) (by omega) (by assumption)).mono ?_; rintro e w1 ⟨rfl, hb⟩) | (go_at_call 14; refine (valid_c hl hB hn (by assumption)).mono ?_; rintro e w1 ⟨rfl, hb⟩) | (go_at_call 15; refine (refValid_c hl hB hn (by assumption)).mono ?_; rintro e w1 ⟨rfl, hb⟩) | (go_at_call 12; refine (Start_c hl hB hn (by assumption)).mono ?_; rintro e w1 ⟨rfl, hb⟩) | (go_at_call 16; refine (Length_c hl hB hn (by assumption)).mono ?_; rintro e w1 ⟨rfl, hb⟩) | (go_at_call 18; refine (Day_c hl hB hn (by assumption)).mono ?_; rintro e w1 ⟨rfl, hb⟩) | (go_at_call 20; refine (Offset_c hl hB hn (by assumption)).mono ?_; rintro e w1 ⟨rfl, hb⟩) | (go_at_call 13; refine (refStart_c hl hB hn (by assumption)).mono ?_; rintro e w1 ⟨rfl, hb⟩) | (go_at_call 17; refine (refLength_c hl hB hn (by assumption)).mono ?_; rintro e w1 ⟨rfl, hb⟩) | (go_at_call 19; refine (refDay_c hl hB hn (by assumption)).mono ?_; rintro e w1 ⟨rfl, hb⟩) | (go_at_call 21; refine (refOffset_c hl hB hn (by assumption)).mono ?_; rintro e w1 ⟨rfl, hb⟩))
    go_ret
    exact ⟨rfl, by assumption⟩
  have hfew : decide (n ≤ 110) = true := by simpa using hn
  have hb := Below.refl w.heap.size w
  cases hv : Lpm.valid l
  · go_enter Try.func9, Try.ntmps9
    go_wp2_with (first | (go_at_call 10; refine (head_c (by assumption)).mono ?_; rintro e w1 ⟨rfl, hb⟩) | (go_at_call 11; refine (few_c (by assumption)).mono ?_; rintro e w1 ⟨rfl, hb⟩) | (go_at_call 22; refine (on_c (by omega) (by omega) (by assumption)).mono ?_; rintro e w1 ⟨rfl, hb⟩) | (go_at_call 14; refine (valid_c hl hB hn (by assumption)).mono ?_; rintro e w1 ⟨rfl, hb⟩) | (go_at_call 15; refine (refValid_c hl hB hn (by assumption)).mono ?_; rintro e w1 ⟨rfl, hb⟩) | (go_at_call 12; refine (Start_c hl hB hn (by assumption)).mono ?_; rintro e w1 ⟨rfl, hb⟩) | (go_at_call 16; refine (Length_c hl hB hn (by assumption)).mono ?_; rintro e w1 ⟨rfl, hb⟩) | (go_at_call 18; refine (Day_c hl hB hn (by assumption)).mono ?_; rintro e w1 ⟨rfl, hb⟩) | (go_at_call 20; refine (Offset_c hl hB hn (by assumption)).mono ?_; rintro e w1 ⟨rfl, hb⟩) | (go_at_call 13; refine (refStart_c hl hB hn (by assumption)).mono ?_; rintro e w1 ⟨rfl, hb⟩) | (go_at_call 17; refine (refLength_c hl hB hn (by assumption)).mono ?_; rintro e w1 ⟨rfl, hb⟩) | (go_at_call 19; refine (refDay_c hl hB hn (by assumption)).mono ?_; rintro e w1 ⟨rfl, hb⟩) | (go_at_call 21; refine (refOffset_c hl hB hn (by assumption)).mono ?_; rintro e w1 ⟨rfl, hb⟩))
    go_ret
    exact ⟨rfl, by assumption⟩
  by_cases hz : n = 0
  · have hz' : ((n : Int) == 0) = true := by simp [hz]
    clear hz
    go_enter Try.func9, Try.ntmps9
    go_wp2_with (first | (go_at_call 10; refine (head_c (by assumption)).mono ?_; rintro e w1 ⟨rfl, hb⟩) | (go_at_call 11; refine (few_c (by assumption)).mono ?_; rintro e w1 ⟨rfl, hb⟩) | (go_at_call 22; refine (on_c (by omega) (by omega) (by assumption)).mono ?_; rintro e w1 ⟨rfl, hb⟩) | (go_at_call 14; refine (valid_c hl hB hn (by assumption)).mono ?_; rintro e w1 ⟨rfl, hb⟩) | (go_at_call 15; refine (refValid_c hl hB hn (by assumption)).mono ?_; rintro e w1 ⟨rfl, hb⟩) | (go_at_call 12; refine (Start_c hl hB hn (by assumption)).mono ?_; rintro e w1 ⟨rfl, hb⟩) | (go_at_call 16; refine (Length_c hl hB hn (by assumption)).mono ?_; rintro e w1 ⟨rfl, hb⟩) | (go_at_call 18; refine (Day_c hl hB hn (by assumption)).mono ?_; rintro e w1 ⟨rfl, hb⟩) | (go_at_call 20; refine (Offset_c hl hB hn (by assumption)).mono ?_; rintro e w1 ⟨rfl, hb⟩) | (go_at_call 13; refine (refStart_c hl hB hn (by assumption)).mono ?_; rintro e w1 ⟨rfl, hb⟩) | (go_at_call 17; refine (refLength_c hl hB hn (by assumption)).mono ?_; rintro e w1 ⟨rfl, hb⟩) | (go_at_call 19; refine (refDay_c hl hB hn (by assumption)).mono ?_; rintro e w1 ⟨rfl, hb⟩) | (go_at_call 21; refine (refOffset_c hl hB hn (by assumption)).mono ?_; rintro e w1 ⟨rfl, hb⟩))
    go_ret
    exact ⟨rfl, by assumption⟩
  have hz' : ((n : Int) == 0) = false := by simpa using hz
  obtain ⟨b, off, rfl, hbB, hc⟩ := hl.2 (by omega)
  obtain ⟨i, hi⟩ : ∃ i : Nat, which % (n : Int) = i := ⟨(which % (n : Int)).toNat, by have := Int.emod_nonneg which (b := (n : Int)) (by omega); omega⟩
  have hin : i < n := by have := Int.emod_lt_of_pos which (b := (n : Int)) (by omega); omega
  have hdr := drop_cons hl.1 hin
  obtain ⟨d, s, hx⟩ : ∃ d s, l[i]?.getD (0, 0) = (d, s) := ⟨_, _, rfl⟩
  have hci := (hc i hin).1
  rw [hx] at hdr hci
  have hsplit : l = l.take i ++ (d, s) :: l.drop (i + 1) := by rw [← hdr]; exact (List.take_append_drop i l).symm
  have hvt := Lpm.valid_take (k := i) hv
  have hlt := hl.take (k := i) (by omega)
  have hni : i ≤ 110 := by omega
  have hm := Lpm.valid_mem hv (d, s) (by rw [hsplit]; simp)
  have hvs : Lpm.valid (l.take i ++ (d, s) :: l.drop (i + 1)) = true := by rw [← hsplit]; exact hv
  have hst : ∀ day, day ≤ d → Lpm.start (l.take i) day = Lpm.start l day := fun day hd => by
    have := Lpm.start_take (a := l.take i) (x := (d, s)) (r := l.drop (i + 1)) (day := day) hvs hd
    rw [← hsplit] at this; exact this.symm
  have hdn : ∀ t, 0 ≤ t → t ≤ Lpm.start l d → Lpm.dayNo (l.take i) t = Lpm.dayNo l t ∧ Lpm.dayNo l t ≤ 34000 ∧ Lpm.ofs (l.take i) (Lpm.dayNo l t) = Lpm.ofs l (Lpm.dayNo l t) := fun t t0 t1 => by
    have := Lpm.dayNo_take (a := l.take i) (x := (d, s)) (r := l.drop (i + 1)) (t := t) hvs t0 (by rw [← hsplit]; exact t1)
    rw [← hsplit] at this; exact this
  have hs0 : 0 ≤ Lpm.start l d := by have := Lpm.start_le (a := 0) (b := d) hv hm.1; rw [Lpm.start_zero hv] at this; exact this
  have hbd := Lpm.start_bd (a := d) hv
  obtain ⟨hm1, hm2, hm3⟩ := hm
  simp only at hm1 hm2
  -- the time that is asked, and what both tables say of it
  have ht0 : 0 ≤ x % (Lpm.start l d + 1) := Int.emod_nonneg _ (by omega)
  have ht1 : x % (Lpm.start l d + 1) < Lpm.start l d + 1 := Int.emod_lt_of_pos _ (by omega)
  obtain ⟨e1, e2, e3⟩ := hdn _ ht0 (by omega)
  obtain ⟨f1, f2, f3⟩ := Lpm.d_yes (l := l) (t := x % (Lpm.start l d + 1)) hv ht0 (by omega) e2
  obtain ⟨g1, g2, g3⟩ := Lpm.d_yes (l := l.take i) (t := x % (Lpm.start l d + 1)) hvt ht0 (by omega) (by rw [e1]; exact e2)
  rw [e1] at g2 g3
  rw [e3] at g3
  clear e1 e3 hdn
  generalize Lpm.dayNo l (x % (Lpm.start l d + 1)) = D at *
  have hd1 := Lib.hid hdr
  have hx1 := Lib.hid hx
  have hsp := Lib.hid hsplit
  have Hst := Lib.hid hst
  have Hc := Lib.hid hc
  clear hdr hx hsplit hst hc hm3 hvs
  obtain ⟨u1, u2, u3⟩ := Lpm.st_yes (day := d) hv hm1 (by omega)
  clear u3
  have hday : ∃ day, 0 ≤ day ∧ day ≤ d ∧ ((k % 34001 ≤ d ∧ Hid (k % 34001 = day)) ∨ (d < k % 34001 ∧ Hid (d = day))) := by
    rcases Int.lt_or_le d (k % 34001) with h | h
    · exact ⟨d, by omega, by omega, .inr ⟨h, Lib.hid rfl⟩⟩
    · exact ⟨k % 34001, by omega, h, .inl ⟨h, Lib.hid rfl⟩⟩
  obtain ⟨day, y0, y1, hdd⟩ := hday
  obtain ⟨p1, p2, p3⟩ := Lpm.st_yes (l := l) (day := day) hv y0 (by omega)
  obtain ⟨q1, q2, q3⟩ := Lpm.st_yes (l := l.take i) (day := day) hvt y0 (by omega)
  rw [Hst.out day y1] at q2
  clear p3 q3
  rcases hdd with ⟨hle, hE⟩ | ⟨hle, hE⟩
  · obtain rfl := hE.out
    go_enter Try.func9, Try.ntmps9
    go_wp2_with (first | (go_at_call 10; refine (head_c (by assumption)).mono ?_; rintro e w1 ⟨rfl, hb⟩) | (go_at_call 11; refine (few_c (by assumption)).mono ?_; rintro e w1 ⟨rfl, hb⟩) | (go_at_call 15; refine (refValid_c hl hB hn (by assumption)).mono ?_; rintro e w1 ⟨rfl, hb1⟩))
    have hcd := Below.cellOf hb1 hbB hci
    go_quiet ((go_at_call 22; exact Calls.quiet_of_same (on_q _ _ (by omega) (by omega))))
    have hb2 := below_drewN hb1 nq
    clear hb1 hcd
    go_wp2_with (first | (go_at_call 12; ((with_reducible refine (Start_c hl hB hn (by assumption)).mono ?_); rintro e w1 ⟨rfl, hb⟩); have hcd := Below.cellOf hb hbB hci) | (go_at_call 12; ((with_reducible refine (Start_c hlt hB hni (by assumption)).mono ?_); rintro e w1 ⟨rfl, hb⟩); have hcd := Below.cellOf hb hbB hci) | (go_at_call 18; ((with_reducible refine (Day_c hl hB hn (by assumption)).mono ?_); rintro e w1 ⟨rfl, hb⟩)) | (go_at_call 18; ((with_reducible refine (Day_c hlt hB hni (by assumption)).mono ?_); rintro e w1 ⟨rfl, hb⟩)) | (go_at_call 20; ((with_reducible refine (Offset_c hl hB hn (by assumption)).mono ?_); rintro e w1 ⟨rfl, hb⟩)) | (go_at_call 20; ((with_reducible refine (Offset_c hlt hB hni (by assumption)).mono ?_); rintro e w1 ⟨rfl, hb⟩)))
    go_ret
    exact ⟨rfl, by assumption⟩
  · obtain rfl := hE.out
    go_enter Try.func9, Try.ntmps9
    go_wp2_with (first | (go_at_call 10; refine (head_c (by assumption)).mono ?_; rintro e w1 ⟨rfl, hb⟩) | (go_at_call 11; refine (few_c (by assumption)).mono ?_; rintro e w1 ⟨rfl, hb⟩) | (go_at_call 15; refine (refValid_c hl hB hn (by assumption)).mono ?_; rintro e w1 ⟨rfl, hb1⟩))
    have hcd := Below.cellOf hb1 hbB hci
    go_quiet ((go_at_call 22; exact Calls.quiet_of_same (on_q _ _ (by omega) (by omega))))
    have hb2 := below_drewN hb1 nq
    clear hb1 hcd
    go_wp2_with (first | (go_at_call 12; ((with_reducible refine (Start_c hl hB hn (by assumption)).mono ?_); rintro e w1 ⟨rfl, hb⟩); have hcd := Below.cellOf hb hbB hci) | (go_at_call 12; ((with_reducible refine (Start_c hlt hB hni (by assumption)).mono ?_); rintro e w1 ⟨rfl, hb⟩); have hcd := Below.cellOf hb hbB hci) | (go_at_call 18; ((with_reducible refine (Day_c hl hB hn (by assumption)).mono ?_); rintro e w1 ⟨rfl, hb⟩)) | (go_at_call 18; ((with_reducible refine (Day_c hlt hB hni (by assumption)).mono ?_); rintro e w1 ⟨rfl, hb⟩)) | (go_at_call 20; ((with_reducible refine (Offset_c hl hB hn (by assumption)).mono ?_); rintro e w1 ⟨rfl, hb⟩)) | (go_at_call 20; ((with_reducible refine (Offset_c hlt hB hni (by assumption)).mono ?_); rintro e w1 ⟨rfl, hb⟩)))
    go_ret
    exact ⟨rfl, by assumption⟩
end Go.Proofs.Ytdmjciklobokbaa
