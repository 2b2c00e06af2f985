/- Contracts of package civil; the law TopSmeared. -/
import Derived.Test.YtcnenkhgbifmmaaDoorTpC
import Derived.Test.YtcnenkhgbifmmaaDoorOpen
set_option linter.unusedVariables false
namespace Go.Proofs.YtcnenkhgbifmmaaDoor
open Go.RowKit
set_option maxHeartbeats 2000000 in
set_option maxRecDepth 100000 in
theorem To_err (A : Option Addr) (n c : Nat) (l : Lpm.LL) (t : Int) (w : World) (hl : Lp w.heap.size w A n l) (hn : n ≤ 110) (h : Lpm.dE l t ≠ 0) :
    Calls Tryd.prog 14 #[.slice A n c, .int .i64 t] w (RetB (.tuple #[.agg #[.int .i64 0, .int .i64 0], .int .i64 (Lpm.dE l t)]) w) := by
  have HD := Lib.hid (fun (W : World) (hb : Below w.heap.size w W) => Day_c (t := t) (c := c) (hl.go hb) (Nat.le_refl _) hn (Below.refl W.heap.size W))
  generalize Lpm.dE l t = E at *
  have hE : (E != 0) = true := bne_of h
  clear hl h
  have hb := Below.goN (Below.refl w.heap.size w) (.cells #[.int .i64 0, .int .i64 0] 48)
  have kx := Lib.hid (heap_new w (.cells #[.int .i64 0, .int .i64 0] 48))
  go_enter Tryd.func14, Tryd.ntmps14
  go_wp2_with fail
  refine (HD.out _ hb).mono ?_
  rintro e w1 ⟨rfl, hn1⟩
  have kx := Lib.hid (keep' kx.out hn1)
  have hb := Below.go hb hn1
  have hlt := lt_of_heap kx.out
  clear hn1 HD
  obtain ⟨⟨c0, c1⟩, f0, f1⟩ := blk2 kx.out
  go_wp2
  exact bodyPost_ret (v := .tuple #[.agg #[.int .i64 0, .int .i64 0], .int .i64 E]) (by simp [results, Tryd.results14, go_sem, c0, c1]) rfl ⟨rfl, by (repeat (with_reducible first | exact hb | refine Below.drew ?_ | refine Below.goN ?_ _ | refine Below.setCell ?_ ?_ _)); all_goals (first | omega | (simp; done) | (simp; omega))⟩
set_option maxHeartbeats 2000000 in
set_option maxRecDepth 100000 in
theorem From_at (A : Option Addr) (n c : Nat) (l : Lpm.LL) (d t : Int) (w : World) (hl : Lp w.heap.size w A n l) (hn : n ≤ 110) (h : AtDay l d t) :
    Calls Tryd.prog 22 #[.slice A n c, .agg #[.int .i64 d, .int .i64 (t - Lpm.start l d)]] w (RetB (.tuple #[.int .i64 t, .int .i64 0]) w) := by
  obtain ⟨e1, e2, b0, b1, b2, b3, b4, b5⟩ := at_day h
  have H1 : Hid (∀ W, Below w.heap.size w W → Lp W.heap.size W A n l) := Lib.hid fun W hW => hl.go hW
  have HF := Lib.hid (fun (W : World) (hb : Below w.heap.size w W) => cfind_yes A n c l d W (H1.out W hb) h.v h.d0 h.d1)
  have hlen : t - Lpm.start l d < Rc.lenD l d := by have := h.t1; unfold Rc.lenD; omega
  have hl3 := Rc.lenD_is h.v d
  obtain ⟨m, hm⟩ : ∃ m, t - Lpm.start l d = m := ⟨_, rfl⟩
  have hst : Lpm.start l d + m = t := by omega
  rw [hm] at b0 b1 hlen ⊢
  clear hl h e1 e2 hm
  generalize Lpm.start l d = S at *
  generalize Rc.lenD l d = N at *
  have hb := Below.goN (Below.refl w.heap.size w) (.cells #[.int .i64 d, .int .i64 m] 48)
  have kx := Lib.hid (heap_new w (.cells #[.int .i64 d, .int .i64 m] 48))
  obtain ⟨⟨x0, x1⟩, -⟩ := blk2 kx.out
  have hw : wi m 0 (N - 1) = true := by simp [wi]; omega
  go_enter Tryd.func22, Tryd.ntmps22
  go_wp2_with fail
  refine (HF.out _ hb).mono ?_
  rintro e w1 ⟨rfl, hn1⟩
  have kx := Lib.hid (keepN (keep' kx.out hn1) (.cells #[.int .i64 S, .int .i64 N, .int .i64 d] 85))
  have ky := Lib.hid (heap_new w1 (.cells #[.int .i64 S, .int .i64 N, .int .i64 d] 85))
  have hb := Below.goN (Below.go hb hn1) (.cells #[.int .i64 S, .int .i64 N, .int .i64 d] 85)
  clear hn1 HF x0 x1
  obtain ⟨⟨x0, x1⟩, -⟩ := blk2 kx.out
  obtain ⟨⟨y0, y1, y2⟩, -⟩ := blk3 ky.out
  have m0 : decide (m < 0) = false := decide_eq_false (by omega)
  go_wp2_with fail
  refine (shas_any S N m _ (by omega) (by omega)).mono ?_
  rintro e w2 ⟨rfl, hn2⟩
  rw [hw]
  have kx := Lib.hid (keep' kx.out hn2)
  have ky := Lib.hid (keep' ky.out hn2)
  have hb := Below.go hb hn2
  clear hn2 x0 x1 y0 y1 y2
  obtain ⟨⟨x0, x1⟩, -⟩ := blk2 kx.out
  obtain ⟨⟨y0, y1, y2⟩, -⟩ := blk3 ky.out
  go_wp2_with fail
  refine (stime_any S N m _ (by omega) (by omega) (by omega) (by omega)).mono ?_
  rintro e w3 ⟨rfl, hn3⟩
  have hb := Below.go hb hn3
  rw [hst]
  clear hn3 hst
  go_wp2
  go_ret2
  exact ⟨rfl, hb⟩
namespace Tpm
/-- what is between smeared time and the civil time of a day with 86400 seconds -/
theorem ap_day {l : Lpm.LL} {h t : Int} (c : Smm.Can l h) (h0 : 0 ≤ t) (h1 : t < Smm.fin l) (d : Int) (hd : Lpm.dayNo l t = d) :
    ∃ D, Smm.toV l h t - (d * 86400000000 + (t - Lpm.start l d)) = D ∧ -500000 ≤ D ∧ D ≤ 500000 ∧ (Smm.inV l h t = false → D = 0) := by
  obtain ⟨a, b⟩ := Smm.to_yes c h0 h1
  obtain ⟨a1, a2⟩ := Smm.apart c h0 h1
  have e : Smm.toV l h t - (d * 86400000000 + (t - Lpm.start l d)) = Smm.smV l h t - (t - 1000000 * Lpm.ofs l (Lpm.dayNo l t)) := by
    rw [b, hd]; unfold Lpm.start; omega
  refine ⟨_, e, ?_, ?_, fun hi => ?_⟩
  · cases hw : Smm.wi l h t with
    | none => have := a1 hw; omega
    | some k => have := a2 k hw; omega
  · cases hw : Smm.wi l h t with
    | none => have := a1 hw; omega
    | some k => have := a2 k hw; omega
  · have hz : Lpm.dE l t = 0 := (Smm.dE_zero c.v).2 ⟨h0, h1⟩
    have : (Smm.wi l h t).isSome = false := by
      unfold Smm.inV at hi
      rw [Smm.can_mk c, hz] at hi
      simpa using hi
    exact a1 (by simpa using this)
end Tpm
set_option maxHeartbeats 2000000 in
set_option maxRecDepth 100000 in
theorem smeared_far (A : Option Addr) (n c : Nat) (l : Lpm.LL) (h t : Int) (w : World) (ht : Tab w) (h1 : Lp w.heap.size w A n l) (q : ¬ n ≤ 20) :
    Calls Tryd.prog 5 #[.slice A n c, .int .i64 h, .int .i64 t] w (LawPost w) := by
  have HT : Hid (∀ W, Below w.heap.size w W → Tab W) := Lib.hid fun W hW => ht.below hW
  have H1 : Hid (∀ W, Below w.heap.size w W → Lp W.heap.size W A n l) := Lib.hid fun W hW => h1.go hW
  have hb := Below.refl w.heap.size w
  clear ht h1
  have q' : (20 : Int) < (n : Int) := by omega
  go_enter Tryd.func5, Tryd.ntmps5
  go_wp2_with fail
  refine (head14 _ (HT.out _ hb)).mono ?_
  rintro e w1 ⟨rfl, hn⟩
  have hb := Below.go hb hn
  clear hn
  go_wp2
  go_ret
  exact ⟨by simp, hb⟩
set_option maxHeartbeats 2000000 in
set_option maxRecDepth 100000 in
theorem smeared_cant (A : Option Addr) (n c : Nat) (l : Lpm.LL) (h t : Int) (w : World) (ht : Tab w) (h1 : Lp w.heap.size w A n l) (q : n ≤ 20) (k : Hid (Smm.can l h = false)) :
    Calls Tryd.prog 5 #[.slice A n c, .int .i64 h, .int .i64 t] w (LawPost w) := by
  have HT : Hid (∀ W, Below w.heap.size w W → Tab W) := Lib.hid fun W hW => ht.below hW
  have H1 : Hid (∀ W, Below w.heap.size w W → Lp W.heap.size W A n l) := Lib.hid fun W hW => h1.go hW
  have hb := Below.refl w.heap.size w
  clear ht h1
  have m : n ≤ 110 := by omega
  have q' : ¬ (20 : Int) < (n : Int) := by omega
  go_enter Tryd.func5, Tryd.ntmps5
  go_wp2_with fail
  refine (head14 _ (HT.out _ hb)).mono ?_
  rintro e w1 ⟨rfl, hn⟩
  have hb := Below.go hb hn
  clear hn
  go_wp2_with fail
  refine (rCan_any A n c l h _ (H1.out _ hb) m).mono ?_
  rintro e w2 ⟨rfl, hn⟩
  have hb := Below.go hb hn
  clear hn
  rw [k.out]
  go_wp2
  go_ret
  exact ⟨by simp, hb⟩
set_option maxHeartbeats 2000000 in
set_option maxRecDepth 100000 in
theorem smeared_err (A : Option Addr) (n c : Nat) (l : Lpm.LL) (h t : Int) (w : World) (ht : Tab w) (h1 : Lp w.heap.size w A n l) (q : n ≤ 20) (k : Hid (Smm.can l h = true)) (E : Hid (Lpm.dE l t ≠ 0)) :
    Calls Tryd.prog 5 #[.slice A n c, .int .i64 h, .int .i64 t] w (LawPost w) := by
  have HT : Hid (∀ W, Below w.heap.size w W → Tab W) := Lib.hid fun W hW => ht.below hW
  have H1 : Hid (∀ W, Below w.heap.size w W → Lp W.heap.size W A n l) := Lib.hid fun W hW => h1.go hW
  have hb := Below.refl w.heap.size w
  clear ht h1
  have m : n ≤ 110 := by omega
  have q' : ¬ (20 : Int) < (n : Int) := by omega
  have HC := Lib.hid (fun (W : World) (hb : Below w.heap.size w W) => To_err A n c l t W (H1.out W hb) m E.out)
  have HS := fun (W : World) (hb : Below w.heap.size w W) => To_any A n c l h t W (H1.out W hb) m
  have HI := fun (W : World) (hb : Below w.heap.size w W) => Inside_any A n c l h t W (H1.out W hb) m
  have eT : Smm.toE l h t = Lpm.dE l t := by unfold Smm.toE; rw [if_pos k.out]
  rw [eT] at HS HI
  have HS := Lib.hid HS
  have HI := Lib.hid HI
  have hE : (Lpm.dE l t != 0) = true := bne_of E.out
  clear eT E
  generalize Lpm.dE l t = E at *
  generalize Smm.toV l h t = V at *
  generalize Smm.inV l h t = I at *
  go_enter Tryd.func5, Tryd.ntmps5
  go_wp2_with fail
  refine (head14 _ (HT.out _ hb)).mono ?_
  rintro e w1 ⟨rfl, hn⟩
  have hb := Below.go hb hn
  clear hn
  go_wp2_with fail
  refine (rCan_any A n c l h _ (H1.out _ hb) m).mono ?_
  rintro e w2 ⟨rfl, hn⟩
  have hb := Below.go hb hn
  clear hn
  rw [k.out]
  go_wp2_with fail
  refine (HC.out _ hb).mono ?_
  rintro e w3 ⟨rfl, hn⟩
  have hb := Below.go hb hn
  clear hn
  have hb := Below.goN hb (.cells #[.int .i64 0, .int .i64 0] 48)
  go_wp2_with fail
  refine (HS.out _ hb).mono ?_
  rintro e w4 ⟨rfl, hn⟩
  have hb := Below.go hb hn
  clear hn
  go_wp2_with fail
  refine (HI.out _ hb).mono ?_
  rintro e w5 ⟨rfl, hn⟩
  have hb := Below.go hb hn
  clear hn
  clear HC HS HI
  go_wp2
  go_ret
  exact ⟨by simp, hb⟩
set_option maxHeartbeats 2000000 in
set_option maxRecDepth 100000 in
theorem smeared_main (A : Option Addr) (n c : Nat) (l : Lpm.LL) (h t : Int) (w : World) (ht : Tab w) (h1 : Lp w.heap.size w A n l) (q : n ≤ 20) (k : Hid (Smm.can l h = true)) (E : Hid (Lpm.dE l t = 0)) :
    Calls Tryd.prog 5 #[.slice A n c, .int .i64 h, .int .i64 t] w (LawPost w) := by
  have HT : Hid (∀ W, Below w.heap.size w W → Tab W) := Lib.hid fun W hW => ht.below hW
  have H1 : Hid (∀ W, Below w.heap.size w W → Lp W.heap.size W A n l) := Lib.hid fun W hW => h1.go hW
  have hb := Below.refl w.heap.size w
  clear ht h1
  have m : n ≤ 110 := by omega
  have q' : ¬ (20 : Int) < (n : Int) := by omega
  have cc := Smm.can_yes k.out
  obtain ⟨t0, t1⟩ := (Smm.dE_zero cc.v).1 E.out
  obtain ⟨hd1, hd2, hd3⟩ := Lpm.dayNo_in cc.v t0 t1
  obtain ⟨hd0, -, -, -⟩ := Lpm.dayNo_spec l t
  obtain ⟨d, hd⟩ : ∃ d, Lpm.dayNo l t = d := ⟨_, rfl⟩
  obtain ⟨D, eD, D0, D1, DI⟩ := Tpm.ap_day cc t0 t1 d hd
  rw [hd] at hd0 hd1 hd2 hd3
  have hA : AtDay l d t := ⟨cc.v, hd0, hd1, hd2, hd3⟩
  obtain ⟨-, -, m0, m1, s0, s1, u0, u1⟩ := at_day hA
  obtain ⟨⟨i0, i1⟩, F, G, eF, eG, F0, F1, G0, -, -, -, -, -⟩ := Smm.inverse1 cc t0 t1 rfl
  obtain ⟨r1, r2, r3, r4⟩ := Smm.fr_is cc i0 i1 (by omega)
  obtain ⟨z1, z2⟩ := Smm.to_yes cc t0 t1
  rw [← z2] at i0 i1 eF eG r1 r2 r3 r4
  rw [eF] at r3
  rw [eG] at r4
  have HC := Lib.hid (fun (W : World) (hb : Below w.heap.size w W) => To_at A n c l d t W (H1.out W hb) m hA)
  have HB := Lib.hid (fun (W : World) (hb : Below w.heap.size w W) => From_at A n c l d t W (H1.out W hb) m hA)
  have HS := fun (W : World) (hb : Below w.heap.size w W) => To_any A n c l h t W (H1.out W hb) m
  have HI := fun (W : World) (hb : Below w.heap.size w W) => Inside_any A n c l h t W (H1.out W hb) m
  have HR := fun (W : World) (hb : Below w.heap.size w W) => From_any A n c l h (Smm.toV l h t) W (H1.out W hb) m
  have HU := fun (W : World) (hb : Below w.heap.size w W) => Start_c (day := d) (c := c) (H1.out W hb) (Nat.le_refl _) m (Below.refl W.heap.size W)
  rw [z1] at HS HI
  rw [r1, r2, r3, r4] at HR
  obtain ⟨a1, a2, -⟩ := Lpm.st_yes (day := d) cc.v hd0 hd1
  rw [a1, a2] at HU
  have HS := Lib.hid HS
  have HI := Lib.hid HI
  have HR := Lib.hid HR
  have HU := Lib.hid HU
  clear z1 z2 r1 r2 r3 r4 eF eG a1 a2 hA cc E hd hd2 hd3
  generalize Smm.toV l h t = V at *
  generalize Smm.inV l h t = I at *
  obtain ⟨mm, hm⟩ : ∃ mm, t - Lpm.start l d = mm := ⟨_, rfl⟩
  rw [hm] at HC HB eD m0 m1
  have eS : Lpm.start l d + mm = t := by omega
  clear hm
  generalize Lpm.start l d = S at *
  have x1 : decide ((1000000 : Int) < 2 * D) = false := decide_eq_false (by omega)
  have x2 : decide (2 * D < -1000000) = false := decide_eq_false (by omega)
  have x3 : decide (F ≤ t) = true := decide_eq_true F1
  have x4 : decide (t ≤ G - 1) = true := decide_eq_true (by omega)
  generalize G - 1 = G1 at *
  go_enter Tryd.func5, Tryd.ntmps5
  go_wp2_with fail
  refine (head14 _ (HT.out _ hb)).mono ?_
  rintro e w1 ⟨rfl, hn⟩
  have hb := Below.go hb hn
  clear hn
  go_wp2_with fail
  refine (rCan_any A n c l h _ (H1.out _ hb) m).mono ?_
  rintro e w2 ⟨rfl, hn⟩
  have hb := Below.go hb hn
  clear hn
  rw [k.out]
  go_wp2_with fail
  refine (HC.out _ hb).mono ?_
  rintro e w3 ⟨rfl, hn⟩
  have hb := Below.go hb hn
  clear hn
  have kx := Lib.hid (heap_new w3 (.cells #[.int .i64 d, .int .i64 mm] 48))
  have hb := Below.goN hb (.cells #[.int .i64 d, .int .i64 mm] 48)
  go_wp2_with fail
  refine (HS.out _ hb).mono ?_
  rintro e w4 ⟨rfl, hn⟩
  have hb := Below.go hb hn
  have kx := Lib.hid (keep' kx.out hn)
  clear hn
  go_wp2_with fail
  refine (HI.out _ hb).mono ?_
  rintro e w5 ⟨rfl, hn⟩
  have hb := Below.go hb hn
  have kx := Lib.hid (keep' kx.out hn)
  clear hn
  obtain ⟨⟨x5, x6⟩, -⟩ := blk2 kx.out
  cases hI : I
  · obtain rfl : D = 0 := DI hI
    clear DI hI
    clear HC HS HI
    go_wp2_with fail
    refine (HR.out _ hb).mono ?_
    rintro e w6 ⟨rfl, hn⟩
    have hb := Below.go hb hn
    have kx := Lib.hid (keep' kx.out hn)
    clear hn
    have ky := Lib.hid (heap_new w6 (.cells #[.int .i64 F, .int .i64 G1] 62))
    have kx := Lib.hid (keepN kx.out (.cells #[.int .i64 F, .int .i64 G1] 62))
    have hb := Below.goN hb (.cells #[.int .i64 F, .int .i64 G1] 62)
    clear x5 x6
    obtain ⟨⟨x5, x6⟩, -⟩ := blk2 kx.out
    go_wp2_with fail
    refine (HU.out _ hb).mono ?_
    rintro e w7 ⟨rfl, hn⟩
    have hb := Below.go hb hn
    have kx := Lib.hid (keep' kx.out hn)
    have ky := Lib.hid (keep' ky.out hn)
    clear hn
    clear x5 x6
    obtain ⟨⟨x5, x6⟩, -⟩ := blk2 kx.out
    go_wp2_with fail
    refine (HB.out _ hb).mono ?_
    rintro e w8 ⟨rfl, hn⟩
    have hb := Below.go hb hn
    have kx := Lib.hid (keep' kx.out hn)
    have ky := Lib.hid (keep' ky.out hn)
    clear hn
    clear x5 x6
    obtain ⟨⟨x5, x6⟩, -⟩ := blk2 kx.out
    obtain ⟨⟨y5, y6⟩, -⟩ := blk2 ky.out
    go_wp2
    go_ret
    exact ⟨by simp, hb⟩
  · clear DI hI
    clear HC HS HI
    go_wp2_with fail
    refine (HR.out _ hb).mono ?_
    rintro e w6 ⟨rfl, hn⟩
    have hb := Below.go hb hn
    have kx := Lib.hid (keep' kx.out hn)
    clear hn
    have ky := Lib.hid (heap_new w6 (.cells #[.int .i64 F, .int .i64 G1] 62))
    have kx := Lib.hid (keepN kx.out (.cells #[.int .i64 F, .int .i64 G1] 62))
    have hb := Below.goN hb (.cells #[.int .i64 F, .int .i64 G1] 62)
    clear x5 x6
    obtain ⟨⟨x5, x6⟩, -⟩ := blk2 kx.out
    go_wp2_with fail
    refine (HU.out _ hb).mono ?_
    rintro e w7 ⟨rfl, hn⟩
    have hb := Below.go hb hn
    have kx := Lib.hid (keep' kx.out hn)
    have ky := Lib.hid (keep' ky.out hn)
    clear hn
    clear x5 x6
    obtain ⟨⟨x5, x6⟩, -⟩ := blk2 kx.out
    go_wp2_with fail
    refine (HB.out _ hb).mono ?_
    rintro e w8 ⟨rfl, hn⟩
    have hb := Below.go hb hn
    have kx := Lib.hid (keep' kx.out hn)
    have ky := Lib.hid (keep' ky.out hn)
    clear hn
    clear x5 x6
    obtain ⟨⟨x5, x6⟩, -⟩ := blk2 kx.out
    obtain ⟨⟨y5, y6⟩, -⟩ := blk2 ky.out
    go_wp2
    go_ret
    exact ⟨by simp, hb⟩
theorem smeared_law (v1 : Value) (l : Lpm.LL) (h t : Int) (w : World) (i1 : IsTab w v1 l) (i2 : (Lit.int .i64 h).wf = true) (i3 : (Lit.int .i64 t).wf = true) (ht : Tab w) :
    Calls Tryd.prog 5 #[v1, .int .i64 h, .int .i64 t] w (LawPost w) := by
  obtain ⟨A, n, c, rfl, -, -, -, h1⟩ := i1
  by_cases q : n ≤ 20
  · cases k : Smm.can l h
    · exact smeared_cant A n c l h t w ht h1 q (Lib.hid k)
    · by_cases E : Lpm.dE l t = 0
      · exact smeared_main A n c l h t w ht h1 q (Lib.hid k) (Lib.hid E)
      · exact smeared_err A n c l h t w ht h1 q (Lib.hid k) (Lib.hid E)
  · exact smeared_far A n c l h t w ht h1 q
end Go.Proofs.YtcnenkhgbifmmaaDoor
