/- Package civil's find and Find, at whole seconds of a valid table's days. -/
import Derived.Test.YtcnenkhgbifmmaaDoorReG
import Derived.Test.YtcnenkhgbifmmaaDoorReMath
import Derived.Test.YtcnenkhgbifmmaaDoorLpE
set_option linter.unusedVariables false
namespace Go.Proofs.YtcnenkhgbifmmaaDoor
open Go.RowKit
theorem cwithin_s (n lo hi : Int) (w : World) : Calls Tryd.prog 61 #[.int .i64 n, .int .i64 lo, .int .i64 hi] w (Ret (.bool (wi n lo hi)) w) := by
  by_cases h1 : lo ≤ n
  · have HR : Hid (wi n lo hi = decide (n ≤ hi)) := Lib.hid (by simp [wi, h1])
    go_enter Tryd.func61, Tryd.ntmps61
    go_wp2
    go_ret
    exact ⟨ret_bool HR.out.symm, rfl⟩
  · have HR : Hid (wi n lo hi = false) := Lib.hid (by simp [wi, h1])
    go_enter Tryd.func61, Tryd.ntmps61
    go_wp2
    go_ret
    exact ⟨ret_bool HR.out.symm, rfl⟩
theorem shas_any (s n m : Int) (w : World) (h0 : 0 ≤ n) (h1 : n ≤ 1000000000000) : Calls Tryd.prog 49 #[.agg #[.int .i64 s, .int .i64 n], .int .i64 m] w (RetB (.bool (wi m 0 (n - 1))) w) := by
  go_enter Tryd.func49, Tryd.ntmps49
  go_wp2_with (go_at_call 61; refine (cwithin_s _ _ _ _).mono ?_; rintro e w' ⟨rfl, rfl⟩)
  go_ret
  exact ⟨rfl, Below.goN (Below.refl _ _) _⟩
theorem stime_any (s n m : Int) (w : World) (h0 : -1000000000000 ≤ s) (h1 : s ≤ 4000000000000000) (h2 : 0 ≤ m) (h3 : m ≤ 1000000000000) : Calls Tryd.prog 50 #[.agg #[.int .i64 s, .int .i64 n], .int .i64 m] w (RetB (.int .i64 (s + m)) w) := by
  go_enter Tryd.func50, Tryd.ntmps50
  go_wp2
  go_ret
  exact ⟨rfl, Below.goN (Below.refl _ _) _⟩
set_option maxHeartbeats 2000000 in
set_option maxRecDepth 100000 in
theorem cfind_yes (A : Option Addr) (n c : Nat) (l : Lpm.LL) (d : Int) (w : World) (hl : Lp w.heap.size w A n l) (hv : Lpm.valid l = true) (h0 : 0 ≤ d) (h1 : d ≤ 34000) :
    Calls Tryd.prog 38 #[.slice A n c, .int .i64 d] w (RetB (.tuple #[.agg #[.int .i64 (Lpm.start l d), .int .i64 (Rc.lenD l d), .int .i64 d], .int .i64 0]) w) := by
  obtain ⟨a1, a2, a3⟩ := Lpm.st_yes (day := d) hv h0 h1
  have hn : n ≤ 110 := by have := Lpm.valid_len hv; have := hl.1; omega
  have HL : Hid (∀ W, Below w.heap.size w W → Lp W.heap.size W A n l) := Lib.hid fun W hW => hl.go hW
  have a3' : Lpm.leV l d = Rc.lenD l d := a3
  clear a3 hl hv
  obtain ⟨o, ho⟩ : ∃ o : Obj, o = .cells #[.int .i64 0, .int .i64 0, .int .i64 0] 85 := ⟨_, rfl⟩
  have hb := Below.goN (Below.refl w.heap.size w) o
  have kx := Lib.hid (heap_new w o)
  subst ho
  go_enter Tryd.func38, Tryd.ntmps38
  go_wp2_with fail
  refine (Length_c (day := d) (HL.out _ hb) (Nat.le_refl _) hn (Below.refl _ _)).mono ?_
  rintro e w1 ⟨rfl, hb1⟩
  have kx := Lib.hid (keep' kx.out hb1)
  have hb := Below.go hb hb1
  clear hb1
  go_wp2_with fail
  refine (Start_c (day := d) (HL.out _ hb) (Nat.le_refl _) hn (Below.refl _ _)).mono ?_
  rintro e w2 ⟨rfl, hb1⟩
  have kx := Lib.hid (keep' kx.out hb1)
  have hb := Below.go hb hb1
  clear hb1
  obtain ⟨⟨c0, c1, c2⟩, f0, f1, f2⟩ := blk3 kx.out
  have hlt := lt_of_heap kx.out
  go_wp2
  exact bodyPost_ret (v := .tuple #[.agg #[.int .i64 (Lpm.start l d), .int .i64 (Rc.lenD l d), .int .i64 d], .int .i64 0]) (by simp [results, Tryd.results38, go_sem, c0, c1, c2]) rfl ⟨rfl, by (repeat (with_reducible first | exact hb | refine Below.drew ?_ | refine Below.setCell ?_ ?_ _)); all_goals (first | omega | (simp; done) | (simp; omega))⟩
/-- it returns a list of numbers in a row of its own, and no error -/
def ListPost (l : List Int) (w : World) (e : Ending) (w' : World) : Prop :=
  ∃ v, e = .returned (.tuple #[v, .int .i64 0]) ∧ w'.ownsRow w.heap.size tI 1 v l.length (cellsI l) ∧ Below w.heap.size w w'
set_option maxHeartbeats 16000000 in
set_option maxRecDepth 100000 in
theorem Find_way (E : Nat) (A : Option Addr) (n c : Nat) (l : Lpm.LL) (d sec f S N : Int) (w : World) (hl : Lp w.heap.size w A n l) (hv : Lpm.valid l = true) (h0 : 0 ≤ d) (h1 : d ≤ 34000) (s0 : 0 ≤ sec) (s1 : sec ≤ 86399)
    (hf : sec * 1000000 = f) (hS : Lpm.start l d = S) (hN : Rc.lenD l d = N) (n0 : 0 ≤ N) (n1 : N ≤ 100000000000) (b0 : -1000000000 ≤ S) (b1 : S ≤ 3000000000000000)
    (hway : (E = 0 ∧ wi f 0 (N - 1) = false) ∨ (E = 1 ∧ wi f 0 (N - 1) = true ∧ wi (f + 1000000) 0 (N - 1) = false) ∨ (E = 1 ∧ wi f 0 (N - 1) = true ∧ wi (f + 1000000) 0 (N - 1) = true ∧ decide (sec < 86399) = true) ∨ (E = 2 ∧ wi f 0 (N - 1) = true ∧ wi (f + 1000000) 0 (N - 1) = true ∧ wi (f + 2000000) 0 (N - 1) = false ∧ decide (sec < 86399) = false)) :
    Calls Tryd.prog 53 #[.slice A n c, .agg #[.int .i64 d, .int .i64 sec, .int .i64 0]] w (ListPost (([S + f, S + (f + 1000000)] : List Int).take E) w) := by
  have HF := Lib.hid (cfind_yes A n c l d (w.alloc (.cells #[.int .i64 d, .int .i64 sec, .int .i64 0] 52)) (hl.go (Below.goN (Below.refl _ _) _)) hv h0 h1)
  rw [hS, hN] at HF
  obtain ⟨i0, hi, hz0, hz1, hz2⟩ := info_parts infoI
  have f0 : 0 ≤ f := by omega
  have f1 : f ≤ 86399000000 := by omega
  have q1 : wi sec 0 86399 = true := wi_t ⟨s0, s1⟩
  have q2 : wi 0 0 999999 = true := wi_t (by omega)
  have kx := Lib.hid (heap_new w (.cells #[.int .i64 d, .int .i64 sec, .int .i64 0] 52))
  have hb := Below.goN (Below.refl w.heap.size w) (.cells #[.int .i64 d, .int .i64 sec, .int .i64 0] 52)
  clear hl hv hS hN
  have HW := Lib.hid hway
  clear hway
  go_enter Tryd.func53, Tryd.ntmps53
  go_wp2_with fail
  refine HF.out.mono ?_
  rintro e w1 ⟨rfl, hb1⟩
  have kx := Lib.hid (keep' kx.out hb1)
  have hb := Below.go hb hb1
  clear hb1 HF
  obtain ⟨⟨c0, c1, c2⟩, -⟩ := blk3 (keepN kx.out (.cells #[.int .i64 S, .int .i64 N, .int .i64 d] 85))
  go_wp2_with (go_at_call 61; refine (cwithin_s _ _ _ _).mono ?_; rintro e w' ⟨rfl, rfl⟩)
  have kd := Lib.hid (heap_new w1 (.cells #[.int .i64 S, .int .i64 N, .int .i64 d] 85))
  have kx := Lib.hid (keepN kx.out (.cells #[.int .i64 S, .int .i64 N, .int .i64 d] 85))
  have hb := Below.goN hb (.cells #[.int .i64 S, .int .i64 N, .int .i64 d] 85)
  clear c0 c1 c2
  generalize w1.alloc (.cells #[.int .i64 S, .int .i64 N, .int .i64 d] 85) = w4 at *
  generalize w1.heap.size = kD at *
  clear hf
  go_loopw [8, 10] (fun v i wr => ∃ (k : Nat) (m : Int) (A : Option Addr) (c : Nat), Hid (k ≤ E) ∧ i = .int .i64 m ∧ v = .slice A k c ∧ ((k = 0 ∧ f = m) ∨ (k = 1 ∧ f + 1000000 = m) ∨ (k = 2 ∧ f + 2000000 = m)) ∧ Hid (wr.ownsRow w4.heap.size tI 1 (.slice A k c) k (cellsI (([S + f, S + (f + 1000000)] : List Int).take k))) ∧ Below w4.heap.size w4 wr) (fun _ i _ => (1000000000000 - intOf i).toNat)
  case atStart => exact ⟨0, f, none, 0, Lib.hid (by omega), rfl, rfl, .inl ⟨rfl, rfl⟩, Lib.hid own_nil, Below.refl _ _⟩
  case round =>
    obtain ⟨k, m, A', c', hkE, rfl, rfl, hkm, hown, hbr⟩ := hrel
    obtain ⟨⟨d0, d1, d2⟩, -⟩ := blk3 (keep' kd.out hbr)
    obtain ⟨⟨e0, e1, e2⟩, -⟩ := blk3 (keep' kx.out hbr)
    rcases hkm with ⟨rfl, rfl⟩ | ⟨rfl, rfl⟩ | ⟨rfl, rfl⟩
    · rcases HW.out with ⟨hE, g1⟩ | ⟨hE, g1, g2⟩ | ⟨hE, g1, g2, g3⟩ | ⟨hE, g1, g2, g3, g4⟩
      · subst hE
        go_wp2_with fail
        refine (shas_any S N (f) _ n0 (by omega)).mono ?_
        rintro e w5 ⟨rfl, hb5⟩
        have hb6 := Below.go hbr hb5
        have ho6 := Lib.hid (own_below hown.out hb5)
        obtain ⟨⟨d0, d1, d2⟩, -⟩ := blk3 (keep' kd.out hb6)
        obtain ⟨⟨e0, e1, e2⟩, -⟩ := blk3 (keep' kx.out hb6)
        clear hb5
        go_wp2
        go_ret2
        exact ⟨_, rfl, own_base (by simpa using ho6.out) hb.size, Below.go hb hb6⟩
      · subst hE
        go_wp2_with fail
        refine (shas_any S N (f) _ n0 (by omega)).mono ?_
        rintro e w5 ⟨rfl, hb5⟩
        have hb6 := Below.go hbr hb5
        have ho6 := Lib.hid (own_below hown.out hb5)
        obtain ⟨⟨d0, d1, d2⟩, -⟩ := blk3 (keep' kd.out hb6)
        obtain ⟨⟨e0, e1, e2⟩, -⟩ := blk3 (keep' kx.out hb6)
        clear hb5
        go_wp2_with fail
        refine (stime_any S N (f) _ (by omega) (by omega) (by omega) (by omega)).mono ?_
        rintro e w7 ⟨rfl, hb7⟩
        have hb8 := Below.go hb6 hb7
        have ho8 := Lib.hid (own_below ho6.out hb7)
        have hbx := Below.goN hb8 (.cells #[.int .i64 (S + (f))] tI)
        clear hb7
        go_wp2_with (at_builtin; refine wpList_append_own_at _ rfl _ _ 71 rfl w4.heap.size tI i0 (.int .i64 0) 1 8 Tryd.underlying71 hi hz0 hz1 hz2 rfl (by decide) _ 0 (cellsI (([S + f, S + (f + 1000000)] : List Int).take 0)) rfl (ho8.out.alloc _) ⟨w7.heap.size, 0, none⟩ 1 1 [.int .i64 (S + (f))] rfl rfl (World.news_of_block (heap_new w7 _)) (by simp [Value.oneCell']) (by unfold maxLen; omega) (by omega) (by have := hb8.size; simp; omega) ?_; intro v' w9 hown' hgrow _ _)
        have hb9 := Below.grown hbx hgrow (by have := hb8.size; simp; omega) (fun g hg => (ho8.out.lt g hg).1)
        have ho9 : w9.ownsRow w4.heap.size tI 1 v' (0 + 1) (cellsI (([S + f, S + (f + 1000000)] : List Int).take (0 + 1))) := hown'
        obtain ⟨A2, c2', rfl, -, -, -⟩ := own_li ho9 (by simp)
        have HO := Lib.hid ho9
        clear ho9 hown' hgrow hbx
        go_wp2
        go_roundw
        case rel => exact ⟨0 + 1, _, A2, c2', Lib.hid (by omega), rfl, rfl, .inr (.inl ⟨rfl, rfl⟩), HO, hb9⟩
        case measure => simp [intOf]; omega
      · subst hE
        go_wp2_with fail
        refine (shas_any S N (f) _ n0 (by omega)).mono ?_
        rintro e w5 ⟨rfl, hb5⟩
        have hb6 := Below.go hbr hb5
        have ho6 := Lib.hid (own_below hown.out hb5)
        obtain ⟨⟨d0, d1, d2⟩, -⟩ := blk3 (keep' kd.out hb6)
        obtain ⟨⟨e0, e1, e2⟩, -⟩ := blk3 (keep' kx.out hb6)
        clear hb5
        go_wp2_with fail
        refine (stime_any S N (f) _ (by omega) (by omega) (by omega) (by omega)).mono ?_
        rintro e w7 ⟨rfl, hb7⟩
        have hb8 := Below.go hb6 hb7
        have ho8 := Lib.hid (own_below ho6.out hb7)
        have hbx := Below.goN hb8 (.cells #[.int .i64 (S + (f))] tI)
        clear hb7
        go_wp2_with (at_builtin; refine wpList_append_own_at _ rfl _ _ 71 rfl w4.heap.size tI i0 (.int .i64 0) 1 8 Tryd.underlying71 hi hz0 hz1 hz2 rfl (by decide) _ 0 (cellsI (([S + f, S + (f + 1000000)] : List Int).take 0)) rfl (ho8.out.alloc _) ⟨w7.heap.size, 0, none⟩ 1 1 [.int .i64 (S + (f))] rfl rfl (World.news_of_block (heap_new w7 _)) (by simp [Value.oneCell']) (by unfold maxLen; omega) (by omega) (by have := hb8.size; simp; omega) ?_; intro v' w9 hown' hgrow _ _)
        have hb9 := Below.grown hbx hgrow (by have := hb8.size; simp; omega) (fun g hg => (ho8.out.lt g hg).1)
        have ho9 : w9.ownsRow w4.heap.size tI 1 v' (0 + 1) (cellsI (([S + f, S + (f + 1000000)] : List Int).take (0 + 1))) := hown'
        obtain ⟨A2, c2', rfl, -, -, -⟩ := own_li ho9 (by simp)
        have HO := Lib.hid ho9
        clear ho9 hown' hgrow hbx
        go_wp2
        go_roundw
        case rel => exact ⟨0 + 1, _, A2, c2', Lib.hid (by omega), rfl, rfl, .inr (.inl ⟨rfl, rfl⟩), HO, hb9⟩
        case measure => simp [intOf]; omega
      · subst hE
        go_wp2_with fail
        refine (shas_any S N (f) _ n0 (by omega)).mono ?_
        rintro e w5 ⟨rfl, hb5⟩
        have hb6 := Below.go hbr hb5
        have ho6 := Lib.hid (own_below hown.out hb5)
        obtain ⟨⟨d0, d1, d2⟩, -⟩ := blk3 (keep' kd.out hb6)
        obtain ⟨⟨e0, e1, e2⟩, -⟩ := blk3 (keep' kx.out hb6)
        clear hb5
        go_wp2_with fail
        refine (stime_any S N (f) _ (by omega) (by omega) (by omega) (by omega)).mono ?_
        rintro e w7 ⟨rfl, hb7⟩
        have hb8 := Below.go hb6 hb7
        have ho8 := Lib.hid (own_below ho6.out hb7)
        have hbx := Below.goN hb8 (.cells #[.int .i64 (S + (f))] tI)
        clear hb7
        go_wp2_with (at_builtin; refine wpList_append_own_at _ rfl _ _ 71 rfl w4.heap.size tI i0 (.int .i64 0) 1 8 Tryd.underlying71 hi hz0 hz1 hz2 rfl (by decide) _ 0 (cellsI (([S + f, S + (f + 1000000)] : List Int).take 0)) rfl (ho8.out.alloc _) ⟨w7.heap.size, 0, none⟩ 1 1 [.int .i64 (S + (f))] rfl rfl (World.news_of_block (heap_new w7 _)) (by simp [Value.oneCell']) (by unfold maxLen; omega) (by omega) (by have := hb8.size; simp; omega) ?_; intro v' w9 hown' hgrow _ _)
        have hb9 := Below.grown hbx hgrow (by have := hb8.size; simp; omega) (fun g hg => (ho8.out.lt g hg).1)
        have ho9 : w9.ownsRow w4.heap.size tI 1 v' (0 + 1) (cellsI (([S + f, S + (f + 1000000)] : List Int).take (0 + 1))) := hown'
        obtain ⟨A2, c2', rfl, -, -, -⟩ := own_li ho9 (by simp)
        have HO := Lib.hid ho9
        clear ho9 hown' hgrow hbx
        go_wp2
        go_roundw
        case rel => exact ⟨0 + 1, _, A2, c2', Lib.hid (by omega), rfl, rfl, .inr (.inl ⟨rfl, rfl⟩), HO, hb9⟩
        case measure => simp [intOf]; omega
    · rcases HW.out with ⟨hE, g1⟩ | ⟨hE, g1, g2⟩ | ⟨hE, g1, g2, g3⟩ | ⟨hE, g1, g2, g3, g4⟩
      · exact absurd hkE.out (by omega)
      · subst hE
        go_wp2_with fail
        refine (shas_any S N (f + 1000000) _ n0 (by omega)).mono ?_
        rintro e w5 ⟨rfl, hb5⟩
        have hb6 := Below.go hbr hb5
        have ho6 := Lib.hid (own_below hown.out hb5)
        obtain ⟨⟨d0, d1, d2⟩, -⟩ := blk3 (keep' kd.out hb6)
        obtain ⟨⟨e0, e1, e2⟩, -⟩ := blk3 (keep' kx.out hb6)
        clear hb5
        go_wp2
        go_ret2
        exact ⟨_, rfl, own_base (by simpa using ho6.out) hb.size, Below.go hb hb6⟩
      · subst hE
        go_wp2_with fail
        refine (shas_any S N (f + 1000000) _ n0 (by omega)).mono ?_
        rintro e w5 ⟨rfl, hb5⟩
        have hb6 := Below.go hbr hb5
        have ho6 := Lib.hid (own_below hown.out hb5)
        obtain ⟨⟨d0, d1, d2⟩, -⟩ := blk3 (keep' kd.out hb6)
        obtain ⟨⟨e0, e1, e2⟩, -⟩ := blk3 (keep' kx.out hb6)
        clear hb5
        go_wp2
        go_ret2
        exact ⟨_, rfl, own_base (by simpa using ho6.out) hb.size, Below.go hb hb6⟩
      · subst hE
        go_wp2_with fail
        refine (shas_any S N (f + 1000000) _ n0 (by omega)).mono ?_
        rintro e w5 ⟨rfl, hb5⟩
        have hb6 := Below.go hbr hb5
        have ho6 := Lib.hid (own_below hown.out hb5)
        obtain ⟨⟨d0, d1, d2⟩, -⟩ := blk3 (keep' kd.out hb6)
        obtain ⟨⟨e0, e1, e2⟩, -⟩ := blk3 (keep' kx.out hb6)
        clear hb5
        go_wp2_with fail
        refine (stime_any S N (f + 1000000) _ (by omega) (by omega) (by omega) (by omega)).mono ?_
        rintro e w7 ⟨rfl, hb7⟩
        have hb8 := Below.go hb6 hb7
        have ho8 := Lib.hid (own_below ho6.out hb7)
        have hbx := Below.goN hb8 (.cells #[.int .i64 (S + (f + 1000000))] tI)
        clear hb7
        go_wp2_with (at_builtin; refine wpList_append_own_at _ rfl _ _ 71 rfl w4.heap.size tI i0 (.int .i64 0) 1 8 Tryd.underlying71 hi hz0 hz1 hz2 rfl (by decide) _ 1 (cellsI (([S + f, S + (f + 1000000)] : List Int).take 1)) rfl (ho8.out.alloc _) ⟨w7.heap.size, 0, none⟩ 1 1 [.int .i64 (S + (f + 1000000))] rfl rfl (World.news_of_block (heap_new w7 _)) (by simp [Value.oneCell']) (by unfold maxLen; omega) (by omega) (by have := hb8.size; simp; omega) ?_; intro v' w9 hown' hgrow _ _)
        have hb9 := Below.grown hbx hgrow (by have := hb8.size; simp; omega) (fun g hg => (ho8.out.lt g hg).1)
        have ho9 : w9.ownsRow w4.heap.size tI 1 v' (1 + 1) (cellsI (([S + f, S + (f + 1000000)] : List Int).take (1 + 1))) := hown'
        obtain ⟨A2, c2', rfl, -, -, -⟩ := own_li ho9 (by simp)
        have HO := Lib.hid ho9
        clear ho9 hown' hgrow hbx
        go_wp2
        go_roundw
        case rel => exact ⟨1 + 1, _, A2, c2', Lib.hid (by omega), rfl, rfl, .inr (.inr ⟨rfl, by omega⟩), HO, hb9⟩
        case measure => simp [intOf]; omega
    · rcases HW.out with ⟨hE, g1⟩ | ⟨hE, g1, g2⟩ | ⟨hE, g1, g2, g3⟩ | ⟨hE, g1, g2, g3, g4⟩
      · exact absurd hkE.out (by omega)
      · exact absurd hkE.out (by omega)
      · exact absurd hkE.out (by omega)
      · subst hE
        go_wp2_with fail
        refine (shas_any S N (f + 2000000) _ n0 (by omega)).mono ?_
        rintro e w5 ⟨rfl, hb5⟩
        have hb6 := Below.go hbr hb5
        have ho6 := Lib.hid (own_below hown.out hb5)
        obtain ⟨⟨d0, d1, d2⟩, -⟩ := blk3 (keep' kd.out hb6)
        obtain ⟨⟨e0, e1, e2⟩, -⟩ := blk3 (keep' kx.out hb6)
        clear hb5
        go_wp2
        go_ret2
        exact ⟨_, rfl, own_base (by simpa using ho6.out) hb.size, Below.go hb hb6⟩
end Go.Proofs.YtcnenkhgbifmmaaDoor
