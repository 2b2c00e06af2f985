/- The walks of the laws SmearGoesOn, SmearApart and SmearWindow. -/
import Derived.Test.YtcabegloipllhaaSmK
set_option linter.unusedVariables false
namespace Go.Proofs.Ytcabegloipllhaa
open Go.RowKit
set_option maxHeartbeats 2000000 in
set_option maxRecDepth 100000 in
theorem few_far (A : Option Addr) (n c : Nat) (h t : Int) (w : World) (hn : ¬ n ≤ 110) (hm : n ≤ 9223372036854775807) : Calls Try.prog 4 #[.slice A n c, .int .i64 h, .int .i64 t] w (LawPost w) ∧ Calls Try.prog 6 #[.slice A n c, .int .i64 h, .int .i64 t] w (LawPost w) := by
  have hb := Below.refl w.heap.size w
  constructor
  · go_enter Try.func4, Try.ntmps4
    go_wp2_with fail
    refine (head_any _).mono ?_
    rintro e wN ⟨rfl, hn⟩
    have hb := (by first | exact Below.go hb hn | exact Below.goA hb hn | exact Below.goAA hb hn | exact Below.goD hb hn | exact Below.goAD hb hn : Below w.heap.size w wN)
    clear hn
    go_wp2_with fail
    refine (few_no _ _ _ _ hn hm).mono ?_
    rintro e w' ⟨rfl, rfl⟩
    go_wp2
    go_ret
    exact ⟨rfl, hb⟩
  · go_enter Try.func6, Try.ntmps6
    go_wp2_with fail
    refine (head_any _).mono ?_
    rintro e wN ⟨rfl, hn⟩
    have hb := (by first | exact Below.go hb hn | exact Below.goA hb hn | exact Below.goAA hb hn | exact Below.goD hb hn | exact Below.goAD hb hn : Below w.heap.size w wN)
    clear hn
    go_wp2_with fail
    refine (few_no _ _ _ _ hn hm).mono ?_
    rintro e w' ⟨rfl, rfl⟩
    go_wp2
    go_ret
    exact ⟨rfl, hb⟩
theorem toE_val {l : Lpm.LL} {h t : Int} (c : Smm.Can l h) : Smm.toE l h t = 0 ∨ Smm.toE l h t = 1 ∨ Smm.toE l h t = 3 := by
  have e : Smm.toE l h t = Lpm.dE l t := by unfold Smm.toE; rw [Smm.can_mk c]; rfl
  rw [e]
  rcases Smm.dE_ways (t := t) c.v with ⟨_, q⟩ | ⟨_, q⟩ | ⟨_, _, q⟩ | ⟨_, _, _, q⟩ <;> rw [q] <;> simp
abbrev ToC (A : Option Addr) (n c : Nat) (h t v e : Int) (w : World) : Prop := ∀ W, Below w.heap.size w W → Calls Try.prog 11 #[.slice A n c, .int .i64 h, .int .i64 t] W (RetB (.tuple #[.int .i64 v, .int .i64 e]) W)
abbrev CanC (A : Option Addr) (n c : Nat) (h : Int) (b : Bool) (w : World) : Prop := ∀ W, Below w.heap.size w W → Calls Try.prog 19 #[.slice A n c, .int .i64 h] W (RetB (.bool b) W)
abbrev InC (A : Option Addr) (n c : Nat) (h t : Int) (b : Bool) (e : Int) (w : World) : Prop := ∀ W, Below w.heap.size w W → Calls Try.prog 15 #[.slice A n c, .int .i64 h, .int .i64 t] W (RetB (.tuple #[.bool b, .int .i64 e]) W)
abbrev ApC (A : Option Addr) (n c : Nat) (h t v e : Int) (w : World) : Prop := ∀ W, Below w.heap.size w W → Calls Try.prog 13 #[.slice A n c, .int .i64 h, .int .i64 t] W (RetB (.tuple #[.int .i64 v, .int .i64 e]) W)
abbrev OfC (A : Option Addr) (n c : Nat) (t v e : Int) (w : World) : Prop := ∀ W, Below w.heap.size w W → Calls Try.prog 20 #[.slice A n c, .int .i64 t] W (RetB (.tuple #[.int .i64 v, .int .i64 e]) W)
abbrev WiC (A : Option Addr) (n c : Nat) (h t v : Int) (w : World) : Prop := ∀ W, Below w.heap.size w W → Calls Try.prog 21 #[.slice A n c, .int .i64 h, .int .i64 t] W (RetB (.int .i64 v) W)
abbrev MiC (A : Option Addr) (n c : Nat) (k : Int) (v : Int) (w : World) : Prop := ∀ W, Below w.heap.size w W → Calls Try.prog 22 #[.slice A n c, .int .i64 k] W (RetB (.int .i64 v) W)
abbrev LpC (A : Option Addr) (n : Nat) (l : Lpm.LL) (w : World) : Prop := ∀ W, Below w.heap.size w W → Lp W.heap.size W A n l
set_option maxHeartbeats 2000000 in
set_option maxRecDepth 100000 in
theorem goes_can (A : Option Addr) (n c : Nat) (h t : Int) (w : World) (hn : n ≤ 110) (hC : Hid (CanC A n c h false w)) : Calls Try.prog 4 #[.slice A n c, .int .i64 h, .int .i64 t] w (LawPost w) := by
  have hb := Below.refl w.heap.size w
  go_enter Try.func4, Try.ntmps4
  go_wp2_with fail
  refine (head_any _).mono ?_
  rintro e wN ⟨rfl, hn⟩
  have hb := (by first | exact Below.go hb hn | exact Below.goA hb hn | exact Below.goAA hb hn | exact Below.goD hb hn | exact Below.goAD hb hn : Below w.heap.size w wN)
  clear hn
  go_wp2_with fail
  refine (few_q _ _ _ _ hn).mono ?_
  rintro e w' ⟨rfl, rfl⟩
  go_wp2_with fail
  refine (hC.out _ hb).mono ?_
  rintro e wN ⟨rfl, hn⟩
  have hb := (by first | exact Below.go hb hn | exact Below.goA hb hn | exact Below.goAA hb hn | exact Below.goD hb hn | exact Below.goAD hb hn : Below w.heap.size w wN)
  clear hn
  go_wp2
  go_ret
  exact ⟨rfl, hb⟩
set_option maxHeartbeats 2000000 in
set_option maxRecDepth 100000 in
theorem goes_one (A : Option Addr) (n c : Nat) (l : Lpm.LL) (h t v E : Int) (w : World) (hn : n ≤ 110) (hC : Hid (CanC A n c h true w)) (HL : Hid (LpC A n l w)) (hT : Hid (ToC A n c h t v E w)) (hE : E = 1 ∨ E = 3) : Calls Try.prog 4 #[.slice A n c, .int .i64 h, .int .i64 t] w (LawPost w) := by
  have hb := Below.refl w.heap.size w
  rcases hE with rfl | rfl
  all_goals
    go_enter Try.func4, Try.ntmps4
    go_wp2_with fail
    refine (head_any _).mono ?_
    rintro e wN ⟨rfl, hn⟩
    have hb := (by first | exact Below.go hb hn | exact Below.goA hb hn | exact Below.goAA hb hn | exact Below.goD hb hn | exact Below.goAD hb hn : Below w.heap.size w wN)
    clear hn
    go_wp2_with fail
    refine (few_q _ _ _ _ hn).mono ?_
    rintro e w' ⟨rfl, rfl⟩
    go_wp2_with fail
    refine (hC.out _ hb).mono ?_
    rintro e wN ⟨rfl, hn⟩
    have hb := (by first | exact Below.go hb hn | exact Below.goA hb hn | exact Below.goAA hb hn | exact Below.goD hb hn | exact Below.goAD hb hn : Below w.heap.size w wN)
    clear hn
    go_wp2_with fail
    refine (hT.out _ hb).mono ?_
    rintro e wN ⟨rfl, hn⟩
    have hb := (by first | exact Below.go hb hn | exact Below.goA hb hn | exact Below.goAA hb hn | exact Below.goD hb hn | exact Below.goAD hb hn : Below w.heap.size w wN)
    clear hn
    go_wp2_with fail
    refine (To_any A n c l h _ _ (HL.out _ hb) hn).mono ?_
    rintro e wN ⟨rfl, hn⟩
    have hb := (by first | exact Below.go hb hn | exact Below.goA hb hn | exact Below.goAA hb hn | exact Below.goD hb hn | exact Below.goAD hb hn : Below w.heap.size w wN)
    clear hn
    go_wp2
    go_ret
    exact ⟨rfl, hb⟩
set_option maxHeartbeats 2000000 in
set_option maxRecDepth 100000 in
theorem goes_two (A : Option Addr) (n c : Nat) (h t v u E : Int) (w : World) (hn : n ≤ 110) (t0 : 0 ≤ t) (t1 : t ≤ 4000000000000000) (hC : Hid (CanC A n c h true w)) (hT1 : Hid (ToC A n c h t v 0 w)) (hT2 : Hid (ToC A n c h (t + 1) u E w)) (hE : E = 1 ∨ E = 3) : Calls Try.prog 4 #[.slice A n c, .int .i64 h, .int .i64 t] w (LawPost w) := by
  have hb := Below.refl w.heap.size w
  rcases hE with rfl | rfl
  all_goals
    go_enter Try.func4, Try.ntmps4
    go_wp2_with fail
    refine (head_any _).mono ?_
    rintro e wN ⟨rfl, hn⟩
    have hb := (by first | exact Below.go hb hn | exact Below.goA hb hn | exact Below.goAA hb hn | exact Below.goD hb hn | exact Below.goAD hb hn : Below w.heap.size w wN)
    clear hn
    go_wp2_with fail
    refine (few_q _ _ _ _ hn).mono ?_
    rintro e w' ⟨rfl, rfl⟩
    go_wp2_with fail
    refine (hC.out _ hb).mono ?_
    rintro e wN ⟨rfl, hn⟩
    have hb := (by first | exact Below.go hb hn | exact Below.goA hb hn | exact Below.goAA hb hn | exact Below.goD hb hn | exact Below.goAD hb hn : Below w.heap.size w wN)
    clear hn
    go_wp2_with fail
    refine (hT1.out _ hb).mono ?_
    rintro e wN ⟨rfl, hn⟩
    have hb := (by first | exact Below.go hb hn | exact Below.goA hb hn | exact Below.goAA hb hn | exact Below.goD hb hn | exact Below.goAD hb hn : Below w.heap.size w wN)
    clear hn
    go_wp2_with fail
    refine (hT2.out _ hb).mono ?_
    rintro e wN ⟨rfl, hn⟩
    have hb := (by first | exact Below.go hb hn | exact Below.goA hb hn | exact Below.goAA hb hn | exact Below.goD hb hn | exact Below.goAD hb hn : Below w.heap.size w wN)
    clear hn
    go_wp2
    go_ret
    exact ⟨rfl, hb⟩
set_option maxHeartbeats 2000000 in
set_option maxRecDepth 100000 in
theorem goes_out (A : Option Addr) (n c : Nat) (h t O : Int) (w : World) (hn : n ≤ 110) (t0 : 0 ≤ t) (t1 : t ≤ 4000000000000000) (ho : -100 ≤ O ∧ O ≤ 100) (hC : Hid (CanC A n c h true w)) (hT1 : Hid (ToC A n c h t (t - 1000000 * O) 0 w)) (hT2 : Hid (ToC A n c h (t + 1) (t - 1000000 * O + 1) 0 w)) (hI : Hid (InC A n c h t false 0 w)) (hO : Hid (OfC A n c t O 0 w)) (hW : Hid (WiC A n c h t (-1) w)) : Calls Try.prog 4 #[.slice A n c, .int .i64 h, .int .i64 t] w (LawPost w) := by
  have hb := Below.refl w.heap.size w
  obtain ⟨o0, o1⟩ := ho
  have e1 : (t - 1000000 * O + 1 - (t - 1000000 * O) == 1) = true := by simp; try omega
  go_enter Try.func4, Try.ntmps4
  go_wp2_with fail
  refine (head_any _).mono ?_
  rintro e wN ⟨rfl, hn⟩
  have hb := (by first | exact Below.go hb hn | exact Below.goA hb hn | exact Below.goAA hb hn | exact Below.goD hb hn | exact Below.goAD hb hn : Below w.heap.size w wN)
  clear hn
  go_wp2_with fail
  refine (few_q _ _ _ _ hn).mono ?_
  rintro e w' ⟨rfl, rfl⟩
  go_wp2_with fail
  refine (hC.out _ hb).mono ?_
  rintro e wN ⟨rfl, hn⟩
  have hb := (by first | exact Below.go hb hn | exact Below.goA hb hn | exact Below.goAA hb hn | exact Below.goD hb hn | exact Below.goAD hb hn : Below w.heap.size w wN)
  clear hn
  go_wp2_with fail
  refine (hT1.out _ hb).mono ?_
  rintro e wN ⟨rfl, hn⟩
  have hb := (by first | exact Below.go hb hn | exact Below.goA hb hn | exact Below.goAA hb hn | exact Below.goD hb hn | exact Below.goAD hb hn : Below w.heap.size w wN)
  clear hn
  go_wp2_with fail
  refine (hT2.out _ hb).mono ?_
  rintro e wN ⟨rfl, hn⟩
  have hb := (by first | exact Below.go hb hn | exact Below.goA hb hn | exact Below.goAA hb hn | exact Below.goD hb hn | exact Below.goAD hb hn : Below w.heap.size w wN)
  clear hn
  go_wp2_with fail
  refine (hI.out _ hb).mono ?_
  rintro e wN ⟨rfl, hn⟩
  have hb := (by first | exact Below.go hb hn | exact Below.goA hb hn | exact Below.goAA hb hn | exact Below.goD hb hn | exact Below.goAD hb hn : Below w.heap.size w wN)
  clear hn
  go_wp2_with fail
  refine (hO.out _ hb).mono ?_
  rintro e wN ⟨rfl, hn⟩
  have hb := (by first | exact Below.go hb hn | exact Below.goA hb hn | exact Below.goAA hb hn | exact Below.goD hb hn | exact Below.goAD hb hn : Below w.heap.size w wN)
  clear hn
  go_wp2_with fail
  refine (hW.out _ hb).mono ?_
  rintro e wN ⟨rfl, hn⟩
  have hb := (by first | exact Below.go hb hn | exact Below.goA hb hn | exact Below.goAA hb hn | exact Below.goD hb hn | exact Below.goAD hb hn : Below w.heap.size w wN)
  clear hn
  go_wp2
  go_ret
  exact ⟨by simp; try omega, hb⟩
set_option maxHeartbeats 2000000 in
set_option maxRecDepth 100000 in
theorem goes_in (b off n c k : Nat) (h t O S S1 s : Int) (w : World) (hn : n ≤ 110) (hk : k < n) (t0 : 0 ≤ t) (t1 : t ≤ 4000000000000000) (hS : -4000000000000000 ≤ S ∧ S ≤ 4000000000000000) (hC : Hid (CanC (some ⟨b, off, none⟩) n c h true w)) (hT1 : Hid (ToC (some ⟨b, off, none⟩) n c h t S 0 w)) (hT2 : Hid (ToC (some ⟨b, off, none⟩) n c h (t + 1) S1 0 w)) (hI : Hid (InC (some ⟨b, off, none⟩) n c h t true 0 w)) (hO : Hid (OfC (some ⟨b, off, none⟩) n c t O 0 w)) (hW : Hid (WiC (some ⟨b, off, none⟩) n c h t (k : Int) w))
    (HC : Hid (∀ W, Below w.heap.size w W → W.cell? ⟨b, off + k * 2 + 1, none⟩ = some (.int .i64 s))) (hways : (s = 1 ∧ S1 = S) ∨ (s = 1 ∧ S1 = S + 1) ∨ (s = -1 ∧ S1 = S + 1) ∨ (s = -1 ∧ S1 = S + 2)) : Calls Try.prog 4 #[.slice (some ⟨b, off, none⟩) n c, .int .i64 h, .int .i64 t] w (LawPost w) := by
  have hb := Below.refl w.heap.size w
  obtain ⟨S0, S2⟩ := hS
  have j0 : (0 : Int) ≤ (k : Int) := by omega
  have j1 : (k : Int) < (n : Int) := by omega
  have j2 : decide ((k : Int) < 0) = false := decide_eq_false (by omega)
  have j3 : decide ((0 : Int) ≤ (k : Int)) = true := decide_eq_true j0
  rcases hways with ⟨rfl, rfl⟩ | ⟨rfl, rfl⟩ | ⟨rfl, rfl⟩ | ⟨rfl, rfl⟩
  all_goals
    go_enter Try.func4, Try.ntmps4
    go_wp2_with fail
    refine (head_any _).mono ?_
    rintro e wN ⟨rfl, hn⟩
    have hb := (by first | exact Below.go hb hn | exact Below.goA hb hn | exact Below.goAA hb hn | exact Below.goD hb hn | exact Below.goAD hb hn : Below w.heap.size w wN)
    clear hn
    go_wp2_with fail
    refine (few_q _ _ _ _ hn).mono ?_
    rintro e w' ⟨rfl, rfl⟩
    go_wp2_with fail
    refine (hC.out _ hb).mono ?_
    rintro e wN ⟨rfl, hn⟩
    have hb := (by first | exact Below.go hb hn | exact Below.goA hb hn | exact Below.goAA hb hn | exact Below.goD hb hn | exact Below.goAD hb hn : Below w.heap.size w wN)
    clear hn
    go_wp2_with fail
    refine (hT1.out _ hb).mono ?_
    rintro e wN ⟨rfl, hn⟩
    have hb := (by first | exact Below.go hb hn | exact Below.goA hb hn | exact Below.goAA hb hn | exact Below.goD hb hn | exact Below.goAD hb hn : Below w.heap.size w wN)
    clear hn
    go_wp2_with fail
    refine (hT2.out _ hb).mono ?_
    rintro e wN ⟨rfl, hn⟩
    have hb := (by first | exact Below.go hb hn | exact Below.goA hb hn | exact Below.goAA hb hn | exact Below.goD hb hn | exact Below.goAD hb hn : Below w.heap.size w wN)
    clear hn
    go_wp2_with fail
    refine (hI.out _ hb).mono ?_
    rintro e wN ⟨rfl, hn⟩
    have hb := (by first | exact Below.go hb hn | exact Below.goA hb hn | exact Below.goAA hb hn | exact Below.goD hb hn | exact Below.goAD hb hn : Below w.heap.size w wN)
    clear hn
    go_wp2_with fail
    refine (hO.out _ hb).mono ?_
    rintro e wN ⟨rfl, hn⟩
    have hb := (by first | exact Below.go hb hn | exact Below.goA hb hn | exact Below.goAA hb hn | exact Below.goD hb hn | exact Below.goAD hb hn : Below w.heap.size w wN)
    clear hn
    go_wp2_with fail
    refine (hW.out _ hb).mono ?_
    rintro e wN ⟨rfl, hn⟩
    have hb := (by first | exact Below.go hb hn | exact Below.goA hb hn | exact Below.goAA hb hn | exact Below.goD hb hn | exact Below.goAD hb hn : Below w.heap.size w wN)
    clear hn
    have cs := HC.out _ hb
    go_wp2
    go_ret
    exact ⟨by simp; try omega, hb⟩
theorem goes_law (v : Value) (l : Lpm.LL) (h t : Int) (w : World) (ht : IsTab w v l) (h1 : (Lit.int .i64 h).wf = true) (h2 : (Lit.int .i64 t).wf = true) : Calls Try.prog 4 #[v, .int .i64 h, .int .i64 t] w (LawPost w) := by
  obtain ⟨A, n, c, rfl, hnc, hcm, hAc, hl⟩ := ht
  unfold maxLen at hcm
  have HL : Hid (LpC A n l w) := Lib.hid fun W hW => (hl.below hW).mono hW.size
  by_cases hn : n ≤ 110
  rotate_left
  · exact (few_far A n c h t w hn (by omega)).1
  have hC : CanC A n c h (Smm.can l h) w := fun W hW => rCan_any A n c l h W (HL.out W hW) hn
  cases hc : Smm.can l h
  · rw [hc] at hC; exact goes_can A n c h t w hn (Lib.hid hC)
  rw [hc] at hC
  have C := Smm.can_yes hc
  have hT : ∀ u, ToC A n c h u (Smm.toV l h u) (Smm.toE l h u) w := fun u W hW => To_any A n c l h u W (HL.out W hW) hn
  by_cases hE1 : Smm.toE l h t = 0
  rotate_left
  · have := toE_val (t := t) C
    exact goes_one A n c l h t _ _ w hn (Lib.hid hC) HL (Lib.hid (hT t)) (by omega)
  obtain ⟨-, hd⟩ := toE_zero hE1
  obtain ⟨s0, s1⟩ := (Smm.dE_zero C.v).1 hd
  have hfb := Smm.fin_bd C
  have hfe : Smm.fin l = Lpm.start l 34001 := rfl
  obtain ⟨y1, y2, -, y4, -⟩ := Smm.to_all hc hd
  have hT1 := hT t
  rw [y1, y2] at hT1
  by_cases hE2 : Smm.toE l h (t + 1) = 0
  rotate_left
  · have := toE_val (t := t + 1) C
    exact goes_two A n c h t _ _ _ w hn s0 (by omega) (Lib.hid hC) (Lib.hid hT1) (Lib.hid (hT (t + 1))) (by omega)
  obtain ⟨-, hd2⟩ := toE_zero hE2
  obtain ⟨s2, s3⟩ := (Smm.dE_zero C.v).1 hd2
  obtain ⟨z1, z2, -, -, -⟩ := Smm.to_all hc hd2
  have hT2 := hT (t + 1)
  rw [z1, z2] at hT2
  have hIn : InC A n c h t (Smm.wi l h t).isSome 0 w := fun W hW => by
    have := Inside_any A n c l h t W (HL.out W hW) hn
    rw [y1, y4] at this; exact this
  have hOf : OfC A n c t (Lpm.ofs l (Lpm.dayNo l t)) 0 w := fun W hW => by
    have := Offset_any W.heap.size A n c l t W (HL.out W hW) (Nat.le_refl _) hn
    rw [hd, (Lpm.d_yes (t := t) C.v s0 (by omega) (Lpm.dayNo_in C.v s0 (by omega)).1).2.2] at this
    exact this
  have hWi : WiC A n c h t (Smm.wiI l h t) w := fun W hW => rWin_any A n c l h t W (HL.out W hW) hn C.v C.h1 C.h2
  have n1 := Smm.sm_near (t := t) C s0 (by omega)
  obtain ⟨g1, g2⟩ := Smm.goes_on C s0 s3
  cases hw : Smm.wi l h t with
  | none =>
    obtain ⟨k1, k2⟩ := g1 hw
    have hI : Smm.wiI l h t = -1 := by unfold Smm.wiI; rw [hw]
    rw [hI] at hWi
    rw [hw] at hIn
    rw [k1] at hT2
    rw [k2] at hT1 hT2
    exact goes_out A n c h t _ w hn s0 (by omega) (Lpm.ofs_bd C.v) (Lib.hid hC) (Lib.hid hT1) (Lib.hid hT2) (Lib.hid hIn) (Lib.hid hOf) (Lib.hid hWi)
  | some k =>
    obtain ⟨hk, hs, q1, q2⟩ := g2 k hw
    have hI : Smm.wiI l h t = (k : Int) := by unfold Smm.wiI; rw [hw]
    have hkn : k < n := by rw [← hl.1]; exact hk
    rw [hI] at hWi
    rw [hw] at hIn
    obtain ⟨b, off, rfl, hbB, hcl⟩ := hl.2 (by omega)
    refine goes_in b off n c k h t _ _ _ (Smm.el l k).2 w hn hkn s0 (by omega) (by omega) (Lib.hid hC) (Lib.hid hT1) (Lib.hid hT2) (Lib.hid hIn) (Lib.hid hOf) (Lib.hid hWi) (Lib.hid fun W hW => (hW.cell (p := ⟨b, off + k * 2 + 1, none⟩) hbB).trans (hcl k hkn).2) ?_
    rcases hs with e | e
    · rcases q1 e with e2 | e2
      · exact .inl ⟨e, e2⟩
      · exact .inr (.inl ⟨e, e2⟩)
    · rcases q2 e with e2 | e2
      · exact .inr (.inr (.inl ⟨e, e2⟩))
      · exact .inr (.inr (.inr ⟨e, e2⟩))
end Go.Proofs.Ytcabegloipllhaa
