/- The walks of the laws SmearApart and SmearWindow. -/
import Derived.Test.YtcabegloipllhaaSmL
set_option linter.unusedVariables false
namespace Go.Proofs.Ytcabegloipllhaa
open Go.RowKit
set_option maxHeartbeats 2000000 in
set_option maxRecDepth 100000 in
theorem ap_can (A : Option Addr) (n c : Nat) (h t : Int) (w : World) (hn : n ≤ 110) (hC : Hid (CanC A n c h false w)) : Calls Try.prog 6 #[.slice A n c, .int .i64 h, .int .i64 t] w (LawPost w) := by
  have hb := Below.refl w.heap.size w
  go_enter Try.func6, Try.ntmps6
  go_wp2_with fail
  refine (head_any _).mono ?_
  rintro e wN ⟨rfl, hn⟩
  have hb := (by first | exact Below.go hb hn | exact Below.goA hb hn | exact Below.goAA hb hn | exact Below.goD hb hn | exact Below.goAD hb hn : Below w.heap.size w wN)
  clear hn
  go_wp2_with fail
  refine (few_q _ _ _ _ hn).mono ?_
  rintro e w' ⟨rfl, rfl⟩
  go_wp2_with fail
  refine (hC.out _ hb).mono ?_
  rintro e wN ⟨rfl, hn⟩
  have hb := (by first | exact Below.go hb hn | exact Below.goA hb hn | exact Below.goAA hb hn | exact Below.goD hb hn | exact Below.goAD hb hn : Below w.heap.size w wN)
  clear hn
  go_wp2
  go_ret
  exact ⟨rfl, hb⟩
set_option maxHeartbeats 2000000 in
set_option maxRecDepth 100000 in
theorem ap_err (A : Option Addr) (n c : Nat) (h t v u o E : Int) (w : World) (hn : n ≤ 110) (hC : Hid (CanC A n c h true w)) (hT : Hid (ToC A n c h t v E w)) (hP : Hid (ApC A n c h t u E w)) (hO : Hid (OfC A n c t o E w)) (hE : (E != 0) = true) : Calls Try.prog 6 #[.slice A n c, .int .i64 h, .int .i64 t] w (LawPost w) := by
  have hb := Below.refl w.heap.size w
  go_enter Try.func6, Try.ntmps6
  go_wp2_with fail
  refine (head_any _).mono ?_
  rintro e wN ⟨rfl, hn⟩
  have hb := (by first | exact Below.go hb hn | exact Below.goA hb hn | exact Below.goAA hb hn | exact Below.goD hb hn | exact Below.goAD hb hn : Below w.heap.size w wN)
  clear hn
  go_wp2_with fail
  refine (few_q _ _ _ _ hn).mono ?_
  rintro e w' ⟨rfl, rfl⟩
  go_wp2_with fail
  refine (hC.out _ hb).mono ?_
  rintro e wN ⟨rfl, hn⟩
  have hb := (by first | exact Below.go hb hn | exact Below.goA hb hn | exact Below.goAA hb hn | exact Below.goD hb hn | exact Below.goAD hb hn : Below w.heap.size w wN)
  clear hn
  go_wp2_with fail
  refine (hT.out _ hb).mono ?_
  rintro e wN ⟨rfl, hn⟩
  have hb := (by first | exact Below.go hb hn | exact Below.goA hb hn | exact Below.goAA hb hn | exact Below.goD hb hn | exact Below.goAD hb hn : Below w.heap.size w wN)
  clear hn
  go_wp2_with fail
  refine (hP.out _ hb).mono ?_
  rintro e wN ⟨rfl, hn⟩
  have hb := (by first | exact Below.go hb hn | exact Below.goA hb hn | exact Below.goAA hb hn | exact Below.goD hb hn | exact Below.goAD hb hn : Below w.heap.size w wN)
  clear hn
  go_wp2_with fail
  refine (hO.out _ hb).mono ?_
  rintro e wN ⟨rfl, hn⟩
  have hb := (by first | exact Below.go hb hn | exact Below.goA hb hn | exact Below.goAA hb hn | exact Below.goD hb hn | exact Below.goAD hb hn : Below w.heap.size w wN)
  clear hn
  go_wp2
  go_ret
  exact ⟨by simp, hb⟩
set_option maxHeartbeats 2000000 in
set_option maxRecDepth 100000 in
theorem ap_out (A : Option Addr) (n c : Nat) (h t S O : Int) (w : World) (hn : n ≤ 110) (t0 : 0 ≤ t) (t1 : t ≤ 4000000000000000) (ho : -100 ≤ O ∧ O ≤ 100) (hS : -4000000000000000 ≤ S ∧ S ≤ 4000000000000000) (hC : Hid (CanC A n c h true w)) (hT : Hid (ToC A n c h t S 0 w)) (hP : Hid (ApC A n c h t 0 0 w)) (hO : Hid (OfC A n c t O 0 w)) (hW : Hid (WiC A n c h t (-1) w)) (hd : (0 != S - (t - 1000000 * O)) = false) : Calls Try.prog 6 #[.slice A n c, .int .i64 h, .int .i64 t] w (LawPost w) := by
  have hb := Below.refl w.heap.size w
  obtain ⟨o0, o1⟩ := ho
  obtain ⟨q0, q1⟩ := hS
  go_enter Try.func6, Try.ntmps6
  go_wp2_with fail
  refine (head_any _).mono ?_
  rintro e wN ⟨rfl, hn⟩
  have hb := (by first | exact Below.go hb hn | exact Below.goA hb hn | exact Below.goAA hb hn | exact Below.goD hb hn | exact Below.goAD hb hn : Below w.heap.size w wN)
  clear hn
  go_wp2_with fail
  refine (few_q _ _ _ _ hn).mono ?_
  rintro e w' ⟨rfl, rfl⟩
  go_wp2_with fail
  refine (hC.out _ hb).mono ?_
  rintro e wN ⟨rfl, hn⟩
  have hb := (by first | exact Below.go hb hn | exact Below.goA hb hn | exact Below.goAA hb hn | exact Below.goD hb hn | exact Below.goAD hb hn : Below w.heap.size w wN)
  clear hn
  go_wp2_with fail
  refine (hT.out _ hb).mono ?_
  rintro e wN ⟨rfl, hn⟩
  have hb := (by first | exact Below.go hb hn | exact Below.goA hb hn | exact Below.goAA hb hn | exact Below.goD hb hn | exact Below.goAD hb hn : Below w.heap.size w wN)
  clear hn
  go_wp2_with fail
  refine (hP.out _ hb).mono ?_
  rintro e wN ⟨rfl, hn⟩
  have hb := (by first | exact Below.go hb hn | exact Below.goA hb hn | exact Below.goAA hb hn | exact Below.goD hb hn | exact Below.goAD hb hn : Below w.heap.size w wN)
  clear hn
  go_wp2_with fail
  refine (hO.out _ hb).mono ?_
  rintro e wN ⟨rfl, hn⟩
  have hb := (by first | exact Below.go hb hn | exact Below.goA hb hn | exact Below.goAA hb hn | exact Below.goD hb hn | exact Below.goAD hb hn : Below w.heap.size w wN)
  clear hn
  go_wp2_with fail
  refine (hW.out _ hb).mono ?_
  rintro e wN ⟨rfl, hn⟩
  have hb := (by first | exact Below.go hb hn | exact Below.goA hb hn | exact Below.goAA hb hn | exact Below.goD hb hn | exact Below.goAD hb hn : Below w.heap.size w wN)
  clear hn
  go_wp2
  go_ret
  exact ⟨by simp, hb⟩
set_option maxHeartbeats 2000000 in
set_option maxRecDepth 100000 in
theorem ap_in (b off n c k : Nat) (h t S O D M s : Int) (w : World) (hn : n ≤ 110) (hk : k < n) (t0 : 0 ≤ t) (t1 : t ≤ 4000000000000000) (ho : -100 ≤ O ∧ O ≤ 100) (hS : -4000000000000000 ≤ S ∧ S ≤ 4000000000000000) (hC : Hid (CanC (some ⟨b, off, none⟩) n c h true w)) (hT : Hid (ToC (some ⟨b, off, none⟩) n c h t S 0 w)) (hP : Hid (ApC (some ⟨b, off, none⟩) n c h t D 0 w)) (hO : Hid (OfC (some ⟨b, off, none⟩) n c t O 0 w)) (hW : Hid (WiC (some ⟨b, off, none⟩) n c h t (k : Int) w)) (hM : Hid (MiC (some ⟨b, off, none⟩) n c (k : Int) M w))
    (HC : Hid (∀ W, Below w.heap.size w W → W.cell? ⟨b, off + k * 2 + 1, none⟩ = some (.int .i64 s))) (hd : (D != S - (t - 1000000 * O)) = false) (D0 : -500000 ≤ D) (D1 : D ≤ 500000) (B1 B2 : Bool) (hs : decide (0 < s) = B1) (hm : decide (t < M) = B2) (hD : (B1 = B2 ∧ decide (D ≤ 0) = true) ∨ ((!B1) = B2 ∧ decide (0 ≤ D) = true)) : Calls Try.prog 6 #[.slice (some ⟨b, off, none⟩) n c, .int .i64 h, .int .i64 t] w (LawPost w) := by
  have hb := Below.refl w.heap.size w
  obtain ⟨o0, o1⟩ := ho
  obtain ⟨q0, q1⟩ := hS
  have j0 : (0 : Int) ≤ (k : Int) := by omega
  have j1 : (k : Int) < (n : Int) := by omega
  have j2 : decide ((k : Int) < 0) = false := decide_eq_false (by omega)
  have d1 : decide (500000 < D) = false := decide_eq_false (by omega)
  have d2 : decide (D < -500000) = false := decide_eq_false (by omega)
  cases B1 <;> cases B2 <;> rcases hD with ⟨hB, hD⟩ | ⟨hB, hD⟩ <;> first | (exact absurd hB (by decide)) | skip
  all_goals
    clear hB
    go_enter Try.func6, Try.ntmps6
    go_wp2_with fail
    refine (head_any _).mono ?_
    rintro e wN ⟨rfl, hn⟩
    have hb := (by first | exact Below.go hb hn | exact Below.goA hb hn | exact Below.goAA hb hn | exact Below.goD hb hn | exact Below.goAD hb hn : Below w.heap.size w wN)
    clear hn
    go_wp2_with fail
    refine (few_q _ _ _ _ hn).mono ?_
    rintro e w' ⟨rfl, rfl⟩
    go_wp2_with fail
    refine (hC.out _ hb).mono ?_
    rintro e wN ⟨rfl, hn⟩
    have hb := (by first | exact Below.go hb hn | exact Below.goA hb hn | exact Below.goAA hb hn | exact Below.goD hb hn | exact Below.goAD hb hn : Below w.heap.size w wN)
    clear hn
    go_wp2_with fail
    refine (hT.out _ hb).mono ?_
    rintro e wN ⟨rfl, hn⟩
    have hb := (by first | exact Below.go hb hn | exact Below.goA hb hn | exact Below.goAA hb hn | exact Below.goD hb hn | exact Below.goAD hb hn : Below w.heap.size w wN)
    clear hn
    go_wp2_with fail
    refine (hP.out _ hb).mono ?_
    rintro e wN ⟨rfl, hn⟩
    have hb := (by first | exact Below.go hb hn | exact Below.goA hb hn | exact Below.goAA hb hn | exact Below.goD hb hn | exact Below.goAD hb hn : Below w.heap.size w wN)
    clear hn
    go_wp2_with fail
    refine (hO.out _ hb).mono ?_
    rintro e wN ⟨rfl, hn⟩
    have hb := (by first | exact Below.go hb hn | exact Below.goA hb hn | exact Below.goAA hb hn | exact Below.goD hb hn | exact Below.goAD hb hn : Below w.heap.size w wN)
    clear hn
    go_wp2_with fail
    refine (hW.out _ hb).mono ?_
    rintro e w6 ⟨rfl, hn⟩
    have hb := (by first | exact Below.go hb hn | exact Below.goA hb hn | exact Below.goAA hb hn | exact Below.goD hb hn | exact Below.goAD hb hn : Below w.heap.size w w6)
    clear hn
    have hr0 := Below.refl w6.heap.size w6
    have hr1 := hr0.drew
    have MC : Hid (∀ W, Below w6.heap.size w6 W → Calls Try.prog 22 #[.slice (some ⟨b, off, none⟩) n c, .int .i64 (k : Int)] W (fun e W' => e = .returned (.int .i64 M) ∧ Below w6.heap.size w6 W')) := Lib.hid fun W hW => (hM.out W (Below.go hb hW)).mono fun _ _ q => ⟨q.1, Below.go hW q.2⟩
    have HP : Hid (∀ W, Below w6.heap.size w6 W → W.cell? ⟨b, off + k * 2 + 1, none⟩ = some (.int .i64 s) ∧ True) := Lib.hid fun W hW => ⟨HC.out W (Below.go hb hW), trivial⟩
    go_wp2_with fail
    go_region_held3 (fun W => W.cell? ⟨b, off + k * 2 + 1, none⟩ = some (.int .i64 s) ∧ True) (exact HP.out _ (by assumption))
      (first | (go_at_call 22; refine (MC.out _ (by assumption)).mono ?_; rintro e wY ⟨rfl, hY⟩))
    have hbF := Below.go hb hY
    go_wp2
    go_ret
    exact ⟨rfl, hbF⟩
theorem apart_law (v : Value) (l : Lpm.LL) (h t : Int) (w : World) (ht : IsTab w v l) (h1 : (Lit.int .i64 h).wf = true) (h2 : (Lit.int .i64 t).wf = true) : Calls Try.prog 6 #[v, .int .i64 h, .int .i64 t] w (LawPost w) := by
  obtain ⟨A, n, c, rfl, hnc, hcm, hAc, hl⟩ := ht
  unfold maxLen at hcm
  have HL : Hid (LpC A n l w) := Lib.hid fun W hW => (hl.below hW).mono hW.size
  by_cases hn : n ≤ 110
  rotate_left
  · exact (few_far A n c h t w hn (by omega)).2
  have hC : CanC A n c h (Smm.can l h) w := fun W hW => rCan_any A n c l h W (HL.out W hW) hn
  cases hc : Smm.can l h
  · rw [hc] at hC; exact ap_can A n c h t w hn (Lib.hid hC)
  rw [hc] at hC
  have C := Smm.can_yes hc
  have hT : ToC A n c h t (Smm.toV l h t) (Smm.toE l h t) w := fun W hW => To_any A n c l h t W (HL.out W hW) hn
  have hP : ApC A n c h t (Smm.apV l h t) (Smm.toE l h t) w := fun W hW => Apart_any A n c l h t W (HL.out W hW) hn
  have hO : OfC A n c t (Lpm.oV l t) (Smm.toE l h t) w := fun W hW => by
    have e : Smm.toE l h t = Lpm.dE l t := by unfold Smm.toE; rw [hc]; rfl
    rw [e]; exact Offset_any W.heap.size A n c l t W (HL.out W hW) (Nat.le_refl _) hn
  by_cases hE : Smm.toE l h t = 0
  rotate_left
  · exact ap_err A n c h t _ _ _ _ w hn (Lib.hid hC) (Lib.hid hT) (Lib.hid hP) (Lib.hid hO) (bne_of hE)
  obtain ⟨-, hd⟩ := toE_zero hE
  obtain ⟨s0, s1⟩ := (Smm.dE_zero C.v).1 hd
  have hfb := Smm.fin_bd C
  have hfe : Smm.fin l = Lpm.start l 34001 := rfl
  obtain ⟨y1, y2, -, -, y5⟩ := Smm.to_all hc hd
  rw [hE, y2] at hT
  rw [hE, y5] at hP
  rw [hE, (Lpm.d_yes (t := t) C.v s0 (by omega) (Lpm.dayNo_in C.v s0 (by omega)).1).2.2] at hO
  have hWi : WiC A n c h t (Smm.wiI l h t) w := fun W hW => rWin_any A n c l h t W (HL.out W hW) hn C.v C.h1 C.h2
  have n1 := Smm.sm_near (t := t) C s0 (by omega)
  obtain ⟨g1, g2⟩ := Smm.apart C s0 s1
  cases hw : Smm.wi l h t with
  | none =>
    have k1 := g1 hw
    have hI : Smm.wiI l h t = -1 := by unfold Smm.wiI; rw [hw]
    rw [hI] at hWi
    rw [k1] at hP
    exact ap_out A n c h t _ _ w hn s0 (by omega) (Lpm.ofs_bd C.v) (by omega) (Lib.hid hC) (Lib.hid hT) (Lib.hid hP) (Lib.hid hO) (Lib.hid hWi) (by rw [k1]; rfl)
  | some k =>
    obtain ⟨hk, hs, b1, b2, q1, q2, q3, q4⟩ := g2 k hw
    have hI : Smm.wiI l h t = (k : Int) := by unfold Smm.wiI; rw [hw]
    have hkn : k < n := by rw [← hl.1]; exact hk
    rw [hI] at hWi
    have hM : MiC A n c (k : Int) (Smm.mid l k) w := fun W hW => rMid_any A n c l k W (HL.out W hW) hn C.v hkn
    obtain ⟨b, off, rfl, hbB, hcl⟩ := hl.2 (by omega)
    refine ap_in b off n c k h t _ _ _ _ (Smm.el l k).2 w hn hkn s0 (by omega) (Lpm.ofs_bd C.v) (by omega) (Lib.hid hC) (Lib.hid hT) (Lib.hid hP) (Lib.hid hO) (Lib.hid hWi) (Lib.hid hM) (Lib.hid fun W hW => (hW.cell (p := ⟨b, off + k * 2 + 1, none⟩) hbB).trans (hcl k hkn).2) (by simp) b1 b2 _ _ rfl rfl ?_
    rcases hs with e | e <;> rcases Int.lt_or_le t (Smm.mid l k) with e2 | e2
    · left; rw [e, decide_eq_true e2]; exact ⟨rfl, decide_eq_true (q1 e e2)⟩
    · right; rw [e, decide_eq_false (show ¬ t < Smm.mid l k by omega)]; exact ⟨rfl, decide_eq_true (q2 e e2)⟩
    · right; rw [e, decide_eq_true e2]; exact ⟨rfl, decide_eq_true (q3 e e2)⟩
    · left; rw [e, decide_eq_false (show ¬ t < Smm.mid l k by omega)]; exact ⟨rfl, decide_eq_true (q4 e e2)⟩
end Go.Proofs.Ytcabegloipllhaa
