/- The law SmearLater, joined. -/
import Derived.Test.YtcabegloipllhaaSmU
set_option linter.unusedVariables false
namespace Go.Proofs.Ytcabegloipllhaa
open Go.RowKit
set_option maxHeartbeats 2000000 in
set_option maxRecDepth 100000 in
theorem lt_far (A : Option Addr) (n c : Nat) (h t u : Int) (less : Bool) (w : World) (hn : ¬ n ≤ 99) (hm : n ≤ 9223372036854775807) : Calls Try.prog 7 #[.slice A n c, .int .i64 h, .int .i64 t, .int .u16 u, .bool less] w (LawPost w) := by
  have hb := Below.refl w.heap.size w
  have q1 : decide (99 < (n : Int)) = true := decide_eq_true (by omega)
  have q2 : decide (99 < n) = true := decide_eq_true (by omega)
  go_enter Try.func7, Try.ntmps7
  go_wp2_with fail
  refine (head_any _).mono ?_
  rintro e wN ⟨rfl, hn⟩
  have hb := (by first | exact Below.go hb hn | exact Below.goA hb hn | exact Below.goAA hb hn | exact Below.goD hb hn | exact Below.goAD hb hn : Below w.heap.size w wN)
  clear hn
  go_wp2
  go_ret
  exact ⟨rfl, hb⟩
set_option maxHeartbeats 2000000 in
set_option maxRecDepth 100000 in
theorem lt_can (A : Option Addr) (n c : Nat) (h t u : Int) (less : Bool) (w : World) (hn : n ≤ 99) (hC : Hid (CanC A n c h false w)) : Calls Try.prog 7 #[.slice A n c, .int .i64 h, .int .i64 t, .int .u16 u, .bool less] w (LawPost w) := by
  have hb := Below.refl w.heap.size w
  have q1 : decide (99 < (n : Int)) = false := decide_eq_false (by omega)
  have q2 : decide (99 < n) = false := decide_eq_false (by omega)
  go_enter Try.func7, Try.ntmps7
  go_wp2_with fail
  refine (head_any _).mono ?_
  rintro e wN ⟨rfl, hn⟩
  have hb := (by first | exact Below.go hb hn | exact Below.goA hb hn | exact Below.goAA hb hn | exact Below.goD hb hn | exact Below.goAD hb hn : Below w.heap.size w wN)
  clear hn
  go_wp2_with fail
  refine (hC.out _ hb).mono ?_
  rintro e wN ⟨rfl, hn⟩
  have hb := (by first | exact Below.go hb hn | exact Below.goA hb hn | exact Below.goAA hb hn | exact Below.goD hb hn | exact Below.goAD hb hn : Below w.heap.size w wN)
  clear hn
  go_wp2
  go_ret
  exact ⟨rfl, hb⟩
theorem later_law (v : Value) (l : Lpm.LL) (h t u : Int) (less : Bool) (w : World) (ht : IsTab w v l) (h1 : (Lit.int .i64 h).wf = true) (h2 : (Lit.int .i64 t).wf = true) (h3 : (Lit.int .u16 u).wf = true) : Calls Try.prog 7 #[v, .int .i64 h, .int .i64 t, .int .u16 u, .bool less] w (LawPost w) := by
  obtain ⟨A, n, c, rfl, hnc, hcm, hAc, hl⟩ := ht
  obtain ⟨u0, u1⟩ := bounds_u16 h3
  unfold maxLen at hcm
  have HL : Hid (LpC A n l w) := Lib.hid fun W hW => (hl.below hW).mono hW.size
  by_cases hn : n ≤ 99
  rotate_left
  · exact lt_far A n c h t u less w hn (by omega)
  have hC : CanC A n c h (Smm.can l h) w := fun W hW => rCan_any A n c l h W (HL.out W hW) (by omega)
  cases hc : Smm.can l h
  · rw [hc] at hC; exact lt_can A n c h t u less w hn (Lib.hid hC)
  rw [hc] at hC
  have C := Smm.can_yes hc
  have hh1 := C.h1
  have hh2 := C.h2
  have hT : ToC A n c h t (Smm.toV l h t) (Smm.toE l h t) w := fun W hW => To_any A n c l h t W (HL.out W hW) (by omega)
  have hP : ApC A n c h t (Smm.apV l h t) (Smm.toE l h t) w := fun W hW => Apart_any A n c l h t W (HL.out W hW) (by omega)
  have hlen : l.length = n := hl.1
  have key : ∀ X S : Int, ∃ M V2 E2 P2 b2, 0 ≤ M ∧ M ≤ 4000000000000000 ∧ (∀ W A' c', Below w.heap.size w W → Lp W.heap.size W A' (n + 1) (l ++ [(X, S)]) → CanC A' (n + 1) c' h b2 W ∧ ToC A' (n + 1) c' h t V2 E2 W ∧ ApC A' (n + 1) c' h t P2 E2 W ∧ (b2 = true → MiC A' (n + 1) c' (n : Int) M W)) ∧
      (b2 = false ∨ (b2 = true ∧ decide (M - h ≤ t) = true) ∨ (b2 = true ∧ decide (M - h ≤ t) = false ∧ V2 = Smm.toV l h t ∧ E2 = Smm.toE l h t ∧ P2 = Smm.apV l h t)) := by
    intro X S
    have base : ∀ (M : Int), (Smm.can (l ++ [(X, S)]) h = true → M = Smm.mid (l ++ [(X, S)]) n) → ∀ W A' c', Below w.heap.size w W → Lp W.heap.size W A' (n + 1) (l ++ [(X, S)]) → CanC A' (n + 1) c' h (Smm.can (l ++ [(X, S)]) h) W ∧ ToC A' (n + 1) c' h t (Smm.toV (l ++ [(X, S)]) h t) (Smm.toE (l ++ [(X, S)]) h t) W ∧ ApC A' (n + 1) c' h t (Smm.apV (l ++ [(X, S)]) h t) (Smm.toE (l ++ [(X, S)]) h t) W ∧ (Smm.can (l ++ [(X, S)]) h = true → MiC A' (n + 1) c' (n : Int) M W) := by
      intro M hM W A' c' _ hL
      have hL' : LpC A' (n + 1) (l ++ [(X, S)]) W := fun W' hW' => (hL.below hW').mono hW'.size
      refine ⟨fun W' hW' => rCan_any A' (n + 1) c' _ h W' (hL' W' hW') (by omega), fun W' hW' => To_any A' (n + 1) c' _ h t W' (hL' W' hW') (by omega), fun W' hW' => Apart_any A' (n + 1) c' _ h t W' (hL' W' hW') (by omega), fun hb W' hW' => ?_⟩
      rw [hM hb]
      exact rMid_any A' (n + 1) c' _ n W' (hL' W' hW') (by omega) (Smm.can_yes hb).v (by omega)
    cases hd : Smm.can (l ++ [(X, S)]) h
    · have b0 := base 0 (fun e => by rw [hd] at e; cases e)
      rw [hd] at b0
      exact ⟨0, _, _, _, false, by omega, by omega, b0, .inl rfl⟩
    · have D := Smm.can_yes hd
      have hmb := Smm.mid_bd D.v (k := n) (by simp; omega)
      have hlb := Lpm.len_bd (day := 34000) D.v
      have b0 := base _ (fun _ => rfl)
      rw [hd] at b0
      refine ⟨_, _, _, _, true, by omega, ?_, b0, ?_⟩
      · have := Smm.end_bd D.v; omega
      · by_cases hq : Smm.mid (l ++ [(X, S)]) n - h ≤ t
        · exact .inr (.inl ⟨rfl, decide_eq_true hq⟩)
        · obtain ⟨e1, e2, e3⟩ := later_eq C D (t := t) (by rw [hlen]; omega)
          exact .inr (.inr ⟨rfl, decide_eq_false hq, e1, e2, e3⟩)
  cases n with
  | zero =>
    obtain ⟨M, V2, E2, P2, b2, m0, m1, HM, hway⟩ := key u (if less then -1 else 1)
    exact lt_zero A c l h t u _ _ M _ _ _ V2 E2 P2 b2 less w (by omega) (Lib.hid hlen) (Lib.hid hAc) u0 u1 hh1 hh2 m0 m1 rfl rfl HL (Lib.hid hC) (Lib.hid hT) (Lib.hid hP) (Lib.hid HM) hway
  | succ p =>
    obtain ⟨d, hd⟩ : ∃ d, (l[p]?.getD (0, 0)).1 = d := ⟨_, rfl⟩
    have hel := Smm.el_mem C.v (k := p) (by omega)
    have hdd : (Smm.el l p).1 = d := hd
    rw [hdd] at hel
    obtain ⟨M, V2, E2, P2, b2, m0, m1, HM, hway⟩ := key (u + (d + 1)) (if less then -1 else 1)
    exact lt_pos A c p l h t u d _ _ M _ _ _ V2 E2 P2 b2 less w (by omega) (Lib.hid hlen) (by omega) (by omega) (Lib.hid hd) u0 u1 hh1 hh2 m0 m1 rfl rfl HL (Lib.hid hC) (Lib.hid hT) (Lib.hid hP) (Lib.hid HM) hway
end Go.Proofs.Ytcabegloipllhaa
