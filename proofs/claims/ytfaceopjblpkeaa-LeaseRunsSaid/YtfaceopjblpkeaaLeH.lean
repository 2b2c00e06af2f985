/- Contracts of the references of chapter 35, and of the laws' own small functions. -/
import Derived.Test.YtfaceopjblpkeaaLeE
set_option linter.unusedVariables false
namespace Go.Proofs.Ytfaceopjblpkeaa
open Go.RowKit
theorem rIV_any (x y : Int) (w : World) : Calls Try.prog 24 #[I2 x y] w (RetB (.bool (Lem.iV x y)) w) := by
  go_enter Try.func24, Try.ntmps24
  go_wp2
  all_goals go_ret
  all_goals exact ⟨ret_bool (by unfold Lem.iV; rw [Bool.eq_iff_iff]; simp; try omega), (Below.refl _ _).alloc (Nat.le_refl _) _⟩
theorem rHolder_any (v : Int) (w : World) : Calls Try.prog 31 #[.int .i64 v] w (Ret (.bool (Lem.hB v)) w) := by
  go_enter Try.func31, Try.ntmps31
  go_wp2
  all_goals go_ret
  all_goals exact ⟨ret_bool (by unfold Lem.hB; rw [Bool.eq_iff_iff]; simp; try omega), rfl⟩
set_option maxHeartbeats 1000000 in
theorem rForm_any (x : Lem.T3) (w : World) : Calls Try.prog 33 #[L3 x] w (RetB (.bool (Lem.form x)) w) := by
  have hc : Hid (Lem.form x = decide (1 ≤ x.1 ∧ x.1 ≤ 64 ∧ 0 ≤ x.2.1 ∧ x.2.1 < x.2.2 ∧ x.2.2 ≤ 3000000000000000)) := Lib.hid rfl
  obtain ⟨x0, x1, x2⟩ := x
  generalize Lem.form (x0, x1, x2) = C at *
  simp only [] at hc
  go_enter Try.func33, Try.ntmps33
  go_wp2
  all_goals go_ret
  all_goals exact ⟨ret_bool (by rw [hc.out, Bool.eq_iff_iff]; simp; try omega), (Below.refl _ _).alloc (Nat.le_refl _) _⟩
theorem moment_any (n : Int) (w : World) (h0 : 0 ≤ n) (h1 : n < 18446744073709551616) : Calls Try.prog 22 #[.int .u64 n] w (Ret (.int .i64 (n % 3000000000000001)) w) := by
  have m0 : 0 ≤ n % 3000000000000001 := by omega
  have m1 : n % 3000000000000001 < 3000000000000001 := by omega
  go_enter Try.func22, Try.ntmps22
  go_wp2
  go_ret
  exact ⟨rfl, rfl⟩
def arLo (t a : Int) : Int := if a < t then t - a else 0
def arHi (t b : Int) : Int := if t + b < 3000000000000000 then t + b else 3000000000000000
set_option maxHeartbeats 1000000 in
theorem around_any (t a b : Int) (w : World) (t0 : 0 ≤ t) (t1 : t ≤ 3000000000000000) (a0 : 0 ≤ a) (a1 : a < 65536) (b0 : 0 ≤ b) (b1 : b < 65536) :
    Calls Try.prog 23 #[.int .i64 t, .int .u16 a, .int .u16 b] w (RetB (I2 (arLo t a) (arHi t b)) w) := by
  have e1 : (if a < t then t - a else 0) = arLo t a := rfl
  have e2 : (if t + b < 3000000000000000 then t + b else 3000000000000000) = arHi t b := rfl
  go_enter Try.func23, Try.ntmps23
  go_wp2
  exact bodyPost_ret (v := I2 (arLo t a) (arHi t b)) (by simp [results, Try.results23, go_sem]) rfl ⟨rfl, by (repeat (with_reducible first | exact Below.refl _ _ | refine Below.drew ?_ | refine Below.setCell ?_ ?_ _ | refine Below.alloc ?_ ?_ _)); all_goals simp; all_goals try omega⟩
theorem ar_bd {t a b : Int} (t0 : 0 ≤ t) (t1 : t ≤ 3000000000000000) (a0 : 0 ≤ a) (b0 : 0 ≤ b) : 0 ≤ arLo t a ∧ arLo t a ≤ t ∧ t ≤ arHi t b ∧ arHi t b ≤ 3000000000000000 := by
  unfold arLo arHi; split <;> split <;> omega
/-- where the reference's condition says that two leases clash -/
theorem clash_eq (x y : Lem.T3) (hx : Lem.form x = true) (hy : Lem.form y = true) : ((if y.2.1 < x.2.1 then x.2.1 else y.2.1) < (if x.2.2 < y.2.2 then x.2.2 else y.2.2)) ↔ (y.2.1 < x.2.2 ∧ x.2.1 < y.2.2) := by
  have a := of_decide_eq_true hx
  have b := of_decide_eq_true hy
  split <;> split <;> omega
/-- the ways of the reference's question -/
theorem clash_ways (x y : Lem.T3) (hx : Lem.form x = true) (hy : Lem.form y = true) : ∃ M N : Int, (if y.2.1 < x.2.1 then x.2.1 else y.2.1) = M ∧ (if x.2.2 < y.2.2 then x.2.2 else y.2.2) = N ∧
    ((y.1 != x.1) = false ∧ Lem.clash x y = false ∨ (y.1 != x.1) = true ∧ decide (M < N) = false ∧ Lem.clash x y = false ∨ (y.1 != x.1) = true ∧ decide (M < N) = true ∧ Lem.clash x y = true) := by
  refine ⟨_, _, rfl, rfl, ?_⟩
  have hc := clash_eq x y hx hy
  by_cases h1 : y.1 = x.1
  · refine .inl ⟨by simpa using h1, ?_⟩
    unfold Lem.clash; rw [decide_eq_false_iff_not]; exact fun h => h.1 h1
  · right
    by_cases h2 : y.2.1 < x.2.2 ∧ x.2.1 < y.2.2
    · refine .inr ⟨by simpa using h1, decide_eq_true (hc.2 h2), ?_⟩
      unfold Lem.clash; exact decide_eq_true ⟨h1, h2⟩
    · refine .inl ⟨by simpa using h1, decide_eq_false (fun h => h2 (hc.1 h)), ?_⟩
      unfold Lem.clash; rw [decide_eq_false_iff_not]; exact fun h => h2 h.2
set_option maxHeartbeats 4000000 in
set_option maxRecDepth 100000 in
theorem rValid_any (A : Option Addr) (n c : Nat) (l : List Lem.T3) (w : World) (hl : Ls w.heap.size w A n l) (hn : n ≤ 70) :
    Calls Try.prog 14 #[.slice A n c] w (RetB (.bool (Lem.valid l)) w) := by
  obtain ⟨hlen, hcell⟩ := hl
  have Hlen := Lib.hid hlen
  clear hlen
  go_enter Try.func14, Try.ntmps14
  go_wp2
  go_loopw [3] (fun i wr => ∃ k : Nat, k ≤ n ∧ i = .int .i64 k ∧ Hid (Lem.vp l k = true) ∧ Below w.heap.size w wr) (fun i _ => n - (intOf i).toNat)
  case atStart => exact ⟨0, Nat.zero_le _, rfl, Lib.hid rfl, Below.refl _ _⟩
  case round =>
    obtain ⟨k, hk, rfl, hv, hb⟩ := hrel
    by_cases hlt : k < n
    · obtain ⟨b, off, rfl, hbB, hc⟩ := hcell (by omega)
      have Hc := Lib.hid hc
      have cellAt : Hid (∀ j W, j < n → Below w.heap.size w W → W.cell? ⟨b, off + j * 3, none⟩ = some (.int .i64 (Lem.at' l j).1) ∧ W.cell? ⟨b, off + j * 3 + 1, none⟩ = some (.int .i64 (Lem.at' l j).2.1) ∧ W.cell? ⟨b, off + j * 3 + 2, none⟩ = some (.int .i64 (Lem.at' l j).2.2)) :=
        Lib.hid (fun j W hj hW => ⟨(hW.cell (p := ⟨b, off + j * 3, none⟩) hbB).trans (Hc.out j hj).1, (hW.cell (p := ⟨b, off + j * 3 + 1, none⟩) hbB).trans (Hc.out j hj).2.1, (hW.cell (p := ⟨b, off + j * 3 + 2, none⟩) hbB).trans (Hc.out j hj).2.2⟩)
      have hno := Lib.hid (valid_no Hlen.out hlt)
      have hvs : Hid (Lem.vp l (k + 1) = (Lem.vp l k && (Lem.form (Lem.at' l k) && !(l.take k).any (Lem.clash (Lem.at' l k))))) := Lib.hid rfl
      have hfs := Lib.hid (vp_form hv.out)
      clear hc hcell
      obtain ⟨c0, c1, c2⟩ := cellAt.out k wr hlt hb
      cases hf : Lem.form (Lem.at' l k)
      · go_wp2_with fail
        refine (rForm_any (Lem.at' l k) _).mono ?_
        rintro e w1 ⟨rfl, hb1⟩
        have hb2 := Below.go hb hb1
        go_wp2
        go_ret
        exact ⟨ret_bool (hno.out (.inl hf)).symm, hb2⟩
      · go_wp2_with fail
        refine (rForm_any (Lem.at' l k) _).mono ?_
        rintro e w1 ⟨rfl, hb1⟩
        have hb2 := Below.go hb hb1
        clear hb1
        go_wp2
        obtain ⟨wo, rfl⟩ : ∃ wo : World, wo = wr := ⟨_, rfl⟩
        go_loopw [5] (fun i wr => ∃ j : Nat, j ≤ k ∧ i = .int .i64 j ∧ Hid ((l.take j).any (Lem.clash (Lem.at' l k)) = false) ∧ Below w.heap.size w wr) (fun i _ => k - (intOf i).toNat)
        case atStart => exact ⟨0, Nat.zero_le _, rfl, Lib.hid rfl, hb2⟩
        case round =>
          obtain ⟨j, hj, rfl, hix, hb3⟩ := hrel
          by_cases hjk : j < k
          · have hs := Lib.hid (Lem.any_snoc (Lem.clash (Lem.at' l k)) Hlen.out (show j < n by omega))
            obtain ⟨e0, e1, e2⟩ := cellAt.out j wr (by omega) hb3
            obtain ⟨f0, f1, f2⟩ := cellAt.out k wr hlt hb3
            obtain ⟨M, N, hM, hN, hw⟩ := clash_ways (Lem.at' l k) (Lem.at' l j) hf (hfs.out j hjk)
            have b0 : (0 : Int) ≤ (j : Int) := by omega
            have b1 : (j : Int) < (n : Int) := by omega
            have b2 : (0 : Int) ≤ (k : Int) := by omega
            have b3 : (k : Int) < (n : Int) := by omega
            clear c0 c1 c2
            generalize Lem.at' l k = x at *
            generalize Lem.at' l j = y at *
            rcases hw with ⟨q1, q2⟩ | ⟨q1, q3, q2⟩ | ⟨q1, q3, q2⟩
            · have hs2 : Hid ((l.take (j + 1)).any (Lem.clash x) = false) := Lib.hid (hs.out.trans (by rw [hix.out, q2]; rfl))
              go_wp2
              go_quiet (fail)
              go_wp2
              go_roundw
              case rel => exact ⟨j + 1, by omega, by go_num, hs2, below_drewN hb3 _⟩
              case measure => simp [intOf]; omega
            · have hs2 : Hid ((l.take (j + 1)).any (Lem.clash x) = false) := Lib.hid (hs.out.trans (by rw [hix.out, q2]; rfl))
              go_wp2
              go_quiet (fail)
              go_wp2
              go_roundw
              case rel => exact ⟨j + 1, by omega, by go_num, hs2, below_drewN hb3 _⟩
              case measure => simp [intOf]; omega
            · have hs2 : Hid ((l.take k).any (Lem.clash x) = true) := Lib.hid (by
                have := hs.out.trans (by rw [q2, Bool.or_true])
                rw [List.any_eq_true] at this ⊢
                obtain ⟨z, hz, hp⟩ := this
                exact ⟨z, (List.take_subset_take_left l (show j + 1 ≤ k by omega)) hz, hp⟩)
              go_wp2
              go_quiet (fail)
              go_wp2
              go_ret
              exact ⟨ret_bool (hno.out (.inr hs2.out)).symm, below_drewN hb3 _⟩
          · obtain rfl : j = k := by omega
            go_wp2
            go_roundw
            case rel => exact ⟨j + 1, by omega, by go_num, Lib.hid (by rw [hvs.out, hv.out, hf, hix.out]; rfl), hb3⟩
            case measure => simp [intOf]; omega
    · obtain rfl : k = n := by omega
      have hz : Hid (Lem.valid l = decide ((k : Int) ≤ 64)) := Lib.hid (by unfold Lem.valid; rw [Hlen.out, hv.out, Bool.true_and, decide_eq_decide]; omega)
      go_wp2
      go_ret
      exact ⟨ret_bool (by rw [hz.out]), hb⟩
end Go.Proofs.Ytfaceopjblpkeaa
