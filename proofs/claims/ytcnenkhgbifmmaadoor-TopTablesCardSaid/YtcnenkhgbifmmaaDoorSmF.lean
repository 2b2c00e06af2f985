/- The contract of smear.From. -/
import Derived.Test.YtcnenkhgbifmmaaDoorSmE
set_option linter.unusedVariables false
namespace Go.Proofs.YtcnenkhgbifmmaaDoor
open Go.RowKit
/-- the boxes that From's closures hold -/
structure FrIn (W : World) (bl bh bo bw : Nat) (A : Option Addr) (m c : Nat) (h lo v : Int) : Prop where
  cl : W.heap[bl]? = some (.cells #[.slice A m c] 22)
  ch : W.heap[bh]? = some (.cells #[.int .i64 h] 3)
  co : W.heap[bo]? = some (.cells #[.int .i64 lo] 3)
  cw : W.heap[bw]? = some (.cells #[.int .i64 v] 3)
theorem FrIn.below {W W' : World} {bl bh bo bw : Nat} {A : Option Addr} {m c : Nat} {h lo v : Int} (x : FrIn W bl bh bo bw A m c h lo v) (hb : Below W.heap.size W W') : FrIn W' bl bh bo bw A m c h lo v := ⟨keep' x.cl hb, keep' x.ch hb, keep' x.co hb, keep' x.cw hb⟩
set_option maxHeartbeats 2000000 in
set_option maxRecDepth 100000 in
theorem pred_any (bl bh bo bw : Nat) (A : Option Addr) (m c : Nat) (tl : Lpm.LL) (h lo v k : Int) (w : World) (hL : Lp w.heap.size w A m tl) (hm : m ≤ 110) (hc : Smm.Can tl h) (hx : FrIn w bl bh bo bw A m c h lo v) (k0 : 0 ≤ lo) (k1 : 0 ≤ k) (k2 : lo + k < Smm.fin tl) :
    Calls Tryd.prog 46 #[.int .i64 k, .pointer (some ⟨bl, 0, none⟩), .pointer (some ⟨bh, 0, none⟩), .pointer (some ⟨bo, 0, none⟩), .pointer (some ⟨bw, 0, none⟩)] w (RetB (.bool (decide (v ≤ Smm.smV tl h (lo + k)))) w) := by
  have hT := Lib.hid (To_any A m c tl h (lo + k) w hL hm)
  obtain ⟨e1, e2⟩ := Smm.to_yes (t := lo + k) hc (by omega) k2
  rw [e1, e2] at hT
  have hf := Smm.fin_bd hc
  have c1 := blk1 hx.cl
  have c2 := blk1 hx.ch
  have c3 := blk1 hx.co
  have HX := Lib.hid hx
  clear e1 e2 hx hc
  generalize Smm.smV tl h (lo + k) = S at *
  go_enter Tryd.func46, Tryd.ntmps46
  go_wp2_with fail
  refine hT.out.mono ?_
  rintro e w1 ⟨rfl, hb1⟩
  have c4 := blk1 (keep' HX.out.cw hb1)
  go_wp2
  go_ret
  exact ⟨rfl, hb1⟩
set_option maxHeartbeats 2000000 in
theorem find2_any (bl bh bo bw : Nat) (A : Option Addr) (m c : Nat) (tl : Lpm.LL) (h lo hi v N : Int) (w : World) (hL : Lp w.heap.size w A m tl) (hm : m ≤ 110) (hc : Smm.Can tl h) (hx : FrIn w bl bh bo bw A m c h lo v) (l0 : 0 ≤ lo) (i0 : hi ≤ Smm.fin tl) (hN : hi - lo = N) (hN0 : 0 ≤ N) (hN1 : N ≤ 300000000) (f1 : lo ≤ Smm.fst tl h v) (f2 : Smm.fst tl h v ≤ hi) :
    Calls Tryd.prog 45 #[.int .i64 N, .func (.func 46) #[] #[.pointer (some ⟨bl, 0, none⟩), .pointer (some ⟨bh, 0, none⟩), .pointer (some ⟨bo, 0, none⟩), .pointer (some ⟨bw, 0, none⟩)]] w (RetB (.int .i64 (Smm.fst tl h v - lo)) w) := by
  have HC := Lib.hid hc
  have HX := Lib.hid hx
  have HL := Lib.hid hL
  have HF := Lib.hid (fun i => Smm.found (i := i) (h := h) (v := v) (lo := lo) (hi := hi) hc l0 i0 f1 f2)
  have hfb := Smm.fin_bd hc
  clear hc hx hL f1 f2
  go_enter Tryd.func45, Tryd.ntmps45
  go_wp2
  go_loopw [5, 6] (fun a b wr => ∃ i j : Int, 0 ≤ i ∧ i ≤ j ∧ j ≤ N ∧ a = .int .i64 i ∧ b = .int .i64 j ∧ Hid (0 < i → Smm.smV tl h (lo + (i - 1)) < v) ∧ Hid (j < N → v ≤ Smm.smV tl h (lo + j)) ∧ Below w.heap.size w wr) (fun a b _ => (intOf b - intOf a).toNat)
  case atStart => exact ⟨0, N, by omega, by omega, by omega, rfl, rfl, Lib.hid (fun h => by omega), Lib.hid (fun h => by omega), Below.refl _ _⟩
  case round =>
    obtain ⟨i, j, h1, h2, h3, rfl, rfl, hlo, hhi, hb⟩ := hrel
    have hbs := hb.size
    by_cases hlt : i < j
    · have hce : ∃ x, (i + j) / 2 = x ∧ i ≤ x ∧ x < j := ⟨_, rfl, by omega, by omega⟩
      obtain ⟨x, hh, hh1, hh2⟩ := hce
      have hP := Lib.hid (pred_any bl bh bo bw A m c tl h lo v x wr ((HL.out.below hb).mono hbs) hm HC.out (HX.out.below hb) l0 (by omega) (by omega))
      by_cases ht : v ≤ Smm.smV tl h (lo + x)
      · have hd : decide (v ≤ Smm.smV tl h (lo + x)) = true := by simpa using ht
        rw [hd] at hP
        clear hd
        go_wp2_with (go_at_call 46; refine hP.out.mono ?_; rintro e w' ⟨rfl, hw⟩)
        go_roundw
        case rel => exact ⟨i, x, by omega, by omega, by omega, rfl, rfl, hlo, Lib.hid (fun _ => ht), Below.go hb hw⟩
        case measure => simp [intOf]; omega
      · have hd : decide (v ≤ Smm.smV tl h (lo + x)) = false := by simpa using ht
        rw [hd] at hP
        clear hd
        go_wp2_with (go_at_call 46; refine hP.out.mono ?_; rintro e w' ⟨rfl, hw⟩)
        go_roundw
        case rel => exact ⟨x + 1, j, by omega, by omega, by omega, rfl, rfl, Lib.hid (fun _ => by rw [show x + 1 - 1 = x by omega]; omega), hhi, Below.go hb hw⟩
        case measure => simp [intOf]; omega
    · obtain rfl : i = j := by omega
      have hfin : Hid (Smm.fst tl h v - lo = i) := Lib.hid (by have := HF.out i h1 (by omega) hlo.out (fun q => hhi.out (by omega)); omega)
      go_wp2
      go_ret
      exact ⟨ret_int hfin.out.symm, hb⟩
set_option maxHeartbeats 2000000 in
set_option maxRecDepth 100000 in
theorem least_any (bo bi bl bh : Nat) (A : Option Addr) (m c : Nat) (tl : Lpm.LL) (h lo hi v : Int) (w : World) (hL : Lp w.heap.size w A m tl) (hm : m ≤ 110) (hc : Smm.Can tl h)
    (cl : w.heap[bl]? = some (.cells #[.slice A m c] 22)) (ch : w.heap[bh]? = some (.cells #[.int .i64 h] 3)) (co : w.heap[bo]? = some (.cells #[.int .i64 lo] 3)) (ci : w.heap[bi]? = some (.cells #[.int .i64 hi] 3))
    (l0 : 0 ≤ lo) (i0 : hi ≤ Smm.fin tl) (hN0 : lo < hi) (hN1 : hi - lo ≤ 300000000) (f1 : lo ≤ Smm.fst tl h v) (f2 : Smm.fst tl h v ≤ hi) :
    Calls Tryd.prog 44 #[.int .i64 v, .pointer (some ⟨bo, 0, none⟩), .pointer (some ⟨bi, 0, none⟩), .pointer (some ⟨bl, 0, none⟩), .pointer (some ⟨bh, 0, none⟩)] w (RetB (.int .i64 (Smm.fst tl h v)) w) := by
  have hmf : ∀ (fn : Fn) (first cap : Array Value) (w : World), (Instr.makeFunc fn first cap).run Tryd.prog w = .ok (.func fn first cap) w := fun _ _ _ _ => rfl
  have hfb := Smm.fin_bd hc
  have hb0 : Below w.heap.size w (w.alloc (.cells #[.int .i64 v] 3)) := (Below.refl _ _).alloc (Nat.le_refl _) _
  have HCO := Lib.hid co
  have HCI := Lib.hid ci
  have HP : Hid (∀ W, Below (w.alloc (.cells #[.int .i64 v] 3)).heap.size (w.alloc (.cells #[.int .i64 v] 3)) W → W.cell? ⟨bo, 0, none⟩ = some (.int .i64 lo) ∧ W.cell? ⟨bi, 0, none⟩ = some (.int .i64 hi)) := Lib.hid fun W hW => ⟨blk1 (keepA HCO.out hW), blk1 (keepA HCI.out hW)⟩
  have HS : Hid (∀ W, Below (w.alloc (.cells #[.int .i64 v] 3)).heap.size (w.alloc (.cells #[.int .i64 v] 3)) W → Calls Tryd.prog 45 #[.int .i64 (hi - lo), .func (.func 46) #[] #[.pointer (some ⟨bl, 0, none⟩), .pointer (some ⟨bh, 0, none⟩), .pointer (some ⟨bo, 0, none⟩), .pointer (some ⟨w.heap.size, 0, none⟩)]] W (fun e W' => e = .returned (.int .i64 (Smm.fst tl h v - lo)) ∧ Below (w.alloc (.cells #[.int .i64 v] 3)).heap.size (w.alloc (.cells #[.int .i64 v] 3)) W')) := Lib.hid fun W hW =>
    (find2_any bl bh bo w.heap.size A m c tl h lo hi v (hi - lo) W ((hL.below (Below.go hb0 hW)).mono (Below.go hb0 hW).size) hm hc ⟨keepA cl hW, keepA ch hW, keepA HCO.out hW, keep' (heap_new _ _) hW⟩ l0 i0 rfl (by omega) (by omega) f1 f2).mono fun _ _ q => ⟨q.1, Below.go hW q.2⟩
  have hr0 := Below.refl (w.alloc (.cells #[.int .i64 v] 3)).heap.size (w.alloc (.cells #[.int .i64 v] 3))
  have hr1 := hr0.drew
  have wr1 : IntKind.i64.wrap (hi - lo) = hi - lo := IntWalk.i64_in _ (by omega)
  have wr2 : IntKind.i64.wrap (lo + (Smm.fst tl h v - lo)) = Smm.fst tl h v := by rw [show lo + (Smm.fst tl h v - lo) = Smm.fst tl h v by omega]; exact IntWalk.i64_in _ (by omega)
  clear hL hc cl ch co ci f1 f2
  go_enter Tryd.func44, Tryd.ntmps44
  go_wp2_with fail
  go_region_held3 (fun W => W.cell? ⟨bo, 0, none⟩ = some (.int .i64 lo) ∧ W.cell? ⟨bi, 0, none⟩ = some (.int .i64 hi)) (exact HP.out _ (by assumption))
    (first | (go_at_call 45; refine (HS.out _ (by assumption)).mono ?_; rintro e wY ⟨rfl, hY⟩))
  have hbF := Below.go hb0 hY
  clear wr1
  go_wp2
  go_ret
  exact ⟨rfl, hbF⟩
end Go.Proofs.YtcnenkhgbifmmaaDoor
