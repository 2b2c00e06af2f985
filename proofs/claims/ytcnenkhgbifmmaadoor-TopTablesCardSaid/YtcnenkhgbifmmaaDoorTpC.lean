/- The contract of the laws' check that they are not vacuous. Condition: the calendar's table lies in memory as the program's text lays it. -/
import Derived.Test.YtcnenkhgbifmmaaDoorTpB
import Derived.Test.YtcnenkhgbifmmaaDoorSmG
import Derived.Test.YtcnenkhgbifmmaaDoorSmH
import Derived.Test.YtcnenkhgbifmmaaDoorReU
set_option linter.unusedVariables false
namespace Go.Proofs.YtcnenkhgbifmmaaDoor
open Go.RowKit
namespace Tpm
def eA : Ed := ⟨1, 0, 9000000000000, 0, 0⟩
def eB : Ed := ⟨2, 864000000000, 9000000000000, 0, 0⟩
def lB : Lpm.LL := [(10, 1)]
theorem fB : foV eA eB [] lB = true ∧ foE eA eB [] lB = 0 := by decide +kernel
def rC : Rec := ⟨1, 1, 0, 0, 9, 12, 86399, false, true⟩
theorem vC : Rc.validB rC = true := by decide
theorem dC : Rc.days rC = [9, 10, 11] := by rfl
theorem yC : Rc.dysE rC = 0 ∧ Rc.dysV rC = [9, 10, 11] := by obtain ⟨a, b⟩ := Rc.dys_yes vC (by rw [dC]; decide); exact ⟨a, b.trans dC⟩
theorem f0 : Rc.fires [] rC = [(9, 863999000000), (10, 950399000000), (11, 1036799000000)] := by unfold Rc.fires; rw [dC]; decide +kernel
theorem f1 : Rc.fires lB rC = [(9, 863999000000), (10, 950399000000), (10, 950400000000), (11, 1036800000000)] := by unfold Rc.fires; rw [dC]; decide +kernel
theorem g0 : Rc.fiE [] rC = 0 ∧ Rc.fiV [] rC = [(9, 863999000000), (10, 950399000000), (11, 1036799000000)] := by obtain ⟨a, b⟩ := Rc.fi_yes (l := []) (by decide) yC.1 (by rw [f0]; decide); exact ⟨a, b.trans f0⟩
theorem g1 : Rc.fiE lB rC = 0 ∧ Rc.fiV lB rC = [(9, 863999000000), (10, 950399000000), (10, 950400000000), (11, 1036800000000)] := by obtain ⟨a, b⟩ := Rc.fi_yes (l := lB) (by decide) yC.1 (by rw [f1]; decide); exact ⟨a, b.trans f1⟩
theorem cC : Rc.coE [] lB rC 0 = 0 := by unfold Rc.coE; rw [if_pos (by decide), g0.1, if_pos rfl, g1.1]
theorem cF : Rc.coF [] lB rC 0 = [(11, 1036799000000)] := by unfold Rc.coF; rw [if_pos cC, g0.2, g1.2]; decide +kernel
theorem cN : Rc.coN [] lB rC 0 = [(10, 950400000000), (11, 1036800000000)] := by unfold Rc.coN; rw [if_pos cC, g0.2, g1.2]; decide +kernel
theorem aB : AtDay lB 11 950401000000 := ⟨by decide, by decide, by decide, by decide, by decide⟩
theorem sB : Smm.toE lB 1000000 950401000000 = 0 ∧ Smm.toV lB 1000000 950401000000 = 950400500000 := by
  have hc : Smm.Can lB 1000000 := Smm.can_yes (by decide)
  obtain ⟨a, b⟩ := Smm.to_yes hc (t := 950401000000) (by decide) (by decide)
  refine ⟨a, b.trans ?_⟩
  have e : Smm.wi lB 1000000 950401000000 = some 0 := by decide
  unfold Smm.smV
  rw [e]
  show Smm.smW lB 1000000 950401000000 0 = _
  decide
end Tpm
open Tpm
set_option maxHeartbeats 2000000 in
set_option maxRecDepth 100000 in
theorem head14 (w : World) (ht : Tab w) : Calls Tryd.prog 6 #[] w (RetB (.bool true) w) := by
  have HT : Hid (∀ W, Below w.heap.size w W → Tab W) := Lib.hid fun W hW => ht.below hW
  clear ht
  have ka := Lib.hid (new30 w (.cells #[.int .i64 1, .int .i64 0, .int .i64 9000000000000, .slice none 0 0, .int .i64 0, .int .i64 0] 43) (.cells #[.int .i64 10, .int .i64 1] 69) (.cells #[.int .i64 2, .int .i64 864000000000, .int .i64 9000000000000, .slice (some ⟨w.heap.size + 1, 0, none⟩) 1 1, .int .i64 0, .int .i64 0] 43))
  have ks := Lib.hid (new31 w (.cells #[.int .i64 1, .int .i64 0, .int .i64 9000000000000, .slice none 0 0, .int .i64 0, .int .i64 0] 43) (.cells #[.int .i64 10, .int .i64 1] 69) (.cells #[.int .i64 2, .int .i64 864000000000, .int .i64 9000000000000, .slice (some ⟨w.heap.size + 1, 0, none⟩) 1 1, .int .i64 0, .int .i64 0] 43))
  have kb := Lib.hid (new32 w (.cells #[.int .i64 1, .int .i64 0, .int .i64 9000000000000, .slice none 0 0, .int .i64 0, .int .i64 0] 43) (.cells #[.int .i64 10, .int .i64 1] 69) (.cells #[.int .i64 2, .int .i64 864000000000, .int .i64 9000000000000, .slice (some ⟨w.heap.size + 1, 0, none⟩) 1 1, .int .i64 0, .int .i64 0] 43))
  have hb := Below.goN (Below.goN (Below.goN (Below.refl w.heap.size w) (.cells #[.int .i64 1, .int .i64 0, .int .i64 9000000000000, .slice none 0 0, .int .i64 0, .int .i64 0] 43)) (.cells #[.int .i64 10, .int .i64 1] 69)) (.cells #[.int .i64 2, .int .i64 864000000000, .int .i64 9000000000000, .slice (some ⟨w.heap.size + 1, 0, none⟩) 1 1, .int .i64 0, .int .i64 0] 43)
  obtain ⟨a0, a1, a2, a3, a4, a5⟩ := blk6 ka.out
  obtain ⟨b0, b1, b2, b3, b4, b5⟩ := blk6 kb.out
  go_enter Tryd.func6, Tryd.ntmps6
  go_wp2_with fail
  refine (Follows_any none (some ⟨w.heap.size + 1, 0, none⟩) 0 0 1 1 [] lB eA eB _ (lp_nil _ _ _) (lp_lit (l := lB) ks.out rfl) (by decide) (by decide)).mono ?_
  rintro e w1 ⟨rfl, hn⟩
  rw [fB.1, fB.2]
  have ka := Lib.hid (keepN (keep' ka.out hn) (.cells #[.int .i64 1, .int .i64 1, .int .i64 0, .int .i64 0, .int .i64 9, .int .i64 12, .int .i64 86399, .bool false, .bool true] 24))
  have ks := Lib.hid (keepN (keep' ks.out hn) (.cells #[.int .i64 1, .int .i64 1, .int .i64 0, .int .i64 0, .int .i64 9, .int .i64 12, .int .i64 86399, .bool false, .bool true] 24))
  have kb := Lib.hid (keepN (keep' kb.out hn) (.cells #[.int .i64 1, .int .i64 1, .int .i64 0, .int .i64 0, .int .i64 9, .int .i64 12, .int .i64 86399, .bool false, .bool true] 24))
  have kr := Lib.hid (heap_new w1 (.cells #[.int .i64 1, .int .i64 1, .int .i64 0, .int .i64 0, .int .i64 9, .int .i64 12, .int .i64 86399, .bool false, .bool true] 24))
  have hb := Below.goN (Below.go hb hn) (.cells #[.int .i64 1, .int .i64 1, .int .i64 0, .int .i64 0, .int .i64 9, .int .i64 12, .int .i64 86399, .bool false, .bool true] 24)
  clear hn
  obtain ⟨a0, a1, a2, a3, a4, a5⟩ := blk6 ka.out
  obtain ⟨b0, b1, b2, b3, b4, b5⟩ := blk6 kb.out
  obtain ⟨r0, r1, r2, r3, r4, r5, r6, r7, r8⟩ := blk9 kr.out
  go_wp2_with fail
  refine (Correct_any none (some ⟨w.heap.size + 1, 0, none⟩) 0 0 1 1 [] lB Tpm.rC 0 _ (HT.out _ hb) (lp_nil _ _ _) (lp_lit (l := lB) ks.out rfl) (by decide) (by decide) ⟨by decide, fun _ => by decide⟩).mono ?_
  rintro e w2 ⟨B1, k1, z1, B2, k2, z2, rfl, -, -, hL1, hL2, hn⟩
  rw [cC]
  rw [cF] at hL1
  rw [cN] at hL2
  obtain rfl : 1 = k1 := hL1.1
  obtain rfl : 2 = k2 := hL2.1
  have L1 := Lib.hid hL1
  have L2 := Lib.hid hL2
  clear hL1 hL2
  have ka := Lib.hid (keep' ka.out hn)
  have ks := Lib.hid (keep' ks.out hn)
  have kb := Lib.hid (keep' kb.out hn)
  have hb := Below.go hb hn
  clear hn
  obtain ⟨b0, b1, b2, b3, b4, b5⟩ := blk6 kb.out
  have S1 := To_any (some ⟨w.heap.size + 1, 0, none⟩) 1 1 lB 1000000 950401000000 w2 (lp_lit (l := lB) ks.out rfl) (by decide)
  rw [sB.1, sB.2] at S1
  have S1 := Lib.hid S1
  go_wp2_with fail
  refine S1.out.mono ?_
  rintro e w3 ⟨rfl, hn⟩
  have ks := Lib.hid (keep' ks.out hn)
  have kb := Lib.hid (keep' kb.out hn)
  have L1 := Lib.hid (Lp.go L1.out hn)
  have L2 := Lib.hid (Lp.go L2.out hn)
  have hb := Below.go hb hn
  clear hn S1
  obtain ⟨b0, b1, b2, b3, b4, b5⟩ := blk6 kb.out
  have S2 := To_at (some ⟨w.heap.size + 1, 0, none⟩) 1 1 lB 11 950401000000 w3 (lp_lit (l := lB) ks.out rfl) (by decide) aB
  rw [show (950401000000 : Int) - Lpm.start lB 11 = 0 by decide] at S2
  have S2 := Lib.hid S2
  go_wp2_with fail
  refine S2.out.mono ?_
  rintro e w4 ⟨rfl, hn⟩
  have L1 := Lib.hid (Lp.go (Lp.go L1.out hn) (Below.goN (Below.refl _ _) (.cells #[.int .i64 11, .int .i64 0] 48)))
  have L2 := Lib.hid (Lp.go (Lp.go L2.out hn) (Below.goN (Below.refl _ _) (.cells #[.int .i64 11, .int .i64 0] 48)))
  have hb := Below.goN (Below.go hb hn) (.cells #[.int .i64 11, .int .i64 0] 48)
  obtain ⟨⟨c0, c1⟩, -⟩ := blk2 (heap_new w4 (.cells #[.int .i64 11, .int .i64 0] 48))
  clear hn S2
  obtain ⟨g1, o1, rfl, -, hc1⟩ := L1.out.2 (by decide)
  obtain ⟨g2, o2, rfl, -, hc2⟩ := L2.out.2 (by decide)
  obtain ⟨x0, x1⟩ := hc1 0 (by decide)
  obtain ⟨y0, y1⟩ := hc2 0 (by decide)
  obtain ⟨z0, z1'⟩ := hc2 1 (by decide)
  clear hc1 hc2
  simp only [Nat.zero_mul, Nat.add_zero, Nat.one_mul, List.getElem?_cons_zero, List.getElem?_cons_succ, Option.getD_some, Nat.reduceMul, Nat.reduceAdd] at x0 x1 y0 y1 z0 z1'
  go_wp2
  go_ret
  exact ⟨rfl, hb⟩
end Go.Proofs.YtcnenkhgbifmmaaDoor
