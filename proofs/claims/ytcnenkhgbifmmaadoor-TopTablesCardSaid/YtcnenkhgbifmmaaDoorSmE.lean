/- The contracts of smear.To, smear.Inside and smear.Apart. -/
import Derived.Test.YtcnenkhgbifmmaaDoorSmD
set_option linter.unusedVariables false
namespace Go.Proofs.YtcnenkhgbifmmaaDoor
open Go.RowKit
theorem ret_bi {a a' : Bool} {b b' : Int} (h1 : a = a') (h2 : b = b') : Ending.returned (.tuple #[.bool a, .int .i64 b]) = .returned (.tuple #[.bool a', .int .i64 b']) := by rw [h1, h2]
namespace Smm
noncomputable def soV (l : Lpm.LL) (h t : Int) : Int := if can l h then Lpm.oV l t else 0
theorem to_bad {l : Lpm.LL} {h t : Int} (c : can l h = false) : toE l h t = 1 ∧ toV l h t = 0 ∧ soV l h t = 0 ∧ inV l h t = false ∧ apV l h t = 0 := by unfold toE toV soV inV apV; rw [c]; exact ⟨rfl, rfl, rfl, rfl, rfl⟩
theorem to_far {l : Lpm.LL} {h t : Int} (c : can l h = true) (hd : Lpm.dE l t ≠ 0) : toE l h t = Lpm.dE l t ∧ toV l h t = 0 ∧ soV l h t = Lpm.oV l t ∧ inV l h t = false ∧ apV l h t = 0 := by
  unfold toE toV soV inV apV; rw [c, if_pos rfl, if_pos rfl, if_pos rfl, if_pos rfl, if_neg hd, if_neg hd, decide_eq_false hd]; exact ⟨rfl, rfl, rfl, rfl, rfl⟩
theorem to_all {l : Lpm.LL} {h t : Int} (c : can l h = true) (hd : Lpm.dE l t = 0) : toE l h t = 0 ∧ toV l h t = smV l h t ∧ soV l h t = Lpm.ofs l (Lpm.dayNo l t) ∧ inV l h t = (wi l h t).isSome ∧ apV l h t = smV l h t - (t - 1000000 * Lpm.ofs l (Lpm.dayNo l t)) := by
  have v := (can_yes c).v
  have hb := (dE_zero v).1 hd
  have he := end_bd v
  have hf : fin l = Lpm.start l 34001 := rfl
  have o := (Lpm.d_yes (t := t) v hb.1 (by omega) (Lpm.dayNo_in v hb.1 (by omega)).1).2.2
  unfold toE toV soV inV apV; rw [c, if_pos rfl, if_pos rfl, if_pos rfl, if_pos rfl, if_pos hd, if_pos hd, decide_eq_true hd, o]; exact ⟨hd, rfl, rfl, rfl, rfl⟩
theorem wi_some {l : Lpm.LL} {h t : Int} {k : Nat} (e : wi l h t = some k) : k < l.length ∧ mid l k - h ≤ t ∧ t < mid l k + h := by
  unfold wi at e
  have h1 := List.find?_some e
  have h2 := List.mem_of_find?_eq_some e
  unfold inW at h1
  simp only [Bool.and_eq_true, decide_eq_true_eq] at h1
  exact ⟨List.mem_range.1 h2, h1.1, h1.2⟩
theorem smV_some {l : Lpm.LL} {h t : Int} {k : Nat} (e : wi l h t = some k) : smV l h t = mid l k - h - 1000000 * os l k + (t - (mid l k - h)) - adj h (el l k).2 (t - (mid l k - h)) := by
  unfold smV; rw [e]; show smW l h t k = _; unfold smW; omega
theorem smV_none {l : Lpm.LL} {h t : Int} (e : wi l h t = none) : smV l h t = t - 1000000 * Lpm.ofs l (Lpm.dayNo l t) := by unfold smV; rw [e]
end Smm
theorem Offset_any (B : Nat) (A : Option Addr) (n c : Nat) (l : Lpm.LL) (t : Int) (w : World) (hl : Lp B w A n l) (hB : B ≤ w.heap.size) (hn : n ≤ 110) : Calls Tryd.prog 57 #[.slice A n c, .int .i64 t] w (RetB (.tuple #[.int .i64 (Lpm.oV l t), .int .i64 (Lpm.dE l t)]) w) := Offset_c hl hB hn (Below.refl _ _)
set_option maxHeartbeats 2000000 in
set_option maxRecDepth 100000 in
theorem soff_any (A : Option Addr) (m c : Nat) (tl : Lpm.LL) (h t : Int) (w : World) (hL : Lp w.heap.size w A m tl) (hm : m ≤ 110) : Calls Tryd.prog 40 #[.slice A m c, .int .i64 h, .int .i64 t] w (RetB (.tuple #[.int .i64 (Smm.soV tl h t), .int .i64 (Smm.toE tl h t)]) w) := by
  have hC := Lib.hid (can_any A m c tl h w hL hm)
  cases hc : Smm.can tl h
  · rw [hc] at hC
    have hz := Lib.hid (Smm.to_bad (t := t) hc)
    go_enter Tryd.func40, Tryd.ntmps40
    go_wp2_with fail
    refine hC.out.mono ?_
    rintro e w1 ⟨rfl, hb1⟩
    go_wp2
    go_ret2
    exact ⟨ret_two hz.out.2.2.1.symm hz.out.1.symm, hb1⟩
  · rw [hc] at hC
    have hz : Hid (Smm.toE tl h t = Lpm.dE tl t ∧ Smm.soV tl h t = Lpm.oV tl t) := Lib.hid (by
      by_cases hd : Lpm.dE tl t = 0
      · have := Smm.to_all hc hd
        refine ⟨by rw [this.1, hd], ?_⟩
        unfold Smm.soV; rw [hc]; rfl
      · have := Smm.to_far hc hd; exact ⟨this.1, this.2.2.1⟩)
    go_enter Tryd.func40, Tryd.ntmps40
    go_wp2_with fail
    refine hC.out.mono ?_
    rintro e w1 ⟨rfl, hb1⟩
    have hO := Lib.hid (Offset_any w.heap.size A m c tl t w1 (hL.below hb1) hb1.size hm)
    go_wp2_with fail
    refine hO.out.mono ?_
    rintro e w2 ⟨rfl, hb2⟩
    go_wp2
    go_ret2
    exact ⟨ret_two hz.out.2.symm hz.out.1.symm, Below.go hb1 hb2⟩
set_option maxHeartbeats 2000000 in
set_option maxRecDepth 100000 in
theorem To_any (A : Option Addr) (m c : Nat) (tl : Lpm.LL) (h t : Int) (w : World) (hL : Lp w.heap.size w A m tl) (hm : m ≤ 110) : Calls Tryd.prog 18 #[.slice A m c, .int .i64 h, .int .i64 t] w (RetB (.tuple #[.int .i64 (Smm.toV tl h t), .int .i64 (Smm.toE tl h t)]) w) := by
  have hO := Lib.hid (soff_any A m c tl h t w hL hm)
  by_cases hE : Smm.toE tl h t = 0
  rotate_left
  · have hz : Hid (Smm.toV tl h t = 0) := Lib.hid (by
      cases hc : Smm.can tl h
      · exact (Smm.to_bad hc).2.1
      · by_cases hd : Lpm.dE tl t = 0
        · exact absurd (Smm.to_all hc hd).1 hE
        · exact (Smm.to_far hc hd).2.1)
    have hne := bne_of hE
    generalize Smm.toE tl h t = E at *
    go_enter Tryd.func18, Tryd.ntmps18
    go_wp2_with fail
    refine hO.out.mono ?_
    rintro e w1 ⟨rfl, hb1⟩
    go_wp2
    go_ret2
    exact ⟨ret_two hz.out.symm rfl, hb1⟩
  have hc : Smm.can tl h = true := by
    cases hc : Smm.can tl h
    · have := (Smm.to_bad (t := t) hc).1; omega
    · rfl
  have hd : Lpm.dE tl t = 0 := by
    by_cases hd : Lpm.dE tl t = 0
    · exact hd
    · have := (Smm.to_far hc hd).1; omega
  have hcan := Smm.can_yes hc
  obtain ⟨t0, t1⟩ := (Smm.dE_zero hcan.v).1 hd
  have hf := Smm.fin_bd hcan
  obtain ⟨z1, z2, z3, -, -⟩ := Smm.to_all hc hd
  have hF := Lib.hid (fun W (hW : Below w.heap.size w W) => find_any A m c tl h t W ((hL.below hW).mono hW.size) hm hcan.v hcan.h1 hcan.h2)
  rw [z1, z3] at hO
  rw [z1]
  have hob := Lpm.ofs_bd (day := Lpm.dayNo tl t) hcan.v
  cases hw : Smm.wi tl h t with
  | none =>
    have hz : Hid (Smm.toV tl h t = t - 1000000 * Lpm.ofs tl (Lpm.dayNo tl t)) := Lib.hid (z2.trans (Smm.smV_none hw))
    have hF' : Hid (∀ W, Below w.heap.size w W → Calls Tryd.prog 41 #[.slice A m c, .int .i64 h, .int .i64 t] W (RetB (.tuple #[A4 0 0 0 0, .bool false]) W)) := Lib.hid fun W hW => by have := hF.out W hW; unfold fndV at this; rw [hw] at this; exact this
    clear hF hw z2 z3 hE
    generalize Lpm.ofs tl (Lpm.dayNo tl t) = O at *
    go_enter Tryd.func18, Tryd.ntmps18
    go_wp2_with fail
    refine hO.out.mono ?_
    rintro e w1 ⟨rfl, hb1⟩
    go_wp2_with fail
    refine (hF'.out _ hb1).mono ?_
    rintro e w2 ⟨rfl, hb2⟩
    have hb := Below.goN (Below.go hb1 hb2) (oW 0 0 0 0)
    go_wp2
    go_ret2
    exact ⟨ret_two hz.out.symm rfl, hb⟩
  | some k =>
    obtain ⟨hk, i1, i2⟩ := Smm.wi_some hw
    have hz : Hid (Smm.toV tl h t = Smm.mid tl k - h - 1000000 * Smm.os tl k + (t - (Smm.mid tl k - h)) - Smm.adj h (Smm.el tl k).2 (t - (Smm.mid tl k - h))) := Lib.hid (z2.trans (Smm.smV_some hw))
    have hF' : Hid (∀ W, Below w.heap.size w W → Calls Tryd.prog 41 #[.slice A m c, .int .i64 h, .int .i64 t] W (RetB (.tuple #[A4 (Smm.mid tl k - h) h (Smm.el tl k).2 (Smm.mid tl k - h - 1000000 * Smm.os tl k), .bool true]) W)) := Lib.hid fun W hW => by have := hF.out W hW; unfold fndV at this; rw [hw] at this; exact this
    have hmd := Smm.mid_bd hcan.v hk
    have hme := Smm.end_bd hcan.v
    have hob' := Smm.os_bd hcan.v k
    have hh1 := hcan.h1
    have hh2 := hcan.h2
    have hS := Lib.hid (fun W => smeared_any (Smm.mid tl k - h) h (Smm.el tl k).2 (Smm.mid tl k - h - 1000000 * Smm.os tl k) t W (by omega) hh1 hh2 (Smm.el_mem hcan.v hk).2.2 (by omega) i1 (by omega))
    clear hF hw z2 z3 hE hob
    generalize Smm.adj h (Smm.el tl k).2 (t - (Smm.mid tl k - h)) = J at *
    generalize (Smm.el tl k).2 = s at *
    generalize Smm.mid tl k - h - 1000000 * Smm.os tl k = D at *
    generalize Smm.mid tl k - h = M at *
    go_enter Tryd.func18, Tryd.ntmps18
    go_wp2_with fail
    refine hO.out.mono ?_
    rintro e w1 ⟨rfl, hb1⟩
    go_wp2_with fail
    refine (hF'.out _ hb1).mono ?_
    rintro e w2 ⟨rfl, hb2⟩
    have hb := Below.goN (Below.go hb1 hb2) (oW M h s D)
    obtain ⟨⟨y0, y1, y2, y3⟩, -⟩ := blk4 (heap_new w2 (oW M h s D))
    go_wp2_with fail
    refine (hS.out _).mono ?_
    rintro e w3 ⟨rfl, hb3⟩
    have hbF := Below.go hb hb3
    go_wp2
    go_ret2
    exact ⟨ret_two hz.out.symm rfl, hbF⟩
set_option maxHeartbeats 2000000 in
set_option maxRecDepth 100000 in
theorem Inside_any (A : Option Addr) (m c : Nat) (tl : Lpm.LL) (h t : Int) (w : World) (hL : Lp w.heap.size w A m tl) (hm : m ≤ 110) : Calls Tryd.prog 19 #[.slice A m c, .int .i64 h, .int .i64 t] w (RetB (.tuple #[.bool (Smm.inV tl h t), .int .i64 (Smm.toE tl h t)]) w) := by
  have hO := Lib.hid (soff_any A m c tl h t w hL hm)
  by_cases hE : Smm.toE tl h t = 0
  rotate_left
  · have hz : Hid (Smm.inV tl h t = false) := Lib.hid (by
      cases hc : Smm.can tl h
      · exact (Smm.to_bad hc).2.2.2.1
      · by_cases hd : Lpm.dE tl t = 0
        · exact absurd (Smm.to_all hc hd).1 hE
        · exact (Smm.to_far hc hd).2.2.2.1)
    have hne := bne_of hE
    generalize Smm.toE tl h t = E at *
    go_enter Tryd.func19, Tryd.ntmps19
    go_wp2_with fail
    refine hO.out.mono ?_
    rintro e w1 ⟨rfl, hb1⟩
    go_wp2
    go_ret2
    exact ⟨ret_bi hz.out.symm rfl, hb1⟩
  have hc : Smm.can tl h = true := by
    cases hc : Smm.can tl h
    · have := (Smm.to_bad (t := t) hc).1; omega
    · rfl
  have hd : Lpm.dE tl t = 0 := by
    by_cases hd : Lpm.dE tl t = 0
    · exact hd
    · have := (Smm.to_far hc hd).1; omega
  have hcan := Smm.can_yes hc
  obtain ⟨z1, -, z3, z4, -⟩ := Smm.to_all hc hd
  have hF := Lib.hid (fun W (hW : Below w.heap.size w W) => find_any A m c tl h t W ((hL.below hW).mono hW.size) hm hcan.v hcan.h1 hcan.h2)
  rw [z1] at hO
  rw [z1]
  have hF' : Hid (∃ a b c' d : Int, ∀ W, Below w.heap.size w W → Calls Tryd.prog 41 #[.slice A m c, .int .i64 h, .int .i64 t] W (RetB (.tuple #[A4 a b c' d, .bool (Smm.inV tl h t)]) W)) := Lib.hid (by
    cases hw : Smm.wi tl h t with
    | none => exact ⟨0, 0, 0, 0, fun W hW => by have := hF.out W hW; unfold fndV at this; rw [hw] at this; rw [z4, hw]; exact this⟩
    | some k => exact ⟨_, _, _, _, fun W hW => by have := hF.out W hW; unfold fndV at this; rw [hw] at this; rw [z4, hw]; exact this⟩)
  obtain ⟨a, b, c', d, hG⟩ := hF'.out
  have HG := Lib.hid hG
  clear hG hF' hF z4 z3 hE
  generalize Smm.inV tl h t = I at *
  go_enter Tryd.func19, Tryd.ntmps19
  go_wp2_with fail
  refine hO.out.mono ?_
  rintro e w1 ⟨rfl, hb1⟩
  go_wp2_with fail
  refine (HG.out _ hb1).mono ?_
  rintro e w2 ⟨rfl, hb2⟩
  have hb := Below.goN (Below.go hb1 hb2) (oW a b c' d)
  go_wp2
  go_ret2
  exact ⟨rfl, hb⟩
end Go.Proofs.YtcnenkhgbifmmaaDoor
