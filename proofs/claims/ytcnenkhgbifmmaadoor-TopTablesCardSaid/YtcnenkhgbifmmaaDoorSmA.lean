/- The iterator over the windows of a table: it hands out each window of a valid table, in order; nothing that was there has changed. -/
import Derived.Test.YtcnenkhgbifmmaaDoorComm
import Derived.Test.YtcnenkhgbifmmaaDoorSmMath
set_option linter.unusedVariables false
namespace Go.Proofs.YtcnenkhgbifmmaaDoor
open Go.RowKit Go.Shelf
attribute [local go_sem] Oper.semAt_some
theorem grown_below {w w' : World} (h : Below w.heap.size w w') (row : Option Nat) : w.grownBy w' row := ⟨h.os, h.tape, h.output, h.size, fun k hk _ => h.block k hk⟩
theorem blk1 {W : World} {k : Nat} {x : Value} {t : TypeId} (h : W.heap[k]? = some (.cells #[x] t)) : W.cell? ⟨k, 0, none⟩ = some x := by simp [World.cell?, h]
theorem frz1 {W : World} {k : Nat} {x : Value} {t : TypeId} (h : W.heap[k]? = some (.cells #[x] t)) : W.frozen? ⟨k, 0, none⟩ = false := by simp [World.frozen?, h]
theorem blk4 {W : World} {k : Nat} {x y z u : Value} {t : TypeId} (h : W.heap[k]? = some (.cells #[x, y, z, u] t)) : (W.cell? ⟨k, 0, none⟩ = some x ∧ W.cell? ⟨k, 1, none⟩ = some y ∧ W.cell? ⟨k, 2, none⟩ = some z ∧ W.cell? ⟨k, 3, none⟩ = some u) ∧ W.frozen? ⟨k, 0, none⟩ = false ∧ W.frozen? ⟨k, 1, none⟩ = false ∧ W.frozen? ⟨k, 2, none⟩ = false ∧ W.frozen? ⟨k, 3, none⟩ = false := by
  simp [World.cell?, World.frozen?, h]
/-- what a round of a loop keeps for the iterator: all below n₀, and all cells from Bl on -/
def KpB (n₀ Bl : Nat) (W W' : World) : Prop := Below n₀ W W' ∧ ∀ k o, Bl ≤ k → W.heap[k]? = some o → o.isCells = true → W'.heap[k]? = some o
theorem KpB.refl (n₀ Bl : Nat) (W : World) : KpB n₀ Bl W W := ⟨Below.refl _ _, fun _ _ _ h _ => h⟩
theorem KpB.trans {n₀ Bl : Nat} {A B C : World} (h : KpB n₀ Bl A B) (k : KpB n₀ Bl B C) : KpB n₀ Bl A C := ⟨h.1.trans k.1, fun j o a b c => k.2 j o a (h.2 j o a b c) c⟩
theorem KpB.below {n₀ Bl : Nat} {A B C : World} (h : KpB n₀ Bl A B) (hB : n₀ ≤ B.heap.size) (hb : Below B.heap.size B C) : KpB n₀ Bl A C := ⟨h.1.trans (hb.mono hB), fun j o a b c => keep' (h.2 j o a b c) hb⟩
theorem KpB.put {n₀ Bl : Nat} {w : World} (hn : n₀ ≤ w.heap.size) (W : World) (l : Nat) (o o' : Obj) (hle : w.heap.size ≤ l) (h : W.heap[l]? = some o) (h1 : o.isCells = false) (h2 : o.isWalk = false) : KpB n₀ Bl W (W.putObj l o') :=
  ⟨belowK_b hn W l o o' hle h h1 h2, fun j q _ b c => (World.putObj_heap_other (fun e => by subst e; rw [h] at b; cases b; rw [h1] at c; cases c)).trans b⟩
theorem KpB.at' {n₀ Bl : Nat} {A B : World} (h : KpB n₀ Bl A B) {k : Nat} {cs : Array Value} {t : TypeId} (hk : Bl ≤ k) (hc : A.heap[k]? = some (.cells cs t)) : B.heap[k]? = some (.cells cs t) := h.2 k _ hk hc rfl
theorem KpB.set {n₀ Bl k j : Nat} (W : World) (hk : n₀ ≤ k) (hl : k < Bl) (u : Value) : KpB n₀ Bl W (W.setCell ⟨k, j, none⟩ u) := ⟨(Below.refl _ _).setCell hk _, fun i o a b c => (Below.heap_setCell _ _ _ _ (by simp; omega)).trans b⟩
abbrev Wx (m : Nat) := { k : Nat // k < m }
abbrev winV (l : Lpm.LL) (h : Int) (k : Nat) : Value := .agg #[.int .i64 (Smm.mid l k - h), .int .i64 h, .int .i64 (Smm.el l k).2, .int .i64 (Smm.mid l k - h - 1000000 * Smm.os l k)]
theorem Start_ok (B : Nat) (A : Option Addr) (n c : Nat) (l : Lpm.LL) (day : Int) (w : World) (hl : Lp B w A n l) (hB : B ≤ w.heap.size) (hn : n ≤ 110) (hv : Lpm.valid l = true) (h0 : 0 ≤ day) (h1 : day ≤ 34000) :
    Calls Tryd.prog 21 #[.slice A n c, .int .i64 day] w (RetB (.tuple #[.int .i64 (Lpm.start l day), .int .i64 0]) w) := by
  have h := Start_any B A n c l day w hl hB hn
  obtain ⟨e1, e2, -⟩ := Lpm.st_yes hv h0 h1
  rw [e1, e2] at h; exact h
theorem range_snoc {m : Nat} {pre : List (Wx m)} {k : Nat} (h : pre.map (·.1) = List.range k) (hk : k < m) : (pre ++ [(⟨k, hk⟩ : Wx m)]).map (·.1) = List.range (k + 1) := by
  rw [List.map_append, h, List.range_succ]; rfl
theorem range_len {m : Nat} {pre : List (Wx m)} {k : Nat} (h : pre.map (·.1) = List.range k) : pre.length = k := by
  have := congrArg List.length h; simpa using this
set_option maxRecDepth 100000 in
set_option maxHeartbeats 4000000 in
theorem windows1_in (n : Nat) (hn : 1 ≤ n) (l Bl Bh n₀ : Nat) (A : Option Addr) (m c : Nat) (tl : Lpm.LL) (h : Int) (hm : m ≤ 110) (hv : Lpm.valid tl = true) (hh1 : 1000000 ≤ h) (hh2 : h ≤ 43200000000) (J Jx : List (Wx m) → World → Prop)
    (hY : ∀ pre (x : Wx m) W, J pre W → pre.length < m → YieldAt Fence.wide (n - 1) Tryd.prog l #[winV tl h x.1] W fun e W' =>
      (e = .returned (.bool true) ∧ J (pre ++ [x]) W' ∧ KpB n₀ Bl W W') ∨ (e = .returned (.bool false) ∧ Jx (pre ++ [x]) W'))
    (W : World) (hJ : AbidesFrom W.heap.size J) (hn₀ : n₀ ≤ W.heap.size) (hBl : W.heap[Bl]? = some (.cells #[.slice A m c] 22)) (hBh : W.heap[Bh]? = some (.cells #[.int .i64 h] 3)) (hlh : Bl ≤ Bh) (hlW : Bl ≤ W.heap.size) (hL : Lp n₀ W A m tl) (h0 : J [] W) :
    CallsIn Fence.wide n Tryd.prog 76 #[.func (.yield l) #[] #[], .pointer (some ⟨Bl, 0, none⟩), .pointer (some ⟨Bh, 0, none⟩)] W fun e W' => (∃ v, e = .returned v) ∧
      ((∃ ys : List (Wx m), ys.map (·.1) = List.range m ∧ J ys W') ∨ (∃ pre : List (Wx m), (∃ k, pre.map (·.1) = List.range k) ∧ Jx pre W')) := by
  have HL := Lib.hid hL
  have HBl := Lib.hid hBl
  have HBh := Lib.hid hBh
  have cl0 := blk1 hBl
  have HV := Lib.hid hv
  obtain ⟨hlen, hcell⟩ := hL
  have Hlen := Lib.hid hlen
  clear hlen hv hBl hBh
  refine callsIn_of_wp Tryd.func76 rfl trivial ?_ rfl
  simp only [Tryd.ntmps76, List.size_toArray, List.length_cons, List.length_nil, Nat.reduceAdd, Nat.reduceSub, Array.replicate_succ, Array.replicate_zero, List.push_toArray, List.append_toArray, List.nil_append, List.cons_append]
  gi_wp2
  gi_loopw [4, 12] (fun o i wr => ∃ (k : Nat) (pre : List (Wx m)), k ≤ m ∧ i = .int .i64 k ∧ o = .int .i64 (Smm.os tl k) ∧ Hid (pre.map (·.1) = List.range k) ∧ J pre wr ∧ KpB n₀ Bl W wr ∧ Hid (W.heap.size ≤ wr.heap.size))
    (fun _ i _ => m - (intOf i).toNat)
  case atStart => exact ⟨0, [], Nat.zero_le _, rfl, rfl, Lib.hid rfl, h0, KpB.refl _ _ _, Lib.hid (Nat.le_refl _)⟩
  case round =>
    obtain ⟨k, pre, hk, rfl, rfl, hpre, hJs, hkp, hsz⟩ := hrel
    by_cases hlt : k < m
    · obtain ⟨b, off, rfl, hbB, hc⟩ := hcell (by omega)
      have hle := hsz.out
      have c0 := (hkp.1.cell (p := ⟨b, off + k * 2, none⟩) (by simp; omega)).trans (hc k hlt).1
      have c1 := (hkp.1.cell (p := ⟨b, off + k * 2 + 1, none⟩) (by simp; omega)).trans (hc k hlt).2
      have hel := Smm.el_mem HV.out (k := k) (by rw [Hlen.out]; exact hlt)
      have hos : Hid (Smm.os tl (k + 1) = Smm.os tl k + (Smm.el tl k).2) := Lib.hid (Smm.os_succ (by rw [Hlen.out]; exact hlt))
      have hob := Smm.os_bd HV.out k
      have hmd := Smm.mid_bd HV.out (k := k) (by rw [Hlen.out]; exact hlt)
      have hme := Smm.end_bd HV.out
      have hmid : Hid (Smm.mid tl k = Lpm.start tl ((Smm.el tl k).1 + 1)) := Lib.hid rfl
      have hlA := Lib.hid (hkp.below (by omega) ((Below.refl _ wr).alloc (Nat.le_refl _) (.cells #[.int .i64 (Smm.el tl k).1, .int .i64 (Smm.el tl k).2] 69)))
      have hSt := Lib.hid (Start_ok n₀ (some ⟨b, off, none⟩) m c tl ((Smm.el tl k).1 + 1) (wr.alloc (.cells #[.int .i64 (Smm.el tl k).1, .int .i64 (Smm.el tl k).2] 69)) (HL.out.below hlA.out.1) (by simp; omega) hm HV.out (by omega) (by omega))
      have hnew : (wr.alloc (.cells #[.int .i64 (Smm.el tl k).1, .int .i64 (Smm.el tl k).2] 69)).heap[wr.heap.size]? = some (.cells #[.int .i64 (Smm.el tl k).1, .int .i64 (Smm.el tl k).2] 69) := World.alloc_heap_new wr _
      have Hnew := Lib.hid hnew
      have hY' : Hid (∀ W2, J pre W2 → YieldAt Fence.wide (n - 1) Tryd.prog l #[.agg #[.int .i64 (Smm.mid tl k - h), .int .i64 h, .int .i64 (Smm.el tl k).2, .int .i64 (Smm.mid tl k - h - 1000000 * Smm.os tl k)]] W2 fun e W' =>
        (e = .returned (.bool true) ∧ J (pre ++ [⟨k, hlt⟩]) W' ∧ KpB n₀ Bl W2 W') ∨ (e = .returned (.bool false) ∧ Jx (pre ++ [⟨k, hlt⟩]) W')) := Lib.hid (fun W2 hJ2 => hY pre ⟨k, hlt⟩ W2 hJ2 (by rw [range_len hpre.out]; exact hlt))
      have hJ' : Hid (∀ W2, Below (wr.alloc (.cells #[.int .i64 (Smm.el tl k).1, .int .i64 (Smm.el tl k).2] 69)).heap.size (wr.alloc (.cells #[.int .i64 (Smm.el tl k).1, .int .i64 (Smm.el tl k).2] 69)) W2 → J pre W2) := Lib.hid fun W2 hW2 =>
        hJ _ _ _ none (hJ _ _ _ none hJs (World.grownBy_alloc _ _ none) (fun r e => by cases e)) (grown_below hW2 none) (fun r e => by cases e)
      rw [← hmid.out] at hSt
      have hs2 : (Smm.el tl k).2 = 1 ∨ (Smm.el tl k).2 = -1 := hel.2.2
      have e0 : tl[k]?.getD (0, 0) = Smm.el tl k := rfl
      rw [e0] at c0 c1
      obtain ⟨hd0, hd1, -⟩ := hel
      clear hc hcell hnew hmid e0 hJs
      generalize Smm.mid tl k = M at *
      generalize Smm.os tl k = O at *
      generalize (Smm.el tl k).1 = d at *
      generalize (Smm.el tl k).2 = s at *
      have cl := blk1 (hkp.at' (Nat.le_refl _) HBl.out)
      have ch := blk1 (hkp.at' hlh HBh.out)
      have clA := blk1 (hlA.out.at' (Nat.le_refl _) HBl.out)
      have chA := blk1 (hlA.out.at' hlh HBh.out)
      have hlA2 := Lib.hid (fun W2 (hW2 : Below (wr.alloc (.cells #[.int .i64 d, .int .i64 s] 69)).heap.size (wr.alloc (.cells #[.int .i64 d, .int .i64 s] 69)) W2) => hlA.out.below (by simp; omega) hW2)
      gi_wp2_with (refine ⟨trivial, ?_⟩; gi_at_call 21; refine (callsIn_wide.2 hSt.out).mono ?_; rintro e w2 ⟨rfl, hb2⟩; have hk2 := Lib.hid (hlA2.out _ hb2); have ch2 := blk1 (hk2.out.at' hlh HBh.out); have hx2 := Lib.hid (keep' Hnew.out hb2); obtain ⟨⟨cb0, cb1⟩, -⟩ := blk2 hx2.out; obtain ⟨fn, tmps, assign, body, hy, hR⟩ := hY'.out w2 (hJ'.out w2 hb2); have hs2' : Hid (W.heap.size ≤ w2.heap.size) := Lib.hid (by have := hb2.size; simp at this; omega))
      refine hR.mono ?_
      rintro e W3 (⟨rfl, hJ3, hk3⟩ | ⟨rfl, hJx3⟩)
      · have hk4 := hk2.out.trans hk3
        have hx3 := hk3.at' (show Bl ≤ wr.heap.size by omega) hx2.out
        obtain ⟨⟨cc0, cc1⟩, -⟩ := blk2 hx3
        have hs4 : Hid (W.heap.size ≤ W3.heap.size) := Lib.hid (by have := hk3.1.size; have := hs2'.out; omega)
        gi_wp2
        go_roundw
        case rel => exact ⟨k + 1, _, by omega, by simp, by rw [hos.out], Lib.hid (range_snoc hpre.out hlt), hJ3, hk4, hs4⟩
        case measure => simp [intOf]; omega
      · gi_wp2
        refine bodyPost_ret (results_none rfl _ _ _) rfl ?_
        exact ⟨⟨_, rfl⟩, .inr ⟨_, ⟨k + 1, range_snoc hpre.out hlt⟩, hJx3⟩⟩
    · obtain rfl : k = m := by omega
      gi_wp2
      go_end0
      exact ⟨⟨_, rfl⟩, .inl ⟨_, hpre.out, hJs⟩⟩
end Go.Proofs.YtcnenkhgbifmmaaDoor
