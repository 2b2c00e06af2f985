/- Neighbours in a row of their own: the contracts of drift.pairs and of drift.rising. -/
import Derived.Test.YtlmdjkkeocmehaaDrC
import Derived.Maps.AppendAt
import Derived.Deep.AppendLies
import Derived.Deep.RegionHeld3
import Derived.IntWalk
set_option linter.unusedVariables false
namespace Go.Proofs.Ytlmdjkkeocmehaa
open Go.RowKit
def cells2 (l : List Tab.T2) : List Value := l.flatMap fun x => [.int .i64 x.1, .int .i64 x.2]
theorem cells2_app (a b : List Tab.T2) : cells2 (a ++ b) = cells2 a ++ cells2 b := by simp [cells2]
theorem cells2_at (l : List Tab.T2) (j : Nat) (h : j < l.length) : (cells2 l)[j * 2]? = some (.int .i64 (Tab.a2 l j).1) ∧ (cells2 l)[j * 2 + 1]? = some (.int .i64 (Tab.a2 l j).2) := by
  induction l generalizing j with
  | nil => simp at h
  | cons x r ih =>
    cases j with
    | zero => simp [cells2, Tab.a2]
    | succ k =>
      have := ih k (by simpa using h)
      have e : Tab.a2 (x :: r) (k + 1) = Tab.a2 r k := by simp [Tab.a2]
      rw [e]
      have e2 : cells2 (x :: r) = [.int .i64 x.1, .int .i64 x.2] ++ cells2 r := rfl
      rw [e2, show (k + 1) * 2 = k * 2 + 2 by omega]
      simpa [List.getElem?_append_right] using this
abbrev tQ : TypeId := 63
def Own2 (B : Nat) (W : World) (v : Value) (l : List Tab.T2) : Prop := W.ownsRow B tQ 2 v l.length (cells2 l)
theorem own2_below {B : Nat} {W W' : World} {v : Value} {n : Nat} {xs : List Value} (h : W.ownsRow B tQ 2 v n xs) (hb : Below W.heap.size W W') : W'.ownsRow B tQ 2 v n xs := by
  obtain ⟨h0, h1 | ⟨g, cap, cur, e, hB, hg, r⟩⟩ := h
  · exact ⟨h0, .inl h1⟩
  · exact ⟨h0, .inr ⟨g, cap, cur, e, hB, keep' hg hb, r⟩⟩
theorem Own2.lq {B : Nat} {W : World} {v : Value} {l : List Tab.T2} {m : Nat} (h : Own2 B W v l) (hm : l.length = m) : ∃ A c, v = .slice A m c ∧ Lq W.heap.size W A m l := by
  subst hm
  obtain ⟨h0, ⟨rfl, hz⟩ | ⟨g, cap, cur, rfl, hB, hg, hnc, hcm, hcs, ht⟩⟩ := h
  · have : l = [] := List.eq_nil_of_length_eq_zero hz
    subst this
    exact ⟨none, 0, rfl, ⟨rfl, fun h => absurd h (by simp)⟩⟩
  · refine ⟨_, _, rfl, ⟨rfl, fun hn => ⟨g, 0, rfl, lt_of_heap hg, fun j hj => ?_⟩⟩⟩
    obtain ⟨a, b⟩ := cells2_at l j hj
    have hc : ∀ i u, (cells2 l)[i]? = some u → W.cell? ⟨g, i, none⟩ = some u := fun i u hu => by
      rw [← ht] at hu
      have hi : cur.toList[i]? = some u := by
        rw [List.getElem?_take] at hu; split at hu
        · exact hu
        · cases hu
      have : cur[i]? = some u := by simpa using hi
      simp [World.cell?, hg, this]
    simp only [Nat.zero_add]
    exact ⟨hc _ _ a, hc _ _ b⟩
theorem infoQ : (Try.prog.info? tQ).map (fun i => (i.zero, i.size, i.bytes)) = some (some (.agg #[.int .i64 0, .int .i64 0]), 2, 16) := by kernel_rfl
theorem own2_snoc {B : Nat} {W : World} {v : Value} {l : List Tab.T2} {x : Tab.T2} (h : W.ownsRow B tQ 2 v (l.length + 1) (cells2 l ++ [.int .i64 x.1, .int .i64 x.2])) : Own2 B W v (l ++ [x]) := by
  unfold Own2; rw [cells2_app, List.length_append]; exact h
def OwnPost2 (l : List Tab.T2) (w : World) (e : Ending) (w' : World) : Prop := ∃ v, e = .returned v ∧ Own2 w.heap.size w' v l ∧ Below w.heap.size w w'
theorem Below.drewA {B : Nat} {w wr : World} (hb : Below B w wr) (h : B ≤ wr.heap.size) (o : Obj) : Below B w (wr.drew.alloc o) := hb.drew.alloc h o
theorem Below.drewA' {B : Nat} {w wr : World} (hb : Below B w wr) (h : B ≤ wr.heap.size) (o : Obj) : Below B w (wr.alloc o).drew := (hb.alloc h o).drew
set_option maxHeartbeats 2000000 in
set_option maxRecDepth 100000 in
theorem pairs_any (A : Option Addr) (n c : Nat) (l : List Int) (w : World) (hl : Li w.heap.size w A n l) (h1 : 1 ≤ n) (hn : n ≤ 1000) :
    Calls Try.prog 46 #[.slice A n c] w (OwnPost2 (Tab.nb l (n - 1)) w) := by
  obtain ⟨hlen, hcell⟩ := hl
  obtain ⟨b, off, rfl, hbB, hc⟩ := hcell h1
  have Hlen := Lib.hid hlen
  have Hc := Lib.hid hc
  obtain ⟨i0, hi, hz0, hz1, hz2⟩ := info_parts infoQ
  clear hlen hcell hc
  go_enter Try.func46, Try.ntmps46
  go_wp2
  go_loopw [4, 3] (fun i v wr => ∃ k : Nat, k + 1 ≤ n ∧ i = .int .i64 ((k : Int) + 1) ∧ Own2 w.heap.size wr v (Tab.nb l k) ∧ Below w.heap.size w wr) (fun i _ _ => n - (intOf i).toNat)
  case atStart => exact ⟨0, h1, rfl, World.ownsRow_nil _ _ _ _, Below.refl _ _⟩
  case round =>
    obtain ⟨k, hk, rfl, hown, hb⟩ := hrel
    have hsz := hb.size
    have hsn := Lib.hid (Tab.nb_succ l k)
    have hln : Hid ((Tab.nb l k).length = k) := Lib.hid (Tab.nb_len l k)
    by_cases hlt : k + 1 < n
    · have HS : Hid (∀ W, Below w.heap.size w W → W.cell? ⟨b, off + k, none⟩ = some (.int .i64 (Tab.ai l k)) ∧ W.cell? ⟨b, off + (k + 1), none⟩ = some (.int .i64 (Tab.ai l (k + 1)))) :=
        Lib.hid (fun W hW => ⟨(hW.cell (p := ⟨b, off + k, none⟩) hbB).trans (Hc.out k (by omega)), (hW.cell (p := ⟨b, off + (k + 1), none⟩) hbB).trans (Hc.out (k + 1) (by omega))⟩)
      generalize Tab.ai l k = x at *
      generalize Tab.ai l (k + 1) = y at *
      generalize Tab.nb l k = F at *
      have b0 : (0 : Int) ≤ (k : Int) := by omega
      have b1 : (k : Int) < (n : Int) := by omega
      have b2 : (0 : Int) ≤ (k : Int) + 1 := by omega
      have b3 : (k : Int) + 1 < (n : Int) := by omega
      have hwr : IntKind.i64.wrap (k : Int) = (k : Int) := IntWalk.i64_in _ (by omega)
      have ht : ((k : Int) + 1).toNat = k + 1 := by omega
      go_wp2_with fail
      go_region_held3 (fun W => W.cell? ⟨b, off + k, none⟩ = some (.int .i64 x) ∧ W.cell? ⟨b, off + (k + 1), none⟩ = some (.int .i64 y))
        (first | exact HS.out _ hw6 | exact HS.out _ (Below.drewA hb hsz _) | exact HS.out _ hb.drew | exact HS.out _ hb)
        (first
          | (refine step_append_lies _ (by rfl) _ _ _ (by rfl) w.heap.size tQ i0 (.agg #[.int .i64 0, .int .i64 0]) 2 16 Try.underlying64 hi hz0 hz1 hz2 rfl (by decide) _ F.length (cells2 F) (by rfl) ((World.ownsRow.drew hown).alloc (oQ (x, y))) ⟨wr.heap.size, 0, none⟩ 1 1 [.int .i64 x, .int .i64 y] (by rfl) (by rfl) (World.news_of_block (heap_new wr.drew (oQ (x, y)))) (by simp [Value.oneCell']) (by omega) (by rw [hln.out]; unfold maxLen; omega) (by rw [hln.out]; omega) (by simp; omega) _ rfl ?_; intro g cap w6 hown6 hgrow hat hlt6; have hw6 := Below.grown (Below.drewA hb hsz (oQ (x, y))) hgrow (by simp; omega) (fun q hq' => (hown.lt q hq').1)))
      clear hwr ht
      have ho6 := own2_snoc (x := (x, y)) hown6
      clear hown6 hgrow
      go_wp2
      go_roundw
      case rel => exact ⟨k + 1, by omega, by go_num, by rw [hsn.out]; exact ho6, hw6⟩
      case measure => simp [intOf]; omega
    · obtain rfl : k = n - 1 := by omega
      go_wp2
      go_ret
      exact ⟨_, rfl, hown, hb⟩
end Go.Proofs.Ytlmdjkkeocmehaa
