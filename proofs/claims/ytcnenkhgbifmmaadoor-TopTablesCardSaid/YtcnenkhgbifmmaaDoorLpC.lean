/- The iterator over the leap seconds before a day, the loop over it that adds up their steps, and when a day begins: plain functions of a valid table; nothing that was there has changed. -/
import Derived.Test.YtcnenkhgbifmmaaDoorLpB
import Derived.RangeFuncNested
import Derived.RangeFuncBound
import Derived.RangeFuncCalls
import Derived.RangeFuncLeaves
import Derived.Shelf.Abstract
import Derived.Shelf.RegionOpen
import Derived.OwnWalkIn
import Derived.TacticsInMore
import Derived.LoopNIn
import Derived.LoopIn
set_option linter.unusedVariables false
namespace Go.Proofs.YtcnenkhgbifmmaaDoor
open Go.RowKit Go.Shelf
attribute [local go_sem] Oper.semAt_some

/-- what a round of the loop keeps for the iterator: all below n₀, and the box Bd -/
def KpD (n₀ Bd : Nat) (W W' : World) : Prop := Below n₀ W W' ∧ W'.heap[Bd]? = W.heap[Bd]?
theorem KpD.refl (n₀ Bd : Nat) (W : World) : KpD n₀ Bd W W := ⟨Below.refl _ _, rfl⟩
theorem KpD.trans {n₀ Bd : Nat} {A B C : World} (h : KpD n₀ Bd A B) (k : KpD n₀ Bd B C) : KpD n₀ Bd A C := ⟨h.1.trans k.1, k.2.trans h.2⟩
theorem KpD.alloc {n₀ Bd : Nat} {A B : World} (h : KpD n₀ Bd A B) (hB : n₀ ≤ B.heap.size) (hd : Bd < B.heap.size) (o : Obj) : KpD n₀ Bd A (B.alloc o) := ⟨h.1.alloc hB o, (Below.heap_alloc B o Bd hd).trans h.2⟩
theorem KpD.put {n₀ Bd : Nat} {w : World} (hn : n₀ ≤ w.heap.size) (hd : Bd < w.heap.size) (W : World) (l : Nat) (o o' : Obj) (hl : w.heap.size ≤ l) (h : W.heap[l]? = some o) (h1 : o.isCells = false) (h2 : o.isWalk = false) : KpD n₀ Bd W (W.putObj l o') :=
  ⟨belowK_b hn W l o o' hl h h1 h2, World.putObj_heap_other (by omega)⟩
theorem KpD.cell {n₀ Bd : Nat} {A B : World} (h : KpD n₀ Bd A B) {v : Value} (hc : A.cell? ⟨Bd, 0, none⟩ = some v) : B.cell? ⟨Bd, 0, none⟩ = some v := (World.cell?_of_block (w := A) h.2).trans hc

theorem take_while {l : Lpm.LL} {day : Int} {k : Nat} (h : ∀ x ∈ l.take k, x.1 < day) (he : l.length ≤ k ∨ ∃ d s r, l.drop k = (d, s) :: r ∧ day ≤ d) : Lpm.pre l day = l.take k := by
  have e : l = l.take k ++ l.drop k := (List.take_append_drop k l).symm
  unfold Lpm.pre
  conv => lhs; rw [e]
  rw [List.takeWhile_append_of_pos (by intro x hx; simpa using h x hx)]
  rcases he with he | ⟨d, s, r, he, hd⟩
  · rw [List.drop_of_length_le he]; simp
  · rw [he, List.takeWhile_cons_of_neg (by simp; omega)]; simp

set_option maxRecDepth 100000 in
set_option maxHeartbeats 2000000 in
theorem before1_in (F : Fence) (n : Nat) (hf : F.fn 85) (hro : F.round = none) (hn : 1 ≤ n) (l Bl Bd n₀ : Nat) (A : Option Addr) (m c : Nat) (tl : Lpm.LL) (day : Int) (hm : m ≤ 110) (J Jx : Lpm.LL → World → Prop)
    (hY : ∀ pre x W, J pre W → pre.length < m → YieldAt F (n - 1) Tryd.prog l #[.agg #[.int .i64 x.1, .int .i64 x.2]] W fun e W' =>
      (e = .returned (.bool true) ∧ J (pre ++ [x]) W' ∧ KpD n₀ Bd W W') ∨ (e = .returned (.bool false) ∧ Jx (pre ++ [x]) W'))
    (W : World) (hJ : AbidesFrom W.heap.size J) (hn₀ : n₀ ≤ W.heap.size) (hBl : W.cell? ⟨Bl, 0, none⟩ = some (.slice A m c)) (hBd : W.cell? ⟨Bd, 0, none⟩ = some (.int .i64 day)) (hdl : Bd < W.heap.size) (hL : Lp n₀ W A m tl) (h0 : J [] W) :
    CallsIn F n Tryd.prog 85 #[.func (.yield l) #[] #[], .pointer (some ⟨Bl, 0, none⟩), .pointer (some ⟨Bd, 0, none⟩)] W fun e W' => (∃ v, e = .returned v) ∧
      ((∃ ys, ys = Lpm.pre tl day ∧ J ys W') ∨ (∃ pre, pre <+: tl ∧ Jx pre W')) := by
  obtain ⟨hlen, hcell⟩ := hL
  have Hlen := Lib.hid hlen
  clear hlen
  refine callsIn_of_wp Tryd.func85 rfl hf ?_ hro
  simp only [Tryd.ntmps85, List.size_toArray, List.length_cons, List.length_nil, Nat.reduceAdd, Nat.reduceSub, Array.replicate_succ, Array.replicate_zero, List.push_toArray, List.append_toArray, List.nil_append, List.cons_append]
  gi_wp2
  gi_loopw [8] (fun i wr => ∃ k : Nat, k ≤ m ∧ i = .int .i64 k ∧ Hid (∀ x ∈ tl.take k, x.1 < day) ∧ J (tl.take k) wr ∧ KpD n₀ Bd W wr ∧ Hid (W.heap.size ≤ wr.heap.size))
    (fun i _ => m - (intOf i).toNat)
  case atStart => exact ⟨0, Nat.zero_le _, rfl, Lib.hid (by simp), by simpa using h0, KpD.refl _ _ _, Lib.hid (Nat.le_refl _)⟩
  case round =>
    obtain ⟨k, hk, rfl, hall, hJs, hkp, hsz⟩ := hrel
    have hcd := hkp.cell hBd
    by_cases hlt : k < m
    · obtain ⟨b, off, rfl, hbB, hc⟩ := hcell (by omega)
      have c0 := (hkp.1.cell (p := ⟨b, off + k * 2, none⟩) (by simp; omega)).trans (hc k hlt).1
      have c1 := (hkp.1.cell (p := ⟨b, off + k * 2 + 1, none⟩) (by simp; omega)).trans (hc k hlt).2
      have hts := take_snoc Hlen.out hlt
      have hdr := drop_cons Hlen.out hlt
      obtain ⟨d, s, hx⟩ : ∃ d s, tl[k]?.getD (0, 0) = (d, s) := ⟨_, _, rfl⟩
      rw [hx] at c0 c1 hts hdr
      have Hts := Lib.hid hts
      have Hdr := Lib.hid hdr
      have hbw : b < wr.heap.size := by have := hsz.out; omega
      have hdw : Bd < wr.heap.size := by have := hsz.out; omega
      clear hx hts hdr hc hcell
      by_cases hd : d < day
      · have hJa : J (tl.take k) (wr.alloc (.cells #[.int .i64 d, .int .i64 s] 69)) := hJ _ _ _ none hJs (World.grownBy_alloc _ _ none) (fun r e => by cases e)
        obtain ⟨fn, tmps, assign, body, hy, hR⟩ := hY _ (d, s) _ hJa (by have := Hlen.out; simp; omega)
        dsimp only at hy
        gi_wp2
        refine hR.mono ?_
        rintro e W3 (⟨rfl, hJ3, hk3⟩ | ⟨rfl, hJx3⟩)
        · have hk4 := (hkp.alloc (by have := hsz.out; omega) hdw _).trans hk3
          have hs4 : Hid (W.heap.size ≤ W3.heap.size) := Lib.hid (by have := hk3.1.size; simp at this; have := hsz.out; omega)
          gi_wp2
          go_roundw
          case rel => exact ⟨k + 1, by omega, by simp, Lib.hid (by rw [Hts.out]; intro x hx; rcases List.mem_append.1 hx with hx | hx; exact hall.out x hx; simp at hx; subst hx; exact hd), by rw [Hts.out]; exact hJ3, hk4, hs4⟩
          case measure => simp [intOf]; omega
        · gi_wp2
          refine bodyPost_ret (results_none rfl _ _ _) rfl ?_
          exact ⟨⟨_, rfl⟩, .inr ⟨_, by rw [← Hts.out]; exact List.take_prefix _ _, hJx3⟩⟩
      · have hJa : J (tl.take k) (wr.alloc (.cells #[.int .i64 d, .int .i64 s] 69)) := hJ _ _ _ none hJs (World.grownBy_alloc _ _ none) (fun r e => by cases e)
        gi_wp2
        refine ⟨fun _ h => (by cases h), ?_⟩
        gi_wp2
        refine bodyPost_ret (results_none rfl _ _ _) rfl ?_
        exact ⟨⟨_, rfl⟩, .inl ⟨_, (take_while hall.out (.inr ⟨d, s, _, Hdr.out, by omega⟩)).symm, hJa⟩⟩
    · obtain rfl : k = m := by omega
      gi_wp2
      go_end0
      exact ⟨⟨_, rfl⟩, .inl ⟨_, (take_while hall.out (.inl (by rw [Hlen.out]; omega))).symm, hJs⟩⟩

set_option maxHeartbeats 1000000 in
theorem before_in (F : Fence) (n : Nat) (hf : F.fn 77) (hro : F.round = none) (A : Option Addr) (m c : Nat) (day : Int) (w : World) :
    CallsIn F n Tryd.prog 77 #[.slice A m c, .int .i64 day] w fun e w' => e = .returned (.func (.func 85) #[] #[.pointer (some ⟨w.heap.size, 0, none⟩), .pointer (some ⟨w.heap.size + 1, 0, none⟩)]) ∧ w' = (w.alloc (.cells #[.slice A m c] 22)).alloc (.cells #[.int .i64 day] 3) := by
  refine callsIn_of_wp Tryd.func77 rfl hf ?_ hro
  simp only [Tryd.ntmps77, List.size_toArray, List.length_cons, List.length_nil, Nat.reduceAdd, Nat.reduceSub, Array.replicate_succ, Array.replicate_zero, List.push_toArray, List.append_toArray, List.nil_append, List.cons_append]
  gi_wp2
  go_ret
  exact ⟨rfl, rfl⟩

theorem before_stops (F : Fence) (n : Nat) (hf : F.fn 85) (hro : F.round = none) (hn : 1 ≤ n) (Bl Bd n₀ : Nat) (A : Option Addr) (m c : Nat) (tl : Lpm.LL) (day : Int) (hm : m ≤ 110) (w : World) (hBl : Bl < w.heap.size) (hBd : Bd < w.heap.size) (hn₀ : n₀ ≤ w.heap.size)
    (hcl : w.cell? ⟨Bl, 0, none⟩ = some (.slice A m c)) (hcd : w.cell? ⟨Bd, 0, none⟩ = some (.int .i64 day)) (hL : Lp n₀ w A m tl) :
    SeqStopsK F n Tryd.prog 85 #[.pointer (some ⟨Bl, 0, none⟩), .pointer (some ⟨Bd, 0, none⟩)] (fun x : Int × Int => #[.agg #[.int .i64 x.1, .int .i64 x.2]]) (KpD n₀ Bd) (fun ys => ys = Lpm.pre tl day) (fun pre => pre <+: tl) m w := fun l J Jx W hW hJ _ hY h0 =>
  before1_in F n hf hro hn l Bl Bd n₀ A m c tl day hm J Jx hY W hJ (by have := hW.size; omega) ((hW.cell (p := ⟨Bl, 0, none⟩) hBl).trans hcl) ((hW.cell (p := ⟨Bd, 0, none⟩) hBd).trans hcd) (by have := hW.size; omega) (hL.below (hW.mono hn₀)) h0

theorem cell_new2 (w : World) (a b : Value) (t : TypeId) : (w.alloc (.cells #[a, b] t)).cell? ⟨w.heap.size, 1, none⟩ = some b := by
  have aux : ∀ (W : World) (k : Nat), W.heap[k]? = some (.cells #[a, b] t) → W.cell? ⟨k, 1, none⟩ = some b := fun W k h => by simp [World.cell?, h]
  exact aux _ _ (World.alloc_heap_new w _)
/-- the sum as the loop adds it up -/
def sumW (l : Lpm.LL) : Int := l.foldl (fun s x => wrap64 (s + x.2)) 0
theorem sumW_snoc (l : Lpm.LL) (x : Int × Int) : sumW (l ++ [x]) = wrap64 (sumW l + x.2) := by simp [sumW]
theorem sumW_eq {l : Lpm.LL} (h : ∀ x ∈ l, x.2 = 1 ∨ x.2 = -1) (hl : l.length ≤ 1000) : sumW l = Lpm.sum l := by
  have aux : ∀ k, k ≤ l.length → sumW (l.take k) = Lpm.sum (l.take k) := by
    intro k
    induction k with
    | zero => intro _; rfl
    | succ k ih =>
      intro hk
      rw [take_snoc rfl (by omega : k < l.length), sumW_snoc, Lpm.sum_append, ih (by omega)]
      have hx : ∀ y ∈ l.take k, y.2 = 1 ∨ y.2 = -1 := fun y hy => h y (List.mem_of_mem_take hy)
      have hb := Lpm.sum_bd hx
      have hk2 : (l.take k).length ≤ 1000 := by simp; omega
      have hm := h (l[k]?.getD (0, 0)) (by rw [List.getElem?_eq_getElem (by omega)]; simp)
      simp only [Lpm.sum, Int.add_zero]
      exact IntWalk.wrap64_in _ ⟨by omega, by omega⟩
  have := aux l.length (Nat.le_refl _)
  rwa [List.take_length] at this

set_option maxRecDepth 100000 in
set_option maxHeartbeats 4000000 in
theorem offset_in (F : Fence) (n : Nat) (hf : F.fn 60) (hf1 : F.fn 77) (hf2 : F.fn 85) (hro : F.round = none) (hn : 6 ≤ n) (A : Option Addr) (m c : Nat) (tl : Lpm.LL) (day : Int) (w : World) (hL : Lp w.heap.size w A m tl) (hv : Lpm.valid tl = true) :
    CallsIn F n Tryd.prog 60 #[.slice A m c, .int .i64 day] w (RetB (.int .i64 (Lpm.ofs tl day)) w) := by
  have h1 : 1 ≤ n := by omega
  have hm : m ≤ 110 := by have := hL.1; have := Lpm.valid_len hv; omega
  have HV := Lib.hid hv
  clear hv
  refine callsIn_of_wp_marks Tryd.func60 rfl hf ?_ hro
  simp only [Tryd.ntmps60, List.size_toArray, List.length_cons, List.length_nil, Nat.reduceAdd, Nat.reduceSub, Array.replicate_succ, Array.replicate_zero, List.push_toArray, List.append_toArray, List.nil_append, List.cons_append]
  gi_wp2_with (gi_at_call 77; refine (before_in F (n - 1) hf1 hro _ _ _ _ _).mono ?_; rintro e w' ⟨rfl, rfl⟩)
  have bS := ((Boxed.new w 3 (.int .i64 0)).alloc (.cells #[.slice A m c] 22)).alloc (.cells #[.int .i64 day] 3)
  have bL := (Boxed.new (w.alloc (.cells #[.int .i64 0] 3)) 22 (.slice A m c)).alloc (.cells #[.int .i64 day] 3)
  have bD := Boxed.new ((w.alloc (.cells #[.int .i64 0] 3)).alloc (.cells #[.slice A m c] 22)) 3 (.int .i64 day)
  simp only [World.size_alloc] at bL bD
  have hB0 : Below w.heap.size w (((w.alloc (.cells #[.int .i64 0] 3)).alloc (.cells #[.slice A m c] 22)).alloc (.cells #[.int .i64 day] 3)) := (((Below.refl _ w).alloc (Nat.le_refl _) _).alloc (by simp) _).alloc (by simp; omega) _
  have hsz : (((w.alloc (.cells #[.int .i64 0] 3)).alloc (.cells #[.slice A m c] 22)).alloc (.cells #[.int .i64 day] 3)).heap.size = w.heap.size + 3 := by simp
  obtain ⟨W0, hW0⟩ : ∃ W0, ((w.alloc (.cells #[.int .i64 0] 3)).alloc (.cells #[.slice A m c] 22)).alloc (.cells #[.int .i64 day] 3) = W0 := ⟨_, rfl⟩
  rw [hW0] at bS bL bD hB0 hsz ⊢
  clear hW0
  refine wpIn_rangeFunc_ownH hro h1 (gf := 85) (lb := #[.pointer (some ⟨w.heap.size + 1, 0, none⟩), .pointer (some ⟨w.heap.size + 1 + 1, 0, none⟩)]) rfl hf2 (enters_of Tryd.func85 (by kernel_rfl) rfl)
    (before_stops F (n - 1) hf2 hro (by omega) (w.heap.size + 1) (w.heap.size + 1 + 1) w.heap.size A m c tl day hm W0 (by omega) (by omega) (by omega) bL.cell bD.cell (hL.below hB0)) KpD.trans (KpD.put (by omega) (by omega)) (Below.refl _ _) (fun _ => rfl)
    (fun pre W => (Boxed W w.heap.size 3 (.int .i64 (sumW pre)) ∧ Below w.heap.size w W) ∧ Hid (w.heap.size + 3 ≤ W.heap.size))
    (fun _ _ _ => False)
    (OwnFrom.and (OwnFrom.and (Own.from (boxed_own _ _ _) _) (ownFrom_below (Nat.le_refl _) (by omega))) (fun s A B row hs hg hr => Lib.hid (Nat.le_trans hs.out hg.size)))
    (fun _ _ _ _ _ hs _ _ => hs)
    ⟨⟨bS, hB0⟩, Lib.hid (by omega)⟩
    (fun x a' W => ∃ Bx : Nat, W.cell? ⟨Bx, 1, none⟩ = some (.int .i64 x.2) ∧ a' = { tmps := #[.slice A m c, .int .i64 day, undef, undef, .int .i64 0, .pointer (some ⟨w.heap.size, 0, none⟩), .pointer (some ⟨Bx, 0, none⟩), .slice A m c, .int .i64 day, .func (.func 85) #[] #[.pointer (some ⟨w.heap.size + 1, 0, none⟩), .pointer (some ⟨w.heap.size + 1 + 1, 0, none⟩)], .agg #[.int .i64 x.1, .int .i64 x.2], undef, undef, undef, undef, undef], defers := [] })
    (fun x a' _ X Y row hs hg hr => by obtain ⟨Bx, h2, h3⟩ := hs; exact ⟨Bx, cell_kept h2 hg (fun r e => (hr r e).2), h3⟩)
    ?assign ?body ?done ?stop
  case assign =>
    rintro l pre x W K ⟨⟨bS1, hB1⟩, hs1⟩ hK
    gi_wp2
    exact hK _ _ ((KeepsOthers.alloc _ _).from _) ((KpD.refl _ _ W).alloc hB1.size (by have := hs1.out; omega) _) ⟨⟨bS1.alloc _, hB1.alloc hB1.size _⟩, Lib.hid (by have := hs1.out; simp; omega)⟩ ⟨W.heap.size, cell_new2 _ _ _ _, rfl⟩
  case body =>
    rintro l pre x a' W hl ⟨r, hr⟩ ⟨⟨bS1, hB1⟩, hs1⟩ ⟨Bx, bX, rfl⟩ hlt
    have cS := bS1.cell
    have fS := bS1.frozen
    gi_wp2
    exact ⟨(KeepsOthers.setCell _ _ _).from _, ⟨(Below.refl _ W).setCell (p := ⟨w.heap.size, 0, none⟩) (Nat.le_refl _) _, Below.heap_setCell _ _ _ _ (by simp; omega)⟩, ⟨by rw [sumW_snoc]; exact bS1.set _, hB1.setCell (p := ⟨w.heap.size, 0, none⟩) (Nat.le_refl _) _⟩, Lib.hid (by simpa using hs1.out)⟩
  case done =>
    rintro D ys W hD rfl ⟨⟨bS1, hB1⟩, hs1⟩ hK
    have hfin : sumW (Lpm.pre tl day) = Lpm.ofs tl day := sumW_eq (Lpm.pre_ok HV.out).1 (by have := (Lpm.pre_ok (day := day) HV.out).2; omega)
    rw [hfin] at bS1
    clear hfin
    have cS := bS1.cell
    gi_wp2
    refine ⟨by simp, .inl ⟨_, _, rfl, run_takeDeferred hK, ?_⟩⟩
    exact ⟨_, results_tmp rfl _ _ _, rfl, hB1.trans (belowK_b (w := w) (Nat.le_refl _) W D _ _ (by omega) hK rfl rfl)⟩
  case stop =>
    rintro D c pre W _ _ h _
    exact h.elim

theorem offset_any (B : Nat) (A : Option Addr) (n c : Nat) (l : Lpm.LL) (day : Int) (w : World) (hl : Lp B w A n l) (hB : B ≤ w.heap.size) (hv : Lpm.valid l = true) :
    Calls Tryd.prog 60 #[.slice A n c, .int .i64 day] w (RetB (.int .i64 (Lpm.ofs l day)) w) :=
  (callsIn_wide (n := 8)).1 (offset_in Fence.wide 8 trivial trivial trivial rfl (by omega) A n c l day w (hl.mono hB) hv)

set_option maxHeartbeats 1000000 in
theorem start_any (B : Nat) (A : Option Addr) (n c : Nat) (l : Lpm.LL) (day : Int) (w : World) (hl : Lp B w A n l) (hB : B ≤ w.heap.size) (hv : Lpm.valid l = true) (h0 : 0 ≤ day) (h1 : day ≤ 34001) :
    Calls Tryd.prog 48 #[.slice A n c, .int .i64 day] w (RetB (.int .i64 (Lpm.start l day)) w) := by
  have hb := Lpm.ofs_bd (day := day) hv
  go_enter Tryd.func48, Tryd.ntmps48
  go_wp2_with (go_at_call 60; refine (offset_any _ _ _ _ _ _ _ hl hB hv).mono ?_; rintro e w' ⟨rfl, hw⟩)
  go_ret
  exact ⟨rfl, hw⟩
set_option maxHeartbeats 1000000 in
theorem refBegin_any (B : Nat) (A : Option Addr) (n c : Nat) (l : Lpm.LL) (day : Int) (w : World) (hl : Lp B w A n l) (hB : B ≤ w.heap.size) (hv : Lpm.valid l = true) (h0 : 0 ≤ day) (h1 : day ≤ 40000) :
    Calls Tryd.prog 75 #[.slice A n c, .int .i64 day] w (RetB (.int .i64 (Lpm.start l day)) w) := by
  have hb := Lpm.ofs_bd (day := day) hv
  have HS : Hid (Lpm.start l day = day * 86400000000 + 1000000 * Lpm.ofs l day) := Lib.hid (by unfold Lpm.start; omega)
  go_enter Tryd.func75, Tryd.ntmps75
  go_wp2_with (go_at_call 84; refine (refSum_any _ _ _ _ _ _ _ hl hv).mono ?_; rintro e w' ⟨rfl, hw⟩)
  go_ret
  exact ⟨ret_int HS.out.symm, hw⟩
end Go.Proofs.YtcnenkhgbifmmaaDoor
