/- What falls away: the closure of recur.Correct, slices.Clone, IndexFunc and DeleteFunc over fires. -/
import Derived.Test.YtmicbniipbcapaaDoorReP
import Derived.Laws.IdiomCopy
set_option linter.unusedVariables false
namespace Go.Proofs.YtmicbniipbcapaaDoor
open Go.RowKit
/-- a fire that falls away -/
def delP (b : Lpm.LL) (t : Int) (x : Int × Int) : Bool := decide (x.2 ≤ t) || b.contains x
theorem del_less (b : Lpm.LL) (t : Int) (a : Lpm.LL) : a.filter (fun x => !delP b t x) = Rc.less a b t := by
  unfold Rc.less
  refine List.filter_congr fun x _ => ?_
  unfold delP
  by_cases h : x.2 ≤ t
  · simp [h]; omega
  · simp [h]; omega
/-- what the closure has captured -/
structure DelAt (W : World) (b : Lpm.LL) (t : Int) (ja jt bm : Nat) : Prop where
  ca : W.heap[ja]? = some (.cells #[.int .i64 t] tI)
  ct : W.heap[jt]? = some (.cells #[.map (some bm)] tFB)
  cm : ∃ n, W.ownsMap Tryd.prog tF (plainElem Tryd.prog 4) bm n (setD b)
  wf : WfL b
theorem own_map_below {W W' : World} {b n : Nat} {D : DataW Unit} {k : TypeId} {R : Value → Option (DataW Unit × List MemPlace)} (h : W.ownsMap Tryd.prog k R b n D) (hb : Below W.heap.size W W') : W'.ownsMap Tryd.prog k R b n D := by
  obtain ⟨es, clock, hh, r⟩ := h
  exact ⟨es, clock, keep' hh hb, r⟩
theorem DelAt.below {W W' : World} {b : Lpm.LL} {t : Int} {ja jt bm : Nat} (h : DelAt W b t ja jt bm) (hb : Below W.heap.size W W') : DelAt W' b t ja jt bm :=
  ⟨keep' h.ca hb, keep' h.ct hb, by obtain ⟨n, hn⟩ := h.cm; exact ⟨n, own_map_below hn hb⟩, h.wf⟩
set_option maxHeartbeats 2000000 in
set_option maxRecDepth 100000 in
theorem del_any (b : Lpm.LL) (t : Int) (ja jt bm : Nat) (x : Int × Int) (w : World) (h : DelAt w b t ja jt bm) (hx : WfP x) :
    Calls Tryd.prog 39 #[.agg #[.int .i64 x.1, .int .i64 x.2], pt ja, pt jt] w (RetB (.bool (delP b t x)) w) := by
  have h2 := h.below (Below.goN (Below.refl w.heap.size w) (.cells #[.int .i64 x.1, .int .i64 x.2] tF))
  obtain ⟨n, hown⟩ := h2.cm
  have hlk := set_look hown h2.wf hx
  have ca := blk1 h2.ca
  have ct := blk1 h2.ct
  have HR : Hid (delP b t x = (decide (x.2 ≤ t) || b.contains x)) := Lib.hid rfl
  have hb := Below.goN (Below.refl w.heap.size w) (.cells #[.int .i64 x.1, .int .i64 x.2] tF)
  clear hown h2 h
  generalize b.contains x = q at *
  obtain ⟨d, s⟩ := x
  simp only at *
  cases hc : decide (s ≤ t)
  · go_enter Tryd.func39, Tryd.ntmps39
    go_wp2
    go_ret
    exact ⟨ret_bool (by rw [HR.out, hc]; simp), hb⟩
  · go_enter Tryd.func39, Tryd.ntmps39
    go_wp2
    go_ret
    exact ⟨ret_bool (by rw [HR.out, hc]; simp), hb⟩
/-- where the first one is that is wanted -/
def IdxPost (p : Int × Int → Bool) (l : Lpm.LL) (w : World) (e : Ending) (w' : World) : Prop :=
  Below w.heap.size w w' ∧ ((e = .returned (.int .i64 (-1)) ∧ ∀ x ∈ l, p x = false) ∨ ∃ i : Nat, e = .returned (.int .i64 i) ∧ i < l.length ∧ p (l[i]?.getD (0, 0)) = true ∧ ∀ q, q < i → p (l[q]?.getD (0, 0)) = false)
abbrev dFn (ja jt : Nat) : Value := .func (.func 39) #[] #[pt ja, pt jt]
set_option maxHeartbeats 2000000 in
set_option maxRecDepth 100000 in
theorem idx_any (b : Lpm.LL) (t : Int) (ja jt bm : Nat) (A : Option Addr) (n c : Nat) (l : Lpm.LL) (w : World) (hl : Lp w.heap.size w A n l) (h : DelAt w b t ja jt bm) (hn : n ≤ 100000) (hw : WfL l) :
    Calls Tryd.prog 66 #[.slice A n c, dFn ja jt] w (IdxPost (delP b t) l w) := by
  have H1 := Lib.hid (fun W (hW : Below w.heap.size w W) => hl.go hW)
  have HLen := Lib.hid hl.1
  have HD := Lib.hid (fun W (hW : Below w.heap.size w W) => h.below hW)
  have HW := Lib.hid (fun k (hk : k < n) => (hw (l[k]?.getD (0, 0)) (by rw [List.getElem?_eq_getElem (by have := hl.1; omega)]; exact List.getElem_mem _)))
  clear hl h hw
  go_enter Tryd.func66, Tryd.ntmps66
  go_wp2
  go_loopw [8] (fun i wr => ∃ k : Nat, k ≤ n ∧ i = .int .i64 k ∧ Below w.heap.size w wr ∧ Hid (∀ j, j < k → delP b t (l[j]?.getD (0, 0)) = false)) (fun i _ => n - (intOf i).toNat)
  case atStart => exact ⟨0, Nat.zero_le _, rfl, Below.refl _ _, Lib.hid (fun j h => by omega)⟩
  case round =>
    obtain ⟨k, hk, rfl, hb, hno⟩ := hrel
    by_cases hlt : k < n
    · obtain ⟨bb, off, rfl, hB, hc⟩ := (H1.out _ hb).2 (by omega)
      obtain ⟨c0, c1⟩ := hc k hlt
      have HX := Lib.hid (HW.out k hlt)
      clear hc
      obtain ⟨x, hx⟩ : ∃ x, l[k]?.getD (0, 0) = x := ⟨_, rfl⟩
      rw [hx] at c0 c1 HX
      have HE := Lib.hid hx
      have HC := Lib.hid (del_any b t ja jt bm x wr (HD.out _ hb) HX.out)
      clear hx
      have i0 : (0 : Int) ≤ (k : Int) := by omega
      have i1 : (k : Int) < (n : Int) := by omega
      cases hp : delP b t x
      · have HN : Hid (∀ j, j < k + 1 → delP b t (l[j]?.getD (0, 0)) = false) := Lib.hid fun j hj => by
          by_cases e : j = k
          · subst e; rw [HE.out]; exact hp
          · exact hno.out j (by omega)
        rw [hp] at HC
        clear hp
        go_wp2_with fail
        refine HC.out.mono ?_
        rintro e w5 ⟨rfl, hb5⟩
        have hb6 := Below.go hb hb5
        clear hb5
        go_wp2
        go_roundw
        case rel => exact ⟨k + 1, by omega, by go_num, hb6, HN⟩
        case measure => simp [intOf]; omega
      · have HY : Hid (k < l.length ∧ delP b t (l[k]?.getD (0, 0)) = true) := Lib.hid ⟨by rw [HLen.out]; exact hlt, by rw [HE.out]; exact hp⟩
        rw [hp] at HC
        clear hp
        go_wp2_with fail
        refine HC.out.mono ?_
        rintro e w5 ⟨rfl, hb5⟩
        have hb6 := Below.go hb hb5
        clear hb5
        go_wp2
        go_ret
        exact ⟨hb6, .inr ⟨k, rfl, HY.out.1, HY.out.2, hno.out⟩⟩
    · obtain rfl : k = n := by omega
      go_wp2
      go_ret
      exact ⟨hb, .inl ⟨rfl, fun x hx => by
        obtain ⟨i, hi, e⟩ := List.getElem_of_mem hx
        have := hno.out i (by have := HLen.out; omega)
        rw [List.getElem?_eq_getElem hi] at this
        simpa [e] using this⟩⟩
end Go.Proofs.YtmicbniipbcapaaDoor
