/- The contracts of smear.windows, smear.can and smear.find. -/
import Derived.Test.YtcnenkhgbifmmaaDoorSmA
set_option linter.unusedVariables false
namespace Go.Proofs.YtcnenkhgbifmmaaDoor
open Go.RowKit Go.Shelf
attribute [local go_sem] Oper.semAt_some
set_option maxHeartbeats 1000000 in
theorem windows_in (n : Nat) (A : Option Addr) (m c : Nat) (h : Int) (w : World) :
    CallsIn Fence.wide n Tryd.prog 58 #[.slice A m c, .int .i64 h] w fun e w' => e = .returned (.func (.func 76) #[] #[.pointer (some ⟨w.heap.size, 0, none⟩), .pointer (some ⟨w.heap.size + 1, 0, none⟩)]) ∧ w' = (w.alloc (.cells #[.slice A m c] 22)).alloc (.cells #[.int .i64 h] 3) := by
  refine callsIn_of_wp Tryd.func58 rfl trivial ?_ rfl
  simp only [Tryd.ntmps58, List.size_toArray, List.length_cons, List.length_nil, Nat.reduceAdd, Nat.reduceSub, Array.replicate_succ, Array.replicate_zero, List.push_toArray, List.append_toArray, List.nil_append, List.cons_append]
  gi_wp2
  go_ret
  exact ⟨rfl, rfl⟩
theorem windows_stops (n : Nat) (hn : 1 ≤ n) (Bl Bh n₀ : Nat) (A : Option Addr) (m c : Nat) (tl : Lpm.LL) (h : Int) (hm : m ≤ 110) (hv : Lpm.valid tl = true) (hh1 : 1000000 ≤ h) (hh2 : h ≤ 43200000000) (w : World) (hn₀ : n₀ ≤ w.heap.size)
    (hBl : w.heap[Bl]? = some (.cells #[.slice A m c] 22)) (hBh : w.heap[Bh]? = some (.cells #[.int .i64 h] 3)) (hlh : Bl ≤ Bh) (hL : Lp n₀ w A m tl) :
    SeqStopsK Fence.wide n Tryd.prog 76 #[.pointer (some ⟨Bl, 0, none⟩), .pointer (some ⟨Bh, 0, none⟩)] (fun x : Wx m => #[winV tl h x.1]) (KpB n₀ Bl) (fun ys => ys.map (·.1) = List.range m) (fun pre => ∃ k, pre.map (·.1) = List.range k) m w := fun l J Jx W hW hJ _ hY h0 =>
  windows1_in n hn l Bl Bh n₀ A m c tl h hm hv hh1 hh2 J Jx hY W hJ (by have := hW.size; omega) (keep' hBl hW) (keep' hBh hW) hlh (by have := hW.size; have := lt_of_heap hBl; omega) (hL.below (hW.mono hn₀)) h0
/-- the end of the last window that has come -/
def endP {m : Nat} (l : Lpm.LL) (h : Int) (pre : List (Wx m)) : Int := match pre.getLast? with | none => 0 | some x => Smm.mid l x.1 - h + 2 * h
theorem endP_snoc {m : Nat} (l : Lpm.LL) (h : Int) (pre : List (Wx m)) (x : Wx m) : endP l h (pre ++ [x]) = Smm.mid l x.1 - h + 2 * h := by unfold endP; simp
theorem snoc_parts {m : Nat} {pre : List (Wx m)} {x : Wx m} {k : Nat} (h : (pre ++ [x]).map (·.1) = List.range k) : k = pre.length + 1 ∧ pre.map (·.1) = List.range pre.length ∧ x.1 = pre.length := by
  have hl := congrArg List.length h
  simp at hl
  subst hl
  rw [List.range_succ, List.map_append] at h
  obtain ⟨h1, h2⟩ := List.append_inj h (by simp)
  exact ⟨rfl, h1, by simpa using h2⟩
theorem last_of {m : Nat} {pre : List (Wx m)} (h : pre.map (·.1) = List.range pre.length) : pre = [] ∨ ∃ y : Wx m, pre.getLast? = some y ∧ y.1 + 1 = pre.length := by
  rcases List.eq_nil_or_concat pre with e | ⟨q, y, e⟩
  · exact .inl e
  · right
    subst e
    rw [List.concat_eq_append] at h ⊢
    obtain ⟨h1, h2, h3⟩ := snoc_parts h
    exact ⟨y, by simp, by simp; omega⟩
theorem endP_at {m : Nat} {l : Lpm.LL} {h : Int} {pre : List (Wx m)} (hp : pre.map (·.1) = List.range pre.length) : (pre.length = 0 ∧ endP l h pre = 0) ∨ ∃ j, j + 1 = pre.length ∧ endP l h pre = Smm.mid l j - h + 2 * h := by
  rcases last_of hp with e | ⟨y, e1, e2⟩
  · subst e; exact .inl ⟨rfl, rfl⟩
  · exact .inr ⟨y.1, e2, by unfold endP; rw [e1]⟩
theorem chk_bad {m : Nat} {l : Lpm.LL} {h : Int} {pre : List (Wx m)} {x : Wx m} (hlen : l.length = m) (hv : Lpm.valid l = true) (h2 : h ≤ 43200000000) (hlt : Smm.mid l x.1 - h < endP l h pre) {k : Nat} (hk : (pre ++ [x]).map (·.1) = List.range k) : Smm.can l h = false := by
  obtain ⟨rfl, h3, h4⟩ := snoc_parts hk
  have hx := x.2
  have hm := Smm.mid_bd hv (k := x.1) (by omega)
  cases e : Smm.can l h
  · rfl
  have c := Smm.can_yes e
  rcases endP_at (l := l) (h := h) h3 with ⟨e1, e2⟩ | ⟨j, e1, e2⟩
  · omega
  · have := c.g j (by omega)
    rw [show j + 1 = x.1 by omega] at this; omega
def okP {m : Nat} (l : Lpm.LL) (h : Int) (pre : List (Wx m)) : Prop := ∀ k, pre.map (·.1) = List.range k → ∀ j, j + 1 < k → Smm.mid l j + h ≤ Smm.mid l (j + 1) - h
theorem chk_good {m : Nat} {l : Lpm.LL} {h : Int} {pre : List (Wx m)} {x : Wx m} (ho : okP l h pre) (hlt : ¬ Smm.mid l x.1 - h < endP l h pre) : okP l h (pre ++ [x]) := by
  intro k hk j hj
  obtain ⟨rfl, h3, h4⟩ := snoc_parts hk
  rcases Nat.lt_or_ge (j + 1) pre.length with e | e
  · exact ho _ h3 j e
  · rcases endP_at (l := l) (h := h) h3 with ⟨e1, e2⟩ | ⟨i, e1, e2⟩
    · omega
    · obtain rfl : j = i := by omega
      rw [show j + 1 = x.1 by omega]; omega
theorem can_all {m : Nat} {l : Lpm.LL} {h : Int} {ys : List (Wx m)} (hlen : l.length = m) (hv : Lpm.valid l = true) (h1 : 1000000 ≤ h) (h2 : h ≤ 43200000000) (hy : ys.map (·.1) = List.range m) (ho : okP l h ys) : Smm.can l h = true :=
  Smm.can_mk ⟨hv, h1, h2, fun k hk => ho m hy k (by omega)⟩
theorem half_ways (h : Int) : h < 1000000 ∨ 1000000 ≤ h ∧ 43200000000 < h ∨ 1000000 ≤ h ∧ h ≤ 43200000000 := by omega
theorem can_false {l : Lpm.LL} {h : Int} (hh : ¬ (Lpm.valid l = true ∧ 1000000 ≤ h ∧ h ≤ 43200000000)) : Smm.can l h = false := by
  cases e : Smm.can l h
  · rfl
  · have := Smm.can_yes e; exact absurd ⟨this.v, this.h1, this.h2⟩ hh
set_option maxRecDepth 100000 in
set_option maxHeartbeats 4000000 in
theorem can_no (n : Nat) (hn : 6 ≤ n) (A : Option Addr) (m c : Nat) (tl : Lpm.LL) (h : Int) (w : World) (hL : Lp w.heap.size w A m tl) (hm : m ≤ 110) (hh : ¬ (Lpm.valid tl = true ∧ 1000000 ≤ h ∧ h ≤ 43200000000)) :
    CallsIn Fence.wide n Tryd.prog 43 #[.slice A m c, .int .i64 h] w (RetB (.bool (Smm.can tl h)) w) := by
  have h1 : 1 ≤ n := by omega
  have hz := Lib.hid (can_false hh)
  have hb0 := ((Below.refl w.heap.size w).alloc (Nat.le_refl _) (.cells #[.int .i64 h] 3)).alloc (by simp) (.cells #[.bool false] 4)
  have k1 := Lib.hid (new1 w (.cells #[.int .i64 h] 3) (.cells #[.bool false] 4))
  have k0 := Lib.hid (new0 w (.cells #[.int .i64 h] 3) (.cells #[.bool false] 4))
  have hVal := Lib.hid (valid_any w.heap.size A m c tl ((w.alloc (.cells #[.int .i64 h] 3)).alloc (.cells #[.bool false] 4)) (hL.below hb0) (by simp; omega) hm)
  refine callsIn_of_wp_marks Tryd.func43 rfl trivial ?_ rfl
  simp only [Tryd.ntmps43, List.size_toArray, List.length_cons, List.length_nil, Nat.reduceAdd, Nat.reduceSub, Array.replicate_succ, Array.replicate_zero, List.push_toArray, List.append_toArray, List.nil_append, List.cons_append]
  have hfin : Hid (∀ w1 : World, Below ((w.alloc (.cells #[.int .i64 h] 3)).alloc (.cells #[.bool false] 4)).heap.size ((w.alloc (.cells #[.int .i64 h] 3)).alloc (.cells #[.bool false] 4)) w1 → Below w.heap.size w (w1.setCell ⟨w.heap.size + 1, 0, none⟩ (.bool false))) := Lib.hid fun w1 hb1 => (Below.go hb0 hb1).setCell (p := ⟨w.heap.size + 1, 0, none⟩) (by simp) _
  have hways : Lpm.valid tl = false ∨ Lpm.valid tl = true ∧ h < 1000000 ∨ Lpm.valid tl = true ∧ 1000000 ≤ h ∧ 43200000000 < h := by
    cases hv : Lpm.valid tl
    · exact .inl rfl
    · rcases half_ways h with e | e | e
      · exact .inr (.inl ⟨rfl, e⟩)
      · exact .inr (.inr ⟨rfl, e⟩)
      · exact absurd ⟨hv, e⟩ hh
  rcases hways with hv | ⟨hv, hw⟩ | ⟨hv, hw1, hw2⟩
  all_goals
    rw [hv] at hVal
    clear hh hv
    gi_wp2_with (refine ⟨trivial, ?_⟩; gi_at_call 24; refine (callsIn_wide.2 hVal.out).mono ?_; rintro e w1 ⟨rfl, hb1⟩; have hc1 := blk1 (keep' k1.out hb1); have hf1 := frz1 (keep' k1.out hb1); have hc0 := blk1 (keep' k0.out hb1))
    exact ⟨.bool false, by simp [results, Tryd.results43, go_sem, hc1], by rw [hz.out]; exact ⟨rfl, hfin.out _ hb1⟩⟩
set_option maxRecDepth 100000 in
set_option maxHeartbeats 4000000 in
theorem can_ok (n : Nat) (hn : 6 ≤ n) (A : Option Addr) (m c : Nat) (tl : Lpm.LL) (h : Int) (w : World) (hL : Lp w.heap.size w A m tl) (hm : m ≤ 110) (hv : Lpm.valid tl = true) (hh1 : 1000000 ≤ h) (hh2 : h ≤ 43200000000) :
    CallsIn Fence.wide n Tryd.prog 43 #[.slice A m c, .int .i64 h] w (RetB (.bool (Smm.can tl h)) w) := by
  have h1 : 1 ≤ n := by omega
  have hb0 := ((Below.refl w.heap.size w).alloc (Nat.le_refl _) (.cells #[.int .i64 h] 3)).alloc (by simp) (.cells #[.bool false] 4)
  have k1 := Lib.hid (new1 w (.cells #[.int .i64 h] 3) (.cells #[.bool false] 4))
  have k0 := Lib.hid (new0 w (.cells #[.int .i64 h] 3) (.cells #[.bool false] 4))
  have hVal := Lib.hid (valid_any w.heap.size A m c tl ((w.alloc (.cells #[.int .i64 h] 3)).alloc (.cells #[.bool false] 4)) (hL.below hb0) (by simp; omega) hm)
  rw [hv] at hVal
  have HV := Lib.hid hv
  have u1 : decide (h < 1000000) = false := decide_eq_false (by omega)
  have u2 : decide (43200000000 < h) = false := decide_eq_false (by omega)
  clear hv
  refine callsIn_of_wp_marks Tryd.func43 rfl trivial ?_ rfl
  simp only [Tryd.ntmps43, List.size_toArray, List.length_cons, List.length_nil, Nat.reduceAdd, Nat.reduceSub, Array.replicate_succ, Array.replicate_zero, List.push_toArray, List.append_toArray, List.nil_append, List.cons_append]
  gi_wp2_with (first | (refine ⟨trivial, ?_⟩; gi_at_call 24; refine (callsIn_wide.2 hVal.out).mono ?_; rintro e w1 ⟨rfl, hb1⟩; have hc0 := blk1 (keep' k0.out hb1); have hc0A := blk1 (keepN (keep' k0.out hb1) (.cells #[.int .i64 0] 3))) | (refine ⟨trivial, ?_⟩; gi_at_call 58; refine (windows_in _ _ _ _ _ _).mono ?_; rintro e w' ⟨rfl, rfl⟩))
  have hw1 := lt_of_heap (keep' k1.out hb1)
  have HB1 := Below.go hb0 hb1
  have bH0 := keep' k0.out hb1
  have bR0 := keep' k1.out hb1
  have hs1 := HB1.size
  have bE := keepN (keepN (heap_new w1 (.cells #[.int .i64 0] 3)) (.cells #[.slice A m c] 22)) (.cells #[.int .i64 h] 3)
  have bL := keepN (heap_new (w1.alloc (.cells #[.int .i64 0] 3)) (.cells #[.slice A m c] 22)) (.cells #[.int .i64 h] 3)
  have bD := heap_new ((w1.alloc (.cells #[.int .i64 0] 3)).alloc (.cells #[.slice A m c] 22)) (.cells #[.int .i64 h] 3)
  simp only [World.size_alloc] at bL bD
  have bH := keepN (keepN (keepN bH0 (.cells #[.int .i64 0] 3)) (.cells #[.slice A m c] 22)) (.cells #[.int .i64 h] 3)
  have bR := keepN (keepN (keepN bR0 (.cells #[.int .i64 0] 3)) (.cells #[.slice A m c] 22)) (.cells #[.int .i64 h] 3)
  have hB0 := Below.goN (Below.goN (Below.goN HB1 (.cells #[.int .i64 0] 3)) (.cells #[.slice A m c] 22)) (.cells #[.int .i64 h] 3)
  have hsz : (((w1.alloc (.cells #[.int .i64 0] 3)).alloc (.cells #[.slice A m c] 22)).alloc (.cells #[.int .i64 h] 3)).heap.size = w1.heap.size + 3 := by simp
  obtain ⟨W0, hW0⟩ : ∃ W0, ((w1.alloc (.cells #[.int .i64 0] 3)).alloc (.cells #[.slice A m c] 22)).alloc (.cells #[.int .i64 h] 3) = W0 := ⟨_, rfl⟩
  rw [hW0] at bE bL bD bH bR hB0 hsz ⊢
  clear hW0 hc0 hc0A bH0 bR0
  refine wpIn_rangeFunc_ownH rfl h1 (gf := 76) (lb := #[.pointer (some ⟨w1.heap.size + 1, 0, none⟩), .pointer (some ⟨w1.heap.size + 1 + 1, 0, none⟩)]) rfl trivial (enters_of Tryd.func76 (by kernel_rfl) rfl)
    (windows_stops (n - 1) (by omega) (w1.heap.size + 1) (w1.heap.size + 1 + 1) w.heap.size A m c tl h hm HV.out hh1 hh2 W0 (by omega) bL bD (by omega) (hL.below hB0)) KpB.trans (KpB.put (by omega)) (Below.refl _ _) (fun _ => rfl)
    (fun pre W => ((Boxed W w1.heap.size 3 (.int .i64 (endP tl h pre)) ∧ Boxed W w.heap.size 3 (.int .i64 h) ∧ Boxed W (w.heap.size + 1) 4 (.bool false)) ∧ Below w.heap.size w W) ∧ Hid (w1.heap.size + 3 ≤ W.heap.size ∧ okP tl h pre))
    (fun cd pre W => cd = .ret ∧ (Boxed W (w.heap.size + 1) 4 (.bool false) ∧ Below w.heap.size w W) ∧ Hid (∀ k, pre.map (·.1) = List.range k → Smm.can tl h = false))
    (OwnFrom.and (OwnFrom.and (OwnFrom.and (Own.from (boxed_own _ _ _) _) (OwnFrom.and (Own.from (boxed_own _ _ _) _) (Own.from (boxed_own _ _ _) _))) (ownFrom_below (Nat.le_refl _) (by omega))) (fun s A B row hs hg hr => Lib.hid ⟨Nat.le_trans hs.out.1 hg.size, hs.out.2⟩))
    (fun cd => OwnFrom.and (ownFrom_pure _ _) (OwnFrom.and (OwnFrom.and (Own.from (boxed_own _ _ _) _) (ownFrom_below (Nat.le_refl _) (by omega))) (ownFrom_pure _ _)))
    ⟨⟨⟨bE, bH, bR⟩, hB0⟩, Lib.hid ⟨by omega, fun k hk j hj => by have := congrArg List.length hk; simp at this; omega⟩⟩
    (fun x a' W => ∃ Bx : Nat, W.cell? ⟨Bx, 0, none⟩ = some (.int .i64 (Smm.mid tl x.1 - h)) ∧ a' = { tmps := #[.slice A m c, .int .i64 h, undef, .pointer (some ⟨w.heap.size, 0, none⟩), .pointer (some ⟨w.heap.size + 1, 0, none⟩), .pointer (some ⟨w1.heap.size, 0, none⟩), .pointer (some ⟨Bx, 0, none⟩), .slice A m c, .bool true, .bool false, .bool false, .int .i64 h, .bool false, .bool false, .bool false, .int .i64 h, .bool false, .bool false, .slice A m c, .int .i64 h, .func (.func 76) #[] #[.pointer (some ⟨w1.heap.size + 1, 0, none⟩), .pointer (some ⟨w1.heap.size + 1 + 1, 0, none⟩)], winV tl h x.1, undef, undef, undef, undef, undef, undef, undef, undef, undef], defers := [] })
    (fun x a' _ X Y row hs hg hr => by obtain ⟨Bx, h2, h3⟩ := hs; exact ⟨Bx, cell_kept h2 hg (fun r e => (hr r e).2), h3⟩)
    ?assign ?body ?done ?stop
  case assign =>
    rintro l pre x W K ⟨⟨⟨bE1, bH1, bR1⟩, hB1⟩, hs1'⟩ hK
    gi_wp2
    exact hK _ _ ((KeepsOthers.alloc _ _).from _) ((KpB.refl _ _ W).below hB1.size ((Below.refl _ _).alloc (Nat.le_refl _) _)) ⟨⟨⟨bE1.alloc _, bH1.alloc _, bR1.alloc _⟩, hB1.alloc hB1.size _⟩, Lib.hid ⟨by have := hs1'.out.1; simp; omega, hs1'.out.2⟩⟩ ⟨W.heap.size, (blk4 (heap_new _ _)).1.1, rfl⟩
  case body =>
    rintro l pre x a' W hl ⟨r, hr⟩ ⟨⟨⟨bE1, bH1, bR1⟩, hB1⟩, hs1'⟩ ⟨Bx, bX, rfl⟩ hlt
    have cE := bE1.cell
    have fE := bE1.frozen
    have cH := bH1.cell
    have cR := bR1.cell
    have fR := bR1.frozen
    have hmd := Smm.mid_bd HV.out (k := x.1) (by rw [hL.1]; exact x.2)
    have hme := Smm.end_bd HV.out
    have hes : Hid (endP tl h (pre ++ [x]) = Smm.mid tl x.1 - h + 2 * h) := Lib.hid (endP_snoc _ _ _ _)
    have hbad : Hid (Smm.mid tl x.1 - h < endP tl h pre → ∀ k, (pre ++ [x]).map (·.1) = List.range k → Smm.can tl h = false) := Lib.hid fun q k hk => chk_bad hL.1 HV.out hh2 q hk
    have hgood : Hid (¬ Smm.mid tl x.1 - h < endP tl h pre → okP tl h (pre ++ [x])) := Lib.hid fun q => chk_good hs1'.out.2 q
    have hsW := hs1'.out.1
    generalize Smm.mid tl x.1 = M at *
    generalize endP tl h pre = E at *
    by_cases hc : M - h < E
    · have q : decide (M - h < E) = true := decide_eq_true hc
      have hb2 := Lib.hid (hbad.out hc)
      gi_wp2
      exact ⟨(KeepsOthers.setCell _ _ _).from _, rfl, ⟨bR1.set _, hB1.setCell (p := ⟨w.heap.size + 1, 0, none⟩) (by simp) _⟩, hb2⟩
    · have q : decide (M - h < E) = false := decide_eq_false hc
      have hg2 := Lib.hid (hgood.out hc)
      gi_wp2
      exact ⟨(KeepsOthers.setCell _ _ _).from _, KpB.set _ (by omega) (by omega) _, ⟨⟨⟨by rw [hes.out]; exact bE1.set _, bH1.other (by omega) _, bR1.other (by omega) _⟩, hB1.setCell (p := ⟨w1.heap.size, 0, none⟩) (by simp; omega) _⟩, Lib.hid ⟨by simpa using hsW, hg2.out⟩⟩⟩
  case done =>
    rintro D ys W hD hys ⟨⟨⟨bE1, bH1, bR1⟩, hB1⟩, hs1'⟩ hK
    have hcan := Lib.hid (can_all hL.1 HV.out hh1 hh2 hys hs1'.out.2)
    have cR := bR1.cell
    have fR := bR1.frozen
    gi_wp2
    have hK2 := (KeepsOthers.setCell W ⟨w.heap.size + 1, 0, none⟩ (.bool true)).same D _ hK rfl
    have hcF := cell_kept (bR1.set (.bool true)).cell (grownBy_putObj' _ D (.deferred none)) (fun r e => by cases e; exact ⟨_, hK2, rfl⟩)
    refine ⟨by simp, .inl ⟨_, _, rfl, run_takeDeferred hK2, ?_⟩⟩
    exact ⟨.bool true, by simp [results, Tryd.results43, go_sem, hcF], by rw [hcan.out]; exact ⟨rfl, (hB1.setCell (p := ⟨w.heap.size + 1, 0, none⟩) (by simp) _).trans (belowK_b (w := w) (Nat.le_refl _) _ D _ _ (by omega) hK2 rfl rfl)⟩⟩
  case stop =>
    rintro D cd pre W hD ⟨k, hk⟩ ⟨rfl, ⟨bR1, hB1⟩, hcan⟩ hK
    have hz := Lib.hid (hcan.out k hk)
    have hcF := cell_kept bR1.cell (grownBy_putObj' _ D (.deferred none)) (fun r e => by cases e; exact ⟨_, hK, rfl⟩)
    gi_wp2
    refine ⟨by simp, .inl ⟨_, _, rfl, run_takeDeferred hK, ?_⟩⟩
    exact ⟨.bool false, by simp [results, Tryd.results43, go_sem, hcF], by rw [hz.out]; exact ⟨rfl, hB1.trans (belowK_b (w := w) (Nat.le_refl _) _ D _ _ (by omega) hK rfl rfl)⟩⟩
theorem can_any (A : Option Addr) (m c : Nat) (tl : Lpm.LL) (h : Int) (w : World) (hL : Lp w.heap.size w A m tl) (hm : m ≤ 110) : Calls Tryd.prog 43 #[.slice A m c, .int .i64 h] w (RetB (.bool (Smm.can tl h)) w) := by
  refine (callsIn_wide (n := 8)).1 ?_
  by_cases hh : Lpm.valid tl = true ∧ 1000000 ≤ h ∧ h ≤ 43200000000
  · exact can_ok 8 (by omega) A m c tl h w hL hm hh.1 hh.2.1 hh.2.2
  · exact can_no 8 (by omega) A m c tl h w hL hm hh
end Go.Proofs.YtcnenkhgbifmmaaDoor
