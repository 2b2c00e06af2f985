/- The kinds of schedules: the map of the makers of closures. -/
import Derived.Test.YtcnenkhgbifmmaaDoorReC
import Derived.Test.YtcnenkhgbifmmaaDoorLst
import Derived.Deep.RegionHeld3
set_option linter.unusedVariables false
namespace Go.Proofs.YtcnenkhgbifmmaaDoor
open Go.RowKit Go.ChangeMaps Go.MapKept
open Go.Maps (Keyed int_keyed keyOf_int_mk)
set_option maxHeartbeats 2000000 in
set_option maxRecDepth 100000 in
theorem make3 (r : Rec) (hV : Rc.Val r) (k : Nat) (w : World) (ht : Tab w) (hx : w.heap[k]? = some (.cells #[.int .i64 r.kind, .int .i64 r.every, .int .i64 r.wd, .int .i64 r.nth, .int .i64 r.frm, .int .i64 r.unt, .int .i64 r.sec, .bool r.shift, .bool r.both] 24)) :
    Calls Tryd.prog 67 #[pt k] w fun e w' => e = .returned (.func (.func 80) #[] #[pt (w.heap.size + 3), pt w.heap.size, pt (w.heap.size + 1), pt (w.heap.size + 2)]) ∧
      w' = (((w.alloc (.cells #[.int .i64 r.kind, .int .i64 r.every, .int .i64 r.wd, .int .i64 r.nth, .int .i64 r.frm, .int .i64 r.unt, .int .i64 r.sec, .bool r.shift, .bool r.both] 24)).alloc (.cells #[.func (.func 69) #[] #[pt k]] 111)).alloc (.cells #[.int .i64 (Cal.dY r.frm)] 3)).alloc (.cells #[.int .i64 (Cal.dM r.frm)] 3) := by
  have HM := Lib.hid (monthly_any r hV 69 k w ht)
  obtain ⟨c0, c1, c2, c3, c4, c5, c6, c7, c8⟩ := blk9 hx
  clear hx hV ht
  go_enter Tryd.func67, Tryd.ntmps67
  go_wp2_with (go_at_call 68; refine HM.out.mono ?_; rintro e w' ⟨rfl, rfl⟩)
  go_ret
  exact ⟨rfl, rfl⟩
set_option maxHeartbeats 2000000 in
set_option maxRecDepth 100000 in
theorem make4 (r : Rec) (hV : Rc.Val r) (k : Nat) (w : World) (ht : Tab w) (hx : w.heap[k]? = some (.cells #[.int .i64 r.kind, .int .i64 r.every, .int .i64 r.wd, .int .i64 r.nth, .int .i64 r.frm, .int .i64 r.unt, .int .i64 r.sec, .bool r.shift, .bool r.both] 24)) :
    Calls Tryd.prog 71 #[pt k] w fun e w' => e = .returned (.func (.func 80) #[] #[pt (w.heap.size + 3), pt w.heap.size, pt (w.heap.size + 1), pt (w.heap.size + 2)]) ∧
      w' = (((w.alloc (.cells #[.int .i64 r.kind, .int .i64 r.every, .int .i64 r.wd, .int .i64 r.nth, .int .i64 r.frm, .int .i64 r.unt, .int .i64 r.sec, .bool r.shift, .bool r.both] 24)).alloc (.cells #[.func (.func 72) #[] #[pt k]] 111)).alloc (.cells #[.int .i64 (Cal.dY r.frm)] 3)).alloc (.cells #[.int .i64 (Cal.dM r.frm)] 3) := by
  have HM := Lib.hid (monthly_any r hV 72 k w ht)
  obtain ⟨c0, c1, c2, c3, c4, c5, c6, c7, c8⟩ := blk9 hx
  clear hx hV ht
  go_enter Tryd.func71, Tryd.ntmps71
  go_wp2_with (go_at_call 68; refine HM.out.mono ?_; rintro e w' ⟨rfl, rfl⟩)
  go_ret
  exact ⟨rfl, rfl⟩
/-- a closure that returns the day of each period, now and later -/
def NextOk (r : Rec) (F : Nat) (caps : Array Value) (w : World) : Prop :=
  (∀ (args : Array Value) (W : World), (callFunc F args).run Tryd.prog W = .ok (.enter F args) W) ∧ ∀ W, Below w.heap.size w W → ∀ n : Int, 0 ≤ n → n ≤ 2000 → Calls Tryd.prog F (#[.int .i64 n] ++ caps) W (Ret (.tuple #[.int .i64 (Rc.pd r n), .bool (Rc.pE r n == 0)]) W)
theorem nok1 {r : Rec} (hV : Rc.Val r) (hk : r.kind = 1) {k : Nat} {w : World} (hx : w.heap[k]? = some (.cells #[.int .i64 r.kind, .int .i64 r.every, .int .i64 r.wd, .int .i64 r.nth, .int .i64 r.frm, .int .i64 r.unt, .int .i64 r.sec, .bool r.shift, .bool r.both] 24)) : NextOk r 63 #[pt k] w :=
  ⟨fun args W => by go_simp, fun W hW n h0 h1 => next1 r hV hk k n W (keep' hx hW) h0 h1⟩
theorem nok2 {r : Rec} (hV : Rc.Val r) (hk : r.kind = 2) {k j : Nat} {w : World} (hx : w.heap[k]? = some (.cells #[.int .i64 r.kind, .int .i64 r.every, .int .i64 r.wd, .int .i64 r.nth, .int .i64 r.frm, .int .i64 r.unt, .int .i64 r.sec, .bool r.shift, .bool r.both] 24)) (hj : w.heap[j]? = some (.cells #[.int .i64 ((r.frm + 5) % 7)] 3)) : NextOk r 66 #[pt k, pt j] w :=
  ⟨fun args W => by go_simp, fun W hW n h0 h1 => next2 r hV hk k j n W (keep' hx hW) (keep' hj hW) h0 h1⟩
theorem mo_of {r : Rec} {F k : Nat} {w : World} (hx : w.heap[k]? = some (.cells #[.int .i64 r.kind, .int .i64 r.every, .int .i64 r.wd, .int .i64 r.nth, .int .i64 r.frm, .int .i64 r.unt, .int .i64 r.sec, .bool r.shift, .bool r.both] 24)) : Mo r F ((((w.alloc (.cells #[.int .i64 r.kind, .int .i64 r.every, .int .i64 r.wd, .int .i64 r.nth, .int .i64 r.frm, .int .i64 r.unt, .int .i64 r.sec, .bool r.shift, .bool r.both] 24)).alloc (.cells #[.func (.func F) #[] #[pt k]] 111)).alloc (.cells #[.int .i64 (Cal.dY r.frm)] 3)).alloc (.cells #[.int .i64 (Cal.dM r.frm)] 3)) (w.heap.size + 3) w.heap.size (w.heap.size + 1) (w.heap.size + 2) k :=
  ⟨new43 w _ _ _ _, new40 w _ _ _ _, new41 w _ _ _ _, new42 w _ _ _ _, keepN (keepN (keepN (keepN hx _) _) _) _⟩
theorem Mo.below {r : Rec} {F jm k jf jy kf : Nat} {w W : World} (h : Mo r F w jm k jf jy kf) (hb : Below w.heap.size w W) : Mo r F W jm k jf jy kf :=
  ⟨keep' h.1 hb, keep' h.2.1 hb, keep' h.2.2.1 hb, keep' h.2.2.2.1 hb, keep' h.2.2.2.2 hb⟩
theorem nok3 {r : Rec} (hV : Rc.Val r) (hk : r.kind = 3) {jm k jf jy kf : Nat} {w : World} (ht : Tab w) (hx : Mo r 69 w jm k jf jy kf) : NextOk r 80 #[pt jm, pt k, pt jf, pt jy] w :=
  ⟨fun args W => by go_simp, fun W hW n h0 h1 => next3 r hV hk jm k jf jy kf n W (ht.below hW) (hx.below hW) h0 h1⟩
theorem nok4 {r : Rec} (hV : Rc.Val r) (hk : r.kind = 4) {jm k jf jy kf : Nat} {w : World} (ht : Tab w) (hx : Mo r 72 w jm k jf jy kf) : NextOk r 80 #[pt jm, pt k, pt jf, pt jy] w :=
  ⟨fun args W => by go_simp, fun W hW n h0 h1 => next4 r hV hk jm k jf jy kf n W (ht.below hW) (hx.below hW) h0 h1⟩

/-! the map of the makers -/
theorem wpList_insert_own {H : Type} {P : Program} (w : World) {ops : Array Oper} {rest : List Oper} {o : Oper} {a : Act} {Q : Exit → Act → World → Prop}
    (hg : o.guard = none) (m x v : Operand) (t : TypeId) (hop : o.op = Op.insert t m x v)
    (k e : TypeId) (K : Keyed P k) (ht : P.underlying t = some (.map k e)) (R : Value → Option (DataW H × List MemPlace)) (b n : Nat) (D : DataW H)
    (hm : a.eval m = .map (some b)) (hown : w.ownsMap P k R b n D) (hn : n < maxLen) (key val : Value) (kl : Lit) (hx : a.eval x = key) (hv : a.eval v = val) (hkey : keyOf P k key = some kl)
    (d : DataW H) (ps : List MemPlace) (hval : R val = some (d, ps))
    (hK : ∀ w', w'.ownsMap P k R b (n + 1) (D.put kl d) → w.grownBy w' (some b) → wpList P ops Q rest (a.put o.dst undef) w') :
    wpList P ops Q (o :: rest) a w := by
  refine wpList_plain hg fun K' hK' => ?_
  obtain ⟨w', hrun, r1, r2⟩ := hown.update K ht hn hkey hval
  unfold Oper.wp
  simp [execOp, hop, hm, hx, hv, hrun, Result.andThen]
  exact hK' _ _ (hK w' r1 r2)
/-- the makers -/
def mkf (k : Nat) (i : Nat) : Value := .func (.func (if i = 1 then 62 else if i = 2 then 64 else if i = 3 then 67 else 71)) #[] #[pt k]
open Classical in
noncomputable def pR (k : Nat) (v : Value) : Option (DataW Unit × List MemPlace) :=
  if v = mkf k 1 then some (.lit (.int .i64 1), []) else if v = mkf k 2 then some (.lit (.int .i64 2), []) else if v = mkf k 3 then some (.lit (.int .i64 3), []) else if v = mkf k 4 then some (.lit (.int .i64 4), []) else if v = .nilFunc then some (.lit (.int .i64 0), []) else none
theorem mkf_ne (k : Nat) : mkf k 2 ≠ mkf k 1 ∧ mkf k 3 ≠ mkf k 1 ∧ mkf k 3 ≠ mkf k 2 ∧ mkf k 4 ≠ mkf k 1 ∧ mkf k 4 ≠ mkf k 2 ∧ mkf k 4 ≠ mkf k 3 := by simp [mkf]
theorem pR_1 (k : Nat) : pR k (mkf k 1) = some (.lit (.int .i64 1), []) := by unfold pR; rw [if_pos rfl]
theorem pR_2 (k : Nat) : pR k (mkf k 2) = some (.lit (.int .i64 2), []) := by unfold pR; rw [if_neg (mkf_ne k).1, if_pos rfl]
theorem pR_3 (k : Nat) : pR k (mkf k 3) = some (.lit (.int .i64 3), []) := by unfold pR; rw [if_neg (mkf_ne k).2.1, if_neg (mkf_ne k).2.2.1, if_pos rfl]
theorem pR_4 (k : Nat) : pR k (mkf k 4) = some (.lit (.int .i64 4), []) := by unfold pR; rw [if_neg (mkf_ne k).2.2.2.1, if_neg (mkf_ne k).2.2.2.2.1, if_neg (mkf_ne k).2.2.2.2.2, if_pos rfl]
theorem pR_0 (k : Nat) : pR k .nilFunc = some (.lit (.int .i64 0), []) := by unfold pR; rw [if_neg (by simp [mkf]), if_neg (by simp [mkf]), if_neg (by simp [mkf]), if_neg (by simp [mkf]), if_pos rfl]
theorem pR_inv {k i : Nat} (h0 : 1 ≤ i) (h1 : i ≤ 4) {v : Value} {ps : List MemPlace} (h : pR k v = some (.lit (.int .i64 i), ps)) : v = mkf k i := by
  unfold pR at h
  split at h
  · rename_i e; simp at h; obtain ⟨h, -⟩ := h; obtain rfl : i = 1 := by omega
    exact e
  · split at h
    · rename_i e; simp at h; obtain ⟨h, -⟩ := h; obtain rfl : i = 2 := by omega
      exact e
    · split at h
      · rename_i e; simp at h; obtain ⟨h, -⟩ := h; obtain rfl : i = 3 := by omega
        exact e
      · split at h
        · rename_i e; simp at h; obtain ⟨h, -⟩ := h; obtain rfl : i = 4 := by omega
          exact e
        · split at h
          · simp at h; omega
          · cases h
abbrev tMF : TypeId := 99
theorem zeroF (w : World) : (zeroValue 98).run Tryd.prog w = .ok .nilFunc w := by kernel_rfl
def pD : DataW Unit := ((((DataW.map []).put (.int .i64 1) (.lit (.int .i64 1))).put (.int .i64 2) (.lit (.int .i64 2))).put (.int .i64 3) (.lit (.int .i64 3))).put (.int .i64 4) (.lit (.int .i64 4))
theorem pD_at {i : Nat} (h0 : 1 ≤ i) (h1 : i ≤ 4) (z : DataW Unit) : pD.atKey (.int .i64 i) z = .lit (.int .i64 i) := by
  rcases (show i = 1 ∨ i = 2 ∨ i = 3 ∨ i = 4 by omega) with rfl | rfl | rfl | rfl <;> rfl
theorem pD_look {w : World} {b n k : Nat} (h : w.ownsMap Tryd.prog 3 (pR k) b n pD) {i : Nat} (h0 : 1 ≤ i) (h1 : i ≤ 4) :
    (Instr.lookup tMF (.map (some b)) (.int .i64 i) false).run Tryd.prog w = .ok (mkf k i) w := by
  have hw : (Lit.int .i64 (i : Int)).wf = true := by rcases (show i = 1 ∨ i = 2 ∨ i = 3 ∨ i = 4 by omega) with rfl | rfl | rfl | rfl <;> decide
  obtain ⟨v, ps, hrun, hv⟩ := h.lookup keyedI Tryd.underlying99 (zeroF w) (pR_0 k) (keyOf_int_mk Tryd.underlying3 hw)
  rw [pD_at h0 h1] at hv
  rw [pR_inv h0 h1 hv] at hrun
  exact hrun
set_option maxHeartbeats 2000000 in
set_option maxRecDepth 100000 in
theorem periods_any (r : Rec) (w : World) :
    Calls Tryd.prog 52 #[(.agg #[.int .i64 r.kind, .int .i64 r.every, .int .i64 r.wd, .int .i64 r.nth, .int .i64 r.frm, .int .i64 r.unt, .int .i64 r.sec, .bool r.shift, .bool r.both])] w fun e w' => e = .returned (.map (some (w.heap.size + 1))) ∧ Below w.heap.size w w' ∧ w'.heap[w.heap.size]? = some (.cells #[.int .i64 r.kind, .int .i64 r.every, .int .i64 r.wd, .int .i64 r.nth, .int .i64 r.frm, .int .i64 r.unt, .int .i64 r.sec, .bool r.shift, .bool r.both] 24) ∧ w'.ownsMap Tryd.prog 3 (pR w.heap.size) (w.heap.size + 1) 4 pD := by
  have hmm := @run_makeMap Tryd.prog
  have hb := Below.goN (Below.goN (Below.refl w.heap.size w) (.cells #[.int .i64 r.kind, .int .i64 r.every, .int .i64 r.wd, .int .i64 r.nth, .int .i64 r.frm, .int .i64 r.unt, .int .i64 r.sec, .bool r.shift, .bool r.both] 24)) (.map #[] 0)
  have hx := Lib.hid (keepN (heap_new w (.cells #[.int .i64 r.kind, .int .i64 r.every, .int .i64 r.wd, .int .i64 r.nth, .int .i64 r.frm, .int .i64 r.unt, .int .i64 r.sec, .bool r.shift, .bool r.both] 24)) (.map #[] 0))
  have hown := World.ownsMap_made (w.alloc (.cells #[.int .i64 r.kind, .int .i64 r.every, .int .i64 r.wd, .int .i64 r.nth, .int .i64 r.frm, .int .i64 r.unt, .int .i64 r.sec, .bool r.shift, .bool r.both] 24)) Tryd.prog 3 (pR w.heap.size)
  rw [World.size_alloc] at hown
  go_enter Tryd.func52, Tryd.ntmps52
  go_wp2_with (first | (refine wpList_insert_own _ rfl _ _ _ tMF rfl 3 98 keyedI Tryd.underlying99 (pR w.heap.size) (w.heap.size + 1) _ _ rfl hown (by unfold maxLen; omega) (.int .i64 1) (mkf w.heap.size 1) (.int .i64 1) rfl rfl (keyOf_int_mk Tryd.underlying3 (by decide)) (.lit (.int .i64 1)) [] (pR_1 _) ?_; intro w1 hown hg1; have hx := Lib.hid ((hg1.block w.heap.size (lt_of_heap hx.out) (by simp)).trans hx.out); have hb := Below.grown hb hg1 hb.size (fun g e => by cases e; omega); clear hg1) | (refine wpList_insert_own _ rfl _ _ _ tMF rfl 3 98 keyedI Tryd.underlying99 (pR w.heap.size) (w.heap.size + 1) _ _ rfl hown (by unfold maxLen; omega) (.int .i64 2) (mkf w.heap.size 2) (.int .i64 2) rfl rfl (keyOf_int_mk Tryd.underlying3 (by decide)) (.lit (.int .i64 2)) [] (pR_2 _) ?_; intro w1 hown hg1; have hx := Lib.hid ((hg1.block w.heap.size (lt_of_heap hx.out) (by simp)).trans hx.out); have hb := Below.grown hb hg1 hb.size (fun g e => by cases e; omega); clear hg1) | (refine wpList_insert_own _ rfl _ _ _ tMF rfl 3 98 keyedI Tryd.underlying99 (pR w.heap.size) (w.heap.size + 1) _ _ rfl hown (by unfold maxLen; omega) (.int .i64 3) (mkf w.heap.size 3) (.int .i64 3) rfl rfl (keyOf_int_mk Tryd.underlying3 (by decide)) (.lit (.int .i64 3)) [] (pR_3 _) ?_; intro w1 hown hg1; have hx := Lib.hid ((hg1.block w.heap.size (lt_of_heap hx.out) (by simp)).trans hx.out); have hb := Below.grown hb hg1 hb.size (fun g e => by cases e; omega); clear hg1) | (refine wpList_insert_own _ rfl _ _ _ tMF rfl 3 98 keyedI Tryd.underlying99 (pR w.heap.size) (w.heap.size + 1) _ _ rfl hown (by unfold maxLen; omega) (.int .i64 4) (mkf w.heap.size 4) (.int .i64 4) rfl rfl (keyOf_int_mk Tryd.underlying3 (by decide)) (.lit (.int .i64 4)) [] (pR_4 _) ?_; intro w1 hown hg1; have hx := Lib.hid ((hg1.block w.heap.size (lt_of_heap hx.out) (by simp)).trans hx.out); have hb := Below.grown hb hg1 hb.size (fun g e => by cases e; omega); clear hg1))
  go_ret
  exact ⟨rfl, hb, hx.out, hown⟩
end Go.Proofs.YtcnenkhgbifmmaaDoor
