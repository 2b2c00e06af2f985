/- The law TopCorrected. -/
import Derived.Test.YtcnenkhgbifmmaaDoorTpE
import Derived.Test.YtcnenkhgbifmmaaDoorOpen
set_option linter.unusedVariables false
namespace Go.Proofs.YtcnenkhgbifmmaaDoor
open Go.RowKit Go.ChangeMaps Go.MapKept
open Go.Maps (Keyed)
theorem fi_n {l : Lpm.LL} {r : Rec} {w : World} {f : FuncId} {args : Array Value} {e : Int} {n : Nat} (h : Calls Tryd.prog f args w (FiresPost l r w)) (he : Rc.fiE l r = e) (hn : (Rc.fiV l r).length = n) :
    Calls Tryd.prog f args w fun e' w' => ∃ A c, e' = .returned (.tuple #[.slice A n c, .int .i64 e]) ∧ Lp w'.heap.size w' A n (Rc.fiV l r) ∧ Below w.heap.size w w' := by
  subst he hn
  refine h.mono ?_
  rintro e' w' ⟨v, rfl, ho, hb⟩
  obtain ⟨A, c, rfl, -, -, hl⟩ := own_lp ho rfl
  exact ⟨A, c, rfl, hl, hb⟩
theorem lt_len {l : Lpm.LL} {k n : Nat} (h : l.length = n) (hk : k < n) : k < l.length := by rw [h]; exact hk
theorem wf_at {l : Lpm.LL} (h : WfL l) (k : Nat) (hk : k < l.length) : WfP (l[k]?.getD (0, 0)) := by rw [List.getElem?_eq_getElem hk]; exact h _ (List.getElem_mem hk)
theorem wf_less {a b : Lpm.LL} {t : Int} (h : WfL a) : WfL (Rc.less a b t) := fun x hx => h x (by unfold Rc.less at hx; exact (List.mem_filter.1 hx).1)
theorem wf_aft {a : Lpm.LL} {t : Int} (h : WfL a) : WfL (Rc.aft a t) := fun x hx => h x (by unfold Rc.aft at hx; exact (List.mem_filter.1 hx).1)
theorem cont_snoc (L : Lpm.LL) (x y : Int × Int) : (L ++ [x]).contains y = (L.contains y || y == x) := by
  rw [Bool.eq_iff_iff]; simp
set_option maxHeartbeats 2000000 in
set_option maxRecDepth 100000 in
theorem corrected_n1 (A1 A2 A3 : Option Addr) (n1 c1 n2 c2 n3 c3 : Nat) (la lb lc : Lpm.LL) (r : Rec) (t : Int) (w : World) (ht : Tab w) (h1 : Lp w.heap.size w A1 n1 la) (h2 : Lp w.heap.size w A2 n2 lb) (h3 : Lp w.heap.size w A3 n3 lc) (g0 : ¬ n1 ≤ 20) :
    Calls Tryd.prog 3 #[.slice A1 n1 c1, .slice A2 n2 c2, .slice A3 n3 c3, (.agg #[.int .i64 r.kind, .int .i64 r.every, .int .i64 r.wd, .int .i64 r.nth, .int .i64 r.frm, .int .i64 r.unt, .int .i64 r.sec, .bool r.shift, .bool r.both]), .int .i64 t] w (LawPost w) := by
  have HT : Hid (∀ W, Below w.heap.size w W → Tab W) := Lib.hid fun W hW => ht.below hW
  have H1 : Hid (∀ W, Below w.heap.size w W → Lp W.heap.size W A1 n1 la) := Lib.hid fun W hW => h1.go hW
  have H2 : Hid (∀ W, Below w.heap.size w W → Lp W.heap.size W A2 n2 lb) := Lib.hid fun W hW => h2.go hW
  have H3 : Hid (∀ W, Below w.heap.size w W → Lp W.heap.size W A3 n3 lc) := Lib.hid fun W hW => h3.go hW
  have hb := Below.goN (Below.refl w.heap.size w) (.cells #[.int .i64 r.kind, .int .i64 r.every, .int .i64 r.wd, .int .i64 r.nth, .int .i64 r.frm, .int .i64 r.unt, .int .i64 r.sec, .bool r.shift, .bool r.both] 24)
  have kx := Lib.hid (heap_new w (.cells #[.int .i64 r.kind, .int .i64 r.every, .int .i64 r.wd, .int .i64 r.nth, .int .i64 r.frm, .int .i64 r.unt, .int .i64 r.sec, .bool r.shift, .bool r.both] 24))
  clear ht h1 h2 h3
  have u0 : (20 : Int) < (n1 : Int) := by omega
  go_enter Tryd.func3, Tryd.ntmps3
  go_wp2_with fail
  refine (head14 _ (HT.out _ hb)).mono ?_
  rintro e w1 ⟨rfl, hn⟩
  have hb := Below.go hb hn
  have kx := Lib.hid (keep' kx.out hn)
  clear hn
  go_wp2
  go_ret
  exact ⟨by simp, hb⟩
set_option maxHeartbeats 2000000 in
set_option maxRecDepth 100000 in
theorem corrected_n2 (A1 A2 A3 : Option Addr) (n1 c1 n2 c2 n3 c3 : Nat) (la lb lc : Lpm.LL) (r : Rec) (t : Int) (w : World) (ht : Tab w) (h1 : Lp w.heap.size w A1 n1 la) (h2 : Lp w.heap.size w A2 n2 lb) (h3 : Lp w.heap.size w A3 n3 lc) (g0 : n1 ≤ 20) (g1 : ¬ n2 ≤ 20) :
    Calls Tryd.prog 3 #[.slice A1 n1 c1, .slice A2 n2 c2, .slice A3 n3 c3, (.agg #[.int .i64 r.kind, .int .i64 r.every, .int .i64 r.wd, .int .i64 r.nth, .int .i64 r.frm, .int .i64 r.unt, .int .i64 r.sec, .bool r.shift, .bool r.both]), .int .i64 t] w (LawPost w) := by
  have HT : Hid (∀ W, Below w.heap.size w W → Tab W) := Lib.hid fun W hW => ht.below hW
  have H1 : Hid (∀ W, Below w.heap.size w W → Lp W.heap.size W A1 n1 la) := Lib.hid fun W hW => h1.go hW
  have H2 : Hid (∀ W, Below w.heap.size w W → Lp W.heap.size W A2 n2 lb) := Lib.hid fun W hW => h2.go hW
  have H3 : Hid (∀ W, Below w.heap.size w W → Lp W.heap.size W A3 n3 lc) := Lib.hid fun W hW => h3.go hW
  have hb := Below.goN (Below.refl w.heap.size w) (.cells #[.int .i64 r.kind, .int .i64 r.every, .int .i64 r.wd, .int .i64 r.nth, .int .i64 r.frm, .int .i64 r.unt, .int .i64 r.sec, .bool r.shift, .bool r.both] 24)
  have kx := Lib.hid (heap_new w (.cells #[.int .i64 r.kind, .int .i64 r.every, .int .i64 r.wd, .int .i64 r.nth, .int .i64 r.frm, .int .i64 r.unt, .int .i64 r.sec, .bool r.shift, .bool r.both] 24))
  clear ht h1 h2 h3
  have u0 : ¬ (20 : Int) < (n1 : Int) := by omega
  have u1 : (20 : Int) < (n2 : Int) := by omega
  go_enter Tryd.func3, Tryd.ntmps3
  go_wp2_with fail
  refine (head14 _ (HT.out _ hb)).mono ?_
  rintro e w1 ⟨rfl, hn⟩
  have hb := Below.go hb hn
  have kx := Lib.hid (keep' kx.out hn)
  clear hn
  go_wp2
  go_ret
  exact ⟨by simp, hb⟩
set_option maxHeartbeats 2000000 in
set_option maxRecDepth 100000 in
theorem corrected_n3 (A1 A2 A3 : Option Addr) (n1 c1 n2 c2 n3 c3 : Nat) (la lb lc : Lpm.LL) (r : Rec) (t : Int) (w : World) (ht : Tab w) (h1 : Lp w.heap.size w A1 n1 la) (h2 : Lp w.heap.size w A2 n2 lb) (h3 : Lp w.heap.size w A3 n3 lc) (g0 : n1 ≤ 20) (g1 : n2 ≤ 20) (g2 : ¬ n3 ≤ 20) :
    Calls Tryd.prog 3 #[.slice A1 n1 c1, .slice A2 n2 c2, .slice A3 n3 c3, (.agg #[.int .i64 r.kind, .int .i64 r.every, .int .i64 r.wd, .int .i64 r.nth, .int .i64 r.frm, .int .i64 r.unt, .int .i64 r.sec, .bool r.shift, .bool r.both]), .int .i64 t] w (LawPost w) := by
  have HT : Hid (∀ W, Below w.heap.size w W → Tab W) := Lib.hid fun W hW => ht.below hW
  have H1 : Hid (∀ W, Below w.heap.size w W → Lp W.heap.size W A1 n1 la) := Lib.hid fun W hW => h1.go hW
  have H2 : Hid (∀ W, Below w.heap.size w W → Lp W.heap.size W A2 n2 lb) := Lib.hid fun W hW => h2.go hW
  have H3 : Hid (∀ W, Below w.heap.size w W → Lp W.heap.size W A3 n3 lc) := Lib.hid fun W hW => h3.go hW
  have hb := Below.goN (Below.refl w.heap.size w) (.cells #[.int .i64 r.kind, .int .i64 r.every, .int .i64 r.wd, .int .i64 r.nth, .int .i64 r.frm, .int .i64 r.unt, .int .i64 r.sec, .bool r.shift, .bool r.both] 24)
  have kx := Lib.hid (heap_new w (.cells #[.int .i64 r.kind, .int .i64 r.every, .int .i64 r.wd, .int .i64 r.nth, .int .i64 r.frm, .int .i64 r.unt, .int .i64 r.sec, .bool r.shift, .bool r.both] 24))
  clear ht h1 h2 h3
  have u0 : ¬ (20 : Int) < (n1 : Int) := by omega
  have u1 : ¬ (20 : Int) < (n2 : Int) := by omega
  have u2 : (20 : Int) < (n3 : Int) := by omega
  go_enter Tryd.func3, Tryd.ntmps3
  go_wp2_with fail
  refine (head14 _ (HT.out _ hb)).mono ?_
  rintro e w1 ⟨rfl, hn⟩
  have hb := Below.go hb hn
  have kx := Lib.hid (keep' kx.out hn)
  clear hn
  go_wp2
  go_ret
  exact ⟨by simp, hb⟩
set_option maxHeartbeats 2000000 in
set_option maxRecDepth 100000 in
theorem corrected_va (A1 A2 A3 : Option Addr) (n1 c1 n2 c2 n3 c3 : Nat) (la lb lc : Lpm.LL) (r : Rec) (t : Int) (w : World) (ht : Tab w) (h1 : Lp w.heap.size w A1 n1 la) (h2 : Lp w.heap.size w A2 n2 lb) (h3 : Lp w.heap.size w A3 n3 lc) (g0 : n1 ≤ 20) (g1 : n2 ≤ 20) (g2 : n3 ≤ 20) (v1 : Hid (Lpm.valid la = false)) :
    Calls Tryd.prog 3 #[.slice A1 n1 c1, .slice A2 n2 c2, .slice A3 n3 c3, (.agg #[.int .i64 r.kind, .int .i64 r.every, .int .i64 r.wd, .int .i64 r.nth, .int .i64 r.frm, .int .i64 r.unt, .int .i64 r.sec, .bool r.shift, .bool r.both]), .int .i64 t] w (LawPost w) := by
  have HT : Hid (∀ W, Below w.heap.size w W → Tab W) := Lib.hid fun W hW => ht.below hW
  have H1 : Hid (∀ W, Below w.heap.size w W → Lp W.heap.size W A1 n1 la) := Lib.hid fun W hW => h1.go hW
  have H2 : Hid (∀ W, Below w.heap.size w W → Lp W.heap.size W A2 n2 lb) := Lib.hid fun W hW => h2.go hW
  have H3 : Hid (∀ W, Below w.heap.size w W → Lp W.heap.size W A3 n3 lc) := Lib.hid fun W hW => h3.go hW
  have hb := Below.goN (Below.refl w.heap.size w) (.cells #[.int .i64 r.kind, .int .i64 r.every, .int .i64 r.wd, .int .i64 r.nth, .int .i64 r.frm, .int .i64 r.unt, .int .i64 r.sec, .bool r.shift, .bool r.both] 24)
  have kx := Lib.hid (heap_new w (.cells #[.int .i64 r.kind, .int .i64 r.every, .int .i64 r.wd, .int .i64 r.nth, .int .i64 r.frm, .int .i64 r.unt, .int .i64 r.sec, .bool r.shift, .bool r.both] 24))
  clear ht h1 h2 h3
  have u0 : ¬ (20 : Int) < (n1 : Int) := by omega
  have u1 : ¬ (20 : Int) < (n2 : Int) := by omega
  have u2 : ¬ (20 : Int) < (n3 : Int) := by omega
  go_enter Tryd.func3, Tryd.ntmps3
  go_wp2_with fail
  refine (head14 _ (HT.out _ hb)).mono ?_
  rintro e w1 ⟨rfl, hn⟩
  have hb := Below.go hb hn
  have kx := Lib.hid (keep' kx.out hn)
  clear hn
  go_wp2_with fail
  refine (refValid_c (c := c1) (H1.out _ hb) (Nat.le_refl _) (by omega) (Below.refl _ _)).mono ?_
  rintro e w2 ⟨rfl, hn⟩
  have hb := Below.go hb hn
  have kx := Lib.hid (keep' kx.out hn)
  clear hn
  rw [v1.out]
  go_wp2
  go_ret
  exact ⟨by simp, hb⟩
set_option maxHeartbeats 2000000 in
set_option maxRecDepth 100000 in
theorem corrected_vb (A1 A2 A3 : Option Addr) (n1 c1 n2 c2 n3 c3 : Nat) (la lb lc : Lpm.LL) (r : Rec) (t : Int) (w : World) (ht : Tab w) (h1 : Lp w.heap.size w A1 n1 la) (h2 : Lp w.heap.size w A2 n2 lb) (h3 : Lp w.heap.size w A3 n3 lc) (g0 : n1 ≤ 20) (g1 : n2 ≤ 20) (g2 : n3 ≤ 20) (v1 : Hid (Lpm.valid la = true)) (v2 : Hid (Lpm.valid lb = false)) :
    Calls Tryd.prog 3 #[.slice A1 n1 c1, .slice A2 n2 c2, .slice A3 n3 c3, (.agg #[.int .i64 r.kind, .int .i64 r.every, .int .i64 r.wd, .int .i64 r.nth, .int .i64 r.frm, .int .i64 r.unt, .int .i64 r.sec, .bool r.shift, .bool r.both]), .int .i64 t] w (LawPost w) := by
  have HT : Hid (∀ W, Below w.heap.size w W → Tab W) := Lib.hid fun W hW => ht.below hW
  have H1 : Hid (∀ W, Below w.heap.size w W → Lp W.heap.size W A1 n1 la) := Lib.hid fun W hW => h1.go hW
  have H2 : Hid (∀ W, Below w.heap.size w W → Lp W.heap.size W A2 n2 lb) := Lib.hid fun W hW => h2.go hW
  have H3 : Hid (∀ W, Below w.heap.size w W → Lp W.heap.size W A3 n3 lc) := Lib.hid fun W hW => h3.go hW
  have hb := Below.goN (Below.refl w.heap.size w) (.cells #[.int .i64 r.kind, .int .i64 r.every, .int .i64 r.wd, .int .i64 r.nth, .int .i64 r.frm, .int .i64 r.unt, .int .i64 r.sec, .bool r.shift, .bool r.both] 24)
  have kx := Lib.hid (heap_new w (.cells #[.int .i64 r.kind, .int .i64 r.every, .int .i64 r.wd, .int .i64 r.nth, .int .i64 r.frm, .int .i64 r.unt, .int .i64 r.sec, .bool r.shift, .bool r.both] 24))
  clear ht h1 h2 h3
  have u0 : ¬ (20 : Int) < (n1 : Int) := by omega
  have u1 : ¬ (20 : Int) < (n2 : Int) := by omega
  have u2 : ¬ (20 : Int) < (n3 : Int) := by omega
  go_enter Tryd.func3, Tryd.ntmps3
  go_wp2_with fail
  refine (head14 _ (HT.out _ hb)).mono ?_
  rintro e w1 ⟨rfl, hn⟩
  have hb := Below.go hb hn
  have kx := Lib.hid (keep' kx.out hn)
  clear hn
  go_wp2_with fail
  refine (refValid_c (c := c1) (H1.out _ hb) (Nat.le_refl _) (by omega) (Below.refl _ _)).mono ?_
  rintro e w2 ⟨rfl, hn⟩
  have hb := Below.go hb hn
  have kx := Lib.hid (keep' kx.out hn)
  clear hn
  rw [v1.out]
  go_wp2_with fail
  refine (refValid_c (c := c2) (H2.out _ hb) (Nat.le_refl _) (by omega) (Below.refl _ _)).mono ?_
  rintro e w3 ⟨rfl, hn⟩
  have hb := Below.go hb hn
  have kx := Lib.hid (keep' kx.out hn)
  clear hn
  rw [v2.out]
  go_wp2
  go_ret
  exact ⟨by simp, hb⟩
set_option maxHeartbeats 2000000 in
set_option maxRecDepth 100000 in
theorem corrected_vc (A1 A2 A3 : Option Addr) (n1 c1 n2 c2 n3 c3 : Nat) (la lb lc : Lpm.LL) (r : Rec) (t : Int) (w : World) (ht : Tab w) (h1 : Lp w.heap.size w A1 n1 la) (h2 : Lp w.heap.size w A2 n2 lb) (h3 : Lp w.heap.size w A3 n3 lc) (g0 : n1 ≤ 20) (g1 : n2 ≤ 20) (g2 : n3 ≤ 20) (v1 : Hid (Lpm.valid la = true)) (v2 : Hid (Lpm.valid lb = true)) (v3 : Hid (Lpm.valid lc = false)) :
    Calls Tryd.prog 3 #[.slice A1 n1 c1, .slice A2 n2 c2, .slice A3 n3 c3, (.agg #[.int .i64 r.kind, .int .i64 r.every, .int .i64 r.wd, .int .i64 r.nth, .int .i64 r.frm, .int .i64 r.unt, .int .i64 r.sec, .bool r.shift, .bool r.both]), .int .i64 t] w (LawPost w) := by
  have HT : Hid (∀ W, Below w.heap.size w W → Tab W) := Lib.hid fun W hW => ht.below hW
  have H1 : Hid (∀ W, Below w.heap.size w W → Lp W.heap.size W A1 n1 la) := Lib.hid fun W hW => h1.go hW
  have H2 : Hid (∀ W, Below w.heap.size w W → Lp W.heap.size W A2 n2 lb) := Lib.hid fun W hW => h2.go hW
  have H3 : Hid (∀ W, Below w.heap.size w W → Lp W.heap.size W A3 n3 lc) := Lib.hid fun W hW => h3.go hW
  have hb := Below.goN (Below.refl w.heap.size w) (.cells #[.int .i64 r.kind, .int .i64 r.every, .int .i64 r.wd, .int .i64 r.nth, .int .i64 r.frm, .int .i64 r.unt, .int .i64 r.sec, .bool r.shift, .bool r.both] 24)
  have kx := Lib.hid (heap_new w (.cells #[.int .i64 r.kind, .int .i64 r.every, .int .i64 r.wd, .int .i64 r.nth, .int .i64 r.frm, .int .i64 r.unt, .int .i64 r.sec, .bool r.shift, .bool r.both] 24))
  clear ht h1 h2 h3
  have u0 : ¬ (20 : Int) < (n1 : Int) := by omega
  have u1 : ¬ (20 : Int) < (n2 : Int) := by omega
  have u2 : ¬ (20 : Int) < (n3 : Int) := by omega
  go_enter Tryd.func3, Tryd.ntmps3
  go_wp2_with fail
  refine (head14 _ (HT.out _ hb)).mono ?_
  rintro e w1 ⟨rfl, hn⟩
  have hb := Below.go hb hn
  have kx := Lib.hid (keep' kx.out hn)
  clear hn
  go_wp2_with fail
  refine (refValid_c (c := c1) (H1.out _ hb) (Nat.le_refl _) (by omega) (Below.refl _ _)).mono ?_
  rintro e w2 ⟨rfl, hn⟩
  have hb := Below.go hb hn
  have kx := Lib.hid (keep' kx.out hn)
  clear hn
  rw [v1.out]
  go_wp2_with fail
  refine (refValid_c (c := c2) (H2.out _ hb) (Nat.le_refl _) (by omega) (Below.refl _ _)).mono ?_
  rintro e w3 ⟨rfl, hn⟩
  have hb := Below.go hb hn
  have kx := Lib.hid (keep' kx.out hn)
  clear hn
  rw [v2.out]
  go_wp2_with fail
  refine (refValid_c (c := c3) (H3.out _ hb) (Nat.le_refl _) (by omega) (Below.refl _ _)).mono ?_
  rintro e w4 ⟨rfl, hn⟩
  have hb := Below.go hb hn
  have kx := Lib.hid (keep' kx.out hn)
  clear hn
  rw [v3.out]
  go_wp2
  go_ret
  exact ⟨by simp, hb⟩
set_option maxHeartbeats 2000000 in
set_option maxRecDepth 100000 in
theorem corrected_vr (A1 A2 A3 : Option Addr) (n1 c1 n2 c2 n3 c3 : Nat) (la lb lc : Lpm.LL) (r : Rec) (t : Int) (w : World) (ht : Tab w) (h1 : Lp w.heap.size w A1 n1 la) (h2 : Lp w.heap.size w A2 n2 lb) (h3 : Lp w.heap.size w A3 n3 lc) (g0 : n1 ≤ 20) (g1 : n2 ≤ 20) (g2 : n3 ≤ 20) (v1 : Hid (Lpm.valid la = true)) (v2 : Hid (Lpm.valid lb = true)) (v3 : Hid (Lpm.valid lc = true)) (vr : Hid (Rc.validB r = false)) :
    Calls Tryd.prog 3 #[.slice A1 n1 c1, .slice A2 n2 c2, .slice A3 n3 c3, (.agg #[.int .i64 r.kind, .int .i64 r.every, .int .i64 r.wd, .int .i64 r.nth, .int .i64 r.frm, .int .i64 r.unt, .int .i64 r.sec, .bool r.shift, .bool r.both]), .int .i64 t] w (LawPost w) := by
  have HT : Hid (∀ W, Below w.heap.size w W → Tab W) := Lib.hid fun W hW => ht.below hW
  have H1 : Hid (∀ W, Below w.heap.size w W → Lp W.heap.size W A1 n1 la) := Lib.hid fun W hW => h1.go hW
  have H2 : Hid (∀ W, Below w.heap.size w W → Lp W.heap.size W A2 n2 lb) := Lib.hid fun W hW => h2.go hW
  have H3 : Hid (∀ W, Below w.heap.size w W → Lp W.heap.size W A3 n3 lc) := Lib.hid fun W hW => h3.go hW
  have hb := Below.goN (Below.refl w.heap.size w) (.cells #[.int .i64 r.kind, .int .i64 r.every, .int .i64 r.wd, .int .i64 r.nth, .int .i64 r.frm, .int .i64 r.unt, .int .i64 r.sec, .bool r.shift, .bool r.both] 24)
  have kx := Lib.hid (heap_new w (.cells #[.int .i64 r.kind, .int .i64 r.every, .int .i64 r.wd, .int .i64 r.nth, .int .i64 r.frm, .int .i64 r.unt, .int .i64 r.sec, .bool r.shift, .bool r.both] 24))
  clear ht h1 h2 h3
  have u0 : ¬ (20 : Int) < (n1 : Int) := by omega
  have u1 : ¬ (20 : Int) < (n2 : Int) := by omega
  have u2 : ¬ (20 : Int) < (n3 : Int) := by omega
  go_enter Tryd.func3, Tryd.ntmps3
  go_wp2_with fail
  refine (head14 _ (HT.out _ hb)).mono ?_
  rintro e w1 ⟨rfl, hn⟩
  have hb := Below.go hb hn
  have kx := Lib.hid (keep' kx.out hn)
  clear hn
  go_wp2_with fail
  refine (refValid_c (c := c1) (H1.out _ hb) (Nat.le_refl _) (by omega) (Below.refl _ _)).mono ?_
  rintro e w2 ⟨rfl, hn⟩
  have hb := Below.go hb hn
  have kx := Lib.hid (keep' kx.out hn)
  clear hn
  rw [v1.out]
  go_wp2_with fail
  refine (refValid_c (c := c2) (H2.out _ hb) (Nat.le_refl _) (by omega) (Below.refl _ _)).mono ?_
  rintro e w3 ⟨rfl, hn⟩
  have hb := Below.go hb hn
  have kx := Lib.hid (keep' kx.out hn)
  clear hn
  rw [v2.out]
  go_wp2_with fail
  refine (refValid_c (c := c3) (H3.out _ hb) (Nat.le_refl _) (by omega) (Below.refl _ _)).mono ?_
  rintro e w4 ⟨rfl, hn⟩
  have hb := Below.go hb hn
  have kx := Lib.hid (keep' kx.out hn)
  clear hn
  rw [v3.out]
  obtain ⟨kx_0, kx_1, kx_2, kx_3, kx_4, kx_5, kx_6, kx_7, kx_8⟩ := blk9 kx.out
  go_wp2_with fail
  refine (refValid21_any r _).mono ?_
  rintro e w5 ⟨rfl, hn⟩
  have hb := Below.go hb hn
  have kx := Lib.hid (keep' kx.out hn)
  clear hn
  rw [vr.out]
  go_wp2
  go_ret
  exact ⟨by simp, hb⟩
set_option maxHeartbeats 2000000 in
set_option maxRecDepth 100000 in
theorem corrected_few (A1 A2 A3 : Option Addr) (n1 c1 n2 c2 n3 c3 : Nat) (la lb lc : Lpm.LL) (r : Rec) (t : Int) (w : World) (ht : Tab w) (h1 : Lp w.heap.size w A1 n1 la) (h2 : Lp w.heap.size w A2 n2 lb) (h3 : Lp w.heap.size w A3 n3 lc) (g0 : n1 ≤ 20) (g1 : n2 ≤ 20) (g2 : n3 ≤ 20) (v1 : Hid (Lpm.valid la = true)) (v2 : Hid (Lpm.valid lb = true)) (v3 : Hid (Lpm.valid lc = true)) (vr : Hid (Rc.validB r = true)) (fw : Hid (decide (r.unt - r.frm ≤ 1200) = false)) :
    Calls Tryd.prog 3 #[.slice A1 n1 c1, .slice A2 n2 c2, .slice A3 n3 c3, (.agg #[.int .i64 r.kind, .int .i64 r.every, .int .i64 r.wd, .int .i64 r.nth, .int .i64 r.frm, .int .i64 r.unt, .int .i64 r.sec, .bool r.shift, .bool r.both]), .int .i64 t] w (LawPost w) := by
  have HT : Hid (∀ W, Below w.heap.size w W → Tab W) := Lib.hid fun W hW => ht.below hW
  have H1 : Hid (∀ W, Below w.heap.size w W → Lp W.heap.size W A1 n1 la) := Lib.hid fun W hW => h1.go hW
  have H2 : Hid (∀ W, Below w.heap.size w W → Lp W.heap.size W A2 n2 lb) := Lib.hid fun W hW => h2.go hW
  have H3 : Hid (∀ W, Below w.heap.size w W → Lp W.heap.size W A3 n3 lc) := Lib.hid fun W hW => h3.go hW
  have hb := Below.goN (Below.refl w.heap.size w) (.cells #[.int .i64 r.kind, .int .i64 r.every, .int .i64 r.wd, .int .i64 r.nth, .int .i64 r.frm, .int .i64 r.unt, .int .i64 r.sec, .bool r.shift, .bool r.both] 24)
  have kx := Lib.hid (heap_new w (.cells #[.int .i64 r.kind, .int .i64 r.every, .int .i64 r.wd, .int .i64 r.nth, .int .i64 r.frm, .int .i64 r.unt, .int .i64 r.sec, .bool r.shift, .bool r.both] 24))
  clear ht h1 h2 h3
  have u0 : ¬ (20 : Int) < (n1 : Int) := by omega
  have u1 : ¬ (20 : Int) < (n2 : Int) := by omega
  have u2 : ¬ (20 : Int) < (n3 : Int) := by omega
  go_enter Tryd.func3, Tryd.ntmps3
  go_wp2_with fail
  refine (head14 _ (HT.out _ hb)).mono ?_
  rintro e w1 ⟨rfl, hn⟩
  have hb := Below.go hb hn
  have kx := Lib.hid (keep' kx.out hn)
  clear hn
  go_wp2_with fail
  refine (refValid_c (c := c1) (H1.out _ hb) (Nat.le_refl _) (by omega) (Below.refl _ _)).mono ?_
  rintro e w2 ⟨rfl, hn⟩
  have hb := Below.go hb hn
  have kx := Lib.hid (keep' kx.out hn)
  clear hn
  rw [v1.out]
  go_wp2_with fail
  refine (refValid_c (c := c2) (H2.out _ hb) (Nat.le_refl _) (by omega) (Below.refl _ _)).mono ?_
  rintro e w3 ⟨rfl, hn⟩
  have hb := Below.go hb hn
  have kx := Lib.hid (keep' kx.out hn)
  clear hn
  rw [v2.out]
  go_wp2_with fail
  refine (refValid_c (c := c3) (H3.out _ hb) (Nat.le_refl _) (by omega) (Below.refl _ _)).mono ?_
  rintro e w4 ⟨rfl, hn⟩
  have hb := Below.go hb hn
  have kx := Lib.hid (keep' kx.out hn)
  clear hn
  rw [v3.out]
  obtain ⟨kx_0, kx_1, kx_2, kx_3, kx_4, kx_5, kx_6, kx_7, kx_8⟩ := blk9 kx.out
  go_wp2_with fail
  refine (refValid21_any r _).mono ?_
  rintro e w5 ⟨rfl, hn⟩
  have hb := Below.go hb hn
  have kx := Lib.hid (keep' kx.out hn)
  clear hn
  rw [vr.out]
  obtain ⟨kx_0, kx_1, kx_2, kx_3, kx_4, kx_5, kx_6, kx_7, kx_8⟩ := blk9 kx.out
  go_wp2_with fail
  refine (refFew21_any r _ (by have := (of_decide_eq_true vr.out : Rc.Val r).2.1; omega) (by have := (of_decide_eq_true vr.out : Rc.Val r).2.1; omega) (by have := (of_decide_eq_true vr.out : Rc.Val r).2.1; omega) (by have := (of_decide_eq_true vr.out : Rc.Val r).2.1; omega)).mono ?_
  rintro e w6 ⟨rfl, hn⟩
  have hb := Below.go hb hn
  have kx := Lib.hid (keep' kx.out hn)
  clear hn
  rw [fw.out]
  go_wp2
  go_ret
  exact ⟨by simp, hb⟩
set_option maxHeartbeats 2000000 in
set_option maxRecDepth 100000 in
theorem corrected_neg (A1 A2 A3 : Option Addr) (n1 c1 n2 c2 n3 c3 : Nat) (la lb lc : Lpm.LL) (r : Rec) (t : Int) (w : World) (ht : Tab w) (h1 : Lp w.heap.size w A1 n1 la) (h2 : Lp w.heap.size w A2 n2 lb) (h3 : Lp w.heap.size w A3 n3 lc) (g0 : n1 ≤ 20) (g1 : n2 ≤ 20) (g2 : n3 ≤ 20) (v1 : Hid (Lpm.valid la = true)) (v2 : Hid (Lpm.valid lb = true)) (v3 : Hid (Lpm.valid lc = true)) (vr : Hid (Rc.validB r = true)) (fw : Hid (decide (r.unt - r.frm ≤ 1200) = true)) (q1 : t < 0) :
    Calls Tryd.prog 3 #[.slice A1 n1 c1, .slice A2 n2 c2, .slice A3 n3 c3, (.agg #[.int .i64 r.kind, .int .i64 r.every, .int .i64 r.wd, .int .i64 r.nth, .int .i64 r.frm, .int .i64 r.unt, .int .i64 r.sec, .bool r.shift, .bool r.both]), .int .i64 t] w (LawPost w) := by
  have HT : Hid (∀ W, Below w.heap.size w W → Tab W) := Lib.hid fun W hW => ht.below hW
  have H1 : Hid (∀ W, Below w.heap.size w W → Lp W.heap.size W A1 n1 la) := Lib.hid fun W hW => h1.go hW
  have H2 : Hid (∀ W, Below w.heap.size w W → Lp W.heap.size W A2 n2 lb) := Lib.hid fun W hW => h2.go hW
  have H3 : Hid (∀ W, Below w.heap.size w W → Lp W.heap.size W A3 n3 lc) := Lib.hid fun W hW => h3.go hW
  have hb := Below.goN (Below.refl w.heap.size w) (.cells #[.int .i64 r.kind, .int .i64 r.every, .int .i64 r.wd, .int .i64 r.nth, .int .i64 r.frm, .int .i64 r.unt, .int .i64 r.sec, .bool r.shift, .bool r.both] 24)
  have kx := Lib.hid (heap_new w (.cells #[.int .i64 r.kind, .int .i64 r.every, .int .i64 r.wd, .int .i64 r.nth, .int .i64 r.frm, .int .i64 r.unt, .int .i64 r.sec, .bool r.shift, .bool r.both] 24))
  clear ht h1 h2 h3
  have u0 : ¬ (20 : Int) < (n1 : Int) := by omega
  have u1 : ¬ (20 : Int) < (n2 : Int) := by omega
  have u2 : ¬ (20 : Int) < (n3 : Int) := by omega
  go_enter Tryd.func3, Tryd.ntmps3
  go_wp2_with fail
  refine (head14 _ (HT.out _ hb)).mono ?_
  rintro e w1 ⟨rfl, hn⟩
  have hb := Below.go hb hn
  have kx := Lib.hid (keep' kx.out hn)
  clear hn
  go_wp2_with fail
  refine (refValid_c (c := c1) (H1.out _ hb) (Nat.le_refl _) (by omega) (Below.refl _ _)).mono ?_
  rintro e w2 ⟨rfl, hn⟩
  have hb := Below.go hb hn
  have kx := Lib.hid (keep' kx.out hn)
  clear hn
  rw [v1.out]
  go_wp2_with fail
  refine (refValid_c (c := c2) (H2.out _ hb) (Nat.le_refl _) (by omega) (Below.refl _ _)).mono ?_
  rintro e w3 ⟨rfl, hn⟩
  have hb := Below.go hb hn
  have kx := Lib.hid (keep' kx.out hn)
  clear hn
  rw [v2.out]
  go_wp2_with fail
  refine (refValid_c (c := c3) (H3.out _ hb) (Nat.le_refl _) (by omega) (Below.refl _ _)).mono ?_
  rintro e w4 ⟨rfl, hn⟩
  have hb := Below.go hb hn
  have kx := Lib.hid (keep' kx.out hn)
  clear hn
  rw [v3.out]
  obtain ⟨kx_0, kx_1, kx_2, kx_3, kx_4, kx_5, kx_6, kx_7, kx_8⟩ := blk9 kx.out
  go_wp2_with fail
  refine (refValid21_any r _).mono ?_
  rintro e w5 ⟨rfl, hn⟩
  have hb := Below.go hb hn
  have kx := Lib.hid (keep' kx.out hn)
  clear hn
  rw [vr.out]
  obtain ⟨kx_0, kx_1, kx_2, kx_3, kx_4, kx_5, kx_6, kx_7, kx_8⟩ := blk9 kx.out
  go_wp2_with fail
  refine (refFew21_any r _ (by have := (of_decide_eq_true vr.out : Rc.Val r).2.1; omega) (by have := (of_decide_eq_true vr.out : Rc.Val r).2.1; omega) (by have := (of_decide_eq_true vr.out : Rc.Val r).2.1; omega) (by have := (of_decide_eq_true vr.out : Rc.Val r).2.1; omega)).mono ?_
  rintro e w6 ⟨rfl, hn⟩
  have hb := Below.go hb hn
  have kx := Lib.hid (keep' kx.out hn)
  clear hn
  rw [fw.out]
  go_wp2
  go_ret
  exact ⟨by simp, hb⟩
set_option maxHeartbeats 2000000 in
set_option maxRecDepth 100000 in
theorem corrected_far (A1 A2 A3 : Option Addr) (n1 c1 n2 c2 n3 c3 : Nat) (la lb lc : Lpm.LL) (r : Rec) (t : Int) (w : World) (ht : Tab w) (h1 : Lp w.heap.size w A1 n1 la) (h2 : Lp w.heap.size w A2 n2 lb) (h3 : Lp w.heap.size w A3 n3 lc) (g0 : n1 ≤ 20) (g1 : n2 ≤ 20) (g2 : n3 ≤ 20) (v1 : Hid (Lpm.valid la = true)) (v2 : Hid (Lpm.valid lb = true)) (v3 : Hid (Lpm.valid lc = true)) (vr : Hid (Rc.validB r = true)) (fw : Hid (decide (r.unt - r.frm ≤ 1200) = true)) (q1 : ¬ t < 0) (q2 : 3000000000000000 < t) :
    Calls Tryd.prog 3 #[.slice A1 n1 c1, .slice A2 n2 c2, .slice A3 n3 c3, (.agg #[.int .i64 r.kind, .int .i64 r.every, .int .i64 r.wd, .int .i64 r.nth, .int .i64 r.frm, .int .i64 r.unt, .int .i64 r.sec, .bool r.shift, .bool r.both]), .int .i64 t] w (LawPost w) := by
  have HT : Hid (∀ W, Below w.heap.size w W → Tab W) := Lib.hid fun W hW => ht.below hW
  have H1 : Hid (∀ W, Below w.heap.size w W → Lp W.heap.size W A1 n1 la) := Lib.hid fun W hW => h1.go hW
  have H2 : Hid (∀ W, Below w.heap.size w W → Lp W.heap.size W A2 n2 lb) := Lib.hid fun W hW => h2.go hW
  have H3 : Hid (∀ W, Below w.heap.size w W → Lp W.heap.size W A3 n3 lc) := Lib.hid fun W hW => h3.go hW
  have hb := Below.goN (Below.refl w.heap.size w) (.cells #[.int .i64 r.kind, .int .i64 r.every, .int .i64 r.wd, .int .i64 r.nth, .int .i64 r.frm, .int .i64 r.unt, .int .i64 r.sec, .bool r.shift, .bool r.both] 24)
  have kx := Lib.hid (heap_new w (.cells #[.int .i64 r.kind, .int .i64 r.every, .int .i64 r.wd, .int .i64 r.nth, .int .i64 r.frm, .int .i64 r.unt, .int .i64 r.sec, .bool r.shift, .bool r.both] 24))
  clear ht h1 h2 h3
  have u0 : ¬ (20 : Int) < (n1 : Int) := by omega
  have u1 : ¬ (20 : Int) < (n2 : Int) := by omega
  have u2 : ¬ (20 : Int) < (n3 : Int) := by omega
  go_enter Tryd.func3, Tryd.ntmps3
  go_wp2_with fail
  refine (head14 _ (HT.out _ hb)).mono ?_
  rintro e w1 ⟨rfl, hn⟩
  have hb := Below.go hb hn
  have kx := Lib.hid (keep' kx.out hn)
  clear hn
  go_wp2_with fail
  refine (refValid_c (c := c1) (H1.out _ hb) (Nat.le_refl _) (by omega) (Below.refl _ _)).mono ?_
  rintro e w2 ⟨rfl, hn⟩
  have hb := Below.go hb hn
  have kx := Lib.hid (keep' kx.out hn)
  clear hn
  rw [v1.out]
  go_wp2_with fail
  refine (refValid_c (c := c2) (H2.out _ hb) (Nat.le_refl _) (by omega) (Below.refl _ _)).mono ?_
  rintro e w3 ⟨rfl, hn⟩
  have hb := Below.go hb hn
  have kx := Lib.hid (keep' kx.out hn)
  clear hn
  rw [v2.out]
  go_wp2_with fail
  refine (refValid_c (c := c3) (H3.out _ hb) (Nat.le_refl _) (by omega) (Below.refl _ _)).mono ?_
  rintro e w4 ⟨rfl, hn⟩
  have hb := Below.go hb hn
  have kx := Lib.hid (keep' kx.out hn)
  clear hn
  rw [v3.out]
  obtain ⟨kx_0, kx_1, kx_2, kx_3, kx_4, kx_5, kx_6, kx_7, kx_8⟩ := blk9 kx.out
  go_wp2_with fail
  refine (refValid21_any r _).mono ?_
  rintro e w5 ⟨rfl, hn⟩
  have hb := Below.go hb hn
  have kx := Lib.hid (keep' kx.out hn)
  clear hn
  rw [vr.out]
  obtain ⟨kx_0, kx_1, kx_2, kx_3, kx_4, kx_5, kx_6, kx_7, kx_8⟩ := blk9 kx.out
  go_wp2_with fail
  refine (refFew21_any r _ (by have := (of_decide_eq_true vr.out : Rc.Val r).2.1; omega) (by have := (of_decide_eq_true vr.out : Rc.Val r).2.1; omega) (by have := (of_decide_eq_true vr.out : Rc.Val r).2.1; omega) (by have := (of_decide_eq_true vr.out : Rc.Val r).2.1; omega)).mono ?_
  rintro e w6 ⟨rfl, hn⟩
  have hb := Below.go hb hn
  have kx := Lib.hid (keep' kx.out hn)
  clear hn
  rw [fw.out]
  go_wp2
  go_ret
  exact ⟨by simp, hb⟩
set_option maxHeartbeats 2000000 in
set_option maxRecDepth 100000 in
theorem corrected_limit20 (A1 A2 A3 : Option Addr) (n1 c1 n2 c2 n3 c3 : Nat) (la lb lc : Lpm.LL) (r : Rec) (t : Int) (w : World) (ht : Tab w) (h1 : Lp w.heap.size w A1 n1 la) (h2 : Lp w.heap.size w A2 n2 lb) (h3 : Lp w.heap.size w A3 n3 lc) (g0 : n1 ≤ 20) (g1 : n2 ≤ 20) (g2 : n3 ≤ 20) (v1 : Hid (Lpm.valid la = true)) (v2 : Hid (Lpm.valid lb = true)) (v3 : Hid (Lpm.valid lc = true)) (vr : Hid (Rc.validB r = true)) (fw : Hid (decide (r.unt - r.frm ≤ 1200) = true)) (q1 : ¬ t < 0) (q2 : ¬ 3000000000000000 < t) (hr : Fit21 r) (NA NC : Nat) (NAq : Hid ((Rc.fiV la r).length = NA)) (NCq : Hid ((Rc.fiV lc r).length = NC)) (E1 : Hid (Rc.fiE la r = 2)) (E3 : Hid (Rc.fiE lc r = 0)) :
    Calls Tryd.prog 3 #[.slice A1 n1 c1, .slice A2 n2 c2, .slice A3 n3 c3, (.agg #[.int .i64 r.kind, .int .i64 r.every, .int .i64 r.wd, .int .i64 r.nth, .int .i64 r.frm, .int .i64 r.unt, .int .i64 r.sec, .bool r.shift, .bool r.both]), .int .i64 t] w (LawPost w) := by
  have HT : Hid (∀ W, Below w.heap.size w W → Tab W) := Lib.hid fun W hW => ht.below hW
  have H1 : Hid (∀ W, Below w.heap.size w W → Lp W.heap.size W A1 n1 la) := Lib.hid fun W hW => h1.go hW
  have H2 : Hid (∀ W, Below w.heap.size w W → Lp W.heap.size W A2 n2 lb) := Lib.hid fun W hW => h2.go hW
  have H3 : Hid (∀ W, Below w.heap.size w W → Lp W.heap.size W A3 n3 lc) := Lib.hid fun W hW => h3.go hW
  have hb := Below.goN (Below.refl w.heap.size w) (.cells #[.int .i64 r.kind, .int .i64 r.every, .int .i64 r.wd, .int .i64 r.nth, .int .i64 r.frm, .int .i64 r.unt, .int .i64 r.sec, .bool r.shift, .bool r.both] 24)
  have kx := Lib.hid (heap_new w (.cells #[.int .i64 r.kind, .int .i64 r.every, .int .i64 r.wd, .int .i64 r.nth, .int .i64 r.frm, .int .i64 r.unt, .int .i64 r.sec, .bool r.shift, .bool r.both] 24))
  clear ht h1 h2 h3
  have u0 : ¬ (20 : Int) < (n1 : Int) := by omega
  have u1 : ¬ (20 : Int) < (n2 : Int) := by omega
  have u2 : ¬ (20 : Int) < (n3 : Int) := by omega
  go_enter Tryd.func3, Tryd.ntmps3
  go_wp2_with fail
  refine (head14 _ (HT.out _ hb)).mono ?_
  rintro e w1 ⟨rfl, hn⟩
  have hb := Below.go hb hn
  have kx := Lib.hid (keep' kx.out hn)
  clear hn
  go_wp2_with fail
  refine (refValid_c (c := c1) (H1.out _ hb) (Nat.le_refl _) (by omega) (Below.refl _ _)).mono ?_
  rintro e w2 ⟨rfl, hn⟩
  have hb := Below.go hb hn
  have kx := Lib.hid (keep' kx.out hn)
  clear hn
  rw [v1.out]
  go_wp2_with fail
  refine (refValid_c (c := c2) (H2.out _ hb) (Nat.le_refl _) (by omega) (Below.refl _ _)).mono ?_
  rintro e w3 ⟨rfl, hn⟩
  have hb := Below.go hb hn
  have kx := Lib.hid (keep' kx.out hn)
  clear hn
  rw [v2.out]
  go_wp2_with fail
  refine (refValid_c (c := c3) (H3.out _ hb) (Nat.le_refl _) (by omega) (Below.refl _ _)).mono ?_
  rintro e w4 ⟨rfl, hn⟩
  have hb := Below.go hb hn
  have kx := Lib.hid (keep' kx.out hn)
  clear hn
  rw [v3.out]
  obtain ⟨kx_0, kx_1, kx_2, kx_3, kx_4, kx_5, kx_6, kx_7, kx_8⟩ := blk9 kx.out
  go_wp2_with fail
  refine (refValid21_any r _).mono ?_
  rintro e w5 ⟨rfl, hn⟩
  have hb := Below.go hb hn
  have kx := Lib.hid (keep' kx.out hn)
  clear hn
  rw [vr.out]
  obtain ⟨kx_0, kx_1, kx_2, kx_3, kx_4, kx_5, kx_6, kx_7, kx_8⟩ := blk9 kx.out
  go_wp2_with fail
  refine (refFew21_any r _ (by have := (of_decide_eq_true vr.out : Rc.Val r).2.1; omega) (by have := (of_decide_eq_true vr.out : Rc.Val r).2.1; omega) (by have := (of_decide_eq_true vr.out : Rc.Val r).2.1; omega) (by have := (of_decide_eq_true vr.out : Rc.Val r).2.1; omega)).mono ?_
  rintro e w6 ⟨rfl, hn⟩
  have hb := Below.go hb hn
  have kx := Lib.hid (keep' kx.out hn)
  clear hn
  rw [fw.out]
  obtain ⟨kx_0, kx_1, kx_2, kx_3, kx_4, kx_5, kx_6, kx_7, kx_8⟩ := blk9 kx.out
  go_wp2_with fail
  refine (fi_n (e := 2) (n := NA) (Fires_any A1 n1 c1 la r _ (HT.out _ hb) (H1.out _ hb) (by omega) hr) E1.out NAq.out).mono ?_
  rintro e w7 ⟨A4, c4, rfl, hL, hn⟩
  have hb := Below.go hb hn
  have kx := Lib.hid (keep' kx.out hn)
  clear hn
  have L4 := Lib.hid hL; clear hL
  obtain ⟨kx_0, kx_1, kx_2, kx_3, kx_4, kx_5, kx_6, kx_7, kx_8⟩ := blk9 kx.out
  go_wp2_with fail
  refine (fi_n (e := 0) (n := NC) (Fires_any A3 n3 c3 lc r _ (HT.out _ hb) (H3.out _ hb) (by omega) hr) E3.out NCq.out).mono ?_
  rintro e w8 ⟨A5, c5, rfl, hL, hn⟩
  have hb := Below.go hb hn
  have kx := Lib.hid (keep' kx.out hn)
  have L4 := Lib.hid (Lp.go L4.out hn)
  clear hn
  have L5 := Lib.hid hL; clear hL
  go_wp2
  go_ret
  exact ⟨by simp, hb⟩
set_option maxHeartbeats 2000000 in
set_option maxRecDepth 100000 in
theorem corrected_limit22 (A1 A2 A3 : Option Addr) (n1 c1 n2 c2 n3 c3 : Nat) (la lb lc : Lpm.LL) (r : Rec) (t : Int) (w : World) (ht : Tab w) (h1 : Lp w.heap.size w A1 n1 la) (h2 : Lp w.heap.size w A2 n2 lb) (h3 : Lp w.heap.size w A3 n3 lc) (g0 : n1 ≤ 20) (g1 : n2 ≤ 20) (g2 : n3 ≤ 20) (v1 : Hid (Lpm.valid la = true)) (v2 : Hid (Lpm.valid lb = true)) (v3 : Hid (Lpm.valid lc = true)) (vr : Hid (Rc.validB r = true)) (fw : Hid (decide (r.unt - r.frm ≤ 1200) = true)) (q1 : ¬ t < 0) (q2 : ¬ 3000000000000000 < t) (hr : Fit21 r) (NA NC : Nat) (NAq : Hid ((Rc.fiV la r).length = NA)) (NCq : Hid ((Rc.fiV lc r).length = NC)) (E1 : Hid (Rc.fiE la r = 2)) (E3 : Hid (Rc.fiE lc r = 2)) :
    Calls Tryd.prog 3 #[.slice A1 n1 c1, .slice A2 n2 c2, .slice A3 n3 c3, (.agg #[.int .i64 r.kind, .int .i64 r.every, .int .i64 r.wd, .int .i64 r.nth, .int .i64 r.frm, .int .i64 r.unt, .int .i64 r.sec, .bool r.shift, .bool r.both]), .int .i64 t] w (LawPost w) := by
  have HT : Hid (∀ W, Below w.heap.size w W → Tab W) := Lib.hid fun W hW => ht.below hW
  have H1 : Hid (∀ W, Below w.heap.size w W → Lp W.heap.size W A1 n1 la) := Lib.hid fun W hW => h1.go hW
  have H2 : Hid (∀ W, Below w.heap.size w W → Lp W.heap.size W A2 n2 lb) := Lib.hid fun W hW => h2.go hW
  have H3 : Hid (∀ W, Below w.heap.size w W → Lp W.heap.size W A3 n3 lc) := Lib.hid fun W hW => h3.go hW
  have hb := Below.goN (Below.refl w.heap.size w) (.cells #[.int .i64 r.kind, .int .i64 r.every, .int .i64 r.wd, .int .i64 r.nth, .int .i64 r.frm, .int .i64 r.unt, .int .i64 r.sec, .bool r.shift, .bool r.both] 24)
  have kx := Lib.hid (heap_new w (.cells #[.int .i64 r.kind, .int .i64 r.every, .int .i64 r.wd, .int .i64 r.nth, .int .i64 r.frm, .int .i64 r.unt, .int .i64 r.sec, .bool r.shift, .bool r.both] 24))
  clear ht h1 h2 h3
  have u0 : ¬ (20 : Int) < (n1 : Int) := by omega
  have u1 : ¬ (20 : Int) < (n2 : Int) := by omega
  have u2 : ¬ (20 : Int) < (n3 : Int) := by omega
  go_enter Tryd.func3, Tryd.ntmps3
  go_wp2_with fail
  refine (head14 _ (HT.out _ hb)).mono ?_
  rintro e w1 ⟨rfl, hn⟩
  have hb := Below.go hb hn
  have kx := Lib.hid (keep' kx.out hn)
  clear hn
  go_wp2_with fail
  refine (refValid_c (c := c1) (H1.out _ hb) (Nat.le_refl _) (by omega) (Below.refl _ _)).mono ?_
  rintro e w2 ⟨rfl, hn⟩
  have hb := Below.go hb hn
  have kx := Lib.hid (keep' kx.out hn)
  clear hn
  rw [v1.out]
  go_wp2_with fail
  refine (refValid_c (c := c2) (H2.out _ hb) (Nat.le_refl _) (by omega) (Below.refl _ _)).mono ?_
  rintro e w3 ⟨rfl, hn⟩
  have hb := Below.go hb hn
  have kx := Lib.hid (keep' kx.out hn)
  clear hn
  rw [v2.out]
  go_wp2_with fail
  refine (refValid_c (c := c3) (H3.out _ hb) (Nat.le_refl _) (by omega) (Below.refl _ _)).mono ?_
  rintro e w4 ⟨rfl, hn⟩
  have hb := Below.go hb hn
  have kx := Lib.hid (keep' kx.out hn)
  clear hn
  rw [v3.out]
  obtain ⟨kx_0, kx_1, kx_2, kx_3, kx_4, kx_5, kx_6, kx_7, kx_8⟩ := blk9 kx.out
  go_wp2_with fail
  refine (refValid21_any r _).mono ?_
  rintro e w5 ⟨rfl, hn⟩
  have hb := Below.go hb hn
  have kx := Lib.hid (keep' kx.out hn)
  clear hn
  rw [vr.out]
  obtain ⟨kx_0, kx_1, kx_2, kx_3, kx_4, kx_5, kx_6, kx_7, kx_8⟩ := blk9 kx.out
  go_wp2_with fail
  refine (refFew21_any r _ (by have := (of_decide_eq_true vr.out : Rc.Val r).2.1; omega) (by have := (of_decide_eq_true vr.out : Rc.Val r).2.1; omega) (by have := (of_decide_eq_true vr.out : Rc.Val r).2.1; omega) (by have := (of_decide_eq_true vr.out : Rc.Val r).2.1; omega)).mono ?_
  rintro e w6 ⟨rfl, hn⟩
  have hb := Below.go hb hn
  have kx := Lib.hid (keep' kx.out hn)
  clear hn
  rw [fw.out]
  obtain ⟨kx_0, kx_1, kx_2, kx_3, kx_4, kx_5, kx_6, kx_7, kx_8⟩ := blk9 kx.out
  go_wp2_with fail
  refine (fi_n (e := 2) (n := NA) (Fires_any A1 n1 c1 la r _ (HT.out _ hb) (H1.out _ hb) (by omega) hr) E1.out NAq.out).mono ?_
  rintro e w7 ⟨A4, c4, rfl, hL, hn⟩
  have hb := Below.go hb hn
  have kx := Lib.hid (keep' kx.out hn)
  clear hn
  have L4 := Lib.hid hL; clear hL
  obtain ⟨kx_0, kx_1, kx_2, kx_3, kx_4, kx_5, kx_6, kx_7, kx_8⟩ := blk9 kx.out
  go_wp2_with fail
  refine (fi_n (e := 2) (n := NC) (Fires_any A3 n3 c3 lc r _ (HT.out _ hb) (H3.out _ hb) (by omega) hr) E3.out NCq.out).mono ?_
  rintro e w8 ⟨A5, c5, rfl, hL, hn⟩
  have hb := Below.go hb hn
  have kx := Lib.hid (keep' kx.out hn)
  have L4 := Lib.hid (Lp.go L4.out hn)
  clear hn
  have L5 := Lib.hid hL; clear hL
  go_wp2
  go_ret
  exact ⟨by simp, hb⟩
set_option maxHeartbeats 2000000 in
set_option maxRecDepth 100000 in
theorem corrected_limit02 (A1 A2 A3 : Option Addr) (n1 c1 n2 c2 n3 c3 : Nat) (la lb lc : Lpm.LL) (r : Rec) (t : Int) (w : World) (ht : Tab w) (h1 : Lp w.heap.size w A1 n1 la) (h2 : Lp w.heap.size w A2 n2 lb) (h3 : Lp w.heap.size w A3 n3 lc) (g0 : n1 ≤ 20) (g1 : n2 ≤ 20) (g2 : n3 ≤ 20) (v1 : Hid (Lpm.valid la = true)) (v2 : Hid (Lpm.valid lb = true)) (v3 : Hid (Lpm.valid lc = true)) (vr : Hid (Rc.validB r = true)) (fw : Hid (decide (r.unt - r.frm ≤ 1200) = true)) (q1 : ¬ t < 0) (q2 : ¬ 3000000000000000 < t) (hr : Fit21 r) (NA NC : Nat) (NAq : Hid ((Rc.fiV la r).length = NA)) (NCq : Hid ((Rc.fiV lc r).length = NC)) (E1 : Hid (Rc.fiE la r = 0)) (E3 : Hid (Rc.fiE lc r = 2)) :
    Calls Tryd.prog 3 #[.slice A1 n1 c1, .slice A2 n2 c2, .slice A3 n3 c3, (.agg #[.int .i64 r.kind, .int .i64 r.every, .int .i64 r.wd, .int .i64 r.nth, .int .i64 r.frm, .int .i64 r.unt, .int .i64 r.sec, .bool r.shift, .bool r.both]), .int .i64 t] w (LawPost w) := by
  have HT : Hid (∀ W, Below w.heap.size w W → Tab W) := Lib.hid fun W hW => ht.below hW
  have H1 : Hid (∀ W, Below w.heap.size w W → Lp W.heap.size W A1 n1 la) := Lib.hid fun W hW => h1.go hW
  have H2 : Hid (∀ W, Below w.heap.size w W → Lp W.heap.size W A2 n2 lb) := Lib.hid fun W hW => h2.go hW
  have H3 : Hid (∀ W, Below w.heap.size w W → Lp W.heap.size W A3 n3 lc) := Lib.hid fun W hW => h3.go hW
  have hb := Below.goN (Below.refl w.heap.size w) (.cells #[.int .i64 r.kind, .int .i64 r.every, .int .i64 r.wd, .int .i64 r.nth, .int .i64 r.frm, .int .i64 r.unt, .int .i64 r.sec, .bool r.shift, .bool r.both] 24)
  have kx := Lib.hid (heap_new w (.cells #[.int .i64 r.kind, .int .i64 r.every, .int .i64 r.wd, .int .i64 r.nth, .int .i64 r.frm, .int .i64 r.unt, .int .i64 r.sec, .bool r.shift, .bool r.both] 24))
  clear ht h1 h2 h3
  have u0 : ¬ (20 : Int) < (n1 : Int) := by omega
  have u1 : ¬ (20 : Int) < (n2 : Int) := by omega
  have u2 : ¬ (20 : Int) < (n3 : Int) := by omega
  go_enter Tryd.func3, Tryd.ntmps3
  go_wp2_with fail
  refine (head14 _ (HT.out _ hb)).mono ?_
  rintro e w1 ⟨rfl, hn⟩
  have hb := Below.go hb hn
  have kx := Lib.hid (keep' kx.out hn)
  clear hn
  go_wp2_with fail
  refine (refValid_c (c := c1) (H1.out _ hb) (Nat.le_refl _) (by omega) (Below.refl _ _)).mono ?_
  rintro e w2 ⟨rfl, hn⟩
  have hb := Below.go hb hn
  have kx := Lib.hid (keep' kx.out hn)
  clear hn
  rw [v1.out]
  go_wp2_with fail
  refine (refValid_c (c := c2) (H2.out _ hb) (Nat.le_refl _) (by omega) (Below.refl _ _)).mono ?_
  rintro e w3 ⟨rfl, hn⟩
  have hb := Below.go hb hn
  have kx := Lib.hid (keep' kx.out hn)
  clear hn
  rw [v2.out]
  go_wp2_with fail
  refine (refValid_c (c := c3) (H3.out _ hb) (Nat.le_refl _) (by omega) (Below.refl _ _)).mono ?_
  rintro e w4 ⟨rfl, hn⟩
  have hb := Below.go hb hn
  have kx := Lib.hid (keep' kx.out hn)
  clear hn
  rw [v3.out]
  obtain ⟨kx_0, kx_1, kx_2, kx_3, kx_4, kx_5, kx_6, kx_7, kx_8⟩ := blk9 kx.out
  go_wp2_with fail
  refine (refValid21_any r _).mono ?_
  rintro e w5 ⟨rfl, hn⟩
  have hb := Below.go hb hn
  have kx := Lib.hid (keep' kx.out hn)
  clear hn
  rw [vr.out]
  obtain ⟨kx_0, kx_1, kx_2, kx_3, kx_4, kx_5, kx_6, kx_7, kx_8⟩ := blk9 kx.out
  go_wp2_with fail
  refine (refFew21_any r _ (by have := (of_decide_eq_true vr.out : Rc.Val r).2.1; omega) (by have := (of_decide_eq_true vr.out : Rc.Val r).2.1; omega) (by have := (of_decide_eq_true vr.out : Rc.Val r).2.1; omega) (by have := (of_decide_eq_true vr.out : Rc.Val r).2.1; omega)).mono ?_
  rintro e w6 ⟨rfl, hn⟩
  have hb := Below.go hb hn
  have kx := Lib.hid (keep' kx.out hn)
  clear hn
  rw [fw.out]
  obtain ⟨kx_0, kx_1, kx_2, kx_3, kx_4, kx_5, kx_6, kx_7, kx_8⟩ := blk9 kx.out
  go_wp2_with fail
  refine (fi_n (e := 0) (n := NA) (Fires_any A1 n1 c1 la r _ (HT.out _ hb) (H1.out _ hb) (by omega) hr) E1.out NAq.out).mono ?_
  rintro e w7 ⟨A4, c4, rfl, hL, hn⟩
  have hb := Below.go hb hn
  have kx := Lib.hid (keep' kx.out hn)
  clear hn
  have L4 := Lib.hid hL; clear hL
  obtain ⟨kx_0, kx_1, kx_2, kx_3, kx_4, kx_5, kx_6, kx_7, kx_8⟩ := blk9 kx.out
  go_wp2_with fail
  refine (fi_n (e := 2) (n := NC) (Fires_any A3 n3 c3 lc r _ (HT.out _ hb) (H3.out _ hb) (by omega) hr) E3.out NCq.out).mono ?_
  rintro e w8 ⟨A5, c5, rfl, hL, hn⟩
  have hb := Below.go hb hn
  have kx := Lib.hid (keep' kx.out hn)
  have L4 := Lib.hid (Lp.go L4.out hn)
  clear hn
  have L5 := Lib.hid hL; clear hL
  go_wp2
  go_ret
  exact ⟨by simp, hb⟩
theorem blk4' {W : World} {k : Nat} {a b c d : Value} {t : TypeId} (h : W.heap[k]? = some (.cells #[a, b, c, d] t)) : W.cell? ⟨k, 0, none⟩ = some a ∧ W.cell? ⟨k, 1, none⟩ = some b ∧ W.cell? ⟨k, 2, none⟩ = some c ∧ W.cell? ⟨k, 3, none⟩ = some d := by
  simp [World.cell?, h]
theorem less_in {A B : Lpm.LL} {t : Int} (x : Int × Int) (h : (Rc.less A B t).contains x = true) : (Rc.aft A t).contains x = true := by
  have h : x ∈ Rc.less A B t := by simpa using h
  unfold Rc.less at h
  have := List.mem_filter.1 h
  simp only [Bool.and_eq_true] at this
  have : x ∈ Rc.aft A t := by unfold Rc.aft; exact List.mem_filter.2 ⟨this.1, this.2.1⟩
  simpa using this
theorem less_out {A B : Lpm.LL} {t : Int} (x : Int × Int) (h : (Rc.less B A t).contains x = true) : (Rc.aft A t).contains x = false := by
  have h : x ∈ Rc.less B A t := by simpa using h
  unfold Rc.less at h
  have := (List.mem_filter.1 h).2
  simp only [Bool.and_eq_true, Bool.not_eq_true'] at this
  rw [Bool.eq_false_iff]
  intro hc
  have hc : x ∈ Rc.aft A t := by simpa using hc
  unfold Rc.aft at hc
  have h1 := (List.mem_filter.1 hc).1
  have h2 : A.contains x = true := by simpa using h1
  rw [h2] at this
  exact absurd this.2 (by decide)
theorem in_aft {A : Lpm.LL} {t : Int} {k n : Nat} {x : Int × Int} (hn : A.length = n) (hk : k < n) (hx : A[k]?.getD (0, 0) = x) (h : t < x.2) : (Rc.aft A t).contains x = true := by
  have e : A[k]? = some x := by rw [List.getElem?_eq_getElem (by omega)] at hx ⊢; exact congrArg some hx
  have : x ∈ Rc.aft A t := by unfold Rc.aft; exact List.mem_filter.2 ⟨List.mem_of_getElem? e, decide_eq_true h⟩
  simpa using this
noncomputable def fires3 (la lb lc : Lpm.LL) (r : Rec) : Nat → Lpm.LL
  | 0 => Rc.fiV la r
  | 1 => Rc.fiV lb r
  | _ => Rc.fiV lc r
set_option maxHeartbeats 2000000 in
set_option maxRecDepth 100000 in
theorem corrected_main (A1 A2 A3 : Option Addr) (n1 c1 n2 c2 n3 c3 : Nat) (la lb lc : Lpm.LL) (r : Rec) (t : Int) (w : World) (ht : Tab w) (h1 : Lp w.heap.size w A1 n1 la) (h2 : Lp w.heap.size w A2 n2 lb) (h3 : Lp w.heap.size w A3 n3 lc) (g0 : n1 ≤ 20) (g1 : n2 ≤ 20) (g2 : n3 ≤ 20) (v1 : Hid (Lpm.valid la = true)) (v2 : Hid (Lpm.valid lb = true)) (v3 : Hid (Lpm.valid lc = true)) (vr : Hid (Rc.validB r = true)) (fw : Hid (decide (r.unt - r.frm ≤ 1200) = true)) (q1 : ¬ t < 0) (q2 : ¬ 3000000000000000 < t) (hr : Fit21 r) (NA NC : Nat) (NAq : Hid ((Rc.fiV la r).length = NA)) (NCq : Hid ((Rc.fiV lc r).length = NC)) (E1 : Hid (Rc.fiE la r = 0)) (E3 : Hid (Rc.fiE lc r = 0)) (E2 : Hid (Rc.fiE lb r = 0)) (EC0 : Hid (Rc.coE la lb r t = 0)) (EC1 : Hid (Rc.coE lb lc r t = 0)) (FC0 : Hid (Rc.coF la lb r t = Rc.less (Rc.fiV la r) (Rc.fiV lb r) t ∧ Rc.coN la lb r t = Rc.less (Rc.fiV lb r) (Rc.fiV la r) t)) (FC1 : Hid (Rc.coF lb lc r t = Rc.less (Rc.fiV lb r) (Rc.fiV lc r) t ∧ Rc.coN lb lc r t = Rc.less (Rc.fiV lc r) (Rc.fiV lb r) t)) (NDa : Hid (Rc.fiV la r).Nodup) (NDb : Hid (Rc.fiV lb r).Nodup) (NDc : Hid (Rc.fiV lc r).Nodup) :
    Calls Tryd.prog 3 #[.slice A1 n1 c1, .slice A2 n2 c2, .slice A3 n3 c3, (.agg #[.int .i64 r.kind, .int .i64 r.every, .int .i64 r.wd, .int .i64 r.nth, .int .i64 r.frm, .int .i64 r.unt, .int .i64 r.sec, .bool r.shift, .bool r.both]), .int .i64 t] w (LawPost w) := by
  have HT : Hid (∀ W, Below w.heap.size w W → Tab W) := Lib.hid fun W hW => ht.below hW
  have H1 : Hid (∀ W, Below w.heap.size w W → Lp W.heap.size W A1 n1 la) := Lib.hid fun W hW => h1.go hW
  have H2 : Hid (∀ W, Below w.heap.size w W → Lp W.heap.size W A2 n2 lb) := Lib.hid fun W hW => h2.go hW
  have H3 : Hid (∀ W, Below w.heap.size w W → Lp W.heap.size W A3 n3 lc) := Lib.hid fun W hW => h3.go hW
  have hb := Below.goN (Below.refl w.heap.size w) (.cells #[.int .i64 r.kind, .int .i64 r.every, .int .i64 r.wd, .int .i64 r.nth, .int .i64 r.frm, .int .i64 r.unt, .int .i64 r.sec, .bool r.shift, .bool r.both] 24)
  have kx := Lib.hid (heap_new w (.cells #[.int .i64 r.kind, .int .i64 r.every, .int .i64 r.wd, .int .i64 r.nth, .int .i64 r.frm, .int .i64 r.unt, .int .i64 r.sec, .bool r.shift, .bool r.both] 24))
  clear ht h1 h2 h3
  have u0 : ¬ (20 : Int) < (n1 : Int) := by omega
  have u1 : ¬ (20 : Int) < (n2 : Int) := by omega
  have u2 : ¬ (20 : Int) < (n3 : Int) := by omega
  go_enter Tryd.func3, Tryd.ntmps3
  go_wp2_with fail
  refine (head14 _ (HT.out _ hb)).mono ?_
  rintro e w1 ⟨rfl, hn⟩
  have hb := Below.go hb hn
  have kx := Lib.hid (keep' kx.out hn)
  clear hn
  go_wp2_with fail
  refine (refValid_c (c := c1) (H1.out _ hb) (Nat.le_refl _) (by omega) (Below.refl _ _)).mono ?_
  rintro e w2 ⟨rfl, hn⟩
  have hb := Below.go hb hn
  have kx := Lib.hid (keep' kx.out hn)
  clear hn
  rw [v1.out]
  go_wp2_with fail
  refine (refValid_c (c := c2) (H2.out _ hb) (Nat.le_refl _) (by omega) (Below.refl _ _)).mono ?_
  rintro e w3 ⟨rfl, hn⟩
  have hb := Below.go hb hn
  have kx := Lib.hid (keep' kx.out hn)
  clear hn
  rw [v2.out]
  go_wp2_with fail
  refine (refValid_c (c := c3) (H3.out _ hb) (Nat.le_refl _) (by omega) (Below.refl _ _)).mono ?_
  rintro e w4 ⟨rfl, hn⟩
  have hb := Below.go hb hn
  have kx := Lib.hid (keep' kx.out hn)
  clear hn
  rw [v3.out]
  obtain ⟨kx_0, kx_1, kx_2, kx_3, kx_4, kx_5, kx_6, kx_7, kx_8⟩ := blk9 kx.out
  go_wp2_with fail
  refine (refValid21_any r _).mono ?_
  rintro e w5 ⟨rfl, hn⟩
  have hb := Below.go hb hn
  have kx := Lib.hid (keep' kx.out hn)
  clear hn
  rw [vr.out]
  obtain ⟨kx_0, kx_1, kx_2, kx_3, kx_4, kx_5, kx_6, kx_7, kx_8⟩ := blk9 kx.out
  go_wp2_with fail
  refine (refFew21_any r _ (by have := (of_decide_eq_true vr.out : Rc.Val r).2.1; omega) (by have := (of_decide_eq_true vr.out : Rc.Val r).2.1; omega) (by have := (of_decide_eq_true vr.out : Rc.Val r).2.1; omega) (by have := (of_decide_eq_true vr.out : Rc.Val r).2.1; omega)).mono ?_
  rintro e w6 ⟨rfl, hn⟩
  have hb := Below.go hb hn
  have kx := Lib.hid (keep' kx.out hn)
  clear hn
  rw [fw.out]
  obtain ⟨kx_0, kx_1, kx_2, kx_3, kx_4, kx_5, kx_6, kx_7, kx_8⟩ := blk9 kx.out
  go_wp2_with fail
  refine (fi_n (e := 0) (n := NA) (Fires_any A1 n1 c1 la r _ (HT.out _ hb) (H1.out _ hb) (by omega) hr) E1.out NAq.out).mono ?_
  rintro e w7 ⟨A4, c4, rfl, hL, hn⟩
  have hb := Below.go hb hn
  have kx := Lib.hid (keep' kx.out hn)
  clear hn
  have L4 := Lib.hid hL; clear hL
  obtain ⟨kx_0, kx_1, kx_2, kx_3, kx_4, kx_5, kx_6, kx_7, kx_8⟩ := blk9 kx.out
  go_wp2_with fail
  refine (fi_n (e := 0) (n := NC) (Fires_any A3 n3 c3 lc r _ (HT.out _ hb) (H3.out _ hb) (by omega) hr) E3.out NCq.out).mono ?_
  rintro e w8 ⟨A5, c5, rfl, hL, hn⟩
  have hb := Below.go hb hn
  have kx := Lib.hid (keep' kx.out hn)
  have L4 := Lib.hid (Lp.go L4.out hn)
  clear hn
  have L5 := Lib.hid hL; clear hL
  have hNA : NA ≤ 1000 := by have := Rc.fiV_len la r; rw [NAq.out] at this; exact this
  have hNC : NC ≤ 1000 := by have := Rc.fiV_len lc r; rw [NCq.out] at this; exact this
  obtain ⟨B0, rfl⟩ : ∃ B0, B0 = w8 := ⟨_, rfl⟩
  have hmade := World.ownsMap_made B0 Tryd.prog tF (plainElem (H := Unit) Tryd.prog 4)
  have hmm := @run_makeMap Tryd.prog
  go_wp2
  clear hmm
  go_loopw [101] (fun i wr => ∃ (k m : Nat) (D : DataW Unit), k ≤ NA ∧ i = .int .i64 k ∧ m ≤ k ∧ Hid (wr.ownsMap Tryd.prog tF (plainElem Tryd.prog 4) B0.heap.size m D) ∧ Hid (SetOk (fun y => (Rc.aft ((Rc.fiV la r).take k) t).contains y) D) ∧ Below B0.heap.size B0 wr) (fun i _ => NA - (intOf i).toNat)
  case atStart => exact ⟨0, 0, _, Nat.zero_le _, rfl, Nat.zero_le _, Lib.hid hmade, Lib.hid (set_nil fun x => by simp [Rc.aft]), Below.goN (Below.refl _ _) _⟩
  case round =>
    obtain ⟨k, m, D, hk, rfl, hm, hown, hset, hbr⟩ := hrel
    by_cases hlt : k < NA
    · obtain ⟨b, off, rfl, hB, hc⟩ := (L4.out).2 (by omega)
      obtain ⟨c0, c1'⟩ := hc k hlt
      have c0 := (hbr.cell (p := ⟨b, off + k * 2, none⟩) hB).trans c0
      have c1' := (hbr.cell (p := ⟨b, off + k * 2 + 1, none⟩) hB).trans c1'
      have hwx := wf_at wf_fires k (lt_len NAq.out hlt)
      obtain ⟨d, s, hx⟩ : ∃ d s, (Rc.fiV la r)[k]?.getD (0, 0) = (d, s) := ⟨_, _, rfl⟩
      rw [hx] at c0 c1' hwx
      have kz := Lib.hid (heap_new wr (.cells #[.int .i64 d, .int .i64 s] tF))
      obtain ⟨⟨z0, z1⟩, -⟩ := blk2 kz.out
      have i0 : (0 : Int) ≤ (k : Int) := by omega
      have i1 : (k : Int) < (NA : Int) := by omega
      have hbx := Below.goN hbr (.cells #[.int .i64 d, .int .i64 s] tF)
      by_cases hd : t < s
      · have hd' : decide (t < s) = true := decide_eq_true hd
        have hV : Rc.aft ((Rc.fiV la r).take (k + 1)) t = Rc.aft ((Rc.fiV la r).take k) t ++ [(d, s)] := Rc.aft_yes NAq.out hlt hx hd
        have HNew : Hid (SetOk (fun y => (Rc.aft ((Rc.fiV la r).take (k + 1)) t).contains y) (D.put (kF (d, s)) (.lit (.bool true)))) := Lib.hid (set_put hset.out (d, s) hwx (by rw [hV, cont_snoc]; simp) (fun y hy => by rw [hV, cont_snoc, beq_eq_false_iff_ne.2 (Ne.symm hy), Bool.or_false]))
        have Hwx := Lib.hid hwx
        have hlm := hown.out.lt
        clear hV hwx hset hc
        go_wp2_with (first | (at_mapUpdate; refine wpList_mapUpdate_own _ rfl _ _ _ tFB rfl tF 4 keyedF Tryd.underlying32 _ B0.heap.size _ D rfl (hown.out.alloc _) (by unfold maxLen; omega) (FV (d, s)) (.bool true) (kF (d, s)) rfl rfl (kF_some Hwx.out) (.lit (.bool true)) [] (plainElem_bool Tryd.underlying4 true) ?_; intro w9 hown9 hgrow9) | fail)
        have hb9 := Below.grown hbx hgrow9 (by have := hbx.size; omega) (fun g e => by cases e; exact Nat.le_refl _)
        have HO9 := Lib.hid hown9
        clear hown9 hgrow9
        go_wp2
        go_roundw
        case rel => exact ⟨k + 1, m + 1, _, by omega, by go_num, by omega, HO9, HNew, hb9⟩
        case measure => simp [intOf]; omega
      · have hd' : decide (t < s) = false := decide_eq_false hd
        have hV : Rc.aft ((Rc.fiV la r).take (k + 1)) t = Rc.aft ((Rc.fiV la r).take k) t := Rc.aft_no NAq.out hlt hx hd
        have HNew : Hid (SetOk (fun y => (Rc.aft ((Rc.fiV la r).take (k + 1)) t).contains y) D) := by rw [hV]; exact hset
        clear hV hwx hset hc
        go_wp2
        go_roundw
        case rel => exact ⟨k + 1, m, D, by omega, by go_num, by omega, Lib.hid (hown.out.alloc _), HNew, hbx⟩
        case measure => simp [intOf]; omega
    · obtain rfl : NA = k := by omega
      rw [List.take_of_length_le (Nat.le_of_eq NAq.out)] at hset
      obtain ⟨wE, rfl⟩ : ∃ wE, wE = wr := ⟨_, rfl⟩
      have hSE : wE.heap.size ≠ B0.heap.size := by have := hown.out.lt; omega
      have kS := Lib.hid (heap_new wE (.cells #[.slice A1 n1 c1, .slice A2 n2 c2, .slice A2 n2 c2, .slice A3 n3 c3] 35))
      have hownS := Lib.hid (hown.out.alloc (.cells #[.slice A1 n1 c1, .slice A2 n2 c2, .slice A2 n2 c2, .slice A3 n3 c3] 35))
      have hbS := Below.goN hbr (.cells #[.slice A1 n1 c1, .slice A2 n2 c2, .slice A2 n2 c2, .slice A3 n3 c3] 35)
      clear hown hbr
      go_wp2
      go_loopw [11, 120] (fun u i wq => ∃ (k m : Nat) (D : DataW Unit), k ≤ 2 ∧ i = .int .i64 k ∧ u = .bool true ∧ m ≤ 1000 + 1000 * k ∧ Hid (wq.ownsMap Tryd.prog tF (plainElem Tryd.prog 4) B0.heap.size m D) ∧ Hid (SetOk (fun y => (Rc.aft (fires3 la lb lc r k) t).contains y) D) ∧ Below B0.heap.size B0 wq ∧ Hid (KeepBut B0.heap.size (wE.alloc (.cells #[.slice A1 n1 c1, .slice A2 n2 c2, .slice A2 n2 c2, .slice A3 n3 c3] 35)) wq)) (fun _ i _ => 2 - (intOf i).toNat)
      case atStart => exact ⟨0, m, D, Nat.zero_le _, rfl, rfl, by omega, hownS, hset, hbS, Lib.hid (KeepBut.refl _ _)⟩
      case round =>
        clear hownS hset hbS hm hk
        obtain ⟨k, m, D, hk, rfl, rfl, hm, hown, hset, hbr, hkb⟩ := hrel
        rcases k with _ | _ | k
        · obtain ⟨wO, rfl⟩ : ∃ wO, wO = wr := ⟨_, rfl⟩
          have hset : Hid (SetOk (fun y => (Rc.aft (Rc.fiV la r) t).contains y) D) := hset
          have kxr := Lib.hid (keepN (keep' kx.out hbr) (.cells #[.slice A1 n1 c1, .slice A2 n2 c2] 35))
          obtain ⟨p0, p1, p2, p3, p4, p5, p6, p7, p8⟩ := blk9 kxr.out
          obtain ⟨s0, s1, s2, s3⟩ := blk4' (KeepBut.at_ hkb.out kS.out hSE)
          obtain ⟨⟨y0, y1⟩, -⟩ := blk2 (heap_new wO (.cells #[.slice A1 n1 c1, .slice A2 n2 c2] 35))
          have hbw := Below.goN (Below.go hb hbr) (.cells #[.slice A1 n1 c1, .slice A2 n2 c2] 35)
          go_wp2_with fail
          refine (Correct_any A1 A2 n1 c1 n2 c2 la lb r t _ (HT.out _ hbw) (H1.out _ hbw) (H2.out _ hbw) (by omega) (by omega) hr).mono ?_
          rintro e wC ⟨B1, k1, z1, B2, k2, z2, rfl, -, -, hL1, hL2, hn⟩
          rw [EC0.out]
          rw [FC0.out.1] at hL1
          rw [FC0.out.2] at hL2
          have K1q := Lib.hid hL1.1
          have K2q := Lib.hid hL2.1
          have L6 := Lib.hid hL1
          have L7 := Lib.hid hL2
          have HOb := Lib.hid (own_map_below (hown.out.alloc (.cells #[.slice A1 n1 c1, .slice A2 n2 c2] 35)) hn)
          have hbC := Below.go (Below.goN hbr (.cells #[.slice A1 n1 c1, .slice A2 n2 c2] 35)) hn
          have hkC := Lib.hid (KeepBut.trans hkb.out (KeepBut.below (Below.go (Below.goN (Below.refl wO.heap.size wO) (.cells #[.slice A1 n1 c1, .slice A2 n2 c2] 35)) hn)))
          have hK1 : k1 ≤ 1000 := by have h1 := Rc.less_len (Rc.fiV la r) (Rc.fiV lb r) t; have h2 := Rc.fiV_len la r; rw [K1q.out] at h1; omega
          have hK2 : k2 ≤ 1000 := by have h1 := Rc.less_len (Rc.fiV lb r) (Rc.fiV la r) t; have h2 := Rc.fiV_len lb r; rw [K2q.out] at h1; omega
          clear hL1 hL2 hn s0 s1 s2 s3 y0 y1 p0 p1 p2 p3 p4 p5 p6 p7 p8 hown hkb hbw
          go_wp2
          go_loopw [11, 140] (fun u i wq => ∃ (k m : Nat) (D : DataW Unit), k ≤ k1 ∧ i = .int .i64 k ∧ u = .bool true ∧ m ≤ 1000 ∧ Hid (wq.ownsMap Tryd.prog tF (plainElem Tryd.prog 4) B0.heap.size m D) ∧ Hid (SetOk (fun y => (Rc.aft (Rc.fiV la r) t).contains y && !((Rc.less (Rc.fiV la r) (Rc.fiV lb r) t).take k).contains y) D) ∧ Below B0.heap.size B0 wq ∧ Hid (KeepBut B0.heap.size wC wq)) (fun _ i _ => k1 - (intOf i).toNat)
          case atStart => exact ⟨0, m, D, Nat.zero_le _, rfl, rfl, hm, HOb, Lib.hid (hset.out.congr fun y => by simp), hbC, Lib.hid (KeepBut.refl _ _)⟩
          case round =>
            obtain ⟨k, m, D, hk, rfl, rfl, hm, hown, hset, hbq, hkb⟩ := hrel
            by_cases hlt : k < k1
            · have LQ := Lib.hid (Lp.but L6.out HOb.out hkb.out)
              obtain ⟨b, off, hA, hB, hc⟩ := LQ.out.2 (by omega)
              subst hA
              obtain ⟨c0, c1'⟩ := hc k hlt
              have hwx := wf_at (wf_less wf_fires) k (lt_len K1q.out hlt)
              obtain ⟨d, s, hx⟩ : ∃ d s, (Rc.less (Rc.fiV la r) (Rc.fiV lb r) t)[k]?.getD (0, 0) = (d, s) := ⟨_, _, rfl⟩
              rw [hx] at c0 c1' hwx
              have kz := Lib.hid (heap_new wr (.cells #[.int .i64 d, .int .i64 s] tF))
              obtain ⟨⟨z0, z1⟩, -⟩ := blk2 kz.out
              have i0 : (0 : Int) ≤ (k : Int) := by omega
              have i1 : (k : Int) < (k1 : Int) := by omega
              have hbx := Below.goN hbq (.cells #[.int .i64 d, .int .i64 s] tF)
              have hkx := Lib.hid (KeepBut.trans hkb.out (KeepBut.below (Below.goN (Below.refl wr.heap.size wr) (.cells #[.int .i64 d, .int .i64 s] tF))))
              obtain ⟨nd1, nd2⟩ := nodup_at (show (Rc.less (Rc.fiV la r) (Rc.fiV lb r) t).Nodup from NDa.out.filter _) K1q.out hlt hx
              have hts := takeL_snoc K1q.out hlt
              rw [hx] at hts
              have hp : (fun y => (Rc.aft (Rc.fiV la r) t).contains y && !((Rc.less (Rc.fiV la r) (Rc.fiV lb r) t).take k).contains y) (d, s) = true := by simp only [less_in _ nd2, nd1, Bool.not_false, Bool.and_true]
              have HNew : Hid (SetOk (fun y => (Rc.aft (Rc.fiV la r) t).contains y && !((Rc.less (Rc.fiV la r) (Rc.fiV lb r) t).take (k + 1)).contains y) (D.del (kF (d, s)))) := Lib.hid (set_del hset.out (d, s) hwx (by simp only [hts, cont_snoc, beq_self_eq_true, Bool.or_true, Bool.not_true, Bool.and_false]) (fun y hy => by simp only [hts, cont_snoc, beq_eq_false_iff_ne.2 (Ne.symm hy), Bool.or_false]))
              have hlook : (Instr.lookup tFB (.map (some B0.heap.size)) (.agg #[.int .i64 d, .int .i64 s]) false).run Tryd.prog (wr.alloc (.cells #[.int .i64 d, .int .i64 s] tF)) = .ok (.bool true) (wr.alloc (.cells #[.int .i64 d, .int .i64 s] tF)) := by
                have h := set_look' (hown.out.alloc (.cells #[.int .i64 d, .int .i64 s] tF)) hset.out hwx
                simp only at hp
                rw [hp] at h
                exact h
              have Hwx := Lib.hid hwx
              have hlm := hown.out.lt
              clear hp hts nd1 nd2 hwx hset hc hx
              go_wp2_with (first | (at_delete; refine wpList_delete_own _ rfl _ _ tFB tF rfl 4 keyedF Tryd.underlying32 _ B0.heap.size m D rfl (hown.out.alloc _) (FV (d, s)) (kF (d, s)) rfl (kF_some Hwx.out) ?_; intro w9 hown9 hgrow9) | fail)
              have hb9 := Below.grown hbx hgrow9.grown (by have := hbx.size; omega) (fun g e => by cases e; exact Nat.le_refl _)
              have hk9 := Lib.hid (KeepBut.trans hkx.out (KeepBut.grown hgrow9.grown))
              have HO9 := Lib.hid hown9
              clear hown9 hgrow9 hkx hlook
              go_wp2
              go_roundw
              case rel => exact ⟨k + 1, m, _, by omega, by go_num, rfl, by omega, HO9, HNew, hb9, hk9⟩
              case measure => simp [intOf]; omega
            · obtain rfl : k1 = k := by omega
              rw [List.take_of_length_le (Nat.le_of_eq K1q.out)] at hset
              go_wp2
              go_loopw [11, 155] (fun u i wq => ∃ (k m : Nat) (D : DataW Unit), k ≤ k2 ∧ i = .int .i64 k ∧ u = .bool true ∧ m ≤ 1000 + k ∧ Hid (wq.ownsMap Tryd.prog tF (plainElem Tryd.prog 4) B0.heap.size m D) ∧ Hid (SetOk (fun y => ((Rc.aft (Rc.fiV la r) t).contains y && !(Rc.less (Rc.fiV la r) (Rc.fiV lb r) t).contains y) || ((Rc.less (Rc.fiV lb r) (Rc.fiV la r) t).take k).contains y) D) ∧ Below B0.heap.size B0 wq ∧ Hid (KeepBut B0.heap.size wC wq)) (fun _ i _ => k2 - (intOf i).toNat)
              case atStart => exact ⟨0, m, D, Nat.zero_le _, rfl, rfl, by omega, hown, Lib.hid (hset.out.congr fun y => by simp), hbq, hkb⟩
              case round =>
                obtain ⟨k, m, D, hk, rfl, rfl, hm, hown, hset, hbq, hkb⟩ := hrel
                by_cases hlt : k < k2
                · have LQ := Lib.hid (Lp.but L7.out HOb.out hkb.out)
                  obtain ⟨b, off, hA, hB, hc⟩ := LQ.out.2 (by omega)
                  subst hA
                  obtain ⟨c0, c1'⟩ := hc k hlt
                  have hwx := wf_at (wf_less wf_fires) k (lt_len K2q.out hlt)
                  obtain ⟨d, s, hx⟩ : ∃ d s, (Rc.less (Rc.fiV lb r) (Rc.fiV la r) t)[k]?.getD (0, 0) = (d, s) := ⟨_, _, rfl⟩
                  rw [hx] at c0 c1' hwx
                  have kz := Lib.hid (heap_new wr (.cells #[.int .i64 d, .int .i64 s] tF))
                  obtain ⟨⟨z0, z1⟩, -⟩ := blk2 kz.out
                  have i0 : (0 : Int) ≤ (k : Int) := by omega
                  have i1 : (k : Int) < (k2 : Int) := by omega
                  have hbx := Below.goN hbq (.cells #[.int .i64 d, .int .i64 s] tF)
                  have hkx := Lib.hid (KeepBut.trans hkb.out (KeepBut.below (Below.goN (Below.refl wr.heap.size wr) (.cells #[.int .i64 d, .int .i64 s] tF))))
                  obtain ⟨nd1, nd2⟩ := nodup_at (show (Rc.less (Rc.fiV lb r) (Rc.fiV la r) t).Nodup from NDb.out.filter _) K2q.out hlt hx
                  have hts := takeL_snoc K2q.out hlt
                  rw [hx] at hts
                  have hp : (fun y => ((Rc.aft (Rc.fiV la r) t).contains y && !(Rc.less (Rc.fiV la r) (Rc.fiV lb r) t).contains y) || ((Rc.less (Rc.fiV lb r) (Rc.fiV la r) t).take k).contains y) (d, s) = false := by simp only [less_out _ nd2, nd1, Bool.false_and, Bool.or_false]
                  have HNew : Hid (SetOk (fun y => ((Rc.aft (Rc.fiV la r) t).contains y && !(Rc.less (Rc.fiV la r) (Rc.fiV lb r) t).contains y) || ((Rc.less (Rc.fiV lb r) (Rc.fiV la r) t).take (k + 1)).contains y) (D.put (kF (d, s)) (.lit (.bool true)))) := Lib.hid (set_put hset.out (d, s) hwx (by simp only [hts, cont_snoc, beq_self_eq_true, Bool.or_true, Bool.not_true, Bool.and_false]) (fun y hy => by simp only [hts, cont_snoc, beq_eq_false_iff_ne.2 (Ne.symm hy), Bool.or_false]))
                  have hlook : (Instr.lookup tFB (.map (some B0.heap.size)) (.agg #[.int .i64 d, .int .i64 s]) false).run Tryd.prog (wr.alloc (.cells #[.int .i64 d, .int .i64 s] tF)) = .ok (.bool false) (wr.alloc (.cells #[.int .i64 d, .int .i64 s] tF)) := by
                    have h := set_look' (hown.out.alloc (.cells #[.int .i64 d, .int .i64 s] tF)) hset.out hwx
                    simp only at hp
                    rw [hp] at h
                    exact h
                  have Hwx := Lib.hid hwx
                  have hlm := hown.out.lt
                  clear hp hts nd1 nd2 hwx hset hc hx
                  go_wp2_with (first | (at_mapUpdate; refine wpList_mapUpdate_own _ rfl _ _ _ tFB rfl tF 4 keyedF Tryd.underlying32 _ B0.heap.size _ D rfl (hown.out.alloc _) (by unfold maxLen; omega) (FV (d, s)) (.bool true) (kF (d, s)) rfl rfl (kF_some Hwx.out) (.lit (.bool true)) [] (plainElem_bool Tryd.underlying4 true) ?_; intro w9 hown9 hgrow9) | fail)
                  have hb9 := Below.grown hbx hgrow9 (by have := hbx.size; omega) (fun g e => by cases e; exact Nat.le_refl _)
                  have hk9 := Lib.hid (KeepBut.trans hkx.out (KeepBut.grown hgrow9))
                  have HO9 := Lib.hid hown9
                  clear hown9 hgrow9 hkx hlook
                  go_wp2
                  go_roundw
                  case rel => exact ⟨k + 1, m + 1, _, by omega, by go_num, rfl, by omega, HO9, HNew, hb9, hk9⟩
                  case measure => simp [intOf]; omega
                · obtain rfl : k2 = k := by omega
                  rw [List.take_of_length_le (Nat.le_of_eq K2q.out)] at hset
                  have hs9 : Hid (SetOk (fun y => (Rc.aft (Rc.fiV lb r) t).contains y) D) := Lib.hid (hset.out.congr fun y => step_set _ _ _ _)
                  have hkE := Lib.hid (KeepBut.trans hkC.out hkb.out)
                  clear hset
                  go_wp2
                  go_roundw
                  case rel => exact ⟨1, m, D, by omega, by go_num, rfl, by omega, hown, hs9, hbq, hkE⟩
                  case measure => simp [intOf]
        · obtain ⟨wO, rfl⟩ : ∃ wO, wO = wr := ⟨_, rfl⟩
          have hset : Hid (SetOk (fun y => (Rc.aft (Rc.fiV lb r) t).contains y) D) := hset
          have kxr := Lib.hid (keepN (keep' kx.out hbr) (.cells #[.slice A2 n2 c2, .slice A3 n3 c3] 35))
          obtain ⟨p0, p1, p2, p3, p4, p5, p6, p7, p8⟩ := blk9 kxr.out
          obtain ⟨s0, s1, s2, s3⟩ := blk4' (KeepBut.at_ hkb.out kS.out hSE)
          obtain ⟨⟨y0, y1⟩, -⟩ := blk2 (heap_new wO (.cells #[.slice A2 n2 c2, .slice A3 n3 c3] 35))
          have hbw := Below.goN (Below.go hb hbr) (.cells #[.slice A2 n2 c2, .slice A3 n3 c3] 35)
          go_wp2_with fail
          refine (Correct_any A2 A3 n2 c2 n3 c3 lb lc r t _ (HT.out _ hbw) (H2.out _ hbw) (H3.out _ hbw) (by omega) (by omega) hr).mono ?_
          rintro e wC ⟨B1, k1, z1, B2, k2, z2, rfl, -, -, hL1, hL2, hn⟩
          rw [EC1.out]
          rw [FC1.out.1] at hL1
          rw [FC1.out.2] at hL2
          have K1q := Lib.hid hL1.1
          have K2q := Lib.hid hL2.1
          have L6 := Lib.hid hL1
          have L7 := Lib.hid hL2
          have HOb := Lib.hid (own_map_below (hown.out.alloc (.cells #[.slice A2 n2 c2, .slice A3 n3 c3] 35)) hn)
          have hbC := Below.go (Below.goN hbr (.cells #[.slice A2 n2 c2, .slice A3 n3 c3] 35)) hn
          have hkC := Lib.hid (KeepBut.trans hkb.out (KeepBut.below (Below.go (Below.goN (Below.refl wO.heap.size wO) (.cells #[.slice A2 n2 c2, .slice A3 n3 c3] 35)) hn)))
          have hK1 : k1 ≤ 1000 := by have h1 := Rc.less_len (Rc.fiV lb r) (Rc.fiV lc r) t; have h2 := Rc.fiV_len lb r; rw [K1q.out] at h1; omega
          have hK2 : k2 ≤ 1000 := by have h1 := Rc.less_len (Rc.fiV lc r) (Rc.fiV lb r) t; have h2 := Rc.fiV_len lc r; rw [K2q.out] at h1; omega
          clear hL1 hL2 hn s0 s1 s2 s3 y0 y1 p0 p1 p2 p3 p4 p5 p6 p7 p8 hown hkb hbw
          go_wp2
          go_loopw [11, 140] (fun u i wq => ∃ (k m : Nat) (D : DataW Unit), k ≤ k1 ∧ i = .int .i64 k ∧ u = .bool true ∧ m ≤ 2000 ∧ Hid (wq.ownsMap Tryd.prog tF (plainElem Tryd.prog 4) B0.heap.size m D) ∧ Hid (SetOk (fun y => (Rc.aft (Rc.fiV lb r) t).contains y && !((Rc.less (Rc.fiV lb r) (Rc.fiV lc r) t).take k).contains y) D) ∧ Below B0.heap.size B0 wq ∧ Hid (KeepBut B0.heap.size wC wq)) (fun _ i _ => k1 - (intOf i).toNat)
          case atStart => exact ⟨0, m, D, Nat.zero_le _, rfl, rfl, hm, HOb, Lib.hid (hset.out.congr fun y => by simp), hbC, Lib.hid (KeepBut.refl _ _)⟩
          case round =>
            obtain ⟨k, m, D, hk, rfl, rfl, hm, hown, hset, hbq, hkb⟩ := hrel
            by_cases hlt : k < k1
            · have LQ := Lib.hid (Lp.but L6.out HOb.out hkb.out)
              obtain ⟨b, off, hA, hB, hc⟩ := LQ.out.2 (by omega)
              subst hA
              obtain ⟨c0, c1'⟩ := hc k hlt
              have hwx := wf_at (wf_less wf_fires) k (lt_len K1q.out hlt)
              obtain ⟨d, s, hx⟩ : ∃ d s, (Rc.less (Rc.fiV lb r) (Rc.fiV lc r) t)[k]?.getD (0, 0) = (d, s) := ⟨_, _, rfl⟩
              rw [hx] at c0 c1' hwx
              have kz := Lib.hid (heap_new wr (.cells #[.int .i64 d, .int .i64 s] tF))
              obtain ⟨⟨z0, z1⟩, -⟩ := blk2 kz.out
              have i0 : (0 : Int) ≤ (k : Int) := by omega
              have i1 : (k : Int) < (k1 : Int) := by omega
              have hbx := Below.goN hbq (.cells #[.int .i64 d, .int .i64 s] tF)
              have hkx := Lib.hid (KeepBut.trans hkb.out (KeepBut.below (Below.goN (Below.refl wr.heap.size wr) (.cells #[.int .i64 d, .int .i64 s] tF))))
              obtain ⟨nd1, nd2⟩ := nodup_at (show (Rc.less (Rc.fiV lb r) (Rc.fiV lc r) t).Nodup from NDb.out.filter _) K1q.out hlt hx
              have hts := takeL_snoc K1q.out hlt
              rw [hx] at hts
              have hp : (fun y => (Rc.aft (Rc.fiV lb r) t).contains y && !((Rc.less (Rc.fiV lb r) (Rc.fiV lc r) t).take k).contains y) (d, s) = true := by simp only [less_in _ nd2, nd1, Bool.not_false, Bool.and_true]
              have HNew : Hid (SetOk (fun y => (Rc.aft (Rc.fiV lb r) t).contains y && !((Rc.less (Rc.fiV lb r) (Rc.fiV lc r) t).take (k + 1)).contains y) (D.del (kF (d, s)))) := Lib.hid (set_del hset.out (d, s) hwx (by simp only [hts, cont_snoc, beq_self_eq_true, Bool.or_true, Bool.not_true, Bool.and_false]) (fun y hy => by simp only [hts, cont_snoc, beq_eq_false_iff_ne.2 (Ne.symm hy), Bool.or_false]))
              have hlook : (Instr.lookup tFB (.map (some B0.heap.size)) (.agg #[.int .i64 d, .int .i64 s]) false).run Tryd.prog (wr.alloc (.cells #[.int .i64 d, .int .i64 s] tF)) = .ok (.bool true) (wr.alloc (.cells #[.int .i64 d, .int .i64 s] tF)) := by
                have h := set_look' (hown.out.alloc (.cells #[.int .i64 d, .int .i64 s] tF)) hset.out hwx
                simp only at hp
                rw [hp] at h
                exact h
              have Hwx := Lib.hid hwx
              have hlm := hown.out.lt
              clear hp hts nd1 nd2 hwx hset hc hx
              go_wp2_with (first | (at_delete; refine wpList_delete_own _ rfl _ _ tFB tF rfl 4 keyedF Tryd.underlying32 _ B0.heap.size m D rfl (hown.out.alloc _) (FV (d, s)) (kF (d, s)) rfl (kF_some Hwx.out) ?_; intro w9 hown9 hgrow9) | fail)
              have hb9 := Below.grown hbx hgrow9.grown (by have := hbx.size; omega) (fun g e => by cases e; exact Nat.le_refl _)
              have hk9 := Lib.hid (KeepBut.trans hkx.out (KeepBut.grown hgrow9.grown))
              have HO9 := Lib.hid hown9
              clear hown9 hgrow9 hkx hlook
              go_wp2
              go_roundw
              case rel => exact ⟨k + 1, m, _, by omega, by go_num, rfl, by omega, HO9, HNew, hb9, hk9⟩
              case measure => simp [intOf]; omega
            · obtain rfl : k1 = k := by omega
              rw [List.take_of_length_le (Nat.le_of_eq K1q.out)] at hset
              go_wp2
              go_loopw [11, 155] (fun u i wq => ∃ (k m : Nat) (D : DataW Unit), k ≤ k2 ∧ i = .int .i64 k ∧ u = .bool true ∧ m ≤ 2000 + k ∧ Hid (wq.ownsMap Tryd.prog tF (plainElem Tryd.prog 4) B0.heap.size m D) ∧ Hid (SetOk (fun y => ((Rc.aft (Rc.fiV lb r) t).contains y && !(Rc.less (Rc.fiV lb r) (Rc.fiV lc r) t).contains y) || ((Rc.less (Rc.fiV lc r) (Rc.fiV lb r) t).take k).contains y) D) ∧ Below B0.heap.size B0 wq ∧ Hid (KeepBut B0.heap.size wC wq)) (fun _ i _ => k2 - (intOf i).toNat)
              case atStart => exact ⟨0, m, D, Nat.zero_le _, rfl, rfl, by omega, hown, Lib.hid (hset.out.congr fun y => by simp), hbq, hkb⟩
              case round =>
                obtain ⟨k, m, D, hk, rfl, rfl, hm, hown, hset, hbq, hkb⟩ := hrel
                by_cases hlt : k < k2
                · have LQ := Lib.hid (Lp.but L7.out HOb.out hkb.out)
                  obtain ⟨b, off, hA, hB, hc⟩ := LQ.out.2 (by omega)
                  subst hA
                  obtain ⟨c0, c1'⟩ := hc k hlt
                  have hwx := wf_at (wf_less wf_fires) k (lt_len K2q.out hlt)
                  obtain ⟨d, s, hx⟩ : ∃ d s, (Rc.less (Rc.fiV lc r) (Rc.fiV lb r) t)[k]?.getD (0, 0) = (d, s) := ⟨_, _, rfl⟩
                  rw [hx] at c0 c1' hwx
                  have kz := Lib.hid (heap_new wr (.cells #[.int .i64 d, .int .i64 s] tF))
                  obtain ⟨⟨z0, z1⟩, -⟩ := blk2 kz.out
                  have i0 : (0 : Int) ≤ (k : Int) := by omega
                  have i1 : (k : Int) < (k2 : Int) := by omega
                  have hbx := Below.goN hbq (.cells #[.int .i64 d, .int .i64 s] tF)
                  have hkx := Lib.hid (KeepBut.trans hkb.out (KeepBut.below (Below.goN (Below.refl wr.heap.size wr) (.cells #[.int .i64 d, .int .i64 s] tF))))
                  obtain ⟨nd1, nd2⟩ := nodup_at (show (Rc.less (Rc.fiV lc r) (Rc.fiV lb r) t).Nodup from NDc.out.filter _) K2q.out hlt hx
                  have hts := takeL_snoc K2q.out hlt
                  rw [hx] at hts
                  have hp : (fun y => ((Rc.aft (Rc.fiV lb r) t).contains y && !(Rc.less (Rc.fiV lb r) (Rc.fiV lc r) t).contains y) || ((Rc.less (Rc.fiV lc r) (Rc.fiV lb r) t).take k).contains y) (d, s) = false := by simp only [less_out _ nd2, nd1, Bool.false_and, Bool.or_false]
                  have HNew : Hid (SetOk (fun y => ((Rc.aft (Rc.fiV lb r) t).contains y && !(Rc.less (Rc.fiV lb r) (Rc.fiV lc r) t).contains y) || ((Rc.less (Rc.fiV lc r) (Rc.fiV lb r) t).take (k + 1)).contains y) (D.put (kF (d, s)) (.lit (.bool true)))) := Lib.hid (set_put hset.out (d, s) hwx (by simp only [hts, cont_snoc, beq_self_eq_true, Bool.or_true, Bool.not_true, Bool.and_false]) (fun y hy => by simp only [hts, cont_snoc, beq_eq_false_iff_ne.2 (Ne.symm hy), Bool.or_false]))
                  have hlook : (Instr.lookup tFB (.map (some B0.heap.size)) (.agg #[.int .i64 d, .int .i64 s]) false).run Tryd.prog (wr.alloc (.cells #[.int .i64 d, .int .i64 s] tF)) = .ok (.bool false) (wr.alloc (.cells #[.int .i64 d, .int .i64 s] tF)) := by
                    have h := set_look' (hown.out.alloc (.cells #[.int .i64 d, .int .i64 s] tF)) hset.out hwx
                    simp only at hp
                    rw [hp] at h
                    exact h
                  have Hwx := Lib.hid hwx
                  have hlm := hown.out.lt
                  clear hp hts nd1 nd2 hwx hset hc hx
                  go_wp2_with (first | (at_mapUpdate; refine wpList_mapUpdate_own _ rfl _ _ _ tFB rfl tF 4 keyedF Tryd.underlying32 _ B0.heap.size _ D rfl (hown.out.alloc _) (by unfold maxLen; omega) (FV (d, s)) (.bool true) (kF (d, s)) rfl rfl (kF_some Hwx.out) (.lit (.bool true)) [] (plainElem_bool Tryd.underlying4 true) ?_; intro w9 hown9 hgrow9) | fail)
                  have hb9 := Below.grown hbx hgrow9 (by have := hbx.size; omega) (fun g e => by cases e; exact Nat.le_refl _)
                  have hk9 := Lib.hid (KeepBut.trans hkx.out (KeepBut.grown hgrow9))
                  have HO9 := Lib.hid hown9
                  clear hown9 hgrow9 hkx hlook
                  go_wp2
                  go_roundw
                  case rel => exact ⟨k + 1, m + 1, _, by omega, by go_num, rfl, by omega, HO9, HNew, hb9, hk9⟩
                  case measure => simp [intOf]; omega
                · obtain rfl : k2 = k := by omega
                  rw [List.take_of_length_le (Nat.le_of_eq K2q.out)] at hset
                  have hs9 : Hid (SetOk (fun y => (Rc.aft (Rc.fiV lc r) t).contains y) D) := Lib.hid (hset.out.congr fun y => step_set _ _ _ _)
                  have hkE := Lib.hid (KeepBut.trans hkC.out hkb.out)
                  clear hset
                  go_wp2
                  go_roundw
                  case rel => exact ⟨2, m, D, by omega, by go_num, rfl, by omega, hown, hs9, hbq, hkE⟩
                  case measure => simp [intOf]
        · obtain rfl : k = 0 := by omega
          obtain ⟨wF, rfl⟩ : ∃ wF, wF = wr := ⟨_, rfl⟩
          have hset : Hid (SetOk (fun y => (Rc.aft (Rc.fiV lc r) t).contains y) D) := hset
          have L5F := Lib.hid (Lp.go L5.out hbr)
          have hbF := Below.go hb hbr
          clear hkb hm hk
          go_wp2
          go_loopw [11, 28, 172] (fun u v i wq => ∃ k : Nat, k ≤ NC ∧ i = .int .i64 k ∧ u = .bool true ∧ v = .int .i64 ((Rc.aft ((Rc.fiV lc r).take k) t).length : Nat) ∧ Below wF.heap.size wF wq) (fun _ _ i _ => NC - (intOf i).toNat)
          case atStart => exact ⟨0, Nat.zero_le _, rfl, rfl, by simp [Rc.aft], Below.refl _ _⟩
          case round =>
            obtain ⟨k, hk, rfl, rfl, rfl, hbq⟩ := hrel
            by_cases hlt : k < NC
            · obtain ⟨b, off, rfl, hB, hc⟩ := L5F.out.2 (by omega)
              have c0 := (hbq.cell (p := ⟨b, off + k * 2, none⟩) hB).trans (hc k hlt).1
              have c1' := (hbq.cell (p := ⟨b, off + k * 2 + 1, none⟩) hB).trans (hc k hlt).2
              have hwx := wf_at wf_fires k (lt_len NCq.out hlt)
              obtain ⟨d, s, hx⟩ : ∃ d s, (Rc.fiV lc r)[k]?.getD (0, 0) = (d, s) := ⟨_, _, rfl⟩
              rw [hx] at c0 c1' hwx
              have kz := Lib.hid (heap_new wr (.cells #[.int .i64 d, .int .i64 s] tF))
              obtain ⟨⟨z0, z1⟩, -⟩ := blk2 kz.out
              have i0 : (0 : Int) ≤ (k : Int) := by omega
              have i1 : (k : Int) < (NC : Int) := by omega
              have hbx := Below.goN hbq (.cells #[.int .i64 d, .int .i64 s] tF)
              have hl0 := Nat.le_trans (Rc.aft_len ((Rc.fiV lc r).take k) t) (by rw [List.length_take, NCq.out]; exact Nat.min_le_right _ _)
              by_cases hd : t < s
              · have hd' : decide (t < s) = true := decide_eq_true hd
                have hV : Rc.aft ((Rc.fiV lc r).take (k + 1)) t = Rc.aft ((Rc.fiV lc r).take k) t ++ [(d, s)] := Rc.aft_yes NCq.out hlt hx hd
                have hlook : (Instr.lookup tFB (.map (some B0.heap.size)) (.agg #[.int .i64 d, .int .i64 s]) false).run Tryd.prog (wr.alloc (.cells #[.int .i64 d, .int .i64 s] tF)) = .ok (.bool true) (wr.alloc (.cells #[.int .i64 d, .int .i64 s] tF)) := by
                  have h := set_look' ((own_map_below hown.out hbq).alloc (.cells #[.int .i64 d, .int .i64 s] tF)) hset.out hwx
                  rw [in_aft NCq.out hlt hx hd] at h
                  exact h
                have HL : Hid ((Rc.aft ((Rc.fiV lc r).take (k + 1)) t).length = (Rc.aft ((Rc.fiV lc r).take k) t).length + 1) := Lib.hid (by rw [hV, List.length_append]; rfl)
                generalize (Rc.aft ((Rc.fiV lc r).take k) t).length = q at *
                clear hV hwx hc hx
                go_wp2
                go_roundw
                case rel => exact ⟨k + 1, by omega, by go_num, rfl, by rw [HL.out]; go_num, hbx⟩
                case measure => simp [intOf]; omega
              · have hd' : decide (t < s) = false := decide_eq_false hd
                have HL : Hid ((Rc.aft ((Rc.fiV lc r).take (k + 1)) t).length = (Rc.aft ((Rc.fiV lc r).take k) t).length) := Lib.hid (by rw [Rc.aft_no NCq.out hlt hx hd])
                clear hwx hc hx
                go_wp2
                go_roundw
                case rel => exact ⟨k + 1, by omega, by go_num, rfl, by rw [HL.out], hbx⟩
                case measure => simp [intOf]; omega
            · obtain rfl : NC = k := by omega
              rw [List.take_of_length_le (Nat.le_of_eq NCq.out)]
              have hlen := (own_map_below hown.out hbq).len Tryd.underlying32 3
              rw [set_size (own_map_below hown.out hbq) hset.out (NDc.out.filter _) (wf_aft wf_fires)] at hlen
              generalize (Rc.aft (Rc.fiV lc r) t).length = q at *
              have hbZ := Below.go hbF hbq
              go_wp2
              go_ret
              exact ⟨by simp, hbZ⟩
end Go.Proofs.YtcnenkhgbifmmaaDoor
