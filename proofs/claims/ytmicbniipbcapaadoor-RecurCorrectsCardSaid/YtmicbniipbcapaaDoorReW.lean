/- The contract of usable; the law RecurSeconds. -/
import Derived.Test.YtmicbniipbcapaaDoorReV
import Derived.Test.YtmicbniipbcapaaDoorReMath4
set_option linter.unusedVariables false
namespace Go.Proofs.YtmicbniipbcapaaDoor
open Go.RowKit
def useB (n : Nat) (l : Lpm.LL) (r : Rec) : Bool := decide (n ≤ 110) && Lpm.valid l && Rc.validB r && decide (r.unt - r.frm ≤ 1200)
theorem use_ok {n : Nat} {l : Lpm.LL} {r : Rec} (h : useB n l r = true) : n ≤ 110 ∧ Lpm.valid l = true ∧ Rc.validB r = true ∧ r.unt - r.frm ≤ 1200 := by
  unfold useB at h; simpa [and_assoc] using h
theorem use_fit {n : Nat} {l : Lpm.LL} {r : Rec} (h : useB n l r = true) (hk : (Lit.int .i64 r.kind).wf = true) : Fit21 r := ⟨hk, fun _ => (use_ok h).2.2.2⟩
theorem use_1 {n : Nat} {l : Lpm.LL} {r : Rec} (h : ¬ n ≤ 110) : useB n l r = false := by simp [useB, h]
theorem use_2 {n : Nat} {l : Lpm.LL} {r : Rec} (h : Lpm.valid l = false) : useB n l r = false := by simp [useB, h]
theorem use_3 {n : Nat} {l : Lpm.LL} {r : Rec} (h : Rc.validB r = false) : useB n l r = false := by simp [useB, h]
theorem use_4 {n : Nat} {l : Lpm.LL} {r : Rec} (h0 : n ≤ 110) (h1 : Lpm.valid l = true) (h : Rc.validB r = true) : useB n l r = decide (r.unt - r.frm ≤ 1200) := by simp [useB, h0, h1, h]
theorem fi_n {l : Lpm.LL} {r : Rec} {w : World} {f : FuncId} {args : Array Value} {e : Int} {n : Nat} (h : Calls Tryd.prog f args w (FiresPost l r w)) (he : Rc.fiE l r = e) (hn : (Rc.fiV l r).length = n) :
    Calls Tryd.prog f args w fun e' w' => ∃ A c, e' = .returned (.tuple #[.slice A n c, .int .i64 e]) ∧ n ≤ c ∧ c ≤ maxLen ∧ (∀ ad, A = some ad → w.heap.size ≤ ad.block) ∧ Lp w'.heap.size w' A n (Rc.fiV l r) ∧ Below w.heap.size w w' := by
  subst he hn; exact fi_c h
theorem da_n {r : Rec} {w : World} {f : FuncId} {args : Array Value} {e : Int} {n : Nat} (h : Calls Tryd.prog f args w (DaysPost r w)) (he : Rc.dysE r = e) (hn : (Rc.dysV r).length = n) :
    Calls Tryd.prog f args w fun e' w' => ∃ A c, e' = .returned (.tuple #[.slice A n c, .int .i64 e]) ∧ Li w'.heap.size w' A n (Rc.dysV r) ∧ Below w.heap.size w w' := by
  subst he hn; exact da_c h
set_option maxHeartbeats 2000000 in
set_option maxRecDepth 100000 in
theorem usable_any (A : Option Addr) (n c : Nat) (l : Lpm.LL) (r : Rec) (w : World) (hl : Lp w.heap.size w A n l) :
    Calls Tryd.prog 22 #[.slice A n c, (.agg #[.int .i64 r.kind, .int .i64 r.every, .int .i64 r.wd, .int .i64 r.nth, .int .i64 r.frm, .int .i64 r.unt, .int .i64 r.sec, .bool r.shift, .bool r.both])] w (RetB (.bool (useB n l r)) w) := by
  have H1 : Hid (∀ W, Below w.heap.size w W → Lp W.heap.size W A n l) := Lib.hid fun W hW => hl.go hW
  have hb := Below.goN (Below.refl w.heap.size w) (.cells #[.int .i64 r.kind, .int .i64 r.every, .int .i64 r.wd, .int .i64 r.nth, .int .i64 r.frm, .int .i64 r.unt, .int .i64 r.sec, .bool r.shift, .bool r.both] 24)
  have kx := Lib.hid (heap_new w (.cells #[.int .i64 r.kind, .int .i64 r.every, .int .i64 r.wd, .int .i64 r.nth, .int .i64 r.frm, .int .i64 r.unt, .int .i64 r.sec, .bool r.shift, .bool r.both] 24))
  clear hl
  by_cases m : n ≤ 110
  · have q1 := decide_eq_true m
    cases hv : Lpm.valid l
    · have HR := Lib.hid (use_2 (n := n) (r := r) hv)
      go_enter Tryd.func22, Tryd.ntmps22
      go_wp2_with fail
      refine (few18_any A n c _).mono ?_
      rintro e w' ⟨rfl, rfl⟩
      rw [q1]
      go_wp2_with fail
      refine (refValid_c (H1.out _ hb) (Nat.le_refl _) m (Below.refl _ _)).mono ?_
      rintro e w1 ⟨rfl, hn⟩
      rw [hv]
      go_wp2
      go_ret
      exact ⟨ret_bool HR.out.symm, Below.go hb hn⟩
    · cases hr : Rc.validB r
      · have HR := Lib.hid (use_3 (n := n) (l := l) hr)
        go_enter Tryd.func22, Tryd.ntmps22
        go_wp2_with fail
        refine (few18_any A n c _).mono ?_
        rintro e w' ⟨rfl, rfl⟩
        rw [q1]
        go_wp2_with fail
        refine (refValid_c (H1.out _ hb) (Nat.le_refl _) m (Below.refl _ _)).mono ?_
        rintro e w1 ⟨rfl, hn⟩
        rw [hv]
        have hb := Below.go hb hn
        have kx := Lib.hid (keep' kx.out hn)
        obtain ⟨d0, d1, d2, d3, d4, d5, d6, d7, d8⟩ := blk9 kx.out
        clear hn
        go_wp2_with fail
        refine (refValid21_any r _).mono ?_
        rintro e w2 ⟨rfl, hn⟩
        rw [hr]
        go_wp2
        go_ret
        exact ⟨ret_bool HR.out.symm, Below.go hb hn⟩
      · have HR := Lib.hid (use_4 m hv hr)
        have hV := (of_decide_eq_true hr : Rc.Val r).2.1
        have f1 : -100000 ≤ r.unt := by omega
        have f2 : r.unt ≤ 100000 := by omega
        have f3 : -100000 ≤ r.frm := by omega
        have f4 : r.frm ≤ 100000 := by omega
        clear hV
        go_enter Tryd.func22, Tryd.ntmps22
        go_wp2_with fail
        refine (few18_any A n c _).mono ?_
        rintro e w' ⟨rfl, rfl⟩
        rw [q1]
        go_wp2_with fail
        refine (refValid_c (H1.out _ hb) (Nat.le_refl _) m (Below.refl _ _)).mono ?_
        rintro e w1 ⟨rfl, hn⟩
        rw [hv]
        have hb := Below.go hb hn
        have kx := Lib.hid (keep' kx.out hn)
        obtain ⟨d0, d1, d2, d3, d4, d5, d6, d7, d8⟩ := blk9 kx.out
        clear hn
        go_wp2_with fail
        refine (refValid21_any r _).mono ?_
        rintro e w2 ⟨rfl, hn⟩
        rw [hr]
        have hb := Below.go hb hn
        have kx := Lib.hid (keep' kx.out hn)
        obtain ⟨d0, d1, d2, d3, d4, d5, d6, d7, d8⟩ := blk9 kx.out
        clear hn
        go_wp2_with fail
        refine (refFew21_any r _ f1 f2 f3 f4).mono ?_
        rintro e w3 ⟨rfl, hn⟩
        have hb := Below.go hb hn
        go_wp2
        go_ret
        exact ⟨ret_bool (HR.out.trans (by simp)).symm, hb⟩
  · have q1 := decide_eq_false m
    have HR := Lib.hid (use_1 (l := l) (r := r) m)
    go_enter Tryd.func22, Tryd.ntmps22
    go_wp2_with fail
    refine (few18_any A n c _).mono ?_
    rintro e w' ⟨rfl, rfl⟩
    rw [q1]
    go_wp2
    go_ret
    exact ⟨ret_bool HR.out.symm, hb⟩
set_option maxHeartbeats 2000000 in
set_option maxRecDepth 100000 in
theorem seconds_unusable (A : Option Addr) (n c : Nat) (l : Lpm.LL) (r : Rec) (s : Int) (w : World) (ht : Tab w) (h1 : Lp w.heap.size w A n l) (s0 : (Lit.int .i64 s).wf = true) (q : Hid (useB n l r = false)) :
    Calls Tryd.prog 8 #[.slice A n c, (.agg #[.int .i64 r.kind, .int .i64 r.every, .int .i64 r.wd, .int .i64 r.nth, .int .i64 r.frm, .int .i64 r.unt, .int .i64 r.sec, .bool r.shift, .bool r.both]), .int .i64 s] w (LawPost w) := by
  have HT : Hid (∀ W, Below w.heap.size w W → Tab W) := Lib.hid fun W hW => ht.below hW
  have H1 : Hid (∀ W, Below w.heap.size w W → Lp W.heap.size W A n l) := Lib.hid fun W hW => h1.go hW
  have hb := Below.goN (Below.refl w.heap.size w) (.cells #[.int .i64 r.kind, .int .i64 r.every, .int .i64 r.wd, .int .i64 r.nth, .int .i64 r.frm, .int .i64 r.unt, .int .i64 r.sec, .bool r.shift, .bool r.both] 24)
  have kx := Lib.hid (heap_new w (.cells #[.int .i64 r.kind, .int .i64 r.every, .int .i64 r.wd, .int .i64 r.nth, .int .i64 r.frm, .int .i64 r.unt, .int .i64 r.sec, .bool r.shift, .bool r.both] 24))
  clear ht h1
  go_enter Tryd.func8, Tryd.ntmps8
  go_wp2_with fail
  refine (head_any _ (HT.out _ hb)).mono ?_
  rintro e w1 ⟨rfl, hn⟩
  have hb := Below.go hb hn
  have kx := Lib.hid (keep' kx.out hn)
  clear hn
  obtain ⟨kx_0, kx_1, kx_2, kx_3, kx_4, kx_5, kx_6, kx_7, kx_8⟩ := blk9 kx.out
  go_wp2_with fail
  refine (usable_any A n c l r _ (H1.out _ hb)).mono ?_
  rintro e w2 ⟨rfl, hn⟩
  have hb := Below.go hb hn
  have kx := Lib.hid (keep' kx.out hn)
  clear hn
  rw [q.out]
  obtain ⟨kx_0, kx_1, kx_2, kx_3, kx_4, kx_5, kx_6, kx_7, kx_8⟩ := blk9 kx.out
  go_wp2
  go_ret
  exact ⟨by simp, hb⟩
set_option maxHeartbeats 2000000 in
set_option maxRecDepth 100000 in
theorem seconds_neg (A : Option Addr) (n c : Nat) (l : Lpm.LL) (r : Rec) (s : Int) (w : World) (ht : Tab w) (h1 : Lp w.heap.size w A n l) (s0 : (Lit.int .i64 s).wf = true) (q : Hid (useB n l r = true)) (q1 : s < 0) :
    Calls Tryd.prog 8 #[.slice A n c, (.agg #[.int .i64 r.kind, .int .i64 r.every, .int .i64 r.wd, .int .i64 r.nth, .int .i64 r.frm, .int .i64 r.unt, .int .i64 r.sec, .bool r.shift, .bool r.both]), .int .i64 s] w (LawPost w) := by
  have HT : Hid (∀ W, Below w.heap.size w W → Tab W) := Lib.hid fun W hW => ht.below hW
  have H1 : Hid (∀ W, Below w.heap.size w W → Lp W.heap.size W A n l) := Lib.hid fun W hW => h1.go hW
  have hb := Below.goN (Below.refl w.heap.size w) (.cells #[.int .i64 r.kind, .int .i64 r.every, .int .i64 r.wd, .int .i64 r.nth, .int .i64 r.frm, .int .i64 r.unt, .int .i64 r.sec, .bool r.shift, .bool r.both] 24)
  have kx := Lib.hid (heap_new w (.cells #[.int .i64 r.kind, .int .i64 r.every, .int .i64 r.wd, .int .i64 r.nth, .int .i64 r.frm, .int .i64 r.unt, .int .i64 r.sec, .bool r.shift, .bool r.both] 24))
  clear ht h1
  go_enter Tryd.func8, Tryd.ntmps8
  go_wp2_with fail
  refine (head_any _ (HT.out _ hb)).mono ?_
  rintro e w1 ⟨rfl, hn⟩
  have hb := Below.go hb hn
  have kx := Lib.hid (keep' kx.out hn)
  clear hn
  obtain ⟨kx_0, kx_1, kx_2, kx_3, kx_4, kx_5, kx_6, kx_7, kx_8⟩ := blk9 kx.out
  go_wp2_with fail
  refine (usable_any A n c l r _ (H1.out _ hb)).mono ?_
  rintro e w2 ⟨rfl, hn⟩
  have hb := Below.go hb hn
  have kx := Lib.hid (keep' kx.out hn)
  clear hn
  rw [q.out]
  obtain ⟨kx_0, kx_1, kx_2, kx_3, kx_4, kx_5, kx_6, kx_7, kx_8⟩ := blk9 kx.out
  go_wp2
  go_ret
  exact ⟨by simp, hb⟩
set_option maxHeartbeats 2000000 in
set_option maxRecDepth 100000 in
theorem seconds_far (A : Option Addr) (n c : Nat) (l : Lpm.LL) (r : Rec) (s : Int) (w : World) (ht : Tab w) (h1 : Lp w.heap.size w A n l) (s0 : (Lit.int .i64 s).wf = true) (q : Hid (useB n l r = true)) (q1 : ¬ s < 0) (q2 : 86399 ≤ s) :
    Calls Tryd.prog 8 #[.slice A n c, (.agg #[.int .i64 r.kind, .int .i64 r.every, .int .i64 r.wd, .int .i64 r.nth, .int .i64 r.frm, .int .i64 r.unt, .int .i64 r.sec, .bool r.shift, .bool r.both]), .int .i64 s] w (LawPost w) := by
  have HT : Hid (∀ W, Below w.heap.size w W → Tab W) := Lib.hid fun W hW => ht.below hW
  have H1 : Hid (∀ W, Below w.heap.size w W → Lp W.heap.size W A n l) := Lib.hid fun W hW => h1.go hW
  have hb := Below.goN (Below.refl w.heap.size w) (.cells #[.int .i64 r.kind, .int .i64 r.every, .int .i64 r.wd, .int .i64 r.nth, .int .i64 r.frm, .int .i64 r.unt, .int .i64 r.sec, .bool r.shift, .bool r.both] 24)
  have kx := Lib.hid (heap_new w (.cells #[.int .i64 r.kind, .int .i64 r.every, .int .i64 r.wd, .int .i64 r.nth, .int .i64 r.frm, .int .i64 r.unt, .int .i64 r.sec, .bool r.shift, .bool r.both] 24))
  clear ht h1
  go_enter Tryd.func8, Tryd.ntmps8
  go_wp2_with fail
  refine (head_any _ (HT.out _ hb)).mono ?_
  rintro e w1 ⟨rfl, hn⟩
  have hb := Below.go hb hn
  have kx := Lib.hid (keep' kx.out hn)
  clear hn
  obtain ⟨kx_0, kx_1, kx_2, kx_3, kx_4, kx_5, kx_6, kx_7, kx_8⟩ := blk9 kx.out
  go_wp2_with fail
  refine (usable_any A n c l r _ (H1.out _ hb)).mono ?_
  rintro e w2 ⟨rfl, hn⟩
  have hb := Below.go hb hn
  have kx := Lib.hid (keep' kx.out hn)
  clear hn
  rw [q.out]
  obtain ⟨kx_0, kx_1, kx_2, kx_3, kx_4, kx_5, kx_6, kx_7, kx_8⟩ := blk9 kx.out
  go_wp2
  go_ret
  exact ⟨by simp, hb⟩
set_option maxHeartbeats 2000000 in
set_option maxRecDepth 100000 in
theorem seconds_last (A : Option Addr) (n c : Nat) (l : Lpm.LL) (r : Rec) (s : Int) (w : World) (ht : Tab w) (h1 : Lp w.heap.size w A n l) (s0 : (Lit.int .i64 s).wf = true) (q : Hid (useB n l r = true)) (q1 : ¬ s < 0) (q2 : ¬ 86399 ≤ s) (q3 : 86399 ≤ r.sec) :
    Calls Tryd.prog 8 #[.slice A n c, (.agg #[.int .i64 r.kind, .int .i64 r.every, .int .i64 r.wd, .int .i64 r.nth, .int .i64 r.frm, .int .i64 r.unt, .int .i64 r.sec, .bool r.shift, .bool r.both]), .int .i64 s] w (LawPost w) := by
  have HT : Hid (∀ W, Below w.heap.size w W → Tab W) := Lib.hid fun W hW => ht.below hW
  have H1 : Hid (∀ W, Below w.heap.size w W → Lp W.heap.size W A n l) := Lib.hid fun W hW => h1.go hW
  have hb := Below.goN (Below.refl w.heap.size w) (.cells #[.int .i64 r.kind, .int .i64 r.every, .int .i64 r.wd, .int .i64 r.nth, .int .i64 r.frm, .int .i64 r.unt, .int .i64 r.sec, .bool r.shift, .bool r.both] 24)
  have kx := Lib.hid (heap_new w (.cells #[.int .i64 r.kind, .int .i64 r.every, .int .i64 r.wd, .int .i64 r.nth, .int .i64 r.frm, .int .i64 r.unt, .int .i64 r.sec, .bool r.shift, .bool r.both] 24))
  clear ht h1
  go_enter Tryd.func8, Tryd.ntmps8
  go_wp2_with fail
  refine (head_any _ (HT.out _ hb)).mono ?_
  rintro e w1 ⟨rfl, hn⟩
  have hb := Below.go hb hn
  have kx := Lib.hid (keep' kx.out hn)
  clear hn
  obtain ⟨kx_0, kx_1, kx_2, kx_3, kx_4, kx_5, kx_6, kx_7, kx_8⟩ := blk9 kx.out
  go_wp2_with fail
  refine (usable_any A n c l r _ (H1.out _ hb)).mono ?_
  rintro e w2 ⟨rfl, hn⟩
  have hb := Below.go hb hn
  have kx := Lib.hid (keep' kx.out hn)
  clear hn
  rw [q.out]
  obtain ⟨kx_0, kx_1, kx_2, kx_3, kx_4, kx_5, kx_6, kx_7, kx_8⟩ := blk9 kx.out
  go_wp2
  go_ret
  exact ⟨by simp, hb⟩
set_option maxHeartbeats 2000000 in
set_option maxRecDepth 100000 in
theorem seconds_limit (A : Option Addr) (n c : Nat) (l : Lpm.LL) (r : Rec) (s : Int) (w : World) (ht : Tab w) (h1 : Lp w.heap.size w A n l) (s0 : (Lit.int .i64 s).wf = true) (q : Hid (useB n l r = true)) (q1 : ¬ s < 0) (q2 : ¬ 86399 ≤ s) (q3 : ¬ 86399 ≤ r.sec) (m : n ≤ 110) (hr : Fit21 r) (hr2 : Fit21 (Rc.setSec r s)) (N : Nat) (E1 : Hid (Rc.fiE l r = 2)) (E2 : Hid (Rc.fiE l (Rc.setSec r s) = 2)) (N1 : Hid ((Rc.fiV l r).length = N)) (N2 : Hid ((Rc.fiV l (Rc.setSec r s)).length = N)) :
    Calls Tryd.prog 8 #[.slice A n c, (.agg #[.int .i64 r.kind, .int .i64 r.every, .int .i64 r.wd, .int .i64 r.nth, .int .i64 r.frm, .int .i64 r.unt, .int .i64 r.sec, .bool r.shift, .bool r.both]), .int .i64 s] w (LawPost w) := by
  have HT : Hid (∀ W, Below w.heap.size w W → Tab W) := Lib.hid fun W hW => ht.below hW
  have H1 : Hid (∀ W, Below w.heap.size w W → Lp W.heap.size W A n l) := Lib.hid fun W hW => h1.go hW
  have hb := Below.goN (Below.refl w.heap.size w) (.cells #[.int .i64 r.kind, .int .i64 r.every, .int .i64 r.wd, .int .i64 r.nth, .int .i64 r.frm, .int .i64 r.unt, .int .i64 r.sec, .bool r.shift, .bool r.both] 24)
  have kx := Lib.hid (heap_new w (.cells #[.int .i64 r.kind, .int .i64 r.every, .int .i64 r.wd, .int .i64 r.nth, .int .i64 r.frm, .int .i64 r.unt, .int .i64 r.sec, .bool r.shift, .bool r.both] 24))
  clear ht h1
  go_enter Tryd.func8, Tryd.ntmps8
  go_wp2_with fail
  refine (head_any _ (HT.out _ hb)).mono ?_
  rintro e w1 ⟨rfl, hn⟩
  have hb := Below.go hb hn
  have kx := Lib.hid (keep' kx.out hn)
  clear hn
  obtain ⟨kx_0, kx_1, kx_2, kx_3, kx_4, kx_5, kx_6, kx_7, kx_8⟩ := blk9 kx.out
  go_wp2_with fail
  refine (usable_any A n c l r _ (H1.out _ hb)).mono ?_
  rintro e w2 ⟨rfl, hn⟩
  have hb := Below.go hb hn
  have kx := Lib.hid (keep' kx.out hn)
  clear hn
  rw [q.out]
  obtain ⟨kx_0, kx_1, kx_2, kx_3, kx_4, kx_5, kx_6, kx_7, kx_8⟩ := blk9 kx.out
  have kxz := lt_of_heap kx.out
  have ky := Lib.hid (heap_new w2 (.cells #[.int .i64 r.kind, .int .i64 r.every, .int .i64 r.wd, .int .i64 r.nth, .int .i64 r.frm, .int .i64 r.unt, .int .i64 s, .bool r.shift, .bool r.both] 24))
  have kx := Lib.hid (keep' kx.out (Below.goN (Below.refl _ _) (.cells #[.int .i64 r.kind, .int .i64 r.every, .int .i64 r.wd, .int .i64 r.nth, .int .i64 r.frm, .int .i64 r.unt, .int .i64 s, .bool r.shift, .bool r.both] 24)))
  have hb := Below.goN hb (.cells #[.int .i64 r.kind, .int .i64 r.every, .int .i64 r.wd, .int .i64 r.nth, .int .i64 r.frm, .int .i64 r.unt, .int .i64 s, .bool r.shift, .bool r.both] 24)
  have kyz := lt_of_heap ky.out
  go_wp2_with fail
  refine (fi_n (e := 2) (n := N) (Fires_any A n c l r _ (HT.out _ hb) (H1.out _ hb) m hr) E1.out N1.out).mono ?_
  rintro e w3 ⟨A3, c3, rfl, hc3, hz3, -, hL, hn⟩
  have hb := Below.go hb hn
  have kx := Lib.hid (keep' kx.out hn)
  have ky := Lib.hid (keep' ky.out hn)
  clear hn
  have L3 := Lib.hid hL; clear hL
  obtain ⟨ky_0, ky_1, ky_2, ky_3, ky_4, ky_5, ky_6, ky_7, ky_8⟩ := blk9 ky.out
  go_wp2_with fail
  refine (fi_n (e := 2) (n := N) (Fires_any A n c l (Rc.setSec r s) _ (HT.out _ hb) (H1.out _ hb) m hr2) E2.out N2.out).mono ?_
  rintro e w4 ⟨A4, c4, rfl, hc4, hz4, -, hL, hn⟩
  have hb := Below.go hb hn
  have kx := Lib.hid (keep' kx.out hn)
  have ky := Lib.hid (keep' ky.out hn)
  have L3 := Lib.hid (Lp.go L3.out hn)
  clear hn
  have L4 := Lib.hid hL; clear hL
  go_wp2
  go_ret
  exact ⟨by simp, hb⟩
set_option maxHeartbeats 2000000 in
set_option maxRecDepth 100000 in
theorem seconds_main (A : Option Addr) (n c : Nat) (l : Lpm.LL) (r : Rec) (s : Int) (w : World) (ht : Tab w) (h1 : Lp w.heap.size w A n l) (s0 : (Lit.int .i64 s).wf = true) (q : Hid (useB n l r = true)) (q1 : ¬ s < 0) (q2 : ¬ 86399 ≤ s) (q3 : ¬ 86399 ≤ r.sec) (q4 : 0 ≤ r.sec) (m : n ≤ 110) (hr : Fit21 r) (hr2 : Fit21 (Rc.setSec r s)) (N : Nat) (E1 : Hid (Rc.fiE l r = 0)) (E2 : Hid (Rc.fiE l (Rc.setSec r s) = 0)) (N1 : Hid ((Rc.fiV l r).length = N)) (N2 : Hid ((Rc.fiV l (Rc.setSec r s)).length = N)) (HS : Hid (∀ k : Nat, k < N → ∃ d u v, (Rc.fiV l r)[k]?.getD (0, 0) = (d, u) ∧ (Rc.fiV l (Rc.setSec r s))[k]?.getD (0, 0) = (d, v) ∧ -10000000000 ≤ u ∧ u ≤ 4000000000000000 ∧ -10000000000 ≤ v ∧ v ≤ 4000000000000000 ∧ v - u = (s - r.sec) * 1000000)) :
    Calls Tryd.prog 8 #[.slice A n c, (.agg #[.int .i64 r.kind, .int .i64 r.every, .int .i64 r.wd, .int .i64 r.nth, .int .i64 r.frm, .int .i64 r.unt, .int .i64 r.sec, .bool r.shift, .bool r.both]), .int .i64 s] w (LawPost w) := by
  have HT : Hid (∀ W, Below w.heap.size w W → Tab W) := Lib.hid fun W hW => ht.below hW
  have H1 : Hid (∀ W, Below w.heap.size w W → Lp W.heap.size W A n l) := Lib.hid fun W hW => h1.go hW
  have hb := Below.goN (Below.refl w.heap.size w) (.cells #[.int .i64 r.kind, .int .i64 r.every, .int .i64 r.wd, .int .i64 r.nth, .int .i64 r.frm, .int .i64 r.unt, .int .i64 r.sec, .bool r.shift, .bool r.both] 24)
  have kx := Lib.hid (heap_new w (.cells #[.int .i64 r.kind, .int .i64 r.every, .int .i64 r.wd, .int .i64 r.nth, .int .i64 r.frm, .int .i64 r.unt, .int .i64 r.sec, .bool r.shift, .bool r.both] 24))
  clear ht h1
  go_enter Tryd.func8, Tryd.ntmps8
  go_wp2_with fail
  refine (head_any _ (HT.out _ hb)).mono ?_
  rintro e w1 ⟨rfl, hn⟩
  have hb := Below.go hb hn
  have kx := Lib.hid (keep' kx.out hn)
  clear hn
  obtain ⟨kx_0, kx_1, kx_2, kx_3, kx_4, kx_5, kx_6, kx_7, kx_8⟩ := blk9 kx.out
  go_wp2_with fail
  refine (usable_any A n c l r _ (H1.out _ hb)).mono ?_
  rintro e w2 ⟨rfl, hn⟩
  have hb := Below.go hb hn
  have kx := Lib.hid (keep' kx.out hn)
  clear hn
  rw [q.out]
  obtain ⟨kx_0, kx_1, kx_2, kx_3, kx_4, kx_5, kx_6, kx_7, kx_8⟩ := blk9 kx.out
  have kxz := lt_of_heap kx.out
  have ky := Lib.hid (heap_new w2 (.cells #[.int .i64 r.kind, .int .i64 r.every, .int .i64 r.wd, .int .i64 r.nth, .int .i64 r.frm, .int .i64 r.unt, .int .i64 s, .bool r.shift, .bool r.both] 24))
  have kx := Lib.hid (keep' kx.out (Below.goN (Below.refl _ _) (.cells #[.int .i64 r.kind, .int .i64 r.every, .int .i64 r.wd, .int .i64 r.nth, .int .i64 r.frm, .int .i64 r.unt, .int .i64 s, .bool r.shift, .bool r.both] 24)))
  have hb := Below.goN hb (.cells #[.int .i64 r.kind, .int .i64 r.every, .int .i64 r.wd, .int .i64 r.nth, .int .i64 r.frm, .int .i64 r.unt, .int .i64 s, .bool r.shift, .bool r.both] 24)
  have kyz := lt_of_heap ky.out
  go_wp2_with fail
  refine (fi_n (e := 0) (n := N) (Fires_any A n c l r _ (HT.out _ hb) (H1.out _ hb) m hr) E1.out N1.out).mono ?_
  rintro e w3 ⟨A3, c3, rfl, hc3, hz3, -, hL, hn⟩
  have hb := Below.go hb hn
  have kx := Lib.hid (keep' kx.out hn)
  have ky := Lib.hid (keep' ky.out hn)
  clear hn
  have L3 := Lib.hid hL; clear hL
  obtain ⟨ky_0, ky_1, ky_2, ky_3, ky_4, ky_5, ky_6, ky_7, ky_8⟩ := blk9 ky.out
  go_wp2_with fail
  refine (fi_n (e := 0) (n := N) (Fires_any A n c l (Rc.setSec r s) _ (HT.out _ hb) (H1.out _ hb) m hr2) E2.out N2.out).mono ?_
  rintro e w4 ⟨A4, c4, rfl, hc4, hz4, -, hL, hn⟩
  have hb := Below.go hb hn
  have kx := Lib.hid (keep' kx.out hn)
  have ky := Lib.hid (keep' ky.out hn)
  have L3 := Lib.hid (Lp.go L3.out hn)
  clear hn
  have L4 := Lib.hid hL; clear hL
  have hNz : N ≤ 1000 := by have := Rc.fiV_len l r; rw [N1.out] at this; exact this
  obtain ⟨kx_0, kx_1, kx_2, kx_3, kx_4, kx_5, kx_6, kx_7, kx_8⟩ := blk9 kx.out
  clear kxz kyz
  go_wp2
  go_loopw [7, 73] (fun u i wr => ∃ k : Nat, k ≤ N ∧ i = .int .i64 k ∧ u = .bool true ∧ Below w4.heap.size w4 wr) (fun _ i _ => N - (intOf i).toNat)
  case atStart => exact ⟨0, Nat.zero_le _, rfl, rfl, Below.refl _ _⟩
  case round =>
    obtain ⟨k, hk, rfl, rfl, hbr⟩ := hrel
    by_cases hlt : k < N
    · obtain ⟨b, off, rfl, hB, hc⟩ := L3.out.2 (by omega)
      obtain ⟨b', off', rfl, hB', hc'⟩ := L4.out.2 (by omega)
      have c0 := (hbr.cell (p := ⟨b, off + k * 2, none⟩) hB).trans (hc k hlt).1
      have c1 := (hbr.cell (p := ⟨b, off + k * 2 + 1, none⟩) hB).trans (hc k hlt).2
      have d0 := (hbr.cell (p := ⟨b', off' + k * 2, none⟩) hB').trans (hc' k hlt).1
      have d1 := (hbr.cell (p := ⟨b', off' + k * 2 + 1, none⟩) hB').trans (hc' k hlt).2
      clear hc hc'
      obtain ⟨d, u, v, x1, x2, u1, u2, v1, v2, hq⟩ := HS.out k hlt
      rw [x1] at c0 c1
      rw [x2] at d0 d1
      have hq1 : (v - u == (s - r.sec) * 1000000) = true := by rw [beq_iff_eq]; exact hq
      clear x1 x2 hq
      have i0 : (0 : Int) ≤ (k : Int) := by omega
      have i1 : (k : Int) < (N : Int) := by omega
      obtain ⟨x0, x1, x2, x3, x4, x5, x6, x7, x8⟩ := blk9 (keep' kx.out hbr)
      go_wp2
      go_quiet (fail)
      go_wp2
      go_roundw
      case rel => exact ⟨k + 1, by omega, by go_num, by simp [hq1], below_drewN hbr _⟩
      case measure => simp [intOf]; omega
    · obtain rfl : k = N := by omega
      go_wp2
      go_ret
      exact ⟨rfl, Below.go hb hbr⟩
theorem seconds_law (v1 : Value) (l : Lpm.LL) (v2 : Value) (r : Rec) (s : Int) (w : World) (i1 : IsTab w v1 l) (i2 : IsRc v2 r) (i3 : (Lit.int .i64 s).wf = true) (ht : Tab w) :
    Calls Tryd.prog 8 #[v1, v2, .int .i64 s] w (LawPost w) := by
  obtain ⟨A, n, c, rfl, -, -, -, h1⟩ := i1
  obtain ⟨rfl, hk⟩ := i2
  cases hu : useB n l r
  · exact seconds_unusable A n c l r s w ht h1 i3 (Lib.hid hu)
  · have q := Lib.hid hu
    by_cases q1 : s < 0
    · exact seconds_neg A n c l r s w ht h1 i3 q q1
    · by_cases q2 : 86399 ≤ s
      · exact seconds_far A n c l r s w ht h1 i3 q q1 q2
      · by_cases q3 : 86399 ≤ r.sec
        · exact seconds_last A n c l r s w ht h1 i3 q q1 q2 q3
        · obtain ⟨m, hv, hB, hf⟩ := use_ok hu
          have hr2 : Fit21 (Rc.setSec r s) := ⟨hk, fun _ => hf⟩
          obtain ⟨e1, e2, e3⟩ := Rc.fi_sec (s := s) hv hB (by omega) (by omega) (by omega)
          rcases e3 with e3 | e3
          · exact seconds_main A n c l r s w ht h1 i3 q q1 q2 q3 (of_decide_eq_true hB : Rc.Val r).2.2.1.1 m (use_fit hu hk) hr2 _ (Lib.hid e3) (Lib.hid (e1.trans e3)) (Lib.hid rfl) (Lib.hid e2) (Lib.hid fun k h => Rc.sec_at hv hB (by omega) (by omega) (by omega) e3 h)
          · exact seconds_limit A n c l r s w ht h1 i3 q q1 q2 q3 m (use_fit hu hk) hr2 _ (Lib.hid e3) (Lib.hid (e1.trans e3)) (Lib.hid rfl) (Lib.hid e2)
end Go.Proofs.YtmicbniipbcapaaDoor
