/- The law RecurNothing. -/
import Derived.Test.YtmicbniipbcapaaDoorReY
import Derived.Test.YtmicbniipbcapaaDoorReMath5
set_option linter.unusedVariables false
namespace Go.Proofs.YtmicbniipbcapaaDoor
open Go.RowKit
abbrev tL : TypeId := 48
theorem infoL : (Tryd.prog.info? 48).map (fun i => (i.zero, i.size, i.bytes)) = some (some (.agg #[.int .i64 0, .int .i64 0]), 2, 16) := by kernel_rfl
set_option maxHeartbeats 2000000 in
set_option maxRecDepth 100000 in
theorem same17_any (A A' : Option Addr) (n c n' c' : Nat) (l l' : Lpm.LL) (w : World) (h1 : Lp w.heap.size w A n l) (h2 : Lp w.heap.size w A' n' l') (hn : n ≤ 100000) (hn' : n' ≤ 100000) :
    Calls Tryd.prog 24 #[.slice A n c, .slice A' n' c'] w (RetB (.bool (decide (l = l'))) w) := by
  have H1 := Lib.hid h1
  have H2 := Lib.hid h2
  have HN := Lib.hid h1.1
  have HN' := Lib.hid h2.1
  clear h1 h2
  by_cases hq : n = n'
  · subst hq
    go_enter Tryd.func24, Tryd.ntmps24
    go_wp2
    go_loopw [5] (fun i wr => ∃ k : Nat, k ≤ n ∧ i = .int .i64 k ∧ Below w.heap.size w wr ∧ Hid (∀ j, j < k → l[j]?.getD (0, 0) = l'[j]?.getD (0, 0))) (fun i _ => n - (intOf i).toNat)
    case atStart => exact ⟨0, Nat.zero_le _, rfl, Below.refl _ _, Lib.hid (fun j h => by omega)⟩
    case round =>
      obtain ⟨k, hk, rfl, hb, hsame⟩ := hrel
      by_cases hlt : k < n
      · obtain ⟨b, off, rfl, hB, hc⟩ := H1.out.2 (by omega)
        obtain ⟨b', off', rfl, hB', hc'⟩ := H2.out.2 (by omega)
        have c0 := (hb.cell (p := ⟨b, off + k * 2, none⟩) hB).trans (hc k hlt).1
        have c1 := (hb.cell (p := ⟨b, off + k * 2 + 1, none⟩) hB).trans (hc k hlt).2
        have d0 := (hb.cell (p := ⟨b', off' + k * 2, none⟩) hB').trans (hc' k hlt).1
        have d1 := (hb.cell (p := ⟨b', off' + k * 2 + 1, none⟩) hB').trans (hc' k hlt).2
        clear hc hc'
        obtain ⟨x, y, hx⟩ : ∃ x y, l[k]?.getD (0, 0) = (x, y) := ⟨_, _, rfl⟩
        obtain ⟨d, t, hx'⟩ : ∃ d t, l'[k]?.getD (0, 0) = (d, t) := ⟨_, _, rfl⟩
        rw [hx] at c0 c1
        rw [hx'] at d0 d1
        have HX := Lib.hid hx
        have HX' := Lib.hid hx'
        clear hx hx'
        have i0 : (0 : Int) ≤ (k : Int) := by omega
        have i1 : (k : Int) < (n : Int) := by omega
        cases g1 : (x == d)
        · have HD : Hid (decide (l = l') = false) := Lib.hid (decide_eq_false fun e => by
            have := HX.out; rw [e, HX'.out] at this; cases this; simp at g1)
          go_wp2
          go_quiet (fail)
          go_wp2
          go_ret
          exact ⟨ret_bool HD.out.symm, below_drewN hb _⟩
        · cases g2 : (y == t)
          · have HD : Hid (decide (l = l') = false) := Lib.hid (decide_eq_false fun e => by
              have := HX.out; rw [e, HX'.out] at this; cases this; simp at g2)
            go_wp2
            go_quiet (fail)
            go_wp2
            go_ret
            exact ⟨ret_bool HD.out.symm, below_drewN hb _⟩
          · have HS : Hid (∀ j, j < k + 1 → l[j]?.getD (0, 0) = l'[j]?.getD (0, 0)) := Lib.hid fun j hj => by
              by_cases e : j = k
              · subst e
                have e1 : x = d := by simpa using g1
                have e2 : y = t := by simpa using g2
                rw [HX.out, HX'.out, e1, e2]
              · exact hsame.out j (by omega)
            go_wp2
            go_quiet (fail)
            go_wp2
            go_roundw
            case rel => exact ⟨k + 1, by omega, by go_num, below_drewN hb _, HS⟩
            case measure => simp [intOf]; omega
      · obtain rfl : k = n := by omega
        have HD : Hid (decide (l = l') = true) := Lib.hid (decide_eq_true (by
          apply List.ext_getElem (HN.out.trans HN'.out.symm)
          intro i a b
          have := hsame.out i (by have := HN.out; omega)
          rwa [List.getElem?_eq_getElem a, List.getElem?_eq_getElem b] at this))
        go_wp2
        go_ret
        exact ⟨ret_bool HD.out.symm, hb⟩
  · have hne : ¬ ((n : Int) = (n' : Int)) := by omega
    have HD : Hid (decide (l = l') = false) := Lib.hid (decide_eq_false fun e => hq (by rw [← HN.out, ← HN'.out, e]))
    go_enter Tryd.func24, Tryd.ntmps24
    go_wp2
    go_ret
    exact ⟨ret_bool HD.out.symm, Below.refl _ _⟩
/-- append, at a walk, of a list that may be nil -/
theorem wpList_app_any {P : Program} {w : World} {ops : Array Oper} {rest : List Oper} {o : Oper} {a : Act} {Q : Exit → Act → World → Prop} (hgd : o.guard = none) (s x : Operand) (t : TypeId)
    (ho : o.op = .call { callee := .builtin .append, args := #[s, x], argTypes := #[t, t] })
    (base : Nat) (e : TypeId) (i : TypeInfo) (z : Value) (size bytes : Nat) (ht : P.underlying t = some (.slice e)) (hi : P.info? e = some i) (hz : i.zero = some z)
    (hsize : i.size = size) (hby : i.bytes = bytes) (hzs : z.cells.size = size) (hsz : 0 < size)
    (v : Value) (n : Nat) (xs : List Value) (hs : a.eval s = v) (hown : w.ownsRow base e size v n xs)
    (A : Option Addr) (m c : Nat) (news : List Value) (hx : a.eval x = .slice A m c) (hl : news.length = m * size) (hA : A = none → m = 0 ∧ c = 0) (hnews : ∀ ad, A = some ad → ∀ j u, news[j]? = some u → w.cell? (ad.add j) = some u) (h1 : ∀ u ∈ news, u.oneCell' = true)
    (h63 : n + m ≤ maxLen) (hbytes : (n + m) * bytes ≤ 140737488355328) (hbase : base ≤ w.heap.size)
    (h : ∀ v' w', w'.ownsRow base e size v' (n + m) (xs ++ news) → w.grownBy w' v.ownBlock → wpList P ops Q rest (a.put o.dst v') w') :
    wpList P ops Q (o :: rest) a w := by
  refine wpList_plain hgd fun K hK => ?_
  obtain ⟨v', w', hr, h2, h3⟩ := app_run (P := P) (w := w) base t o.type e i z size bytes ht hi hz hsize hby hzs hsz v n xs hown A m c news hl hA hnews h1 h63 hbytes hbase
  unfold Oper.wp execOp
  simp only [ho, resolve, invoke, builtin, Sem.run_bind, Sem.run_pure, Result.andThen_ok, List.map_toArray, List.map_cons, List.map_nil, hs, hx, hr]
  exact hK _ _ (h v' w' h2 h3)
theorem own0_made (w : World) (t : TypeId) (sz : Nat) : (w.alloc (.cells #[] t)).ownsRow w.heap.size t sz (.slice (some ⟨w.heap.size, 0, none⟩) 0 0) 0 [] :=
  ⟨by simp, .inr ⟨w.heap.size, 0, #[], rfl, Nat.le_refl _, heap_alloc_new w _, Nat.le_refl _, by unfold maxLen; omega, by simp, by simp⟩⟩
set_option maxHeartbeats 2000000 in
set_option maxRecDepth 100000 in
theorem nothing_un1 (A1 A2 : Option Addr) (n1 c1 n2 c2 : Nat) (o nw : Lpm.LL) (r : Rec) (t day : Int) (w : World) (ht : Tab w) (h1 : Lp w.heap.size w A1 n1 o) (h2 : Lp w.heap.size w A2 n2 nw) (d0 : (Lit.int .i64 day).wf = true) (q : Hid (useB n1 o r = false)) :
    Calls Tryd.prog 6 #[.slice A1 n1 c1, .slice A2 n2 c2, (.agg #[.int .i64 r.kind, .int .i64 r.every, .int .i64 r.wd, .int .i64 r.nth, .int .i64 r.frm, .int .i64 r.unt, .int .i64 r.sec, .bool r.shift, .bool r.both]), .int .i64 t, .int .i64 day] w (LawPost w) := by
  have HT : Hid (∀ W, Below w.heap.size w W → Tab W) := Lib.hid fun W hW => ht.below hW
  have H1 : Hid (∀ W, Below w.heap.size w W → Lp W.heap.size W A1 n1 o) := Lib.hid fun W hW => h1.go hW
  have H2 : Hid (∀ W, Below w.heap.size w W → Lp W.heap.size W A2 n2 nw) := Lib.hid fun W hW => h2.go hW
  have N1 := Lib.hid h1.1
  have N2 := Lib.hid h2.1
  have hb := Below.goN (Below.refl w.heap.size w) (.cells #[.int .i64 r.kind, .int .i64 r.every, .int .i64 r.wd, .int .i64 r.nth, .int .i64 r.frm, .int .i64 r.unt, .int .i64 r.sec, .bool r.shift, .bool r.both] 24)
  have kx := Lib.hid (heap_new w (.cells #[.int .i64 r.kind, .int .i64 r.every, .int .i64 r.wd, .int .i64 r.nth, .int .i64 r.frm, .int .i64 r.unt, .int .i64 r.sec, .bool r.shift, .bool r.both] 24))
  clear ht h1 h2
  go_enter Tryd.func6, Tryd.ntmps6
  go_wp2_with fail
  refine (head_any _ (HT.out _ hb)).mono ?_
  rintro e w1 ⟨rfl, hn⟩
  have hb := Below.go hb hn
  have kx := Lib.hid (keep' kx.out hn)
  clear hn
  obtain ⟨kx_0, kx_1, kx_2, kx_3, kx_4, kx_5, kx_6, kx_7, kx_8⟩ := blk9 kx.out
  go_wp2_with fail
  refine (usable_any A1 n1 c1 o r _ (H1.out _ hb)).mono ?_
  rintro e w2 ⟨rfl, hn⟩
  have hb := Below.go hb hn
  have kx := Lib.hid (keep' kx.out hn)
  clear hn
  rw [q.out]
  go_wp2
  go_ret
  exact ⟨by simp, hb⟩
set_option maxHeartbeats 2000000 in
set_option maxRecDepth 100000 in
theorem nothing_un2 (A1 A2 : Option Addr) (n1 c1 n2 c2 : Nat) (o nw : Lpm.LL) (r : Rec) (t day : Int) (w : World) (ht : Tab w) (h1 : Lp w.heap.size w A1 n1 o) (h2 : Lp w.heap.size w A2 n2 nw) (d0 : (Lit.int .i64 day).wf = true) (q : Hid (useB n1 o r = true)) (q' : Hid (useB n2 nw r = false)) :
    Calls Tryd.prog 6 #[.slice A1 n1 c1, .slice A2 n2 c2, (.agg #[.int .i64 r.kind, .int .i64 r.every, .int .i64 r.wd, .int .i64 r.nth, .int .i64 r.frm, .int .i64 r.unt, .int .i64 r.sec, .bool r.shift, .bool r.both]), .int .i64 t, .int .i64 day] w (LawPost w) := by
  have HT : Hid (∀ W, Below w.heap.size w W → Tab W) := Lib.hid fun W hW => ht.below hW
  have H1 : Hid (∀ W, Below w.heap.size w W → Lp W.heap.size W A1 n1 o) := Lib.hid fun W hW => h1.go hW
  have H2 : Hid (∀ W, Below w.heap.size w W → Lp W.heap.size W A2 n2 nw) := Lib.hid fun W hW => h2.go hW
  have N1 := Lib.hid h1.1
  have N2 := Lib.hid h2.1
  have hb := Below.goN (Below.refl w.heap.size w) (.cells #[.int .i64 r.kind, .int .i64 r.every, .int .i64 r.wd, .int .i64 r.nth, .int .i64 r.frm, .int .i64 r.unt, .int .i64 r.sec, .bool r.shift, .bool r.both] 24)
  have kx := Lib.hid (heap_new w (.cells #[.int .i64 r.kind, .int .i64 r.every, .int .i64 r.wd, .int .i64 r.nth, .int .i64 r.frm, .int .i64 r.unt, .int .i64 r.sec, .bool r.shift, .bool r.both] 24))
  clear ht h1 h2
  go_enter Tryd.func6, Tryd.ntmps6
  go_wp2_with fail
  refine (head_any _ (HT.out _ hb)).mono ?_
  rintro e w1 ⟨rfl, hn⟩
  have hb := Below.go hb hn
  have kx := Lib.hid (keep' kx.out hn)
  clear hn
  obtain ⟨kx_0, kx_1, kx_2, kx_3, kx_4, kx_5, kx_6, kx_7, kx_8⟩ := blk9 kx.out
  go_wp2_with fail
  refine (usable_any A1 n1 c1 o r _ (H1.out _ hb)).mono ?_
  rintro e w2 ⟨rfl, hn⟩
  have hb := Below.go hb hn
  have kx := Lib.hid (keep' kx.out hn)
  clear hn
  rw [q.out]
  obtain ⟨kx_0, kx_1, kx_2, kx_3, kx_4, kx_5, kx_6, kx_7, kx_8⟩ := blk9 kx.out
  go_wp2_with fail
  refine (usable_any A2 n2 c2 nw r _ (H2.out _ hb)).mono ?_
  rintro e w3 ⟨rfl, hn⟩
  have hb := Below.go hb hn
  have kx := Lib.hid (keep' kx.out hn)
  clear hn
  rw [q'.out]
  go_wp2
  go_ret
  exact ⟨by simp, hb⟩
set_option maxHeartbeats 2000000 in
set_option maxRecDepth 100000 in
theorem nothing_neg (A1 A2 : Option Addr) (n1 c1 n2 c2 : Nat) (o nw : Lpm.LL) (r : Rec) (t day : Int) (w : World) (ht : Tab w) (h1 : Lp w.heap.size w A1 n1 o) (h2 : Lp w.heap.size w A2 n2 nw) (d0 : (Lit.int .i64 day).wf = true) (q : Hid (useB n1 o r = true)) (q' : Hid (useB n2 nw r = true)) (q1 : t < 0) :
    Calls Tryd.prog 6 #[.slice A1 n1 c1, .slice A2 n2 c2, (.agg #[.int .i64 r.kind, .int .i64 r.every, .int .i64 r.wd, .int .i64 r.nth, .int .i64 r.frm, .int .i64 r.unt, .int .i64 r.sec, .bool r.shift, .bool r.both]), .int .i64 t, .int .i64 day] w (LawPost w) := by
  have HT : Hid (∀ W, Below w.heap.size w W → Tab W) := Lib.hid fun W hW => ht.below hW
  have H1 : Hid (∀ W, Below w.heap.size w W → Lp W.heap.size W A1 n1 o) := Lib.hid fun W hW => h1.go hW
  have H2 : Hid (∀ W, Below w.heap.size w W → Lp W.heap.size W A2 n2 nw) := Lib.hid fun W hW => h2.go hW
  have N1 := Lib.hid h1.1
  have N2 := Lib.hid h2.1
  have hb := Below.goN (Below.refl w.heap.size w) (.cells #[.int .i64 r.kind, .int .i64 r.every, .int .i64 r.wd, .int .i64 r.nth, .int .i64 r.frm, .int .i64 r.unt, .int .i64 r.sec, .bool r.shift, .bool r.both] 24)
  have kx := Lib.hid (heap_new w (.cells #[.int .i64 r.kind, .int .i64 r.every, .int .i64 r.wd, .int .i64 r.nth, .int .i64 r.frm, .int .i64 r.unt, .int .i64 r.sec, .bool r.shift, .bool r.both] 24))
  clear ht h1 h2
  go_enter Tryd.func6, Tryd.ntmps6
  go_wp2_with fail
  refine (head_any _ (HT.out _ hb)).mono ?_
  rintro e w1 ⟨rfl, hn⟩
  have hb := Below.go hb hn
  have kx := Lib.hid (keep' kx.out hn)
  clear hn
  obtain ⟨kx_0, kx_1, kx_2, kx_3, kx_4, kx_5, kx_6, kx_7, kx_8⟩ := blk9 kx.out
  go_wp2_with fail
  refine (usable_any A1 n1 c1 o r _ (H1.out _ hb)).mono ?_
  rintro e w2 ⟨rfl, hn⟩
  have hb := Below.go hb hn
  have kx := Lib.hid (keep' kx.out hn)
  clear hn
  rw [q.out]
  obtain ⟨kx_0, kx_1, kx_2, kx_3, kx_4, kx_5, kx_6, kx_7, kx_8⟩ := blk9 kx.out
  go_wp2_with fail
  refine (usable_any A2 n2 c2 nw r _ (H2.out _ hb)).mono ?_
  rintro e w3 ⟨rfl, hn⟩
  have hb := Below.go hb hn
  have kx := Lib.hid (keep' kx.out hn)
  clear hn
  rw [q'.out]
  go_wp2
  go_ret
  exact ⟨by simp, hb⟩
set_option maxHeartbeats 2000000 in
set_option maxRecDepth 100000 in
theorem nothing_far (A1 A2 : Option Addr) (n1 c1 n2 c2 : Nat) (o nw : Lpm.LL) (r : Rec) (t day : Int) (w : World) (ht : Tab w) (h1 : Lp w.heap.size w A1 n1 o) (h2 : Lp w.heap.size w A2 n2 nw) (d0 : (Lit.int .i64 day).wf = true) (q : Hid (useB n1 o r = true)) (q' : Hid (useB n2 nw r = true)) (q1 : ¬ t < 0) (q2 : 3000000000000000 < t) :
    Calls Tryd.prog 6 #[.slice A1 n1 c1, .slice A2 n2 c2, (.agg #[.int .i64 r.kind, .int .i64 r.every, .int .i64 r.wd, .int .i64 r.nth, .int .i64 r.frm, .int .i64 r.unt, .int .i64 r.sec, .bool r.shift, .bool r.both]), .int .i64 t, .int .i64 day] w (LawPost w) := by
  have HT : Hid (∀ W, Below w.heap.size w W → Tab W) := Lib.hid fun W hW => ht.below hW
  have H1 : Hid (∀ W, Below w.heap.size w W → Lp W.heap.size W A1 n1 o) := Lib.hid fun W hW => h1.go hW
  have H2 : Hid (∀ W, Below w.heap.size w W → Lp W.heap.size W A2 n2 nw) := Lib.hid fun W hW => h2.go hW
  have N1 := Lib.hid h1.1
  have N2 := Lib.hid h2.1
  have hb := Below.goN (Below.refl w.heap.size w) (.cells #[.int .i64 r.kind, .int .i64 r.every, .int .i64 r.wd, .int .i64 r.nth, .int .i64 r.frm, .int .i64 r.unt, .int .i64 r.sec, .bool r.shift, .bool r.both] 24)
  have kx := Lib.hid (heap_new w (.cells #[.int .i64 r.kind, .int .i64 r.every, .int .i64 r.wd, .int .i64 r.nth, .int .i64 r.frm, .int .i64 r.unt, .int .i64 r.sec, .bool r.shift, .bool r.both] 24))
  clear ht h1 h2
  go_enter Tryd.func6, Tryd.ntmps6
  go_wp2_with fail
  refine (head_any _ (HT.out _ hb)).mono ?_
  rintro e w1 ⟨rfl, hn⟩
  have hb := Below.go hb hn
  have kx := Lib.hid (keep' kx.out hn)
  clear hn
  obtain ⟨kx_0, kx_1, kx_2, kx_3, kx_4, kx_5, kx_6, kx_7, kx_8⟩ := blk9 kx.out
  go_wp2_with fail
  refine (usable_any A1 n1 c1 o r _ (H1.out _ hb)).mono ?_
  rintro e w2 ⟨rfl, hn⟩
  have hb := Below.go hb hn
  have kx := Lib.hid (keep' kx.out hn)
  clear hn
  rw [q.out]
  obtain ⟨kx_0, kx_1, kx_2, kx_3, kx_4, kx_5, kx_6, kx_7, kx_8⟩ := blk9 kx.out
  go_wp2_with fail
  refine (usable_any A2 n2 c2 nw r _ (H2.out _ hb)).mono ?_
  rintro e w3 ⟨rfl, hn⟩
  have hb := Below.go hb hn
  have kx := Lib.hid (keep' kx.out hn)
  clear hn
  rw [q'.out]
  go_wp2
  go_ret
  exact ⟨by simp, hb⟩
set_option maxHeartbeats 2000000 in
set_option maxRecDepth 100000 in
theorem nothing_main (A1 A2 : Option Addr) (n1 c1 n2 c2 : Nat) (o nw : Lpm.LL) (r : Rec) (t day : Int) (w : World) (ht : Tab w) (h1 : Lp w.heap.size w A1 n1 o) (h2 : Lp w.heap.size w A2 n2 nw) (d0 : (Lit.int .i64 day).wf = true) (q : Hid (useB n1 o r = true)) (q' : Hid (useB n2 nw r = true)) (q1 : ¬ t < 0) (q2 : ¬ 3000000000000000 < t) (m1 : n1 ≤ 110) (m2 : n2 ≤ 110) (hr : Fit21 r) (e1 e2 : Int) (he1 : e1 = 0 ∨ e1 = 2) (he2 : e2 = 0 ∨ e2 = 2) (E1 : Hid (Rc.coE o o r t = e1)) (E2 : Hid (Rc.coE o nw r t = e2)) (HC : Hid (Lpm.flt o day = Lpm.flt nw day → (∀ x ∈ Rc.coF o nw r t, day ≤ x.1) ∧ (∀ x ∈ Rc.coN o nw r t, day ≤ x.1))) :
    Calls Tryd.prog 6 #[.slice A1 n1 c1, .slice A2 n2 c2, (.agg #[.int .i64 r.kind, .int .i64 r.every, .int .i64 r.wd, .int .i64 r.nth, .int .i64 r.frm, .int .i64 r.unt, .int .i64 r.sec, .bool r.shift, .bool r.both]), .int .i64 t, .int .i64 day] w (LawPost w) := by
  have HT : Hid (∀ W, Below w.heap.size w W → Tab W) := Lib.hid fun W hW => ht.below hW
  have H1 : Hid (∀ W, Below w.heap.size w W → Lp W.heap.size W A1 n1 o) := Lib.hid fun W hW => h1.go hW
  have H2 : Hid (∀ W, Below w.heap.size w W → Lp W.heap.size W A2 n2 nw) := Lib.hid fun W hW => h2.go hW
  have N1 := Lib.hid h1.1
  have N2 := Lib.hid h2.1
  have hb := Below.goN (Below.refl w.heap.size w) (.cells #[.int .i64 r.kind, .int .i64 r.every, .int .i64 r.wd, .int .i64 r.nth, .int .i64 r.frm, .int .i64 r.unt, .int .i64 r.sec, .bool r.shift, .bool r.both] 24)
  have kx := Lib.hid (heap_new w (.cells #[.int .i64 r.kind, .int .i64 r.every, .int .i64 r.wd, .int .i64 r.nth, .int .i64 r.frm, .int .i64 r.unt, .int .i64 r.sec, .bool r.shift, .bool r.both] 24))
  clear ht h1 h2
  go_enter Tryd.func6, Tryd.ntmps6
  go_wp2_with fail
  refine (head_any _ (HT.out _ hb)).mono ?_
  rintro e w1 ⟨rfl, hn⟩
  have hb := Below.go hb hn
  have kx := Lib.hid (keep' kx.out hn)
  clear hn
  obtain ⟨kx_0, kx_1, kx_2, kx_3, kx_4, kx_5, kx_6, kx_7, kx_8⟩ := blk9 kx.out
  go_wp2_with fail
  refine (usable_any A1 n1 c1 o r _ (H1.out _ hb)).mono ?_
  rintro e w2 ⟨rfl, hn⟩
  have hb := Below.go hb hn
  have kx := Lib.hid (keep' kx.out hn)
  clear hn
  rw [q.out]
  obtain ⟨kx_0, kx_1, kx_2, kx_3, kx_4, kx_5, kx_6, kx_7, kx_8⟩ := blk9 kx.out
  go_wp2_with fail
  refine (usable_any A2 n2 c2 nw r _ (H2.out _ hb)).mono ?_
  rintro e w3 ⟨rfl, hn⟩
  have hb := Below.go hb hn
  have kx := Lib.hid (keep' kx.out hn)
  clear hn
  rw [q'.out]
  obtain ⟨kx_0, kx_1, kx_2, kx_3, kx_4, kx_5, kx_6, kx_7, kx_8⟩ := blk9 kx.out
  go_wp2_with fail
  refine (Correct_any A1 A1 n1 c1 n1 c1 o o r t _ (HT.out _ hb) (H1.out _ hb) (H1.out _ hb) m1 m1 hr).mono ?_
  rintro e w4 ⟨B1, k1, z1, B2, k2, z2, rfl, -, -, hL1, hL2, hn⟩
  have hb := Below.go hb hn
  have kx := Lib.hid (keep' kx.out hn)
  clear hn
  obtain rfl : k1 = 0 := by have := hL1.1; rw [(Rc.co_self o r t).1] at this; exact this.symm
  obtain rfl : k2 = 0 := by have := hL2.1; rw [(Rc.co_self o r t).2] at this; exact this.symm
  clear hL1 hL2
  rw [E1.out]
  obtain ⟨j0, gi, gz0, gz1, gz2⟩ := info_parts infoL
  go_wp2
  go_loopw [15, 63] (fun v i wr => ∃ (k : Nat) (A5 : Option Addr) (z c5 : Nat), k ≤ n1 ∧ i = .int .i64 k ∧ v = .slice A5 z c5 ∧ z ≤ k ∧ Hid (((o.take k).filter (fun x => decide (x.1 < day))).length = z) ∧ Hid (wr.ownsRow w4.heap.size tL 2 (.slice A5 z c5) z (cellsL ((o.take k).filter (fun x => decide (x.1 < day))))) ∧ Below w4.heap.size w4 wr) (fun _ i _ => n1 - (intOf i).toNat)
  case atStart => exact ⟨0, none, 0, 0, Nat.zero_le _, rfl, rfl, Nat.le_refl _, Lib.hid (by simp), Lib.hid (by simpa [cellsL] using (own_nil (B := w4.heap.size) (W := w4) (t := tL) (sz := 2))), Below.refl _ _⟩
  case round =>
    obtain ⟨k, A5, z, c5, hk, rfl, rfl, hzk, hm, hown, hbr⟩ := hrel
    by_cases hlt : k < n1
    · obtain ⟨b, off, rfl, hB, hc⟩ := (H1.out _ (Below.go hb hbr)).2 (by omega)
      obtain ⟨x0, x1⟩ := hc k hlt
      clear hc
      obtain ⟨d, s, hx⟩ : ∃ d s, o[k]?.getD (0, 0) = (d, s) := ⟨_, _, rfl⟩
      rw [hx] at x0 x1
      have i0 : (0 : Int) ≤ (k : Int) := by omega
      have i1 : (k : Int) < (n1 : Int) := by omega
      by_cases hd : d < day
      · have HS : Hid (((o.take (k + 1)).filter (fun x => decide (x.1 < day))) = ((o.take k).filter (fun x => decide (x.1 < day))) ++ [(d, s)]) := Lib.hid (fil_yes N1.out hlt hx (decide_eq_true hd))
        have hbx := Below.goN (Below.goN hbr (.cells #[.int .i64 d, .int .i64 s] tL)) (.cells #[.int .i64 d, .int .i64 s] tL)
        clear hx
        go_wp2_with (at_builtin; refine wpList_append_own_at _ rfl _ _ 22 rfl w4.heap.size tL _ (.agg #[.int .i64 0, .int .i64 0]) 2 16 Tryd.underlying22 gi gz0 gz1 gz2 rfl (by decide) _ z _ rfl ((hown.out.alloc _).alloc _) ⟨wr.heap.size + 1, 0, none⟩ 1 1 [.int .i64 d, .int .i64 s] rfl rfl (by simpa [World.size_alloc] using World.news_of_block (heap_new (wr.alloc (.cells #[.int .i64 d, .int .i64 s] tL)) (.cells #[.int .i64 d, .int .i64 s] tL))) (by simp [Value.oneCell']) (by unfold maxLen; omega) (by omega) (by have := hbr.size; simp; omega) ?_; intro v' w9 hown' hgrow _ _)
        have hb9 := Below.grown hbx hgrow (by have := hbr.size; simp; omega) (fun g hg => (hown.out.lt g hg).1)
        have hm9 : Hid (((o.take (k + 1)).filter (fun x => decide (x.1 < day))).length = z + 1) := Lib.hid (by rw [HS.out, List.length_append, hm.out]; rfl)
        have ho9 : w9.ownsRow w4.heap.size tL 2 v' (z + 1) (cellsL ((o.take (k + 1)).filter (fun x => decide (x.1 < day)))) := by rw [HS.out, cellsL_app]; exact hown'
        obtain ⟨A9, c9, rfl, -, -, -⟩ := own_lp ho9 hm9.out
        have HO9 := Lib.hid ho9
        clear ho9 hown' hgrow hbx
        go_wp2
        go_roundw
        case rel => exact ⟨k + 1, A9, z + 1, c9, by omega, by go_num, rfl, by omega, hm9, HO9, hb9⟩
        case measure => simp [intOf]; omega
      · have HS : Hid (((o.take (k + 1)).filter (fun x => decide (x.1 < day))) = ((o.take k).filter (fun x => decide (x.1 < day)))) := Lib.hid (fil_no N1.out hlt hx (decide_eq_false hd))
        clear hx
        go_wp2
        go_roundw
        case rel => exact ⟨k + 1, A5, z, c5, by omega, by go_num, rfl, by omega, by rw [HS.out]; exact hm, by rw [HS.out]; exact Lib.hid (hown.out.alloc _), Below.goN hbr _⟩
        case measure => simp [intOf]; omega
    · obtain rfl : k = n1 := by omega
      have e : o.take k = o := List.take_of_length_le (by rw [N1.out]; omega)
      rw [e] at hm hown
      clear e
      obtain ⟨A5', c5', hAe, -, -, hL5⟩ := own_lp hown.out hm.out
      cases hAe
      have hb5 := Below.go hb hbr
      have kx := Lib.hid (keep' kx.out hbr)
      have LA := Lib.hid hL5
      have hz5 : z ≤ 110 := by omega
      clear hL5 hown hbr hb
      generalize wr = w5 at *
      have NA := Lib.hid hm.out
      clear hm hzk hk hlt
      go_wp2
      go_loopw [16, 78] (fun v i wr => ∃ (k : Nat) (A5 : Option Addr) (z c5 : Nat), k ≤ n2 ∧ i = .int .i64 k ∧ v = .slice A5 z c5 ∧ z ≤ k ∧ Hid (((nw.take k).filter (fun x => decide (x.1 < day))).length = z) ∧ Hid (wr.ownsRow w5.heap.size tL 2 (.slice A5 z c5) z (cellsL ((nw.take k).filter (fun x => decide (x.1 < day))))) ∧ Below w5.heap.size w5 wr) (fun _ i _ => n2 - (intOf i).toNat)
      case atStart => exact ⟨0, none, 0, 0, Nat.zero_le _, rfl, rfl, Nat.le_refl _, Lib.hid (by simp), Lib.hid (by simpa [cellsL] using (own_nil (B := w5.heap.size) (W := w5) (t := tL) (sz := 2))), Below.refl _ _⟩
      case round =>
        obtain ⟨k, A5, z, c5, hk, rfl, rfl, hzk, hm, hown, hbr⟩ := hrel
        by_cases hlt : k < n2
        · obtain ⟨b, off, rfl, hB, hc⟩ := (H2.out _ (Below.go hb5 hbr)).2 (by omega)
          obtain ⟨x0, x1⟩ := hc k hlt
          clear hc
          obtain ⟨d, s, hx⟩ : ∃ d s, nw[k]?.getD (0, 0) = (d, s) := ⟨_, _, rfl⟩
          rw [hx] at x0 x1
          have i0 : (0 : Int) ≤ (k : Int) := by omega
          have i1 : (k : Int) < (n2 : Int) := by omega
          by_cases hd : d < day
          · have HS : Hid (((nw.take (k + 1)).filter (fun x => decide (x.1 < day))) = ((nw.take k).filter (fun x => decide (x.1 < day))) ++ [(d, s)]) := Lib.hid (fil_yes N2.out hlt hx (decide_eq_true hd))
            have hbx := Below.goN (Below.goN hbr (.cells #[.int .i64 d, .int .i64 s] tL)) (.cells #[.int .i64 d, .int .i64 s] tL)
            clear hx
            go_wp2_with (at_builtin; refine wpList_append_own_at _ rfl _ _ 22 rfl w5.heap.size tL _ (.agg #[.int .i64 0, .int .i64 0]) 2 16 Tryd.underlying22 gi gz0 gz1 gz2 rfl (by decide) _ z _ rfl ((hown.out.alloc _).alloc _) ⟨wr.heap.size + 1, 0, none⟩ 1 1 [.int .i64 d, .int .i64 s] rfl rfl (by simpa [World.size_alloc] using World.news_of_block (heap_new (wr.alloc (.cells #[.int .i64 d, .int .i64 s] tL)) (.cells #[.int .i64 d, .int .i64 s] tL))) (by simp [Value.oneCell']) (by unfold maxLen; omega) (by omega) (by have := hbr.size; simp; omega) ?_; intro v' w9 hown' hgrow _ _)
            have hb9 := Below.grown hbx hgrow (by have := hbr.size; simp; omega) (fun g hg => (hown.out.lt g hg).1)
            have hm9 : Hid (((nw.take (k + 1)).filter (fun x => decide (x.1 < day))).length = z + 1) := Lib.hid (by rw [HS.out, List.length_append, hm.out]; rfl)
            have ho9 : w9.ownsRow w5.heap.size tL 2 v' (z + 1) (cellsL ((nw.take (k + 1)).filter (fun x => decide (x.1 < day)))) := by rw [HS.out, cellsL_app]; exact hown'
            obtain ⟨A9, c9, rfl, -, -, -⟩ := own_lp ho9 hm9.out
            have HO9 := Lib.hid ho9
            clear ho9 hown' hgrow hbx
            go_wp2
            go_roundw
            case rel => exact ⟨k + 1, A9, z + 1, c9, by omega, by go_num, rfl, by omega, hm9, HO9, hb9⟩
            case measure => simp [intOf]; omega
          · have HS : Hid (((nw.take (k + 1)).filter (fun x => decide (x.1 < day))) = ((nw.take k).filter (fun x => decide (x.1 < day)))) := Lib.hid (fil_no N2.out hlt hx (decide_eq_false hd))
            clear hx
            go_wp2
            go_roundw
            case rel => exact ⟨k + 1, A5, z, c5, by omega, by go_num, rfl, by omega, by rw [HS.out]; exact hm, by rw [HS.out]; exact Lib.hid (hown.out.alloc _), Below.goN hbr _⟩
            case measure => simp [intOf]; omega
        · obtain rfl : k = n2 := by omega
          have e : nw.take k = nw := List.take_of_length_le (by rw [N2.out]; omega)
          rw [e] at hm hown
          clear e
          obtain ⟨A5', c5', hAe, -, -, hL5⟩ := own_lp hown.out hm.out
          cases hAe
          have hb6 := Below.go hb5 hbr
          have kx := Lib.hid (keep' kx.out hbr)
          have LA := Lib.hid (Lp.go LA.out hbr)
          have LB := Lib.hid hL5
          have hz6 : z ≤ 110 := by omega
          clear hL5 hown hbr hb5
          generalize wr = w6 at *
          obtain ⟨p0, p1, p2, p3, p4, p5, p6, p7, p8⟩ := blk9 kx.out
          go_wp2_with fail
          refine (Correct_any A1 A2 _ c1 _ c2 o nw r t _ (HT.out _ hb6) (H1.out _ hb6) (H2.out _ hb6) m1 m2 hr).mono ?_
          rintro e w7 ⟨G1, k1, y1, G2, k2, y2, rfl, hG1, hG2, hL1, hL2, hn⟩
          rw [E2.out]
          have hb7 := Below.go hb6 hn
          have LA := Lib.hid (Lp.go LA.out hn)
          have LB := Lib.hid (Lp.go LB.out hn)
          have GL1 := Lib.hid hL1
          have GL2 := Lib.hid hL2
          have HG1 := Lib.hid hG1
          have HG2 := Lib.hid hG2
          have hk1 : k1 ≤ 1000 := by have := coF_len o nw r t; rw [hL1.1] at this; exact this
          have hk2 : k2 ≤ 1000 := by have := coN_len o nw r t; rw [hL2.1] at this; exact this
          clear hL1 hL2 hG1 hG2 hn hb6 kx p0 p1 p2 p3 p4 p5 p6 p7 p8
          rcases he1 with rfl | rfl
          rotate_left
          · go_wp2
            go_ret
            exact ⟨by simp, hb7⟩
          rcases he2 with rfl | rfl
          rotate_left
          · go_wp2
            go_ret
            exact ⟨by simp, hb7⟩
          go_wp2_with fail
          refine (same17_any _ _ _ _ _ _ _ _ _ LA.out LB.out (by omega) (by omega)).mono ?_
          rintro e w8 ⟨rfl, hn⟩
          have hb8 := Below.go hb7 hn
          have GL1 := Lib.hid (Lp.go GL1.out hn)
          have GL2 := Lib.hid (Lp.go GL2.out hn)
          clear hn hb7 LA LB
          cases hS : decide (o.filter (fun x => decide (x.1 < day)) = nw.filter (fun x => decide (x.1 < day)))
          · clear hS
            go_wp2
            go_ret
            exact ⟨by simp, hb8⟩
          · have HD := Lib.hid (HC.out (of_decide_eq_true hS))
            clear hS
            obtain ⟨f0, fi, fz0, fz1, fz2⟩ := info_parts infoF
            have hb9 := Below.goN hb8 (.cells #[] tF)
            have q1 := Lib.hid (Lp.go GL1.out (Below.goN (Below.refl w8.heap.size w8) (.cells #[] tF)))
            have HM : Hid ((Rc.coF o nw r t ++ Rc.coN o nw r t).length = k1 + k2) := Lib.hid (by rw [List.length_append, GL1.out.1, GL2.out.1])
            have HA : Hid (∀ j, j < k1 + k2 → day ≤ ((Rc.coF o nw r t ++ Rc.coN o nw r t)[j]?.getD (0, 0)).1) := Lib.hid fun j hj => by
              have hj' : j < (Rc.coF o nw r t ++ Rc.coN o nw r t).length := by rw [HM.out]; exact hj
              rw [List.getElem?_eq_getElem hj']
              rcases List.mem_append.1 (List.getElem_mem hj') with h | h
              · exact HD.out.1 _ h
              · exact HD.out.2 _ h
            have hs8 : w8.heap.size ≤ (w8.alloc (.cells #[] tF)).heap.size := by simp
            go_wp2_with (first | (at_builtin; refine wpList_app_any rfl _ _ 33 rfl w8.heap.size tF _ (.agg #[.int .i64 0, .int .i64 0]) 2 16 Tryd.underlying33 fi fz0 fz1 fz2 rfl (by decide) (.slice (some ⟨w8.heap.size, 0, none⟩) 0 0) 0 [] rfl (own0_made w8 tF 2) G1 k1 y1 (cellsL (Rc.coF o nw r t)) rfl (by rw [cellsL_len, GL1.out.1]) HG1.out (lp_news q1.out) (cellsL_one _) (by unfold maxLen; omega) (by omega) hs8 ?_; intro vA wA ownA growA; have hbA := Below.grown (Below.goN (Below.refl w8.heap.size w8) (.cells #[] tF)) growA (by simp) (fun g hg => ((own0_made w8 tF 2).lt g hg).1); have GB := Lib.hid (Lp.go GL2.out hbA); have HOA := Lib.hid ownA; clear ownA growA) | (at_builtin; refine wpList_app_any rfl _ _ 33 rfl w8.heap.size tF _ (.agg #[.int .i64 0, .int .i64 0]) 2 16 Tryd.underlying33 fi fz0 fz1 fz2 rfl (by decide) vA (0 + k1) _ rfl HOA.out G2 k2 y2 (cellsL (Rc.coN o nw r t)) rfl (by rw [cellsL_len, GB.out.1]) HG2.out (lp_news GB.out) (cellsL_one _) (by unfold maxLen; omega) (by omega) hbA.size ?_; intro vB wB ownB growB; have hbB := Below.grown hbA growB (by have := hbA.size; omega) (fun g hg => (HOA.out.lt g hg).1); have ownB' : wB.ownsRow w8.heap.size tF 2 vB (k1 + k2) (cellsL (Rc.coF o nw r t ++ Rc.coN o nw r t)) := (by rw [cellsL_app]; simpa using ownB); obtain ⟨AB, cB, rfl, -, -, hLB⟩ := own_lp ownB' HM.out; have LB := Lib.hid hLB; clear hLB ownB ownB' growB))
            have hbB := Below.go hb8 hbB
            try simp only [len_ints, Result.andThen_ok]
            go_wp2
            go_loopw [11, 119] (fun u i wr => ∃ k : Nat, k ≤ k1 + k2 ∧ i = .int .i64 k ∧ u = .bool true ∧ Below wB.heap.size wB wr) (fun _ i _ => (k1 + k2) - (intOf i).toNat)
            case atStart => exact ⟨0, Nat.zero_le _, rfl, rfl, Below.refl _ _⟩
            case round =>
              obtain ⟨k, hk, rfl, rfl, hbr⟩ := hrel
              by_cases hlt : k < k1 + k2
              · obtain ⟨b, off, rfl, hB, hc⟩ := LB.out.2 (by omega)
                have x0 := (hbr.cell (p := ⟨b, off + k * 2, none⟩) hB).trans (hc k hlt).1
                have x1 := (hbr.cell (p := ⟨b, off + k * 2 + 1, none⟩) hB).trans (hc k hlt).2
                clear hc
                have hD := HA.out k hlt
                generalize (Rc.coF o nw r t ++ Rc.coN o nw r t)[k]?.getD (0, 0) = e at *
                obtain ⟨d, s⟩ := e
                have i0 : (0 : Int) ≤ (k : Int) := by omega
                have i1 : (k : Int) < (k1 : Int) + (k2 : Int) := by omega
                have i2 : (k : Int) < ((k1 + k2 : Nat) : Int) := by omega
                have hD' : day ≤ d := hD
                clear hD
                go_wp2
                go_roundw
                case rel => exact ⟨k + 1, by omega, by go_num, by simp [hD'], Below.goN hbr _⟩
                case measure => simp [intOf]; omega
              · obtain rfl : k = k1 + k2 := by omega
                go_wp2
                go_ret
                exact ⟨rfl, Below.go hbB hbr⟩
theorem co_lim {o n : Lpm.LL} {r : Rec} {t : Int} (v1 : Lpm.valid o = true) (v2 : Lpm.valid n = true) (hB : Rc.validB r = true) (h0 : 0 ≤ t) (h1 : t ≤ 3000000000000000) : Rc.coE o n r t = 0 ∨ Rc.coE o n r t = 2 := by
  rw [coE_in h0 h1]
  split
  · exact Rc.fi_lim v2 hB
  · exact Rc.fi_lim v1 hB
theorem nothing_law (v1 : Value) (o : Lpm.LL) (v2 : Value) (nw : Lpm.LL) (v3 : Value) (r : Rec) (t day : Int) (w : World) (i1 : IsTab w v1 o) (i2 : IsTab w v2 nw) (i3 : IsRc v3 r) (i4 : (Lit.int .i64 t).wf = true) (i5 : (Lit.int .i64 day).wf = true) (ht : Tab w) :
    Calls Tryd.prog 6 #[v1, v2, v3, .int .i64 t, .int .i64 day] w (LawPost w) := by
  obtain ⟨A1, n1, c1, rfl, -, -, -, h1⟩ := i1
  obtain ⟨A2, n2, c2, rfl, -, -, -, h2⟩ := i2
  obtain ⟨rfl, hk⟩ := i3
  cases hu : useB n1 o r
  · exact nothing_un1 A1 A2 n1 c1 n2 c2 o nw r t day w ht h1 h2 i5 (Lib.hid hu)
  · cases hu' : useB n2 nw r
    · exact nothing_un2 A1 A2 n1 c1 n2 c2 o nw r t day w ht h1 h2 i5 (Lib.hid hu) (Lib.hid hu')
    · by_cases q1 : t < 0
      · exact nothing_neg A1 A2 n1 c1 n2 c2 o nw r t day w ht h1 h2 i5 (Lib.hid hu) (Lib.hid hu') q1
      · by_cases q2 : 3000000000000000 < t
        · exact nothing_far A1 A2 n1 c1 n2 c2 o nw r t day w ht h1 h2 i5 (Lib.hid hu) (Lib.hid hu') q1 q2
        · obtain ⟨m1, v1, hB, hf⟩ := use_ok hu
          obtain ⟨m2, v2, -, -⟩ := use_ok hu'
          refine nothing_main A1 A2 n1 c1 n2 c2 o nw r t day w ht h1 h2 i5 (Lib.hid hu) (Lib.hid hu') q1 q2 m1 m2 (use_fit hu hk) _ _ (co_lim v1 v1 hB (by omega) (by omega)) (co_lim v1 v2 hB (by omega) (by omega)) (Lib.hid rfl) (Lib.hid rfl) (Lib.hid fun h => ?_)
          by_cases hE : Rc.coE o nw r t = 0
          · exact Rc.co_day (by omega) (by omega) hE h
          · have e1 : Rc.coF o nw r t = [] := by unfold Rc.coF; rw [if_neg hE]
            have e2 : Rc.coN o nw r t = [] := by unfold Rc.coN; rw [if_neg hE]
            rw [e1, e2]; exact ⟨fun x hx => (List.not_mem_nil hx).elim, fun x hx => (List.not_mem_nil hx).elim⟩
end Go.Proofs.YtmicbniipbcapaaDoor
