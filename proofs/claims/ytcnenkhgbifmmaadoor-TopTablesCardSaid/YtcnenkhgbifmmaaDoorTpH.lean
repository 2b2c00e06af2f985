/- The law TopTables: where the editions are of no use, do not follow each other, or the time is not before the edition's begin. -/
import Derived.Test.YtcnenkhgbifmmaaDoorTpS
set_option linter.unusedVariables false
namespace Go.Proofs.YtcnenkhgbifmmaaDoor
open Go.RowKit
/-- append, at a walk, of a list that may be nil -/
theorem wpList_app_any {P : Program} {w : World} {ops : Array Oper} {rest : List Oper} {o : Oper} {a : Act} {Q : Exit → Act → World → Prop} (hgd : o.guard = none) (s x : Operand) (t : TypeId)
    (ho : o.op = .call { callee := .builtin .append, args := #[s, x], argTypes := #[t, t] })
    (base : Nat) (e : TypeId) (i : TypeInfo) (z : Value) (size bytes : Nat) (ht : P.underlying t = some (.slice e)) (hi : P.info? e = some i) (hz : i.zero = some z)
    (hsize : i.size = size) (hby : i.bytes = bytes) (hzs : z.cells.size = size) (hsz : 0 < size)
    (v : Value) (n : Nat) (xs : List Value) (hs : a.eval s = v) (hown : w.ownsRow base e size v n xs)
    (A : Option Addr) (m c : Nat) (news : List Value) (hx : a.eval x = .slice A m c) (hl : news.length = m * size) (hA : A = none → m = 0 ∧ c = 0) (hnews : ∀ ad, A = some ad → ∀ j u, news[j]? = some u → w.cell? (ad.add j) = some u) (h1 : ∀ u ∈ news, u.oneCell' = true)
    (h63 : n + m ≤ maxLen) (hbytes : (n + m) * bytes ≤ 140737488355328) (hbase : base ≤ w.heap.size)
    (h : ∀ v' w', w'.ownsRow base e size v' (n + m) (xs ++ news) → w.grownBy w' v.ownBlock → wpList P ops Q rest (a.put o.dst v') w') :
    wpList P ops Q (o :: rest) a w := by
  refine wpList_plain hgd fun K hK => ?_
  obtain ⟨v', w', hr, h2, h3⟩ := app_run (P := P) (w := w) base t o.type e i z size bytes ht hi hz hsize hby hzs hsz v n xs hown A m c news hl hA hnews h1 h63 hbytes hbase
  unfold Oper.wp execOp
  simp only [ho, resolve, invoke, builtin, Sem.run_bind, Sem.run_pure, Result.andThen_ok, List.map_toArray, List.map_cons, List.map_nil, hs, hx, hr]
  exact hK _ _ (h v' w' h2 h3)
theorem own0_made (w : World) (t : TypeId) (sz : Nat) : (w.alloc (.cells #[] t)).ownsRow w.heap.size t sz (.slice (some ⟨w.heap.size, 0, none⟩) 0 0) 0 [] :=
  ⟨by simp, .inr ⟨w.heap.size, 0, #[], rfl, Nat.le_refl _, heap_alloc_new w _, Nat.le_refl _, by unfold maxLen; omega, by simp, by simp⟩⟩
set_option maxHeartbeats 2000000 in
set_option maxRecDepth 100000 in
theorem tables_ea (A1 A2 : Option Addr) (n1 c1 n2 c2 : Nat) (la lb : Lpm.LL) (a b : Ed) (r : Rec) (t : Int) (w : World) (ht : Tab w) (h1 : Lp w.heap.size w A1 n1 la) (h2 : Lp w.heap.size w A2 n2 lb) (ga : Hid ((decide (n1 ≤ 20) && formedB a la) = false)) :
    Calls Tryd.prog 4 #[(.agg #[.int .i64 a.ver, .int .i64 a.frm, .int .i64 a.unt, .slice A1 n1 c1, .int .i64 a.sc, .int .i64 a.ss]), (.agg #[.int .i64 b.ver, .int .i64 b.frm, .int .i64 b.unt, .slice A2 n2 c2, .int .i64 b.sc, .int .i64 b.ss]), (.agg #[.int .i64 r.kind, .int .i64 r.every, .int .i64 r.wd, .int .i64 r.nth, .int .i64 r.frm, .int .i64 r.unt, .int .i64 r.sec, .bool r.shift, .bool r.both]), .int .i64 t] w (LawPost w) := by
  have HT : Hid (∀ W, Below w.heap.size w W → Tab W) := Lib.hid fun W hW => ht.below hW
  have H1 : Hid (∀ W, Below w.heap.size w W → Lp W.heap.size W A1 n1 la) := Lib.hid fun W hW => h1.go hW
  have H2 : Hid (∀ W, Below w.heap.size w W → Lp W.heap.size W A2 n2 lb) := Lib.hid fun W hW => h2.go hW
  have hb := Below.goN (Below.goN (Below.goN (Below.refl w.heap.size w) (.cells #[.int .i64 a.ver, .int .i64 a.frm, .int .i64 a.unt, .slice A1 n1 c1, .int .i64 a.sc, .int .i64 a.ss] 43)) (.cells #[.int .i64 b.ver, .int .i64 b.frm, .int .i64 b.unt, .slice A2 n2 c2, .int .i64 b.sc, .int .i64 b.ss] 43)) (.cells #[.int .i64 r.kind, .int .i64 r.every, .int .i64 r.wd, .int .i64 r.nth, .int .i64 r.frm, .int .i64 r.unt, .int .i64 r.sec, .bool r.shift, .bool r.both] 24)
  have ka := Lib.hid (new30 w (.cells #[.int .i64 a.ver, .int .i64 a.frm, .int .i64 a.unt, .slice A1 n1 c1, .int .i64 a.sc, .int .i64 a.ss] 43) (.cells #[.int .i64 b.ver, .int .i64 b.frm, .int .i64 b.unt, .slice A2 n2 c2, .int .i64 b.sc, .int .i64 b.ss] 43) (.cells #[.int .i64 r.kind, .int .i64 r.every, .int .i64 r.wd, .int .i64 r.nth, .int .i64 r.frm, .int .i64 r.unt, .int .i64 r.sec, .bool r.shift, .bool r.both] 24))
  have kb := Lib.hid (new31 w (.cells #[.int .i64 a.ver, .int .i64 a.frm, .int .i64 a.unt, .slice A1 n1 c1, .int .i64 a.sc, .int .i64 a.ss] 43) (.cells #[.int .i64 b.ver, .int .i64 b.frm, .int .i64 b.unt, .slice A2 n2 c2, .int .i64 b.sc, .int .i64 b.ss] 43) (.cells #[.int .i64 r.kind, .int .i64 r.every, .int .i64 r.wd, .int .i64 r.nth, .int .i64 r.frm, .int .i64 r.unt, .int .i64 r.sec, .bool r.shift, .bool r.both] 24))
  have kx := Lib.hid (new32 w (.cells #[.int .i64 a.ver, .int .i64 a.frm, .int .i64 a.unt, .slice A1 n1 c1, .int .i64 a.sc, .int .i64 a.ss] 43) (.cells #[.int .i64 b.ver, .int .i64 b.frm, .int .i64 b.unt, .slice A2 n2 c2, .int .i64 b.sc, .int .i64 b.ss] 43) (.cells #[.int .i64 r.kind, .int .i64 r.every, .int .i64 r.wd, .int .i64 r.nth, .int .i64 r.frm, .int .i64 r.unt, .int .i64 r.sec, .bool r.shift, .bool r.both] 24))
  clear ht h1 h2
  go_enter Tryd.func4, Tryd.ntmps4
  go_wp2_with fail
  refine (head14 _ (HT.out _ hb)).mono ?_
  rintro e w1 ⟨rfl, hn⟩
  have hb := Below.go hb hn
  have ka := Lib.hid (keep' ka.out hn)
  have kb := Lib.hid (keep' kb.out hn)
  have kx := Lib.hid (keep' kx.out hn)
  clear hn
  obtain ⟨ka_0, ka_1, ka_2, ka_3, ka_4, ka_5⟩ := blk6 ka.out
  go_wp2_with fail
  refine (r14Ed_any A1 n1 c1 la a _ (H1.out _ hb)).mono ?_
  rintro e w2 ⟨rfl, hn⟩
  have hb := Below.go hb hn
  have ka := Lib.hid (keep' ka.out hn)
  have kb := Lib.hid (keep' kb.out hn)
  have kx := Lib.hid (keep' kx.out hn)
  clear hn
  rw [ga.out]
  clear ka_0 ka_1 ka_2 ka_3 ka_4 ka_5
  go_wp2
  go_ret
  exact ⟨by simp, hb⟩
set_option maxHeartbeats 2000000 in
set_option maxRecDepth 100000 in
theorem tables_eb (A1 A2 : Option Addr) (n1 c1 n2 c2 : Nat) (la lb : Lpm.LL) (a b : Ed) (r : Rec) (t : Int) (w : World) (ht : Tab w) (h1 : Lp w.heap.size w A1 n1 la) (h2 : Lp w.heap.size w A2 n2 lb) (ga : Hid ((decide (n1 ≤ 20) && formedB a la) = true)) (gb : Hid ((decide (n2 ≤ 20) && formedB b lb) = false)) :
    Calls Tryd.prog 4 #[(.agg #[.int .i64 a.ver, .int .i64 a.frm, .int .i64 a.unt, .slice A1 n1 c1, .int .i64 a.sc, .int .i64 a.ss]), (.agg #[.int .i64 b.ver, .int .i64 b.frm, .int .i64 b.unt, .slice A2 n2 c2, .int .i64 b.sc, .int .i64 b.ss]), (.agg #[.int .i64 r.kind, .int .i64 r.every, .int .i64 r.wd, .int .i64 r.nth, .int .i64 r.frm, .int .i64 r.unt, .int .i64 r.sec, .bool r.shift, .bool r.both]), .int .i64 t] w (LawPost w) := by
  have HT : Hid (∀ W, Below w.heap.size w W → Tab W) := Lib.hid fun W hW => ht.below hW
  have H1 : Hid (∀ W, Below w.heap.size w W → Lp W.heap.size W A1 n1 la) := Lib.hid fun W hW => h1.go hW
  have H2 : Hid (∀ W, Below w.heap.size w W → Lp W.heap.size W A2 n2 lb) := Lib.hid fun W hW => h2.go hW
  have hb := Below.goN (Below.goN (Below.goN (Below.refl w.heap.size w) (.cells #[.int .i64 a.ver, .int .i64 a.frm, .int .i64 a.unt, .slice A1 n1 c1, .int .i64 a.sc, .int .i64 a.ss] 43)) (.cells #[.int .i64 b.ver, .int .i64 b.frm, .int .i64 b.unt, .slice A2 n2 c2, .int .i64 b.sc, .int .i64 b.ss] 43)) (.cells #[.int .i64 r.kind, .int .i64 r.every, .int .i64 r.wd, .int .i64 r.nth, .int .i64 r.frm, .int .i64 r.unt, .int .i64 r.sec, .bool r.shift, .bool r.both] 24)
  have ka := Lib.hid (new30 w (.cells #[.int .i64 a.ver, .int .i64 a.frm, .int .i64 a.unt, .slice A1 n1 c1, .int .i64 a.sc, .int .i64 a.ss] 43) (.cells #[.int .i64 b.ver, .int .i64 b.frm, .int .i64 b.unt, .slice A2 n2 c2, .int .i64 b.sc, .int .i64 b.ss] 43) (.cells #[.int .i64 r.kind, .int .i64 r.every, .int .i64 r.wd, .int .i64 r.nth, .int .i64 r.frm, .int .i64 r.unt, .int .i64 r.sec, .bool r.shift, .bool r.both] 24))
  have kb := Lib.hid (new31 w (.cells #[.int .i64 a.ver, .int .i64 a.frm, .int .i64 a.unt, .slice A1 n1 c1, .int .i64 a.sc, .int .i64 a.ss] 43) (.cells #[.int .i64 b.ver, .int .i64 b.frm, .int .i64 b.unt, .slice A2 n2 c2, .int .i64 b.sc, .int .i64 b.ss] 43) (.cells #[.int .i64 r.kind, .int .i64 r.every, .int .i64 r.wd, .int .i64 r.nth, .int .i64 r.frm, .int .i64 r.unt, .int .i64 r.sec, .bool r.shift, .bool r.both] 24))
  have kx := Lib.hid (new32 w (.cells #[.int .i64 a.ver, .int .i64 a.frm, .int .i64 a.unt, .slice A1 n1 c1, .int .i64 a.sc, .int .i64 a.ss] 43) (.cells #[.int .i64 b.ver, .int .i64 b.frm, .int .i64 b.unt, .slice A2 n2 c2, .int .i64 b.sc, .int .i64 b.ss] 43) (.cells #[.int .i64 r.kind, .int .i64 r.every, .int .i64 r.wd, .int .i64 r.nth, .int .i64 r.frm, .int .i64 r.unt, .int .i64 r.sec, .bool r.shift, .bool r.both] 24))
  clear ht h1 h2
  go_enter Tryd.func4, Tryd.ntmps4
  go_wp2_with fail
  refine (head14 _ (HT.out _ hb)).mono ?_
  rintro e w1 ⟨rfl, hn⟩
  have hb := Below.go hb hn
  have ka := Lib.hid (keep' ka.out hn)
  have kb := Lib.hid (keep' kb.out hn)
  have kx := Lib.hid (keep' kx.out hn)
  clear hn
  obtain ⟨ka_0, ka_1, ka_2, ka_3, ka_4, ka_5⟩ := blk6 ka.out
  go_wp2_with fail
  refine (r14Ed_any A1 n1 c1 la a _ (H1.out _ hb)).mono ?_
  rintro e w2 ⟨rfl, hn⟩
  have hb := Below.go hb hn
  have ka := Lib.hid (keep' ka.out hn)
  have kb := Lib.hid (keep' kb.out hn)
  have kx := Lib.hid (keep' kx.out hn)
  clear hn
  rw [ga.out]
  clear ka_0 ka_1 ka_2 ka_3 ka_4 ka_5
  obtain ⟨kb_0, kb_1, kb_2, kb_3, kb_4, kb_5⟩ := blk6 kb.out
  go_wp2_with fail
  refine (r14Ed_any A2 n2 c2 lb b _ (H2.out _ hb)).mono ?_
  rintro e w3 ⟨rfl, hn⟩
  have hb := Below.go hb hn
  have ka := Lib.hid (keep' ka.out hn)
  have kb := Lib.hid (keep' kb.out hn)
  have kx := Lib.hid (keep' kx.out hn)
  clear hn
  rw [gb.out]
  clear kb_0 kb_1 kb_2 kb_3 kb_4 kb_5
  go_wp2
  go_ret
  exact ⟨by simp, hb⟩
set_option maxHeartbeats 2000000 in
set_option maxRecDepth 100000 in
theorem tables_nf (A1 A2 : Option Addr) (n1 c1 n2 c2 : Nat) (la lb : Lpm.LL) (a b : Ed) (r : Rec) (t : Int) (w : World) (ht : Tab w) (h1 : Lp w.heap.size w A1 n1 la) (h2 : Lp w.heap.size w A2 n2 lb) (ga : Hid ((decide (n1 ≤ 20) && formedB a la) = true)) (gb : Hid ((decide (n2 ≤ 20) && formedB b lb) = true)) (m1 : n1 ≤ 110) (m2 : n2 ≤ 110) (fe : Hid (foE a b la lb = 0)) (fv : Hid (foV a b la lb = false)) :
    Calls Tryd.prog 4 #[(.agg #[.int .i64 a.ver, .int .i64 a.frm, .int .i64 a.unt, .slice A1 n1 c1, .int .i64 a.sc, .int .i64 a.ss]), (.agg #[.int .i64 b.ver, .int .i64 b.frm, .int .i64 b.unt, .slice A2 n2 c2, .int .i64 b.sc, .int .i64 b.ss]), (.agg #[.int .i64 r.kind, .int .i64 r.every, .int .i64 r.wd, .int .i64 r.nth, .int .i64 r.frm, .int .i64 r.unt, .int .i64 r.sec, .bool r.shift, .bool r.both]), .int .i64 t] w (LawPost w) := by
  have HT : Hid (∀ W, Below w.heap.size w W → Tab W) := Lib.hid fun W hW => ht.below hW
  have H1 : Hid (∀ W, Below w.heap.size w W → Lp W.heap.size W A1 n1 la) := Lib.hid fun W hW => h1.go hW
  have H2 : Hid (∀ W, Below w.heap.size w W → Lp W.heap.size W A2 n2 lb) := Lib.hid fun W hW => h2.go hW
  have hb := Below.goN (Below.goN (Below.goN (Below.refl w.heap.size w) (.cells #[.int .i64 a.ver, .int .i64 a.frm, .int .i64 a.unt, .slice A1 n1 c1, .int .i64 a.sc, .int .i64 a.ss] 43)) (.cells #[.int .i64 b.ver, .int .i64 b.frm, .int .i64 b.unt, .slice A2 n2 c2, .int .i64 b.sc, .int .i64 b.ss] 43)) (.cells #[.int .i64 r.kind, .int .i64 r.every, .int .i64 r.wd, .int .i64 r.nth, .int .i64 r.frm, .int .i64 r.unt, .int .i64 r.sec, .bool r.shift, .bool r.both] 24)
  have ka := Lib.hid (new30 w (.cells #[.int .i64 a.ver, .int .i64 a.frm, .int .i64 a.unt, .slice A1 n1 c1, .int .i64 a.sc, .int .i64 a.ss] 43) (.cells #[.int .i64 b.ver, .int .i64 b.frm, .int .i64 b.unt, .slice A2 n2 c2, .int .i64 b.sc, .int .i64 b.ss] 43) (.cells #[.int .i64 r.kind, .int .i64 r.every, .int .i64 r.wd, .int .i64 r.nth, .int .i64 r.frm, .int .i64 r.unt, .int .i64 r.sec, .bool r.shift, .bool r.both] 24))
  have kb := Lib.hid (new31 w (.cells #[.int .i64 a.ver, .int .i64 a.frm, .int .i64 a.unt, .slice A1 n1 c1, .int .i64 a.sc, .int .i64 a.ss] 43) (.cells #[.int .i64 b.ver, .int .i64 b.frm, .int .i64 b.unt, .slice A2 n2 c2, .int .i64 b.sc, .int .i64 b.ss] 43) (.cells #[.int .i64 r.kind, .int .i64 r.every, .int .i64 r.wd, .int .i64 r.nth, .int .i64 r.frm, .int .i64 r.unt, .int .i64 r.sec, .bool r.shift, .bool r.both] 24))
  have kx := Lib.hid (new32 w (.cells #[.int .i64 a.ver, .int .i64 a.frm, .int .i64 a.unt, .slice A1 n1 c1, .int .i64 a.sc, .int .i64 a.ss] 43) (.cells #[.int .i64 b.ver, .int .i64 b.frm, .int .i64 b.unt, .slice A2 n2 c2, .int .i64 b.sc, .int .i64 b.ss] 43) (.cells #[.int .i64 r.kind, .int .i64 r.every, .int .i64 r.wd, .int .i64 r.nth, .int .i64 r.frm, .int .i64 r.unt, .int .i64 r.sec, .bool r.shift, .bool r.both] 24))
  clear ht h1 h2
  go_enter Tryd.func4, Tryd.ntmps4
  go_wp2_with fail
  refine (head14 _ (HT.out _ hb)).mono ?_
  rintro e w1 ⟨rfl, hn⟩
  have hb := Below.go hb hn
  have ka := Lib.hid (keep' ka.out hn)
  have kb := Lib.hid (keep' kb.out hn)
  have kx := Lib.hid (keep' kx.out hn)
  clear hn
  obtain ⟨ka_0, ka_1, ka_2, ka_3, ka_4, ka_5⟩ := blk6 ka.out
  go_wp2_with fail
  refine (r14Ed_any A1 n1 c1 la a _ (H1.out _ hb)).mono ?_
  rintro e w2 ⟨rfl, hn⟩
  have hb := Below.go hb hn
  have ka := Lib.hid (keep' ka.out hn)
  have kb := Lib.hid (keep' kb.out hn)
  have kx := Lib.hid (keep' kx.out hn)
  clear hn
  rw [ga.out]
  clear ka_0 ka_1 ka_2 ka_3 ka_4 ka_5
  obtain ⟨kb_0, kb_1, kb_2, kb_3, kb_4, kb_5⟩ := blk6 kb.out
  go_wp2_with fail
  refine (r14Ed_any A2 n2 c2 lb b _ (H2.out _ hb)).mono ?_
  rintro e w3 ⟨rfl, hn⟩
  have hb := Below.go hb hn
  have ka := Lib.hid (keep' ka.out hn)
  have kb := Lib.hid (keep' kb.out hn)
  have kx := Lib.hid (keep' kx.out hn)
  clear hn
  rw [gb.out]
  clear kb_0 kb_1 kb_2 kb_3 kb_4 kb_5
  obtain ⟨ka_0, ka_1, ka_2, ka_3, ka_4, ka_5⟩ := blk6 ka.out
  obtain ⟨kb_0, kb_1, kb_2, kb_3, kb_4, kb_5⟩ := blk6 kb.out
  go_wp2_with fail
  refine (Follows_any A1 A2 n1 c1 n2 c2 la lb a b _ (H1.out _ hb) (H2.out _ hb) m1 m2).mono ?_
  rintro e w4 ⟨rfl, hn⟩
  have hb := Below.go hb hn
  have ka := Lib.hid (keep' ka.out hn)
  have kb := Lib.hid (keep' kb.out hn)
  have kx := Lib.hid (keep' kx.out hn)
  clear hn
  rw [fv.out, fe.out]
  clear ka_0 ka_1 ka_2 ka_3 ka_4 ka_5 kb_0 kb_1 kb_2 kb_3 kb_4 kb_5
  go_wp2
  go_ret
  exact ⟨by simp, hb⟩
theorem coF_len (o nw : Lpm.LL) (r : Rec) (t : Int) : (Rc.coF o nw r t).length ≤ 1000 := by
  unfold Rc.coF
  split
  · exact Nat.le_trans (Rc.less_len _ _ _) (Rc.fiV_len _ _)
  · exact Nat.zero_le _
theorem coN_len (o nw : Lpm.LL) (r : Rec) (t : Int) : (Rc.coN o nw r t).length ≤ 1000 := by
  unfold Rc.coN
  split
  · exact Nat.le_trans (Rc.less_len _ _ _) (Rc.fiV_len _ _)
  · exact Nat.zero_le _
theorem co_none {o nw : Lpm.LL} {r : Rec} {t : Int} (h : Rc.coE o nw r t ≠ 0) : Rc.coF o nw r t = [] ∧ Rc.coN o nw r t = [] := by
  unfold Rc.coF Rc.coN
  rw [if_neg h, if_neg h]
  exact ⟨rfl, rfl⟩
theorem at_zero {l : Lpm.LL} (h : Lpm.valid l = true) : AtDay l 0 0 := by
  have e := Lpm.start_zero h
  have := Lpm.start_lt h (a := 0) (b := 1) (by decide)
  exact ⟨h, by decide, by decide, by omega, by show 0 < Lpm.start l (0 + 1); rw [Int.zero_add]; omega⟩
set_option maxHeartbeats 2000000 in
set_option maxRecDepth 100000 in
theorem tables_A_vr (A1 A2 : Option Addr) (n1 c1 n2 c2 : Nat) (la lb : Lpm.LL) (a b : Ed) (r : Rec) (t : Int) (w : World) (ht : Tab w) (h1 : Lp w.heap.size w A1 n1 la) (h2 : Lp w.heap.size w A2 n2 lb) (ga : Hid ((decide (n1 ≤ 20) && formedB a la) = true)) (gb : Hid ((decide (n2 ≤ 20) && formedB b lb) = true)) (m1 : n1 ≤ 110) (m2 : n2 ≤ 110) (fe : Hid (foE a b la lb = 0)) (fv : Hid (foV a b la lb = true)) (p1 : ¬ 0 ≤ t) (vr : Hid (Rc.validB r = false)) :
    Calls Tryd.prog 4 #[(.agg #[.int .i64 a.ver, .int .i64 a.frm, .int .i64 a.unt, .slice A1 n1 c1, .int .i64 a.sc, .int .i64 a.ss]), (.agg #[.int .i64 b.ver, .int .i64 b.frm, .int .i64 b.unt, .slice A2 n2 c2, .int .i64 b.sc, .int .i64 b.ss]), (.agg #[.int .i64 r.kind, .int .i64 r.every, .int .i64 r.wd, .int .i64 r.nth, .int .i64 r.frm, .int .i64 r.unt, .int .i64 r.sec, .bool r.shift, .bool r.both]), .int .i64 t] w (LawPost w) := by
  have HT : Hid (∀ W, Below w.heap.size w W → Tab W) := Lib.hid fun W hW => ht.below hW
  have H1 : Hid (∀ W, Below w.heap.size w W → Lp W.heap.size W A1 n1 la) := Lib.hid fun W hW => h1.go hW
  have H2 : Hid (∀ W, Below w.heap.size w W → Lp W.heap.size W A2 n2 lb) := Lib.hid fun W hW => h2.go hW
  have hb := Below.goN (Below.goN (Below.goN (Below.refl w.heap.size w) (.cells #[.int .i64 a.ver, .int .i64 a.frm, .int .i64 a.unt, .slice A1 n1 c1, .int .i64 a.sc, .int .i64 a.ss] 43)) (.cells #[.int .i64 b.ver, .int .i64 b.frm, .int .i64 b.unt, .slice A2 n2 c2, .int .i64 b.sc, .int .i64 b.ss] 43)) (.cells #[.int .i64 r.kind, .int .i64 r.every, .int .i64 r.wd, .int .i64 r.nth, .int .i64 r.frm, .int .i64 r.unt, .int .i64 r.sec, .bool r.shift, .bool r.both] 24)
  have ka := Lib.hid (new30 w (.cells #[.int .i64 a.ver, .int .i64 a.frm, .int .i64 a.unt, .slice A1 n1 c1, .int .i64 a.sc, .int .i64 a.ss] 43) (.cells #[.int .i64 b.ver, .int .i64 b.frm, .int .i64 b.unt, .slice A2 n2 c2, .int .i64 b.sc, .int .i64 b.ss] 43) (.cells #[.int .i64 r.kind, .int .i64 r.every, .int .i64 r.wd, .int .i64 r.nth, .int .i64 r.frm, .int .i64 r.unt, .int .i64 r.sec, .bool r.shift, .bool r.both] 24))
  have kb := Lib.hid (new31 w (.cells #[.int .i64 a.ver, .int .i64 a.frm, .int .i64 a.unt, .slice A1 n1 c1, .int .i64 a.sc, .int .i64 a.ss] 43) (.cells #[.int .i64 b.ver, .int .i64 b.frm, .int .i64 b.unt, .slice A2 n2 c2, .int .i64 b.sc, .int .i64 b.ss] 43) (.cells #[.int .i64 r.kind, .int .i64 r.every, .int .i64 r.wd, .int .i64 r.nth, .int .i64 r.frm, .int .i64 r.unt, .int .i64 r.sec, .bool r.shift, .bool r.both] 24))
  have kx := Lib.hid (new32 w (.cells #[.int .i64 a.ver, .int .i64 a.frm, .int .i64 a.unt, .slice A1 n1 c1, .int .i64 a.sc, .int .i64 a.ss] 43) (.cells #[.int .i64 b.ver, .int .i64 b.frm, .int .i64 b.unt, .slice A2 n2 c2, .int .i64 b.sc, .int .i64 b.ss] 43) (.cells #[.int .i64 r.kind, .int .i64 r.every, .int .i64 r.wd, .int .i64 r.nth, .int .i64 r.frm, .int .i64 r.unt, .int .i64 r.sec, .bool r.shift, .bool r.both] 24))
  clear ht h1 h2
  have p1' : decide (0 ≤ t) = false := decide_eq_false p1
  go_enter Tryd.func4, Tryd.ntmps4
  go_wp2_with fail
  refine (head14 _ (HT.out _ hb)).mono ?_
  rintro e w1 ⟨rfl, hn⟩
  have hb := Below.go hb hn
  have ka := Lib.hid (keep' ka.out hn)
  have kb := Lib.hid (keep' kb.out hn)
  have kx := Lib.hid (keep' kx.out hn)
  clear hn
  obtain ⟨ka_0, ka_1, ka_2, ka_3, ka_4, ka_5⟩ := blk6 ka.out
  go_wp2_with fail
  refine (r14Ed_any A1 n1 c1 la a _ (H1.out _ hb)).mono ?_
  rintro e w2 ⟨rfl, hn⟩
  have hb := Below.go hb hn
  have ka := Lib.hid (keep' ka.out hn)
  have kb := Lib.hid (keep' kb.out hn)
  have kx := Lib.hid (keep' kx.out hn)
  clear hn
  rw [ga.out]
  clear ka_0 ka_1 ka_2 ka_3 ka_4 ka_5
  obtain ⟨kb_0, kb_1, kb_2, kb_3, kb_4, kb_5⟩ := blk6 kb.out
  go_wp2_with fail
  refine (r14Ed_any A2 n2 c2 lb b _ (H2.out _ hb)).mono ?_
  rintro e w3 ⟨rfl, hn⟩
  have hb := Below.go hb hn
  have ka := Lib.hid (keep' ka.out hn)
  have kb := Lib.hid (keep' kb.out hn)
  have kx := Lib.hid (keep' kx.out hn)
  clear hn
  rw [gb.out]
  clear kb_0 kb_1 kb_2 kb_3 kb_4 kb_5
  obtain ⟨ka_0, ka_1, ka_2, ka_3, ka_4, ka_5⟩ := blk6 ka.out
  obtain ⟨kb_0, kb_1, kb_2, kb_3, kb_4, kb_5⟩ := blk6 kb.out
  go_wp2_with fail
  refine (Follows_any A1 A2 n1 c1 n2 c2 la lb a b _ (H1.out _ hb) (H2.out _ hb) m1 m2).mono ?_
  rintro e w4 ⟨rfl, hn⟩
  have hb := Below.go hb hn
  have ka := Lib.hid (keep' ka.out hn)
  have kb := Lib.hid (keep' kb.out hn)
  have kx := Lib.hid (keep' kx.out hn)
  clear hn
  rw [fv.out, fe.out]
  clear ka_0 ka_1 ka_2 ka_3 ka_4 ka_5 kb_0 kb_1 kb_2 kb_3 kb_4 kb_5
  obtain ⟨kb_0, kb_1, kb_2, kb_3, kb_4, kb_5⟩ := blk6 kb.out
  obtain ⟨kx_0, kx_1, kx_2, kx_3, kx_4, kx_5, kx_6, kx_7, kx_8⟩ := blk9 kx.out
  go_wp2_with fail
  refine (refValid21_any r _).mono ?_
  rintro e w5 ⟨rfl, hn⟩
  have hb := Below.go hb hn
  have ka := Lib.hid (keep' ka.out hn)
  have kb := Lib.hid (keep' kb.out hn)
  have kx := Lib.hid (keep' kx.out hn)
  clear hn
  clear kx_0 kx_1 kx_2 kx_3 kx_4 kx_5 kx_6 kx_7 kx_8
  rw [vr.out]
  go_wp2
  go_ret
  exact ⟨by simp, hb⟩
set_option maxHeartbeats 2000000 in
set_option maxRecDepth 100000 in
theorem tables_A_few (A1 A2 : Option Addr) (n1 c1 n2 c2 : Nat) (la lb : Lpm.LL) (a b : Ed) (r : Rec) (t : Int) (w : World) (ht : Tab w) (h1 : Lp w.heap.size w A1 n1 la) (h2 : Lp w.heap.size w A2 n2 lb) (ga : Hid ((decide (n1 ≤ 20) && formedB a la) = true)) (gb : Hid ((decide (n2 ≤ 20) && formedB b lb) = true)) (m1 : n1 ≤ 110) (m2 : n2 ≤ 110) (fe : Hid (foE a b la lb = 0)) (fv : Hid (foV a b la lb = true)) (p1 : ¬ 0 ≤ t) (vr : Hid (Rc.validB r = true)) (fw : Hid (decide (r.unt - r.frm ≤ 1200) = false)) :
    Calls Tryd.prog 4 #[(.agg #[.int .i64 a.ver, .int .i64 a.frm, .int .i64 a.unt, .slice A1 n1 c1, .int .i64 a.sc, .int .i64 a.ss]), (.agg #[.int .i64 b.ver, .int .i64 b.frm, .int .i64 b.unt, .slice A2 n2 c2, .int .i64 b.sc, .int .i64 b.ss]), (.agg #[.int .i64 r.kind, .int .i64 r.every, .int .i64 r.wd, .int .i64 r.nth, .int .i64 r.frm, .int .i64 r.unt, .int .i64 r.sec, .bool r.shift, .bool r.both]), .int .i64 t] w (LawPost w) := by
  have HT : Hid (∀ W, Below w.heap.size w W → Tab W) := Lib.hid fun W hW => ht.below hW
  have H1 : Hid (∀ W, Below w.heap.size w W → Lp W.heap.size W A1 n1 la) := Lib.hid fun W hW => h1.go hW
  have H2 : Hid (∀ W, Below w.heap.size w W → Lp W.heap.size W A2 n2 lb) := Lib.hid fun W hW => h2.go hW
  have hb := Below.goN (Below.goN (Below.goN (Below.refl w.heap.size w) (.cells #[.int .i64 a.ver, .int .i64 a.frm, .int .i64 a.unt, .slice A1 n1 c1, .int .i64 a.sc, .int .i64 a.ss] 43)) (.cells #[.int .i64 b.ver, .int .i64 b.frm, .int .i64 b.unt, .slice A2 n2 c2, .int .i64 b.sc, .int .i64 b.ss] 43)) (.cells #[.int .i64 r.kind, .int .i64 r.every, .int .i64 r.wd, .int .i64 r.nth, .int .i64 r.frm, .int .i64 r.unt, .int .i64 r.sec, .bool r.shift, .bool r.both] 24)
  have ka := Lib.hid (new30 w (.cells #[.int .i64 a.ver, .int .i64 a.frm, .int .i64 a.unt, .slice A1 n1 c1, .int .i64 a.sc, .int .i64 a.ss] 43) (.cells #[.int .i64 b.ver, .int .i64 b.frm, .int .i64 b.unt, .slice A2 n2 c2, .int .i64 b.sc, .int .i64 b.ss] 43) (.cells #[.int .i64 r.kind, .int .i64 r.every, .int .i64 r.wd, .int .i64 r.nth, .int .i64 r.frm, .int .i64 r.unt, .int .i64 r.sec, .bool r.shift, .bool r.both] 24))
  have kb := Lib.hid (new31 w (.cells #[.int .i64 a.ver, .int .i64 a.frm, .int .i64 a.unt, .slice A1 n1 c1, .int .i64 a.sc, .int .i64 a.ss] 43) (.cells #[.int .i64 b.ver, .int .i64 b.frm, .int .i64 b.unt, .slice A2 n2 c2, .int .i64 b.sc, .int .i64 b.ss] 43) (.cells #[.int .i64 r.kind, .int .i64 r.every, .int .i64 r.wd, .int .i64 r.nth, .int .i64 r.frm, .int .i64 r.unt, .int .i64 r.sec, .bool r.shift, .bool r.both] 24))
  have kx := Lib.hid (new32 w (.cells #[.int .i64 a.ver, .int .i64 a.frm, .int .i64 a.unt, .slice A1 n1 c1, .int .i64 a.sc, .int .i64 a.ss] 43) (.cells #[.int .i64 b.ver, .int .i64 b.frm, .int .i64 b.unt, .slice A2 n2 c2, .int .i64 b.sc, .int .i64 b.ss] 43) (.cells #[.int .i64 r.kind, .int .i64 r.every, .int .i64 r.wd, .int .i64 r.nth, .int .i64 r.frm, .int .i64 r.unt, .int .i64 r.sec, .bool r.shift, .bool r.both] 24))
  clear ht h1 h2
  have p1' : decide (0 ≤ t) = false := decide_eq_false p1
  go_enter Tryd.func4, Tryd.ntmps4
  go_wp2_with fail
  refine (head14 _ (HT.out _ hb)).mono ?_
  rintro e w1 ⟨rfl, hn⟩
  have hb := Below.go hb hn
  have ka := Lib.hid (keep' ka.out hn)
  have kb := Lib.hid (keep' kb.out hn)
  have kx := Lib.hid (keep' kx.out hn)
  clear hn
  obtain ⟨ka_0, ka_1, ka_2, ka_3, ka_4, ka_5⟩ := blk6 ka.out
  go_wp2_with fail
  refine (r14Ed_any A1 n1 c1 la a _ (H1.out _ hb)).mono ?_
  rintro e w2 ⟨rfl, hn⟩
  have hb := Below.go hb hn
  have ka := Lib.hid (keep' ka.out hn)
  have kb := Lib.hid (keep' kb.out hn)
  have kx := Lib.hid (keep' kx.out hn)
  clear hn
  rw [ga.out]
  clear ka_0 ka_1 ka_2 ka_3 ka_4 ka_5
  obtain ⟨kb_0, kb_1, kb_2, kb_3, kb_4, kb_5⟩ := blk6 kb.out
  go_wp2_with fail
  refine (r14Ed_any A2 n2 c2 lb b _ (H2.out _ hb)).mono ?_
  rintro e w3 ⟨rfl, hn⟩
  have hb := Below.go hb hn
  have ka := Lib.hid (keep' ka.out hn)
  have kb := Lib.hid (keep' kb.out hn)
  have kx := Lib.hid (keep' kx.out hn)
  clear hn
  rw [gb.out]
  clear kb_0 kb_1 kb_2 kb_3 kb_4 kb_5
  obtain ⟨ka_0, ka_1, ka_2, ka_3, ka_4, ka_5⟩ := blk6 ka.out
  obtain ⟨kb_0, kb_1, kb_2, kb_3, kb_4, kb_5⟩ := blk6 kb.out
  go_wp2_with fail
  refine (Follows_any A1 A2 n1 c1 n2 c2 la lb a b _ (H1.out _ hb) (H2.out _ hb) m1 m2).mono ?_
  rintro e w4 ⟨rfl, hn⟩
  have hb := Below.go hb hn
  have ka := Lib.hid (keep' ka.out hn)
  have kb := Lib.hid (keep' kb.out hn)
  have kx := Lib.hid (keep' kx.out hn)
  clear hn
  rw [fv.out, fe.out]
  clear ka_0 ka_1 ka_2 ka_3 ka_4 ka_5 kb_0 kb_1 kb_2 kb_3 kb_4 kb_5
  obtain ⟨kb_0, kb_1, kb_2, kb_3, kb_4, kb_5⟩ := blk6 kb.out
  obtain ⟨kx_0, kx_1, kx_2, kx_3, kx_4, kx_5, kx_6, kx_7, kx_8⟩ := blk9 kx.out
  go_wp2_with fail
  refine (refValid21_any r _).mono ?_
  rintro e w5 ⟨rfl, hn⟩
  have hb := Below.go hb hn
  have ka := Lib.hid (keep' ka.out hn)
  have kb := Lib.hid (keep' kb.out hn)
  have kx := Lib.hid (keep' kx.out hn)
  clear hn
  clear kx_0 kx_1 kx_2 kx_3 kx_4 kx_5 kx_6 kx_7 kx_8
  rw [vr.out]
  obtain ⟨kx_0, kx_1, kx_2, kx_3, kx_4, kx_5, kx_6, kx_7, kx_8⟩ := blk9 kx.out
  go_wp2_with fail
  refine (refFew21_any r _ (by have := (of_decide_eq_true vr.out : Rc.Val r).2.1; omega) (by have := (of_decide_eq_true vr.out : Rc.Val r).2.1; omega) (by have := (of_decide_eq_true vr.out : Rc.Val r).2.1; omega) (by have := (of_decide_eq_true vr.out : Rc.Val r).2.1; omega)).mono ?_
  rintro e w6 ⟨rfl, hn⟩
  have hb := Below.go hb hn
  have ka := Lib.hid (keep' ka.out hn)
  have kb := Lib.hid (keep' kb.out hn)
  have kx := Lib.hid (keep' kx.out hn)
  clear hn
  clear kx_0 kx_1 kx_2 kx_3 kx_4 kx_5 kx_6 kx_7 kx_8
  rw [fw.out]
  go_wp2
  go_ret
  exact ⟨by simp, hb⟩
set_option maxHeartbeats 2000000 in
set_option maxRecDepth 100000 in
theorem tables_A_lim (A1 A2 : Option Addr) (n1 c1 n2 c2 : Nat) (la lb : Lpm.LL) (a b : Ed) (r : Rec) (t : Int) (w : World) (ht : Tab w) (h1 : Lp w.heap.size w A1 n1 la) (h2 : Lp w.heap.size w A2 n2 lb) (ga : Hid ((decide (n1 ≤ 20) && formedB a la) = true)) (gb : Hid ((decide (n2 ≤ 20) && formedB b lb) = true)) (m1 : n1 ≤ 110) (m2 : n2 ≤ 110) (fe : Hid (foE a b la lb = 0)) (fv : Hid (foV a b la lb = true)) (p1 : ¬ 0 ≤ t) (vr : Hid (Rc.validB r = true)) (fw : Hid (decide (r.unt - r.frm ≤ 1200) = true)) (hr : Fit21 r) (EC : Hid (Rc.coE la lb r 0 = 2)) :
    Calls Tryd.prog 4 #[(.agg #[.int .i64 a.ver, .int .i64 a.frm, .int .i64 a.unt, .slice A1 n1 c1, .int .i64 a.sc, .int .i64 a.ss]), (.agg #[.int .i64 b.ver, .int .i64 b.frm, .int .i64 b.unt, .slice A2 n2 c2, .int .i64 b.sc, .int .i64 b.ss]), (.agg #[.int .i64 r.kind, .int .i64 r.every, .int .i64 r.wd, .int .i64 r.nth, .int .i64 r.frm, .int .i64 r.unt, .int .i64 r.sec, .bool r.shift, .bool r.both]), .int .i64 t] w (LawPost w) := by
  have HT : Hid (∀ W, Below w.heap.size w W → Tab W) := Lib.hid fun W hW => ht.below hW
  have H1 : Hid (∀ W, Below w.heap.size w W → Lp W.heap.size W A1 n1 la) := Lib.hid fun W hW => h1.go hW
  have H2 : Hid (∀ W, Below w.heap.size w W → Lp W.heap.size W A2 n2 lb) := Lib.hid fun W hW => h2.go hW
  have hb := Below.goN (Below.goN (Below.goN (Below.refl w.heap.size w) (.cells #[.int .i64 a.ver, .int .i64 a.frm, .int .i64 a.unt, .slice A1 n1 c1, .int .i64 a.sc, .int .i64 a.ss] 43)) (.cells #[.int .i64 b.ver, .int .i64 b.frm, .int .i64 b.unt, .slice A2 n2 c2, .int .i64 b.sc, .int .i64 b.ss] 43)) (.cells #[.int .i64 r.kind, .int .i64 r.every, .int .i64 r.wd, .int .i64 r.nth, .int .i64 r.frm, .int .i64 r.unt, .int .i64 r.sec, .bool r.shift, .bool r.both] 24)
  have ka := Lib.hid (new30 w (.cells #[.int .i64 a.ver, .int .i64 a.frm, .int .i64 a.unt, .slice A1 n1 c1, .int .i64 a.sc, .int .i64 a.ss] 43) (.cells #[.int .i64 b.ver, .int .i64 b.frm, .int .i64 b.unt, .slice A2 n2 c2, .int .i64 b.sc, .int .i64 b.ss] 43) (.cells #[.int .i64 r.kind, .int .i64 r.every, .int .i64 r.wd, .int .i64 r.nth, .int .i64 r.frm, .int .i64 r.unt, .int .i64 r.sec, .bool r.shift, .bool r.both] 24))
  have kb := Lib.hid (new31 w (.cells #[.int .i64 a.ver, .int .i64 a.frm, .int .i64 a.unt, .slice A1 n1 c1, .int .i64 a.sc, .int .i64 a.ss] 43) (.cells #[.int .i64 b.ver, .int .i64 b.frm, .int .i64 b.unt, .slice A2 n2 c2, .int .i64 b.sc, .int .i64 b.ss] 43) (.cells #[.int .i64 r.kind, .int .i64 r.every, .int .i64 r.wd, .int .i64 r.nth, .int .i64 r.frm, .int .i64 r.unt, .int .i64 r.sec, .bool r.shift, .bool r.both] 24))
  have kx := Lib.hid (new32 w (.cells #[.int .i64 a.ver, .int .i64 a.frm, .int .i64 a.unt, .slice A1 n1 c1, .int .i64 a.sc, .int .i64 a.ss] 43) (.cells #[.int .i64 b.ver, .int .i64 b.frm, .int .i64 b.unt, .slice A2 n2 c2, .int .i64 b.sc, .int .i64 b.ss] 43) (.cells #[.int .i64 r.kind, .int .i64 r.every, .int .i64 r.wd, .int .i64 r.nth, .int .i64 r.frm, .int .i64 r.unt, .int .i64 r.sec, .bool r.shift, .bool r.both] 24))
  clear ht h1 h2
  have p1' : decide (0 ≤ t) = false := decide_eq_false p1
  go_enter Tryd.func4, Tryd.ntmps4
  go_wp2_with fail
  refine (head14 _ (HT.out _ hb)).mono ?_
  rintro e w1 ⟨rfl, hn⟩
  have hb := Below.go hb hn
  have ka := Lib.hid (keep' ka.out hn)
  have kb := Lib.hid (keep' kb.out hn)
  have kx := Lib.hid (keep' kx.out hn)
  clear hn
  obtain ⟨ka_0, ka_1, ka_2, ka_3, ka_4, ka_5⟩ := blk6 ka.out
  go_wp2_with fail
  refine (r14Ed_any A1 n1 c1 la a _ (H1.out _ hb)).mono ?_
  rintro e w2 ⟨rfl, hn⟩
  have hb := Below.go hb hn
  have ka := Lib.hid (keep' ka.out hn)
  have kb := Lib.hid (keep' kb.out hn)
  have kx := Lib.hid (keep' kx.out hn)
  clear hn
  rw [ga.out]
  clear ka_0 ka_1 ka_2 ka_3 ka_4 ka_5
  obtain ⟨kb_0, kb_1, kb_2, kb_3, kb_4, kb_5⟩ := blk6 kb.out
  go_wp2_with fail
  refine (r14Ed_any A2 n2 c2 lb b _ (H2.out _ hb)).mono ?_
  rintro e w3 ⟨rfl, hn⟩
  have hb := Below.go hb hn
  have ka := Lib.hid (keep' ka.out hn)
  have kb := Lib.hid (keep' kb.out hn)
  have kx := Lib.hid (keep' kx.out hn)
  clear hn
  rw [gb.out]
  clear kb_0 kb_1 kb_2 kb_3 kb_4 kb_5
  obtain ⟨ka_0, ka_1, ka_2, ka_3, ka_4, ka_5⟩ := blk6 ka.out
  obtain ⟨kb_0, kb_1, kb_2, kb_3, kb_4, kb_5⟩ := blk6 kb.out
  go_wp2_with fail
  refine (Follows_any A1 A2 n1 c1 n2 c2 la lb a b _ (H1.out _ hb) (H2.out _ hb) m1 m2).mono ?_
  rintro e w4 ⟨rfl, hn⟩
  have hb := Below.go hb hn
  have ka := Lib.hid (keep' ka.out hn)
  have kb := Lib.hid (keep' kb.out hn)
  have kx := Lib.hid (keep' kx.out hn)
  clear hn
  rw [fv.out, fe.out]
  clear ka_0 ka_1 ka_2 ka_3 ka_4 ka_5 kb_0 kb_1 kb_2 kb_3 kb_4 kb_5
  obtain ⟨kb_0, kb_1, kb_2, kb_3, kb_4, kb_5⟩ := blk6 kb.out
  obtain ⟨kx_0, kx_1, kx_2, kx_3, kx_4, kx_5, kx_6, kx_7, kx_8⟩ := blk9 kx.out
  go_wp2_with fail
  refine (refValid21_any r _).mono ?_
  rintro e w5 ⟨rfl, hn⟩
  have hb := Below.go hb hn
  have ka := Lib.hid (keep' ka.out hn)
  have kb := Lib.hid (keep' kb.out hn)
  have kx := Lib.hid (keep' kx.out hn)
  clear hn
  clear kx_0 kx_1 kx_2 kx_3 kx_4 kx_5 kx_6 kx_7 kx_8
  rw [vr.out]
  obtain ⟨kx_0, kx_1, kx_2, kx_3, kx_4, kx_5, kx_6, kx_7, kx_8⟩ := blk9 kx.out
  go_wp2_with fail
  refine (refFew21_any r _ (by have := (of_decide_eq_true vr.out : Rc.Val r).2.1; omega) (by have := (of_decide_eq_true vr.out : Rc.Val r).2.1; omega) (by have := (of_decide_eq_true vr.out : Rc.Val r).2.1; omega) (by have := (of_decide_eq_true vr.out : Rc.Val r).2.1; omega)).mono ?_
  rintro e w6 ⟨rfl, hn⟩
  have hb := Below.go hb hn
  have ka := Lib.hid (keep' ka.out hn)
  have kb := Lib.hid (keep' kb.out hn)
  have kx := Lib.hid (keep' kx.out hn)
  clear hn
  clear kx_0 kx_1 kx_2 kx_3 kx_4 kx_5 kx_6 kx_7 kx_8
  rw [fw.out]
  obtain ⟨ka_0, ka_1, ka_2, ka_3, ka_4, ka_5⟩ := blk6 ka.out
  obtain ⟨kb_0, kb_1, kb_2, kb_3, kb_4, kb_5⟩ := blk6 kb.out
  obtain ⟨kx_0, kx_1, kx_2, kx_3, kx_4, kx_5, kx_6, kx_7, kx_8⟩ := blk9 kx.out
  go_wp2_with fail
  refine (Correct_any A1 A2 n1 c1 n2 c2 la lb r 0 _ (HT.out _ hb) (H1.out _ hb) (H2.out _ hb) m1 m2 hr).mono ?_
  rintro e w7 ⟨B1, k1, z1, B2, k2, z2, rfl, hG1, hG2, hL1, hL2, hn⟩
  have hb := Below.go hb hn
  have ka := Lib.hid (keep' ka.out hn)
  have kb := Lib.hid (keep' kb.out hn)
  have kx := Lib.hid (keep' kx.out hn)
  clear hn
  clear ka_0 ka_1 ka_2 ka_3 ka_4 ka_5 kb_0 kb_1 kb_2 kb_3 kb_4 kb_5
  clear kx_0 kx_1 kx_2 kx_3 kx_4 kx_5 kx_6 kx_7 kx_8
  rw [EC.out]
  obtain rfl : k1 = 0 := by have := hL1.1; rw [(co_none (by rw [EC.out]; decide)).1] at this; exact this.symm
  obtain rfl : k2 = 0 := by have := hL2.1; rw [(co_none (by rw [EC.out]; decide)).2] at this; exact this.symm
  clear hL1 hL2 hG1 hG2
  go_wp2
  go_ret
  exact ⟨by simp, hb⟩
set_option maxHeartbeats 2000000 in
set_option maxRecDepth 100000 in
theorem tables_A_ok (A1 A2 : Option Addr) (n1 c1 n2 c2 : Nat) (la lb : Lpm.LL) (a b : Ed) (r : Rec) (t : Int) (w : World) (ht : Tab w) (h1 : Lp w.heap.size w A1 n1 la) (h2 : Lp w.heap.size w A2 n2 lb) (ga : Hid ((decide (n1 ≤ 20) && formedB a la) = true)) (gb : Hid ((decide (n2 ≤ 20) && formedB b lb) = true)) (m1 : n1 ≤ 110) (m2 : n2 ≤ 110) (fe : Hid (foE a b la lb = 0)) (fv : Hid (foV a b la lb = true)) (p1 : ¬ 0 ≤ t) (vr : Hid (Rc.validB r = true)) (fw : Hid (decide (r.unt - r.frm ≤ 1200) = true)) (hr : Fit21 r) (EC : Hid (Rc.coE la lb r 0 = 0)) (HD : Hid (∀ x, (x ∈ Rc.coF la lb r 0 ∨ x ∈ Rc.coN la lb r 0) → b.frm ≤ x.2)) :
    Calls Tryd.prog 4 #[(.agg #[.int .i64 a.ver, .int .i64 a.frm, .int .i64 a.unt, .slice A1 n1 c1, .int .i64 a.sc, .int .i64 a.ss]), (.agg #[.int .i64 b.ver, .int .i64 b.frm, .int .i64 b.unt, .slice A2 n2 c2, .int .i64 b.sc, .int .i64 b.ss]), (.agg #[.int .i64 r.kind, .int .i64 r.every, .int .i64 r.wd, .int .i64 r.nth, .int .i64 r.frm, .int .i64 r.unt, .int .i64 r.sec, .bool r.shift, .bool r.both]), .int .i64 t] w (LawPost w) := by
  have HT : Hid (∀ W, Below w.heap.size w W → Tab W) := Lib.hid fun W hW => ht.below hW
  have H1 : Hid (∀ W, Below w.heap.size w W → Lp W.heap.size W A1 n1 la) := Lib.hid fun W hW => h1.go hW
  have H2 : Hid (∀ W, Below w.heap.size w W → Lp W.heap.size W A2 n2 lb) := Lib.hid fun W hW => h2.go hW
  have hb := Below.goN (Below.goN (Below.goN (Below.refl w.heap.size w) (.cells #[.int .i64 a.ver, .int .i64 a.frm, .int .i64 a.unt, .slice A1 n1 c1, .int .i64 a.sc, .int .i64 a.ss] 43)) (.cells #[.int .i64 b.ver, .int .i64 b.frm, .int .i64 b.unt, .slice A2 n2 c2, .int .i64 b.sc, .int .i64 b.ss] 43)) (.cells #[.int .i64 r.kind, .int .i64 r.every, .int .i64 r.wd, .int .i64 r.nth, .int .i64 r.frm, .int .i64 r.unt, .int .i64 r.sec, .bool r.shift, .bool r.both] 24)
  have ka := Lib.hid (new30 w (.cells #[.int .i64 a.ver, .int .i64 a.frm, .int .i64 a.unt, .slice A1 n1 c1, .int .i64 a.sc, .int .i64 a.ss] 43) (.cells #[.int .i64 b.ver, .int .i64 b.frm, .int .i64 b.unt, .slice A2 n2 c2, .int .i64 b.sc, .int .i64 b.ss] 43) (.cells #[.int .i64 r.kind, .int .i64 r.every, .int .i64 r.wd, .int .i64 r.nth, .int .i64 r.frm, .int .i64 r.unt, .int .i64 r.sec, .bool r.shift, .bool r.both] 24))
  have kb := Lib.hid (new31 w (.cells #[.int .i64 a.ver, .int .i64 a.frm, .int .i64 a.unt, .slice A1 n1 c1, .int .i64 a.sc, .int .i64 a.ss] 43) (.cells #[.int .i64 b.ver, .int .i64 b.frm, .int .i64 b.unt, .slice A2 n2 c2, .int .i64 b.sc, .int .i64 b.ss] 43) (.cells #[.int .i64 r.kind, .int .i64 r.every, .int .i64 r.wd, .int .i64 r.nth, .int .i64 r.frm, .int .i64 r.unt, .int .i64 r.sec, .bool r.shift, .bool r.both] 24))
  have kx := Lib.hid (new32 w (.cells #[.int .i64 a.ver, .int .i64 a.frm, .int .i64 a.unt, .slice A1 n1 c1, .int .i64 a.sc, .int .i64 a.ss] 43) (.cells #[.int .i64 b.ver, .int .i64 b.frm, .int .i64 b.unt, .slice A2 n2 c2, .int .i64 b.sc, .int .i64 b.ss] 43) (.cells #[.int .i64 r.kind, .int .i64 r.every, .int .i64 r.wd, .int .i64 r.nth, .int .i64 r.frm, .int .i64 r.unt, .int .i64 r.sec, .bool r.shift, .bool r.both] 24))
  clear ht h1 h2
  have p1' : decide (0 ≤ t) = false := decide_eq_false p1
  go_enter Tryd.func4, Tryd.ntmps4
  go_wp2_with fail
  refine (head14 _ (HT.out _ hb)).mono ?_
  rintro e w1 ⟨rfl, hn⟩
  have hb := Below.go hb hn
  have ka := Lib.hid (keep' ka.out hn)
  have kb := Lib.hid (keep' kb.out hn)
  have kx := Lib.hid (keep' kx.out hn)
  clear hn
  obtain ⟨ka_0, ka_1, ka_2, ka_3, ka_4, ka_5⟩ := blk6 ka.out
  go_wp2_with fail
  refine (r14Ed_any A1 n1 c1 la a _ (H1.out _ hb)).mono ?_
  rintro e w2 ⟨rfl, hn⟩
  have hb := Below.go hb hn
  have ka := Lib.hid (keep' ka.out hn)
  have kb := Lib.hid (keep' kb.out hn)
  have kx := Lib.hid (keep' kx.out hn)
  clear hn
  rw [ga.out]
  clear ka_0 ka_1 ka_2 ka_3 ka_4 ka_5
  obtain ⟨kb_0, kb_1, kb_2, kb_3, kb_4, kb_5⟩ := blk6 kb.out
  go_wp2_with fail
  refine (r14Ed_any A2 n2 c2 lb b _ (H2.out _ hb)).mono ?_
  rintro e w3 ⟨rfl, hn⟩
  have hb := Below.go hb hn
  have ka := Lib.hid (keep' ka.out hn)
  have kb := Lib.hid (keep' kb.out hn)
  have kx := Lib.hid (keep' kx.out hn)
  clear hn
  rw [gb.out]
  clear kb_0 kb_1 kb_2 kb_3 kb_4 kb_5
  obtain ⟨ka_0, ka_1, ka_2, ka_3, ka_4, ka_5⟩ := blk6 ka.out
  obtain ⟨kb_0, kb_1, kb_2, kb_3, kb_4, kb_5⟩ := blk6 kb.out
  go_wp2_with fail
  refine (Follows_any A1 A2 n1 c1 n2 c2 la lb a b _ (H1.out _ hb) (H2.out _ hb) m1 m2).mono ?_
  rintro e w4 ⟨rfl, hn⟩
  have hb := Below.go hb hn
  have ka := Lib.hid (keep' ka.out hn)
  have kb := Lib.hid (keep' kb.out hn)
  have kx := Lib.hid (keep' kx.out hn)
  clear hn
  rw [fv.out, fe.out]
  clear ka_0 ka_1 ka_2 ka_3 ka_4 ka_5 kb_0 kb_1 kb_2 kb_3 kb_4 kb_5
  obtain ⟨kb_0, kb_1, kb_2, kb_3, kb_4, kb_5⟩ := blk6 kb.out
  obtain ⟨kx_0, kx_1, kx_2, kx_3, kx_4, kx_5, kx_6, kx_7, kx_8⟩ := blk9 kx.out
  go_wp2_with fail
  refine (refValid21_any r _).mono ?_
  rintro e w5 ⟨rfl, hn⟩
  have hb := Below.go hb hn
  have ka := Lib.hid (keep' ka.out hn)
  have kb := Lib.hid (keep' kb.out hn)
  have kx := Lib.hid (keep' kx.out hn)
  clear hn
  clear kx_0 kx_1 kx_2 kx_3 kx_4 kx_5 kx_6 kx_7 kx_8
  rw [vr.out]
  obtain ⟨kx_0, kx_1, kx_2, kx_3, kx_4, kx_5, kx_6, kx_7, kx_8⟩ := blk9 kx.out
  go_wp2_with fail
  refine (refFew21_any r _ (by have := (of_decide_eq_true vr.out : Rc.Val r).2.1; omega) (by have := (of_decide_eq_true vr.out : Rc.Val r).2.1; omega) (by have := (of_decide_eq_true vr.out : Rc.Val r).2.1; omega) (by have := (of_decide_eq_true vr.out : Rc.Val r).2.1; omega)).mono ?_
  rintro e w6 ⟨rfl, hn⟩
  have hb := Below.go hb hn
  have ka := Lib.hid (keep' ka.out hn)
  have kb := Lib.hid (keep' kb.out hn)
  have kx := Lib.hid (keep' kx.out hn)
  clear hn
  clear kx_0 kx_1 kx_2 kx_3 kx_4 kx_5 kx_6 kx_7 kx_8
  rw [fw.out]
  obtain ⟨ka_0, ka_1, ka_2, ka_3, ka_4, ka_5⟩ := blk6 ka.out
  obtain ⟨kb_0, kb_1, kb_2, kb_3, kb_4, kb_5⟩ := blk6 kb.out
  obtain ⟨kx_0, kx_1, kx_2, kx_3, kx_4, kx_5, kx_6, kx_7, kx_8⟩ := blk9 kx.out
  go_wp2_with fail
  refine (Correct_any A1 A2 n1 c1 n2 c2 la lb r 0 _ (HT.out _ hb) (H1.out _ hb) (H2.out _ hb) m1 m2 hr).mono ?_
  rintro e w7 ⟨B1, k1, z1, B2, k2, z2, rfl, hG1, hG2, hL1, hL2, hn⟩
  have hb := Below.go hb hn
  have ka := Lib.hid (keep' ka.out hn)
  have kb := Lib.hid (keep' kb.out hn)
  have kx := Lib.hid (keep' kx.out hn)
  clear hn
  clear ka_0 ka_1 ka_2 ka_3 ka_4 ka_5 kb_0 kb_1 kb_2 kb_3 kb_4 kb_5
  clear kx_0 kx_1 kx_2 kx_3 kx_4 kx_5 kx_6 kx_7 kx_8
  rw [EC.out]
  have GL1 := Lib.hid hL1
  have GL2 := Lib.hid hL2
  have HG1 := Lib.hid hG1
  have HG2 := Lib.hid hG2
  have hk1 : k1 ≤ 1000 := by have := coF_len la lb r 0; rw [hL1.1] at this; exact this
  have hk2 : k2 ≤ 1000 := by have := coN_len la lb r 0; rw [hL2.1] at this; exact this
  clear hL1 hL2 hG1 hG2
  obtain ⟨w8, rfl⟩ : ∃ w8, w8 = w7 := ⟨_, rfl⟩
  have hb8 := hb
  obtain ⟨f0, fi, fz0, fz1, fz2⟩ := info_parts infoF
  have hb9 := Below.goN hb8 (.cells #[] tF)
  have q1 := Lib.hid (Lp.go GL1.out (Below.goN (Below.refl w8.heap.size w8) (.cells #[] tF)))
  have HM : Hid ((Rc.coF la lb r 0 ++ Rc.coN la lb r 0).length = k1 + k2) := Lib.hid (by rw [List.length_append, GL1.out.1, GL2.out.1])
  have HA : Hid (∀ j, j < k1 + k2 → b.frm ≤ ((Rc.coF la lb r 0 ++ Rc.coN la lb r 0)[j]?.getD (0, 0)).2) := Lib.hid fun j hj => by
    have hj' : j < (Rc.coF la lb r 0 ++ Rc.coN la lb r 0).length := by rw [HM.out]; exact hj
    rw [List.getElem?_eq_getElem hj']
    rcases List.mem_append.1 (List.getElem_mem hj') with h | h
    · exact HD.out _ (.inl h)
    · exact HD.out _ (.inr h)
  have hs8 : w8.heap.size ≤ (w8.alloc (.cells #[] tF)).heap.size := by simp
  go_wp2_with (first | (at_builtin; refine wpList_app_any rfl _ _ 28 rfl w8.heap.size tF _ (.agg #[.int .i64 0, .int .i64 0]) 2 16 Tryd.underlying28 fi fz0 fz1 fz2 rfl (by decide) (.slice (some ⟨w8.heap.size, 0, none⟩) 0 0) 0 [] rfl (own0_made w8 tF 2) B1 k1 z1 (cellsL (Rc.coF la lb r 0)) rfl (by rw [cellsL_len, GL1.out.1]) HG1.out (lp_news q1.out) (cellsL_one _) (by unfold maxLen; omega) (by omega) hs8 ?_; intro vA wA ownA growA; have hbA := Below.grown (Below.goN (Below.refl w8.heap.size w8) (.cells #[] tF)) growA (by simp) (fun g hg => ((own0_made w8 tF 2).lt g hg).1); have GB := Lib.hid (Lp.go GL2.out hbA); have HOA := Lib.hid ownA; clear ownA growA) | (at_builtin; refine wpList_app_any rfl _ _ 28 rfl w8.heap.size tF _ (.agg #[.int .i64 0, .int .i64 0]) 2 16 Tryd.underlying28 fi fz0 fz1 fz2 rfl (by decide) vA (0 + k1) _ rfl HOA.out B2 k2 z2 (cellsL (Rc.coN la lb r 0)) rfl (by rw [cellsL_len, GB.out.1]) HG2.out (lp_news GB.out) (cellsL_one _) (by unfold maxLen; omega) (by omega) hbA.size ?_; intro vB wB ownB growB; have hbB := Below.grown hbA growB (by have := hbA.size; omega) (fun g hg => (HOA.out.lt g hg).1); have ownB' : wB.ownsRow w8.heap.size tF 2 vB (k1 + k2) (cellsL (Rc.coF la lb r 0 ++ Rc.coN la lb r 0)) := (by rw [cellsL_app]; simpa using ownB); obtain ⟨AB, cB, rfl, -, -, hLB⟩ := own_lp ownB' HM.out; have LB := Lib.hid hLB; clear hLB ownB ownB' growB))
  have kbB := Lib.hid (keep' kb.out hbB)
  have hbB := Below.go hb8 hbB
  try simp only [len_ints, Result.andThen_ok]
  go_wp2
  go_loopw [9, 171] (fun u i wr => ∃ k : Nat, k ≤ k1 + k2 ∧ i = .int .i64 k ∧ u = .bool true ∧ Below wB.heap.size wB wr) (fun _ i _ => (k1 + k2) - (intOf i).toNat)
  case atStart => exact ⟨0, Nat.zero_le _, rfl, rfl, Below.refl _ _⟩
  case round =>
    obtain ⟨k, hk, rfl, rfl, hbr⟩ := hrel
    by_cases hlt : k < k1 + k2
    · obtain ⟨bk, off, rfl, hB, hc⟩ := LB.out.2 (by omega)
      have x0 := (hbr.cell (p := ⟨bk, off + k * 2, none⟩) hB).trans (hc k hlt).1
      have x1 := (hbr.cell (p := ⟨bk, off + k * 2 + 1, none⟩) hB).trans (hc k hlt).2
      clear hc
      have hD := HA.out k hlt
      generalize (Rc.coF la lb r 0 ++ Rc.coN la lb r 0)[k]?.getD (0, 0) = e at *
      obtain ⟨d, s⟩ := e
      have i0 : (0 : Int) ≤ (k : Int) := by omega
      have i1 : (k : Int) < (k1 : Int) + (k2 : Int) := by omega
      have i2 : (k : Int) < ((k1 + k2 : Nat) : Int) := by omega
      have hD' : b.frm ≤ s := hD
      clear hD
      obtain ⟨q0, q1', q2, q3, q4, q5⟩ := blk6 (keepN (keep' kbB.out hbr) (.cells #[.int .i64 d, .int .i64 s] tF))
      obtain ⟨⟨y0, y1⟩, -⟩ := blk2 (heap_new wr (.cells #[.int .i64 d, .int .i64 s] tF))
      have hD2 : decide (b.frm ≤ s) = true := decide_eq_true hD'
      clear hD'
      go_wp2
      go_roundw
      case rel => exact ⟨k + 1, by omega, by go_num, rfl, Below.goN hbr _⟩
      case measure => simp [intOf]; omega
    · obtain rfl : k = k1 + k2 := by omega
      go_wp2
      go_ret
      exact ⟨rfl, Below.go hbB hbr⟩
set_option maxHeartbeats 2000000 in
set_option maxRecDepth 100000 in
theorem tables_B_vr (A1 A2 : Option Addr) (n1 c1 n2 c2 : Nat) (la lb : Lpm.LL) (a b : Ed) (r : Rec) (t : Int) (w : World) (ht : Tab w) (h1 : Lp w.heap.size w A1 n1 la) (h2 : Lp w.heap.size w A2 n2 lb) (ga : Hid ((decide (n1 ≤ 20) && formedB a la) = true)) (gb : Hid ((decide (n2 ≤ 20) && formedB b lb) = true)) (m1 : n1 ≤ 110) (m2 : n2 ≤ 110) (fe : Hid (foE a b la lb = 0)) (fv : Hid (foV a b la lb = true)) (p1 : 0 ≤ t) (p2 : ¬ t < b.frm) (vr : Hid (Rc.validB r = false)) :
    Calls Tryd.prog 4 #[(.agg #[.int .i64 a.ver, .int .i64 a.frm, .int .i64 a.unt, .slice A1 n1 c1, .int .i64 a.sc, .int .i64 a.ss]), (.agg #[.int .i64 b.ver, .int .i64 b.frm, .int .i64 b.unt, .slice A2 n2 c2, .int .i64 b.sc, .int .i64 b.ss]), (.agg #[.int .i64 r.kind, .int .i64 r.every, .int .i64 r.wd, .int .i64 r.nth, .int .i64 r.frm, .int .i64 r.unt, .int .i64 r.sec, .bool r.shift, .bool r.both]), .int .i64 t] w (LawPost w) := by
  have HT : Hid (∀ W, Below w.heap.size w W → Tab W) := Lib.hid fun W hW => ht.below hW
  have H1 : Hid (∀ W, Below w.heap.size w W → Lp W.heap.size W A1 n1 la) := Lib.hid fun W hW => h1.go hW
  have H2 : Hid (∀ W, Below w.heap.size w W → Lp W.heap.size W A2 n2 lb) := Lib.hid fun W hW => h2.go hW
  have hb := Below.goN (Below.goN (Below.goN (Below.refl w.heap.size w) (.cells #[.int .i64 a.ver, .int .i64 a.frm, .int .i64 a.unt, .slice A1 n1 c1, .int .i64 a.sc, .int .i64 a.ss] 43)) (.cells #[.int .i64 b.ver, .int .i64 b.frm, .int .i64 b.unt, .slice A2 n2 c2, .int .i64 b.sc, .int .i64 b.ss] 43)) (.cells #[.int .i64 r.kind, .int .i64 r.every, .int .i64 r.wd, .int .i64 r.nth, .int .i64 r.frm, .int .i64 r.unt, .int .i64 r.sec, .bool r.shift, .bool r.both] 24)
  have ka := Lib.hid (new30 w (.cells #[.int .i64 a.ver, .int .i64 a.frm, .int .i64 a.unt, .slice A1 n1 c1, .int .i64 a.sc, .int .i64 a.ss] 43) (.cells #[.int .i64 b.ver, .int .i64 b.frm, .int .i64 b.unt, .slice A2 n2 c2, .int .i64 b.sc, .int .i64 b.ss] 43) (.cells #[.int .i64 r.kind, .int .i64 r.every, .int .i64 r.wd, .int .i64 r.nth, .int .i64 r.frm, .int .i64 r.unt, .int .i64 r.sec, .bool r.shift, .bool r.both] 24))
  have kb := Lib.hid (new31 w (.cells #[.int .i64 a.ver, .int .i64 a.frm, .int .i64 a.unt, .slice A1 n1 c1, .int .i64 a.sc, .int .i64 a.ss] 43) (.cells #[.int .i64 b.ver, .int .i64 b.frm, .int .i64 b.unt, .slice A2 n2 c2, .int .i64 b.sc, .int .i64 b.ss] 43) (.cells #[.int .i64 r.kind, .int .i64 r.every, .int .i64 r.wd, .int .i64 r.nth, .int .i64 r.frm, .int .i64 r.unt, .int .i64 r.sec, .bool r.shift, .bool r.both] 24))
  have kx := Lib.hid (new32 w (.cells #[.int .i64 a.ver, .int .i64 a.frm, .int .i64 a.unt, .slice A1 n1 c1, .int .i64 a.sc, .int .i64 a.ss] 43) (.cells #[.int .i64 b.ver, .int .i64 b.frm, .int .i64 b.unt, .slice A2 n2 c2, .int .i64 b.sc, .int .i64 b.ss] 43) (.cells #[.int .i64 r.kind, .int .i64 r.every, .int .i64 r.wd, .int .i64 r.nth, .int .i64 r.frm, .int .i64 r.unt, .int .i64 r.sec, .bool r.shift, .bool r.both] 24))
  clear ht h1 h2
  have p1' : decide (0 ≤ t) = true := decide_eq_true p1
  have p2' : decide (t < b.frm) = false := decide_eq_false p2
  go_enter Tryd.func4, Tryd.ntmps4
  go_wp2_with fail
  refine (head14 _ (HT.out _ hb)).mono ?_
  rintro e w1 ⟨rfl, hn⟩
  have hb := Below.go hb hn
  have ka := Lib.hid (keep' ka.out hn)
  have kb := Lib.hid (keep' kb.out hn)
  have kx := Lib.hid (keep' kx.out hn)
  clear hn
  obtain ⟨ka_0, ka_1, ka_2, ka_3, ka_4, ka_5⟩ := blk6 ka.out
  go_wp2_with fail
  refine (r14Ed_any A1 n1 c1 la a _ (H1.out _ hb)).mono ?_
  rintro e w2 ⟨rfl, hn⟩
  have hb := Below.go hb hn
  have ka := Lib.hid (keep' ka.out hn)
  have kb := Lib.hid (keep' kb.out hn)
  have kx := Lib.hid (keep' kx.out hn)
  clear hn
  rw [ga.out]
  clear ka_0 ka_1 ka_2 ka_3 ka_4 ka_5
  obtain ⟨kb_0, kb_1, kb_2, kb_3, kb_4, kb_5⟩ := blk6 kb.out
  go_wp2_with fail
  refine (r14Ed_any A2 n2 c2 lb b _ (H2.out _ hb)).mono ?_
  rintro e w3 ⟨rfl, hn⟩
  have hb := Below.go hb hn
  have ka := Lib.hid (keep' ka.out hn)
  have kb := Lib.hid (keep' kb.out hn)
  have kx := Lib.hid (keep' kx.out hn)
  clear hn
  rw [gb.out]
  clear kb_0 kb_1 kb_2 kb_3 kb_4 kb_5
  obtain ⟨ka_0, ka_1, ka_2, ka_3, ka_4, ka_5⟩ := blk6 ka.out
  obtain ⟨kb_0, kb_1, kb_2, kb_3, kb_4, kb_5⟩ := blk6 kb.out
  go_wp2_with fail
  refine (Follows_any A1 A2 n1 c1 n2 c2 la lb a b _ (H1.out _ hb) (H2.out _ hb) m1 m2).mono ?_
  rintro e w4 ⟨rfl, hn⟩
  have hb := Below.go hb hn
  have ka := Lib.hid (keep' ka.out hn)
  have kb := Lib.hid (keep' kb.out hn)
  have kx := Lib.hid (keep' kx.out hn)
  clear hn
  rw [fv.out, fe.out]
  clear ka_0 ka_1 ka_2 ka_3 ka_4 ka_5 kb_0 kb_1 kb_2 kb_3 kb_4 kb_5
  obtain ⟨kb_0, kb_1, kb_2, kb_3, kb_4, kb_5⟩ := blk6 kb.out
  obtain ⟨kx_0, kx_1, kx_2, kx_3, kx_4, kx_5, kx_6, kx_7, kx_8⟩ := blk9 kx.out
  go_wp2_with fail
  refine (refValid21_any r _).mono ?_
  rintro e w5 ⟨rfl, hn⟩
  have hb := Below.go hb hn
  have ka := Lib.hid (keep' ka.out hn)
  have kb := Lib.hid (keep' kb.out hn)
  have kx := Lib.hid (keep' kx.out hn)
  clear hn
  clear kx_0 kx_1 kx_2 kx_3 kx_4 kx_5 kx_6 kx_7 kx_8
  rw [vr.out]
  go_wp2
  go_ret
  exact ⟨by simp, hb⟩
set_option maxHeartbeats 2000000 in
set_option maxRecDepth 100000 in
theorem tables_B_few (A1 A2 : Option Addr) (n1 c1 n2 c2 : Nat) (la lb : Lpm.LL) (a b : Ed) (r : Rec) (t : Int) (w : World) (ht : Tab w) (h1 : Lp w.heap.size w A1 n1 la) (h2 : Lp w.heap.size w A2 n2 lb) (ga : Hid ((decide (n1 ≤ 20) && formedB a la) = true)) (gb : Hid ((decide (n2 ≤ 20) && formedB b lb) = true)) (m1 : n1 ≤ 110) (m2 : n2 ≤ 110) (fe : Hid (foE a b la lb = 0)) (fv : Hid (foV a b la lb = true)) (p1 : 0 ≤ t) (p2 : ¬ t < b.frm) (vr : Hid (Rc.validB r = true)) (fw : Hid (decide (r.unt - r.frm ≤ 1200) = false)) :
    Calls Tryd.prog 4 #[(.agg #[.int .i64 a.ver, .int .i64 a.frm, .int .i64 a.unt, .slice A1 n1 c1, .int .i64 a.sc, .int .i64 a.ss]), (.agg #[.int .i64 b.ver, .int .i64 b.frm, .int .i64 b.unt, .slice A2 n2 c2, .int .i64 b.sc, .int .i64 b.ss]), (.agg #[.int .i64 r.kind, .int .i64 r.every, .int .i64 r.wd, .int .i64 r.nth, .int .i64 r.frm, .int .i64 r.unt, .int .i64 r.sec, .bool r.shift, .bool r.both]), .int .i64 t] w (LawPost w) := by
  have HT : Hid (∀ W, Below w.heap.size w W → Tab W) := Lib.hid fun W hW => ht.below hW
  have H1 : Hid (∀ W, Below w.heap.size w W → Lp W.heap.size W A1 n1 la) := Lib.hid fun W hW => h1.go hW
  have H2 : Hid (∀ W, Below w.heap.size w W → Lp W.heap.size W A2 n2 lb) := Lib.hid fun W hW => h2.go hW
  have hb := Below.goN (Below.goN (Below.goN (Below.refl w.heap.size w) (.cells #[.int .i64 a.ver, .int .i64 a.frm, .int .i64 a.unt, .slice A1 n1 c1, .int .i64 a.sc, .int .i64 a.ss] 43)) (.cells #[.int .i64 b.ver, .int .i64 b.frm, .int .i64 b.unt, .slice A2 n2 c2, .int .i64 b.sc, .int .i64 b.ss] 43)) (.cells #[.int .i64 r.kind, .int .i64 r.every, .int .i64 r.wd, .int .i64 r.nth, .int .i64 r.frm, .int .i64 r.unt, .int .i64 r.sec, .bool r.shift, .bool r.both] 24)
  have ka := Lib.hid (new30 w (.cells #[.int .i64 a.ver, .int .i64 a.frm, .int .i64 a.unt, .slice A1 n1 c1, .int .i64 a.sc, .int .i64 a.ss] 43) (.cells #[.int .i64 b.ver, .int .i64 b.frm, .int .i64 b.unt, .slice A2 n2 c2, .int .i64 b.sc, .int .i64 b.ss] 43) (.cells #[.int .i64 r.kind, .int .i64 r.every, .int .i64 r.wd, .int .i64 r.nth, .int .i64 r.frm, .int .i64 r.unt, .int .i64 r.sec, .bool r.shift, .bool r.both] 24))
  have kb := Lib.hid (new31 w (.cells #[.int .i64 a.ver, .int .i64 a.frm, .int .i64 a.unt, .slice A1 n1 c1, .int .i64 a.sc, .int .i64 a.ss] 43) (.cells #[.int .i64 b.ver, .int .i64 b.frm, .int .i64 b.unt, .slice A2 n2 c2, .int .i64 b.sc, .int .i64 b.ss] 43) (.cells #[.int .i64 r.kind, .int .i64 r.every, .int .i64 r.wd, .int .i64 r.nth, .int .i64 r.frm, .int .i64 r.unt, .int .i64 r.sec, .bool r.shift, .bool r.both] 24))
  have kx := Lib.hid (new32 w (.cells #[.int .i64 a.ver, .int .i64 a.frm, .int .i64 a.unt, .slice A1 n1 c1, .int .i64 a.sc, .int .i64 a.ss] 43) (.cells #[.int .i64 b.ver, .int .i64 b.frm, .int .i64 b.unt, .slice A2 n2 c2, .int .i64 b.sc, .int .i64 b.ss] 43) (.cells #[.int .i64 r.kind, .int .i64 r.every, .int .i64 r.wd, .int .i64 r.nth, .int .i64 r.frm, .int .i64 r.unt, .int .i64 r.sec, .bool r.shift, .bool r.both] 24))
  clear ht h1 h2
  have p1' : decide (0 ≤ t) = true := decide_eq_true p1
  have p2' : decide (t < b.frm) = false := decide_eq_false p2
  go_enter Tryd.func4, Tryd.ntmps4
  go_wp2_with fail
  refine (head14 _ (HT.out _ hb)).mono ?_
  rintro e w1 ⟨rfl, hn⟩
  have hb := Below.go hb hn
  have ka := Lib.hid (keep' ka.out hn)
  have kb := Lib.hid (keep' kb.out hn)
  have kx := Lib.hid (keep' kx.out hn)
  clear hn
  obtain ⟨ka_0, ka_1, ka_2, ka_3, ka_4, ka_5⟩ := blk6 ka.out
  go_wp2_with fail
  refine (r14Ed_any A1 n1 c1 la a _ (H1.out _ hb)).mono ?_
  rintro e w2 ⟨rfl, hn⟩
  have hb := Below.go hb hn
  have ka := Lib.hid (keep' ka.out hn)
  have kb := Lib.hid (keep' kb.out hn)
  have kx := Lib.hid (keep' kx.out hn)
  clear hn
  rw [ga.out]
  clear ka_0 ka_1 ka_2 ka_3 ka_4 ka_5
  obtain ⟨kb_0, kb_1, kb_2, kb_3, kb_4, kb_5⟩ := blk6 kb.out
  go_wp2_with fail
  refine (r14Ed_any A2 n2 c2 lb b _ (H2.out _ hb)).mono ?_
  rintro e w3 ⟨rfl, hn⟩
  have hb := Below.go hb hn
  have ka := Lib.hid (keep' ka.out hn)
  have kb := Lib.hid (keep' kb.out hn)
  have kx := Lib.hid (keep' kx.out hn)
  clear hn
  rw [gb.out]
  clear kb_0 kb_1 kb_2 kb_3 kb_4 kb_5
  obtain ⟨ka_0, ka_1, ka_2, ka_3, ka_4, ka_5⟩ := blk6 ka.out
  obtain ⟨kb_0, kb_1, kb_2, kb_3, kb_4, kb_5⟩ := blk6 kb.out
  go_wp2_with fail
  refine (Follows_any A1 A2 n1 c1 n2 c2 la lb a b _ (H1.out _ hb) (H2.out _ hb) m1 m2).mono ?_
  rintro e w4 ⟨rfl, hn⟩
  have hb := Below.go hb hn
  have ka := Lib.hid (keep' ka.out hn)
  have kb := Lib.hid (keep' kb.out hn)
  have kx := Lib.hid (keep' kx.out hn)
  clear hn
  rw [fv.out, fe.out]
  clear ka_0 ka_1 ka_2 ka_3 ka_4 ka_5 kb_0 kb_1 kb_2 kb_3 kb_4 kb_5
  obtain ⟨kb_0, kb_1, kb_2, kb_3, kb_4, kb_5⟩ := blk6 kb.out
  obtain ⟨kx_0, kx_1, kx_2, kx_3, kx_4, kx_5, kx_6, kx_7, kx_8⟩ := blk9 kx.out
  go_wp2_with fail
  refine (refValid21_any r _).mono ?_
  rintro e w5 ⟨rfl, hn⟩
  have hb := Below.go hb hn
  have ka := Lib.hid (keep' ka.out hn)
  have kb := Lib.hid (keep' kb.out hn)
  have kx := Lib.hid (keep' kx.out hn)
  clear hn
  clear kx_0 kx_1 kx_2 kx_3 kx_4 kx_5 kx_6 kx_7 kx_8
  rw [vr.out]
  obtain ⟨kx_0, kx_1, kx_2, kx_3, kx_4, kx_5, kx_6, kx_7, kx_8⟩ := blk9 kx.out
  go_wp2_with fail
  refine (refFew21_any r _ (by have := (of_decide_eq_true vr.out : Rc.Val r).2.1; omega) (by have := (of_decide_eq_true vr.out : Rc.Val r).2.1; omega) (by have := (of_decide_eq_true vr.out : Rc.Val r).2.1; omega) (by have := (of_decide_eq_true vr.out : Rc.Val r).2.1; omega)).mono ?_
  rintro e w6 ⟨rfl, hn⟩
  have hb := Below.go hb hn
  have ka := Lib.hid (keep' ka.out hn)
  have kb := Lib.hid (keep' kb.out hn)
  have kx := Lib.hid (keep' kx.out hn)
  clear hn
  clear kx_0 kx_1 kx_2 kx_3 kx_4 kx_5 kx_6 kx_7 kx_8
  rw [fw.out]
  go_wp2
  go_ret
  exact ⟨by simp, hb⟩
set_option maxHeartbeats 2000000 in
set_option maxRecDepth 100000 in
theorem tables_B_lim (A1 A2 : Option Addr) (n1 c1 n2 c2 : Nat) (la lb : Lpm.LL) (a b : Ed) (r : Rec) (t : Int) (w : World) (ht : Tab w) (h1 : Lp w.heap.size w A1 n1 la) (h2 : Lp w.heap.size w A2 n2 lb) (ga : Hid ((decide (n1 ≤ 20) && formedB a la) = true)) (gb : Hid ((decide (n2 ≤ 20) && formedB b lb) = true)) (m1 : n1 ≤ 110) (m2 : n2 ≤ 110) (fe : Hid (foE a b la lb = 0)) (fv : Hid (foV a b la lb = true)) (p1 : 0 ≤ t) (p2 : ¬ t < b.frm) (vr : Hid (Rc.validB r = true)) (fw : Hid (decide (r.unt - r.frm ≤ 1200) = true)) (hr : Fit21 r) (EC : Hid (Rc.coE la lb r 0 = 2)) :
    Calls Tryd.prog 4 #[(.agg #[.int .i64 a.ver, .int .i64 a.frm, .int .i64 a.unt, .slice A1 n1 c1, .int .i64 a.sc, .int .i64 a.ss]), (.agg #[.int .i64 b.ver, .int .i64 b.frm, .int .i64 b.unt, .slice A2 n2 c2, .int .i64 b.sc, .int .i64 b.ss]), (.agg #[.int .i64 r.kind, .int .i64 r.every, .int .i64 r.wd, .int .i64 r.nth, .int .i64 r.frm, .int .i64 r.unt, .int .i64 r.sec, .bool r.shift, .bool r.both]), .int .i64 t] w (LawPost w) := by
  have HT : Hid (∀ W, Below w.heap.size w W → Tab W) := Lib.hid fun W hW => ht.below hW
  have H1 : Hid (∀ W, Below w.heap.size w W → Lp W.heap.size W A1 n1 la) := Lib.hid fun W hW => h1.go hW
  have H2 : Hid (∀ W, Below w.heap.size w W → Lp W.heap.size W A2 n2 lb) := Lib.hid fun W hW => h2.go hW
  have hb := Below.goN (Below.goN (Below.goN (Below.refl w.heap.size w) (.cells #[.int .i64 a.ver, .int .i64 a.frm, .int .i64 a.unt, .slice A1 n1 c1, .int .i64 a.sc, .int .i64 a.ss] 43)) (.cells #[.int .i64 b.ver, .int .i64 b.frm, .int .i64 b.unt, .slice A2 n2 c2, .int .i64 b.sc, .int .i64 b.ss] 43)) (.cells #[.int .i64 r.kind, .int .i64 r.every, .int .i64 r.wd, .int .i64 r.nth, .int .i64 r.frm, .int .i64 r.unt, .int .i64 r.sec, .bool r.shift, .bool r.both] 24)
  have ka := Lib.hid (new30 w (.cells #[.int .i64 a.ver, .int .i64 a.frm, .int .i64 a.unt, .slice A1 n1 c1, .int .i64 a.sc, .int .i64 a.ss] 43) (.cells #[.int .i64 b.ver, .int .i64 b.frm, .int .i64 b.unt, .slice A2 n2 c2, .int .i64 b.sc, .int .i64 b.ss] 43) (.cells #[.int .i64 r.kind, .int .i64 r.every, .int .i64 r.wd, .int .i64 r.nth, .int .i64 r.frm, .int .i64 r.unt, .int .i64 r.sec, .bool r.shift, .bool r.both] 24))
  have kb := Lib.hid (new31 w (.cells #[.int .i64 a.ver, .int .i64 a.frm, .int .i64 a.unt, .slice A1 n1 c1, .int .i64 a.sc, .int .i64 a.ss] 43) (.cells #[.int .i64 b.ver, .int .i64 b.frm, .int .i64 b.unt, .slice A2 n2 c2, .int .i64 b.sc, .int .i64 b.ss] 43) (.cells #[.int .i64 r.kind, .int .i64 r.every, .int .i64 r.wd, .int .i64 r.nth, .int .i64 r.frm, .int .i64 r.unt, .int .i64 r.sec, .bool r.shift, .bool r.both] 24))
  have kx := Lib.hid (new32 w (.cells #[.int .i64 a.ver, .int .i64 a.frm, .int .i64 a.unt, .slice A1 n1 c1, .int .i64 a.sc, .int .i64 a.ss] 43) (.cells #[.int .i64 b.ver, .int .i64 b.frm, .int .i64 b.unt, .slice A2 n2 c2, .int .i64 b.sc, .int .i64 b.ss] 43) (.cells #[.int .i64 r.kind, .int .i64 r.every, .int .i64 r.wd, .int .i64 r.nth, .int .i64 r.frm, .int .i64 r.unt, .int .i64 r.sec, .bool r.shift, .bool r.both] 24))
  clear ht h1 h2
  have p1' : decide (0 ≤ t) = true := decide_eq_true p1
  have p2' : decide (t < b.frm) = false := decide_eq_false p2
  go_enter Tryd.func4, Tryd.ntmps4
  go_wp2_with fail
  refine (head14 _ (HT.out _ hb)).mono ?_
  rintro e w1 ⟨rfl, hn⟩
  have hb := Below.go hb hn
  have ka := Lib.hid (keep' ka.out hn)
  have kb := Lib.hid (keep' kb.out hn)
  have kx := Lib.hid (keep' kx.out hn)
  clear hn
  obtain ⟨ka_0, ka_1, ka_2, ka_3, ka_4, ka_5⟩ := blk6 ka.out
  go_wp2_with fail
  refine (r14Ed_any A1 n1 c1 la a _ (H1.out _ hb)).mono ?_
  rintro e w2 ⟨rfl, hn⟩
  have hb := Below.go hb hn
  have ka := Lib.hid (keep' ka.out hn)
  have kb := Lib.hid (keep' kb.out hn)
  have kx := Lib.hid (keep' kx.out hn)
  clear hn
  rw [ga.out]
  clear ka_0 ka_1 ka_2 ka_3 ka_4 ka_5
  obtain ⟨kb_0, kb_1, kb_2, kb_3, kb_4, kb_5⟩ := blk6 kb.out
  go_wp2_with fail
  refine (r14Ed_any A2 n2 c2 lb b _ (H2.out _ hb)).mono ?_
  rintro e w3 ⟨rfl, hn⟩
  have hb := Below.go hb hn
  have ka := Lib.hid (keep' ka.out hn)
  have kb := Lib.hid (keep' kb.out hn)
  have kx := Lib.hid (keep' kx.out hn)
  clear hn
  rw [gb.out]
  clear kb_0 kb_1 kb_2 kb_3 kb_4 kb_5
  obtain ⟨ka_0, ka_1, ka_2, ka_3, ka_4, ka_5⟩ := blk6 ka.out
  obtain ⟨kb_0, kb_1, kb_2, kb_3, kb_4, kb_5⟩ := blk6 kb.out
  go_wp2_with fail
  refine (Follows_any A1 A2 n1 c1 n2 c2 la lb a b _ (H1.out _ hb) (H2.out _ hb) m1 m2).mono ?_
  rintro e w4 ⟨rfl, hn⟩
  have hb := Below.go hb hn
  have ka := Lib.hid (keep' ka.out hn)
  have kb := Lib.hid (keep' kb.out hn)
  have kx := Lib.hid (keep' kx.out hn)
  clear hn
  rw [fv.out, fe.out]
  clear ka_0 ka_1 ka_2 ka_3 ka_4 ka_5 kb_0 kb_1 kb_2 kb_3 kb_4 kb_5
  obtain ⟨kb_0, kb_1, kb_2, kb_3, kb_4, kb_5⟩ := blk6 kb.out
  obtain ⟨kx_0, kx_1, kx_2, kx_3, kx_4, kx_5, kx_6, kx_7, kx_8⟩ := blk9 kx.out
  go_wp2_with fail
  refine (refValid21_any r _).mono ?_
  rintro e w5 ⟨rfl, hn⟩
  have hb := Below.go hb hn
  have ka := Lib.hid (keep' ka.out hn)
  have kb := Lib.hid (keep' kb.out hn)
  have kx := Lib.hid (keep' kx.out hn)
  clear hn
  clear kx_0 kx_1 kx_2 kx_3 kx_4 kx_5 kx_6 kx_7 kx_8
  rw [vr.out]
  obtain ⟨kx_0, kx_1, kx_2, kx_3, kx_4, kx_5, kx_6, kx_7, kx_8⟩ := blk9 kx.out
  go_wp2_with fail
  refine (refFew21_any r _ (by have := (of_decide_eq_true vr.out : Rc.Val r).2.1; omega) (by have := (of_decide_eq_true vr.out : Rc.Val r).2.1; omega) (by have := (of_decide_eq_true vr.out : Rc.Val r).2.1; omega) (by have := (of_decide_eq_true vr.out : Rc.Val r).2.1; omega)).mono ?_
  rintro e w6 ⟨rfl, hn⟩
  have hb := Below.go hb hn
  have ka := Lib.hid (keep' ka.out hn)
  have kb := Lib.hid (keep' kb.out hn)
  have kx := Lib.hid (keep' kx.out hn)
  clear hn
  clear kx_0 kx_1 kx_2 kx_3 kx_4 kx_5 kx_6 kx_7 kx_8
  rw [fw.out]
  obtain ⟨ka_0, ka_1, ka_2, ka_3, ka_4, ka_5⟩ := blk6 ka.out
  obtain ⟨kb_0, kb_1, kb_2, kb_3, kb_4, kb_5⟩ := blk6 kb.out
  obtain ⟨kx_0, kx_1, kx_2, kx_3, kx_4, kx_5, kx_6, kx_7, kx_8⟩ := blk9 kx.out
  go_wp2_with fail
  refine (Correct_any A1 A2 n1 c1 n2 c2 la lb r 0 _ (HT.out _ hb) (H1.out _ hb) (H2.out _ hb) m1 m2 hr).mono ?_
  rintro e w7 ⟨B1, k1, z1, B2, k2, z2, rfl, hG1, hG2, hL1, hL2, hn⟩
  have hb := Below.go hb hn
  have ka := Lib.hid (keep' ka.out hn)
  have kb := Lib.hid (keep' kb.out hn)
  have kx := Lib.hid (keep' kx.out hn)
  clear hn
  clear ka_0 ka_1 ka_2 ka_3 ka_4 ka_5 kb_0 kb_1 kb_2 kb_3 kb_4 kb_5
  clear kx_0 kx_1 kx_2 kx_3 kx_4 kx_5 kx_6 kx_7 kx_8
  rw [EC.out]
  obtain rfl : k1 = 0 := by have := hL1.1; rw [(co_none (by rw [EC.out]; decide)).1] at this; exact this.symm
  obtain rfl : k2 = 0 := by have := hL2.1; rw [(co_none (by rw [EC.out]; decide)).2] at this; exact this.symm
  clear hL1 hL2 hG1 hG2
  go_wp2
  go_ret
  exact ⟨by simp, hb⟩
set_option maxHeartbeats 2000000 in
set_option maxRecDepth 100000 in
theorem tables_B_ok (A1 A2 : Option Addr) (n1 c1 n2 c2 : Nat) (la lb : Lpm.LL) (a b : Ed) (r : Rec) (t : Int) (w : World) (ht : Tab w) (h1 : Lp w.heap.size w A1 n1 la) (h2 : Lp w.heap.size w A2 n2 lb) (ga : Hid ((decide (n1 ≤ 20) && formedB a la) = true)) (gb : Hid ((decide (n2 ≤ 20) && formedB b lb) = true)) (m1 : n1 ≤ 110) (m2 : n2 ≤ 110) (fe : Hid (foE a b la lb = 0)) (fv : Hid (foV a b la lb = true)) (p1 : 0 ≤ t) (p2 : ¬ t < b.frm) (vr : Hid (Rc.validB r = true)) (fw : Hid (decide (r.unt - r.frm ≤ 1200) = true)) (hr : Fit21 r) (EC : Hid (Rc.coE la lb r 0 = 0)) (HD : Hid (∀ x, (x ∈ Rc.coF la lb r 0 ∨ x ∈ Rc.coN la lb r 0) → b.frm ≤ x.2)) :
    Calls Tryd.prog 4 #[(.agg #[.int .i64 a.ver, .int .i64 a.frm, .int .i64 a.unt, .slice A1 n1 c1, .int .i64 a.sc, .int .i64 a.ss]), (.agg #[.int .i64 b.ver, .int .i64 b.frm, .int .i64 b.unt, .slice A2 n2 c2, .int .i64 b.sc, .int .i64 b.ss]), (.agg #[.int .i64 r.kind, .int .i64 r.every, .int .i64 r.wd, .int .i64 r.nth, .int .i64 r.frm, .int .i64 r.unt, .int .i64 r.sec, .bool r.shift, .bool r.both]), .int .i64 t] w (LawPost w) := by
  have HT : Hid (∀ W, Below w.heap.size w W → Tab W) := Lib.hid fun W hW => ht.below hW
  have H1 : Hid (∀ W, Below w.heap.size w W → Lp W.heap.size W A1 n1 la) := Lib.hid fun W hW => h1.go hW
  have H2 : Hid (∀ W, Below w.heap.size w W → Lp W.heap.size W A2 n2 lb) := Lib.hid fun W hW => h2.go hW
  have hb := Below.goN (Below.goN (Below.goN (Below.refl w.heap.size w) (.cells #[.int .i64 a.ver, .int .i64 a.frm, .int .i64 a.unt, .slice A1 n1 c1, .int .i64 a.sc, .int .i64 a.ss] 43)) (.cells #[.int .i64 b.ver, .int .i64 b.frm, .int .i64 b.unt, .slice A2 n2 c2, .int .i64 b.sc, .int .i64 b.ss] 43)) (.cells #[.int .i64 r.kind, .int .i64 r.every, .int .i64 r.wd, .int .i64 r.nth, .int .i64 r.frm, .int .i64 r.unt, .int .i64 r.sec, .bool r.shift, .bool r.both] 24)
  have ka := Lib.hid (new30 w (.cells #[.int .i64 a.ver, .int .i64 a.frm, .int .i64 a.unt, .slice A1 n1 c1, .int .i64 a.sc, .int .i64 a.ss] 43) (.cells #[.int .i64 b.ver, .int .i64 b.frm, .int .i64 b.unt, .slice A2 n2 c2, .int .i64 b.sc, .int .i64 b.ss] 43) (.cells #[.int .i64 r.kind, .int .i64 r.every, .int .i64 r.wd, .int .i64 r.nth, .int .i64 r.frm, .int .i64 r.unt, .int .i64 r.sec, .bool r.shift, .bool r.both] 24))
  have kb := Lib.hid (new31 w (.cells #[.int .i64 a.ver, .int .i64 a.frm, .int .i64 a.unt, .slice A1 n1 c1, .int .i64 a.sc, .int .i64 a.ss] 43) (.cells #[.int .i64 b.ver, .int .i64 b.frm, .int .i64 b.unt, .slice A2 n2 c2, .int .i64 b.sc, .int .i64 b.ss] 43) (.cells #[.int .i64 r.kind, .int .i64 r.every, .int .i64 r.wd, .int .i64 r.nth, .int .i64 r.frm, .int .i64 r.unt, .int .i64 r.sec, .bool r.shift, .bool r.both] 24))
  have kx := Lib.hid (new32 w (.cells #[.int .i64 a.ver, .int .i64 a.frm, .int .i64 a.unt, .slice A1 n1 c1, .int .i64 a.sc, .int .i64 a.ss] 43) (.cells #[.int .i64 b.ver, .int .i64 b.frm, .int .i64 b.unt, .slice A2 n2 c2, .int .i64 b.sc, .int .i64 b.ss] 43) (.cells #[.int .i64 r.kind, .int .i64 r.every, .int .i64 r.wd, .int .i64 r.nth, .int .i64 r.frm, .int .i64 r.unt, .int .i64 r.sec, .bool r.shift, .bool r.both] 24))
  clear ht h1 h2
  have p1' : decide (0 ≤ t) = true := decide_eq_true p1
  have p2' : decide (t < b.frm) = false := decide_eq_false p2
  go_enter Tryd.func4, Tryd.ntmps4
  go_wp2_with fail
  refine (head14 _ (HT.out _ hb)).mono ?_
  rintro e w1 ⟨rfl, hn⟩
  have hb := Below.go hb hn
  have ka := Lib.hid (keep' ka.out hn)
  have kb := Lib.hid (keep' kb.out hn)
  have kx := Lib.hid (keep' kx.out hn)
  clear hn
  obtain ⟨ka_0, ka_1, ka_2, ka_3, ka_4, ka_5⟩ := blk6 ka.out
  go_wp2_with fail
  refine (r14Ed_any A1 n1 c1 la a _ (H1.out _ hb)).mono ?_
  rintro e w2 ⟨rfl, hn⟩
  have hb := Below.go hb hn
  have ka := Lib.hid (keep' ka.out hn)
  have kb := Lib.hid (keep' kb.out hn)
  have kx := Lib.hid (keep' kx.out hn)
  clear hn
  rw [ga.out]
  clear ka_0 ka_1 ka_2 ka_3 ka_4 ka_5
  obtain ⟨kb_0, kb_1, kb_2, kb_3, kb_4, kb_5⟩ := blk6 kb.out
  go_wp2_with fail
  refine (r14Ed_any A2 n2 c2 lb b _ (H2.out _ hb)).mono ?_
  rintro e w3 ⟨rfl, hn⟩
  have hb := Below.go hb hn
  have ka := Lib.hid (keep' ka.out hn)
  have kb := Lib.hid (keep' kb.out hn)
  have kx := Lib.hid (keep' kx.out hn)
  clear hn
  rw [gb.out]
  clear kb_0 kb_1 kb_2 kb_3 kb_4 kb_5
  obtain ⟨ka_0, ka_1, ka_2, ka_3, ka_4, ka_5⟩ := blk6 ka.out
  obtain ⟨kb_0, kb_1, kb_2, kb_3, kb_4, kb_5⟩ := blk6 kb.out
  go_wp2_with fail
  refine (Follows_any A1 A2 n1 c1 n2 c2 la lb a b _ (H1.out _ hb) (H2.out _ hb) m1 m2).mono ?_
  rintro e w4 ⟨rfl, hn⟩
  have hb := Below.go hb hn
  have ka := Lib.hid (keep' ka.out hn)
  have kb := Lib.hid (keep' kb.out hn)
  have kx := Lib.hid (keep' kx.out hn)
  clear hn
  rw [fv.out, fe.out]
  clear ka_0 ka_1 ka_2 ka_3 ka_4 ka_5 kb_0 kb_1 kb_2 kb_3 kb_4 kb_5
  obtain ⟨kb_0, kb_1, kb_2, kb_3, kb_4, kb_5⟩ := blk6 kb.out
  obtain ⟨kx_0, kx_1, kx_2, kx_3, kx_4, kx_5, kx_6, kx_7, kx_8⟩ := blk9 kx.out
  go_wp2_with fail
  refine (refValid21_any r _).mono ?_
  rintro e w5 ⟨rfl, hn⟩
  have hb := Below.go hb hn
  have ka := Lib.hid (keep' ka.out hn)
  have kb := Lib.hid (keep' kb.out hn)
  have kx := Lib.hid (keep' kx.out hn)
  clear hn
  clear kx_0 kx_1 kx_2 kx_3 kx_4 kx_5 kx_6 kx_7 kx_8
  rw [vr.out]
  obtain ⟨kx_0, kx_1, kx_2, kx_3, kx_4, kx_5, kx_6, kx_7, kx_8⟩ := blk9 kx.out
  go_wp2_with fail
  refine (refFew21_any r _ (by have := (of_decide_eq_true vr.out : Rc.Val r).2.1; omega) (by have := (of_decide_eq_true vr.out : Rc.Val r).2.1; omega) (by have := (of_decide_eq_true vr.out : Rc.Val r).2.1; omega) (by have := (of_decide_eq_true vr.out : Rc.Val r).2.1; omega)).mono ?_
  rintro e w6 ⟨rfl, hn⟩
  have hb := Below.go hb hn
  have ka := Lib.hid (keep' ka.out hn)
  have kb := Lib.hid (keep' kb.out hn)
  have kx := Lib.hid (keep' kx.out hn)
  clear hn
  clear kx_0 kx_1 kx_2 kx_3 kx_4 kx_5 kx_6 kx_7 kx_8
  rw [fw.out]
  obtain ⟨ka_0, ka_1, ka_2, ka_3, ka_4, ka_5⟩ := blk6 ka.out
  obtain ⟨kb_0, kb_1, kb_2, kb_3, kb_4, kb_5⟩ := blk6 kb.out
  obtain ⟨kx_0, kx_1, kx_2, kx_3, kx_4, kx_5, kx_6, kx_7, kx_8⟩ := blk9 kx.out
  go_wp2_with fail
  refine (Correct_any A1 A2 n1 c1 n2 c2 la lb r 0 _ (HT.out _ hb) (H1.out _ hb) (H2.out _ hb) m1 m2 hr).mono ?_
  rintro e w7 ⟨B1, k1, z1, B2, k2, z2, rfl, hG1, hG2, hL1, hL2, hn⟩
  have hb := Below.go hb hn
  have ka := Lib.hid (keep' ka.out hn)
  have kb := Lib.hid (keep' kb.out hn)
  have kx := Lib.hid (keep' kx.out hn)
  clear hn
  clear ka_0 ka_1 ka_2 ka_3 ka_4 ka_5 kb_0 kb_1 kb_2 kb_3 kb_4 kb_5
  clear kx_0 kx_1 kx_2 kx_3 kx_4 kx_5 kx_6 kx_7 kx_8
  rw [EC.out]
  have GL1 := Lib.hid hL1
  have GL2 := Lib.hid hL2
  have HG1 := Lib.hid hG1
  have HG2 := Lib.hid hG2
  have hk1 : k1 ≤ 1000 := by have := coF_len la lb r 0; rw [hL1.1] at this; exact this
  have hk2 : k2 ≤ 1000 := by have := coN_len la lb r 0; rw [hL2.1] at this; exact this
  clear hL1 hL2 hG1 hG2
  obtain ⟨w8, rfl⟩ : ∃ w8, w8 = w7 := ⟨_, rfl⟩
  have hb8 := hb
  obtain ⟨f0, fi, fz0, fz1, fz2⟩ := info_parts infoF
  have hb9 := Below.goN hb8 (.cells #[] tF)
  have q1 := Lib.hid (Lp.go GL1.out (Below.goN (Below.refl w8.heap.size w8) (.cells #[] tF)))
  have HM : Hid ((Rc.coF la lb r 0 ++ Rc.coN la lb r 0).length = k1 + k2) := Lib.hid (by rw [List.length_append, GL1.out.1, GL2.out.1])
  have HA : Hid (∀ j, j < k1 + k2 → b.frm ≤ ((Rc.coF la lb r 0 ++ Rc.coN la lb r 0)[j]?.getD (0, 0)).2) := Lib.hid fun j hj => by
    have hj' : j < (Rc.coF la lb r 0 ++ Rc.coN la lb r 0).length := by rw [HM.out]; exact hj
    rw [List.getElem?_eq_getElem hj']
    rcases List.mem_append.1 (List.getElem_mem hj') with h | h
    · exact HD.out _ (.inl h)
    · exact HD.out _ (.inr h)
  have hs8 : w8.heap.size ≤ (w8.alloc (.cells #[] tF)).heap.size := by simp
  go_wp2_with (first | (at_builtin; refine wpList_app_any rfl _ _ 28 rfl w8.heap.size tF _ (.agg #[.int .i64 0, .int .i64 0]) 2 16 Tryd.underlying28 fi fz0 fz1 fz2 rfl (by decide) (.slice (some ⟨w8.heap.size, 0, none⟩) 0 0) 0 [] rfl (own0_made w8 tF 2) B1 k1 z1 (cellsL (Rc.coF la lb r 0)) rfl (by rw [cellsL_len, GL1.out.1]) HG1.out (lp_news q1.out) (cellsL_one _) (by unfold maxLen; omega) (by omega) hs8 ?_; intro vA wA ownA growA; have hbA := Below.grown (Below.goN (Below.refl w8.heap.size w8) (.cells #[] tF)) growA (by simp) (fun g hg => ((own0_made w8 tF 2).lt g hg).1); have GB := Lib.hid (Lp.go GL2.out hbA); have HOA := Lib.hid ownA; clear ownA growA) | (at_builtin; refine wpList_app_any rfl _ _ 28 rfl w8.heap.size tF _ (.agg #[.int .i64 0, .int .i64 0]) 2 16 Tryd.underlying28 fi fz0 fz1 fz2 rfl (by decide) vA (0 + k1) _ rfl HOA.out B2 k2 z2 (cellsL (Rc.coN la lb r 0)) rfl (by rw [cellsL_len, GB.out.1]) HG2.out (lp_news GB.out) (cellsL_one _) (by unfold maxLen; omega) (by omega) hbA.size ?_; intro vB wB ownB growB; have hbB := Below.grown hbA growB (by have := hbA.size; omega) (fun g hg => (HOA.out.lt g hg).1); have ownB' : wB.ownsRow w8.heap.size tF 2 vB (k1 + k2) (cellsL (Rc.coF la lb r 0 ++ Rc.coN la lb r 0)) := (by rw [cellsL_app]; simpa using ownB); obtain ⟨AB, cB, rfl, -, -, hLB⟩ := own_lp ownB' HM.out; have LB := Lib.hid hLB; clear hLB ownB ownB' growB))
  have kbB := Lib.hid (keep' kb.out hbB)
  have hbB := Below.go hb8 hbB
  try simp only [len_ints, Result.andThen_ok]
  go_wp2
  go_loopw [9, 171] (fun u i wr => ∃ k : Nat, k ≤ k1 + k2 ∧ i = .int .i64 k ∧ u = .bool true ∧ Below wB.heap.size wB wr) (fun _ i _ => (k1 + k2) - (intOf i).toNat)
  case atStart => exact ⟨0, Nat.zero_le _, rfl, rfl, Below.refl _ _⟩
  case round =>
    obtain ⟨k, hk, rfl, rfl, hbr⟩ := hrel
    by_cases hlt : k < k1 + k2
    · obtain ⟨bk, off, rfl, hB, hc⟩ := LB.out.2 (by omega)
      have x0 := (hbr.cell (p := ⟨bk, off + k * 2, none⟩) hB).trans (hc k hlt).1
      have x1 := (hbr.cell (p := ⟨bk, off + k * 2 + 1, none⟩) hB).trans (hc k hlt).2
      clear hc
      have hD := HA.out k hlt
      generalize (Rc.coF la lb r 0 ++ Rc.coN la lb r 0)[k]?.getD (0, 0) = e at *
      obtain ⟨d, s⟩ := e
      have i0 : (0 : Int) ≤ (k : Int) := by omega
      have i1 : (k : Int) < (k1 : Int) + (k2 : Int) := by omega
      have i2 : (k : Int) < ((k1 + k2 : Nat) : Int) := by omega
      have hD' : b.frm ≤ s := hD
      clear hD
      obtain ⟨q0, q1', q2, q3, q4, q5⟩ := blk6 (keepN (keep' kbB.out hbr) (.cells #[.int .i64 d, .int .i64 s] tF))
      obtain ⟨⟨y0, y1⟩, -⟩ := blk2 (heap_new wr (.cells #[.int .i64 d, .int .i64 s] tF))
      have hD2 : decide (b.frm ≤ s) = true := decide_eq_true hD'
      clear hD'
      go_wp2
      go_roundw
      case rel => exact ⟨k + 1, by omega, by go_num, rfl, Below.goN hbr _⟩
      case measure => simp [intOf]; omega
    · obtain rfl : k = k1 + k2 := by omega
      go_wp2
      go_ret
      exact ⟨rfl, Below.go hbB hbr⟩
end Go.Proofs.YtcnenkhgbifmmaaDoor
