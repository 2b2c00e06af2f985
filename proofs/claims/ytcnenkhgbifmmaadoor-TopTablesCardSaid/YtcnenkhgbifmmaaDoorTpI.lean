/- The law TopTables: where the time is before the edition's begin; all ways together. -/
import Derived.Test.YtcnenkhgbifmmaaDoorTpH
set_option linter.unusedVariables false
namespace Go.Proofs.YtcnenkhgbifmmaaDoor
open Go.RowKit
set_option maxHeartbeats 2000000 in
set_option maxRecDepth 100000 in
theorem tables_E_vr (A1 A2 : Option Addr) (n1 c1 n2 c2 : Nat) (la lb : Lpm.LL) (a b : Ed) (r : Rec) (t : Int) (w : World) (ht : Tab w) (h1 : Lp w.heap.size w A1 n1 la) (h2 : Lp w.heap.size w A2 n2 lb) (ga : Hid ((decide (n1 ≤ 20) && formedB a la) = true)) (gb : Hid ((decide (n2 ≤ 20) && formedB b lb) = true)) (m1 : n1 ≤ 110) (m2 : n2 ≤ 110) (fe : Hid (foE a b la lb = 0)) (fv : Hid (foV a b la lb = true)) (p1 : 0 ≤ t) (p2 : t < b.frm) (va : Lpm.valid la = true) (vb : Lpm.valid lb = true) (E : Int) (e1 : Lpm.dE la t = E) (e2 : Lpm.dE lb t = E) (e3 : E ≠ 0) (vr : Hid (Rc.validB r = false)) :
    Calls Tryd.prog 4 #[(.agg #[.int .i64 a.ver, .int .i64 a.frm, .int .i64 a.unt, .slice A1 n1 c1, .int .i64 a.sc, .int .i64 a.ss]), (.agg #[.int .i64 b.ver, .int .i64 b.frm, .int .i64 b.unt, .slice A2 n2 c2, .int .i64 b.sc, .int .i64 b.ss]), (.agg #[.int .i64 r.kind, .int .i64 r.every, .int .i64 r.wd, .int .i64 r.nth, .int .i64 r.frm, .int .i64 r.unt, .int .i64 r.sec, .bool r.shift, .bool r.both]), .int .i64 t] w (LawPost w) := by
  have HT : Hid (∀ W, Below w.heap.size w W → Tab W) := Lib.hid fun W hW => ht.below hW
  have H1 : Hid (∀ W, Below w.heap.size w W → Lp W.heap.size W A1 n1 la) := Lib.hid fun W hW => h1.go hW
  have H2 : Hid (∀ W, Below w.heap.size w W → Lp W.heap.size W A2 n2 lb) := Lib.hid fun W hW => h2.go hW
  have hb := Below.goN (Below.goN (Below.goN (Below.refl w.heap.size w) (.cells #[.int .i64 a.ver, .int .i64 a.frm, .int .i64 a.unt, .slice A1 n1 c1, .int .i64 a.sc, .int .i64 a.ss] 43)) (.cells #[.int .i64 b.ver, .int .i64 b.frm, .int .i64 b.unt, .slice A2 n2 c2, .int .i64 b.sc, .int .i64 b.ss] 43)) (.cells #[.int .i64 r.kind, .int .i64 r.every, .int .i64 r.wd, .int .i64 r.nth, .int .i64 r.frm, .int .i64 r.unt, .int .i64 r.sec, .bool r.shift, .bool r.both] 24)
  have ka := Lib.hid (new30 w (.cells #[.int .i64 a.ver, .int .i64 a.frm, .int .i64 a.unt, .slice A1 n1 c1, .int .i64 a.sc, .int .i64 a.ss] 43) (.cells #[.int .i64 b.ver, .int .i64 b.frm, .int .i64 b.unt, .slice A2 n2 c2, .int .i64 b.sc, .int .i64 b.ss] 43) (.cells #[.int .i64 r.kind, .int .i64 r.every, .int .i64 r.wd, .int .i64 r.nth, .int .i64 r.frm, .int .i64 r.unt, .int .i64 r.sec, .bool r.shift, .bool r.both] 24))
  have kb := Lib.hid (new31 w (.cells #[.int .i64 a.ver, .int .i64 a.frm, .int .i64 a.unt, .slice A1 n1 c1, .int .i64 a.sc, .int .i64 a.ss] 43) (.cells #[.int .i64 b.ver, .int .i64 b.frm, .int .i64 b.unt, .slice A2 n2 c2, .int .i64 b.sc, .int .i64 b.ss] 43) (.cells #[.int .i64 r.kind, .int .i64 r.every, .int .i64 r.wd, .int .i64 r.nth, .int .i64 r.frm, .int .i64 r.unt, .int .i64 r.sec, .bool r.shift, .bool r.both] 24))
  have kx := Lib.hid (new32 w (.cells #[.int .i64 a.ver, .int .i64 a.frm, .int .i64 a.unt, .slice A1 n1 c1, .int .i64 a.sc, .int .i64 a.ss] 43) (.cells #[.int .i64 b.ver, .int .i64 b.frm, .int .i64 b.unt, .slice A2 n2 c2, .int .i64 b.sc, .int .i64 b.ss] 43) (.cells #[.int .i64 r.kind, .int .i64 r.every, .int .i64 r.wd, .int .i64 r.nth, .int .i64 r.frm, .int .i64 r.unt, .int .i64 r.sec, .bool r.shift, .bool r.both] 24))
  clear ht h1 h2
  have p1' : decide (0 ≤ t) = true := decide_eq_true p1
  have p2' : decide (t < b.frm) = true := decide_eq_true p2
  have T1 := fun (W : World) (hb : Below w.heap.size w W) => To_err A1 n1 c1 la t W (H1.out W hb) m1 (by rw [e1]; exact e3)
  have T2 := fun (W : World) (hb : Below w.heap.size w W) => To_err A2 n2 c2 lb t W (H2.out W hb) m2 (by rw [e2]; exact e3)
  have S1 := fun (W : World) (hb : Below w.heap.size w W) => Show_err A1 n1 c1 la t W (H1.out W hb) m1 (by rw [e1]; exact e3)
  have S2 := fun (W : World) (hb : Below w.heap.size w W) => Show_err A2 n2 c2 lb t W (H2.out W hb) m2 (by rw [e2]; exact e3)
  have q1 : AtDay la 0 0 := at_zero va
  have q2 : AtDay lb 0 0 := at_zero vb
  have V1 := fun (W : World) (hb : Below w.heap.size w W) => Move_at A1 A2 n1 c1 n2 c2 la lb 0 0 0 W (H1.out W hb) (H2.out W hb) m1 m2 q1 q2
  rw [e1] at T1 S1
  rw [e2] at T2 S2
  rw [Lpm.start_zero va, Lpm.start_zero vb, Int.sub_self] at V1
  have hE : (E == 0) = false := beq_of e3
  have hE' : (E != 0) = true := bne_of e3
  clear e1 e2 e3 q1 q2
  have T1 := Lib.hid T1
  have T2 := Lib.hid T2
  have S1 := Lib.hid S1
  have S2 := Lib.hid S2
  have V1 := Lib.hid V1
  go_enter Tryd.func4, Tryd.ntmps4
  go_wp2_with fail
  refine (head14 _ (HT.out _ hb)).mono ?_
  rintro e w1 ⟨rfl, hn⟩
  have hb := Below.go hb hn
  have ka := Lib.hid (keep' ka.out hn)
  have kb := Lib.hid (keep' kb.out hn)
  have kx := Lib.hid (keep' kx.out hn)
  clear hn
  obtain ⟨ka_0, ka_1, ka_2, ka_3, ka_4, ka_5⟩ := blk6 ka.out
  go_wp2_with fail
  refine (r14Ed_any A1 n1 c1 la a _ (H1.out _ hb)).mono ?_
  rintro e w2 ⟨rfl, hn⟩
  have hb := Below.go hb hn
  have ka := Lib.hid (keep' ka.out hn)
  have kb := Lib.hid (keep' kb.out hn)
  have kx := Lib.hid (keep' kx.out hn)
  clear hn
  rw [ga.out]
  clear ka_0 ka_1 ka_2 ka_3 ka_4 ka_5
  obtain ⟨kb_0, kb_1, kb_2, kb_3, kb_4, kb_5⟩ := blk6 kb.out
  go_wp2_with fail
  refine (r14Ed_any A2 n2 c2 lb b _ (H2.out _ hb)).mono ?_
  rintro e w3 ⟨rfl, hn⟩
  have hb := Below.go hb hn
  have ka := Lib.hid (keep' ka.out hn)
  have kb := Lib.hid (keep' kb.out hn)
  have kx := Lib.hid (keep' kx.out hn)
  clear hn
  rw [gb.out]
  clear kb_0 kb_1 kb_2 kb_3 kb_4 kb_5
  obtain ⟨ka_0, ka_1, ka_2, ka_3, ka_4, ka_5⟩ := blk6 ka.out
  obtain ⟨kb_0, kb_1, kb_2, kb_3, kb_4, kb_5⟩ := blk6 kb.out
  go_wp2_with fail
  refine (Follows_any A1 A2 n1 c1 n2 c2 la lb a b _ (H1.out _ hb) (H2.out _ hb) m1 m2).mono ?_
  rintro e w4 ⟨rfl, hn⟩
  have hb := Below.go hb hn
  have ka := Lib.hid (keep' ka.out hn)
  have kb := Lib.hid (keep' kb.out hn)
  have kx := Lib.hid (keep' kx.out hn)
  clear hn
  rw [fv.out, fe.out]
  clear ka_0 ka_1 ka_2 ka_3 ka_4 ka_5 kb_0 kb_1 kb_2 kb_3 kb_4 kb_5
  obtain ⟨ka_0, ka_1, ka_2, ka_3, ka_4, ka_5⟩ := blk6 ka.out
  obtain ⟨kb_0, kb_1, kb_2, kb_3, kb_4, kb_5⟩ := blk6 kb.out
  go_wp2_with fail
  refine (T1.out _ hb).mono ?_
  rintro e w5 ⟨rfl, hn⟩
  have hb := Below.go hb hn
  have ka := Lib.hid (keep' ka.out hn)
  have kb := Lib.hid (keep' kb.out hn)
  have kx := Lib.hid (keep' kx.out hn)
  clear hn
  clear ka_0 ka_1 ka_2 ka_3 ka_4 ka_5 kb_0 kb_1 kb_2 kb_3 kb_4 kb_5
  have k12 := Lib.hid (heap_new w5 (.cells #[.int .i64 0, .int .i64 0] 48))
  have ka := Lib.hid (keepN ka.out (.cells #[.int .i64 0, .int .i64 0] 48))
  have kb := Lib.hid (keepN kb.out (.cells #[.int .i64 0, .int .i64 0] 48))
  have kx := Lib.hid (keepN kx.out (.cells #[.int .i64 0, .int .i64 0] 48))
  have hb := Below.goN hb (.cells #[.int .i64 0, .int .i64 0] 48)
  obtain ⟨kb_0, kb_1, kb_2, kb_3, kb_4, kb_5⟩ := blk6 kb.out
  go_wp2_with fail
  refine (T2.out _ hb).mono ?_
  rintro e w6 ⟨rfl, hn⟩
  have hb := Below.go hb hn
  have ka := Lib.hid (keep' ka.out hn)
  have kb := Lib.hid (keep' kb.out hn)
  have kx := Lib.hid (keep' kx.out hn)
  have k12 := Lib.hid (keep' k12.out hn)
  clear hn
  clear kb_0 kb_1 kb_2 kb_3 kb_4 kb_5
  have k14 := Lib.hid (heap_new w6 (.cells #[.int .i64 0, .int .i64 0] 48))
  have ka := Lib.hid (keepN ka.out (.cells #[.int .i64 0, .int .i64 0] 48))
  have kb := Lib.hid (keepN kb.out (.cells #[.int .i64 0, .int .i64 0] 48))
  have kx := Lib.hid (keepN kx.out (.cells #[.int .i64 0, .int .i64 0] 48))
  have k12 := Lib.hid (keepN k12.out (.cells #[.int .i64 0, .int .i64 0] 48))
  have hb := Below.goN hb (.cells #[.int .i64 0, .int .i64 0] 48)
  obtain ⟨ka_0, ka_1, ka_2, ka_3, ka_4, ka_5⟩ := blk6 ka.out
  go_wp2_with fail
  refine (S1.out _ hb).mono ?_
  rintro e w7 ⟨rfl, hn⟩
  have hb := Below.go hb hn
  have ka := Lib.hid (keep' ka.out hn)
  have kb := Lib.hid (keep' kb.out hn)
  have kx := Lib.hid (keep' kx.out hn)
  have k12 := Lib.hid (keep' k12.out hn)
  have k14 := Lib.hid (keep' k14.out hn)
  clear hn
  clear ka_0 ka_1 ka_2 ka_3 ka_4 ka_5
  have k16 := Lib.hid (heap_new w7 (.cells #[.int .i64 0, .int .i64 0, .int .i64 0] 52))
  have ka := Lib.hid (keepN ka.out (.cells #[.int .i64 0, .int .i64 0, .int .i64 0] 52))
  have kb := Lib.hid (keepN kb.out (.cells #[.int .i64 0, .int .i64 0, .int .i64 0] 52))
  have kx := Lib.hid (keepN kx.out (.cells #[.int .i64 0, .int .i64 0, .int .i64 0] 52))
  have k12 := Lib.hid (keepN k12.out (.cells #[.int .i64 0, .int .i64 0, .int .i64 0] 52))
  have k14 := Lib.hid (keepN k14.out (.cells #[.int .i64 0, .int .i64 0, .int .i64 0] 52))
  have hb := Below.goN hb (.cells #[.int .i64 0, .int .i64 0, .int .i64 0] 52)
  obtain ⟨kb_0, kb_1, kb_2, kb_3, kb_4, kb_5⟩ := blk6 kb.out
  go_wp2_with fail
  refine (S2.out _ hb).mono ?_
  rintro e w8 ⟨rfl, hn⟩
  have hb := Below.go hb hn
  have ka := Lib.hid (keep' ka.out hn)
  have kb := Lib.hid (keep' kb.out hn)
  have kx := Lib.hid (keep' kx.out hn)
  have k12 := Lib.hid (keep' k12.out hn)
  have k14 := Lib.hid (keep' k14.out hn)
  have k16 := Lib.hid (keep' k16.out hn)
  clear hn
  clear kb_0 kb_1 kb_2 kb_3 kb_4 kb_5
  have k18 := Lib.hid (heap_new w8 (.cells #[.int .i64 0, .int .i64 0, .int .i64 0] 52))
  have ka := Lib.hid (keepN ka.out (.cells #[.int .i64 0, .int .i64 0, .int .i64 0] 52))
  have kb := Lib.hid (keepN kb.out (.cells #[.int .i64 0, .int .i64 0, .int .i64 0] 52))
  have kx := Lib.hid (keepN kx.out (.cells #[.int .i64 0, .int .i64 0, .int .i64 0] 52))
  have k12 := Lib.hid (keepN k12.out (.cells #[.int .i64 0, .int .i64 0, .int .i64 0] 52))
  have k14 := Lib.hid (keepN k14.out (.cells #[.int .i64 0, .int .i64 0, .int .i64 0] 52))
  have k16 := Lib.hid (keepN k16.out (.cells #[.int .i64 0, .int .i64 0, .int .i64 0] 52))
  have hb := Below.goN hb (.cells #[.int .i64 0, .int .i64 0, .int .i64 0] 52)
  obtain ⟨ka_0, ka_1, ka_2, ka_3, ka_4, ka_5⟩ := blk6 ka.out
  obtain ⟨kb_0, kb_1, kb_2, kb_3, kb_4, kb_5⟩ := blk6 kb.out
  obtain ⟨⟨x12, y12⟩, -⟩ := blk2 k12.out
  go_wp2_with fail
  refine (V1.out _ hb).mono ?_
  rintro e w9 ⟨rfl, hn⟩
  have hb := Below.go hb hn
  have ka := Lib.hid (keep' ka.out hn)
  have kb := Lib.hid (keep' kb.out hn)
  have kx := Lib.hid (keep' kx.out hn)
  have k12 := Lib.hid (keep' k12.out hn)
  have k14 := Lib.hid (keep' k14.out hn)
  have k16 := Lib.hid (keep' k16.out hn)
  have k18 := Lib.hid (keep' k18.out hn)
  clear hn
  clear ka_0 ka_1 ka_2 ka_3 ka_4 ka_5 kb_0 kb_1 kb_2 kb_3 kb_4 kb_5
  clear x12 y12
  have k20 := Lib.hid (heap_new w9 (.cells #[.int .i64 0, .int .i64 0] 48))
  have ka := Lib.hid (keepN ka.out (.cells #[.int .i64 0, .int .i64 0] 48))
  have kb := Lib.hid (keepN kb.out (.cells #[.int .i64 0, .int .i64 0] 48))
  have kx := Lib.hid (keepN kx.out (.cells #[.int .i64 0, .int .i64 0] 48))
  have k12 := Lib.hid (keepN k12.out (.cells #[.int .i64 0, .int .i64 0] 48))
  have k14 := Lib.hid (keepN k14.out (.cells #[.int .i64 0, .int .i64 0] 48))
  have k16 := Lib.hid (keepN k16.out (.cells #[.int .i64 0, .int .i64 0] 48))
  have k18 := Lib.hid (keepN k18.out (.cells #[.int .i64 0, .int .i64 0] 48))
  have hb := Below.goN hb (.cells #[.int .i64 0, .int .i64 0] 48)
  clear T1 T2 S1 S2 V1
  obtain ⟨⟨x12, y12⟩, -⟩ := blk2 k12.out
  obtain ⟨⟨x14, y14⟩, -⟩ := blk2 k14.out
  obtain ⟨⟨x20, y20⟩, -⟩ := blk2 k20.out
  obtain ⟨⟨x16, y16, z16⟩, -⟩ := blk3 k16.out
  obtain ⟨⟨x18, y18, z18⟩, -⟩ := blk3 k18.out
  obtain ⟨kx_0, kx_1, kx_2, kx_3, kx_4, kx_5, kx_6, kx_7, kx_8⟩ := blk9 kx.out
  go_wp2_with fail
  refine (refValid21_any r _).mono ?_
  rintro e w10 ⟨rfl, hn⟩
  have hb := Below.go hb hn
  have ka := Lib.hid (keep' ka.out hn)
  have kb := Lib.hid (keep' kb.out hn)
  have kx := Lib.hid (keep' kx.out hn)
  clear hn
  clear kx_0 kx_1 kx_2 kx_3 kx_4 kx_5 kx_6 kx_7 kx_8
  rw [vr.out]
  go_wp2
  go_ret
  exact ⟨by simp, hb⟩
set_option maxHeartbeats 2000000 in
set_option maxRecDepth 100000 in
theorem tables_E_few (A1 A2 : Option Addr) (n1 c1 n2 c2 : Nat) (la lb : Lpm.LL) (a b : Ed) (r : Rec) (t : Int) (w : World) (ht : Tab w) (h1 : Lp w.heap.size w A1 n1 la) (h2 : Lp w.heap.size w A2 n2 lb) (ga : Hid ((decide (n1 ≤ 20) && formedB a la) = true)) (gb : Hid ((decide (n2 ≤ 20) && formedB b lb) = true)) (m1 : n1 ≤ 110) (m2 : n2 ≤ 110) (fe : Hid (foE a b la lb = 0)) (fv : Hid (foV a b la lb = true)) (p1 : 0 ≤ t) (p2 : t < b.frm) (va : Lpm.valid la = true) (vb : Lpm.valid lb = true) (E : Int) (e1 : Lpm.dE la t = E) (e2 : Lpm.dE lb t = E) (e3 : E ≠ 0) (vr : Hid (Rc.validB r = true)) (fw : Hid (decide (r.unt - r.frm ≤ 1200) = false)) :
    Calls Tryd.prog 4 #[(.agg #[.int .i64 a.ver, .int .i64 a.frm, .int .i64 a.unt, .slice A1 n1 c1, .int .i64 a.sc, .int .i64 a.ss]), (.agg #[.int .i64 b.ver, .int .i64 b.frm, .int .i64 b.unt, .slice A2 n2 c2, .int .i64 b.sc, .int .i64 b.ss]), (.agg #[.int .i64 r.kind, .int .i64 r.every, .int .i64 r.wd, .int .i64 r.nth, .int .i64 r.frm, .int .i64 r.unt, .int .i64 r.sec, .bool r.shift, .bool r.both]), .int .i64 t] w (LawPost w) := by
  have HT : Hid (∀ W, Below w.heap.size w W → Tab W) := Lib.hid fun W hW => ht.below hW
  have H1 : Hid (∀ W, Below w.heap.size w W → Lp W.heap.size W A1 n1 la) := Lib.hid fun W hW => h1.go hW
  have H2 : Hid (∀ W, Below w.heap.size w W → Lp W.heap.size W A2 n2 lb) := Lib.hid fun W hW => h2.go hW
  have hb := Below.goN (Below.goN (Below.goN (Below.refl w.heap.size w) (.cells #[.int .i64 a.ver, .int .i64 a.frm, .int .i64 a.unt, .slice A1 n1 c1, .int .i64 a.sc, .int .i64 a.ss] 43)) (.cells #[.int .i64 b.ver, .int .i64 b.frm, .int .i64 b.unt, .slice A2 n2 c2, .int .i64 b.sc, .int .i64 b.ss] 43)) (.cells #[.int .i64 r.kind, .int .i64 r.every, .int .i64 r.wd, .int .i64 r.nth, .int .i64 r.frm, .int .i64 r.unt, .int .i64 r.sec, .bool r.shift, .bool r.both] 24)
  have ka := Lib.hid (new30 w (.cells #[.int .i64 a.ver, .int .i64 a.frm, .int .i64 a.unt, .slice A1 n1 c1, .int .i64 a.sc, .int .i64 a.ss] 43) (.cells #[.int .i64 b.ver, .int .i64 b.frm, .int .i64 b.unt, .slice A2 n2 c2, .int .i64 b.sc, .int .i64 b.ss] 43) (.cells #[.int .i64 r.kind, .int .i64 r.every, .int .i64 r.wd, .int .i64 r.nth, .int .i64 r.frm, .int .i64 r.unt, .int .i64 r.sec, .bool r.shift, .bool r.both] 24))
  have kb := Lib.hid (new31 w (.cells #[.int .i64 a.ver, .int .i64 a.frm, .int .i64 a.unt, .slice A1 n1 c1, .int .i64 a.sc, .int .i64 a.ss] 43) (.cells #[.int .i64 b.ver, .int .i64 b.frm, .int .i64 b.unt, .slice A2 n2 c2, .int .i64 b.sc, .int .i64 b.ss] 43) (.cells #[.int .i64 r.kind, .int .i64 r.every, .int .i64 r.wd, .int .i64 r.nth, .int .i64 r.frm, .int .i64 r.unt, .int .i64 r.sec, .bool r.shift, .bool r.both] 24))
  have kx := Lib.hid (new32 w (.cells #[.int .i64 a.ver, .int .i64 a.frm, .int .i64 a.unt, .slice A1 n1 c1, .int .i64 a.sc, .int .i64 a.ss] 43) (.cells #[.int .i64 b.ver, .int .i64 b.frm, .int .i64 b.unt, .slice A2 n2 c2, .int .i64 b.sc, .int .i64 b.ss] 43) (.cells #[.int .i64 r.kind, .int .i64 r.every, .int .i64 r.wd, .int .i64 r.nth, .int .i64 r.frm, .int .i64 r.unt, .int .i64 r.sec, .bool r.shift, .bool r.both] 24))
  clear ht h1 h2
  have p1' : decide (0 ≤ t) = true := decide_eq_true p1
  have p2' : decide (t < b.frm) = true := decide_eq_true p2
  have T1 := fun (W : World) (hb : Below w.heap.size w W) => To_err A1 n1 c1 la t W (H1.out W hb) m1 (by rw [e1]; exact e3)
  have T2 := fun (W : World) (hb : Below w.heap.size w W) => To_err A2 n2 c2 lb t W (H2.out W hb) m2 (by rw [e2]; exact e3)
  have S1 := fun (W : World) (hb : Below w.heap.size w W) => Show_err A1 n1 c1 la t W (H1.out W hb) m1 (by rw [e1]; exact e3)
  have S2 := fun (W : World) (hb : Below w.heap.size w W) => Show_err A2 n2 c2 lb t W (H2.out W hb) m2 (by rw [e2]; exact e3)
  have q1 : AtDay la 0 0 := at_zero va
  have q2 : AtDay lb 0 0 := at_zero vb
  have V1 := fun (W : World) (hb : Below w.heap.size w W) => Move_at A1 A2 n1 c1 n2 c2 la lb 0 0 0 W (H1.out W hb) (H2.out W hb) m1 m2 q1 q2
  rw [e1] at T1 S1
  rw [e2] at T2 S2
  rw [Lpm.start_zero va, Lpm.start_zero vb, Int.sub_self] at V1
  have hE : (E == 0) = false := beq_of e3
  have hE' : (E != 0) = true := bne_of e3
  clear e1 e2 e3 q1 q2
  have T1 := Lib.hid T1
  have T2 := Lib.hid T2
  have S1 := Lib.hid S1
  have S2 := Lib.hid S2
  have V1 := Lib.hid V1
  go_enter Tryd.func4, Tryd.ntmps4
  go_wp2_with fail
  refine (head14 _ (HT.out _ hb)).mono ?_
  rintro e w1 ⟨rfl, hn⟩
  have hb := Below.go hb hn
  have ka := Lib.hid (keep' ka.out hn)
  have kb := Lib.hid (keep' kb.out hn)
  have kx := Lib.hid (keep' kx.out hn)
  clear hn
  obtain ⟨ka_0, ka_1, ka_2, ka_3, ka_4, ka_5⟩ := blk6 ka.out
  go_wp2_with fail
  refine (r14Ed_any A1 n1 c1 la a _ (H1.out _ hb)).mono ?_
  rintro e w2 ⟨rfl, hn⟩
  have hb := Below.go hb hn
  have ka := Lib.hid (keep' ka.out hn)
  have kb := Lib.hid (keep' kb.out hn)
  have kx := Lib.hid (keep' kx.out hn)
  clear hn
  rw [ga.out]
  clear ka_0 ka_1 ka_2 ka_3 ka_4 ka_5
  obtain ⟨kb_0, kb_1, kb_2, kb_3, kb_4, kb_5⟩ := blk6 kb.out
  go_wp2_with fail
  refine (r14Ed_any A2 n2 c2 lb b _ (H2.out _ hb)).mono ?_
  rintro e w3 ⟨rfl, hn⟩
  have hb := Below.go hb hn
  have ka := Lib.hid (keep' ka.out hn)
  have kb := Lib.hid (keep' kb.out hn)
  have kx := Lib.hid (keep' kx.out hn)
  clear hn
  rw [gb.out]
  clear kb_0 kb_1 kb_2 kb_3 kb_4 kb_5
  obtain ⟨ka_0, ka_1, ka_2, ka_3, ka_4, ka_5⟩ := blk6 ka.out
  obtain ⟨kb_0, kb_1, kb_2, kb_3, kb_4, kb_5⟩ := blk6 kb.out
  go_wp2_with fail
  refine (Follows_any A1 A2 n1 c1 n2 c2 la lb a b _ (H1.out _ hb) (H2.out _ hb) m1 m2).mono ?_
  rintro e w4 ⟨rfl, hn⟩
  have hb := Below.go hb hn
  have ka := Lib.hid (keep' ka.out hn)
  have kb := Lib.hid (keep' kb.out hn)
  have kx := Lib.hid (keep' kx.out hn)
  clear hn
  rw [fv.out, fe.out]
  clear ka_0 ka_1 ka_2 ka_3 ka_4 ka_5 kb_0 kb_1 kb_2 kb_3 kb_4 kb_5
  obtain ⟨ka_0, ka_1, ka_2, ka_3, ka_4, ka_5⟩ := blk6 ka.out
  obtain ⟨kb_0, kb_1, kb_2, kb_3, kb_4, kb_5⟩ := blk6 kb.out
  go_wp2_with fail
  refine (T1.out _ hb).mono ?_
  rintro e w5 ⟨rfl, hn⟩
  have hb := Below.go hb hn
  have ka := Lib.hid (keep' ka.out hn)
  have kb := Lib.hid (keep' kb.out hn)
  have kx := Lib.hid (keep' kx.out hn)
  clear hn
  clear ka_0 ka_1 ka_2 ka_3 ka_4 ka_5 kb_0 kb_1 kb_2 kb_3 kb_4 kb_5
  have k12 := Lib.hid (heap_new w5 (.cells #[.int .i64 0, .int .i64 0] 48))
  have ka := Lib.hid (keepN ka.out (.cells #[.int .i64 0, .int .i64 0] 48))
  have kb := Lib.hid (keepN kb.out (.cells #[.int .i64 0, .int .i64 0] 48))
  have kx := Lib.hid (keepN kx.out (.cells #[.int .i64 0, .int .i64 0] 48))
  have hb := Below.goN hb (.cells #[.int .i64 0, .int .i64 0] 48)
  obtain ⟨kb_0, kb_1, kb_2, kb_3, kb_4, kb_5⟩ := blk6 kb.out
  go_wp2_with fail
  refine (T2.out _ hb).mono ?_
  rintro e w6 ⟨rfl, hn⟩
  have hb := Below.go hb hn
  have ka := Lib.hid (keep' ka.out hn)
  have kb := Lib.hid (keep' kb.out hn)
  have kx := Lib.hid (keep' kx.out hn)
  have k12 := Lib.hid (keep' k12.out hn)
  clear hn
  clear kb_0 kb_1 kb_2 kb_3 kb_4 kb_5
  have k14 := Lib.hid (heap_new w6 (.cells #[.int .i64 0, .int .i64 0] 48))
  have ka := Lib.hid (keepN ka.out (.cells #[.int .i64 0, .int .i64 0] 48))
  have kb := Lib.hid (keepN kb.out (.cells #[.int .i64 0, .int .i64 0] 48))
  have kx := Lib.hid (keepN kx.out (.cells #[.int .i64 0, .int .i64 0] 48))
  have k12 := Lib.hid (keepN k12.out (.cells #[.int .i64 0, .int .i64 0] 48))
  have hb := Below.goN hb (.cells #[.int .i64 0, .int .i64 0] 48)
  obtain ⟨ka_0, ka_1, ka_2, ka_3, ka_4, ka_5⟩ := blk6 ka.out
  go_wp2_with fail
  refine (S1.out _ hb).mono ?_
  rintro e w7 ⟨rfl, hn⟩
  have hb := Below.go hb hn
  have ka := Lib.hid (keep' ka.out hn)
  have kb := Lib.hid (keep' kb.out hn)
  have kx := Lib.hid (keep' kx.out hn)
  have k12 := Lib.hid (keep' k12.out hn)
  have k14 := Lib.hid (keep' k14.out hn)
  clear hn
  clear ka_0 ka_1 ka_2 ka_3 ka_4 ka_5
  have k16 := Lib.hid (heap_new w7 (.cells #[.int .i64 0, .int .i64 0, .int .i64 0] 52))
  have ka := Lib.hid (keepN ka.out (.cells #[.int .i64 0, .int .i64 0, .int .i64 0] 52))
  have kb := Lib.hid (keepN kb.out (.cells #[.int .i64 0, .int .i64 0, .int .i64 0] 52))
  have kx := Lib.hid (keepN kx.out (.cells #[.int .i64 0, .int .i64 0, .int .i64 0] 52))
  have k12 := Lib.hid (keepN k12.out (.cells #[.int .i64 0, .int .i64 0, .int .i64 0] 52))
  have k14 := Lib.hid (keepN k14.out (.cells #[.int .i64 0, .int .i64 0, .int .i64 0] 52))
  have hb := Below.goN hb (.cells #[.int .i64 0, .int .i64 0, .int .i64 0] 52)
  obtain ⟨kb_0, kb_1, kb_2, kb_3, kb_4, kb_5⟩ := blk6 kb.out
  go_wp2_with fail
  refine (S2.out _ hb).mono ?_
  rintro e w8 ⟨rfl, hn⟩
  have hb := Below.go hb hn
  have ka := Lib.hid (keep' ka.out hn)
  have kb := Lib.hid (keep' kb.out hn)
  have kx := Lib.hid (keep' kx.out hn)
  have k12 := Lib.hid (keep' k12.out hn)
  have k14 := Lib.hid (keep' k14.out hn)
  have k16 := Lib.hid (keep' k16.out hn)
  clear hn
  clear kb_0 kb_1 kb_2 kb_3 kb_4 kb_5
  have k18 := Lib.hid (heap_new w8 (.cells #[.int .i64 0, .int .i64 0, .int .i64 0] 52))
  have ka := Lib.hid (keepN ka.out (.cells #[.int .i64 0, .int .i64 0, .int .i64 0] 52))
  have kb := Lib.hid (keepN kb.out (.cells #[.int .i64 0, .int .i64 0, .int .i64 0] 52))
  have kx := Lib.hid (keepN kx.out (.cells #[.int .i64 0, .int .i64 0, .int .i64 0] 52))
  have k12 := Lib.hid (keepN k12.out (.cells #[.int .i64 0, .int .i64 0, .int .i64 0] 52))
  have k14 := Lib.hid (keepN k14.out (.cells #[.int .i64 0, .int .i64 0, .int .i64 0] 52))
  have k16 := Lib.hid (keepN k16.out (.cells #[.int .i64 0, .int .i64 0, .int .i64 0] 52))
  have hb := Below.goN hb (.cells #[.int .i64 0, .int .i64 0, .int .i64 0] 52)
  obtain ⟨ka_0, ka_1, ka_2, ka_3, ka_4, ka_5⟩ := blk6 ka.out
  obtain ⟨kb_0, kb_1, kb_2, kb_3, kb_4, kb_5⟩ := blk6 kb.out
  obtain ⟨⟨x12, y12⟩, -⟩ := blk2 k12.out
  go_wp2_with fail
  refine (V1.out _ hb).mono ?_
  rintro e w9 ⟨rfl, hn⟩
  have hb := Below.go hb hn
  have ka := Lib.hid (keep' ka.out hn)
  have kb := Lib.hid (keep' kb.out hn)
  have kx := Lib.hid (keep' kx.out hn)
  have k12 := Lib.hid (keep' k12.out hn)
  have k14 := Lib.hid (keep' k14.out hn)
  have k16 := Lib.hid (keep' k16.out hn)
  have k18 := Lib.hid (keep' k18.out hn)
  clear hn
  clear ka_0 ka_1 ka_2 ka_3 ka_4 ka_5 kb_0 kb_1 kb_2 kb_3 kb_4 kb_5
  clear x12 y12
  have k20 := Lib.hid (heap_new w9 (.cells #[.int .i64 0, .int .i64 0] 48))
  have ka := Lib.hid (keepN ka.out (.cells #[.int .i64 0, .int .i64 0] 48))
  have kb := Lib.hid (keepN kb.out (.cells #[.int .i64 0, .int .i64 0] 48))
  have kx := Lib.hid (keepN kx.out (.cells #[.int .i64 0, .int .i64 0] 48))
  have k12 := Lib.hid (keepN k12.out (.cells #[.int .i64 0, .int .i64 0] 48))
  have k14 := Lib.hid (keepN k14.out (.cells #[.int .i64 0, .int .i64 0] 48))
  have k16 := Lib.hid (keepN k16.out (.cells #[.int .i64 0, .int .i64 0] 48))
  have k18 := Lib.hid (keepN k18.out (.cells #[.int .i64 0, .int .i64 0] 48))
  have hb := Below.goN hb (.cells #[.int .i64 0, .int .i64 0] 48)
  clear T1 T2 S1 S2 V1
  obtain ⟨⟨x12, y12⟩, -⟩ := blk2 k12.out
  obtain ⟨⟨x14, y14⟩, -⟩ := blk2 k14.out
  obtain ⟨⟨x20, y20⟩, -⟩ := blk2 k20.out
  obtain ⟨⟨x16, y16, z16⟩, -⟩ := blk3 k16.out
  obtain ⟨⟨x18, y18, z18⟩, -⟩ := blk3 k18.out
  obtain ⟨kx_0, kx_1, kx_2, kx_3, kx_4, kx_5, kx_6, kx_7, kx_8⟩ := blk9 kx.out
  go_wp2_with fail
  refine (refValid21_any r _).mono ?_
  rintro e w10 ⟨rfl, hn⟩
  have hb := Below.go hb hn
  have ka := Lib.hid (keep' ka.out hn)
  have kb := Lib.hid (keep' kb.out hn)
  have kx := Lib.hid (keep' kx.out hn)
  clear hn
  clear kx_0 kx_1 kx_2 kx_3 kx_4 kx_5 kx_6 kx_7 kx_8
  rw [vr.out]
  obtain ⟨kx_0, kx_1, kx_2, kx_3, kx_4, kx_5, kx_6, kx_7, kx_8⟩ := blk9 kx.out
  go_wp2_with fail
  refine (refFew21_any r _ (by have := (of_decide_eq_true vr.out : Rc.Val r).2.1; omega) (by have := (of_decide_eq_true vr.out : Rc.Val r).2.1; omega) (by have := (of_decide_eq_true vr.out : Rc.Val r).2.1; omega) (by have := (of_decide_eq_true vr.out : Rc.Val r).2.1; omega)).mono ?_
  rintro e w11 ⟨rfl, hn⟩
  have hb := Below.go hb hn
  have ka := Lib.hid (keep' ka.out hn)
  have kb := Lib.hid (keep' kb.out hn)
  have kx := Lib.hid (keep' kx.out hn)
  clear hn
  clear kx_0 kx_1 kx_2 kx_3 kx_4 kx_5 kx_6 kx_7 kx_8
  rw [fw.out]
  go_wp2
  go_ret
  exact ⟨by simp, hb⟩
set_option maxHeartbeats 2000000 in
set_option maxRecDepth 100000 in
theorem tables_E_lim (A1 A2 : Option Addr) (n1 c1 n2 c2 : Nat) (la lb : Lpm.LL) (a b : Ed) (r : Rec) (t : Int) (w : World) (ht : Tab w) (h1 : Lp w.heap.size w A1 n1 la) (h2 : Lp w.heap.size w A2 n2 lb) (ga : Hid ((decide (n1 ≤ 20) && formedB a la) = true)) (gb : Hid ((decide (n2 ≤ 20) && formedB b lb) = true)) (m1 : n1 ≤ 110) (m2 : n2 ≤ 110) (fe : Hid (foE a b la lb = 0)) (fv : Hid (foV a b la lb = true)) (p1 : 0 ≤ t) (p2 : t < b.frm) (va : Lpm.valid la = true) (vb : Lpm.valid lb = true) (E : Int) (e1 : Lpm.dE la t = E) (e2 : Lpm.dE lb t = E) (e3 : E ≠ 0) (vr : Hid (Rc.validB r = true)) (fw : Hid (decide (r.unt - r.frm ≤ 1200) = true)) (hr : Fit21 r) (EC : Hid (Rc.coE la lb r 0 = 2)) :
    Calls Tryd.prog 4 #[(.agg #[.int .i64 a.ver, .int .i64 a.frm, .int .i64 a.unt, .slice A1 n1 c1, .int .i64 a.sc, .int .i64 a.ss]), (.agg #[.int .i64 b.ver, .int .i64 b.frm, .int .i64 b.unt, .slice A2 n2 c2, .int .i64 b.sc, .int .i64 b.ss]), (.agg #[.int .i64 r.kind, .int .i64 r.every, .int .i64 r.wd, .int .i64 r.nth, .int .i64 r.frm, .int .i64 r.unt, .int .i64 r.sec, .bool r.shift, .bool r.both]), .int .i64 t] w (LawPost w) := by
  have HT : Hid (∀ W, Below w.heap.size w W → Tab W) := Lib.hid fun W hW => ht.below hW
  have H1 : Hid (∀ W, Below w.heap.size w W → Lp W.heap.size W A1 n1 la) := Lib.hid fun W hW => h1.go hW
  have H2 : Hid (∀ W, Below w.heap.size w W → Lp W.heap.size W A2 n2 lb) := Lib.hid fun W hW => h2.go hW
  have hb := Below.goN (Below.goN (Below.goN (Below.refl w.heap.size w) (.cells #[.int .i64 a.ver, .int .i64 a.frm, .int .i64 a.unt, .slice A1 n1 c1, .int .i64 a.sc, .int .i64 a.ss] 43)) (.cells #[.int .i64 b.ver, .int .i64 b.frm, .int .i64 b.unt, .slice A2 n2 c2, .int .i64 b.sc, .int .i64 b.ss] 43)) (.cells #[.int .i64 r.kind, .int .i64 r.every, .int .i64 r.wd, .int .i64 r.nth, .int .i64 r.frm, .int .i64 r.unt, .int .i64 r.sec, .bool r.shift, .bool r.both] 24)
  have ka := Lib.hid (new30 w (.cells #[.int .i64 a.ver, .int .i64 a.frm, .int .i64 a.unt, .slice A1 n1 c1, .int .i64 a.sc, .int .i64 a.ss] 43) (.cells #[.int .i64 b.ver, .int .i64 b.frm, .int .i64 b.unt, .slice A2 n2 c2, .int .i64 b.sc, .int .i64 b.ss] 43) (.cells #[.int .i64 r.kind, .int .i64 r.every, .int .i64 r.wd, .int .i64 r.nth, .int .i64 r.frm, .int .i64 r.unt, .int .i64 r.sec, .bool r.shift, .bool r.both] 24))
  have kb := Lib.hid (new31 w (.cells #[.int .i64 a.ver, .int .i64 a.frm, .int .i64 a.unt, .slice A1 n1 c1, .int .i64 a.sc, .int .i64 a.ss] 43) (.cells #[.int .i64 b.ver, .int .i64 b.frm, .int .i64 b.unt, .slice A2 n2 c2, .int .i64 b.sc, .int .i64 b.ss] 43) (.cells #[.int .i64 r.kind, .int .i64 r.every, .int .i64 r.wd, .int .i64 r.nth, .int .i64 r.frm, .int .i64 r.unt, .int .i64 r.sec, .bool r.shift, .bool r.both] 24))
  have kx := Lib.hid (new32 w (.cells #[.int .i64 a.ver, .int .i64 a.frm, .int .i64 a.unt, .slice A1 n1 c1, .int .i64 a.sc, .int .i64 a.ss] 43) (.cells #[.int .i64 b.ver, .int .i64 b.frm, .int .i64 b.unt, .slice A2 n2 c2, .int .i64 b.sc, .int .i64 b.ss] 43) (.cells #[.int .i64 r.kind, .int .i64 r.every, .int .i64 r.wd, .int .i64 r.nth, .int .i64 r.frm, .int .i64 r.unt, .int .i64 r.sec, .bool r.shift, .bool r.both] 24))
  clear ht h1 h2
  have p1' : decide (0 ≤ t) = true := decide_eq_true p1
  have p2' : decide (t < b.frm) = true := decide_eq_true p2
  have T1 := fun (W : World) (hb : Below w.heap.size w W) => To_err A1 n1 c1 la t W (H1.out W hb) m1 (by rw [e1]; exact e3)
  have T2 := fun (W : World) (hb : Below w.heap.size w W) => To_err A2 n2 c2 lb t W (H2.out W hb) m2 (by rw [e2]; exact e3)
  have S1 := fun (W : World) (hb : Below w.heap.size w W) => Show_err A1 n1 c1 la t W (H1.out W hb) m1 (by rw [e1]; exact e3)
  have S2 := fun (W : World) (hb : Below w.heap.size w W) => Show_err A2 n2 c2 lb t W (H2.out W hb) m2 (by rw [e2]; exact e3)
  have q1 : AtDay la 0 0 := at_zero va
  have q2 : AtDay lb 0 0 := at_zero vb
  have V1 := fun (W : World) (hb : Below w.heap.size w W) => Move_at A1 A2 n1 c1 n2 c2 la lb 0 0 0 W (H1.out W hb) (H2.out W hb) m1 m2 q1 q2
  rw [e1] at T1 S1
  rw [e2] at T2 S2
  rw [Lpm.start_zero va, Lpm.start_zero vb, Int.sub_self] at V1
  have hE : (E == 0) = false := beq_of e3
  have hE' : (E != 0) = true := bne_of e3
  clear e1 e2 e3 q1 q2
  have T1 := Lib.hid T1
  have T2 := Lib.hid T2
  have S1 := Lib.hid S1
  have S2 := Lib.hid S2
  have V1 := Lib.hid V1
  go_enter Tryd.func4, Tryd.ntmps4
  go_wp2_with fail
  refine (head14 _ (HT.out _ hb)).mono ?_
  rintro e w1 ⟨rfl, hn⟩
  have hb := Below.go hb hn
  have ka := Lib.hid (keep' ka.out hn)
  have kb := Lib.hid (keep' kb.out hn)
  have kx := Lib.hid (keep' kx.out hn)
  clear hn
  obtain ⟨ka_0, ka_1, ka_2, ka_3, ka_4, ka_5⟩ := blk6 ka.out
  go_wp2_with fail
  refine (r14Ed_any A1 n1 c1 la a _ (H1.out _ hb)).mono ?_
  rintro e w2 ⟨rfl, hn⟩
  have hb := Below.go hb hn
  have ka := Lib.hid (keep' ka.out hn)
  have kb := Lib.hid (keep' kb.out hn)
  have kx := Lib.hid (keep' kx.out hn)
  clear hn
  rw [ga.out]
  clear ka_0 ka_1 ka_2 ka_3 ka_4 ka_5
  obtain ⟨kb_0, kb_1, kb_2, kb_3, kb_4, kb_5⟩ := blk6 kb.out
  go_wp2_with fail
  refine (r14Ed_any A2 n2 c2 lb b _ (H2.out _ hb)).mono ?_
  rintro e w3 ⟨rfl, hn⟩
  have hb := Below.go hb hn
  have ka := Lib.hid (keep' ka.out hn)
  have kb := Lib.hid (keep' kb.out hn)
  have kx := Lib.hid (keep' kx.out hn)
  clear hn
  rw [gb.out]
  clear kb_0 kb_1 kb_2 kb_3 kb_4 kb_5
  obtain ⟨ka_0, ka_1, ka_2, ka_3, ka_4, ka_5⟩ := blk6 ka.out
  obtain ⟨kb_0, kb_1, kb_2, kb_3, kb_4, kb_5⟩ := blk6 kb.out
  go_wp2_with fail
  refine (Follows_any A1 A2 n1 c1 n2 c2 la lb a b _ (H1.out _ hb) (H2.out _ hb) m1 m2).mono ?_
  rintro e w4 ⟨rfl, hn⟩
  have hb := Below.go hb hn
  have ka := Lib.hid (keep' ka.out hn)
  have kb := Lib.hid (keep' kb.out hn)
  have kx := Lib.hid (keep' kx.out hn)
  clear hn
  rw [fv.out, fe.out]
  clear ka_0 ka_1 ka_2 ka_3 ka_4 ka_5 kb_0 kb_1 kb_2 kb_3 kb_4 kb_5
  obtain ⟨ka_0, ka_1, ka_2, ka_3, ka_4, ka_5⟩ := blk6 ka.out
  obtain ⟨kb_0, kb_1, kb_2, kb_3, kb_4, kb_5⟩ := blk6 kb.out
  go_wp2_with fail
  refine (T1.out _ hb).mono ?_
  rintro e w5 ⟨rfl, hn⟩
  have hb := Below.go hb hn
  have ka := Lib.hid (keep' ka.out hn)
  have kb := Lib.hid (keep' kb.out hn)
  have kx := Lib.hid (keep' kx.out hn)
  clear hn
  clear ka_0 ka_1 ka_2 ka_3 ka_4 ka_5 kb_0 kb_1 kb_2 kb_3 kb_4 kb_5
  have k12 := Lib.hid (heap_new w5 (.cells #[.int .i64 0, .int .i64 0] 48))
  have ka := Lib.hid (keepN ka.out (.cells #[.int .i64 0, .int .i64 0] 48))
  have kb := Lib.hid (keepN kb.out (.cells #[.int .i64 0, .int .i64 0] 48))
  have kx := Lib.hid (keepN kx.out (.cells #[.int .i64 0, .int .i64 0] 48))
  have hb := Below.goN hb (.cells #[.int .i64 0, .int .i64 0] 48)
  obtain ⟨kb_0, kb_1, kb_2, kb_3, kb_4, kb_5⟩ := blk6 kb.out
  go_wp2_with fail
  refine (T2.out _ hb).mono ?_
  rintro e w6 ⟨rfl, hn⟩
  have hb := Below.go hb hn
  have ka := Lib.hid (keep' ka.out hn)
  have kb := Lib.hid (keep' kb.out hn)
  have kx := Lib.hid (keep' kx.out hn)
  have k12 := Lib.hid (keep' k12.out hn)
  clear hn
  clear kb_0 kb_1 kb_2 kb_3 kb_4 kb_5
  have k14 := Lib.hid (heap_new w6 (.cells #[.int .i64 0, .int .i64 0] 48))
  have ka := Lib.hid (keepN ka.out (.cells #[.int .i64 0, .int .i64 0] 48))
  have kb := Lib.hid (keepN kb.out (.cells #[.int .i64 0, .int .i64 0] 48))
  have kx := Lib.hid (keepN kx.out (.cells #[.int .i64 0, .int .i64 0] 48))
  have k12 := Lib.hid (keepN k12.out (.cells #[.int .i64 0, .int .i64 0] 48))
  have hb := Below.goN hb (.cells #[.int .i64 0, .int .i64 0] 48)
  obtain ⟨ka_0, ka_1, ka_2, ka_3, ka_4, ka_5⟩ := blk6 ka.out
  go_wp2_with fail
  refine (S1.out _ hb).mono ?_
  rintro e w7 ⟨rfl, hn⟩
  have hb := Below.go hb hn
  have ka := Lib.hid (keep' ka.out hn)
  have kb := Lib.hid (keep' kb.out hn)
  have kx := Lib.hid (keep' kx.out hn)
  have k12 := Lib.hid (keep' k12.out hn)
  have k14 := Lib.hid (keep' k14.out hn)
  clear hn
  clear ka_0 ka_1 ka_2 ka_3 ka_4 ka_5
  have k16 := Lib.hid (heap_new w7 (.cells #[.int .i64 0, .int .i64 0, .int .i64 0] 52))
  have ka := Lib.hid (keepN ka.out (.cells #[.int .i64 0, .int .i64 0, .int .i64 0] 52))
  have kb := Lib.hid (keepN kb.out (.cells #[.int .i64 0, .int .i64 0, .int .i64 0] 52))
  have kx := Lib.hid (keepN kx.out (.cells #[.int .i64 0, .int .i64 0, .int .i64 0] 52))
  have k12 := Lib.hid (keepN k12.out (.cells #[.int .i64 0, .int .i64 0, .int .i64 0] 52))
  have k14 := Lib.hid (keepN k14.out (.cells #[.int .i64 0, .int .i64 0, .int .i64 0] 52))
  have hb := Below.goN hb (.cells #[.int .i64 0, .int .i64 0, .int .i64 0] 52)
  obtain ⟨kb_0, kb_1, kb_2, kb_3, kb_4, kb_5⟩ := blk6 kb.out
  go_wp2_with fail
  refine (S2.out _ hb).mono ?_
  rintro e w8 ⟨rfl, hn⟩
  have hb := Below.go hb hn
  have ka := Lib.hid (keep' ka.out hn)
  have kb := Lib.hid (keep' kb.out hn)
  have kx := Lib.hid (keep' kx.out hn)
  have k12 := Lib.hid (keep' k12.out hn)
  have k14 := Lib.hid (keep' k14.out hn)
  have k16 := Lib.hid (keep' k16.out hn)
  clear hn
  clear kb_0 kb_1 kb_2 kb_3 kb_4 kb_5
  have k18 := Lib.hid (heap_new w8 (.cells #[.int .i64 0, .int .i64 0, .int .i64 0] 52))
  have ka := Lib.hid (keepN ka.out (.cells #[.int .i64 0, .int .i64 0, .int .i64 0] 52))
  have kb := Lib.hid (keepN kb.out (.cells #[.int .i64 0, .int .i64 0, .int .i64 0] 52))
  have kx := Lib.hid (keepN kx.out (.cells #[.int .i64 0, .int .i64 0, .int .i64 0] 52))
  have k12 := Lib.hid (keepN k12.out (.cells #[.int .i64 0, .int .i64 0, .int .i64 0] 52))
  have k14 := Lib.hid (keepN k14.out (.cells #[.int .i64 0, .int .i64 0, .int .i64 0] 52))
  have k16 := Lib.hid (keepN k16.out (.cells #[.int .i64 0, .int .i64 0, .int .i64 0] 52))
  have hb := Below.goN hb (.cells #[.int .i64 0, .int .i64 0, .int .i64 0] 52)
  obtain ⟨ka_0, ka_1, ka_2, ka_3, ka_4, ka_5⟩ := blk6 ka.out
  obtain ⟨kb_0, kb_1, kb_2, kb_3, kb_4, kb_5⟩ := blk6 kb.out
  obtain ⟨⟨x12, y12⟩, -⟩ := blk2 k12.out
  go_wp2_with fail
  refine (V1.out _ hb).mono ?_
  rintro e w9 ⟨rfl, hn⟩
  have hb := Below.go hb hn
  have ka := Lib.hid (keep' ka.out hn)
  have kb := Lib.hid (keep' kb.out hn)
  have kx := Lib.hid (keep' kx.out hn)
  have k12 := Lib.hid (keep' k12.out hn)
  have k14 := Lib.hid (keep' k14.out hn)
  have k16 := Lib.hid (keep' k16.out hn)
  have k18 := Lib.hid (keep' k18.out hn)
  clear hn
  clear ka_0 ka_1 ka_2 ka_3 ka_4 ka_5 kb_0 kb_1 kb_2 kb_3 kb_4 kb_5
  clear x12 y12
  have k20 := Lib.hid (heap_new w9 (.cells #[.int .i64 0, .int .i64 0] 48))
  have ka := Lib.hid (keepN ka.out (.cells #[.int .i64 0, .int .i64 0] 48))
  have kb := Lib.hid (keepN kb.out (.cells #[.int .i64 0, .int .i64 0] 48))
  have kx := Lib.hid (keepN kx.out (.cells #[.int .i64 0, .int .i64 0] 48))
  have k12 := Lib.hid (keepN k12.out (.cells #[.int .i64 0, .int .i64 0] 48))
  have k14 := Lib.hid (keepN k14.out (.cells #[.int .i64 0, .int .i64 0] 48))
  have k16 := Lib.hid (keepN k16.out (.cells #[.int .i64 0, .int .i64 0] 48))
  have k18 := Lib.hid (keepN k18.out (.cells #[.int .i64 0, .int .i64 0] 48))
  have hb := Below.goN hb (.cells #[.int .i64 0, .int .i64 0] 48)
  clear T1 T2 S1 S2 V1
  obtain ⟨⟨x12, y12⟩, -⟩ := blk2 k12.out
  obtain ⟨⟨x14, y14⟩, -⟩ := blk2 k14.out
  obtain ⟨⟨x20, y20⟩, -⟩ := blk2 k20.out
  obtain ⟨⟨x16, y16, z16⟩, -⟩ := blk3 k16.out
  obtain ⟨⟨x18, y18, z18⟩, -⟩ := blk3 k18.out
  obtain ⟨kx_0, kx_1, kx_2, kx_3, kx_4, kx_5, kx_6, kx_7, kx_8⟩ := blk9 kx.out
  go_wp2_with fail
  refine (refValid21_any r _).mono ?_
  rintro e w10 ⟨rfl, hn⟩
  have hb := Below.go hb hn
  have ka := Lib.hid (keep' ka.out hn)
  have kb := Lib.hid (keep' kb.out hn)
  have kx := Lib.hid (keep' kx.out hn)
  clear hn
  clear kx_0 kx_1 kx_2 kx_3 kx_4 kx_5 kx_6 kx_7 kx_8
  rw [vr.out]
  obtain ⟨kx_0, kx_1, kx_2, kx_3, kx_4, kx_5, kx_6, kx_7, kx_8⟩ := blk9 kx.out
  go_wp2_with fail
  refine (refFew21_any r _ (by have := (of_decide_eq_true vr.out : Rc.Val r).2.1; omega) (by have := (of_decide_eq_true vr.out : Rc.Val r).2.1; omega) (by have := (of_decide_eq_true vr.out : Rc.Val r).2.1; omega) (by have := (of_decide_eq_true vr.out : Rc.Val r).2.1; omega)).mono ?_
  rintro e w11 ⟨rfl, hn⟩
  have hb := Below.go hb hn
  have ka := Lib.hid (keep' ka.out hn)
  have kb := Lib.hid (keep' kb.out hn)
  have kx := Lib.hid (keep' kx.out hn)
  clear hn
  clear kx_0 kx_1 kx_2 kx_3 kx_4 kx_5 kx_6 kx_7 kx_8
  rw [fw.out]
  obtain ⟨ka_0, ka_1, ka_2, ka_3, ka_4, ka_5⟩ := blk6 ka.out
  obtain ⟨kb_0, kb_1, kb_2, kb_3, kb_4, kb_5⟩ := blk6 kb.out
  obtain ⟨kx_0, kx_1, kx_2, kx_3, kx_4, kx_5, kx_6, kx_7, kx_8⟩ := blk9 kx.out
  go_wp2_with fail
  refine (Correct_any A1 A2 n1 c1 n2 c2 la lb r 0 _ (HT.out _ hb) (H1.out _ hb) (H2.out _ hb) m1 m2 hr).mono ?_
  rintro e w12 ⟨B1, k1, z1, B2, k2, z2, rfl, hG1, hG2, hL1, hL2, hn⟩
  have hb := Below.go hb hn
  have ka := Lib.hid (keep' ka.out hn)
  have kb := Lib.hid (keep' kb.out hn)
  have kx := Lib.hid (keep' kx.out hn)
  clear hn
  clear ka_0 ka_1 ka_2 ka_3 ka_4 ka_5 kb_0 kb_1 kb_2 kb_3 kb_4 kb_5
  clear kx_0 kx_1 kx_2 kx_3 kx_4 kx_5 kx_6 kx_7 kx_8
  rw [EC.out]
  obtain rfl : k1 = 0 := by have := hL1.1; rw [(co_none (by rw [EC.out]; decide)).1] at this; exact this.symm
  obtain rfl : k2 = 0 := by have := hL2.1; rw [(co_none (by rw [EC.out]; decide)).2] at this; exact this.symm
  clear hL1 hL2 hG1 hG2
  go_wp2
  go_ret
  exact ⟨by simp, hb⟩
set_option maxHeartbeats 2000000 in
set_option maxRecDepth 100000 in
theorem tables_E_ok (A1 A2 : Option Addr) (n1 c1 n2 c2 : Nat) (la lb : Lpm.LL) (a b : Ed) (r : Rec) (t : Int) (w : World) (ht : Tab w) (h1 : Lp w.heap.size w A1 n1 la) (h2 : Lp w.heap.size w A2 n2 lb) (ga : Hid ((decide (n1 ≤ 20) && formedB a la) = true)) (gb : Hid ((decide (n2 ≤ 20) && formedB b lb) = true)) (m1 : n1 ≤ 110) (m2 : n2 ≤ 110) (fe : Hid (foE a b la lb = 0)) (fv : Hid (foV a b la lb = true)) (p1 : 0 ≤ t) (p2 : t < b.frm) (va : Lpm.valid la = true) (vb : Lpm.valid lb = true) (E : Int) (e1 : Lpm.dE la t = E) (e2 : Lpm.dE lb t = E) (e3 : E ≠ 0) (vr : Hid (Rc.validB r = true)) (fw : Hid (decide (r.unt - r.frm ≤ 1200) = true)) (hr : Fit21 r) (EC : Hid (Rc.coE la lb r 0 = 0)) (HD : Hid (∀ x, (x ∈ Rc.coF la lb r 0 ∨ x ∈ Rc.coN la lb r 0) → b.frm ≤ x.2)) :
    Calls Tryd.prog 4 #[(.agg #[.int .i64 a.ver, .int .i64 a.frm, .int .i64 a.unt, .slice A1 n1 c1, .int .i64 a.sc, .int .i64 a.ss]), (.agg #[.int .i64 b.ver, .int .i64 b.frm, .int .i64 b.unt, .slice A2 n2 c2, .int .i64 b.sc, .int .i64 b.ss]), (.agg #[.int .i64 r.kind, .int .i64 r.every, .int .i64 r.wd, .int .i64 r.nth, .int .i64 r.frm, .int .i64 r.unt, .int .i64 r.sec, .bool r.shift, .bool r.both]), .int .i64 t] w (LawPost w) := by
  have HT : Hid (∀ W, Below w.heap.size w W → Tab W) := Lib.hid fun W hW => ht.below hW
  have H1 : Hid (∀ W, Below w.heap.size w W → Lp W.heap.size W A1 n1 la) := Lib.hid fun W hW => h1.go hW
  have H2 : Hid (∀ W, Below w.heap.size w W → Lp W.heap.size W A2 n2 lb) := Lib.hid fun W hW => h2.go hW
  have hb := Below.goN (Below.goN (Below.goN (Below.refl w.heap.size w) (.cells #[.int .i64 a.ver, .int .i64 a.frm, .int .i64 a.unt, .slice A1 n1 c1, .int .i64 a.sc, .int .i64 a.ss] 43)) (.cells #[.int .i64 b.ver, .int .i64 b.frm, .int .i64 b.unt, .slice A2 n2 c2, .int .i64 b.sc, .int .i64 b.ss] 43)) (.cells #[.int .i64 r.kind, .int .i64 r.every, .int .i64 r.wd, .int .i64 r.nth, .int .i64 r.frm, .int .i64 r.unt, .int .i64 r.sec, .bool r.shift, .bool r.both] 24)
  have ka := Lib.hid (new30 w (.cells #[.int .i64 a.ver, .int .i64 a.frm, .int .i64 a.unt, .slice A1 n1 c1, .int .i64 a.sc, .int .i64 a.ss] 43) (.cells #[.int .i64 b.ver, .int .i64 b.frm, .int .i64 b.unt, .slice A2 n2 c2, .int .i64 b.sc, .int .i64 b.ss] 43) (.cells #[.int .i64 r.kind, .int .i64 r.every, .int .i64 r.wd, .int .i64 r.nth, .int .i64 r.frm, .int .i64 r.unt, .int .i64 r.sec, .bool r.shift, .bool r.both] 24))
  have kb := Lib.hid (new31 w (.cells #[.int .i64 a.ver, .int .i64 a.frm, .int .i64 a.unt, .slice A1 n1 c1, .int .i64 a.sc, .int .i64 a.ss] 43) (.cells #[.int .i64 b.ver, .int .i64 b.frm, .int .i64 b.unt, .slice A2 n2 c2, .int .i64 b.sc, .int .i64 b.ss] 43) (.cells #[.int .i64 r.kind, .int .i64 r.every, .int .i64 r.wd, .int .i64 r.nth, .int .i64 r.frm, .int .i64 r.unt, .int .i64 r.sec, .bool r.shift, .bool r.both] 24))
  have kx := Lib.hid (new32 w (.cells #[.int .i64 a.ver, .int .i64 a.frm, .int .i64 a.unt, .slice A1 n1 c1, .int .i64 a.sc, .int .i64 a.ss] 43) (.cells #[.int .i64 b.ver, .int .i64 b.frm, .int .i64 b.unt, .slice A2 n2 c2, .int .i64 b.sc, .int .i64 b.ss] 43) (.cells #[.int .i64 r.kind, .int .i64 r.every, .int .i64 r.wd, .int .i64 r.nth, .int .i64 r.frm, .int .i64 r.unt, .int .i64 r.sec, .bool r.shift, .bool r.both] 24))
  clear ht h1 h2
  have p1' : decide (0 ≤ t) = true := decide_eq_true p1
  have p2' : decide (t < b.frm) = true := decide_eq_true p2
  have T1 := fun (W : World) (hb : Below w.heap.size w W) => To_err A1 n1 c1 la t W (H1.out W hb) m1 (by rw [e1]; exact e3)
  have T2 := fun (W : World) (hb : Below w.heap.size w W) => To_err A2 n2 c2 lb t W (H2.out W hb) m2 (by rw [e2]; exact e3)
  have S1 := fun (W : World) (hb : Below w.heap.size w W) => Show_err A1 n1 c1 la t W (H1.out W hb) m1 (by rw [e1]; exact e3)
  have S2 := fun (W : World) (hb : Below w.heap.size w W) => Show_err A2 n2 c2 lb t W (H2.out W hb) m2 (by rw [e2]; exact e3)
  have q1 : AtDay la 0 0 := at_zero va
  have q2 : AtDay lb 0 0 := at_zero vb
  have V1 := fun (W : World) (hb : Below w.heap.size w W) => Move_at A1 A2 n1 c1 n2 c2 la lb 0 0 0 W (H1.out W hb) (H2.out W hb) m1 m2 q1 q2
  rw [e1] at T1 S1
  rw [e2] at T2 S2
  rw [Lpm.start_zero va, Lpm.start_zero vb, Int.sub_self] at V1
  have hE : (E == 0) = false := beq_of e3
  have hE' : (E != 0) = true := bne_of e3
  clear e1 e2 e3 q1 q2
  have T1 := Lib.hid T1
  have T2 := Lib.hid T2
  have S1 := Lib.hid S1
  have S2 := Lib.hid S2
  have V1 := Lib.hid V1
  go_enter Tryd.func4, Tryd.ntmps4
  go_wp2_with fail
  refine (head14 _ (HT.out _ hb)).mono ?_
  rintro e w1 ⟨rfl, hn⟩
  have hb := Below.go hb hn
  have ka := Lib.hid (keep' ka.out hn)
  have kb := Lib.hid (keep' kb.out hn)
  have kx := Lib.hid (keep' kx.out hn)
  clear hn
  obtain ⟨ka_0, ka_1, ka_2, ka_3, ka_4, ka_5⟩ := blk6 ka.out
  go_wp2_with fail
  refine (r14Ed_any A1 n1 c1 la a _ (H1.out _ hb)).mono ?_
  rintro e w2 ⟨rfl, hn⟩
  have hb := Below.go hb hn
  have ka := Lib.hid (keep' ka.out hn)
  have kb := Lib.hid (keep' kb.out hn)
  have kx := Lib.hid (keep' kx.out hn)
  clear hn
  rw [ga.out]
  clear ka_0 ka_1 ka_2 ka_3 ka_4 ka_5
  obtain ⟨kb_0, kb_1, kb_2, kb_3, kb_4, kb_5⟩ := blk6 kb.out
  go_wp2_with fail
  refine (r14Ed_any A2 n2 c2 lb b _ (H2.out _ hb)).mono ?_
  rintro e w3 ⟨rfl, hn⟩
  have hb := Below.go hb hn
  have ka := Lib.hid (keep' ka.out hn)
  have kb := Lib.hid (keep' kb.out hn)
  have kx := Lib.hid (keep' kx.out hn)
  clear hn
  rw [gb.out]
  clear kb_0 kb_1 kb_2 kb_3 kb_4 kb_5
  obtain ⟨ka_0, ka_1, ka_2, ka_3, ka_4, ka_5⟩ := blk6 ka.out
  obtain ⟨kb_0, kb_1, kb_2, kb_3, kb_4, kb_5⟩ := blk6 kb.out
  go_wp2_with fail
  refine (Follows_any A1 A2 n1 c1 n2 c2 la lb a b _ (H1.out _ hb) (H2.out _ hb) m1 m2).mono ?_
  rintro e w4 ⟨rfl, hn⟩
  have hb := Below.go hb hn
  have ka := Lib.hid (keep' ka.out hn)
  have kb := Lib.hid (keep' kb.out hn)
  have kx := Lib.hid (keep' kx.out hn)
  clear hn
  rw [fv.out, fe.out]
  clear ka_0 ka_1 ka_2 ka_3 ka_4 ka_5 kb_0 kb_1 kb_2 kb_3 kb_4 kb_5
  obtain ⟨ka_0, ka_1, ka_2, ka_3, ka_4, ka_5⟩ := blk6 ka.out
  obtain ⟨kb_0, kb_1, kb_2, kb_3, kb_4, kb_5⟩ := blk6 kb.out
  go_wp2_with fail
  refine (T1.out _ hb).mono ?_
  rintro e w5 ⟨rfl, hn⟩
  have hb := Below.go hb hn
  have ka := Lib.hid (keep' ka.out hn)
  have kb := Lib.hid (keep' kb.out hn)
  have kx := Lib.hid (keep' kx.out hn)
  clear hn
  clear ka_0 ka_1 ka_2 ka_3 ka_4 ka_5 kb_0 kb_1 kb_2 kb_3 kb_4 kb_5
  have k12 := Lib.hid (heap_new w5 (.cells #[.int .i64 0, .int .i64 0] 48))
  have ka := Lib.hid (keepN ka.out (.cells #[.int .i64 0, .int .i64 0] 48))
  have kb := Lib.hid (keepN kb.out (.cells #[.int .i64 0, .int .i64 0] 48))
  have kx := Lib.hid (keepN kx.out (.cells #[.int .i64 0, .int .i64 0] 48))
  have hb := Below.goN hb (.cells #[.int .i64 0, .int .i64 0] 48)
  obtain ⟨kb_0, kb_1, kb_2, kb_3, kb_4, kb_5⟩ := blk6 kb.out
  go_wp2_with fail
  refine (T2.out _ hb).mono ?_
  rintro e w6 ⟨rfl, hn⟩
  have hb := Below.go hb hn
  have ka := Lib.hid (keep' ka.out hn)
  have kb := Lib.hid (keep' kb.out hn)
  have kx := Lib.hid (keep' kx.out hn)
  have k12 := Lib.hid (keep' k12.out hn)
  clear hn
  clear kb_0 kb_1 kb_2 kb_3 kb_4 kb_5
  have k14 := Lib.hid (heap_new w6 (.cells #[.int .i64 0, .int .i64 0] 48))
  have ka := Lib.hid (keepN ka.out (.cells #[.int .i64 0, .int .i64 0] 48))
  have kb := Lib.hid (keepN kb.out (.cells #[.int .i64 0, .int .i64 0] 48))
  have kx := Lib.hid (keepN kx.out (.cells #[.int .i64 0, .int .i64 0] 48))
  have k12 := Lib.hid (keepN k12.out (.cells #[.int .i64 0, .int .i64 0] 48))
  have hb := Below.goN hb (.cells #[.int .i64 0, .int .i64 0] 48)
  obtain ⟨ka_0, ka_1, ka_2, ka_3, ka_4, ka_5⟩ := blk6 ka.out
  go_wp2_with fail
  refine (S1.out _ hb).mono ?_
  rintro e w7 ⟨rfl, hn⟩
  have hb := Below.go hb hn
  have ka := Lib.hid (keep' ka.out hn)
  have kb := Lib.hid (keep' kb.out hn)
  have kx := Lib.hid (keep' kx.out hn)
  have k12 := Lib.hid (keep' k12.out hn)
  have k14 := Lib.hid (keep' k14.out hn)
  clear hn
  clear ka_0 ka_1 ka_2 ka_3 ka_4 ka_5
  have k16 := Lib.hid (heap_new w7 (.cells #[.int .i64 0, .int .i64 0, .int .i64 0] 52))
  have ka := Lib.hid (keepN ka.out (.cells #[.int .i64 0, .int .i64 0, .int .i64 0] 52))
  have kb := Lib.hid (keepN kb.out (.cells #[.int .i64 0, .int .i64 0, .int .i64 0] 52))
  have kx := Lib.hid (keepN kx.out (.cells #[.int .i64 0, .int .i64 0, .int .i64 0] 52))
  have k12 := Lib.hid (keepN k12.out (.cells #[.int .i64 0, .int .i64 0, .int .i64 0] 52))
  have k14 := Lib.hid (keepN k14.out (.cells #[.int .i64 0, .int .i64 0, .int .i64 0] 52))
  have hb := Below.goN hb (.cells #[.int .i64 0, .int .i64 0, .int .i64 0] 52)
  obtain ⟨kb_0, kb_1, kb_2, kb_3, kb_4, kb_5⟩ := blk6 kb.out
  go_wp2_with fail
  refine (S2.out _ hb).mono ?_
  rintro e w8 ⟨rfl, hn⟩
  have hb := Below.go hb hn
  have ka := Lib.hid (keep' ka.out hn)
  have kb := Lib.hid (keep' kb.out hn)
  have kx := Lib.hid (keep' kx.out hn)
  have k12 := Lib.hid (keep' k12.out hn)
  have k14 := Lib.hid (keep' k14.out hn)
  have k16 := Lib.hid (keep' k16.out hn)
  clear hn
  clear kb_0 kb_1 kb_2 kb_3 kb_4 kb_5
  have k18 := Lib.hid (heap_new w8 (.cells #[.int .i64 0, .int .i64 0, .int .i64 0] 52))
  have ka := Lib.hid (keepN ka.out (.cells #[.int .i64 0, .int .i64 0, .int .i64 0] 52))
  have kb := Lib.hid (keepN kb.out (.cells #[.int .i64 0, .int .i64 0, .int .i64 0] 52))
  have kx := Lib.hid (keepN kx.out (.cells #[.int .i64 0, .int .i64 0, .int .i64 0] 52))
  have k12 := Lib.hid (keepN k12.out (.cells #[.int .i64 0, .int .i64 0, .int .i64 0] 52))
  have k14 := Lib.hid (keepN k14.out (.cells #[.int .i64 0, .int .i64 0, .int .i64 0] 52))
  have k16 := Lib.hid (keepN k16.out (.cells #[.int .i64 0, .int .i64 0, .int .i64 0] 52))
  have hb := Below.goN hb (.cells #[.int .i64 0, .int .i64 0, .int .i64 0] 52)
  obtain ⟨ka_0, ka_1, ka_2, ka_3, ka_4, ka_5⟩ := blk6 ka.out
  obtain ⟨kb_0, kb_1, kb_2, kb_3, kb_4, kb_5⟩ := blk6 kb.out
  obtain ⟨⟨x12, y12⟩, -⟩ := blk2 k12.out
  go_wp2_with fail
  refine (V1.out _ hb).mono ?_
  rintro e w9 ⟨rfl, hn⟩
  have hb := Below.go hb hn
  have ka := Lib.hid (keep' ka.out hn)
  have kb := Lib.hid (keep' kb.out hn)
  have kx := Lib.hid (keep' kx.out hn)
  have k12 := Lib.hid (keep' k12.out hn)
  have k14 := Lib.hid (keep' k14.out hn)
  have k16 := Lib.hid (keep' k16.out hn)
  have k18 := Lib.hid (keep' k18.out hn)
  clear hn
  clear ka_0 ka_1 ka_2 ka_3 ka_4 ka_5 kb_0 kb_1 kb_2 kb_3 kb_4 kb_5
  clear x12 y12
  have k20 := Lib.hid (heap_new w9 (.cells #[.int .i64 0, .int .i64 0] 48))
  have ka := Lib.hid (keepN ka.out (.cells #[.int .i64 0, .int .i64 0] 48))
  have kb := Lib.hid (keepN kb.out (.cells #[.int .i64 0, .int .i64 0] 48))
  have kx := Lib.hid (keepN kx.out (.cells #[.int .i64 0, .int .i64 0] 48))
  have k12 := Lib.hid (keepN k12.out (.cells #[.int .i64 0, .int .i64 0] 48))
  have k14 := Lib.hid (keepN k14.out (.cells #[.int .i64 0, .int .i64 0] 48))
  have k16 := Lib.hid (keepN k16.out (.cells #[.int .i64 0, .int .i64 0] 48))
  have k18 := Lib.hid (keepN k18.out (.cells #[.int .i64 0, .int .i64 0] 48))
  have hb := Below.goN hb (.cells #[.int .i64 0, .int .i64 0] 48)
  clear T1 T2 S1 S2 V1
  obtain ⟨⟨x12, y12⟩, -⟩ := blk2 k12.out
  obtain ⟨⟨x14, y14⟩, -⟩ := blk2 k14.out
  obtain ⟨⟨x20, y20⟩, -⟩ := blk2 k20.out
  obtain ⟨⟨x16, y16, z16⟩, -⟩ := blk3 k16.out
  obtain ⟨⟨x18, y18, z18⟩, -⟩ := blk3 k18.out
  obtain ⟨kx_0, kx_1, kx_2, kx_3, kx_4, kx_5, kx_6, kx_7, kx_8⟩ := blk9 kx.out
  go_wp2_with fail
  refine (refValid21_any r _).mono ?_
  rintro e w10 ⟨rfl, hn⟩
  have hb := Below.go hb hn
  have ka := Lib.hid (keep' ka.out hn)
  have kb := Lib.hid (keep' kb.out hn)
  have kx := Lib.hid (keep' kx.out hn)
  clear hn
  clear kx_0 kx_1 kx_2 kx_3 kx_4 kx_5 kx_6 kx_7 kx_8
  rw [vr.out]
  obtain ⟨kx_0, kx_1, kx_2, kx_3, kx_4, kx_5, kx_6, kx_7, kx_8⟩ := blk9 kx.out
  go_wp2_with fail
  refine (refFew21_any r _ (by have := (of_decide_eq_true vr.out : Rc.Val r).2.1; omega) (by have := (of_decide_eq_true vr.out : Rc.Val r).2.1; omega) (by have := (of_decide_eq_true vr.out : Rc.Val r).2.1; omega) (by have := (of_decide_eq_true vr.out : Rc.Val r).2.1; omega)).mono ?_
  rintro e w11 ⟨rfl, hn⟩
  have hb := Below.go hb hn
  have ka := Lib.hid (keep' ka.out hn)
  have kb := Lib.hid (keep' kb.out hn)
  have kx := Lib.hid (keep' kx.out hn)
  clear hn
  clear kx_0 kx_1 kx_2 kx_3 kx_4 kx_5 kx_6 kx_7 kx_8
  rw [fw.out]
  obtain ⟨ka_0, ka_1, ka_2, ka_3, ka_4, ka_5⟩ := blk6 ka.out
  obtain ⟨kb_0, kb_1, kb_2, kb_3, kb_4, kb_5⟩ := blk6 kb.out
  obtain ⟨kx_0, kx_1, kx_2, kx_3, kx_4, kx_5, kx_6, kx_7, kx_8⟩ := blk9 kx.out
  go_wp2_with fail
  refine (Correct_any A1 A2 n1 c1 n2 c2 la lb r 0 _ (HT.out _ hb) (H1.out _ hb) (H2.out _ hb) m1 m2 hr).mono ?_
  rintro e w12 ⟨B1, k1, z1, B2, k2, z2, rfl, hG1, hG2, hL1, hL2, hn⟩
  have hb := Below.go hb hn
  have ka := Lib.hid (keep' ka.out hn)
  have kb := Lib.hid (keep' kb.out hn)
  have kx := Lib.hid (keep' kx.out hn)
  clear hn
  clear ka_0 ka_1 ka_2 ka_3 ka_4 ka_5 kb_0 kb_1 kb_2 kb_3 kb_4 kb_5
  clear kx_0 kx_1 kx_2 kx_3 kx_4 kx_5 kx_6 kx_7 kx_8
  rw [EC.out]
  have GL1 := Lib.hid hL1
  have GL2 := Lib.hid hL2
  have HG1 := Lib.hid hG1
  have HG2 := Lib.hid hG2
  have hk1 : k1 ≤ 1000 := by have := coF_len la lb r 0; rw [hL1.1] at this; exact this
  have hk2 : k2 ≤ 1000 := by have := coN_len la lb r 0; rw [hL2.1] at this; exact this
  clear hL1 hL2 hG1 hG2
  obtain ⟨w8, rfl⟩ : ∃ w8, w8 = w12 := ⟨_, rfl⟩
  have hb8 := hb
  obtain ⟨f0, fi, fz0, fz1, fz2⟩ := info_parts infoF
  have hb9 := Below.goN hb8 (.cells #[] tF)
  have q1 := Lib.hid (Lp.go GL1.out (Below.goN (Below.refl w8.heap.size w8) (.cells #[] tF)))
  have HM : Hid ((Rc.coF la lb r 0 ++ Rc.coN la lb r 0).length = k1 + k2) := Lib.hid (by rw [List.length_append, GL1.out.1, GL2.out.1])
  have HA : Hid (∀ j, j < k1 + k2 → b.frm ≤ ((Rc.coF la lb r 0 ++ Rc.coN la lb r 0)[j]?.getD (0, 0)).2) := Lib.hid fun j hj => by
    have hj' : j < (Rc.coF la lb r 0 ++ Rc.coN la lb r 0).length := by rw [HM.out]; exact hj
    rw [List.getElem?_eq_getElem hj']
    rcases List.mem_append.1 (List.getElem_mem hj') with h | h
    · exact HD.out _ (.inl h)
    · exact HD.out _ (.inr h)
  have hs8 : w8.heap.size ≤ (w8.alloc (.cells #[] tF)).heap.size := by simp
  go_wp2_with (first | (at_builtin; refine wpList_app_any rfl _ _ 28 rfl w8.heap.size tF _ (.agg #[.int .i64 0, .int .i64 0]) 2 16 Tryd.underlying28 fi fz0 fz1 fz2 rfl (by decide) (.slice (some ⟨w8.heap.size, 0, none⟩) 0 0) 0 [] rfl (own0_made w8 tF 2) B1 k1 z1 (cellsL (Rc.coF la lb r 0)) rfl (by rw [cellsL_len, GL1.out.1]) HG1.out (lp_news q1.out) (cellsL_one _) (by unfold maxLen; omega) (by omega) hs8 ?_; intro vA wA ownA growA; have hbA := Below.grown (Below.goN (Below.refl w8.heap.size w8) (.cells #[] tF)) growA (by simp) (fun g hg => ((own0_made w8 tF 2).lt g hg).1); have GB := Lib.hid (Lp.go GL2.out hbA); have HOA := Lib.hid ownA; clear ownA growA) | (at_builtin; refine wpList_app_any rfl _ _ 28 rfl w8.heap.size tF _ (.agg #[.int .i64 0, .int .i64 0]) 2 16 Tryd.underlying28 fi fz0 fz1 fz2 rfl (by decide) vA (0 + k1) _ rfl HOA.out B2 k2 z2 (cellsL (Rc.coN la lb r 0)) rfl (by rw [cellsL_len, GB.out.1]) HG2.out (lp_news GB.out) (cellsL_one _) (by unfold maxLen; omega) (by omega) hbA.size ?_; intro vB wB ownB growB; have hbB := Below.grown hbA growB (by have := hbA.size; omega) (fun g hg => (HOA.out.lt g hg).1); have ownB' : wB.ownsRow w8.heap.size tF 2 vB (k1 + k2) (cellsL (Rc.coF la lb r 0 ++ Rc.coN la lb r 0)) := (by rw [cellsL_app]; simpa using ownB); obtain ⟨AB, cB, rfl, -, -, hLB⟩ := own_lp ownB' HM.out; have LB := Lib.hid hLB; clear hLB ownB ownB' growB))
  have kbB := Lib.hid (keep' kb.out hbB)
  have hbB := Below.go hb8 hbB
  try simp only [len_ints, Result.andThen_ok]
  go_wp2
  go_loopw [9, 171] (fun u i wr => ∃ k : Nat, k ≤ k1 + k2 ∧ i = .int .i64 k ∧ u = .bool true ∧ Below wB.heap.size wB wr) (fun _ i _ => (k1 + k2) - (intOf i).toNat)
  case atStart => exact ⟨0, Nat.zero_le _, rfl, rfl, Below.refl _ _⟩
  case round =>
    obtain ⟨k, hk, rfl, rfl, hbr⟩ := hrel
    by_cases hlt : k < k1 + k2
    · obtain ⟨bk, off, rfl, hB, hc⟩ := LB.out.2 (by omega)
      have x0 := (hbr.cell (p := ⟨bk, off + k * 2, none⟩) hB).trans (hc k hlt).1
      have x1 := (hbr.cell (p := ⟨bk, off + k * 2 + 1, none⟩) hB).trans (hc k hlt).2
      clear hc
      have hD := HA.out k hlt
      generalize (Rc.coF la lb r 0 ++ Rc.coN la lb r 0)[k]?.getD (0, 0) = e at *
      obtain ⟨d, s⟩ := e
      have i0 : (0 : Int) ≤ (k : Int) := by omega
      have i1 : (k : Int) < (k1 : Int) + (k2 : Int) := by omega
      have i2 : (k : Int) < ((k1 + k2 : Nat) : Int) := by omega
      have hD' : b.frm ≤ s := hD
      clear hD
      obtain ⟨q0, q1', q2, q3, q4, q5⟩ := blk6 (keepN (keep' kbB.out hbr) (.cells #[.int .i64 d, .int .i64 s] tF))
      obtain ⟨⟨y0, y1⟩, -⟩ := blk2 (heap_new wr (.cells #[.int .i64 d, .int .i64 s] tF))
      have hD2 : decide (b.frm ≤ s) = true := decide_eq_true hD'
      clear hD'
      go_wp2
      go_roundw
      case rel => exact ⟨k + 1, by omega, by go_num, rfl, Below.goN hbr _⟩
      case measure => simp [intOf]; omega
    · obtain rfl : k = k1 + k2 := by omega
      go_wp2
      go_ret
      exact ⟨rfl, Below.go hbB hbr⟩
set_option maxHeartbeats 2000000 in
set_option maxRecDepth 100000 in
theorem tables_K_vr (A1 A2 : Option Addr) (n1 c1 n2 c2 : Nat) (la lb : Lpm.LL) (a b : Ed) (r : Rec) (t : Int) (w : World) (ht : Tab w) (h1 : Lp w.heap.size w A1 n1 la) (h2 : Lp w.heap.size w A2 n2 lb) (ga : Hid ((decide (n1 ≤ 20) && formedB a la) = true)) (gb : Hid ((decide (n2 ≤ 20) && formedB b lb) = true)) (m1 : n1 ≤ 110) (m2 : n2 ≤ 110) (fe : Hid (foE a b la lb = 0)) (fv : Hid (foV a b la lb = true)) (p1 : 0 ≤ t) (p2 : t < b.frm) (D : Int) (a1 : AtDay la D t) (a2 : AtDay lb D t) (ss : Lpm.start la D = Lpm.start lb D) (vr : Hid (Rc.validB r = false)) :
    Calls Tryd.prog 4 #[(.agg #[.int .i64 a.ver, .int .i64 a.frm, .int .i64 a.unt, .slice A1 n1 c1, .int .i64 a.sc, .int .i64 a.ss]), (.agg #[.int .i64 b.ver, .int .i64 b.frm, .int .i64 b.unt, .slice A2 n2 c2, .int .i64 b.sc, .int .i64 b.ss]), (.agg #[.int .i64 r.kind, .int .i64 r.every, .int .i64 r.wd, .int .i64 r.nth, .int .i64 r.frm, .int .i64 r.unt, .int .i64 r.sec, .bool r.shift, .bool r.both]), .int .i64 t] w (LawPost w) := by
  have HT : Hid (∀ W, Below w.heap.size w W → Tab W) := Lib.hid fun W hW => ht.below hW
  have H1 : Hid (∀ W, Below w.heap.size w W → Lp W.heap.size W A1 n1 la) := Lib.hid fun W hW => h1.go hW
  have H2 : Hid (∀ W, Below w.heap.size w W → Lp W.heap.size W A2 n2 lb) := Lib.hid fun W hW => h2.go hW
  have hb := Below.goN (Below.goN (Below.goN (Below.refl w.heap.size w) (.cells #[.int .i64 a.ver, .int .i64 a.frm, .int .i64 a.unt, .slice A1 n1 c1, .int .i64 a.sc, .int .i64 a.ss] 43)) (.cells #[.int .i64 b.ver, .int .i64 b.frm, .int .i64 b.unt, .slice A2 n2 c2, .int .i64 b.sc, .int .i64 b.ss] 43)) (.cells #[.int .i64 r.kind, .int .i64 r.every, .int .i64 r.wd, .int .i64 r.nth, .int .i64 r.frm, .int .i64 r.unt, .int .i64 r.sec, .bool r.shift, .bool r.both] 24)
  have ka := Lib.hid (new30 w (.cells #[.int .i64 a.ver, .int .i64 a.frm, .int .i64 a.unt, .slice A1 n1 c1, .int .i64 a.sc, .int .i64 a.ss] 43) (.cells #[.int .i64 b.ver, .int .i64 b.frm, .int .i64 b.unt, .slice A2 n2 c2, .int .i64 b.sc, .int .i64 b.ss] 43) (.cells #[.int .i64 r.kind, .int .i64 r.every, .int .i64 r.wd, .int .i64 r.nth, .int .i64 r.frm, .int .i64 r.unt, .int .i64 r.sec, .bool r.shift, .bool r.both] 24))
  have kb := Lib.hid (new31 w (.cells #[.int .i64 a.ver, .int .i64 a.frm, .int .i64 a.unt, .slice A1 n1 c1, .int .i64 a.sc, .int .i64 a.ss] 43) (.cells #[.int .i64 b.ver, .int .i64 b.frm, .int .i64 b.unt, .slice A2 n2 c2, .int .i64 b.sc, .int .i64 b.ss] 43) (.cells #[.int .i64 r.kind, .int .i64 r.every, .int .i64 r.wd, .int .i64 r.nth, .int .i64 r.frm, .int .i64 r.unt, .int .i64 r.sec, .bool r.shift, .bool r.both] 24))
  have kx := Lib.hid (new32 w (.cells #[.int .i64 a.ver, .int .i64 a.frm, .int .i64 a.unt, .slice A1 n1 c1, .int .i64 a.sc, .int .i64 a.ss] 43) (.cells #[.int .i64 b.ver, .int .i64 b.frm, .int .i64 b.unt, .slice A2 n2 c2, .int .i64 b.sc, .int .i64 b.ss] 43) (.cells #[.int .i64 r.kind, .int .i64 r.every, .int .i64 r.wd, .int .i64 r.nth, .int .i64 r.frm, .int .i64 r.unt, .int .i64 r.sec, .bool r.shift, .bool r.both] 24))
  clear ht h1 h2
  have p1' : decide (0 ≤ t) = true := decide_eq_true p1
  have p2' : decide (t < b.frm) = true := decide_eq_true p2
  have T1 := fun (W : World) (hb : Below w.heap.size w W) => To_at A1 n1 c1 la D t W (H1.out W hb) m1 a1
  have T2 := fun (W : World) (hb : Below w.heap.size w W) => To_at A2 n2 c2 lb D t W (H2.out W hb) m2 a2
  have S1 := fun (W : World) (hb : Below w.heap.size w W) => Show_gen A1 n1 c1 la D t W (H1.out W hb) m1 a1
  have S2 := fun (W : World) (hb : Below w.heap.size w W) => Show_gen A2 n2 c2 lb D t W (H2.out W hb) m2 a2
  have V1 := fun (W : World) (hb : Below w.heap.size w W) => Move_at A1 A2 n1 c1 n2 c2 la lb D D t W (H1.out W hb) (H2.out W hb) m1 m2 a1 a2
  rw [← ss] at T2 S2 V1
  unfold wall at S1 S2
  generalize t - Lpm.start la D = M at *
  generalize (if M / 1000000 ≤ 86399 then M / 1000000 else 86399) = S at *
  generalize M % 1000000 = U at *
  clear ss a1 a2
  have T1 := Lib.hid T1
  have T2 := Lib.hid T2
  have S1 := Lib.hid S1
  have S2 := Lib.hid S2
  have V1 := Lib.hid V1
  go_enter Tryd.func4, Tryd.ntmps4
  go_wp2_with fail
  refine (head14 _ (HT.out _ hb)).mono ?_
  rintro e w1 ⟨rfl, hn⟩
  have hb := Below.go hb hn
  have ka := Lib.hid (keep' ka.out hn)
  have kb := Lib.hid (keep' kb.out hn)
  have kx := Lib.hid (keep' kx.out hn)
  clear hn
  obtain ⟨ka_0, ka_1, ka_2, ka_3, ka_4, ka_5⟩ := blk6 ka.out
  go_wp2_with fail
  refine (r14Ed_any A1 n1 c1 la a _ (H1.out _ hb)).mono ?_
  rintro e w2 ⟨rfl, hn⟩
  have hb := Below.go hb hn
  have ka := Lib.hid (keep' ka.out hn)
  have kb := Lib.hid (keep' kb.out hn)
  have kx := Lib.hid (keep' kx.out hn)
  clear hn
  rw [ga.out]
  clear ka_0 ka_1 ka_2 ka_3 ka_4 ka_5
  obtain ⟨kb_0, kb_1, kb_2, kb_3, kb_4, kb_5⟩ := blk6 kb.out
  go_wp2_with fail
  refine (r14Ed_any A2 n2 c2 lb b _ (H2.out _ hb)).mono ?_
  rintro e w3 ⟨rfl, hn⟩
  have hb := Below.go hb hn
  have ka := Lib.hid (keep' ka.out hn)
  have kb := Lib.hid (keep' kb.out hn)
  have kx := Lib.hid (keep' kx.out hn)
  clear hn
  rw [gb.out]
  clear kb_0 kb_1 kb_2 kb_3 kb_4 kb_5
  obtain ⟨ka_0, ka_1, ka_2, ka_3, ka_4, ka_5⟩ := blk6 ka.out
  obtain ⟨kb_0, kb_1, kb_2, kb_3, kb_4, kb_5⟩ := blk6 kb.out
  go_wp2_with fail
  refine (Follows_any A1 A2 n1 c1 n2 c2 la lb a b _ (H1.out _ hb) (H2.out _ hb) m1 m2).mono ?_
  rintro e w4 ⟨rfl, hn⟩
  have hb := Below.go hb hn
  have ka := Lib.hid (keep' ka.out hn)
  have kb := Lib.hid (keep' kb.out hn)
  have kx := Lib.hid (keep' kx.out hn)
  clear hn
  rw [fv.out, fe.out]
  clear ka_0 ka_1 ka_2 ka_3 ka_4 ka_5 kb_0 kb_1 kb_2 kb_3 kb_4 kb_5
  obtain ⟨ka_0, ka_1, ka_2, ka_3, ka_4, ka_5⟩ := blk6 ka.out
  obtain ⟨kb_0, kb_1, kb_2, kb_3, kb_4, kb_5⟩ := blk6 kb.out
  go_wp2_with fail
  refine (T1.out _ hb).mono ?_
  rintro e w5 ⟨rfl, hn⟩
  have hb := Below.go hb hn
  have ka := Lib.hid (keep' ka.out hn)
  have kb := Lib.hid (keep' kb.out hn)
  have kx := Lib.hid (keep' kx.out hn)
  clear hn
  clear ka_0 ka_1 ka_2 ka_3 ka_4 ka_5 kb_0 kb_1 kb_2 kb_3 kb_4 kb_5
  have k12 := Lib.hid (heap_new w5 (.cells #[.int .i64 D, .int .i64 M] 48))
  have ka := Lib.hid (keepN ka.out (.cells #[.int .i64 D, .int .i64 M] 48))
  have kb := Lib.hid (keepN kb.out (.cells #[.int .i64 D, .int .i64 M] 48))
  have kx := Lib.hid (keepN kx.out (.cells #[.int .i64 D, .int .i64 M] 48))
  have hb := Below.goN hb (.cells #[.int .i64 D, .int .i64 M] 48)
  obtain ⟨kb_0, kb_1, kb_2, kb_3, kb_4, kb_5⟩ := blk6 kb.out
  go_wp2_with fail
  refine (T2.out _ hb).mono ?_
  rintro e w6 ⟨rfl, hn⟩
  have hb := Below.go hb hn
  have ka := Lib.hid (keep' ka.out hn)
  have kb := Lib.hid (keep' kb.out hn)
  have kx := Lib.hid (keep' kx.out hn)
  have k12 := Lib.hid (keep' k12.out hn)
  clear hn
  clear kb_0 kb_1 kb_2 kb_3 kb_4 kb_5
  have k14 := Lib.hid (heap_new w6 (.cells #[.int .i64 D, .int .i64 M] 48))
  have ka := Lib.hid (keepN ka.out (.cells #[.int .i64 D, .int .i64 M] 48))
  have kb := Lib.hid (keepN kb.out (.cells #[.int .i64 D, .int .i64 M] 48))
  have kx := Lib.hid (keepN kx.out (.cells #[.int .i64 D, .int .i64 M] 48))
  have k12 := Lib.hid (keepN k12.out (.cells #[.int .i64 D, .int .i64 M] 48))
  have hb := Below.goN hb (.cells #[.int .i64 D, .int .i64 M] 48)
  obtain ⟨ka_0, ka_1, ka_2, ka_3, ka_4, ka_5⟩ := blk6 ka.out
  go_wp2_with fail
  refine (S1.out _ hb).mono ?_
  rintro e w7 ⟨rfl, hn⟩
  have hb := Below.go hb hn
  have ka := Lib.hid (keep' ka.out hn)
  have kb := Lib.hid (keep' kb.out hn)
  have kx := Lib.hid (keep' kx.out hn)
  have k12 := Lib.hid (keep' k12.out hn)
  have k14 := Lib.hid (keep' k14.out hn)
  clear hn
  clear ka_0 ka_1 ka_2 ka_3 ka_4 ka_5
  have k16 := Lib.hid (heap_new w7 (.cells #[.int .i64 D, .int .i64 S, .int .i64 U] 52))
  have ka := Lib.hid (keepN ka.out (.cells #[.int .i64 D, .int .i64 S, .int .i64 U] 52))
  have kb := Lib.hid (keepN kb.out (.cells #[.int .i64 D, .int .i64 S, .int .i64 U] 52))
  have kx := Lib.hid (keepN kx.out (.cells #[.int .i64 D, .int .i64 S, .int .i64 U] 52))
  have k12 := Lib.hid (keepN k12.out (.cells #[.int .i64 D, .int .i64 S, .int .i64 U] 52))
  have k14 := Lib.hid (keepN k14.out (.cells #[.int .i64 D, .int .i64 S, .int .i64 U] 52))
  have hb := Below.goN hb (.cells #[.int .i64 D, .int .i64 S, .int .i64 U] 52)
  obtain ⟨kb_0, kb_1, kb_2, kb_3, kb_4, kb_5⟩ := blk6 kb.out
  go_wp2_with fail
  refine (S2.out _ hb).mono ?_
  rintro e w8 ⟨rfl, hn⟩
  have hb := Below.go hb hn
  have ka := Lib.hid (keep' ka.out hn)
  have kb := Lib.hid (keep' kb.out hn)
  have kx := Lib.hid (keep' kx.out hn)
  have k12 := Lib.hid (keep' k12.out hn)
  have k14 := Lib.hid (keep' k14.out hn)
  have k16 := Lib.hid (keep' k16.out hn)
  clear hn
  clear kb_0 kb_1 kb_2 kb_3 kb_4 kb_5
  have k18 := Lib.hid (heap_new w8 (.cells #[.int .i64 D, .int .i64 S, .int .i64 U] 52))
  have ka := Lib.hid (keepN ka.out (.cells #[.int .i64 D, .int .i64 S, .int .i64 U] 52))
  have kb := Lib.hid (keepN kb.out (.cells #[.int .i64 D, .int .i64 S, .int .i64 U] 52))
  have kx := Lib.hid (keepN kx.out (.cells #[.int .i64 D, .int .i64 S, .int .i64 U] 52))
  have k12 := Lib.hid (keepN k12.out (.cells #[.int .i64 D, .int .i64 S, .int .i64 U] 52))
  have k14 := Lib.hid (keepN k14.out (.cells #[.int .i64 D, .int .i64 S, .int .i64 U] 52))
  have k16 := Lib.hid (keepN k16.out (.cells #[.int .i64 D, .int .i64 S, .int .i64 U] 52))
  have hb := Below.goN hb (.cells #[.int .i64 D, .int .i64 S, .int .i64 U] 52)
  obtain ⟨ka_0, ka_1, ka_2, ka_3, ka_4, ka_5⟩ := blk6 ka.out
  obtain ⟨kb_0, kb_1, kb_2, kb_3, kb_4, kb_5⟩ := blk6 kb.out
  obtain ⟨⟨x12, y12⟩, -⟩ := blk2 k12.out
  go_wp2_with fail
  refine (V1.out _ hb).mono ?_
  rintro e w9 ⟨rfl, hn⟩
  have hb := Below.go hb hn
  have ka := Lib.hid (keep' ka.out hn)
  have kb := Lib.hid (keep' kb.out hn)
  have kx := Lib.hid (keep' kx.out hn)
  have k12 := Lib.hid (keep' k12.out hn)
  have k14 := Lib.hid (keep' k14.out hn)
  have k16 := Lib.hid (keep' k16.out hn)
  have k18 := Lib.hid (keep' k18.out hn)
  clear hn
  clear ka_0 ka_1 ka_2 ka_3 ka_4 ka_5 kb_0 kb_1 kb_2 kb_3 kb_4 kb_5
  clear x12 y12
  have k20 := Lib.hid (heap_new w9 (.cells #[.int .i64 D, .int .i64 M] 48))
  have ka := Lib.hid (keepN ka.out (.cells #[.int .i64 D, .int .i64 M] 48))
  have kb := Lib.hid (keepN kb.out (.cells #[.int .i64 D, .int .i64 M] 48))
  have kx := Lib.hid (keepN kx.out (.cells #[.int .i64 D, .int .i64 M] 48))
  have k12 := Lib.hid (keepN k12.out (.cells #[.int .i64 D, .int .i64 M] 48))
  have k14 := Lib.hid (keepN k14.out (.cells #[.int .i64 D, .int .i64 M] 48))
  have k16 := Lib.hid (keepN k16.out (.cells #[.int .i64 D, .int .i64 M] 48))
  have k18 := Lib.hid (keepN k18.out (.cells #[.int .i64 D, .int .i64 M] 48))
  have hb := Below.goN hb (.cells #[.int .i64 D, .int .i64 M] 48)
  clear T1 T2 S1 S2 V1
  obtain ⟨⟨x12, y12⟩, -⟩ := blk2 k12.out
  obtain ⟨⟨x14, y14⟩, -⟩ := blk2 k14.out
  obtain ⟨⟨x20, y20⟩, -⟩ := blk2 k20.out
  obtain ⟨⟨x16, y16, z16⟩, -⟩ := blk3 k16.out
  obtain ⟨⟨x18, y18, z18⟩, -⟩ := blk3 k18.out
  obtain ⟨kx_0, kx_1, kx_2, kx_3, kx_4, kx_5, kx_6, kx_7, kx_8⟩ := blk9 kx.out
  go_wp2_with fail
  refine (refValid21_any r _).mono ?_
  rintro e w10 ⟨rfl, hn⟩
  have hb := Below.go hb hn
  have ka := Lib.hid (keep' ka.out hn)
  have kb := Lib.hid (keep' kb.out hn)
  have kx := Lib.hid (keep' kx.out hn)
  clear hn
  clear kx_0 kx_1 kx_2 kx_3 kx_4 kx_5 kx_6 kx_7 kx_8
  rw [vr.out]
  go_wp2
  go_ret
  exact ⟨by simp, hb⟩
set_option maxHeartbeats 2000000 in
set_option maxRecDepth 100000 in
theorem tables_K_few (A1 A2 : Option Addr) (n1 c1 n2 c2 : Nat) (la lb : Lpm.LL) (a b : Ed) (r : Rec) (t : Int) (w : World) (ht : Tab w) (h1 : Lp w.heap.size w A1 n1 la) (h2 : Lp w.heap.size w A2 n2 lb) (ga : Hid ((decide (n1 ≤ 20) && formedB a la) = true)) (gb : Hid ((decide (n2 ≤ 20) && formedB b lb) = true)) (m1 : n1 ≤ 110) (m2 : n2 ≤ 110) (fe : Hid (foE a b la lb = 0)) (fv : Hid (foV a b la lb = true)) (p1 : 0 ≤ t) (p2 : t < b.frm) (D : Int) (a1 : AtDay la D t) (a2 : AtDay lb D t) (ss : Lpm.start la D = Lpm.start lb D) (vr : Hid (Rc.validB r = true)) (fw : Hid (decide (r.unt - r.frm ≤ 1200) = false)) :
    Calls Tryd.prog 4 #[(.agg #[.int .i64 a.ver, .int .i64 a.frm, .int .i64 a.unt, .slice A1 n1 c1, .int .i64 a.sc, .int .i64 a.ss]), (.agg #[.int .i64 b.ver, .int .i64 b.frm, .int .i64 b.unt, .slice A2 n2 c2, .int .i64 b.sc, .int .i64 b.ss]), (.agg #[.int .i64 r.kind, .int .i64 r.every, .int .i64 r.wd, .int .i64 r.nth, .int .i64 r.frm, .int .i64 r.unt, .int .i64 r.sec, .bool r.shift, .bool r.both]), .int .i64 t] w (LawPost w) := by
  have HT : Hid (∀ W, Below w.heap.size w W → Tab W) := Lib.hid fun W hW => ht.below hW
  have H1 : Hid (∀ W, Below w.heap.size w W → Lp W.heap.size W A1 n1 la) := Lib.hid fun W hW => h1.go hW
  have H2 : Hid (∀ W, Below w.heap.size w W → Lp W.heap.size W A2 n2 lb) := Lib.hid fun W hW => h2.go hW
  have hb := Below.goN (Below.goN (Below.goN (Below.refl w.heap.size w) (.cells #[.int .i64 a.ver, .int .i64 a.frm, .int .i64 a.unt, .slice A1 n1 c1, .int .i64 a.sc, .int .i64 a.ss] 43)) (.cells #[.int .i64 b.ver, .int .i64 b.frm, .int .i64 b.unt, .slice A2 n2 c2, .int .i64 b.sc, .int .i64 b.ss] 43)) (.cells #[.int .i64 r.kind, .int .i64 r.every, .int .i64 r.wd, .int .i64 r.nth, .int .i64 r.frm, .int .i64 r.unt, .int .i64 r.sec, .bool r.shift, .bool r.both] 24)
  have ka := Lib.hid (new30 w (.cells #[.int .i64 a.ver, .int .i64 a.frm, .int .i64 a.unt, .slice A1 n1 c1, .int .i64 a.sc, .int .i64 a.ss] 43) (.cells #[.int .i64 b.ver, .int .i64 b.frm, .int .i64 b.unt, .slice A2 n2 c2, .int .i64 b.sc, .int .i64 b.ss] 43) (.cells #[.int .i64 r.kind, .int .i64 r.every, .int .i64 r.wd, .int .i64 r.nth, .int .i64 r.frm, .int .i64 r.unt, .int .i64 r.sec, .bool r.shift, .bool r.both] 24))
  have kb := Lib.hid (new31 w (.cells #[.int .i64 a.ver, .int .i64 a.frm, .int .i64 a.unt, .slice A1 n1 c1, .int .i64 a.sc, .int .i64 a.ss] 43) (.cells #[.int .i64 b.ver, .int .i64 b.frm, .int .i64 b.unt, .slice A2 n2 c2, .int .i64 b.sc, .int .i64 b.ss] 43) (.cells #[.int .i64 r.kind, .int .i64 r.every, .int .i64 r.wd, .int .i64 r.nth, .int .i64 r.frm, .int .i64 r.unt, .int .i64 r.sec, .bool r.shift, .bool r.both] 24))
  have kx := Lib.hid (new32 w (.cells #[.int .i64 a.ver, .int .i64 a.frm, .int .i64 a.unt, .slice A1 n1 c1, .int .i64 a.sc, .int .i64 a.ss] 43) (.cells #[.int .i64 b.ver, .int .i64 b.frm, .int .i64 b.unt, .slice A2 n2 c2, .int .i64 b.sc, .int .i64 b.ss] 43) (.cells #[.int .i64 r.kind, .int .i64 r.every, .int .i64 r.wd, .int .i64 r.nth, .int .i64 r.frm, .int .i64 r.unt, .int .i64 r.sec, .bool r.shift, .bool r.both] 24))
  clear ht h1 h2
  have p1' : decide (0 ≤ t) = true := decide_eq_true p1
  have p2' : decide (t < b.frm) = true := decide_eq_true p2
  have T1 := fun (W : World) (hb : Below w.heap.size w W) => To_at A1 n1 c1 la D t W (H1.out W hb) m1 a1
  have T2 := fun (W : World) (hb : Below w.heap.size w W) => To_at A2 n2 c2 lb D t W (H2.out W hb) m2 a2
  have S1 := fun (W : World) (hb : Below w.heap.size w W) => Show_gen A1 n1 c1 la D t W (H1.out W hb) m1 a1
  have S2 := fun (W : World) (hb : Below w.heap.size w W) => Show_gen A2 n2 c2 lb D t W (H2.out W hb) m2 a2
  have V1 := fun (W : World) (hb : Below w.heap.size w W) => Move_at A1 A2 n1 c1 n2 c2 la lb D D t W (H1.out W hb) (H2.out W hb) m1 m2 a1 a2
  rw [← ss] at T2 S2 V1
  unfold wall at S1 S2
  generalize t - Lpm.start la D = M at *
  generalize (if M / 1000000 ≤ 86399 then M / 1000000 else 86399) = S at *
  generalize M % 1000000 = U at *
  clear ss a1 a2
  have T1 := Lib.hid T1
  have T2 := Lib.hid T2
  have S1 := Lib.hid S1
  have S2 := Lib.hid S2
  have V1 := Lib.hid V1
  go_enter Tryd.func4, Tryd.ntmps4
  go_wp2_with fail
  refine (head14 _ (HT.out _ hb)).mono ?_
  rintro e w1 ⟨rfl, hn⟩
  have hb := Below.go hb hn
  have ka := Lib.hid (keep' ka.out hn)
  have kb := Lib.hid (keep' kb.out hn)
  have kx := Lib.hid (keep' kx.out hn)
  clear hn
  obtain ⟨ka_0, ka_1, ka_2, ka_3, ka_4, ka_5⟩ := blk6 ka.out
  go_wp2_with fail
  refine (r14Ed_any A1 n1 c1 la a _ (H1.out _ hb)).mono ?_
  rintro e w2 ⟨rfl, hn⟩
  have hb := Below.go hb hn
  have ka := Lib.hid (keep' ka.out hn)
  have kb := Lib.hid (keep' kb.out hn)
  have kx := Lib.hid (keep' kx.out hn)
  clear hn
  rw [ga.out]
  clear ka_0 ka_1 ka_2 ka_3 ka_4 ka_5
  obtain ⟨kb_0, kb_1, kb_2, kb_3, kb_4, kb_5⟩ := blk6 kb.out
  go_wp2_with fail
  refine (r14Ed_any A2 n2 c2 lb b _ (H2.out _ hb)).mono ?_
  rintro e w3 ⟨rfl, hn⟩
  have hb := Below.go hb hn
  have ka := Lib.hid (keep' ka.out hn)
  have kb := Lib.hid (keep' kb.out hn)
  have kx := Lib.hid (keep' kx.out hn)
  clear hn
  rw [gb.out]
  clear kb_0 kb_1 kb_2 kb_3 kb_4 kb_5
  obtain ⟨ka_0, ka_1, ka_2, ka_3, ka_4, ka_5⟩ := blk6 ka.out
  obtain ⟨kb_0, kb_1, kb_2, kb_3, kb_4, kb_5⟩ := blk6 kb.out
  go_wp2_with fail
  refine (Follows_any A1 A2 n1 c1 n2 c2 la lb a b _ (H1.out _ hb) (H2.out _ hb) m1 m2).mono ?_
  rintro e w4 ⟨rfl, hn⟩
  have hb := Below.go hb hn
  have ka := Lib.hid (keep' ka.out hn)
  have kb := Lib.hid (keep' kb.out hn)
  have kx := Lib.hid (keep' kx.out hn)
  clear hn
  rw [fv.out, fe.out]
  clear ka_0 ka_1 ka_2 ka_3 ka_4 ka_5 kb_0 kb_1 kb_2 kb_3 kb_4 kb_5
  obtain ⟨ka_0, ka_1, ka_2, ka_3, ka_4, ka_5⟩ := blk6 ka.out
  obtain ⟨kb_0, kb_1, kb_2, kb_3, kb_4, kb_5⟩ := blk6 kb.out
  go_wp2_with fail
  refine (T1.out _ hb).mono ?_
  rintro e w5 ⟨rfl, hn⟩
  have hb := Below.go hb hn
  have ka := Lib.hid (keep' ka.out hn)
  have kb := Lib.hid (keep' kb.out hn)
  have kx := Lib.hid (keep' kx.out hn)
  clear hn
  clear ka_0 ka_1 ka_2 ka_3 ka_4 ka_5 kb_0 kb_1 kb_2 kb_3 kb_4 kb_5
  have k12 := Lib.hid (heap_new w5 (.cells #[.int .i64 D, .int .i64 M] 48))
  have ka := Lib.hid (keepN ka.out (.cells #[.int .i64 D, .int .i64 M] 48))
  have kb := Lib.hid (keepN kb.out (.cells #[.int .i64 D, .int .i64 M] 48))
  have kx := Lib.hid (keepN kx.out (.cells #[.int .i64 D, .int .i64 M] 48))
  have hb := Below.goN hb (.cells #[.int .i64 D, .int .i64 M] 48)
  obtain ⟨kb_0, kb_1, kb_2, kb_3, kb_4, kb_5⟩ := blk6 kb.out
  go_wp2_with fail
  refine (T2.out _ hb).mono ?_
  rintro e w6 ⟨rfl, hn⟩
  have hb := Below.go hb hn
  have ka := Lib.hid (keep' ka.out hn)
  have kb := Lib.hid (keep' kb.out hn)
  have kx := Lib.hid (keep' kx.out hn)
  have k12 := Lib.hid (keep' k12.out hn)
  clear hn
  clear kb_0 kb_1 kb_2 kb_3 kb_4 kb_5
  have k14 := Lib.hid (heap_new w6 (.cells #[.int .i64 D, .int .i64 M] 48))
  have ka := Lib.hid (keepN ka.out (.cells #[.int .i64 D, .int .i64 M] 48))
  have kb := Lib.hid (keepN kb.out (.cells #[.int .i64 D, .int .i64 M] 48))
  have kx := Lib.hid (keepN kx.out (.cells #[.int .i64 D, .int .i64 M] 48))
  have k12 := Lib.hid (keepN k12.out (.cells #[.int .i64 D, .int .i64 M] 48))
  have hb := Below.goN hb (.cells #[.int .i64 D, .int .i64 M] 48)
  obtain ⟨ka_0, ka_1, ka_2, ka_3, ka_4, ka_5⟩ := blk6 ka.out
  go_wp2_with fail
  refine (S1.out _ hb).mono ?_
  rintro e w7 ⟨rfl, hn⟩
  have hb := Below.go hb hn
  have ka := Lib.hid (keep' ka.out hn)
  have kb := Lib.hid (keep' kb.out hn)
  have kx := Lib.hid (keep' kx.out hn)
  have k12 := Lib.hid (keep' k12.out hn)
  have k14 := Lib.hid (keep' k14.out hn)
  clear hn
  clear ka_0 ka_1 ka_2 ka_3 ka_4 ka_5
  have k16 := Lib.hid (heap_new w7 (.cells #[.int .i64 D, .int .i64 S, .int .i64 U] 52))
  have ka := Lib.hid (keepN ka.out (.cells #[.int .i64 D, .int .i64 S, .int .i64 U] 52))
  have kb := Lib.hid (keepN kb.out (.cells #[.int .i64 D, .int .i64 S, .int .i64 U] 52))
  have kx := Lib.hid (keepN kx.out (.cells #[.int .i64 D, .int .i64 S, .int .i64 U] 52))
  have k12 := Lib.hid (keepN k12.out (.cells #[.int .i64 D, .int .i64 S, .int .i64 U] 52))
  have k14 := Lib.hid (keepN k14.out (.cells #[.int .i64 D, .int .i64 S, .int .i64 U] 52))
  have hb := Below.goN hb (.cells #[.int .i64 D, .int .i64 S, .int .i64 U] 52)
  obtain ⟨kb_0, kb_1, kb_2, kb_3, kb_4, kb_5⟩ := blk6 kb.out
  go_wp2_with fail
  refine (S2.out _ hb).mono ?_
  rintro e w8 ⟨rfl, hn⟩
  have hb := Below.go hb hn
  have ka := Lib.hid (keep' ka.out hn)
  have kb := Lib.hid (keep' kb.out hn)
  have kx := Lib.hid (keep' kx.out hn)
  have k12 := Lib.hid (keep' k12.out hn)
  have k14 := Lib.hid (keep' k14.out hn)
  have k16 := Lib.hid (keep' k16.out hn)
  clear hn
  clear kb_0 kb_1 kb_2 kb_3 kb_4 kb_5
  have k18 := Lib.hid (heap_new w8 (.cells #[.int .i64 D, .int .i64 S, .int .i64 U] 52))
  have ka := Lib.hid (keepN ka.out (.cells #[.int .i64 D, .int .i64 S, .int .i64 U] 52))
  have kb := Lib.hid (keepN kb.out (.cells #[.int .i64 D, .int .i64 S, .int .i64 U] 52))
  have kx := Lib.hid (keepN kx.out (.cells #[.int .i64 D, .int .i64 S, .int .i64 U] 52))
  have k12 := Lib.hid (keepN k12.out (.cells #[.int .i64 D, .int .i64 S, .int .i64 U] 52))
  have k14 := Lib.hid (keepN k14.out (.cells #[.int .i64 D, .int .i64 S, .int .i64 U] 52))
  have k16 := Lib.hid (keepN k16.out (.cells #[.int .i64 D, .int .i64 S, .int .i64 U] 52))
  have hb := Below.goN hb (.cells #[.int .i64 D, .int .i64 S, .int .i64 U] 52)
  obtain ⟨ka_0, ka_1, ka_2, ka_3, ka_4, ka_5⟩ := blk6 ka.out
  obtain ⟨kb_0, kb_1, kb_2, kb_3, kb_4, kb_5⟩ := blk6 kb.out
  obtain ⟨⟨x12, y12⟩, -⟩ := blk2 k12.out
  go_wp2_with fail
  refine (V1.out _ hb).mono ?_
  rintro e w9 ⟨rfl, hn⟩
  have hb := Below.go hb hn
  have ka := Lib.hid (keep' ka.out hn)
  have kb := Lib.hid (keep' kb.out hn)
  have kx := Lib.hid (keep' kx.out hn)
  have k12 := Lib.hid (keep' k12.out hn)
  have k14 := Lib.hid (keep' k14.out hn)
  have k16 := Lib.hid (keep' k16.out hn)
  have k18 := Lib.hid (keep' k18.out hn)
  clear hn
  clear ka_0 ka_1 ka_2 ka_3 ka_4 ka_5 kb_0 kb_1 kb_2 kb_3 kb_4 kb_5
  clear x12 y12
  have k20 := Lib.hid (heap_new w9 (.cells #[.int .i64 D, .int .i64 M] 48))
  have ka := Lib.hid (keepN ka.out (.cells #[.int .i64 D, .int .i64 M] 48))
  have kb := Lib.hid (keepN kb.out (.cells #[.int .i64 D, .int .i64 M] 48))
  have kx := Lib.hid (keepN kx.out (.cells #[.int .i64 D, .int .i64 M] 48))
  have k12 := Lib.hid (keepN k12.out (.cells #[.int .i64 D, .int .i64 M] 48))
  have k14 := Lib.hid (keepN k14.out (.cells #[.int .i64 D, .int .i64 M] 48))
  have k16 := Lib.hid (keepN k16.out (.cells #[.int .i64 D, .int .i64 M] 48))
  have k18 := Lib.hid (keepN k18.out (.cells #[.int .i64 D, .int .i64 M] 48))
  have hb := Below.goN hb (.cells #[.int .i64 D, .int .i64 M] 48)
  clear T1 T2 S1 S2 V1
  obtain ⟨⟨x12, y12⟩, -⟩ := blk2 k12.out
  obtain ⟨⟨x14, y14⟩, -⟩ := blk2 k14.out
  obtain ⟨⟨x20, y20⟩, -⟩ := blk2 k20.out
  obtain ⟨⟨x16, y16, z16⟩, -⟩ := blk3 k16.out
  obtain ⟨⟨x18, y18, z18⟩, -⟩ := blk3 k18.out
  obtain ⟨kx_0, kx_1, kx_2, kx_3, kx_4, kx_5, kx_6, kx_7, kx_8⟩ := blk9 kx.out
  go_wp2_with fail
  refine (refValid21_any r _).mono ?_
  rintro e w10 ⟨rfl, hn⟩
  have hb := Below.go hb hn
  have ka := Lib.hid (keep' ka.out hn)
  have kb := Lib.hid (keep' kb.out hn)
  have kx := Lib.hid (keep' kx.out hn)
  clear hn
  clear kx_0 kx_1 kx_2 kx_3 kx_4 kx_5 kx_6 kx_7 kx_8
  rw [vr.out]
  obtain ⟨kx_0, kx_1, kx_2, kx_3, kx_4, kx_5, kx_6, kx_7, kx_8⟩ := blk9 kx.out
  go_wp2_with fail
  refine (refFew21_any r _ (by have := (of_decide_eq_true vr.out : Rc.Val r).2.1; omega) (by have := (of_decide_eq_true vr.out : Rc.Val r).2.1; omega) (by have := (of_decide_eq_true vr.out : Rc.Val r).2.1; omega) (by have := (of_decide_eq_true vr.out : Rc.Val r).2.1; omega)).mono ?_
  rintro e w11 ⟨rfl, hn⟩
  have hb := Below.go hb hn
  have ka := Lib.hid (keep' ka.out hn)
  have kb := Lib.hid (keep' kb.out hn)
  have kx := Lib.hid (keep' kx.out hn)
  clear hn
  clear kx_0 kx_1 kx_2 kx_3 kx_4 kx_5 kx_6 kx_7 kx_8
  rw [fw.out]
  go_wp2
  go_ret
  exact ⟨by simp, hb⟩
set_option maxHeartbeats 2000000 in
set_option maxRecDepth 100000 in
theorem tables_K_lim (A1 A2 : Option Addr) (n1 c1 n2 c2 : Nat) (la lb : Lpm.LL) (a b : Ed) (r : Rec) (t : Int) (w : World) (ht : Tab w) (h1 : Lp w.heap.size w A1 n1 la) (h2 : Lp w.heap.size w A2 n2 lb) (ga : Hid ((decide (n1 ≤ 20) && formedB a la) = true)) (gb : Hid ((decide (n2 ≤ 20) && formedB b lb) = true)) (m1 : n1 ≤ 110) (m2 : n2 ≤ 110) (fe : Hid (foE a b la lb = 0)) (fv : Hid (foV a b la lb = true)) (p1 : 0 ≤ t) (p2 : t < b.frm) (D : Int) (a1 : AtDay la D t) (a2 : AtDay lb D t) (ss : Lpm.start la D = Lpm.start lb D) (vr : Hid (Rc.validB r = true)) (fw : Hid (decide (r.unt - r.frm ≤ 1200) = true)) (hr : Fit21 r) (EC : Hid (Rc.coE la lb r 0 = 2)) :
    Calls Tryd.prog 4 #[(.agg #[.int .i64 a.ver, .int .i64 a.frm, .int .i64 a.unt, .slice A1 n1 c1, .int .i64 a.sc, .int .i64 a.ss]), (.agg #[.int .i64 b.ver, .int .i64 b.frm, .int .i64 b.unt, .slice A2 n2 c2, .int .i64 b.sc, .int .i64 b.ss]), (.agg #[.int .i64 r.kind, .int .i64 r.every, .int .i64 r.wd, .int .i64 r.nth, .int .i64 r.frm, .int .i64 r.unt, .int .i64 r.sec, .bool r.shift, .bool r.both]), .int .i64 t] w (LawPost w) := by
  have HT : Hid (∀ W, Below w.heap.size w W → Tab W) := Lib.hid fun W hW => ht.below hW
  have H1 : Hid (∀ W, Below w.heap.size w W → Lp W.heap.size W A1 n1 la) := Lib.hid fun W hW => h1.go hW
  have H2 : Hid (∀ W, Below w.heap.size w W → Lp W.heap.size W A2 n2 lb) := Lib.hid fun W hW => h2.go hW
  have hb := Below.goN (Below.goN (Below.goN (Below.refl w.heap.size w) (.cells #[.int .i64 a.ver, .int .i64 a.frm, .int .i64 a.unt, .slice A1 n1 c1, .int .i64 a.sc, .int .i64 a.ss] 43)) (.cells #[.int .i64 b.ver, .int .i64 b.frm, .int .i64 b.unt, .slice A2 n2 c2, .int .i64 b.sc, .int .i64 b.ss] 43)) (.cells #[.int .i64 r.kind, .int .i64 r.every, .int .i64 r.wd, .int .i64 r.nth, .int .i64 r.frm, .int .i64 r.unt, .int .i64 r.sec, .bool r.shift, .bool r.both] 24)
  have ka := Lib.hid (new30 w (.cells #[.int .i64 a.ver, .int .i64 a.frm, .int .i64 a.unt, .slice A1 n1 c1, .int .i64 a.sc, .int .i64 a.ss] 43) (.cells #[.int .i64 b.ver, .int .i64 b.frm, .int .i64 b.unt, .slice A2 n2 c2, .int .i64 b.sc, .int .i64 b.ss] 43) (.cells #[.int .i64 r.kind, .int .i64 r.every, .int .i64 r.wd, .int .i64 r.nth, .int .i64 r.frm, .int .i64 r.unt, .int .i64 r.sec, .bool r.shift, .bool r.both] 24))
  have kb := Lib.hid (new31 w (.cells #[.int .i64 a.ver, .int .i64 a.frm, .int .i64 a.unt, .slice A1 n1 c1, .int .i64 a.sc, .int .i64 a.ss] 43) (.cells #[.int .i64 b.ver, .int .i64 b.frm, .int .i64 b.unt, .slice A2 n2 c2, .int .i64 b.sc, .int .i64 b.ss] 43) (.cells #[.int .i64 r.kind, .int .i64 r.every, .int .i64 r.wd, .int .i64 r.nth, .int .i64 r.frm, .int .i64 r.unt, .int .i64 r.sec, .bool r.shift, .bool r.both] 24))
  have kx := Lib.hid (new32 w (.cells #[.int .i64 a.ver, .int .i64 a.frm, .int .i64 a.unt, .slice A1 n1 c1, .int .i64 a.sc, .int .i64 a.ss] 43) (.cells #[.int .i64 b.ver, .int .i64 b.frm, .int .i64 b.unt, .slice A2 n2 c2, .int .i64 b.sc, .int .i64 b.ss] 43) (.cells #[.int .i64 r.kind, .int .i64 r.every, .int .i64 r.wd, .int .i64 r.nth, .int .i64 r.frm, .int .i64 r.unt, .int .i64 r.sec, .bool r.shift, .bool r.both] 24))
  clear ht h1 h2
  have p1' : decide (0 ≤ t) = true := decide_eq_true p1
  have p2' : decide (t < b.frm) = true := decide_eq_true p2
  have T1 := fun (W : World) (hb : Below w.heap.size w W) => To_at A1 n1 c1 la D t W (H1.out W hb) m1 a1
  have T2 := fun (W : World) (hb : Below w.heap.size w W) => To_at A2 n2 c2 lb D t W (H2.out W hb) m2 a2
  have S1 := fun (W : World) (hb : Below w.heap.size w W) => Show_gen A1 n1 c1 la D t W (H1.out W hb) m1 a1
  have S2 := fun (W : World) (hb : Below w.heap.size w W) => Show_gen A2 n2 c2 lb D t W (H2.out W hb) m2 a2
  have V1 := fun (W : World) (hb : Below w.heap.size w W) => Move_at A1 A2 n1 c1 n2 c2 la lb D D t W (H1.out W hb) (H2.out W hb) m1 m2 a1 a2
  rw [← ss] at T2 S2 V1
  unfold wall at S1 S2
  generalize t - Lpm.start la D = M at *
  generalize (if M / 1000000 ≤ 86399 then M / 1000000 else 86399) = S at *
  generalize M % 1000000 = U at *
  clear ss a1 a2
  have T1 := Lib.hid T1
  have T2 := Lib.hid T2
  have S1 := Lib.hid S1
  have S2 := Lib.hid S2
  have V1 := Lib.hid V1
  go_enter Tryd.func4, Tryd.ntmps4
  go_wp2_with fail
  refine (head14 _ (HT.out _ hb)).mono ?_
  rintro e w1 ⟨rfl, hn⟩
  have hb := Below.go hb hn
  have ka := Lib.hid (keep' ka.out hn)
  have kb := Lib.hid (keep' kb.out hn)
  have kx := Lib.hid (keep' kx.out hn)
  clear hn
  obtain ⟨ka_0, ka_1, ka_2, ka_3, ka_4, ka_5⟩ := blk6 ka.out
  go_wp2_with fail
  refine (r14Ed_any A1 n1 c1 la a _ (H1.out _ hb)).mono ?_
  rintro e w2 ⟨rfl, hn⟩
  have hb := Below.go hb hn
  have ka := Lib.hid (keep' ka.out hn)
  have kb := Lib.hid (keep' kb.out hn)
  have kx := Lib.hid (keep' kx.out hn)
  clear hn
  rw [ga.out]
  clear ka_0 ka_1 ka_2 ka_3 ka_4 ka_5
  obtain ⟨kb_0, kb_1, kb_2, kb_3, kb_4, kb_5⟩ := blk6 kb.out
  go_wp2_with fail
  refine (r14Ed_any A2 n2 c2 lb b _ (H2.out _ hb)).mono ?_
  rintro e w3 ⟨rfl, hn⟩
  have hb := Below.go hb hn
  have ka := Lib.hid (keep' ka.out hn)
  have kb := Lib.hid (keep' kb.out hn)
  have kx := Lib.hid (keep' kx.out hn)
  clear hn
  rw [gb.out]
  clear kb_0 kb_1 kb_2 kb_3 kb_4 kb_5
  obtain ⟨ka_0, ka_1, ka_2, ka_3, ka_4, ka_5⟩ := blk6 ka.out
  obtain ⟨kb_0, kb_1, kb_2, kb_3, kb_4, kb_5⟩ := blk6 kb.out
  go_wp2_with fail
  refine (Follows_any A1 A2 n1 c1 n2 c2 la lb a b _ (H1.out _ hb) (H2.out _ hb) m1 m2).mono ?_
  rintro e w4 ⟨rfl, hn⟩
  have hb := Below.go hb hn
  have ka := Lib.hid (keep' ka.out hn)
  have kb := Lib.hid (keep' kb.out hn)
  have kx := Lib.hid (keep' kx.out hn)
  clear hn
  rw [fv.out, fe.out]
  clear ka_0 ka_1 ka_2 ka_3 ka_4 ka_5 kb_0 kb_1 kb_2 kb_3 kb_4 kb_5
  obtain ⟨ka_0, ka_1, ka_2, ka_3, ka_4, ka_5⟩ := blk6 ka.out
  obtain ⟨kb_0, kb_1, kb_2, kb_3, kb_4, kb_5⟩ := blk6 kb.out
  go_wp2_with fail
  refine (T1.out _ hb).mono ?_
  rintro e w5 ⟨rfl, hn⟩
  have hb := Below.go hb hn
  have ka := Lib.hid (keep' ka.out hn)
  have kb := Lib.hid (keep' kb.out hn)
  have kx := Lib.hid (keep' kx.out hn)
  clear hn
  clear ka_0 ka_1 ka_2 ka_3 ka_4 ka_5 kb_0 kb_1 kb_2 kb_3 kb_4 kb_5
  have k12 := Lib.hid (heap_new w5 (.cells #[.int .i64 D, .int .i64 M] 48))
  have ka := Lib.hid (keepN ka.out (.cells #[.int .i64 D, .int .i64 M] 48))
  have kb := Lib.hid (keepN kb.out (.cells #[.int .i64 D, .int .i64 M] 48))
  have kx := Lib.hid (keepN kx.out (.cells #[.int .i64 D, .int .i64 M] 48))
  have hb := Below.goN hb (.cells #[.int .i64 D, .int .i64 M] 48)
  obtain ⟨kb_0, kb_1, kb_2, kb_3, kb_4, kb_5⟩ := blk6 kb.out
  go_wp2_with fail
  refine (T2.out _ hb).mono ?_
  rintro e w6 ⟨rfl, hn⟩
  have hb := Below.go hb hn
  have ka := Lib.hid (keep' ka.out hn)
  have kb := Lib.hid (keep' kb.out hn)
  have kx := Lib.hid (keep' kx.out hn)
  have k12 := Lib.hid (keep' k12.out hn)
  clear hn
  clear kb_0 kb_1 kb_2 kb_3 kb_4 kb_5
  have k14 := Lib.hid (heap_new w6 (.cells #[.int .i64 D, .int .i64 M] 48))
  have ka := Lib.hid (keepN ka.out (.cells #[.int .i64 D, .int .i64 M] 48))
  have kb := Lib.hid (keepN kb.out (.cells #[.int .i64 D, .int .i64 M] 48))
  have kx := Lib.hid (keepN kx.out (.cells #[.int .i64 D, .int .i64 M] 48))
  have k12 := Lib.hid (keepN k12.out (.cells #[.int .i64 D, .int .i64 M] 48))
  have hb := Below.goN hb (.cells #[.int .i64 D, .int .i64 M] 48)
  obtain ⟨ka_0, ka_1, ka_2, ka_3, ka_4, ka_5⟩ := blk6 ka.out
  go_wp2_with fail
  refine (S1.out _ hb).mono ?_
  rintro e w7 ⟨rfl, hn⟩
  have hb := Below.go hb hn
  have ka := Lib.hid (keep' ka.out hn)
  have kb := Lib.hid (keep' kb.out hn)
  have kx := Lib.hid (keep' kx.out hn)
  have k12 := Lib.hid (keep' k12.out hn)
  have k14 := Lib.hid (keep' k14.out hn)
  clear hn
  clear ka_0 ka_1 ka_2 ka_3 ka_4 ka_5
  have k16 := Lib.hid (heap_new w7 (.cells #[.int .i64 D, .int .i64 S, .int .i64 U] 52))
  have ka := Lib.hid (keepN ka.out (.cells #[.int .i64 D, .int .i64 S, .int .i64 U] 52))
  have kb := Lib.hid (keepN kb.out (.cells #[.int .i64 D, .int .i64 S, .int .i64 U] 52))
  have kx := Lib.hid (keepN kx.out (.cells #[.int .i64 D, .int .i64 S, .int .i64 U] 52))
  have k12 := Lib.hid (keepN k12.out (.cells #[.int .i64 D, .int .i64 S, .int .i64 U] 52))
  have k14 := Lib.hid (keepN k14.out (.cells #[.int .i64 D, .int .i64 S, .int .i64 U] 52))
  have hb := Below.goN hb (.cells #[.int .i64 D, .int .i64 S, .int .i64 U] 52)
  obtain ⟨kb_0, kb_1, kb_2, kb_3, kb_4, kb_5⟩ := blk6 kb.out
  go_wp2_with fail
  refine (S2.out _ hb).mono ?_
  rintro e w8 ⟨rfl, hn⟩
  have hb := Below.go hb hn
  have ka := Lib.hid (keep' ka.out hn)
  have kb := Lib.hid (keep' kb.out hn)
  have kx := Lib.hid (keep' kx.out hn)
  have k12 := Lib.hid (keep' k12.out hn)
  have k14 := Lib.hid (keep' k14.out hn)
  have k16 := Lib.hid (keep' k16.out hn)
  clear hn
  clear kb_0 kb_1 kb_2 kb_3 kb_4 kb_5
  have k18 := Lib.hid (heap_new w8 (.cells #[.int .i64 D, .int .i64 S, .int .i64 U] 52))
  have ka := Lib.hid (keepN ka.out (.cells #[.int .i64 D, .int .i64 S, .int .i64 U] 52))
  have kb := Lib.hid (keepN kb.out (.cells #[.int .i64 D, .int .i64 S, .int .i64 U] 52))
  have kx := Lib.hid (keepN kx.out (.cells #[.int .i64 D, .int .i64 S, .int .i64 U] 52))
  have k12 := Lib.hid (keepN k12.out (.cells #[.int .i64 D, .int .i64 S, .int .i64 U] 52))
  have k14 := Lib.hid (keepN k14.out (.cells #[.int .i64 D, .int .i64 S, .int .i64 U] 52))
  have k16 := Lib.hid (keepN k16.out (.cells #[.int .i64 D, .int .i64 S, .int .i64 U] 52))
  have hb := Below.goN hb (.cells #[.int .i64 D, .int .i64 S, .int .i64 U] 52)
  obtain ⟨ka_0, ka_1, ka_2, ka_3, ka_4, ka_5⟩ := blk6 ka.out
  obtain ⟨kb_0, kb_1, kb_2, kb_3, kb_4, kb_5⟩ := blk6 kb.out
  obtain ⟨⟨x12, y12⟩, -⟩ := blk2 k12.out
  go_wp2_with fail
  refine (V1.out _ hb).mono ?_
  rintro e w9 ⟨rfl, hn⟩
  have hb := Below.go hb hn
  have ka := Lib.hid (keep' ka.out hn)
  have kb := Lib.hid (keep' kb.out hn)
  have kx := Lib.hid (keep' kx.out hn)
  have k12 := Lib.hid (keep' k12.out hn)
  have k14 := Lib.hid (keep' k14.out hn)
  have k16 := Lib.hid (keep' k16.out hn)
  have k18 := Lib.hid (keep' k18.out hn)
  clear hn
  clear ka_0 ka_1 ka_2 ka_3 ka_4 ka_5 kb_0 kb_1 kb_2 kb_3 kb_4 kb_5
  clear x12 y12
  have k20 := Lib.hid (heap_new w9 (.cells #[.int .i64 D, .int .i64 M] 48))
  have ka := Lib.hid (keepN ka.out (.cells #[.int .i64 D, .int .i64 M] 48))
  have kb := Lib.hid (keepN kb.out (.cells #[.int .i64 D, .int .i64 M] 48))
  have kx := Lib.hid (keepN kx.out (.cells #[.int .i64 D, .int .i64 M] 48))
  have k12 := Lib.hid (keepN k12.out (.cells #[.int .i64 D, .int .i64 M] 48))
  have k14 := Lib.hid (keepN k14.out (.cells #[.int .i64 D, .int .i64 M] 48))
  have k16 := Lib.hid (keepN k16.out (.cells #[.int .i64 D, .int .i64 M] 48))
  have k18 := Lib.hid (keepN k18.out (.cells #[.int .i64 D, .int .i64 M] 48))
  have hb := Below.goN hb (.cells #[.int .i64 D, .int .i64 M] 48)
  clear T1 T2 S1 S2 V1
  obtain ⟨⟨x12, y12⟩, -⟩ := blk2 k12.out
  obtain ⟨⟨x14, y14⟩, -⟩ := blk2 k14.out
  obtain ⟨⟨x20, y20⟩, -⟩ := blk2 k20.out
  obtain ⟨⟨x16, y16, z16⟩, -⟩ := blk3 k16.out
  obtain ⟨⟨x18, y18, z18⟩, -⟩ := blk3 k18.out
  obtain ⟨kx_0, kx_1, kx_2, kx_3, kx_4, kx_5, kx_6, kx_7, kx_8⟩ := blk9 kx.out
  go_wp2_with fail
  refine (refValid21_any r _).mono ?_
  rintro e w10 ⟨rfl, hn⟩
  have hb := Below.go hb hn
  have ka := Lib.hid (keep' ka.out hn)
  have kb := Lib.hid (keep' kb.out hn)
  have kx := Lib.hid (keep' kx.out hn)
  clear hn
  clear kx_0 kx_1 kx_2 kx_3 kx_4 kx_5 kx_6 kx_7 kx_8
  rw [vr.out]
  obtain ⟨kx_0, kx_1, kx_2, kx_3, kx_4, kx_5, kx_6, kx_7, kx_8⟩ := blk9 kx.out
  go_wp2_with fail
  refine (refFew21_any r _ (by have := (of_decide_eq_true vr.out : Rc.Val r).2.1; omega) (by have := (of_decide_eq_true vr.out : Rc.Val r).2.1; omega) (by have := (of_decide_eq_true vr.out : Rc.Val r).2.1; omega) (by have := (of_decide_eq_true vr.out : Rc.Val r).2.1; omega)).mono ?_
  rintro e w11 ⟨rfl, hn⟩
  have hb := Below.go hb hn
  have ka := Lib.hid (keep' ka.out hn)
  have kb := Lib.hid (keep' kb.out hn)
  have kx := Lib.hid (keep' kx.out hn)
  clear hn
  clear kx_0 kx_1 kx_2 kx_3 kx_4 kx_5 kx_6 kx_7 kx_8
  rw [fw.out]
  obtain ⟨ka_0, ka_1, ka_2, ka_3, ka_4, ka_5⟩ := blk6 ka.out
  obtain ⟨kb_0, kb_1, kb_2, kb_3, kb_4, kb_5⟩ := blk6 kb.out
  obtain ⟨kx_0, kx_1, kx_2, kx_3, kx_4, kx_5, kx_6, kx_7, kx_8⟩ := blk9 kx.out
  go_wp2_with fail
  refine (Correct_any A1 A2 n1 c1 n2 c2 la lb r 0 _ (HT.out _ hb) (H1.out _ hb) (H2.out _ hb) m1 m2 hr).mono ?_
  rintro e w12 ⟨B1, k1, z1, B2, k2, z2, rfl, hG1, hG2, hL1, hL2, hn⟩
  have hb := Below.go hb hn
  have ka := Lib.hid (keep' ka.out hn)
  have kb := Lib.hid (keep' kb.out hn)
  have kx := Lib.hid (keep' kx.out hn)
  clear hn
  clear ka_0 ka_1 ka_2 ka_3 ka_4 ka_5 kb_0 kb_1 kb_2 kb_3 kb_4 kb_5
  clear kx_0 kx_1 kx_2 kx_3 kx_4 kx_5 kx_6 kx_7 kx_8
  rw [EC.out]
  obtain rfl : k1 = 0 := by have := hL1.1; rw [(co_none (by rw [EC.out]; decide)).1] at this; exact this.symm
  obtain rfl : k2 = 0 := by have := hL2.1; rw [(co_none (by rw [EC.out]; decide)).2] at this; exact this.symm
  clear hL1 hL2 hG1 hG2
  go_wp2
  go_ret
  exact ⟨by simp, hb⟩
set_option maxHeartbeats 2000000 in
set_option maxRecDepth 100000 in
theorem tables_K_ok (A1 A2 : Option Addr) (n1 c1 n2 c2 : Nat) (la lb : Lpm.LL) (a b : Ed) (r : Rec) (t : Int) (w : World) (ht : Tab w) (h1 : Lp w.heap.size w A1 n1 la) (h2 : Lp w.heap.size w A2 n2 lb) (ga : Hid ((decide (n1 ≤ 20) && formedB a la) = true)) (gb : Hid ((decide (n2 ≤ 20) && formedB b lb) = true)) (m1 : n1 ≤ 110) (m2 : n2 ≤ 110) (fe : Hid (foE a b la lb = 0)) (fv : Hid (foV a b la lb = true)) (p1 : 0 ≤ t) (p2 : t < b.frm) (D : Int) (a1 : AtDay la D t) (a2 : AtDay lb D t) (ss : Lpm.start la D = Lpm.start lb D) (vr : Hid (Rc.validB r = true)) (fw : Hid (decide (r.unt - r.frm ≤ 1200) = true)) (hr : Fit21 r) (EC : Hid (Rc.coE la lb r 0 = 0)) (HD : Hid (∀ x, (x ∈ Rc.coF la lb r 0 ∨ x ∈ Rc.coN la lb r 0) → b.frm ≤ x.2)) :
    Calls Tryd.prog 4 #[(.agg #[.int .i64 a.ver, .int .i64 a.frm, .int .i64 a.unt, .slice A1 n1 c1, .int .i64 a.sc, .int .i64 a.ss]), (.agg #[.int .i64 b.ver, .int .i64 b.frm, .int .i64 b.unt, .slice A2 n2 c2, .int .i64 b.sc, .int .i64 b.ss]), (.agg #[.int .i64 r.kind, .int .i64 r.every, .int .i64 r.wd, .int .i64 r.nth, .int .i64 r.frm, .int .i64 r.unt, .int .i64 r.sec, .bool r.shift, .bool r.both]), .int .i64 t] w (LawPost w) := by
  have HT : Hid (∀ W, Below w.heap.size w W → Tab W) := Lib.hid fun W hW => ht.below hW
  have H1 : Hid (∀ W, Below w.heap.size w W → Lp W.heap.size W A1 n1 la) := Lib.hid fun W hW => h1.go hW
  have H2 : Hid (∀ W, Below w.heap.size w W → Lp W.heap.size W A2 n2 lb) := Lib.hid fun W hW => h2.go hW
  have hb := Below.goN (Below.goN (Below.goN (Below.refl w.heap.size w) (.cells #[.int .i64 a.ver, .int .i64 a.frm, .int .i64 a.unt, .slice A1 n1 c1, .int .i64 a.sc, .int .i64 a.ss] 43)) (.cells #[.int .i64 b.ver, .int .i64 b.frm, .int .i64 b.unt, .slice A2 n2 c2, .int .i64 b.sc, .int .i64 b.ss] 43)) (.cells #[.int .i64 r.kind, .int .i64 r.every, .int .i64 r.wd, .int .i64 r.nth, .int .i64 r.frm, .int .i64 r.unt, .int .i64 r.sec, .bool r.shift, .bool r.both] 24)
  have ka := Lib.hid (new30 w (.cells #[.int .i64 a.ver, .int .i64 a.frm, .int .i64 a.unt, .slice A1 n1 c1, .int .i64 a.sc, .int .i64 a.ss] 43) (.cells #[.int .i64 b.ver, .int .i64 b.frm, .int .i64 b.unt, .slice A2 n2 c2, .int .i64 b.sc, .int .i64 b.ss] 43) (.cells #[.int .i64 r.kind, .int .i64 r.every, .int .i64 r.wd, .int .i64 r.nth, .int .i64 r.frm, .int .i64 r.unt, .int .i64 r.sec, .bool r.shift, .bool r.both] 24))
  have kb := Lib.hid (new31 w (.cells #[.int .i64 a.ver, .int .i64 a.frm, .int .i64 a.unt, .slice A1 n1 c1, .int .i64 a.sc, .int .i64 a.ss] 43) (.cells #[.int .i64 b.ver, .int .i64 b.frm, .int .i64 b.unt, .slice A2 n2 c2, .int .i64 b.sc, .int .i64 b.ss] 43) (.cells #[.int .i64 r.kind, .int .i64 r.every, .int .i64 r.wd, .int .i64 r.nth, .int .i64 r.frm, .int .i64 r.unt, .int .i64 r.sec, .bool r.shift, .bool r.both] 24))
  have kx := Lib.hid (new32 w (.cells #[.int .i64 a.ver, .int .i64 a.frm, .int .i64 a.unt, .slice A1 n1 c1, .int .i64 a.sc, .int .i64 a.ss] 43) (.cells #[.int .i64 b.ver, .int .i64 b.frm, .int .i64 b.unt, .slice A2 n2 c2, .int .i64 b.sc, .int .i64 b.ss] 43) (.cells #[.int .i64 r.kind, .int .i64 r.every, .int .i64 r.wd, .int .i64 r.nth, .int .i64 r.frm, .int .i64 r.unt, .int .i64 r.sec, .bool r.shift, .bool r.both] 24))
  clear ht h1 h2
  have p1' : decide (0 ≤ t) = true := decide_eq_true p1
  have p2' : decide (t < b.frm) = true := decide_eq_true p2
  have T1 := fun (W : World) (hb : Below w.heap.size w W) => To_at A1 n1 c1 la D t W (H1.out W hb) m1 a1
  have T2 := fun (W : World) (hb : Below w.heap.size w W) => To_at A2 n2 c2 lb D t W (H2.out W hb) m2 a2
  have S1 := fun (W : World) (hb : Below w.heap.size w W) => Show_gen A1 n1 c1 la D t W (H1.out W hb) m1 a1
  have S2 := fun (W : World) (hb : Below w.heap.size w W) => Show_gen A2 n2 c2 lb D t W (H2.out W hb) m2 a2
  have V1 := fun (W : World) (hb : Below w.heap.size w W) => Move_at A1 A2 n1 c1 n2 c2 la lb D D t W (H1.out W hb) (H2.out W hb) m1 m2 a1 a2
  rw [← ss] at T2 S2 V1
  unfold wall at S1 S2
  generalize t - Lpm.start la D = M at *
  generalize (if M / 1000000 ≤ 86399 then M / 1000000 else 86399) = S at *
  generalize M % 1000000 = U at *
  clear ss a1 a2
  have T1 := Lib.hid T1
  have T2 := Lib.hid T2
  have S1 := Lib.hid S1
  have S2 := Lib.hid S2
  have V1 := Lib.hid V1
  go_enter Tryd.func4, Tryd.ntmps4
  go_wp2_with fail
  refine (head14 _ (HT.out _ hb)).mono ?_
  rintro e w1 ⟨rfl, hn⟩
  have hb := Below.go hb hn
  have ka := Lib.hid (keep' ka.out hn)
  have kb := Lib.hid (keep' kb.out hn)
  have kx := Lib.hid (keep' kx.out hn)
  clear hn
  obtain ⟨ka_0, ka_1, ka_2, ka_3, ka_4, ka_5⟩ := blk6 ka.out
  go_wp2_with fail
  refine (r14Ed_any A1 n1 c1 la a _ (H1.out _ hb)).mono ?_
  rintro e w2 ⟨rfl, hn⟩
  have hb := Below.go hb hn
  have ka := Lib.hid (keep' ka.out hn)
  have kb := Lib.hid (keep' kb.out hn)
  have kx := Lib.hid (keep' kx.out hn)
  clear hn
  rw [ga.out]
  clear ka_0 ka_1 ka_2 ka_3 ka_4 ka_5
  obtain ⟨kb_0, kb_1, kb_2, kb_3, kb_4, kb_5⟩ := blk6 kb.out
  go_wp2_with fail
  refine (r14Ed_any A2 n2 c2 lb b _ (H2.out _ hb)).mono ?_
  rintro e w3 ⟨rfl, hn⟩
  have hb := Below.go hb hn
  have ka := Lib.hid (keep' ka.out hn)
  have kb := Lib.hid (keep' kb.out hn)
  have kx := Lib.hid (keep' kx.out hn)
  clear hn
  rw [gb.out]
  clear kb_0 kb_1 kb_2 kb_3 kb_4 kb_5
  obtain ⟨ka_0, ka_1, ka_2, ka_3, ka_4, ka_5⟩ := blk6 ka.out
  obtain ⟨kb_0, kb_1, kb_2, kb_3, kb_4, kb_5⟩ := blk6 kb.out
  go_wp2_with fail
  refine (Follows_any A1 A2 n1 c1 n2 c2 la lb a b _ (H1.out _ hb) (H2.out _ hb) m1 m2).mono ?_
  rintro e w4 ⟨rfl, hn⟩
  have hb := Below.go hb hn
  have ka := Lib.hid (keep' ka.out hn)
  have kb := Lib.hid (keep' kb.out hn)
  have kx := Lib.hid (keep' kx.out hn)
  clear hn
  rw [fv.out, fe.out]
  clear ka_0 ka_1 ka_2 ka_3 ka_4 ka_5 kb_0 kb_1 kb_2 kb_3 kb_4 kb_5
  obtain ⟨ka_0, ka_1, ka_2, ka_3, ka_4, ka_5⟩ := blk6 ka.out
  obtain ⟨kb_0, kb_1, kb_2, kb_3, kb_4, kb_5⟩ := blk6 kb.out
  go_wp2_with fail
  refine (T1.out _ hb).mono ?_
  rintro e w5 ⟨rfl, hn⟩
  have hb := Below.go hb hn
  have ka := Lib.hid (keep' ka.out hn)
  have kb := Lib.hid (keep' kb.out hn)
  have kx := Lib.hid (keep' kx.out hn)
  clear hn
  clear ka_0 ka_1 ka_2 ka_3 ka_4 ka_5 kb_0 kb_1 kb_2 kb_3 kb_4 kb_5
  have k12 := Lib.hid (heap_new w5 (.cells #[.int .i64 D, .int .i64 M] 48))
  have ka := Lib.hid (keepN ka.out (.cells #[.int .i64 D, .int .i64 M] 48))
  have kb := Lib.hid (keepN kb.out (.cells #[.int .i64 D, .int .i64 M] 48))
  have kx := Lib.hid (keepN kx.out (.cells #[.int .i64 D, .int .i64 M] 48))
  have hb := Below.goN hb (.cells #[.int .i64 D, .int .i64 M] 48)
  obtain ⟨kb_0, kb_1, kb_2, kb_3, kb_4, kb_5⟩ := blk6 kb.out
  go_wp2_with fail
  refine (T2.out _ hb).mono ?_
  rintro e w6 ⟨rfl, hn⟩
  have hb := Below.go hb hn
  have ka := Lib.hid (keep' ka.out hn)
  have kb := Lib.hid (keep' kb.out hn)
  have kx := Lib.hid (keep' kx.out hn)
  have k12 := Lib.hid (keep' k12.out hn)
  clear hn
  clear kb_0 kb_1 kb_2 kb_3 kb_4 kb_5
  have k14 := Lib.hid (heap_new w6 (.cells #[.int .i64 D, .int .i64 M] 48))
  have ka := Lib.hid (keepN ka.out (.cells #[.int .i64 D, .int .i64 M] 48))
  have kb := Lib.hid (keepN kb.out (.cells #[.int .i64 D, .int .i64 M] 48))
  have kx := Lib.hid (keepN kx.out (.cells #[.int .i64 D, .int .i64 M] 48))
  have k12 := Lib.hid (keepN k12.out (.cells #[.int .i64 D, .int .i64 M] 48))
  have hb := Below.goN hb (.cells #[.int .i64 D, .int .i64 M] 48)
  obtain ⟨ka_0, ka_1, ka_2, ka_3, ka_4, ka_5⟩ := blk6 ka.out
  go_wp2_with fail
  refine (S1.out _ hb).mono ?_
  rintro e w7 ⟨rfl, hn⟩
  have hb := Below.go hb hn
  have ka := Lib.hid (keep' ka.out hn)
  have kb := Lib.hid (keep' kb.out hn)
  have kx := Lib.hid (keep' kx.out hn)
  have k12 := Lib.hid (keep' k12.out hn)
  have k14 := Lib.hid (keep' k14.out hn)
  clear hn
  clear ka_0 ka_1 ka_2 ka_3 ka_4 ka_5
  have k16 := Lib.hid (heap_new w7 (.cells #[.int .i64 D, .int .i64 S, .int .i64 U] 52))
  have ka := Lib.hid (keepN ka.out (.cells #[.int .i64 D, .int .i64 S, .int .i64 U] 52))
  have kb := Lib.hid (keepN kb.out (.cells #[.int .i64 D, .int .i64 S, .int .i64 U] 52))
  have kx := Lib.hid (keepN kx.out (.cells #[.int .i64 D, .int .i64 S, .int .i64 U] 52))
  have k12 := Lib.hid (keepN k12.out (.cells #[.int .i64 D, .int .i64 S, .int .i64 U] 52))
  have k14 := Lib.hid (keepN k14.out (.cells #[.int .i64 D, .int .i64 S, .int .i64 U] 52))
  have hb := Below.goN hb (.cells #[.int .i64 D, .int .i64 S, .int .i64 U] 52)
  obtain ⟨kb_0, kb_1, kb_2, kb_3, kb_4, kb_5⟩ := blk6 kb.out
  go_wp2_with fail
  refine (S2.out _ hb).mono ?_
  rintro e w8 ⟨rfl, hn⟩
  have hb := Below.go hb hn
  have ka := Lib.hid (keep' ka.out hn)
  have kb := Lib.hid (keep' kb.out hn)
  have kx := Lib.hid (keep' kx.out hn)
  have k12 := Lib.hid (keep' k12.out hn)
  have k14 := Lib.hid (keep' k14.out hn)
  have k16 := Lib.hid (keep' k16.out hn)
  clear hn
  clear kb_0 kb_1 kb_2 kb_3 kb_4 kb_5
  have k18 := Lib.hid (heap_new w8 (.cells #[.int .i64 D, .int .i64 S, .int .i64 U] 52))
  have ka := Lib.hid (keepN ka.out (.cells #[.int .i64 D, .int .i64 S, .int .i64 U] 52))
  have kb := Lib.hid (keepN kb.out (.cells #[.int .i64 D, .int .i64 S, .int .i64 U] 52))
  have kx := Lib.hid (keepN kx.out (.cells #[.int .i64 D, .int .i64 S, .int .i64 U] 52))
  have k12 := Lib.hid (keepN k12.out (.cells #[.int .i64 D, .int .i64 S, .int .i64 U] 52))
  have k14 := Lib.hid (keepN k14.out (.cells #[.int .i64 D, .int .i64 S, .int .i64 U] 52))
  have k16 := Lib.hid (keepN k16.out (.cells #[.int .i64 D, .int .i64 S, .int .i64 U] 52))
  have hb := Below.goN hb (.cells #[.int .i64 D, .int .i64 S, .int .i64 U] 52)
  obtain ⟨ka_0, ka_1, ka_2, ka_3, ka_4, ka_5⟩ := blk6 ka.out
  obtain ⟨kb_0, kb_1, kb_2, kb_3, kb_4, kb_5⟩ := blk6 kb.out
  obtain ⟨⟨x12, y12⟩, -⟩ := blk2 k12.out
  go_wp2_with fail
  refine (V1.out _ hb).mono ?_
  rintro e w9 ⟨rfl, hn⟩
  have hb := Below.go hb hn
  have ka := Lib.hid (keep' ka.out hn)
  have kb := Lib.hid (keep' kb.out hn)
  have kx := Lib.hid (keep' kx.out hn)
  have k12 := Lib.hid (keep' k12.out hn)
  have k14 := Lib.hid (keep' k14.out hn)
  have k16 := Lib.hid (keep' k16.out hn)
  have k18 := Lib.hid (keep' k18.out hn)
  clear hn
  clear ka_0 ka_1 ka_2 ka_3 ka_4 ka_5 kb_0 kb_1 kb_2 kb_3 kb_4 kb_5
  clear x12 y12
  have k20 := Lib.hid (heap_new w9 (.cells #[.int .i64 D, .int .i64 M] 48))
  have ka := Lib.hid (keepN ka.out (.cells #[.int .i64 D, .int .i64 M] 48))
  have kb := Lib.hid (keepN kb.out (.cells #[.int .i64 D, .int .i64 M] 48))
  have kx := Lib.hid (keepN kx.out (.cells #[.int .i64 D, .int .i64 M] 48))
  have k12 := Lib.hid (keepN k12.out (.cells #[.int .i64 D, .int .i64 M] 48))
  have k14 := Lib.hid (keepN k14.out (.cells #[.int .i64 D, .int .i64 M] 48))
  have k16 := Lib.hid (keepN k16.out (.cells #[.int .i64 D, .int .i64 M] 48))
  have k18 := Lib.hid (keepN k18.out (.cells #[.int .i64 D, .int .i64 M] 48))
  have hb := Below.goN hb (.cells #[.int .i64 D, .int .i64 M] 48)
  clear T1 T2 S1 S2 V1
  obtain ⟨⟨x12, y12⟩, -⟩ := blk2 k12.out
  obtain ⟨⟨x14, y14⟩, -⟩ := blk2 k14.out
  obtain ⟨⟨x20, y20⟩, -⟩ := blk2 k20.out
  obtain ⟨⟨x16, y16, z16⟩, -⟩ := blk3 k16.out
  obtain ⟨⟨x18, y18, z18⟩, -⟩ := blk3 k18.out
  obtain ⟨kx_0, kx_1, kx_2, kx_3, kx_4, kx_5, kx_6, kx_7, kx_8⟩ := blk9 kx.out
  go_wp2_with fail
  refine (refValid21_any r _).mono ?_
  rintro e w10 ⟨rfl, hn⟩
  have hb := Below.go hb hn
  have ka := Lib.hid (keep' ka.out hn)
  have kb := Lib.hid (keep' kb.out hn)
  have kx := Lib.hid (keep' kx.out hn)
  clear hn
  clear kx_0 kx_1 kx_2 kx_3 kx_4 kx_5 kx_6 kx_7 kx_8
  rw [vr.out]
  obtain ⟨kx_0, kx_1, kx_2, kx_3, kx_4, kx_5, kx_6, kx_7, kx_8⟩ := blk9 kx.out
  go_wp2_with fail
  refine (refFew21_any r _ (by have := (of_decide_eq_true vr.out : Rc.Val r).2.1; omega) (by have := (of_decide_eq_true vr.out : Rc.Val r).2.1; omega) (by have := (of_decide_eq_true vr.out : Rc.Val r).2.1; omega) (by have := (of_decide_eq_true vr.out : Rc.Val r).2.1; omega)).mono ?_
  rintro e w11 ⟨rfl, hn⟩
  have hb := Below.go hb hn
  have ka := Lib.hid (keep' ka.out hn)
  have kb := Lib.hid (keep' kb.out hn)
  have kx := Lib.hid (keep' kx.out hn)
  clear hn
  clear kx_0 kx_1 kx_2 kx_3 kx_4 kx_5 kx_6 kx_7 kx_8
  rw [fw.out]
  obtain ⟨ka_0, ka_1, ka_2, ka_3, ka_4, ka_5⟩ := blk6 ka.out
  obtain ⟨kb_0, kb_1, kb_2, kb_3, kb_4, kb_5⟩ := blk6 kb.out
  obtain ⟨kx_0, kx_1, kx_2, kx_3, kx_4, kx_5, kx_6, kx_7, kx_8⟩ := blk9 kx.out
  go_wp2_with fail
  refine (Correct_any A1 A2 n1 c1 n2 c2 la lb r 0 _ (HT.out _ hb) (H1.out _ hb) (H2.out _ hb) m1 m2 hr).mono ?_
  rintro e w12 ⟨B1, k1, z1, B2, k2, z2, rfl, hG1, hG2, hL1, hL2, hn⟩
  have hb := Below.go hb hn
  have ka := Lib.hid (keep' ka.out hn)
  have kb := Lib.hid (keep' kb.out hn)
  have kx := Lib.hid (keep' kx.out hn)
  clear hn
  clear ka_0 ka_1 ka_2 ka_3 ka_4 ka_5 kb_0 kb_1 kb_2 kb_3 kb_4 kb_5
  clear kx_0 kx_1 kx_2 kx_3 kx_4 kx_5 kx_6 kx_7 kx_8
  rw [EC.out]
  have GL1 := Lib.hid hL1
  have GL2 := Lib.hid hL2
  have HG1 := Lib.hid hG1
  have HG2 := Lib.hid hG2
  have hk1 : k1 ≤ 1000 := by have := coF_len la lb r 0; rw [hL1.1] at this; exact this
  have hk2 : k2 ≤ 1000 := by have := coN_len la lb r 0; rw [hL2.1] at this; exact this
  clear hL1 hL2 hG1 hG2
  obtain ⟨w8, rfl⟩ : ∃ w8, w8 = w12 := ⟨_, rfl⟩
  have hb8 := hb
  obtain ⟨f0, fi, fz0, fz1, fz2⟩ := info_parts infoF
  have hb9 := Below.goN hb8 (.cells #[] tF)
  have q1 := Lib.hid (Lp.go GL1.out (Below.goN (Below.refl w8.heap.size w8) (.cells #[] tF)))
  have HM : Hid ((Rc.coF la lb r 0 ++ Rc.coN la lb r 0).length = k1 + k2) := Lib.hid (by rw [List.length_append, GL1.out.1, GL2.out.1])
  have HA : Hid (∀ j, j < k1 + k2 → b.frm ≤ ((Rc.coF la lb r 0 ++ Rc.coN la lb r 0)[j]?.getD (0, 0)).2) := Lib.hid fun j hj => by
    have hj' : j < (Rc.coF la lb r 0 ++ Rc.coN la lb r 0).length := by rw [HM.out]; exact hj
    rw [List.getElem?_eq_getElem hj']
    rcases List.mem_append.1 (List.getElem_mem hj') with h | h
    · exact HD.out _ (.inl h)
    · exact HD.out _ (.inr h)
  have hs8 : w8.heap.size ≤ (w8.alloc (.cells #[] tF)).heap.size := by simp
  go_wp2_with (first | (at_builtin; refine wpList_app_any rfl _ _ 28 rfl w8.heap.size tF _ (.agg #[.int .i64 0, .int .i64 0]) 2 16 Tryd.underlying28 fi fz0 fz1 fz2 rfl (by decide) (.slice (some ⟨w8.heap.size, 0, none⟩) 0 0) 0 [] rfl (own0_made w8 tF 2) B1 k1 z1 (cellsL (Rc.coF la lb r 0)) rfl (by rw [cellsL_len, GL1.out.1]) HG1.out (lp_news q1.out) (cellsL_one _) (by unfold maxLen; omega) (by omega) hs8 ?_; intro vA wA ownA growA; have hbA := Below.grown (Below.goN (Below.refl w8.heap.size w8) (.cells #[] tF)) growA (by simp) (fun g hg => ((own0_made w8 tF 2).lt g hg).1); have GB := Lib.hid (Lp.go GL2.out hbA); have HOA := Lib.hid ownA; clear ownA growA) | (at_builtin; refine wpList_app_any rfl _ _ 28 rfl w8.heap.size tF _ (.agg #[.int .i64 0, .int .i64 0]) 2 16 Tryd.underlying28 fi fz0 fz1 fz2 rfl (by decide) vA (0 + k1) _ rfl HOA.out B2 k2 z2 (cellsL (Rc.coN la lb r 0)) rfl (by rw [cellsL_len, GB.out.1]) HG2.out (lp_news GB.out) (cellsL_one _) (by unfold maxLen; omega) (by omega) hbA.size ?_; intro vB wB ownB growB; have hbB := Below.grown hbA growB (by have := hbA.size; omega) (fun g hg => (HOA.out.lt g hg).1); have ownB' : wB.ownsRow w8.heap.size tF 2 vB (k1 + k2) (cellsL (Rc.coF la lb r 0 ++ Rc.coN la lb r 0)) := (by rw [cellsL_app]; simpa using ownB); obtain ⟨AB, cB, rfl, -, -, hLB⟩ := own_lp ownB' HM.out; have LB := Lib.hid hLB; clear hLB ownB ownB' growB))
  have kbB := Lib.hid (keep' kb.out hbB)
  have hbB := Below.go hb8 hbB
  try simp only [len_ints, Result.andThen_ok]
  go_wp2
  go_loopw [9, 171] (fun u i wr => ∃ k : Nat, k ≤ k1 + k2 ∧ i = .int .i64 k ∧ u = .bool true ∧ Below wB.heap.size wB wr) (fun _ i _ => (k1 + k2) - (intOf i).toNat)
  case atStart => exact ⟨0, Nat.zero_le _, rfl, rfl, Below.refl _ _⟩
  case round =>
    obtain ⟨k, hk, rfl, rfl, hbr⟩ := hrel
    by_cases hlt : k < k1 + k2
    · obtain ⟨bk, off, rfl, hB, hc⟩ := LB.out.2 (by omega)
      have x0 := (hbr.cell (p := ⟨bk, off + k * 2, none⟩) hB).trans (hc k hlt).1
      have x1 := (hbr.cell (p := ⟨bk, off + k * 2 + 1, none⟩) hB).trans (hc k hlt).2
      clear hc
      have hD := HA.out k hlt
      generalize (Rc.coF la lb r 0 ++ Rc.coN la lb r 0)[k]?.getD (0, 0) = e at *
      obtain ⟨d, s⟩ := e
      have i0 : (0 : Int) ≤ (k : Int) := by omega
      have i1 : (k : Int) < (k1 : Int) + (k2 : Int) := by omega
      have i2 : (k : Int) < ((k1 + k2 : Nat) : Int) := by omega
      have hD' : b.frm ≤ s := hD
      clear hD
      obtain ⟨q0, q1', q2, q3, q4, q5⟩ := blk6 (keepN (keep' kbB.out hbr) (.cells #[.int .i64 d, .int .i64 s] tF))
      obtain ⟨⟨y0, y1⟩, -⟩ := blk2 (heap_new wr (.cells #[.int .i64 d, .int .i64 s] tF))
      have hD2 : decide (b.frm ≤ s) = true := decide_eq_true hD'
      clear hD'
      go_wp2
      go_roundw
      case rel => exact ⟨k + 1, by omega, by go_num, rfl, Below.goN hbr _⟩
      case measure => simp [intOf]; omega
    · obtain rfl : k = k1 + k2 := by omega
      go_wp2
      go_ret
      exact ⟨rfl, Below.go hbB hbr⟩
end Go.Proofs.YtcnenkhgbifmmaaDoor
