/- The contract of the laws' head; the walks of the laws SmearGoesOn, SmearApart and SmearMatchesReference. -/
import Derived.Test.YtcabegloipllhaaSmJ
import Derived.Test.YtcabegloipllhaaOpen
set_option linter.unusedVariables false
namespace Go.Proofs.Ytcabegloipllhaa
open Go.RowKit
namespace Smm
def exL : Lpm.LL := [(0, 1)]
theorem exC : Can exL 1000000 := can_yes (by decide)
theorem exF : fin exL = 2937686401000000 := by decide
theorem ex_m0 : mid exL 0 = 86401000000 := by decide
theorem ex_mj {t : Int} (h : 86401000000 ≤ t) : ∀ j, j < 1 → mid exL j ≤ t := fun j hj => by
  have : j = 0 := by omega
  subst this
  rw [ex_m0]; exact h
theorem ex_sm {t v : Int} (e : wi exL 1000000 t = some 0) (hv : smW exL 1000000 t 0 = v) : smV exL 1000000 t = v := by unfold smV; rw [e]; exact hv
theorem ex1 : smV exL 1000000 86400500000 = 86400250000 := ex_sm (by decide) (by decide)
theorem ex2 : smV exL 1000000 86401000000 = 86400500000 := ex_sm (by decide) (by decide)
theorem ex_o : Lpm.ofs exL (Lpm.dayNo exL 86402000000) = 1 := (ofs_at exC.v (by omega) (by have := exF; unfold fin at this; omega) (k := 1) (by decide) (ex_mj (by omega)) (fun h => absurd h (by decide))).trans (by decide)
theorem ex3 : smV exL 1000000 86402000000 = 86401000000 := by rw [smV_none (by decide), ex_o]; rfl
theorem ex4 : smV exL 1000000 86400499999 = 86400249999 := ex_sm (by decide) (by decide)
theorem ex5 : smV exL 1000000 86400500001 = 86400250000 := ex_sm (by decide) (by decide)
theorem ex6 : smV exL 1000000 86400500002 = 86400250001 := ex_sm (by decide) (by decide)
theorem ex_fst {v f : Int} (h0 : 1 ≤ f) (h1 : f < fin exL) (a : smV exL 1000000 (f - 1) < v) (b : v ≤ smV exL 1000000 f) : fst exL 1000000 v = f := by
  have e1 := (fst_of (v := v) exC (by omega) h1).2 b
  have e2 : ¬ fst exL 1000000 v ≤ f - 1 := fun q => by have := (fst_of (v := v) exC (by omega) (by omega)).1 q; omega
  omega
theorem ex7 : fst exL 1000000 86400250000 = 86400500000 := ex_fst (by omega) (by have := exF; omega) (by rw [show (86400500000 : Int) - 1 = 86400499999 by omega, ex4]; omega) (by rw [ex1]; omega)
theorem ex8 : fst exL 1000000 86400250001 = 86400500002 := ex_fst (by omega) (by have := exF; omega) (by rw [show (86400500002 : Int) - 1 = 86400500001 by omega, ex5]; omega) (by rw [ex6]; omega)
theorem ex_to {t : Int} (h0 : 0 ≤ t) (h1 : t < 2937600001000000) : toE exL 1000000 t = 0 ∧ toV exL 1000000 t = smV exL 1000000 t := to_yes exC h0 (by have := exF; omega)
theorem ex_fr : frE exL 1000000 86400250000 = 0 ∧ frI exL 1000000 86400250000 = true ∧ frLo exL 1000000 86400250000 = 86400500000 ∧ frHi exL 1000000 86400250000 = 86400500001 := by
  have := fr_is (v := 86400250000) exC (by omega) (by omega) (by rw [ex7, show (86400250000 : Int) + 1 = 86400250001 by omega, ex8]; omega)
  rw [ex7, show (86400250000 : Int) + 1 = 86400250001 by omega, ex8] at this
  exact this
theorem ex_d {t : Int} (h0 : 0 ≤ t) (h1 : t < 2937600001000000) : Lpm.dE exL t = 0 := (dE_zero exC.v).2 ⟨h0, by have := exF; omega⟩
theorem ex_in1 : inV exL 1000000 86400000000 = true := by rw [(to_all (can_mk exC) (ex_d (by omega) (by omega))).2.2.2.1]; decide
theorem ex_in2 : inV exL 1000000 86402000000 = false := by rw [(to_all (can_mk exC) (ex_d (by omega) (by omega))).2.2.2.1]; decide
theorem ex_ap1 : apV exL 1000000 86400500000 = -250000 := by
  rw [(to_all (can_mk exC) (ex_d (by omega) (by omega))).2.2.2.2, ex1]
  have o := ofs_at (t := 86400500000) exC.v (by omega) (by have := exF; unfold fin at this; omega) (k := 0) (by decide) (fun j hj => by omega) (fun _ => by decide)
  rw [o]; rfl
theorem ex_ap2 : apV exL 1000000 86401000000 = 500000 := by
  rw [(to_all (can_mk exC) (ex_d (by omega) (by omega))).2.2.2.2, ex2]
  have o := ofs_at (t := 86401000000) exC.v (by omega) (by have := exF; unfold fin at this; omega) (k := 1) (by decide) (ex_mj (by omega)) (fun h => absurd h (by decide))
  rw [o]; rfl
theorem ex_bad : toE exL 999999 5 = 1 ∧ toV exL 999999 5 = 0 := by have := to_bad (l := exL) (h := 999999) (t := 5) (by decide); exact ⟨this.1, this.2.1⟩
end Smm
abbrev oLp (d s : Int) : Obj := .cells #[.int .i64 d, .int .i64 s] 39
theorem ex_lp {W : World} {b : Nat} (h : W.heap[b]? = some (oLp 0 1)) : Lp W.heap.size W (some ⟨b, 0, none⟩) 1 Smm.exL :=
  ⟨rfl, fun _ => ⟨b, 0, rfl, lt_of_heap h, fun j hj => by
    have : j = 0 := by omega
    subst this
    exact (blk2 h).1⟩⟩
theorem hd_to {W : World} {b : Nat} {t v : Int} (h : W.heap[b]? = some (oLp 0 1)) (h0 : 0 ≤ t ∧ t < 2937600001000000) (hv : Smm.smV Smm.exL 1000000 t = v) : Calls Try.prog 11 #[.slice (some ⟨b, 0, none⟩) 1 1, .int .i64 1000000, .int .i64 t] W (RetB (.tuple #[.int .i64 v, .int .i64 0]) W) := by
  have := To_any _ 1 1 Smm.exL 1000000 t W (ex_lp h) (by omega)
  obtain ⟨e1, e2⟩ := Smm.ex_to h0.1 h0.2
  rw [e1, e2, hv] at this; exact this
theorem hd_in {W : World} {b : Nat} {t : Int} {v : Bool} (h : W.heap[b]? = some (oLp 0 1)) (h0 : 0 ≤ t ∧ t < 2937600001000000) (hv : Smm.inV Smm.exL 1000000 t = v) : Calls Try.prog 15 #[.slice (some ⟨b, 0, none⟩) 1 1, .int .i64 1000000, .int .i64 t] W (RetB (.tuple #[.bool v, .int .i64 0]) W) := by
  have := Inside_any _ 1 1 Smm.exL 1000000 t W (ex_lp h) (by omega)
  rw [(Smm.ex_to h0.1 h0.2).1, hv] at this; exact this
theorem hd_ap {W : World} {b : Nat} {t v : Int} (h : W.heap[b]? = some (oLp 0 1)) (h0 : 0 ≤ t ∧ t < 2937600001000000) (hv : Smm.apV Smm.exL 1000000 t = v) : Calls Try.prog 13 #[.slice (some ⟨b, 0, none⟩) 1 1, .int .i64 1000000, .int .i64 t] W (RetB (.tuple #[.int .i64 v, .int .i64 0]) W) := by
  have := Apart_any _ 1 1 Smm.exL 1000000 t W (ex_lp h) (by omega)
  rw [(Smm.ex_to h0.1 h0.2).1, hv] at this; exact this
theorem hd_fr {W : World} {b : Nat} (h : W.heap[b]? = some (oLp 0 1)) : Calls Try.prog 17 #[.slice (some ⟨b, 0, none⟩) 1 1, .int .i64 1000000, .int .i64 86400250000] W (RetB (.tuple #[I2 86400500000 86400500001, .bool true, .int .i64 0]) W) := by
  have := From_any _ 1 1 Smm.exL 1000000 86400250000 W (ex_lp h) (by omega)
  rw [Smm.ex_fr.1, Smm.ex_fr.2.1, Smm.ex_fr.2.2.1, Smm.ex_fr.2.2.2] at this; exact this
theorem hd_bad {W : World} {b : Nat} (h : W.heap[b]? = some (oLp 0 1)) : Calls Try.prog 11 #[.slice (some ⟨b, 0, none⟩) 1 1, .int .i64 999999, .int .i64 5] W (RetB (.tuple #[.int .i64 0, .int .i64 1]) W) := by
  have := To_any _ 1 1 Smm.exL 999999 5 W (ex_lp h) (by omega)
  rw [Smm.ex_bad.1, Smm.ex_bad.2] at this; exact this
theorem Below.goD {w0 W w : World} (h : Below w0.heap.size w0 W) (hb : Below W.drew.heap.size W.drew w) : Below w0.heap.size w0 w := Below.go h.drew hb
theorem Below.goAD {w0 W w : World} {o : Obj} (h : Below w0.heap.size w0 W) (hb : Below (W.alloc o).drew.heap.size (W.alloc o).drew w) : Below w0.heap.size w0 w := Below.go (h.alloc h.size o).drew hb
theorem keepD {W W' : World} {k : Nat} {o : Obj} (h : W.heap[k]? = some o) (hb : Below W.drew.heap.size W.drew W') : W'.heap[k]? = some o := keep' (W := W.drew) h hb
theorem keepAD {W W' : World} {k : Nat} {o p : Obj} (h : W.heap[k]? = some o) (hb : Below (W.alloc p).drew.heap.size (W.alloc p).drew W') : W'.heap[k]? = some o := keep' (W := (W.alloc p).drew) (keepN h p) hb
theorem newAD {W W' : World} {o : Obj} (hb : Below (W.alloc o).drew.heap.size (W.alloc o).drew W') : W'.heap[W.heap.size]? = some o := keep' (W := (W.alloc o).drew) (heap_new W o) hb
set_option maxHeartbeats 2000000 in
set_option maxRecDepth 100000 in
theorem head_any (w : World) : Calls Try.prog 9 #[] w (RetB (.bool true) w) := by
  have hb := (Below.refl w.heap.size w).alloc (Nat.le_refl _) (oLp 0 1)
  have kl := Lib.hid (heap_new w (oLp 0 1))
  go_enter Try.func9, Try.ntmps9
  go_wp2_with fail
  refine (hd_to kl.out (by omega) Smm.ex1).mono ?_
  rintro e wN ⟨rfl, hn⟩
  have hb := (by first | exact Below.go hb hn | exact Below.goA hb hn | exact Below.goAA hb hn | exact Below.goD hb hn | exact Below.goAD hb hn : Below w.heap.size w wN)
  have kl := Lib.hid (by first | exact keep' kl.out hn | exact keepA kl.out hn | exact keepAA kl.out hn | exact keepD kl.out hn | exact keepAD kl.out hn)
  clear hn
  obtain ⟨⟨kl0, kl1⟩, -⟩ := blk2 kl.out
  have klz := lt_of_heap kl.out
  go_wp2_with fail
  refine (hd_to kl.out (by omega) Smm.ex2).mono ?_
  rintro e wN ⟨rfl, hn⟩
  have hb := (by first | exact Below.go hb hn | exact Below.goA hb hn | exact Below.goAA hb hn | exact Below.goD hb hn | exact Below.goAD hb hn : Below w.heap.size w wN)
  have kl := Lib.hid (by first | exact keep' kl.out hn | exact keepA kl.out hn | exact keepAA kl.out hn | exact keepD kl.out hn | exact keepAD kl.out hn)
  clear hn
  obtain ⟨⟨kl0, kl1⟩, -⟩ := blk2 kl.out
  have klz := lt_of_heap kl.out
  go_wp2_with fail
  refine (hd_to kl.out (by omega) Smm.ex3).mono ?_
  rintro e wN ⟨rfl, hn⟩
  have hb := (by first | exact Below.go hb hn | exact Below.goA hb hn | exact Below.goAA hb hn | exact Below.goD hb hn | exact Below.goAD hb hn : Below w.heap.size w wN)
  have kl := Lib.hid (by first | exact keep' kl.out hn | exact keepA kl.out hn | exact keepAA kl.out hn | exact keepD kl.out hn | exact keepAD kl.out hn)
  clear hn
  obtain ⟨⟨kl0, kl1⟩, -⟩ := blk2 kl.out
  have klz := lt_of_heap kl.out
  go_wp2_with fail
  refine (hd_fr kl.out).mono ?_
  rintro e wN ⟨rfl, hn⟩
  have hb := (by first | exact Below.go hb hn | exact Below.goA hb hn | exact Below.goAA hb hn | exact Below.goD hb hn | exact Below.goAD hb hn : Below w.heap.size w wN)
  have kl := Lib.hid (by first | exact keep' kl.out hn | exact keepA kl.out hn | exact keepAA kl.out hn | exact keepD kl.out hn | exact keepAD kl.out hn)
  clear hn
  obtain ⟨⟨kl0, kl1⟩, -⟩ := blk2 kl.out
  have klz := lt_of_heap kl.out
  go_wp2_with fail
  refine (hd_in (keepN kl.out _) (by omega) Smm.ex_in1).mono ?_
  rintro e wN ⟨rfl, hn⟩
  have hb := (by first | exact Below.go hb hn | exact Below.goA hb hn | exact Below.goAA hb hn | exact Below.goD hb hn | exact Below.goAD hb hn : Below w.heap.size w wN)
  have kl := Lib.hid (by first | exact keep' kl.out hn | exact keepA kl.out hn | exact keepAA kl.out hn | exact keepD kl.out hn | exact keepAD kl.out hn)
  have ki := Lib.hid (by first | exact keep' (heap_new _ _) hn | exact newAD hn)
  clear hn
  obtain ⟨⟨kl0, kl1⟩, -⟩ := blk2 kl.out
  have klz := lt_of_heap kl.out
  obtain ⟨⟨ki0, ki1⟩, -⟩ := blk2 ki.out
  have kiz := lt_of_heap ki.out
  go_wp2_with fail
  refine (hd_in kl.out (by omega) Smm.ex_in2).mono ?_
  rintro e wN ⟨rfl, hn⟩
  have hb := (by first | exact Below.go hb hn | exact Below.goA hb hn | exact Below.goAA hb hn | exact Below.goD hb hn | exact Below.goAD hb hn : Below w.heap.size w wN)
  have kl := Lib.hid (by first | exact keep' kl.out hn | exact keepA kl.out hn | exact keepAA kl.out hn | exact keepD kl.out hn | exact keepAD kl.out hn)
  have ki := Lib.hid (by first | exact keep' ki.out hn | exact keepA ki.out hn | exact keepAA ki.out hn | exact keepD ki.out hn | exact keepAD ki.out hn)
  clear hn
  obtain ⟨⟨kl0, kl1⟩, -⟩ := blk2 kl.out
  have klz := lt_of_heap kl.out
  obtain ⟨⟨ki0, ki1⟩, -⟩ := blk2 ki.out
  have kiz := lt_of_heap ki.out
  go_wp2_with fail
  refine (hd_ap kl.out (by omega) Smm.ex_ap1).mono ?_
  rintro e wN ⟨rfl, hn⟩
  have hb := (by first | exact Below.go hb hn | exact Below.goA hb hn | exact Below.goAA hb hn | exact Below.goD hb hn | exact Below.goAD hb hn : Below w.heap.size w wN)
  have kl := Lib.hid (by first | exact keep' kl.out hn | exact keepA kl.out hn | exact keepAA kl.out hn | exact keepD kl.out hn | exact keepAD kl.out hn)
  have ki := Lib.hid (by first | exact keep' ki.out hn | exact keepA ki.out hn | exact keepAA ki.out hn | exact keepD ki.out hn | exact keepAD ki.out hn)
  clear hn
  obtain ⟨⟨kl0, kl1⟩, -⟩ := blk2 kl.out
  have klz := lt_of_heap kl.out
  obtain ⟨⟨ki0, ki1⟩, -⟩ := blk2 ki.out
  have kiz := lt_of_heap ki.out
  go_wp2_with fail
  refine (hd_ap kl.out (by omega) Smm.ex_ap2).mono ?_
  rintro e wN ⟨rfl, hn⟩
  have hb := (by first | exact Below.go hb hn | exact Below.goA hb hn | exact Below.goAA hb hn | exact Below.goD hb hn | exact Below.goAD hb hn : Below w.heap.size w wN)
  have kl := Lib.hid (by first | exact keep' kl.out hn | exact keepA kl.out hn | exact keepAA kl.out hn | exact keepD kl.out hn | exact keepAD kl.out hn)
  have ki := Lib.hid (by first | exact keep' ki.out hn | exact keepA ki.out hn | exact keepAA ki.out hn | exact keepD ki.out hn | exact keepAD ki.out hn)
  clear hn
  obtain ⟨⟨kl0, kl1⟩, -⟩ := blk2 kl.out
  have klz := lt_of_heap kl.out
  obtain ⟨⟨ki0, ki1⟩, -⟩ := blk2 ki.out
  have kiz := lt_of_heap ki.out
  go_wp2_with fail
  refine (hd_bad kl.out).mono ?_
  rintro e wN ⟨rfl, hn⟩
  have hb := (by first | exact Below.go hb hn | exact Below.goA hb hn | exact Below.goAA hb hn | exact Below.goD hb hn | exact Below.goAD hb hn : Below w.heap.size w wN)
  have kl := Lib.hid (by first | exact keep' kl.out hn | exact keepA kl.out hn | exact keepAA kl.out hn | exact keepD kl.out hn | exact keepAD kl.out hn)
  have ki := Lib.hid (by first | exact keep' ki.out hn | exact keepA ki.out hn | exact keepAA ki.out hn | exact keepD ki.out hn | exact keepAD ki.out hn)
  clear hn
  obtain ⟨⟨kl0, kl1⟩, -⟩ := blk2 kl.out
  have klz := lt_of_heap kl.out
  obtain ⟨⟨ki0, ki1⟩, -⟩ := blk2 ki.out
  have kiz := lt_of_heap ki.out
  go_wp2
  go_ret
  exact ⟨rfl, hb⟩
def Ret (v : Value) (w : World) (e : Ending) (w' : World) : Prop := e = .returned v ∧ w' = w
theorem few_q (A : Option Addr) (n c : Nat) (w : World) (hn : n ≤ 110) : Calls Try.prog 10 #[.slice A n c] w (Ret (.bool true) w) := by
  have q : decide ((n : Int) ≤ 110) = true := decide_eq_true (by omega)
  go_enter Try.func10, Try.ntmps10
  go_wp2
  go_ret
  exact ⟨rfl, rfl⟩
theorem few_no (A : Option Addr) (n c : Nat) (w : World) (hn : ¬ n ≤ 110) (hm : n ≤ 9223372036854775807) : Calls Try.prog 10 #[.slice A n c] w (Ret (.bool false) w) := by
  have q : decide ((n : Int) ≤ 110) = false := decide_eq_false (by omega)
  have q2 : decide (n ≤ 110) = false := decide_eq_false (by omega)
  go_enter Try.func10, Try.ntmps10
  go_wp2
  go_ret
  exact ⟨rfl, rfl⟩
set_option maxHeartbeats 2000000 in
set_option maxRecDepth 100000 in
theorem matches_law (v : Value) (l : Lpm.LL) (h t s : Int) (w : World) (ht : IsTab w v l) (h1 : (Lit.int .i64 h).wf = true) (h2 : (Lit.int .i64 t).wf = true) (h3 : (Lit.int .i64 s).wf = true) : Calls Try.prog 3 #[v, .int .i64 h, .int .i64 t, .int .i64 s] w (LawPost w) := by
  obtain ⟨A, n, c, rfl, hnc, hcm, hAc, hl⟩ := ht
  unfold maxLen at hcm
  have hb := Below.refl w.heap.size w
  have HL : Hid (∀ W, Below w.heap.size w W → Lp W.heap.size W A n l) := Lib.hid fun W hW => (hl.below hW).mono hW.size
  by_cases hn : n ≤ 110
  rotate_left
  · go_enter Try.func3, Try.ntmps3
    go_wp2_with fail
    refine (head_any _).mono ?_
    rintro e wN ⟨rfl, hn⟩
    have hb := (by first | exact Below.go hb hn | exact Below.goA hb hn | exact Below.goAA hb hn | exact Below.goD hb hn | exact Below.goAD hb hn : Below w.heap.size w wN)
    clear hn
    go_wp2_with fail
    refine (few_no _ _ _ _ hn (by omega)).mono ?_
    rintro e w' ⟨rfl, rfl⟩
    go_wp2
    go_ret
    exact ⟨rfl, hb⟩
  · go_enter Try.func3, Try.ntmps3
    go_wp2_with fail
    refine (head_any _).mono ?_
    rintro e wN ⟨rfl, hn⟩
    have hb := (by first | exact Below.go hb hn | exact Below.goA hb hn | exact Below.goAA hb hn | exact Below.goD hb hn | exact Below.goAD hb hn : Below w.heap.size w wN)
    clear hn
    go_wp2_with fail
    refine (few_q _ _ _ _ hn).mono ?_
    rintro e w' ⟨rfl, rfl⟩
    go_wp2_with fail
    refine (To_any _ _ _ l _ _ _ (HL.out _ hb) hn).mono ?_
    rintro e wN ⟨rfl, hn⟩
    have hb := (by first | exact Below.go hb hn | exact Below.goA hb hn | exact Below.goAA hb hn | exact Below.goD hb hn | exact Below.goAD hb hn : Below w.heap.size w wN)
    clear hn
    go_wp2_with fail
    refine (rTo_any _ _ _ l _ _ _ (HL.out _ hb) hn).mono ?_
    rintro e wN ⟨rfl, hn⟩
    have hb := (by first | exact Below.go hb hn | exact Below.goA hb hn | exact Below.goAA hb hn | exact Below.goD hb hn | exact Below.goAD hb hn : Below w.heap.size w wN)
    clear hn
    go_wp2_with fail
    refine (Apart_any _ _ _ l _ _ _ (HL.out _ hb) hn).mono ?_
    rintro e wN ⟨rfl, hn⟩
    have hb := (by first | exact Below.go hb hn | exact Below.goA hb hn | exact Below.goAA hb hn | exact Below.goD hb hn | exact Below.goAD hb hn : Below w.heap.size w wN)
    clear hn
    go_wp2_with fail
    refine (rApart_any _ _ _ l _ _ _ (HL.out _ hb) hn).mono ?_
    rintro e wN ⟨rfl, hn⟩
    have hb := (by first | exact Below.go hb hn | exact Below.goA hb hn | exact Below.goAA hb hn | exact Below.goD hb hn | exact Below.goAD hb hn : Below w.heap.size w wN)
    clear hn
    go_wp2_with fail
    refine (Inside_any _ _ _ l _ _ _ (HL.out _ hb) hn).mono ?_
    rintro e wN ⟨rfl, hn⟩
    have hb := (by first | exact Below.go hb hn | exact Below.goA hb hn | exact Below.goAA hb hn | exact Below.goD hb hn | exact Below.goAD hb hn : Below w.heap.size w wN)
    clear hn
    go_wp2_with fail
    refine (rInside_any _ _ _ l _ _ _ (HL.out _ hb) hn).mono ?_
    rintro e wN ⟨rfl, hn⟩
    have hb := (by first | exact Below.go hb hn | exact Below.goA hb hn | exact Below.goAA hb hn | exact Below.goD hb hn | exact Below.goAD hb hn : Below w.heap.size w wN)
    clear hn
    go_wp2_with fail
    refine (From_any _ _ _ l _ _ _ (HL.out _ hb) hn).mono ?_
    rintro e wN ⟨rfl, hn⟩
    have hb := (by first | exact Below.go hb hn | exact Below.goA hb hn | exact Below.goAA hb hn | exact Below.goD hb hn | exact Below.goAD hb hn : Below w.heap.size w wN)
    clear hn
    go_wp2_with fail
    refine (rFrom_any _ _ _ l _ _ _ (HL.out _ (Below.goN hb _)) hn).mono ?_
    rintro e wN ⟨rfl, hn⟩
    have hb := (by first | exact Below.go hb hn | exact Below.goA hb hn | exact Below.goAA hb hn | exact Below.goD hb hn | exact Below.goAD hb hn : Below w.heap.size w wN)
    have kx := Lib.hid (by first | exact keep' (heap_new _ _) hn | exact newAD hn)
    clear hn
    obtain ⟨⟨kx0, kx1⟩, -⟩ := blk2 kx.out
    have kxz := lt_of_heap kx.out
    have kn := Lib.hid (heap_new wN (oIv (Smm.frLo l h s) (Smm.frHi l h s)))
    obtain ⟨⟨n0, n1⟩, -⟩ := blk2 kn.out
    have co := @cell_old
    go_wp2
    go_ret
    exact ⟨by simp, hb.alloc hb.size _⟩
end Go.Proofs.Ytcabegloipllhaa
