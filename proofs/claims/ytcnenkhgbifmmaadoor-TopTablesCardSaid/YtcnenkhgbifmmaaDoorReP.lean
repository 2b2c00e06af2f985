/- Sets of fires: maps keyed by fires. -/
import Derived.Test.YtcnenkhgbifmmaaDoorReO
import Derived.DeepKeys4
import Derived.Laws.IdiomCopy
import Derived.Lib.SliceRun
set_option linter.unusedVariables false
namespace Go.Proofs.YtcnenkhgbifmmaaDoor
open Go.RowKit Go.ChangeMaps Go.MapKept
open Go.Maps (Keyed int_keyed keyOf_int_mk)
abbrev tFB : TypeId := 32
abbrev FV (x : Int × Int) : Value := .agg #[.int .i64 x.1, .int .i64 x.2]
set_option maxRecDepth 100000 in
theorem keyedF : Keyed Tryd.prog tF := Keyed.of_law (deep_law_laid (P := Tryd.prog) (by kernel_rfl) (m := 10) (by decide) (of_decide_eq_true (by kernel_rfl)) (by kernel_rfl) (by kernel_rfl))
def WfP (x : Int × Int) : Prop := (Lit.int .i64 x.1).wf = true ∧ (Lit.int .i64 x.2).wf = true
noncomputable def kF (x : Int × Int) : Lit := (keyOf Tryd.prog tF (FV x)).getD (.bool false)
set_option maxRecDepth 100000 in
theorem kF_some {x : Int × Int} (h : WfP x) : keyOf Tryd.prog tF (FV x) = some (kF x) := by
  have hk : Tryd.prog.keyType tF = true := by kernel_rfl
  have hf : (FV x).formed Tryd.prog tF = true := by kernel_rfl
  have hs : ∃ ls, Tryd.prog.keyLits (Tryd.prog.types.size + 1) tF (FV x).cells.toList = some ls := by
    obtain ⟨n, hn⟩ : ∃ n, Tryd.prog.types.size + 1 = n + 2 := ⟨Tryd.prog.types.size - 1, by kernel_rfl⟩
    rw [hn]
    unfold Program.keyLits
    rw [Tryd.underlying34]
    have hc : Tryd.prog.cellsOf tF = 2 := by kernel_rfl
    have hi : Tryd.prog.cellsOf 3 = 1 := by kernel_rfl
    have h1 : ∀ y : Int, (Lit.int .i64 y).wf = true → Tryd.prog.keyLits (n + 1) 3 [.int .i64 y] = some [.int .i64 y] := fun y hy => by
      unfold Program.keyLits
      rw [Tryd.underlying3]
      simp [hy]
    simp only [hc]
    refine ⟨[.int .i64 x.1, .int .i64 x.2], ?_⟩
    rw [if_pos ⟨rfl, by simp⟩]
    simp [hi, Value.cells, h1 _ h.1, h1 _ h.2]
  obtain ⟨ls, hl⟩ := hs
  unfold kF
  have : keyOf Tryd.prog tF (FV x) = some (.string (keyBytes ls)) := by
    unfold keyOf
    rw [Tryd.underlying34]
    show (if Tryd.prog.keyType tF && (FV x).formed Tryd.prog tF then _ else _) = _
    rw [if_pos (by rw [hk, hf]; rfl), hl]; rfl
  rw [this]; rfl
set_option maxRecDepth 100000 in
theorem kF_inj {x y : Int × Int} (hx : WfP x) (hy : WfP y) (h : kF x = kF y) : x = y := by
  have h1 := kF_some hx
  have h2 := kF_some hy
  rw [h] at h1
  have := keyedF.inj h1 h2
  injection this with e
  have e1 := congrArg (fun a : Array Value => a[0]?) e
  have e2 := congrArg (fun a : Array Value => a[1]?) e
  simp at e1 e2
  exact Prod.ext e1 e2
/-- the set of some fires -/
noncomputable def setD (l : Lpm.LL) : DataW Unit := Maps.setOf (.lit (.bool true)) (l.map kF)
set_option maxRecDepth 100000 in
theorem setD_nil : setD [] = .map [] := rfl
set_option maxRecDepth 100000 in
theorem setD_snoc (l : Lpm.LL) (x : Int × Int) : (setD l).put (kF x) (.lit (.bool true)) = setD (l ++ [x]) := by
  unfold setD; rw [List.map_append]; exact (Maps.setOf_snoc _ _ _).symm
def WfL (l : Lpm.LL) : Prop := ∀ x ∈ l, WfP x
set_option maxRecDepth 100000 in
theorem WfL.take {l : Lpm.LL} (h : WfL l) (k : Nat) : WfL (l.take k) := fun x hx => h x (List.mem_of_mem_take hx)
set_option maxRecDepth 100000 in
theorem keys_ok {l : Lpm.LL} (h : WfL l) : ∀ k ∈ l.map kF, WideAt.IsKeyLit k := by
  intro k hk
  obtain ⟨x, hx, rfl⟩ := List.mem_map.1 hk
  exact keyedF.key (kF_some (h x hx))
set_option maxRecDepth 100000 in
theorem setD_at {l : Lpm.LL} (h : WfL l) {x : Int × Int} (hx : WfP x) : (setD l).atKey (kF x) (.lit (.bool false)) = .lit (.bool (l.contains x)) := by
  have aux : ∀ k, k ≤ l.length → (setD (l.take k)).atKey (kF x) (.lit (.bool false)) = .lit (.bool ((l.take k).contains x)) := by
    intro k
    induction k with
    | zero => intro _; rfl
    | succ k ih =>
      intro hk
      have e := takeL_snoc (l := l) rfl (show k < l.length by omega)
      have hm : l[k]?.getD (0, 0) ∈ l := by rw [List.getElem?_eq_getElem (by omega)]; exact List.getElem_mem _
      generalize l[k]?.getD (0, 0) = y at *
      rw [e, ← setD_snoc]
      have hT : Maps.IsMap (setD (l.take k)) := (Maps.tidy_setOf (H := Unit) (.lit (.bool true)) _ (keys_ok (h.take k))).isMap
      by_cases he : y = x
      · subst he
        rw [Maps.atKey_put_same hT (keyedF.key (kF_some hx))]
        simp
      · rw [Maps.atKey_put_other (fun e => he (kF_inj (h y hm) hx e.symm)), ih (by omega)]
        have : (x == y) = false := by simp; exact fun e => he e.symm
        simp [List.contains_append, this, Ne.symm he]
  have := aux l.length (Nat.le_refl _)
  rwa [List.take_length] at this
set_option maxRecDepth 100000 in
theorem zeroFB (w : World) : (zeroValue 4).run Tryd.prog w = .ok (.bool false) w := zeroB w
set_option maxRecDepth 100000 in
theorem set_look {w : World} {b n : Nat} {l : Lpm.LL} (h : w.ownsMap Tryd.prog tF (plainElem Tryd.prog 4) b n (setD l)) (hl : WfL l) {x : Int × Int} (hx : WfP x) :
    (Instr.lookup tFB (.map (some b)) (FV x) false).run Tryd.prog w = .ok (.bool (l.contains x)) w := by
  obtain ⟨v, ps, hrun, hv⟩ := h.lookup keyedF Tryd.underlying32 (zeroB w) (plainElem_bool Tryd.underlying4 false) (kF_some hx)
  rw [setD_at hl hx] at hv
  generalize l.contains x = q at *
  unfold plainElem at hv
  rw [Tryd.underlying4] at hv
  cases v <;> simp at hv
  obtain ⟨rfl, _⟩ := hv
  exact hrun
end Go.Proofs.YtcnenkhgbifmmaaDoor

/- What falls away: the closure of recur.Correct, slices.Clone, IndexFunc and DeleteFunc over fires. -/
set_option linter.unusedVariables false
namespace Go.Proofs.YtcnenkhgbifmmaaDoor
open Go.RowKit
/-- a fire that falls away -/
def delP (b : Lpm.LL) (t : Int) (x : Int × Int) : Bool := decide (x.2 ≤ t) || b.contains x
theorem del_less (b : Lpm.LL) (t : Int) (a : Lpm.LL) : a.filter (fun x => !delP b t x) = Rc.less a b t := by
  unfold Rc.less
  refine List.filter_congr fun x _ => ?_
  unfold delP
  by_cases h : x.2 ≤ t
  · simp [h]; omega
  · simp [h]; omega
/-- what the closure has captured -/
structure DelAt (W : World) (b : Lpm.LL) (t : Int) (ja jt bm : Nat) : Prop where
  ca : W.heap[ja]? = some (.cells #[.int .i64 t] tI)
  ct : W.heap[jt]? = some (.cells #[.map (some bm)] tFB)
  cm : ∃ n, W.ownsMap Tryd.prog tF (plainElem Tryd.prog 4) bm n (setD b)
  wf : WfL b
theorem own_map_below {W W' : World} {b n : Nat} {D : DataW Unit} {k : TypeId} {R : Value → Option (DataW Unit × List MemPlace)} (h : W.ownsMap Tryd.prog k R b n D) (hb : Below W.heap.size W W') : W'.ownsMap Tryd.prog k R b n D := by
  obtain ⟨es, clock, hh, r⟩ := h
  exact ⟨es, clock, keep' hh hb, r⟩
theorem DelAt.below {W W' : World} {b : Lpm.LL} {t : Int} {ja jt bm : Nat} (h : DelAt W b t ja jt bm) (hb : Below W.heap.size W W') : DelAt W' b t ja jt bm :=
  ⟨keep' h.ca hb, keep' h.ct hb, by obtain ⟨n, hn⟩ := h.cm; exact ⟨n, own_map_below hn hb⟩, h.wf⟩
set_option maxHeartbeats 2000000 in
set_option maxRecDepth 100000 in
theorem del_any (b : Lpm.LL) (t : Int) (ja jt bm : Nat) (x : Int × Int) (w : World) (h : DelAt w b t ja jt bm) (hx : WfP x) :
    Calls Tryd.prog 31 #[.agg #[.int .i64 x.1, .int .i64 x.2], pt ja, pt jt] w (RetB (.bool (delP b t x)) w) := by
  have h2 := h.below (Below.goN (Below.refl w.heap.size w) (.cells #[.int .i64 x.1, .int .i64 x.2] tF))
  obtain ⟨n, hown⟩ := h2.cm
  have hlk := set_look hown h2.wf hx
  have ca := blk1 h2.ca
  have ct := blk1 h2.ct
  have HR : Hid (delP b t x = (decide (x.2 ≤ t) || b.contains x)) := Lib.hid rfl
  have hb := Below.goN (Below.refl w.heap.size w) (.cells #[.int .i64 x.1, .int .i64 x.2] tF)
  clear hown h2 h
  generalize b.contains x = q at *
  obtain ⟨d, s⟩ := x
  simp only at *
  cases hc : decide (s ≤ t)
  · go_enter Tryd.func31, Tryd.ntmps31
    go_wp2
    go_ret
    exact ⟨ret_bool (by rw [HR.out, hc]; simp), hb⟩
  · go_enter Tryd.func31, Tryd.ntmps31
    go_wp2
    go_ret
    exact ⟨ret_bool (by rw [HR.out, hc]; simp), hb⟩
/-- where the first one is that is wanted -/
def IdxPost (p : Int × Int → Bool) (l : Lpm.LL) (w : World) (e : Ending) (w' : World) : Prop :=
  Below w.heap.size w w' ∧ ((e = .returned (.int .i64 (-1)) ∧ ∀ x ∈ l, p x = false) ∨ ∃ i : Nat, e = .returned (.int .i64 i) ∧ i < l.length ∧ p (l[i]?.getD (0, 0)) = true ∧ ∀ q, q < i → p (l[q]?.getD (0, 0)) = false)
abbrev dFn (ja jt : Nat) : Value := .func (.func 31) #[] #[pt ja, pt jt]
set_option maxHeartbeats 2000000 in
set_option maxRecDepth 100000 in
theorem idx_any (b : Lpm.LL) (t : Int) (ja jt bm : Nat) (A : Option Addr) (n c : Nat) (l : Lpm.LL) (w : World) (hl : Lp w.heap.size w A n l) (h : DelAt w b t ja jt bm) (hn : n ≤ 100000) (hw : WfL l) :
    Calls Tryd.prog 54 #[.slice A n c, dFn ja jt] w (IdxPost (delP b t) l w) := by
  have H1 := Lib.hid (fun W (hW : Below w.heap.size w W) => hl.go hW)
  have HLen := Lib.hid hl.1
  have HD := Lib.hid (fun W (hW : Below w.heap.size w W) => h.below hW)
  have HW := Lib.hid (fun k (hk : k < n) => (hw (l[k]?.getD (0, 0)) (by rw [List.getElem?_eq_getElem (by have := hl.1; omega)]; exact List.getElem_mem _)))
  clear hl h hw
  go_enter Tryd.func54, Tryd.ntmps54
  go_wp2
  go_loopw [8] (fun i wr => ∃ k : Nat, k ≤ n ∧ i = .int .i64 k ∧ Below w.heap.size w wr ∧ Hid (∀ j, j < k → delP b t (l[j]?.getD (0, 0)) = false)) (fun i _ => n - (intOf i).toNat)
  case atStart => exact ⟨0, Nat.zero_le _, rfl, Below.refl _ _, Lib.hid (fun j h => by omega)⟩
  case round =>
    obtain ⟨k, hk, rfl, hb, hno⟩ := hrel
    by_cases hlt : k < n
    · obtain ⟨bb, off, rfl, hB, hc⟩ := (H1.out _ hb).2 (by omega)
      obtain ⟨c0, c1⟩ := hc k hlt
      have HX := Lib.hid (HW.out k hlt)
      clear hc
      obtain ⟨x, hx⟩ : ∃ x, l[k]?.getD (0, 0) = x := ⟨_, rfl⟩
      rw [hx] at c0 c1 HX
      have HE := Lib.hid hx
      have HC := Lib.hid (del_any b t ja jt bm x wr (HD.out _ hb) HX.out)
      clear hx
      have i0 : (0 : Int) ≤ (k : Int) := by omega
      have i1 : (k : Int) < (n : Int) := by omega
      cases hp : delP b t x
      · have HN : Hid (∀ j, j < k + 1 → delP b t (l[j]?.getD (0, 0)) = false) := Lib.hid fun j hj => by
          by_cases e : j = k
          · subst e; rw [HE.out]; exact hp
          · exact hno.out j (by omega)
        rw [hp] at HC
        clear hp
        go_wp2_with fail
        refine HC.out.mono ?_
        rintro e w5 ⟨rfl, hb5⟩
        have hb6 := Below.go hb hb5
        clear hb5
        go_wp2
        go_roundw
        case rel => exact ⟨k + 1, by omega, by go_num, hb6, HN⟩
        case measure => simp [intOf]; omega
      · have HY : Hid (k < l.length ∧ delP b t (l[k]?.getD (0, 0)) = true) := Lib.hid ⟨by rw [HLen.out]; exact hlt, by rw [HE.out]; exact hp⟩
        rw [hp] at HC
        clear hp
        go_wp2_with fail
        refine HC.out.mono ?_
        rintro e w5 ⟨rfl, hb5⟩
        have hb6 := Below.go hb hb5
        clear hb5
        go_wp2
        go_ret
        exact ⟨hb6, .inr ⟨k, rfl, HY.out.1, HY.out.2, hno.out⟩⟩
    · obtain rfl : k = n := by omega
      go_wp2
      go_ret
      exact ⟨hb, .inl ⟨rfl, fun x hx => by
        obtain ⟨i, hi, e⟩ := List.getElem_of_mem hx
        have := hno.out i (by have := HLen.out; omega)
        rw [List.getElem?_eq_getElem hi] at this
        simpa [e] using this⟩⟩
end Go.Proofs.YtcnenkhgbifmmaaDoor

/- slices.Clone and DeleteFunc over fires. -/
set_option linter.unusedVariables false
namespace Go.Proofs.YtcnenkhgbifmmaaDoor
open Go.RowKit
def ClonePost (l : Lpm.LL) (n : Nat) (w : World) (e : Ending) (w' : World) : Prop := ∃ A c, e = .returned (.slice A n c) ∧ w'.ownsRow w.heap.size tF 2 (.slice A n c) n (cellsL l) ∧ Below w.heap.size w w'
set_option maxHeartbeats 2000000 in
set_option maxRecDepth 100000 in
theorem clone_any (A : Option Addr) (n c : Nat) (l : Lpm.LL) (w : World) (hl : Lp w.heap.size w A n l) (hA : A = none → n = 0 ∧ c = 0) (hn : n ≤ 100000) :
    Calls Tryd.prog 30 #[.slice A n c] w (ClonePost l n w) := by
  obtain ⟨i0, hi, hz0, hz1, hz2⟩ := info_parts infoF
  cases A with
  | none =>
    obtain ⟨rfl, rfl⟩ := hA rfl
    have hl0 : l = [] := List.eq_nil_of_length_eq_zero hl.1
    subst hl0
    have hnl := fun (w : World) (a : Option Addr) (n c : Nat) => Lib.run_eql_slice_nil (P := Tryd.prog) w 28 tF a n c 0 0 Tryd.underlying28
    clear hl hA
    go_enter Tryd.func30, Tryd.ntmps30
    go_wp2
    go_ret
    exact ⟨none, 0, rfl, own_nil, Below.refl _ _⟩
  | some ad =>
    have hmade := Lib.hid (World.ownsRow_made (base := w.heap.size) (e := tF) (size := 2) w #[] 0 (Nat.le_refl _) (by unfold maxLen; omega) (by simp))
    have hb0 : Below w.heap.size w (w.alloc (.cells #[] tF)) := (Below.refl _ _).alloc (Nat.le_refl _) _
    have hnews := Lib.hid (lp_news (hl.go hb0) ad rfl)
    have hlen := Lib.hid hl.1
    have hnl := fun (w : World) (a : Option Addr) (n c : Nat) => Lib.run_eql_slice_nil (P := Tryd.prog) w 28 tF a n c 0 0 Tryd.underlying28
    clear hl hA
    go_enter Tryd.func30, Tryd.ntmps30
    go_wp2_with (at_builtin; refine wpList_append_own_at _ rfl _ _ 28 rfl w.heap.size tF i0 (.agg #[.int .i64 0, .int .i64 0]) 2 16 Tryd.underlying28 hi hz0 hz1 hz2 rfl (by decide) _ 0 [] rfl hmade.out ad n c (cellsL l) rfl (by rw [cellsL_len, hlen.out]) hnews.out (cellsL_one l) (by unfold maxLen; omega) (by omega) (by simp) ?_; intro v' w2 hown' hgrow _ _)
    simp only [Nat.zero_add, List.nil_append] at hown'
    have hb2 := Below.grown hb0 hgrow (by simp) (fun g hg => (hmade.out.lt g hg).1)
    obtain ⟨A', c', rfl, -, -, -⟩ := own_lp hown' hlen.out
    have HO := Lib.hid hown'
    clear hown' hgrow
    go_wp2
    go_ret
    exact ⟨A', c', rfl, HO.out, hb2⟩
/-- the row of a slice of fires, cell by cell, that may be written -/
def Arr (W : World) (g : Nat) (C : Lpm.LL) : Prop :=
  ∀ q, q < C.length → (W.cell? ⟨g, q * 2, none⟩ = some (.int .i64 (C[q]?.getD (0, 0)).1) ∧ W.cell? ⟨g, q * 2 + 1, none⟩ = some (.int .i64 (C[q]?.getD (0, 0)).2)) ∧ W.frozen? ⟨g, q * 2, none⟩ = false ∧ W.frozen? ⟨g, q * 2 + 1, none⟩ = false
theorem arr_of {B : Nat} {W : World} {g n c : Nat} {l : Lpm.LL} (h : W.ownsRow B tF 2 (.slice (some ⟨g, 0, none⟩) n c) n (cellsL l)) (hn : l.length = n) : Arr W g l ∧ B ≤ g ∧ g < W.heap.size ∧ n ≤ c := by
  subst hn
  obtain ⟨-, ⟨e, -⟩ | ⟨g', cap, cur, e, hB, hg, hnc, hcm, hcs, ht⟩⟩ := h
  · cases e
  · cases e
    refine ⟨fun q hq => ?_, hB, lt_of_heap hg, hnc⟩
    obtain ⟨a, b⟩ := cellsL_at l q hq
    have hfz : ∀ o, W.frozen? ⟨g, o, none⟩ = false := fun o => by simp [World.frozen?, hg]
    exact ⟨⟨row_cell (B := B) hg ht _ _ a, row_cell (B := B) hg ht _ _ b⟩, hfz _, hfz _⟩
theorem Arr.below {W W' : World} {g : Nat} {C : Lpm.LL} (h : Arr W g C) (hb : Below W.heap.size W W') (hg : g < W.heap.size) : Arr W' g C := fun q hq => by
  obtain ⟨⟨a, b⟩, c, d⟩ := h q hq
  exact ⟨⟨(hb.cell (p := ⟨g, q * 2, none⟩) hg).trans a, (hb.cell (p := ⟨g, q * 2 + 1, none⟩) hg).trans b⟩, (hb.frozen (p := ⟨g, q * 2, none⟩) hg).trans c, (hb.frozen (p := ⟨g, q * 2 + 1, none⟩) hg).trans d⟩
theorem Arr.set {W : World} {g : Nat} {C : Lpm.LL} (h : Arr W g C) {i : Nat} (hi : i < C.length) (x y : Int) : Arr ((W.setCell ⟨g, i * 2, none⟩ (.int .i64 x)).setCell ⟨g, i * 2 + 1, none⟩ (.int .i64 y)) g (C.set i (x, y)) := fun q hq => by
  rw [List.length_set] at hq
  obtain ⟨⟨a, b⟩, c, d⟩ := h q hq
  obtain ⟨⟨a', b'⟩, c', d'⟩ := h i hi
  have hfr : ∀ (W : World) p u o, (W.setCell p u).frozen? ⟨g, o, none⟩ = W.frozen? ⟨g, o, none⟩ := fun W p u o => World.frozen?_setCell ..
  refine ⟨?_, by rw [hfr, hfr]; exact c, by rw [hfr, hfr]; exact d⟩
  by_cases e : q = i
  · subst e
    have hx : (C.set q (x, y))[q]?.getD (0, 0) = (x, y) := by simp [hi]
    rw [hx]
    constructor
    · rw [World.cell?_setCell_other _ _ _ _ (by simp)]
      exact World.cell?_setCell_same _ _ _ a
    · have hb : (W.setCell ⟨g, q * 2, none⟩ (.int .i64 x)).cell? ⟨g, q * 2 + 1, none⟩ = some (.int .i64 (C[q]?.getD (0, 0)).2) := by rw [World.cell?_setCell_other _ _ _ _ (by simp)]; exact b
      exact World.cell?_setCell_same _ _ _ hb
  · have hx : (C.set i (x, y))[q]?.getD (0, 0) = C[q]?.getD (0, 0) := by simp [List.getElem?_set, Ne.symm e]
    rw [hx]
    constructor
    · rw [World.cell?_setCell_other _ _ _ _ (by first | (simp; done) | (simp; omega)), World.cell?_setCell_other _ _ _ _ (by first | (simp; done) | (simp; omega))]; exact a
    · rw [World.cell?_setCell_other _ _ _ _ (by first | (simp; done) | (simp; omega)), World.cell?_setCell_other _ _ _ _ (by first | (simp; done) | (simp; omega))]; exact b
theorem below_setCells {B g : Nat} {w : World} (hg : B ≤ g) : ∀ (vs : List Value) (o : Nat) (W : World), Below B w W → Below B w (W.setCells g o vs)
  | [], _, _, h => h
  | v :: r, o, W, h => below_setCells hg r (o + 1) _ (h.setCell (p := ⟨g, o, none⟩) hg v)
theorem clear_run (w : World) (ty : TypeId) (g o n c : Nat) (hn : 0 < n) (hc : ∀ j, j < n * 2 → (w.cell? ⟨g, o + j, none⟩).isSome = true) (hf : ∀ j, j < n * 2 → w.frozen? ⟨g, o + j, none⟩ = false) :
    ∃ zs : List Value, (Builtin.clear_ #[28] ty #[.slice (some ⟨g, o, none⟩) n c]).run Tryd.prog w = .ok (.tuple #[]) (w.setCells g o zs) := by
  have hv : ∀ w, (zeroValue tF).run Tryd.prog w = .ok (.agg #[.int .i64 0, .int .i64 0]) w := fun w => by kernel_rfl
  obtain ⟨zs, hzs⟩ : ∃ zs, (Builtin.zeroCells (Value.cells (.agg #[.int .i64 0, .int .i64 0])) n).toList = zs := ⟨_, rfl⟩
  have hl : zs.length = n * 2 := by rw [← hzs]; simp [Builtin.zeroCells, Value.cells]
  have h1 : ∀ v ∈ zs, v.oneCell' = true := by
    intro v hv'
    rw [← hzs] at hv'
    simp [Builtin.zeroCells, Value.cells] at hv'
    obtain ⟨a, -, e⟩ := hv'
    rcases (show a % 2 = 0 ∨ a % 2 = 1 by omega) with h | h <;> rw [h] at e <;> subst e <;> rfl
  have hst := run_storeCells_cells (P := Tryd.prog) g o zs 0 w (by rw [hl]; simpa using hc) (by rw [hl]; simpa using hf) h1
  simp only [Nat.add_zero] at hst
  obtain ⟨m, rfl⟩ : ∃ m, n = m + 1 := ⟨n - 1, by omega⟩
  refine ⟨zs, ?_⟩
  simp [Builtin.clear_, run_underlying Tryd.underlying28, hv, hzs, hst]
end Go.Proofs.YtcnenkhgbifmmaaDoor
