/- Which schedules are valid, as package recur finds it: a map of the kinds. -/
import Derived.Test.YtcnenkhgbifmmaaDoorReA
import Derived.Maps.OwnSet
import Derived.Deep.DeepCutAuto
set_option linter.unusedVariables false
namespace Go.Proofs.YtcnenkhgbifmmaaDoor
open Go.RowKit Go.ChangeMaps Go.MapKept
open Go.Maps (Keyed int_keyed keyOf_int_mk)
theorem blk9 {W : World} {k : Nat} {x0 x1 x2 x3 x4 x5 x6 x7 x8 : Value} {t : TypeId} (h : W.heap[k]? = some (.cells #[x0, x1, x2, x3, x4, x5, x6, x7, x8] t)) :
    W.cell? ⟨k, 0, none⟩ = some x0 ∧ W.cell? ⟨k, 1, none⟩ = some x1 ∧ W.cell? ⟨k, 2, none⟩ = some x2 ∧ W.cell? ⟨k, 3, none⟩ = some x3 ∧ W.cell? ⟨k, 4, none⟩ = some x4 ∧ W.cell? ⟨k, 5, none⟩ = some x5 ∧ W.cell? ⟨k, 6, none⟩ = some x6 ∧ W.cell? ⟨k, 7, none⟩ = some x7 ∧ W.cell? ⟨k, 8, none⟩ = some x8 := by
  simp [World.cell?, h]
abbrev tMB : TypeId := 107
theorem keyedI : Keyed Tryd.prog 3 := int_keyed Tryd.underlying3
/-- the map of the kinds, of which some may be there -/
def mD (b1 b2 b3 b4 : Bool) (f1 f2 f3 f4 : Bool) : DataW Unit :=
  .map ((if f1 then [(.int .i64 1, .lit (.bool b1))] else []) ++ (if f2 then [(.int .i64 2, .lit (.bool b2))] else []) ++ (if f3 then [(.int .i64 3, .lit (.bool b3))] else []) ++ (if f4 then [(.int .i64 4, .lit (.bool b4))] else []))
theorem mD1 {b1 b2 b3 b4 f2 f3 f4 : Bool} : (mD b1 b2 b3 b4 false f2 f3 f4).put (.int .i64 1) (.lit (.bool b1)) = mD b1 b2 b3 b4 true f2 f3 f4 := by cases f2 <;> cases f3 <;> cases f4 <;> rfl
theorem mD2 {b1 b2 b3 b4 f1 f3 f4 : Bool} : (mD b1 b2 b3 b4 f1 false f3 f4).put (.int .i64 2) (.lit (.bool b2)) = mD b1 b2 b3 b4 f1 true f3 f4 := by cases f1 <;> cases f3 <;> cases f4 <;> rfl
theorem mD3 {b1 b2 b3 b4 f1 f2 f4 : Bool} : (mD b1 b2 b3 b4 f1 f2 false f4).put (.int .i64 3) (.lit (.bool b3)) = mD b1 b2 b3 b4 f1 f2 true f4 := by cases f1 <;> cases f2 <;> cases f4 <;> rfl
theorem mD4 {b1 b2 b3 b4 f1 f2 f3 : Bool} : (mD b1 b2 b3 b4 f1 f2 f3 false).put (.int .i64 4) (.lit (.bool b4)) = mD b1 b2 b3 b4 f1 f2 f3 true := by cases f1 <;> cases f2 <;> cases f3 <;> rfl
theorem mD_size (b1 b2 b3 b4 f1 f2 f3 f4 : Bool) : Maps.size (mD b1 b2 b3 b4 f1 f2 f3 f4) ≤ 4 := by cases f1 <;> cases f2 <;> cases f3 <;> cases f4 <;> simp [mD, Maps.size]
theorem own_tight {H : Type} {P : Program} {k : TypeId} {R : Value → Option (DataW H × List MemPlace)} {w : World} {b n : Nat} {D : DataW H} (h : w.ownsMap P k R b n D) : w.ownsMap P k R b (Maps.size D) D := by
  obtain ⟨es, clock, hb, F, _, rfl⟩ := h
  exact ⟨es, clock, hb, F, by simp [Maps.size, length_sorted], rfl⟩
/-- what the map says of a kind -/
def kB (b1 b2 b3 b4 : Bool) (k : Int) : Bool := if k = 1 then b1 else if k = 2 then b2 else if k = 3 then b3 else if k = 4 then b4 else false
theorem mD_at (b1 b2 b3 b4 : Bool) (k : Int) : (mD b1 b2 b3 b4 true true true true).atKey (.int .i64 k) (.lit (.bool false)) = .lit (.bool (kB b1 b2 b3 b4 k)) := by
  unfold kB mD
  by_cases h1 : k = 1
  · subst h1; rfl
  · by_cases h2 : k = 2
    · subst h2; rfl
    · by_cases h3 : k = 3
      · subst h3; rfl
      · by_cases h4 : k = 4
        · subst h4; rfl
        · have e : ∀ j : Int, k ≠ j → (Lit.int .i64 j).sameKey (.int .i64 k) = false := fun j hj => by simp [Lit.sameKey, Ne.symm hj]
          simp [DataW.atKey, h1, h2, h3, h4, e 1 h1, e 2 h2, e 3 h3, e 4 h4]
theorem zeroB (w : World) : (zeroValue 4).run Tryd.prog w = .ok (.bool false) w := by kernel_rfl
set_option maxRecDepth 100000 in
theorem mD_look {w : World} {b n : Nat} {b1 b2 b3 b4 : Bool} (h : w.ownsMap Tryd.prog 3 (plainElem Tryd.prog 4) b n (mD b1 b2 b3 b4 true true true true)) {k : Int} (hk : (Lit.int .i64 k).wf = true) :
    (Instr.lookup tMB (.map (some b)) (.int .i64 k) false).run Tryd.prog w = .ok (.bool (kB b1 b2 b3 b4 k)) w := by
  obtain ⟨v, ps, hrun, hv⟩ := h.lookup keyedI Tryd.underlying107 (zeroB w) (plainElem_bool Tryd.underlying4 false) (keyOf_int_mk Tryd.underlying3 hk)
  rw [mD_at] at hv
  unfold plainElem at hv
  rw [Tryd.underlying4] at hv
  cases v <;> simp at hv
  obtain ⟨rfl, _⟩ := hv
  exact hrun
/-- what the class of the region's worlds is -/
def CV (w0 : World) (b1 b2 b3 b4 : Bool) (L : Array Bool) (W : World) : Prop :=
  Below w0.heap.size w0 W ∧ if L.getD 0 false = true then ∃ n, W.ownsMap Tryd.prog 3 (plainElem Tryd.prog 4) w0.heap.size n (mD b1 b2 b3 b4 (L.getD 4 false) (L.getD 8 false) (L.getD 12 false) (L.getD 21 false)) else W.heap.size = w0.heap.size ∧ L.getD 4 false = false ∧ L.getD 8 false = false ∧ L.getD 12 false = false ∧ L.getD 21 false = false
theorem CV.other {w0 : World} {b1 b2 b3 b4 : Bool} {L : Array Bool} {W : World} {n : Nat} (h : CV w0 b1 b2 b3 b4 L W) (h0 : n ≠ 0) (h1 : n ≠ 4) (h2 : n ≠ 8) (h3 : n ≠ 12) (h4 : n ≠ 21) : CV w0 b1 b2 b3 b4 (L.setIfInBounds n true) W := by
  unfold CV at *; rw [set_ne h0, set_ne h1, set_ne h2, set_ne h3, set_ne h4]; exact h
theorem CV.make {w0 : World} {b1 b2 b3 b4 : Bool} {L : Array Bool} {W : World} (h : CV w0 b1 b2 b3 b4 L W) (hu : L.getD 0 true = false) :
    W.heap.size = w0.heap.size ∧ CV w0 b1 b2 b3 b4 (L.setIfInBounds 0 true) (W.alloc (.map #[] 0)) := by
  obtain ⟨hb, h⟩ := h
  rw [un_f hu] at h
  simp only [Bool.false_eq_true, if_false] at h
  obtain ⟨hs, h4, h8, h12, h21⟩ := h
  refine ⟨hs, hb.alloc (by omega) _, ?_⟩
  rw [set_eq hu, if_pos rfl, set_ne (by decide), set_ne (by decide), set_ne (by decide), set_ne (by decide), h4, h8, h12, h21]
  exact ⟨0, by rw [← hs]; exact World.ownsMap_made W Tryd.prog 3 (plainElem Tryd.prog 4)⟩
theorem CV.ins4 {w0 : World} {b1 b2 b3 b4 : Bool} {L : Array Bool} {W : World} (h : CV w0 b1 b2 b3 b4 L W) (hu : L.getD 4 true = false) (hm : L.getD 0 false = true) :
    ∃ w', (Instr.mapUpdate tMB (.map (some w0.heap.size)) (.int .i64 1) (.bool b1)).run Tryd.prog W = .ok () w' ∧ CV w0 b1 b2 b3 b4 (L.setIfInBounds 4 true) w' := by
  obtain ⟨hb, h⟩ := h
  rw [if_pos hm] at h
  obtain ⟨n, hown⟩ := h
  have hsz := mD_size b1 b2 b3 b4 (L.getD 4 false) (L.getD 8 false) (L.getD 12 false) (L.getD 21 false)
  obtain ⟨w', hrun, hown', hg⟩ := (own_tight hown).update keyedI Tryd.underlying107 (by unfold maxLen; omega) (keyOf_int_mk Tryd.underlying3 (show (Lit.int .i64 1).wf = true by decide)) (plainElem_bool Tryd.underlying4 b1)
  refine ⟨w', hrun, Below.grown hb hg hb.size (fun g e => by cases e; exact Nat.le_refl _), ?_⟩
  rw [set_ne (show (4 : Nat) ≠ 0 by decide), if_pos hm]
  rw [un_f hu, mD1] at hown'
  rw [set_eq hu, set_ne (show (4 : Nat) ≠ 8 by decide), set_ne (show (4 : Nat) ≠ 12 by decide), set_ne (show (4 : Nat) ≠ 21 by decide)]
  exact ⟨_, hown'⟩
theorem CV.ins8 {w0 : World} {b1 b2 b3 b4 : Bool} {L : Array Bool} {W : World} (h : CV w0 b1 b2 b3 b4 L W) (hu : L.getD 8 true = false) (hm : L.getD 0 false = true) :
    ∃ w', (Instr.mapUpdate tMB (.map (some w0.heap.size)) (.int .i64 2) (.bool b2)).run Tryd.prog W = .ok () w' ∧ CV w0 b1 b2 b3 b4 (L.setIfInBounds 8 true) w' := by
  obtain ⟨hb, h⟩ := h
  rw [if_pos hm] at h
  obtain ⟨n, hown⟩ := h
  have hsz := mD_size b1 b2 b3 b4 (L.getD 4 false) (L.getD 8 false) (L.getD 12 false) (L.getD 21 false)
  obtain ⟨w', hrun, hown', hg⟩ := (own_tight hown).update keyedI Tryd.underlying107 (by unfold maxLen; omega) (keyOf_int_mk Tryd.underlying3 (show (Lit.int .i64 2).wf = true by decide)) (plainElem_bool Tryd.underlying4 b2)
  refine ⟨w', hrun, Below.grown hb hg hb.size (fun g e => by cases e; exact Nat.le_refl _), ?_⟩
  rw [set_ne (show (8 : Nat) ≠ 0 by decide), if_pos hm]
  rw [un_f hu, mD2] at hown'
  rw [set_ne (show (8 : Nat) ≠ 4 by decide), set_eq hu, set_ne (show (8 : Nat) ≠ 12 by decide), set_ne (show (8 : Nat) ≠ 21 by decide)]
  exact ⟨_, hown'⟩
theorem CV.ins12 {w0 : World} {b1 b2 b3 b4 : Bool} {L : Array Bool} {W : World} (h : CV w0 b1 b2 b3 b4 L W) (hu : L.getD 12 true = false) (hm : L.getD 0 false = true) :
    ∃ w', (Instr.mapUpdate tMB (.map (some w0.heap.size)) (.int .i64 3) (.bool b3)).run Tryd.prog W = .ok () w' ∧ CV w0 b1 b2 b3 b4 (L.setIfInBounds 12 true) w' := by
  obtain ⟨hb, h⟩ := h
  rw [if_pos hm] at h
  obtain ⟨n, hown⟩ := h
  have hsz := mD_size b1 b2 b3 b4 (L.getD 4 false) (L.getD 8 false) (L.getD 12 false) (L.getD 21 false)
  obtain ⟨w', hrun, hown', hg⟩ := (own_tight hown).update keyedI Tryd.underlying107 (by unfold maxLen; omega) (keyOf_int_mk Tryd.underlying3 (show (Lit.int .i64 3).wf = true by decide)) (plainElem_bool Tryd.underlying4 b3)
  refine ⟨w', hrun, Below.grown hb hg hb.size (fun g e => by cases e; exact Nat.le_refl _), ?_⟩
  rw [set_ne (show (12 : Nat) ≠ 0 by decide), if_pos hm]
  rw [un_f hu, mD3] at hown'
  rw [set_ne (show (12 : Nat) ≠ 4 by decide), set_ne (show (12 : Nat) ≠ 8 by decide), set_eq hu, set_ne (show (12 : Nat) ≠ 21 by decide)]
  exact ⟨_, hown'⟩
theorem CV.ins21 {w0 : World} {b1 b2 b3 b4 : Bool} {L : Array Bool} {W : World} (h : CV w0 b1 b2 b3 b4 L W) (hu : L.getD 21 true = false) (hm : L.getD 0 false = true) :
    ∃ w', (Instr.mapUpdate tMB (.map (some w0.heap.size)) (.int .i64 4) (.bool b4)).run Tryd.prog W = .ok () w' ∧ CV w0 b1 b2 b3 b4 (L.setIfInBounds 21 true) w' := by
  obtain ⟨hb, h⟩ := h
  rw [if_pos hm] at h
  obtain ⟨n, hown⟩ := h
  have hsz := mD_size b1 b2 b3 b4 (L.getD 4 false) (L.getD 8 false) (L.getD 12 false) (L.getD 21 false)
  obtain ⟨w', hrun, hown', hg⟩ := (own_tight hown).update keyedI Tryd.underlying107 (by unfold maxLen; omega) (keyOf_int_mk Tryd.underlying3 (show (Lit.int .i64 4).wf = true by decide)) (plainElem_bool Tryd.underlying4 b4)
  refine ⟨w', hrun, Below.grown hb hg hb.size (fun g e => by cases e; exact Nat.le_refl _), ?_⟩
  rw [set_ne (show (21 : Nat) ≠ 0 by decide), if_pos hm]
  rw [un_f hu, mD4] at hown'
  rw [set_ne (show (21 : Nat) ≠ 4 by decide), set_ne (show (21 : Nat) ≠ 8 by decide), set_ne (show (21 : Nat) ≠ 12 by decide), set_eq hu]
  exact ⟨_, hown'⟩
def wkB (r : Rec) : Bool := r.wd == 0 || ((r.kind == 2 || r.kind == 4) && wi r.wd 0 6)
def dyB (r : Rec) : Bool := decide (0 ≤ r.frm) && decide (r.frm < r.unt) && decide (r.unt ≤ 34001)
theorem valid_and (r : Rec) : Rc.validB r = (kB (r.nth == 0) (r.nth == 0) (wi r.nth 1 31) (r.nth == -1 || wi r.nth 1 5) r.kind && (r.wd == 0 || ((r.kind == 2 || r.kind == 4) && wi r.wd 0 6)) && (decide (0 ≤ r.frm) && decide (r.frm < r.unt) && decide (r.unt ≤ 34001)) && wi r.every 1 1000 && wi r.sec 0 86399) := by
  rw [Bool.eq_iff_iff]
  unfold Rc.validB Rc.Val kB
  simp only [Bool.and_eq_true, decide_eq_true_eq, wi_true, Bool.or_eq_true, beq_iff_eq]
  by_cases k1 : r.kind = 1
  · simp [k1]; omega
  · by_cases k2 : r.kind = 2
    · simp [k2]; omega
    · by_cases k3 : r.kind = 3
      · simp [k3, wi_true]; omega
      · by_cases k4 : r.kind = 4
        · simp [k4, wi_true]; omega
        · simp [k1, k2, k3, k4]
set_option maxHeartbeats 2000000 in
set_option maxRecDepth 100000 in
theorem rcValid_any (r : Rec) (w : World) (hk : (Lit.int .i64 r.kind).wf = true) : Calls Tryd.prog 51 #[(.agg #[.int .i64 r.kind, .int .i64 r.every, .int .i64 r.wd, .int .i64 r.nth, .int .i64 r.frm, .int .i64 r.unt, .int .i64 r.sec, .bool r.shift, .bool r.both])] w (RetB (.bool (Rc.validB r)) w) := by
  have HV := Lib.hid (valid_and r)
  have Hk := Lib.hid hk
  clear hk
  have kx := Lib.hid (heap_new w (.cells #[.int .i64 r.kind, .int .i64 r.every, .int .i64 r.wd, .int .i64 r.nth, .int .i64 r.frm, .int .i64 r.unt, .int .i64 r.sec, .bool r.shift, .bool r.both] 24))
  have hb0 := Below.goN (Below.refl w.heap.size w) (.cells #[.int .i64 r.kind, .int .i64 r.every, .int .i64 r.wd, .int .i64 r.nth, .int .i64 r.frm, .int .i64 r.unt, .int .i64 r.sec, .bool r.shift, .bool r.both] 24)
  go_enter Tryd.func51, Tryd.ntmps51
  go_upto_region 1 with fail
  go_cut [3] (fun s3 wc => s3 = .map (some (w.heap.size + 1)) ∧ Below (w.alloc (.cells #[.int .i64 r.kind, .int .i64 r.every, .int .i64 r.wd, .int .i64 r.nth, .int .i64 r.frm, .int .i64 r.unt, .int .i64 r.sec, .bool r.shift, .bool r.both] 24)).heap.size (w.alloc (.cells #[.int .i64 r.kind, .int .i64 r.every, .int .i64 r.wd, .int .i64 r.nth, .int .i64 r.frm, .int .i64 r.unt, .int .i64 r.sec, .bool r.shift, .bool r.both] 24)) wc ∧ ∃ n, wc.ownsMap Tryd.prog 3 (plainElem Tryd.prog 4) (w.heap.size + 1) n (mD (r.nth == 0) (r.nth == 0) (wi r.nth 1 31) (r.nth == -1 || wi r.nth 1 5) true true true true))
  case first =>
    cases hn : (r.nth == -1)
    · skip
      refine wp_region_cls (CV (w.alloc (.cells #[.int .i64 r.kind, .int .i64 r.every, .int .i64 r.wd, .int .i64 r.nth, .int .i64 r.frm, .int .i64 r.unt, .int .i64 r.sec, .bool r.shift, .bool r.both] 24)) (r.nth == 0) (r.nth == 0) (wi r.nth 1 31) (wi r.nth 1 5)) (by kernel_rfl) (by kernel_rfl) ?_ ?_
      · exact ⟨(Below.refl _ _).drew, by rw [if_neg (by decide)]; exact ⟨rfl, rfl, rfl, rfl, rfl⟩⟩
      refine cls_res (.map (some (w.alloc (.cells #[.int .i64 r.kind, .int .i64 r.every, .int .i64 r.wd, .int .i64 r.nth, .int .i64 r.frm, .int .i64 r.unt, .int .i64 r.sec, .bool r.shift, .bool r.both] 24)).heap.size)) (by kernel_rfl) (fun L W h0 h1 h2 => by obtain ⟨hs, hc⟩ := h2.make (ready_un h1); simp only [World.size_alloc] at hs; have hmm := @run_makeMap Tryd.prog tMB W; go_simp; first | exact hc | exact ⟨hc, rfl⟩ | exact ⟨hc, by simp⟩) ?_
      simp only [Act.put, List.setIfInBounds_toArray, List.set_cons_succ, List.set_cons_zero]
      refine cls_pure (.pointer (some ⟨w.heap.size, 3, none⟩)) (fun L W h => h.other (by decide) (by decide) (by decide) (by decide) (by decide)) (by kernel_rfl) (fun L W h0 h1 h2 => by go_simp) ?_
      simp only [Act.put, List.setIfInBounds_toArray, List.set_cons_succ, List.set_cons_zero]
      refine cls_pure (.int .i64 r.nth) (fun L W h => h.other (by decide) (by decide) (by decide) (by decide) (by decide)) (by kernel_rfl) (fun L W h0 h1 h2 => by have c := (blk9 (keep' kx.out h2.1)).2.2.2.1; go_simp) ?_
      simp only [Act.put, List.setIfInBounds_toArray, List.set_cons_succ, List.set_cons_zero]
      refine cls_pure (.bool (r.nth == 0)) (fun L W h => h.other (by decide) (by decide) (by decide) (by decide) (by decide)) (by kernel_rfl) (fun L W h0 h1 h2 => by go_simp) ?_
      simp only [Act.put, List.setIfInBounds_toArray, List.set_cons_succ, List.set_cons_zero]
      refine cls_res undef (by kernel_rfl) (fun L W h0 h1 h2 => by obtain ⟨w', hr, hc⟩ := h2.ins4 (ready_un h1) (ready_dep h1 0 (by kernel_rfl)); simp only [World.size_alloc] at hr; go_simp; exact ⟨hc, rfl⟩) ?_
      simp only [Act.put, List.setIfInBounds_toArray, List.set_cons_succ, List.set_cons_zero]
      refine cls_pure (.pointer (some ⟨w.heap.size, 3, none⟩)) (fun L W h => h.other (by decide) (by decide) (by decide) (by decide) (by decide)) (by kernel_rfl) (fun L W h0 h1 h2 => by go_simp) ?_
      simp only [Act.put, List.setIfInBounds_toArray, List.set_cons_succ, List.set_cons_zero]
      refine cls_pure (.int .i64 r.nth) (fun L W h => h.other (by decide) (by decide) (by decide) (by decide) (by decide)) (by kernel_rfl) (fun L W h0 h1 h2 => by have c := (blk9 (keep' kx.out h2.1)).2.2.2.1; go_simp) ?_
      simp only [Act.put, List.setIfInBounds_toArray, List.set_cons_succ, List.set_cons_zero]
      refine cls_pure (.bool (r.nth == 0)) (fun L W h => h.other (by decide) (by decide) (by decide) (by decide) (by decide)) (by kernel_rfl) (fun L W h0 h1 h2 => by go_simp) ?_
      simp only [Act.put, List.setIfInBounds_toArray, List.set_cons_succ, List.set_cons_zero]
      refine cls_res undef (by kernel_rfl) (fun L W h0 h1 h2 => by obtain ⟨w', hr, hc⟩ := h2.ins8 (ready_un h1) (ready_dep h1 0 (by kernel_rfl)); simp only [World.size_alloc] at hr; go_simp; exact ⟨hc, rfl⟩) ?_
      simp only [Act.put, List.setIfInBounds_toArray, List.set_cons_succ, List.set_cons_zero]
      refine cls_pure (.pointer (some ⟨w.heap.size, 3, none⟩)) (fun L W h => h.other (by decide) (by decide) (by decide) (by decide) (by decide)) (by kernel_rfl) (fun L W h0 h1 h2 => by go_simp) ?_
      simp only [Act.put, List.setIfInBounds_toArray, List.set_cons_succ, List.set_cons_zero]
      refine cls_pure (.int .i64 r.nth) (fun L W h => h.other (by decide) (by decide) (by decide) (by decide) (by decide)) (by kernel_rfl) (fun L W h0 h1 h2 => by have c := (blk9 (keep' kx.out h2.1)).2.2.2.1; go_simp) ?_
      simp only [Act.put, List.setIfInBounds_toArray, List.set_cons_succ, List.set_cons_zero]
      refine cls_call 27 #[.int .i64 r.nth, .int .i64 1, .int .i64 31] (.bool (wi r.nth 1 31)) (by kernel_rfl) (fun W => by go_simp) (fun L W h0 h1 h2 => (within_s _ _ _ _).mono fun e w' ⟨he, hw⟩ => ⟨he, by subst hw; exact h2.other (by decide) (by decide) (by decide) (by decide) (by decide)⟩) ?_
      simp only [Act.put, List.setIfInBounds_toArray, List.set_cons_succ, List.set_cons_zero]
      refine cls_res undef (by kernel_rfl) (fun L W h0 h1 h2 => by obtain ⟨w', hr, hc⟩ := h2.ins12 (ready_un h1) (ready_dep h1 0 (by kernel_rfl)); simp only [World.size_alloc] at hr; go_simp; exact ⟨hc, rfl⟩) ?_
      simp only [Act.put, List.setIfInBounds_toArray, List.set_cons_succ, List.set_cons_zero]
      refine cls_pure (.pointer (some ⟨w.heap.size, 3, none⟩)) (fun L W h => h.other (by decide) (by decide) (by decide) (by decide) (by decide)) (by kernel_rfl) (fun L W h0 h1 h2 => by go_simp) ?_
      simp only [Act.put, List.setIfInBounds_toArray, List.set_cons_succ, List.set_cons_zero]
      refine cls_pure (.int .i64 r.nth) (fun L W h => h.other (by decide) (by decide) (by decide) (by decide) (by decide)) (by kernel_rfl) (fun L W h0 h1 h2 => by have c := (blk9 (keep' kx.out h2.1)).2.2.2.1; go_simp) ?_
      simp only [Act.put, List.setIfInBounds_toArray, List.set_cons_succ, List.set_cons_zero]
      refine cls_pure (.bool false) (fun L W h => h.other (by decide) (by decide) (by decide) (by decide) (by decide)) (by kernel_rfl) (fun L W h0 h1 h2 => by go_simp) ?_
      simp only [Act.put, List.setIfInBounds_toArray, List.set_cons_succ, List.set_cons_zero]
      refine cls_pure (.bool false) (fun L W h => h.other (by decide) (by decide) (by decide) (by decide) (by decide)) (by kernel_rfl) (fun L W h0 h1 h2 => by go_simp) ?_
      simp only [Act.put, List.setIfInBounds_toArray, List.set_cons_succ, List.set_cons_zero]
      refine cls_pure (.pointer (some ⟨w.heap.size, 3, none⟩)) (fun L W h => h.other (by decide) (by decide) (by decide) (by decide) (by decide)) (by kernel_rfl) (fun L W h0 h1 h2 => by go_simp) ?_
      simp only [Act.put, List.setIfInBounds_toArray, List.set_cons_succ, List.set_cons_zero]
      refine cls_pure (.int .i64 r.nth) (fun L W h => h.other (by decide) (by decide) (by decide) (by decide) (by decide)) (by kernel_rfl) (fun L W h0 h1 h2 => by have c := (blk9 (keep' kx.out h2.1)).2.2.2.1; go_simp) ?_
      simp only [Act.put, List.setIfInBounds_toArray, List.set_cons_succ, List.set_cons_zero]
      refine cls_call 27 #[.int .i64 r.nth, .int .i64 1, .int .i64 5] (.bool (wi r.nth 1 5)) (by kernel_rfl) (fun W => by go_simp) (fun L W h0 h1 h2 => (within_s _ _ _ _).mono fun e w' ⟨he, hw⟩ => ⟨he, by subst hw; exact h2.other (by decide) (by decide) (by decide) (by decide) (by decide)⟩) ?_
      simp only [Act.put, List.setIfInBounds_toArray, List.set_cons_succ, List.set_cons_zero]
      refine cls_pure (.bool (wi r.nth 1 5)) (fun L W h => h.other (by decide) (by decide) (by decide) (by decide) (by decide)) (by kernel_rfl) (fun L W h0 h1 h2 => by go_simp) ?_
      simp only [Act.put, List.setIfInBounds_toArray, List.set_cons_succ, List.set_cons_zero]
      refine cls_res undef (by kernel_rfl) (fun L W h0 h1 h2 => by obtain ⟨w', hr, hc⟩ := h2.ins21 (ready_un h1) (ready_dep h1 0 (by kernel_rfl)); simp only [World.size_alloc] at hr; go_simp; exact ⟨hc, rfl⟩) ?_
      simp only [Act.put, List.setIfInBounds_toArray, List.set_cons_succ, List.set_cons_zero]
      refine cls_pure (.map (some (w.alloc (.cells #[.int .i64 r.kind, .int .i64 r.every, .int .i64 r.wd, .int .i64 r.nth, .int .i64 r.frm, .int .i64 r.unt, .int .i64 r.sec, .bool r.shift, .bool r.both] 24)).heap.size)) (fun L W h => h.other (by decide) (by decide) (by decide) (by decide) (by decide)) (by kernel_rfl) (fun L W h0 h1 h2 => by go_simp) ?_
      simp only [Act.put, List.setIfInBounds_toArray, List.set_cons_succ, List.set_cons_zero]
      refine cls_pure (.map (some (w.alloc (.cells #[.int .i64 r.kind, .int .i64 r.every, .int .i64 r.wd, .int .i64 r.nth, .int .i64 r.frm, .int .i64 r.unt, .int .i64 r.sec, .bool r.shift, .bool r.both] 24)).heap.size)) (fun L W h => h.other (by decide) (by decide) (by decide) (by decide) (by decide)) (by kernel_rfl) (fun L W h0 h1 h2 => by go_simp) ?_
      simp only [Act.put, List.setIfInBounds_toArray, List.set_cons_succ, List.set_cons_zero]
      intro L W hL hC
      obtain ⟨hb, hC⟩ := hC
      rw [if_pos (hL 0 (by decide)), hL 4 (by decide), hL 8 (by decide), hL 12 (by decide), hL 21 (by decide)] at hC
      go_wp2
      go_meet
      exact ⟨by simp, hb, by rw [hn, Bool.false_or]; simpa only [World.size_alloc] using hC⟩
    · skip
      refine wp_region_cls (CV (w.alloc (.cells #[.int .i64 r.kind, .int .i64 r.every, .int .i64 r.wd, .int .i64 r.nth, .int .i64 r.frm, .int .i64 r.unt, .int .i64 r.sec, .bool r.shift, .bool r.both] 24)) (r.nth == 0) (r.nth == 0) (wi r.nth 1 31) true) (by kernel_rfl) (by kernel_rfl) ?_ ?_
      · exact ⟨(Below.refl _ _).drew, by rw [if_neg (by decide)]; exact ⟨rfl, rfl, rfl, rfl, rfl⟩⟩
      refine cls_res (.map (some (w.alloc (.cells #[.int .i64 r.kind, .int .i64 r.every, .int .i64 r.wd, .int .i64 r.nth, .int .i64 r.frm, .int .i64 r.unt, .int .i64 r.sec, .bool r.shift, .bool r.both] 24)).heap.size)) (by kernel_rfl) (fun L W h0 h1 h2 => by obtain ⟨hs, hc⟩ := h2.make (ready_un h1); simp only [World.size_alloc] at hs; have hmm := @run_makeMap Tryd.prog tMB W; go_simp; first | exact hc | exact ⟨hc, rfl⟩ | exact ⟨hc, by simp⟩) ?_
      simp only [Act.put, List.setIfInBounds_toArray, List.set_cons_succ, List.set_cons_zero]
      refine cls_pure (.pointer (some ⟨w.heap.size, 3, none⟩)) (fun L W h => h.other (by decide) (by decide) (by decide) (by decide) (by decide)) (by kernel_rfl) (fun L W h0 h1 h2 => by go_simp) ?_
      simp only [Act.put, List.setIfInBounds_toArray, List.set_cons_succ, List.set_cons_zero]
      refine cls_pure (.int .i64 r.nth) (fun L W h => h.other (by decide) (by decide) (by decide) (by decide) (by decide)) (by kernel_rfl) (fun L W h0 h1 h2 => by have c := (blk9 (keep' kx.out h2.1)).2.2.2.1; go_simp) ?_
      simp only [Act.put, List.setIfInBounds_toArray, List.set_cons_succ, List.set_cons_zero]
      refine cls_pure (.bool (r.nth == 0)) (fun L W h => h.other (by decide) (by decide) (by decide) (by decide) (by decide)) (by kernel_rfl) (fun L W h0 h1 h2 => by go_simp) ?_
      simp only [Act.put, List.setIfInBounds_toArray, List.set_cons_succ, List.set_cons_zero]
      refine cls_res undef (by kernel_rfl) (fun L W h0 h1 h2 => by obtain ⟨w', hr, hc⟩ := h2.ins4 (ready_un h1) (ready_dep h1 0 (by kernel_rfl)); simp only [World.size_alloc] at hr; go_simp; exact ⟨hc, rfl⟩) ?_
      simp only [Act.put, List.setIfInBounds_toArray, List.set_cons_succ, List.set_cons_zero]
      refine cls_pure (.pointer (some ⟨w.heap.size, 3, none⟩)) (fun L W h => h.other (by decide) (by decide) (by decide) (by decide) (by decide)) (by kernel_rfl) (fun L W h0 h1 h2 => by go_simp) ?_
      simp only [Act.put, List.setIfInBounds_toArray, List.set_cons_succ, List.set_cons_zero]
      refine cls_pure (.int .i64 r.nth) (fun L W h => h.other (by decide) (by decide) (by decide) (by decide) (by decide)) (by kernel_rfl) (fun L W h0 h1 h2 => by have c := (blk9 (keep' kx.out h2.1)).2.2.2.1; go_simp) ?_
      simp only [Act.put, List.setIfInBounds_toArray, List.set_cons_succ, List.set_cons_zero]
      refine cls_pure (.bool (r.nth == 0)) (fun L W h => h.other (by decide) (by decide) (by decide) (by decide) (by decide)) (by kernel_rfl) (fun L W h0 h1 h2 => by go_simp) ?_
      simp only [Act.put, List.setIfInBounds_toArray, List.set_cons_succ, List.set_cons_zero]
      refine cls_res undef (by kernel_rfl) (fun L W h0 h1 h2 => by obtain ⟨w', hr, hc⟩ := h2.ins8 (ready_un h1) (ready_dep h1 0 (by kernel_rfl)); simp only [World.size_alloc] at hr; go_simp; exact ⟨hc, rfl⟩) ?_
      simp only [Act.put, List.setIfInBounds_toArray, List.set_cons_succ, List.set_cons_zero]
      refine cls_pure (.pointer (some ⟨w.heap.size, 3, none⟩)) (fun L W h => h.other (by decide) (by decide) (by decide) (by decide) (by decide)) (by kernel_rfl) (fun L W h0 h1 h2 => by go_simp) ?_
      simp only [Act.put, List.setIfInBounds_toArray, List.set_cons_succ, List.set_cons_zero]
      refine cls_pure (.int .i64 r.nth) (fun L W h => h.other (by decide) (by decide) (by decide) (by decide) (by decide)) (by kernel_rfl) (fun L W h0 h1 h2 => by have c := (blk9 (keep' kx.out h2.1)).2.2.2.1; go_simp) ?_
      simp only [Act.put, List.setIfInBounds_toArray, List.set_cons_succ, List.set_cons_zero]
      refine cls_call 27 #[.int .i64 r.nth, .int .i64 1, .int .i64 31] (.bool (wi r.nth 1 31)) (by kernel_rfl) (fun W => by go_simp) (fun L W h0 h1 h2 => (within_s _ _ _ _).mono fun e w' ⟨he, hw⟩ => ⟨he, by subst hw; exact h2.other (by decide) (by decide) (by decide) (by decide) (by decide)⟩) ?_
      simp only [Act.put, List.setIfInBounds_toArray, List.set_cons_succ, List.set_cons_zero]
      refine cls_res undef (by kernel_rfl) (fun L W h0 h1 h2 => by obtain ⟨w', hr, hc⟩ := h2.ins12 (ready_un h1) (ready_dep h1 0 (by kernel_rfl)); simp only [World.size_alloc] at hr; go_simp; exact ⟨hc, rfl⟩) ?_
      simp only [Act.put, List.setIfInBounds_toArray, List.set_cons_succ, List.set_cons_zero]
      refine cls_pure (.pointer (some ⟨w.heap.size, 3, none⟩)) (fun L W h => h.other (by decide) (by decide) (by decide) (by decide) (by decide)) (by kernel_rfl) (fun L W h0 h1 h2 => by go_simp) ?_
      simp only [Act.put, List.setIfInBounds_toArray, List.set_cons_succ, List.set_cons_zero]
      refine cls_pure (.int .i64 r.nth) (fun L W h => h.other (by decide) (by decide) (by decide) (by decide) (by decide)) (by kernel_rfl) (fun L W h0 h1 h2 => by have c := (blk9 (keep' kx.out h2.1)).2.2.2.1; go_simp) ?_
      simp only [Act.put, List.setIfInBounds_toArray, List.set_cons_succ, List.set_cons_zero]
      refine cls_pure (.bool true) (fun L W h => h.other (by decide) (by decide) (by decide) (by decide) (by decide)) (by kernel_rfl) (fun L W h0 h1 h2 => by go_simp) ?_
      simp only [Act.put, List.setIfInBounds_toArray, List.set_cons_succ, List.set_cons_zero]
      refine cls_pure (.bool true) (fun L W h => h.other (by decide) (by decide) (by decide) (by decide) (by decide)) (by kernel_rfl) (fun L W h0 h1 h2 => by go_simp) ?_
      simp only [Act.put, List.setIfInBounds_toArray, List.set_cons_succ, List.set_cons_zero]
      refine cls_not (fun L W h => h.other (by decide) (by decide) (by decide) (by decide) (by decide)) (by kernel_rfl) ?_
      simp only [Act.put, List.setIfInBounds_toArray, List.set_cons_succ, List.set_cons_zero]
      refine cls_not (fun L W h => h.other (by decide) (by decide) (by decide) (by decide) (by decide)) (by kernel_rfl) ?_
      simp only [Act.put, List.setIfInBounds_toArray, List.set_cons_succ, List.set_cons_zero]
      refine cls_not (fun L W h => h.other (by decide) (by decide) (by decide) (by decide) (by decide)) (by kernel_rfl) ?_
      simp only [Act.put, List.setIfInBounds_toArray, List.set_cons_succ, List.set_cons_zero]
      refine cls_pure (.bool true) (fun L W h => h.other (by decide) (by decide) (by decide) (by decide) (by decide)) (by kernel_rfl) (fun L W h0 h1 h2 => by go_simp) ?_
      simp only [Act.put, List.setIfInBounds_toArray, List.set_cons_succ, List.set_cons_zero]
      refine cls_res undef (by kernel_rfl) (fun L W h0 h1 h2 => by obtain ⟨w', hr, hc⟩ := h2.ins21 (ready_un h1) (ready_dep h1 0 (by kernel_rfl)); simp only [World.size_alloc] at hr; go_simp; exact ⟨hc, rfl⟩) ?_
      simp only [Act.put, List.setIfInBounds_toArray, List.set_cons_succ, List.set_cons_zero]
      refine cls_pure (.map (some (w.alloc (.cells #[.int .i64 r.kind, .int .i64 r.every, .int .i64 r.wd, .int .i64 r.nth, .int .i64 r.frm, .int .i64 r.unt, .int .i64 r.sec, .bool r.shift, .bool r.both] 24)).heap.size)) (fun L W h => h.other (by decide) (by decide) (by decide) (by decide) (by decide)) (by kernel_rfl) (fun L W h0 h1 h2 => by go_simp) ?_
      simp only [Act.put, List.setIfInBounds_toArray, List.set_cons_succ, List.set_cons_zero]
      refine cls_pure (.map (some (w.alloc (.cells #[.int .i64 r.kind, .int .i64 r.every, .int .i64 r.wd, .int .i64 r.nth, .int .i64 r.frm, .int .i64 r.unt, .int .i64 r.sec, .bool r.shift, .bool r.both] 24)).heap.size)) (fun L W h => h.other (by decide) (by decide) (by decide) (by decide) (by decide)) (by kernel_rfl) (fun L W h0 h1 h2 => by go_simp) ?_
      simp only [Act.put, List.setIfInBounds_toArray, List.set_cons_succ, List.set_cons_zero]
      intro L W hL hC
      obtain ⟨hb, hC⟩ := hC
      rw [if_pos (hL 0 (by decide)), hL 4 (by decide), hL 8 (by decide), hL 12 (by decide), hL 21 (by decide)] at hC
      go_wp2
      go_meet
      exact ⟨by simp, hb, by rw [hn, Bool.true_or]; simpa only [World.size_alloc] using hC⟩
  case rest =>
    obtain ⟨rfl, hb, n, hown⟩ := hcut
    have hlk := mD_look hown Hk.out
    obtain ⟨c0, c1, c2, c3, c4, c5, c6, -, -⟩ := blk9 (keep' kx.out hb)
    have hbw := Below.goA (Below.refl w.heap.size w) hb
    clear hown
    obtain ⟨w3, hw3⟩ : ∃ w3, wc = w3 := ⟨_, rfl⟩
    subst hw3
    generalize kB (r.nth == 0) (r.nth == 0) (wi r.nth 1 31) (r.nth == -1 || wi r.nth 1 5) r.kind = b1 at *
    go_upto_region 2 with fail
    go_cut [4] (fun s4 wx => s4 = .bool (wkB r) ∧ wx = wc)
    case first =>
      have hw2 : Hid (wkB r = (r.wd == 0 || ((r.kind == 2 || r.kind == 4) && wi r.wd 0 6))) := Lib.hid rfl
      cases k1 : (r.wd == 0)
      · cases k2 : (r.kind == 2)
        · cases k3 : (r.kind == 4)
          all_goals
            go_wp2_with (go_at_call 27; refine (within_s _ _ _ _).mono ?_; rintro e w' ⟨rfl, rfl⟩)
            go_meet
            exact ⟨by rw [hw2.out, k1, k2, k3]; simp, rfl⟩
        · go_wp2_with (go_at_call 27; refine (within_s _ _ _ _).mono ?_; rintro e w' ⟨rfl, rfl⟩)
          go_meet
          exact ⟨by rw [hw2.out, k1, k2]; simp, rfl⟩
      · go_wp2
        go_meet
        exact ⟨by rw [hw2.out, k1]; simp, rfl⟩
    case rest =>
      obtain ⟨rfl, rfl⟩ := hcut
      go_upto_region 3 with fail
      go_cut [5] (fun s5 wx => s5 = .bool (dyB r) ∧ wx = wc)
      case first =>
        have hw2 : Hid (dyB r = (decide (0 ≤ r.frm) && decide (r.frm < r.unt) && decide (r.unt ≤ 34001))) := Lib.hid rfl
        cases k1 : decide (0 ≤ r.frm)
        · go_wp2
          go_meet
          exact ⟨by rw [hw2.out, k1]; simp, rfl⟩
        · cases k2 : decide (r.frm < r.unt)
          all_goals
            go_wp2
            go_meet
            exact ⟨by rw [hw2.out, k1, k2]; simp, rfl⟩
      case rest =>
        obtain ⟨rfl, rfl⟩ := hcut
        have HF : Hid (Rc.validB r = (b1 && wkB r && dyB r && wi r.every 1 1000 && wi r.sec 0 86399)) := Lib.hid HV.out
        generalize wkB r = b2 at *
        generalize dyB r = b3 at *
        have hways : b1 = false ∨ (b1 = true ∧ b2 = false) ∨ (b1 = true ∧ b2 = true ∧ b3 = false) ∨ (b1 = true ∧ b2 = true ∧ b3 = true ∧ wi r.every 1 1000 = false) ∨ (b1 = true ∧ b2 = true ∧ b3 = true ∧ wi r.every 1 1000 = true) := by
          cases b1 <;> cases b2 <;> cases b3 <;> cases h : wi r.every 1 1000 <;> simp
        clear HV
        rcases hways with rfl | ⟨rfl, rfl⟩ | ⟨rfl, rfl, rfl⟩ | ⟨rfl, rfl, rfl, k4⟩ | ⟨rfl, rfl, rfl, k4⟩
        all_goals
          go_wp2_with (go_at_call 27; refine (within_s _ _ _ _).mono ?_; rintro e w' ⟨rfl, rfl⟩)
          go_ret
          exact ⟨ret_bool (by rw [HF.out]; simp [*]), hbw⟩
end Go.Proofs.YtcnenkhgbifmmaaDoor
