/- A statement whose order is open: if each operation, whenever it may come up, leaves ONE value (the same in every world that the class allows then) and a world that the class allows next, one walk in the order of the text serves every order. -/
import Derived.Test.YtcnenkhgbifmmaaDoorRows
import Derived.WalkKit
import Derived.Orders
set_option linter.unusedVariables false
namespace Go.Proofs.YtcnenkhgbifmmaaDoor
section
variable {P : Program} {ops : Array Oper} {md : Region.Mode} {C : Array Bool → World → Prop}

/-- a run that leaves v and a world of D -/
def resIn (P : Program) (D : World → Prop) (v : Value) : Result Next → Prop
  | .ok (.value u) w' => D w' ∧ u = v
  | .ok .skip w' => D w' ∧ v = undef
  | .ok (.enter f args) w' => Calls P f args w' fun e w'' => e = .returned v ∧ D w''
  | _ => False
/-- number i, standing in state a, leaves v in whatever world the class allows where it may come up -/
def Leaves (P : Program) (md : Region.Mode) (ops : Array Oper) (C : Array Bool → World → Prop) (i : Nat) (o : Oper) (v : Value) (a : Act) : Prop :=
  (Region.wanted o (yielded ops a.tmps) = true ∧ ∀ L w, L.size = ops.size → i ∈ Region.ready md ops L → C L w → resIn P (C (L.setIfInBounds i true)) v ((execOp a.eval o).run P w)) ∨
  (Region.wanted o (yielded ops a.tmps) = false ∧ v = undef ∧ ∀ L w, L.size = ops.size → i ∈ Region.ready md ops L → C L w → C (L.setIfInBounds i true) w)
/-- the walk of some of the operations, by their numbers -/
def walkBy (P : Program) (md : Region.Mode) (ops : Array Oper) (C : Array Bool → World → Prop) (Q : Act → Prop) : List Nat → Act → Prop
  | [], a => Q a
  | i :: l, a => match ops[i]? with
    | none => False
    | some o => ∃ v, Leaves P md ops C i o v a ∧ walkBy P md ops C Q l (a.put o.dst v)

theorem Leaves.same {i : Nat} {o : Oper} {v : Value} {a a' : Act} (h : Leaves P md ops C i o v a) (he : execOp a'.eval o = execOp a.eval o)
    (hw : Region.wanted o (yielded ops a'.tmps) = Region.wanted o (yielded ops a.tmps)) : Leaves P md ops C i o v a' := by
  unfold Leaves at *; rw [he, hw]; exact h
/-- one of them, apart from those ahead of it, may be moved to the front -/
theorem walk_front {Q : Act → Prop} (hs : ∀ (j : Nat) (o : Oper) cs b, ops[j]? = some o → o.op ≠ .select cs b) {i : Nat} {o : Oper} (ho : ops[i]? = some o) (r : List Nat) :
    ∀ (l : List Nat) (a : Act), (∀ j ∈ l, ∀ x, ops[j]? = some x → x.apart ops o = true) → walkBy P md ops C Q (l ++ i :: r) a →
      ∃ v, Leaves P md ops C i o v a ∧ walkBy P md ops C Q (l ++ r) (a.put o.dst v)
  | [], a, _, h => by simpa only [List.nil_append, walkBy, ho] using h
  | j :: l, a, hap, h => by
    rw [List.cons_append] at h
    unfold walkBy at h
    cases hj : ops[j]? with
    | none => rw [hj] at h; exact h.elim
    | some x =>
      rw [hj] at h
      obtain ⟨u, hx, h⟩ := h
      obtain ⟨v, hv, h⟩ := walk_front hs ho r l _ (fun k hk => hap k (List.mem_cons_of_mem _ hk)) h
      obtain ⟨h1, h2, h3⟩ := Oper.apart_spec (hap j (List.mem_cons_self ..) x hj)
      refine ⟨v, hv.same (execOp_put o (fun cs b => hs i o cs b ho) a x.dst u h1).symm (wanted_put o a x.dst u h1).symm, ?_⟩
      rw [List.cons_append]
      unfold walkBy
      rw [hj]
      refine ⟨u, hx.same (execOp_put x (fun cs b => hs j x cs b hj) a o.dst v h3) (wanted_put x a o.dst v h3), ?_⟩
      rw [← Act.put_comm a u v h2]
      exact h

/-- those that have not come up, in the order of the text -/
def pend (ops : Array Oper) (L : Array Bool) : List Nat := (List.range ops.size).filter fun i => !L.getD i true
/-- an operation waits for earlier ones alone, and is apart from the earlier ones that it does not wait for -/
def cleanB (md : Region.Mode) (ops : Array Oper) : Bool :=
  (List.range ops.size).all fun i => match ops[i]? with
    | none => false
    | some o => (match o.op with | .select .. => false | _ => true) && o.after.all (fun e => !Region.binds md e || decide (e.on < i)) &&
      (List.range i).all fun j => o.after.any (fun e => Region.binds md e && e.on == j) || (match ops[j]? with | none => false | some x => x.apart ops o)
theorem clean_spec (h : cleanB md ops = true) {i : Nat} {o : Oper} (ho : ops[i]? = some o) :
    (∀ cs b, o.op ≠ .select cs b) ∧ (∀ e ∈ o.after, Region.binds md e = true → e.on < i) ∧ ∀ j, j < i → (∃ e ∈ o.after, Region.binds md e = true ∧ e.on = j) ∨ ∀ x, ops[j]? = some x → x.apart ops o = true := by
  have hi : i < ops.size := (Array.getElem?_eq_some_iff.1 ho).1
  have h1 := List.all_eq_true.1 h i (List.mem_range.2 hi)
  rw [ho] at h1
  simp only [Bool.and_eq_true] at h1
  obtain ⟨⟨h1, h2⟩, h3⟩ := h1
  refine ⟨(fun cs b e => by rw [e] at h1; cases h1), fun e he hb => ?_, fun j hj => ?_⟩
  · have := Array.all_eq_true'.1 h2 e he
    rw [hb] at this
    simpa using this
  · have := List.all_eq_true.1 h3 j (List.mem_range.2 hj)
    rw [Bool.or_eq_true] at this
    rcases this with h | h
    · left
      obtain ⟨e, he, hh⟩ := Array.any_eq_true'.1 h
      simp only [Bool.and_eq_true, beq_iff_eq] at hh
      exact ⟨e, he, hh.1, hh.2⟩
    · right
      intro x hx
      rw [hx] at h
      exact h
theorem mem_pend {L : Array Bool} {i : Nat} : i ∈ pend ops L ↔ i < ops.size ∧ L.getD i true = false := by
  unfold pend; rw [List.mem_filter, List.mem_range]; simp
theorem in_ready {L : Array Bool} {i : Nat} (h : i ∈ Region.ready md ops L) : L.getD i true = false ∧ ∃ o, ops[i]? = some o ∧ ∀ e ∈ o.after, Region.binds md e = true → L.getD e.on false = true := by
  unfold Region.ready at h
  rw [List.mem_filter] at h
  obtain ⟨h0, h⟩ := h
  simp only [Bool.and_eq_true, Bool.not_eq_true'] at h
  refine ⟨h.1, ?_⟩
  have hi := List.mem_range.1 h0
  refine ⟨ops[i], Array.getElem?_eq_getElem hi, fun e he hb => ?_⟩
  have h2 := h.2
  rw [Array.getElem?_eq_getElem hi] at h2
  simp only [Option.map_some, Option.getD_some] at h2
  have := Array.all_eq_true'.1 h2 e he
  rw [hb] at this
  simpa using this
theorem getD_at {L : Array Bool} {i : Nat} (h : i < L.size) : L.getD i true = L.getD i false := by simp [Array.getD, h]
theorem ready_of {L : Array Bool} {i : Nat} {o : Oper} (ho : ops[i]? = some o) (h : L.getD i true = false) (ha : ∀ e ∈ o.after, Region.binds md e = true → L.getD e.on false = true) : i ∈ Region.ready md ops L := by
  have hi : i < ops.size := (Array.getElem?_eq_some_iff.1 ho).1
  unfold Region.ready
  rw [List.mem_filter]
  refine ⟨List.mem_range.2 hi, ?_⟩
  rw [ho, h]
  simp only [Bool.not_false, Bool.true_and, Option.map_some, Option.getD_some]
  refine Array.all_eq_true'.2 fun e he => ?_
  cases hb : Region.binds md e
  · rfl
  · simpa using ha e he hb
theorem pend_set {L : Array Bool} {i : Nat} (hi : i < L.size) : pend ops (L.setIfInBounds i true) = (pend ops L).filter fun k => k != i := by
  unfold pend
  rw [List.filter_filter]
  refine List.filter_congr fun k hk => ?_
  by_cases e : k = i
  · subst e; simp [Array.getD, hi]
  · have : (L.setIfInBounds i true).getD k true = L.getD k true := by rw [Array.getD_eq_getD_getElem?, Array.getD_eq_getD_getElem?, Array.getElem?_setIfInBounds_ne (Ne.symm e)]
    rw [this]; simp [e]
theorem ready_nil {L : Array Bool} (hcl : cleanB md ops = true) (hL : L.size = ops.size) (h : Region.ready md ops L = []) : pend ops L = [] := by
  have aux : ∀ i, i < ops.size → L.getD i true = true := by
    intro i
    induction i using Nat.strongRecOn with
    | ind i ih =>
      intro hi
      cases hg : L.getD i true
      · have ho : ops[i]? = some ops[i] := Array.getElem?_eq_getElem hi
        have := (clean_spec hcl ho).2.1
        have hr := ready_of (md := md) ho hg (fun e he hb => by
          have hlt := this e he hb
          rw [← getD_at (by omega)]
          exact ih e.on hlt (by omega))
        rw [h] at hr
        cases hr
      · rfl
  unfold pend
  rw [List.filter_eq_nil_iff]
  intro i hi
  rw [aux i (List.mem_range.1 hi)]; simp
theorem pend_sorted (ops : Array Oper) (L : Array Bool) : (pend ops L).Pairwise (· < ·) := List.pairwise_lt_range.filter _

theorem any_of_walk {Q : Act → Prop} {Q' : Exit → Act → World → Prop} (hcl : cleanB md ops = true) (hQ : ∀ L a w, (∀ i, i < ops.size → L.getD i false = true) → C L w → Q a → Q' .normal a w) :
    ∀ (fuel : Nat) (L : Array Bool) (a : Act) (w : World), L.size = ops.size → (pend ops L).length ≤ fuel → C L w → walkBy P md ops C Q (pend ops L) a → wpAny P md ops Q' fuel L a w := by
  have fin : ∀ (L : Array Bool) (a : Act) (w : World), L.size = ops.size → pend ops L = [] → C L w → walkBy P md ops C Q (pend ops L) a → Q' .normal a w := fun L a w hL hp hC h => by
    rw [hp] at h
    refine hQ L a w (fun i hi => ?_) hC h
    rw [← getD_at (by omega)]
    cases hg : L.getD i true
    · have := mem_pend.2 ⟨hi, hg⟩
      rw [hp] at this
      cases this
    · rfl
  intro fuel
  induction fuel with
  | zero =>
    intro L a w hL hf hC h
    have hp : pend ops L = [] := List.eq_nil_of_length_eq_zero (by omega)
    refine ⟨?_, fin L a w hL hp hC h⟩
    cases hr : Region.ready md ops L with
    | nil => rfl
    | cons x xs =>
      obtain ⟨h1, o, h2, -⟩ := in_ready (md := md) (ops := ops) (L := L) (i := x) (by rw [hr]; exact List.mem_cons_self ..)
      have := mem_pend.2 ⟨(Array.getElem?_eq_some_iff.1 h2).1, h1⟩
      rw [hp] at this
      cases this
  | succ fuel ih =>
    intro L a w hL hf hC h
    refine ⟨fun h0 => fin L a w hL (ready_nil hcl hL h0) hC h, fun i hi => ?_⟩
    obtain ⟨hun, o, ho, haf⟩ := in_ready hi
    have his : i < ops.size := (Array.getElem?_eq_some_iff.1 ho).1
    obtain ⟨l, r, hlr⟩ := List.append_of_mem (mem_pend.2 ⟨his, hun⟩)
    have hsort := pend_sorted ops L
    rw [hlr, List.pairwise_append] at hsort
    obtain ⟨-, hs2, hs3⟩ := hsort
    have hlt : ∀ j ∈ l, j < i := fun j hj => hs3 j hj i (List.mem_cons_self ..)
    have hgt : ∀ j ∈ r, i < j := fun j hj => (List.pairwise_cons.1 hs2).1 j hj
    have hnext : pend ops (L.setIfInBounds i true) = l ++ r := by
      rw [pend_set (by omega), hlr, List.filter_append, List.filter_cons]
      have e1 : l.filter (fun k => k != i) = l := List.filter_eq_self.2 fun k hk => by have := hlt k hk; simp; omega
      have e2 : r.filter (fun k => k != i) = r := List.filter_eq_self.2 fun k hk => by have := hgt k hk; simp; omega
      rw [e1, e2]; simp
    have hspec := clean_spec hcl ho
    rw [hlr] at h
    obtain ⟨v, hv, hw⟩ := walk_front (fun j x cs b hx => (clean_spec hcl hx).1 cs b) ho r l a (fun j hj x hx => by
      rcases hspec.2.2 j (hlt j hj) with ⟨e, he, hb, hon⟩ | hx'
      · have h1 := haf e he hb
        have h2 : L.getD j true = false := (mem_pend.1 (by rw [hlr]; exact List.mem_append_left _ hj)).2
        rw [hon, ← getD_at (by have := hlt j hj; omega), h2] at h1
        cases h1
      · exact hx' x hx) h
    have hlen : (pend ops (L.setIfInBounds i true)).length ≤ fuel := by
      rw [hnext]; rw [hlr] at hf; simp at hf ⊢; omega
    have hgo : ∀ w', C (L.setIfInBounds i true) w' → wpAny P md ops Q' fuel (L.setIfInBounds i true) (a.put o.dst v) w' := fun w' hC' =>
      ih _ _ w' (by simpa using hL) hlen hC' (by rw [hnext]; exact hw)
    unfold wpOp
    rw [ho]
    rcases hv with ⟨h1, h2⟩ | ⟨h1, rfl, h2⟩
    · simp only [h1, if_true]
      left
      have h3 := h2 L w hL hi hC
      unfold Oper.wp
      generalize (execOp a.eval o).run P w = res at *
      cases res with
      | ok x w' =>
        cases x <;> simp only [resIn] at h3 <;> simp only [Oper.upon]
        case value u => obtain ⟨h3, rfl⟩ := h3; exact hgo _ h3
        case skip => obtain ⟨h3, rfl⟩ := h3; exact hgo _ h3
        case enter f args => exact h3.mono fun e w'' ⟨he, h4⟩ => by subst he; exact hgo _ h4
      | halt x w' => simp only [resIn] at h3
    · simp only [h1, Bool.false_eq_true, if_false]
      exact hgo _ (h2 L w hL hi hC)
end

section
variable {P : Program} {C : Array Bool → World → Prop}
/-- the same walk, the operations themselves; n: the number of the first -/
def walkOps (P : Program) (ops : Array Oper) (C : Array Bool → World → Prop) (Q : Act → Prop) : Nat → List Oper → Act → Prop
  | _, [], a => Q a
  | n, o :: l, a => ∃ v, Leaves P .any ops C n o v a ∧ walkOps P ops C Q (n + 1) l (a.put o.dst v)
theorem walkBy_of_ops {ops : Array Oper} {Q : Act → Prop} : ∀ (l : List Oper) (n : Nat) (a : Act), (∀ j, l[j]? = ops[n + j]?) → walkOps P ops C Q n l a → walkBy P .any ops C Q (List.range' n l.length) a
  | [], n, a, _, h => h
  | o :: l, n, a, hl, h => by
    obtain ⟨v, h1, h2⟩ := h
    rw [List.length_cons, List.range'_succ]
    unfold walkBy
    have h0 : ops[n]? = some o := by simpa using (hl 0).symm
    rw [h0]
    exact ⟨v, h1, walkBy_of_ops l (n + 1) _ (fun j => by have := hl (j + 1); simpa [Nat.add_assoc, Nat.add_comm 1 j] using this) h2⟩
theorem pend_all (ops : Array Oper) : pend ops (Array.replicate ops.size false) = List.range ops.size := by
  unfold pend
  refine List.filter_eq_self.2 fun i hi => ?_
  have := List.mem_range.1 hi
  simp [Array.getD, this]
/-- a region that draws its order -/
theorem wp_region_cls {id : Nat} {Q : Exit → Act → World → Prop} {a : Act} {w : World} {l : List Oper} (C : Array Bool → World → Prop) (hm : P.follows .mixedOrders = true) (hB : cleanB .any l.toArray = true)
    (hC : C (Array.replicate l.length false) { w with drawn := w.drawn + 1 })
    (h : walkOps P l.toArray C (fun a' => ∀ L w', (∀ i, i < l.length → L.getD i false = true) → C L w' → Q .normal a' w') 0 l a) : (Code.region id l.toArray true).wp P Q a w := by
  refine wp_region_any hm (any_of_walk (C := C) (Q := fun a' => ∀ L w', (∀ i, i < l.length → L.getD i false = true) → C L w' → Q .normal a' w') hB (fun L a w hall hC h => h L w (by simpa using hall) hC) _ _ _ _ (by simp) ?_ (by simpa using hC) ?_)
  · rw [pend_all]; simp
  · rw [pend_all]
    have := walkBy_of_ops l 0 a (by simp) h
    rw [← List.range_eq_range'] at this
    simpa using this
theorem set_ne {L : Array Bool} {n i : Nat} (h : n ≠ i) : (L.setIfInBounds n true).getD i false = L.getD i false := by
  rw [Array.getD_eq_getD_getElem?, Array.getD_eq_getD_getElem?, Array.getElem?_setIfInBounds_ne h]
theorem set_eq {L : Array Bool} {n : Nat} (h : L.getD n true = false) : (L.setIfInBounds n true).getD n false = true := by
  have hn : n < L.size := by
    rcases Nat.lt_or_ge n L.size with h1 | h1
    · exact h1
    · simp [Array.getD, Nat.not_lt.2 h1] at h
  simp [Array.getD, hn]
theorem ready_un {ops : Array Oper} {md : Region.Mode} {L : Array Bool} {n : Nat} (h : n ∈ Region.ready md ops L) : L.getD n true = false := (in_ready h).1
theorem un_f {L : Array Bool} {n : Nat} (h : L.getD n true = false) : L.getD n false = false := by
  rcases Nat.lt_or_ge n L.size with h1 | h1
  · rw [← getD_at h1]; exact h
  · simp [Array.getD, Nat.not_lt.2 h1]
/-- does number i wait for number j? -/
def waitsB (ops : Array Oper) (i j : Nat) : Bool := match ops[i]? with | some o => o.after.any (fun e => Region.binds .any e && e.on == j) | none => false
theorem ready_dep {ops : Array Oper} {L : Array Bool} {i : Nat} (h : i ∈ Region.ready .any ops L) (j : Nat) (hd : waitsB ops i j = true) : L.getD j false = true := by
  obtain ⟨-, o, ho, ha⟩ := in_ready h
  unfold waitsB at hd
  rw [ho] at hd
  obtain ⟨e, he, hh⟩ := Array.any_eq_true'.1 hd
  simp only [Bool.and_eq_true, beq_iff_eq] at hh
  have := ha e he hh.1
  rwa [hh.2] at this
/-- an operation, by what its run leaves -/
theorem cls_res {ops : Array Oper} {Q : Act → Prop} {n : Nat} {o : Oper} {l : List Oper} {a : Act} (v : Value) (hw : Region.wanted o (yielded ops a.tmps) = true)
    (h : ∀ L w, L.size = ops.size → n ∈ Region.ready .any ops L → C L w → resIn P (C (L.setIfInBounds n true)) v ((execOp a.eval o).run P w)) (hK : walkOps P ops C Q (n + 1) l (a.put o.dst v)) : walkOps P ops C Q n (o :: l) a :=
  ⟨v, .inl ⟨hw, h⟩, hK⟩
/-- an operation that does nothing but leave a value -/
theorem cls_pure {ops : Array Oper} {Q : Act → Prop} {n : Nat} {o : Oper} {l : List Oper} {a : Act} (v : Value) (hst : ∀ L w, C L w → C (L.setIfInBounds n true) w) (hw : Region.wanted o (yielded ops a.tmps) = true)
    (h : ∀ L w, L.size = ops.size → n ∈ Region.ready .any ops L → C L w → (execOp a.eval o).run P w = .ok (.value v) w) (hK : walkOps P ops C Q (n + 1) l (a.put o.dst v)) : walkOps P ops C Q n (o :: l) a :=
  ⟨v, .inl ⟨hw, fun L w h0 h1 h2 => by rw [h L w h0 h1 h2]; exact ⟨hst L w h2, rfl⟩⟩, hK⟩
/-- one that its guard passes over -/
theorem cls_not {ops : Array Oper} {Q : Act → Prop} {n : Nat} {o : Oper} {l : List Oper} {a : Act} (hst : ∀ L w, C L w → C (L.setIfInBounds n true) w) (hw : Region.wanted o (yielded ops a.tmps) = false)
    (hK : walkOps P ops C Q (n + 1) l (a.put o.dst undef)) : walkOps P ops C Q n (o :: l) a :=
  ⟨undef, .inr ⟨hw, rfl, fun L w _ _ h2 => hst L w h2⟩, hK⟩
/-- a call -/
theorem cls_call {ops : Array Oper} {Q : Act → Prop} {n : Nat} {o : Oper} {l : List Oper} {a : Act} (f : FuncId) (args : Array Value) (v : Value) (hw : Region.wanted o (yielded ops a.tmps) = true)
    (h : ∀ w, (execOp a.eval o).run P w = .ok (.enter f args) w) (hc : ∀ L w, L.size = ops.size → n ∈ Region.ready .any ops L → C L w → Calls P f args w fun e w' => e = .returned v ∧ C (L.setIfInBounds n true) w')
    (hK : walkOps P ops C Q (n + 1) l (a.put o.dst v)) : walkOps P ops C Q n (o :: l) a :=
  ⟨v, .inl ⟨hw, fun L w h0 h1 h2 => by rw [h w]; exact hc L w h0 h1 h2⟩, hK⟩
/-- any other that leaves one value -/
theorem cls_make {ops : Array Oper} {Q : Act → Prop} {n : Nat} {o : Oper} {l : List Oper} {a : Act} (v : Value) (hw : Region.wanted o (yielded ops a.tmps) = true)
    (h : ∀ L w, L.size = ops.size → n ∈ Region.ready .any ops L → C L w → ∃ w', (execOp a.eval o).run P w = .ok (.value v) w' ∧ C (L.setIfInBounds n true) w') (hK : walkOps P ops C Q (n + 1) l (a.put o.dst v)) : walkOps P ops C Q n (o :: l) a :=
  ⟨v, .inl ⟨hw, fun L w h0 h1 h2 => by obtain ⟨w', h3, h4⟩ := h L w h0 h1 h2; rw [h3]; exact ⟨h4, rfl⟩⟩, hK⟩
end
end Go.Proofs.YtcnenkhgbifmmaaDoor
