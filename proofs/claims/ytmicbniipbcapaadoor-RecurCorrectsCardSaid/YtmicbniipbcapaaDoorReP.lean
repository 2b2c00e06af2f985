/- Sets of fires: maps keyed by fires. -/
import Derived.Test.YtmicbniipbcapaaDoorReO
import Derived.DeepKeys4
set_option linter.unusedVariables false
namespace Go.Proofs.YtmicbniipbcapaaDoor
open Go.RowKit Go.ChangeMaps Go.MapKept
open Go.Maps (Keyed int_keyed keyOf_int_mk)
abbrev tFB : TypeId := 68
abbrev FV (x : Int × Int) : Value := .agg #[.int .i64 x.1, .int .i64 x.2]
set_option maxRecDepth 100000 in
theorem keyedF : Keyed Tryd.prog tF := Keyed.of_law (deep_law_laid (P := Tryd.prog) (by kernel_rfl) (m := 10) (by decide) (of_decide_eq_true (by kernel_rfl)) (by kernel_rfl) (by kernel_rfl))
def WfP (x : Int × Int) : Prop := (Lit.int .i64 x.1).wf = true ∧ (Lit.int .i64 x.2).wf = true
noncomputable def kF (x : Int × Int) : Lit := (keyOf Tryd.prog tF (FV x)).getD (.bool false)
set_option maxRecDepth 100000 in
theorem kF_some {x : Int × Int} (h : WfP x) : keyOf Tryd.prog tF (FV x) = some (kF x) := by
  have hk : Tryd.prog.keyType tF = true := by kernel_rfl
  have hf : (FV x).formed Tryd.prog tF = true := by kernel_rfl
  have hs : ∃ ls, Tryd.prog.keyLits (Tryd.prog.types.size + 1) tF (FV x).cells.toList = some ls := by
    obtain ⟨n, hn⟩ : ∃ n, Tryd.prog.types.size + 1 = n + 2 := ⟨Tryd.prog.types.size - 1, by kernel_rfl⟩
    rw [hn]
    unfold Program.keyLits
    rw [Tryd.underlying46]
    have hc : Tryd.prog.cellsOf tF = 2 := by kernel_rfl
    have hi : Tryd.prog.cellsOf 3 = 1 := by kernel_rfl
    have h1 : ∀ y : Int, (Lit.int .i64 y).wf = true → Tryd.prog.keyLits (n + 1) 3 [.int .i64 y] = some [.int .i64 y] := fun y hy => by
      unfold Program.keyLits
      rw [Tryd.underlying3]
      simp [hy]
    simp only [hc]
    refine ⟨[.int .i64 x.1, .int .i64 x.2], ?_⟩
    rw [if_pos ⟨rfl, by simp⟩]
    simp [hi, Value.cells, h1 _ h.1, h1 _ h.2]
  obtain ⟨ls, hl⟩ := hs
  unfold kF
  have : keyOf Tryd.prog tF (FV x) = some (.string (keyBytes ls)) := by
    unfold keyOf
    rw [Tryd.underlying46]
    show (if Tryd.prog.keyType tF && (FV x).formed Tryd.prog tF then _ else _) = _
    rw [if_pos (by rw [hk, hf]; rfl), hl]; rfl
  rw [this]; rfl
set_option maxRecDepth 100000 in
theorem kF_inj {x y : Int × Int} (hx : WfP x) (hy : WfP y) (h : kF x = kF y) : x = y := by
  have h1 := kF_some hx
  have h2 := kF_some hy
  rw [h] at h1
  have := keyedF.inj h1 h2
  injection this with e
  have e1 := congrArg (fun a : Array Value => a[0]?) e
  have e2 := congrArg (fun a : Array Value => a[1]?) e
  simp at e1 e2
  exact Prod.ext e1 e2
/-- the set of some fires -/
noncomputable def setD (l : Lpm.LL) : DataW Unit := Maps.setOf (.lit (.bool true)) (l.map kF)
set_option maxRecDepth 100000 in
theorem setD_nil : setD [] = .map [] := rfl
set_option maxRecDepth 100000 in
theorem setD_snoc (l : Lpm.LL) (x : Int × Int) : (setD l).put (kF x) (.lit (.bool true)) = setD (l ++ [x]) := by
  unfold setD; rw [List.map_append]; exact (Maps.setOf_snoc _ _ _).symm
def WfL (l : Lpm.LL) : Prop := ∀ x ∈ l, WfP x
set_option maxRecDepth 100000 in
theorem WfL.take {l : Lpm.LL} (h : WfL l) (k : Nat) : WfL (l.take k) := fun x hx => h x (List.mem_of_mem_take hx)
set_option maxRecDepth 100000 in
theorem keys_ok {l : Lpm.LL} (h : WfL l) : ∀ k ∈ l.map kF, WideAt.IsKeyLit k := by
  intro k hk
  obtain ⟨x, hx, rfl⟩ := List.mem_map.1 hk
  exact keyedF.key (kF_some (h x hx))
set_option maxRecDepth 100000 in
theorem setD_at {l : Lpm.LL} (h : WfL l) {x : Int × Int} (hx : WfP x) : (setD l).atKey (kF x) (.lit (.bool false)) = .lit (.bool (l.contains x)) := by
  have aux : ∀ k, k ≤ l.length → (setD (l.take k)).atKey (kF x) (.lit (.bool false)) = .lit (.bool ((l.take k).contains x)) := by
    intro k
    induction k with
    | zero => intro _; rfl
    | succ k ih =>
      intro hk
      have e := takeL_snoc (l := l) rfl (show k < l.length by omega)
      have hm : l[k]?.getD (0, 0) ∈ l := by rw [List.getElem?_eq_getElem (by omega)]; exact List.getElem_mem _
      generalize l[k]?.getD (0, 0) = y at *
      rw [e, ← setD_snoc]
      have hT : Maps.IsMap (setD (l.take k)) := (Maps.tidy_setOf (H := Unit) (.lit (.bool true)) _ (keys_ok (h.take k))).isMap
      by_cases he : y = x
      · subst he
        rw [Maps.atKey_put_same hT (keyedF.key (kF_some hx))]
        simp
      · rw [Maps.atKey_put_other (fun e => he (kF_inj (h y hm) hx e.symm)), ih (by omega)]
        have : (x == y) = false := by simp; exact fun e => he e.symm
        simp [List.contains_append, this, Ne.symm he]
  have := aux l.length (Nat.le_refl _)
  rwa [List.take_length] at this
set_option maxRecDepth 100000 in
theorem zeroFB (w : World) : (zeroValue 4).run Tryd.prog w = .ok (.bool false) w := zeroB w
set_option maxRecDepth 100000 in
theorem set_look {w : World} {b n : Nat} {l : Lpm.LL} (h : w.ownsMap Tryd.prog tF (plainElem Tryd.prog 4) b n (setD l)) (hl : WfL l) {x : Int × Int} (hx : WfP x) :
    (Instr.lookup tFB (.map (some b)) (FV x) false).run Tryd.prog w = .ok (.bool (l.contains x)) w := by
  obtain ⟨v, ps, hrun, hv⟩ := h.lookup keyedF Tryd.underlying68 (zeroB w) (plainElem_bool Tryd.underlying4 false) (kF_some hx)
  rw [setD_at hl hx] at hv
  generalize l.contains x = q at *
  unfold plainElem at hv
  rw [Tryd.underlying4] at hv
  cases v <;> simp at hv
  obtain ⟨rfl, _⟩ := hv
  exact hrun
end Go.Proofs.YtmicbniipbcapaaDoor
