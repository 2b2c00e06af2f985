/- Sets of fires in memory, and what a correction makes of them. -/
import Derived.Test.YtcnenkhgbifmmaaDoorTpD
import Derived.Maps.OwnSet
set_option linter.unusedVariables false
namespace Go.Proofs.YtcnenkhgbifmmaaDoor
open Go.RowKit Go.ChangeMaps Go.MapKept
open Go.Maps (Keyed)
/-- a map that holds the fires of which p is true -/
def SetOk (p : Int × Int → Bool) (D : DataW Unit) : Prop := Maps.Tidy D ∧ (∀ x, WfP x → D.atKey (kF x) (.lit (.bool false)) = .lit (.bool (p x))) ∧ (∀ x, WfP x → Maps.has D (kF x) = p x) ∧ ∀ kl, Maps.has D kl = true → ∃ x, WfP x ∧ kl = kF x
set_option maxRecDepth 100000 in
theorem set_nil {p : Int × Int → Bool} (h : ∀ x, p x = false) : SetOk p (.map []) := ⟨Maps.tidy_empty, fun x _ => by rw [h x]; rfl, fun x _ => by rw [h x]; rfl, fun kl h => by cases h⟩
theorem SetOk.congr {p q : Int × Int → Bool} {D : DataW Unit} (h : SetOk p D) (e : ∀ x, p x = q x) : SetOk q D := by
  have : p = q := funext e
  rw [← this]; exact h
set_option maxRecDepth 100000 in
theorem set_put {p q : Int × Int → Bool} {D : DataW Unit} (h : SetOk p D) (x : Int × Int) (hx : WfP x) (hq : q x = true) (ho : ∀ y, x ≠ y → q y = p y) : SetOk q (D.put (kF x) (.lit (.bool true))) := by
  have K := keyedF.key (kF_some hx)
  refine ⟨h.1.put K _, fun y hy => ?_, fun y hy => ?_, fun kl hk => ?_⟩
  · by_cases e : x = y
    · subst e
      rw [Maps.atKey_put_same h.1.isMap K, hq]
    · rw [Maps.atKey_put_other (fun e' => e (kF_inj hy hx e').symm), h.2.1 y hy, ho y e]
  · by_cases e : x = y
    · subst e
      rw [Maps.has_put_same h.1.isMap K, hq]
    · rw [Maps.has_put_other (fun e' => e (kF_inj hy hx e').symm), h.2.2.1 y hy, ho y e]
  · by_cases e : kl = kF x
    · exact ⟨x, hx, e⟩
    · rw [Maps.has_put_other e] at hk
      exact h.2.2.2 kl hk
set_option maxRecDepth 100000 in
theorem set_del {p q : Int × Int → Bool} {D : DataW Unit} (h : SetOk p D) (x : Int × Int) (hx : WfP x) (hq : q x = false) (ho : ∀ y, x ≠ y → q y = p y) : SetOk q (D.del (kF x)) := by
  refine ⟨h.1.del _, fun y hy => ?_, fun y hy => ?_, fun kl hk => ?_⟩
  · by_cases e : x = y
    · subst e
      rw [Maps.atKey_del_same, hq]
    · rw [Maps.atKey_del_other (fun e' => e (kF_inj hy hx e').symm), h.2.1 y hy, ho y e]
  · by_cases e : x = y
    · subst e
      rw [Maps.has_del_same, hq]
    · rw [Maps.has_del_other (fun e' => e (kF_inj hy hx e').symm), h.2.2.1 y hy, ho y e]
  · by_cases e : kl = kF x
    · exact ⟨x, hx, e⟩
    · rw [Maps.has_del_other e] at hk
      exact h.2.2.2 kl hk
set_option maxRecDepth 100000 in
theorem set_look' {w : World} {b n : Nat} {p : Int × Int → Bool} {D : DataW Unit} (h : w.ownsMap Tryd.prog tF (plainElem Tryd.prog 4) b n D) (hp : SetOk p D) {x : Int × Int} (hx : WfP x) :
    (Instr.lookup tFB (.map (some b)) (FV x) false).run Tryd.prog w = .ok (.bool (p x)) w := by
  obtain ⟨v, ps, hrun, hv⟩ := h.lookup keyedF Tryd.underlying32 (zeroB w) (plainElem_bool Tryd.underlying4 false) (kF_some hx)
  rw [hp.2.1 x hx] at hv
  generalize p x = q at *
  unfold plainElem at hv
  rw [Tryd.underlying4] at hv
  cases v <;> simp at hv
  obtain ⟨rfl, _⟩ := hv
  exact hrun
theorem len_le {α : Type} : ∀ {a b : List α}, a.Nodup → (∀ x ∈ a, x ∈ b) → a.length ≤ b.length
  | [], _, _, _ => Nat.zero_le _
  | x :: a, b, hn, h => by
    obtain ⟨s, t, rfl⟩ := List.append_of_mem (h x (List.mem_cons_self ..))
    obtain ⟨h1, h2⟩ := List.nodup_cons.1 hn
    have := len_le (a := a) (b := s ++ t) h2 fun y hy => by
      have := h y (List.mem_cons_of_mem _ hy)
      rw [List.mem_append, List.mem_cons] at this
      rcases this with h | rfl | h
      · exact List.mem_append_left _ h
      · exact absurd hy h1
      · exact List.mem_append_right _ h
    simp only [List.length_append, List.length_cons] at *
    omega
set_option maxRecDepth 100000 in
theorem set_size {w : World} {b n : Nat} {L : Lpm.LL} {D : DataW Unit} (ho : w.ownsMap Tryd.prog tF (plainElem Tryd.prog 4) b n D) (h : SetOk (fun x => L.contains x) D) (hL : L.Nodup) (hw : WfL L) : Maps.size D = L.length := by
  obtain ⟨es, rfl, hap, hkey⟩ := ho.entries keyedF
  have hm : ∀ kl, (∃ p ∈ es, p.1 = kl) ↔ kl ∈ L.map kF := by
    intro kl
    constructor
    · rintro ⟨p, hp, rfl⟩
      have hh : Maps.has (DataW.map es) p.1 = true := by
        rw [Maps.has_eq]
        exact List.any_eq_true.2 ⟨p, hp, WideAt.sameKey_self (hkey p hp)⟩
      obtain ⟨x, hx, e⟩ := h.2.2.2 _ hh
      rw [e] at hh
      have hg : Maps.has (DataW.map es) (kF x) = L.contains x := h.2.2.1 x hx
      rw [hg] at hh
      exact List.mem_map.2 ⟨x, by simpa using hh, e.symm⟩
    · intro hk
      obtain ⟨x, hx, rfl⟩ := List.mem_map.1 hk
      have hh : Maps.has (DataW.map es) (kF x) = L.contains x := h.2.2.1 x (hw x hx)
      rw [show L.contains x = true by simpa using hx, Maps.has_eq] at hh
      obtain ⟨p, hp, e⟩ := List.any_eq_true.1 hh
      exact ⟨p, hp, WideAt.sameKey_eq e⟩
  have n1 : (es.map Prod.fst).Nodup := List.pairwise_map.2 hap
  have n2 : (L.map kF).Nodup := List.pairwise_map.2 (hL.imp_of_mem fun {a b} ha hb hne e => hne (kF_inj (hw a ha) (hw b hb) e))
  have l1 := len_le n1 fun kl hk => by
    obtain ⟨p, hp, rfl⟩ := List.mem_map.1 hk
    exact (hm _).1 ⟨p, hp, rfl⟩
  have l2 := len_le n2 fun kl hk => by
    obtain ⟨p, hp, rfl⟩ := (hm kl).2 hk
    exact List.mem_map.2 ⟨p, hp, rfl⟩
  simp only [List.length_map] at l1 l2
  rw [Maps.size_eq]
  omega
/-- a slice stays while one map and newer blocks are written -/
theorem Lp.but {W W' : World} {A : Option Addr} {n bm m : Nat} {l : Lpm.LL} {D : DataW Unit} {R : Value → Option (DataW Unit × List MemPlace)} {P : Program} {k : TypeId} (h : Lp W.heap.size W A n l) (ho : W.ownsMap P k R bm m D) (hk : KeepBut bm W W') : Lp W'.heap.size W' A n l :=
  ⟨h.1, fun hn => by
    obtain ⟨b, off, e, hB, hc⟩ := h.2 hn
    have hne : b ≠ bm := by
      rintro rfl
      obtain ⟨es, clock, hb, -⟩ := ho
      have := (hc 0 hn).1
      simp [World.cell?, hb] at this
    have hh := hk.2 b hB hne
    have hs := hk.1
    refine ⟨b, off, e, by omega, fun j hj => ?_⟩
    obtain ⟨c0, c1⟩ := hc j hj
    refine ⟨?_, ?_⟩
    · rw [← c0]; simp [World.cell?, hh]
    · rw [← c1]; simp [World.cell?, hh]⟩
/-- what a correction makes of the fires after a time -/
theorem step_set (A B : Lpm.LL) (t : Int) (y : Int × Int) : (((Rc.aft A t).contains y && !(Rc.less A B t).contains y) || (Rc.less B A t).contains y) = (Rc.aft B t).contains y := by
  unfold Rc.aft Rc.less
  rw [Bool.eq_iff_iff]
  simp only [Bool.or_eq_true, Bool.and_eq_true, Bool.not_eq_true', List.contains_iff_mem, List.mem_filter, decide_eq_true_iff, Bool.eq_false_iff, ne_eq]
  by_cases p : y ∈ A <;> by_cases q : y ∈ B <;> by_cases u : t < y.2 <;> simp [p, q, u]
theorem nodup_at {L : Lpm.LL} (h : L.Nodup) {k n : Nat} (hn : L.length = n) (hk : k < n) {x : Int × Int} (hx : L[k]?.getD (0, 0) = x) : (L.take k).contains x = false ∧ L.contains x = true := by
  have e : L[k]? = some x := by rw [List.getElem?_eq_getElem (by omega)] at hx ⊢; exact congrArg some hx
  refine ⟨?_, by simpa using List.mem_of_getElem? e⟩
  rw [Bool.eq_false_iff]
  intro hc
  have hc : x ∈ L.take k := by simpa using hc
  obtain ⟨j, hj⟩ := List.getElem?_of_mem hc
  rw [List.getElem?_take] at hj
  split at hj
  · rename_i hjk
    rw [List.getElem?_eq_getElem (by omega)] at hj e
    have := (List.nodup_iff_pairwise_ne.1 h)
    exact (List.pairwise_iff_getElem.1 this j k (by omega) (by omega) hjk) ((Option.some.inj hj).trans (Option.some.inj e).symm)
  · cases hj
end Go.Proofs.YtcnenkhgbifmmaaDoor
