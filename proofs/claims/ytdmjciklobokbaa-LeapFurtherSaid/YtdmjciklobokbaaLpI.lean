/- Leap seconds laid anew; append in a drawn region. -/
import Derived.Test.YtdmjciklobokbaaLpH
import Derived.Test.YtdmjciklobokbaaComm
import Derived.Deep.AppendLies
import Derived.Maps.AppendAt
set_option linter.unusedVariables false
namespace Go.Proofs.Ytdmjciklobokbaa
open Go.RowKit
abbrev oLp (d s : Int) : Obj := .cells #[.int .i64 d, .int .i64 s] 35
theorem set_heap {w : World} {b : Nat} {cs : Array Value} {t : TypeId} {j : Nat} {u : Value} (h : w.heap[b]? = some (.cells cs t)) : (w.setCell ⟨b, j, none⟩ u).heap[b]? = some (.cells (cs.setIfInBounds j u) t) := by
  have hlt := lt_of_heap h
  have h' : w.heap[b] = .cells cs t := by simpa [Array.getElem?_eq_getElem hlt] using h
  show (w.heap.modify b _)[b]? = _
  rw [Array.getElem?_eq_getElem (by simpa using hlt), Array.getElem_modify_self, h']
  rfl
theorem app_nil {P : Program} {w : World} {t ty e : TypeId} {i : TypeInfo} (ht : P.underlying t = some (.slice e)) (hi : P.info? e = some i) (b : Option Addr) (n k : Nat) (hnk : n ≤ k) : (Builtin.append_ #[t, t] ty #[.slice b n k, .slice none 0 0]).run P w = (Builtin.append_ #[t, t] ty #[.slice b n k, .slice (some ⟨0, 0, none⟩) 0 0]).run P w := by
  simp [Builtin.append_, run_underlying ht, sizeOf, typeInfo, hi, Builtin.lenOf, Builtin.firstCells, loadCells, loadCellsFrom, hnk]
theorem step_app {P : Program} {ops : Array Oper} {o : Oper} {a : Act} {w : World} {K : Act → World → Prop} {Q : Exit → Act → World → Prop} {E : Prop} (hgd : o.guard = none) (s x : Operand) (t : TypeId)
    (ho : o.op = .call { callee := .builtin .append, args := #[s, x], argTypes := #[t, t] })
    (base : Nat) (e : TypeId) (i : TypeInfo) (z : Value) (size bytes : Nat) (ht : P.underlying t = some (.slice e)) (hi : P.info? e = some i) (hz : i.zero = some z)
    (hsize : i.size = size) (hby : i.bytes = bytes) (hzs : z.cells.size = size) (hsz : 0 < size)
    (v : Value) (n : Nat) (xs : List Value) (hs : a.eval s = v) (hown : w.ownsRow base e size v n xs)
    (A : Option Addr) (m c : Nat) (news : List Value) (hx : a.eval x = .slice A m c) (hl : news.length = m * size) (hA : A = none → m = 0 ∧ c = 0) (hnews : ∀ ad, A = some ad → ∀ j u, news[j]? = some u → w.cell? (ad.add j) = some u) (h1 : ∀ u ∈ news, u.oneCell' = true)
    (h63 : n + m ≤ maxLen) (hbytes : (n + m) * bytes ≤ 140737488355328) (hbase : base ≤ w.heap.size)
    (h : ∀ v' w', w'.ownsRow base e size v' (n + m) (xs ++ news) → w.grownBy w' v.ownBlock → K (a.put o.dst v') w') :
    if Region.wanted o (yielded ops a.tmps) = true then Oper.wp P o a w K Q else E := by
  have hw : Region.wanted o (yielded ops a.tmps) = true := by simp [Region.wanted, hgd]
  rw [if_pos hw]
  cases A with
  | some ad =>
    obtain ⟨v', w', hr, h2, h3, h4, h5⟩ := run_append_own_at (P := P) w base t o.type e i z size bytes ht hi hz hsize hby hzs hsz v n xs hown ad m c news hl (hnews ad rfl) h1 h63 hbytes hbase
    unfold Oper.wp execOp
    simp only [ho, resolve, invoke, builtin, Sem.run_bind, Sem.run_pure, Result.andThen_ok, List.map_toArray, List.map_cons, List.map_nil, hs, hx, hr]
    exact h v' w' h2 h3
  | none =>
    obtain ⟨rfl, rfl⟩ := hA rfl
    have hn : news = [] := List.eq_nil_of_length_eq_zero (by simpa using hl)
    subst hn
    obtain ⟨v', w', hr, h2, h3, h4, h5⟩ := run_append_own_at (P := P) w base t o.type e i z size bytes ht hi hz hsize hby hzs hsz v n xs hown ⟨0, 0, none⟩ 0 0 [] hl (by simp) h1 h63 hbytes hbase
    have hv : ∃ b n' k, v = .slice b n' k ∧ n' ≤ k := by
      obtain ⟨-, ⟨e, -⟩ | ⟨g, cap, cur, e, -, -, hnc, -⟩⟩ := hown
      · exact ⟨_, _, _, e, Nat.le_refl _⟩
      · exact ⟨_, _, _, e, hnc⟩
    obtain ⟨b, n', k, rfl, hnk⟩ := hv
    have hr2 := (app_nil (w := w) (ty := o.type) ht hi b n' k hnk).trans hr
    unfold Oper.wp execOp
    simp only [ho, resolve, invoke, builtin, Sem.run_bind, Sem.run_pure, Result.andThen_ok, List.map_toArray, List.map_cons, List.map_nil, hs, hx, hr2]
    exact h v' w' h2 h3
def cellsL (l : Lpm.LL) : List Value := l.flatMap fun s => [.int .i64 s.1, .int .i64 s.2]
theorem cellsL_app (a b : Lpm.LL) : cellsL (a ++ b) = cellsL a ++ cellsL b := by simp [cellsL]
theorem cellsL_len (l : Lpm.LL) : (cellsL l).length = l.length * 2 := by
  induction l with
  | nil => rfl
  | cons x r ih =>
    have e2 : cellsL (x :: r) = [.int .i64 x.1, .int .i64 x.2] ++ cellsL r := rfl
    rw [e2, List.length_append, ih, List.length_cons]
    simp only [List.length_cons, List.length_nil]; omega
theorem cellsL_one (l : Lpm.LL) : ∀ u ∈ cellsL l, u.oneCell' = true := by
  intro u hu
  simp only [cellsL, List.mem_flatMap] at hu
  obtain ⟨x, -, hx⟩ := hu
  simp only [List.mem_cons, List.not_mem_nil, or_false] at hx
  rcases hx with rfl | rfl <;> rfl
theorem cellsL_at (l : Lpm.LL) (j : Nat) (h : j < l.length) : (cellsL l)[j * 2]? = some (.int .i64 (l[j]?.getD (0, 0)).1) ∧ (cellsL l)[j * 2 + 1]? = some (.int .i64 (l[j]?.getD (0, 0)).2) := by
  induction l generalizing j with
  | nil => simp at h
  | cons x r ih =>
    cases j with
    | zero => simp [cellsL]
    | succ k =>
      have := ih k (by simpa using h)
      have e2 : cellsL (x :: r) = [.int .i64 x.1, .int .i64 x.2] ++ cellsL r := rfl
      rw [e2, show (k + 1) * 2 = k * 2 + 2 by omega]
      simpa [List.getElem?_append_right] using this
abbrev tLp : TypeId := 35
theorem infoLp : (Try.prog.info? tLp).map (fun i => (i.zero, i.size, i.bytes)) = some (some (.agg #[.int .i64 0, .int .i64 0]), 2, 16) := by kernel_rfl
theorem lp_own {B : Nat} {W : World} {v : Value} {l : Lpm.LL} {m : Nat} (h : W.ownsRow B tLp 2 v m (cellsL l)) (hm : l.length = m) : ∃ A c, v = .slice A m c ∧ Lp W.heap.size W A m l := by
  subst hm
  obtain ⟨h0, ⟨rfl, hz⟩ | ⟨g, cap, cur, rfl, hB, hg, hnc, hcm, hcs, ht⟩⟩ := h
  · have : l = [] := List.eq_nil_of_length_eq_zero hz
    subst this
    exact ⟨none, 0, rfl, ⟨rfl, fun h => absurd h (by simp)⟩⟩
  · refine ⟨_, _, rfl, ⟨rfl, fun hn => ⟨g, 0, rfl, lt_of_heap hg, fun j hj => ?_⟩⟩⟩
    obtain ⟨a, b⟩ := cellsL_at l j hj
    have hc : ∀ i u, (cellsL l)[i]? = some u → W.cell? ⟨g, i, none⟩ = some u := fun i u hu => by
      rw [← ht] at hu
      have hi : cur.toList[i]? = some u := by
        rw [List.getElem?_take] at hu; split at hu
        · exact hu
        · cases hu
      have : cur[i]? = some u := by simpa using hi
      simp [World.cell?, hg, this]
    simp only [Nat.zero_add]
    exact ⟨hc _ _ a, hc _ _ b⟩
theorem lp_news {B : Nat} {W : World} {A : Option Addr} {n : Nat} {l : Lpm.LL} (h : Lp B W A n l) : ∀ ad, A = some ad → ∀ j u, (cellsL l)[j]? = some u → W.cell? (ad.add j) = some u := by
  intro ad hA j u hu
  by_cases hj : j < l.length * 2
  · obtain ⟨b', off', e, -, hc⟩ := h.2 (by have := h.1; omega)
    rw [hA] at e
    cases e
    have ha := cellsL_at l (j / 2) (by omega)
    have hd := hc (j / 2) (by have := h.1; omega)
    have hadd : (⟨b', off', none⟩ : Addr).add j = ⟨b', off' + j, none⟩ := by unfold Addr.add; split <;> simp_all
    rw [hadd]
    rcases (show j = j / 2 * 2 ∨ j = j / 2 * 2 + 1 by omega) with e | e
    · rw [e] at hu ⊢
      have h3 : j / 2 * 2 / 2 * 2 = j / 2 * 2 := by omega
      rw [ha.1] at hu
      cases hu
      exact hd.1
    · rw [e] at hu ⊢
      rw [ha.2] at hu
      cases hu
      rw [← Nat.add_assoc]
      exact hd.2
  · rw [List.getElem?_eq_none (by rw [cellsL_len]; omega)] at hu
    cases hu
end Go.Proofs.Ytdmjciklobokbaa
