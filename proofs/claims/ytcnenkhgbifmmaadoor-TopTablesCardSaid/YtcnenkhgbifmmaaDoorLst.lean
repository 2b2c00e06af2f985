/- Lists of integers and of pairs in memory: rows that the call made, slices that hold them, append. -/
import Derived.Test.YtcnenkhgbifmmaaDoorComm
import Derived.Deep.AppendLies
import Derived.Maps.AppendAt
set_option linter.unusedVariables false
namespace Go.Proofs.YtcnenkhgbifmmaaDoor
open Go.RowKit
abbrev tI : TypeId := 3
theorem own_below {B : Nat} {W W' : World} {t : TypeId} {sz : Nat} {v : Value} {n : Nat} {xs : List Value} (h : W.ownsRow B t sz v n xs) (hb : Below W.heap.size W W') : W'.ownsRow B t sz v n xs := by
  obtain ⟨h0, h1 | ⟨g, cap, cur, e, hB, hg, r⟩⟩ := h
  · exact ⟨h0, .inl h1⟩
  · exact ⟨h0, .inr ⟨g, cap, cur, e, hB, keep' hg hb, r⟩⟩
theorem own_base {B B' : Nat} {W : World} {t : TypeId} {sz : Nat} {v : Value} {n : Nat} {xs : List Value} (h : W.ownsRow B t sz v n xs) (hb : B' ≤ B) : W.ownsRow B' t sz v n xs := by
  obtain ⟨h0, h1 | ⟨g, cap, cur, e, hB, hg, r⟩⟩ := h
  · exact ⟨h0, .inl h1⟩
  · exact ⟨h0, .inr ⟨g, cap, cur, e, Nat.le_trans hb hB, hg, r⟩⟩

/-! integers -/
def Li (B : Nat) (W : World) (A : Option Addr) (n : Nat) (l : List Int) : Prop :=
  l.length = n ∧ (0 < n → ∃ b off, A = some ⟨b, off, none⟩ ∧ b < B ∧ ∀ j, j < n → W.cell? ⟨b, off + j, none⟩ = some (.int .i64 (l[j]?.getD 0)))
theorem Li.below {B : Nat} {W W' : World} {A : Option Addr} {n : Nat} {l : List Int} (h : Li B W A n l) (hb : Below B W W') : Li B W' A n l :=
  ⟨h.1, fun hn => by obtain ⟨b, off, e, hB, hc⟩ := h.2 hn; exact ⟨b, off, e, hB, fun j hj => (hb.cell (p := ⟨b, off + j, none⟩) hB).trans (hc j hj)⟩⟩
theorem Li.mono {B B' : Nat} {W : World} {A : Option Addr} {n : Nat} {l : List Int} (h : Li B W A n l) (hB : B ≤ B') : Li B' W A n l :=
  ⟨h.1, fun hn => by obtain ⟨b, off, e, hb, hc⟩ := h.2 hn; exact ⟨b, off, e, by omega, hc⟩⟩
/-- carried to a later world -/
theorem Li.go {W W' : World} {A : Option Addr} {n : Nat} {l : List Int} (h : Li W.heap.size W A n l) (hb : Below W.heap.size W W') : Li W'.heap.size W' A n l := (h.below hb).mono hb.size
theorem Li.take {B : Nat} {W : World} {A : Option Addr} {n : Nat} {l : List Int} (h : Li B W A n l) {k : Nat} (hk : k ≤ n) : Li B W A k (l.take k) :=
  ⟨by rw [List.length_take, h.1]; omega, fun hn => by
    obtain ⟨b, off, e, hb, hc⟩ := h.2 (by omega)
    refine ⟨b, off, e, hb, fun j hj => ?_⟩
    have : (l.take k)[j]? = l[j]? := by rw [List.getElem?_take, if_pos hj]
    rw [this]; exact hc j (by omega)⟩
theorem li_nil (B : Nat) (W : World) (A : Option Addr) : Li B W A 0 [] := ⟨rfl, fun h => absurd h (by omega)⟩
def cellsI (l : List Int) : List Value := l.map (Value.int .i64)
theorem cellsI_app (a b : List Int) : cellsI (a ++ b) = cellsI a ++ cellsI b := by simp [cellsI]
theorem cellsI_len (l : List Int) : (cellsI l).length = l.length := by simp [cellsI]
theorem cellsI_one (l : List Int) : ∀ u ∈ cellsI l, u.oneCell' = true := by
  intro u hu
  simp only [cellsI, List.mem_map] at hu
  obtain ⟨x, -, rfl⟩ := hu
  rfl
theorem cellsI_at (l : List Int) (j : Nat) (h : j < l.length) : (cellsI l)[j]? = some (.int .i64 (l[j]?.getD 0)) := by simp [cellsI, h]
theorem infoI : (Tryd.prog.info? tI).map (fun i => (i.zero, i.size, i.bytes)) = some (some (.int .i64 0), 1, 8) := by kernel_rfl
theorem row_cell {B : Nat} {W : World} {g : Nat} {cur : Array Value} {t : TypeId} {fr : Nat × Nat} {xs : List Value} {n : Nat} (hg : W.heap[g]? = some (.cells cur t fr)) (ht : cur.toList.take n = xs) : ∀ i u, xs[i]? = some u → W.cell? ⟨g, i, none⟩ = some u := fun i u hu => by
  rw [← ht] at hu
  have hi : cur.toList[i]? = some u := by
    rw [List.getElem?_take] at hu; split at hu
    · exact hu
    · cases hu
  have : cur[i]? = some u := by simpa using hi
  simp [World.cell?, hg, this]
theorem own_li {B : Nat} {W : World} {v : Value} {l : List Int} {m : Nat} (h : W.ownsRow B tI 1 v m (cellsI l)) (hm : l.length = m) : ∃ A c, v = .slice A m c ∧ m ≤ c ∧ (A = none → c = 0) ∧ Li W.heap.size W A m l := by
  subst hm
  obtain ⟨h0, ⟨rfl, hz⟩ | ⟨g, cap, cur, rfl, hB, hg, hnc, hcm, hcs, ht⟩⟩ := h
  · have : l = [] := List.eq_nil_of_length_eq_zero hz
    subst this
    exact ⟨none, 0, rfl, Nat.le_refl _, fun _ => rfl, ⟨rfl, fun h => absurd h (by simp)⟩⟩
  · refine ⟨_, _, rfl, hnc, (fun h => by cases h), ⟨rfl, fun hn => ⟨g, 0, rfl, lt_of_heap hg, fun j hj => ?_⟩⟩⟩
    rw [Nat.zero_add]
    exact row_cell (B := B) hg ht _ _ (cellsI_at l j hj)
theorem li_news {B : Nat} {W : World} {A : Option Addr} {n : Nat} {l : List Int} (h : Li B W A n l) : ∀ ad, A = some ad → ∀ j u, (cellsI l)[j]? = some u → W.cell? (ad.add j) = some u := by
  intro ad hA j u hu
  by_cases hj : j < l.length
  · obtain ⟨b', off', e, -, hc⟩ := h.2 (by have := h.1; omega)
    rw [hA] at e
    cases e
    have hadd : (⟨b', off', none⟩ : Addr).add j = ⟨b', off' + j, none⟩ := by unfold Addr.add; split <;> simp_all
    rw [hadd, hc j (by have := h.1; omega), ← cellsI_at l j hj, hu]
  · rw [List.getElem?_eq_none (by rw [cellsI_len]; omega)] at hu
    cases hu

/-! pairs (the tables of leap seconds, and other lists of two integers) -/
theorem Lp.go {W W' : World} {A : Option Addr} {n : Nat} {l : Lpm.LL} (h : Lp W.heap.size W A n l) (hb : Below W.heap.size W W') : Lp W'.heap.size W' A n l := (h.below hb).mono hb.size
theorem lp_nil (B : Nat) (W : World) (A : Option Addr) : Lp B W A 0 [] := ⟨rfl, fun h => absurd h (by omega)⟩
def cellsL (l : Lpm.LL) : List Value := l.flatMap fun s => [.int .i64 s.1, .int .i64 s.2]
theorem cellsL_app (a b : Lpm.LL) : cellsL (a ++ b) = cellsL a ++ cellsL b := by simp [cellsL]
theorem cellsL_len (l : Lpm.LL) : (cellsL l).length = l.length * 2 := by
  induction l with
  | nil => rfl
  | cons x r ih =>
    have e2 : cellsL (x :: r) = [.int .i64 x.1, .int .i64 x.2] ++ cellsL r := rfl
    rw [e2, List.length_append, ih, List.length_cons]
    simp only [List.length_cons, List.length_nil]; omega
theorem cellsL_one (l : Lpm.LL) : ∀ u ∈ cellsL l, u.oneCell' = true := by
  intro u hu
  simp only [cellsL, List.mem_flatMap] at hu
  obtain ⟨x, -, hx⟩ := hu
  simp only [List.mem_cons, List.not_mem_nil, or_false] at hx
  rcases hx with rfl | rfl <;> rfl
theorem cellsL_at (l : Lpm.LL) (j : Nat) (h : j < l.length) : (cellsL l)[j * 2]? = some (.int .i64 (l[j]?.getD (0, 0)).1) ∧ (cellsL l)[j * 2 + 1]? = some (.int .i64 (l[j]?.getD (0, 0)).2) := by
  induction l generalizing j with
  | nil => simp at h
  | cons x r ih =>
    cases j with
    | zero => simp [cellsL]
    | succ k =>
      have := ih k (by simpa using h)
      have e2 : cellsL (x :: r) = [.int .i64 x.1, .int .i64 x.2] ++ cellsL r := rfl
      rw [e2, show (k + 1) * 2 = k * 2 + 2 by omega]
      simpa [List.getElem?_append_right] using this
theorem own_lp {B : Nat} {W : World} {t : TypeId} {v : Value} {l : Lpm.LL} {m : Nat} (h : W.ownsRow B t 2 v m (cellsL l)) (hm : l.length = m) : ∃ A c, v = .slice A m c ∧ m ≤ c ∧ (A = none → c = 0) ∧ Lp W.heap.size W A m l := by
  subst hm
  obtain ⟨h0, ⟨rfl, hz⟩ | ⟨g, cap, cur, rfl, hB, hg, hnc, hcm, hcs, ht⟩⟩ := h
  · have : l = [] := List.eq_nil_of_length_eq_zero hz
    subst this
    exact ⟨none, 0, rfl, Nat.le_refl _, fun _ => rfl, ⟨rfl, fun h => absurd h (by simp)⟩⟩
  · refine ⟨_, _, rfl, hnc, (fun h => by cases h), ⟨rfl, fun hn => ⟨g, 0, rfl, lt_of_heap hg, fun j hj => ?_⟩⟩⟩
    obtain ⟨a, b⟩ := cellsL_at l j hj
    simp only [Nat.zero_add]
    exact ⟨row_cell (B := B) hg ht _ _ a, row_cell (B := B) hg ht _ _ b⟩
theorem lp_news {B : Nat} {W : World} {A : Option Addr} {n : Nat} {l : Lpm.LL} (h : Lp B W A n l) : ∀ ad, A = some ad → ∀ j u, (cellsL l)[j]? = some u → W.cell? (ad.add j) = some u := by
  intro ad hA j u hu
  by_cases hj : j < l.length * 2
  · obtain ⟨b', off', e, -, hc⟩ := h.2 (by have := h.1; omega)
    rw [hA] at e
    cases e
    have ha := cellsL_at l (j / 2) (by omega)
    have hd := hc (j / 2) (by have := h.1; omega)
    have hadd : (⟨b', off', none⟩ : Addr).add j = ⟨b', off' + j, none⟩ := by unfold Addr.add; split <;> simp_all
    rw [hadd]
    rcases (show j = j / 2 * 2 ∨ j = j / 2 * 2 + 1 by omega) with e | e
    · rw [e] at hu ⊢
      have h3 : j / 2 * 2 / 2 * 2 = j / 2 * 2 := by omega
      rw [ha.1] at hu
      cases hu
      exact hd.1
    · rw [e] at hu ⊢
      rw [ha.2] at hu
      cases hu
      rw [← Nat.add_assoc]
      exact hd.2
  · rw [List.getElem?_eq_none (by rw [cellsL_len]; omega)] at hu
    cases hu
/-! append, as one step of a region that draws; an empty source too -/
theorem app_nil {P : Program} {w : World} {t ty e : TypeId} {i : TypeInfo} (ht : P.underlying t = some (.slice e)) (hi : P.info? e = some i) (b : Option Addr) (n k : Nat) (hnk : n ≤ k) : (Builtin.append_ #[t, t] ty #[.slice b n k, .slice none 0 0]).run P w = (Builtin.append_ #[t, t] ty #[.slice b n k, .slice (some ⟨0, 0, none⟩) 0 0]).run P w := by
  simp [Builtin.append_, run_underlying ht, sizeOf, typeInfo, hi, Builtin.lenOf, Builtin.firstCells, loadCells, loadCellsFrom, hnk]
/-- the run of append onto a row of the call's own, whatever the source -/
theorem app_run {P : Program} {w : World} (base : Nat) (t ty e : TypeId) (i : TypeInfo) (z : Value) (size bytes : Nat) (ht : P.underlying t = some (.slice e)) (hi : P.info? e = some i) (hz : i.zero = some z)
    (hsize : i.size = size) (hby : i.bytes = bytes) (hzs : z.cells.size = size) (hsz : 0 < size)
    (v : Value) (n : Nat) (xs : List Value) (hown : w.ownsRow base e size v n xs)
    (A : Option Addr) (m c : Nat) (news : List Value) (hl : news.length = m * size) (hA : A = none → m = 0 ∧ c = 0) (hnews : ∀ ad, A = some ad → ∀ j u, news[j]? = some u → w.cell? (ad.add j) = some u) (h1 : ∀ u ∈ news, u.oneCell' = true)
    (h63 : n + m ≤ maxLen) (hbytes : (n + m) * bytes ≤ 140737488355328) (hbase : base ≤ w.heap.size) :
    ∃ v' w', (Builtin.append_ #[t, t] ty #[v, .slice A m c]).run P w = .ok v' w' ∧ w'.ownsRow base e size v' (n + m) (xs ++ news) ∧ w.grownBy w' v.ownBlock := by
  cases A with
  | some ad =>
    obtain ⟨v', w', hr, h2, h3, h4, h5⟩ := run_append_own_at (P := P) w base t ty e i z size bytes ht hi hz hsize hby hzs hsz v n xs hown ad m c news hl (hnews ad rfl) h1 h63 hbytes hbase
    exact ⟨v', w', hr, h2, h3⟩
  | none =>
    obtain ⟨rfl, rfl⟩ := hA rfl
    have hn : news = [] := List.eq_nil_of_length_eq_zero (by simpa using hl)
    subst hn
    obtain ⟨v', w', hr, h2, h3, h4, h5⟩ := run_append_own_at (P := P) w base t ty e i z size bytes ht hi hz hsize hby hzs hsz v n xs hown ⟨0, 0, none⟩ 0 0 [] hl (by simp) h1 h63 hbytes hbase
    have hv : ∃ b n' k, v = .slice b n' k ∧ n' ≤ k := by
      obtain ⟨-, ⟨e, -⟩ | ⟨g, cap, cur, e, -, -, hnc, -⟩⟩ := hown
      · exact ⟨_, _, _, e, Nat.le_refl _⟩
      · exact ⟨_, _, _, e, hnc⟩
    obtain ⟨b, n', k, rfl, hnk⟩ := hv
    exact ⟨v', w', (app_nil (w := w) (ty := ty) ht hi b n' k hnk).trans hr, h2, h3⟩
end Go.Proofs.YtcnenkhgbifmmaaDoor
