/- Contracts of lease.Serves, of keep, Drop and Free, and of slices.Clone over leases. -/
import Derived.Test.YtfaceopjblpkeaaLeC
import Derived.Maps.AppendAt
import Derived.Deep.AppendLies
set_option linter.unusedVariables false
namespace Go.Proofs.Ytfaceopjblpkeaa
open Go.RowKit
theorem ret_be {a a' : Bool} {b b' : Int} (h1 : a = a') (h2 : b = b') : Ending.returned (.tuple #[.bool a, .int .i64 b]) = .returned (.tuple #[.bool a', .int .i64 b']) := by rw [h1, h2]
/-- what the walk is told of leases that came in -/
structure Lin (W : World) (A : Option Addr) (n c : Nat) (l : List Lem.T3) : Prop where
  ls : Ls W.heap.size W A n l
  nc : n ≤ c
  cap : c ≤ 9223372036854775807
  nil : A = none → c = 0
theorem Lin.below {W W' : World} {A : Option Addr} {n c : Nat} {l : List Lem.T3} (h : Lin W A n c l) (hb : Below W.heap.size W W') : Lin W' A n c l := ⟨(h.ls.below hb).mono hb.size, h.nc, h.cap, h.nil⟩
theorem Lin.alloc {W : World} {A : Option Addr} {n c : Nat} {l : List Lem.T3} (h : Lin W A n c l) (o : Obj) : Lin (W.alloc o) A n c l := h.below ((Below.refl _ _).alloc (Nat.le_refl _) _)
theorem seB_ways {l : List Lem.T3} {h lo hi : Int} (e : Lem.seB l h lo hi = false) : Lem.valid l = false ∨ Lem.valid l = true ∧ Lem.hB h = false ∨ Lem.valid l = true ∧ Lem.hB h = true ∧ Lem.iV lo hi = false := by
  unfold Lem.seB at e
  cases h1 : Lem.valid l
  · exact .inl rfl
  cases h2 : Lem.hB h
  · exact .inr (.inl ⟨rfl, rfl⟩)
  rw [h1, h2] at e
  exact .inr (.inr ⟨rfl, rfl, by simpa using e⟩)
theorem two_box (w : World) (o p : Obj) : Below w.heap.size w ((w.alloc o).alloc p) := ((Below.refl _ _).alloc (Nat.le_refl _) _).alloc (by simp) _
set_option maxHeartbeats 2000000 in
set_option maxRecDepth 100000 in
theorem Serves_any (A : Option Addr) (n c : Nat) (l : List Lem.T3) (h lo hi : Int) (w : World) (hl : Lin w A n c l) (hn : n ≤ 70) :
    Calls Try.prog 16 #[.slice A n c, .int .i64 h, I2 lo hi] w (RetB (.tuple #[.bool (Lem.seV l h lo hi), .int .i64 (Lem.seE l h lo hi)]) w) := by
  have HL := Lib.hid ((hl.alloc (oN h)).alloc (oI lo hi))
  have hb0 := two_box w (oN h) (oI lo hi)
  have k0 := Lib.hid (new0 w (oN h) (oI lo hi))
  have k1 := Lib.hid (new1 w (oN h) (oI lo hi))
  clear hl
  have hE : Hid (Lem.seE l h lo hi = if Lem.seB l h lo hi then 0 else 1) := Lib.hid rfl
  have hV : Hid (Lem.seV l h lo hi = (Lem.seB l h lo hi && l.any (Lem.lets h lo hi))) := Lib.hid rfl
  have hval := Lib.hid (Valid_any A n c l _ HL.out.ls hn HL.out.nc HL.out.cap)
  cases hB : Lem.seB l h lo hi
  · rw [hB] at hE hV
    rcases seB_ways hB with h1 | ⟨h1, h2⟩ | ⟨h1, h2, h3⟩
    all_goals rw [h1] at hval
    all_goals clear hB h1
    all_goals
      go_enter Try.func16, Try.ntmps16
      go_wp2_with (first | (go_at_call 13; refine hval.out.mono ?_; rintro e w1 ⟨rfl, hb1⟩; obtain ⟨c0, -⟩ := blk1A (keep' k0.out hb1); obtain ⟨⟨d0, d1⟩, -⟩ := blk2 (keep' k1.out hb1); have hb := Below.go hb0 hb1) | (go_at_call 25; refine (holder_any _ _).mono ?_; rintro e w' ⟨rfl, rfl⟩) | (go_at_call 26; refine (iValid_any _ _ _).mono ?_; rintro e w2 ⟨rfl, hb2⟩; have hb := Below.go hb hb2))
      go_ret2
      exact ⟨ret_be (by rw [hV.out]; rfl) (by rw [hE.out]; rfl), hb⟩
  · rw [hB] at hE hV
    have hB2 := hB
    unfold Lem.seB at hB2
    simp only [Bool.and_eq_true] at hB2
    obtain ⟨⟨h1, h2⟩, h3⟩ := hB2
    rw [h1] at hval
    clear hB h1
    have hcon : Hid (∀ W, Below ((w.alloc (oN h)).alloc (oI lo hi)).heap.size ((w.alloc (oN h)).alloc (oI lo hi)) W → Calls Try.prog 29 #[.slice A n c, .func (Fn.func 34) #[] #[ptr w.heap.size, ptr (w.heap.size + 1)]] W (RetB (.bool (l.any (Lem.lets h lo hi))) W)) :=
      Lib.hid (fun W hW => contains_S _ _ _ A n c l W (HL.out.below hW).ls hn (fun x w' hb' => clS x _ _ h lo hi w' (keep' (keep' k0.out hW) hb') (keep' (keep' k1.out hW) hb')))
    go_enter Try.func16, Try.ntmps16
    go_wp2_with (first | (go_at_call 13; refine hval.out.mono ?_; rintro e w1 ⟨rfl, hb1⟩; obtain ⟨c0, -⟩ := blk1A (keep' k0.out hb1); obtain ⟨⟨d0, d1⟩, -⟩ := blk2 (keep' k1.out hb1)) | (go_at_call 25; refine (holder_any _ _).mono ?_; rintro e w' ⟨rfl, rfl⟩) | (go_at_call 26; refine (iValid_any _ _ _).mono ?_; rintro e w2 ⟨rfl, hb2⟩; have hb3 := Below.go hb1 hb2) | (go_at_call 29; refine (hcon.out _ hb3).mono ?_; rintro e w3 ⟨rfl, hb4⟩; have hb := Below.go hb0 (Below.go hb3 hb4)))
    go_ret2
    exact ⟨ret_be (by rw [hV.out]; rfl) (by rw [hE.out]; rfl), hb⟩
/-! rows of leases that the call makes -/
def cells3 (l : List Lem.T3) : List Value := l.flatMap fun x => [.int .i64 x.1, .int .i64 x.2.1, .int .i64 x.2.2]
theorem cells3_len (l : List Lem.T3) : (cells3 l).length = l.length * 3 := by
  induction l with
  | nil => rfl
  | cons x r ih => simp [cells3] at *; omega
theorem cells3_app (a b : List Lem.T3) : cells3 (a ++ b) = cells3 a ++ cells3 b := by simp [cells3]
theorem cells3_at (l : List Lem.T3) (j : Nat) (h : j < l.length) : (cells3 l)[j * 3]? = some (.int .i64 (Lem.at' l j).1) ∧ (cells3 l)[j * 3 + 1]? = some (.int .i64 (Lem.at' l j).2.1) ∧ (cells3 l)[j * 3 + 2]? = some (.int .i64 (Lem.at' l j).2.2) := by
  induction l generalizing j with
  | nil => simp at h
  | cons x r ih =>
    cases j with
    | zero => simp [cells3, Lem.at']
    | succ k =>
      have := ih k (by simpa using h)
      have e : Lem.at' (x :: r) (k + 1) = Lem.at' r k := by simp [Lem.at']
      rw [e]
      have e2 : cells3 (x :: r) = [.int .i64 x.1, .int .i64 x.2.1, .int .i64 x.2.2] ++ cells3 r := rfl
      rw [e2, show (k + 1) * 3 = k * 3 + 3 by omega]
      simpa [List.getElem?_append_right] using this
abbrev tL : TypeId := 42
/-- the value v holds the leases l, in a row that the call made -/
def Own (B : Nat) (W : World) (v : Value) (l : List Lem.T3) : Prop := W.ownsRow B tL 3 v l.length (cells3 l)
theorem own_below {B : Nat} {W W' : World} {v : Value} {n : Nat} {xs : List Value} (h : W.ownsRow B tL 3 v n xs) (hb : Below W.heap.size W W') : W'.ownsRow B tL 3 v n xs := by
  obtain ⟨h0, h1 | ⟨g, cap, cur, e, hB, hg, r⟩⟩ := h
  · exact ⟨h0, .inl h1⟩
  · exact ⟨h0, .inr ⟨g, cap, cur, e, hB, keep' hg hb, r⟩⟩
theorem Own.lin {B : Nat} {W : World} {v : Value} {l : List Lem.T3} (h : Own B W v l) : ∃ A n c, v = .slice A n c ∧ n = l.length ∧ Lin W A n c l := by
  obtain ⟨h0, ⟨rfl, hz⟩ | ⟨g, cap, cur, rfl, hB, hg, hnc, hcm, hcs, ht⟩⟩ := h
  · have : l = [] := List.eq_nil_of_length_eq_zero hz
    subst this
    exact ⟨none, 0, 0, rfl, rfl, ⟨⟨rfl, fun h => absurd h (by omega)⟩, by omega, by omega, fun _ => rfl⟩⟩
  · refine ⟨_, _, _, rfl, rfl, ⟨⟨rfl, fun hn => ⟨g, 0, rfl, lt_of_heap hg, fun j hj => ?_⟩⟩, hnc, by unfold maxLen at hcm; omega, fun h => by cases h⟩⟩
    obtain ⟨a, b, c⟩ := cells3_at l j hj
    have hc : ∀ i u, (cells3 l)[i]? = some u → W.cell? ⟨g, i, none⟩ = some u := fun i u hu => by
      rw [← ht] at hu
      have hi : cur.toList[i]? = some u := by
        rw [List.getElem?_take] at hu; split at hu
        · exact hu
        · cases hu
      have : cur[i]? = some u := by simpa using hi
      simp [World.cell?, hg, this]
    simp only [Nat.zero_add]
    exact ⟨hc _ _ a, hc _ _ b, hc _ _ c⟩
/-- it returns a list of leases in a row of its own -/
def OwnPost (l : List Lem.T3) (w : World) (e : Ending) (w' : World) : Prop := ∃ v, e = .returned v ∧ Own w.heap.size w' v l ∧ Below w.heap.size w w'
theorem infoLease : (Try.prog.info? tL).map (fun i => (i.zero, i.size, i.bytes)) = some (some (.agg #[.int .i64 0, .int .i64 0, .int .i64 0]), 3, 24) := by kernel_rfl
theorem own_snoc {B : Nat} {W : World} {v : Value} {l : List Lem.T3} {x : Lem.T3} (h : W.ownsRow B tL 3 v (l.length + 1) (cells3 l ++ [.int .i64 x.1, .int .i64 x.2.1, .int .i64 x.2.2])) : Own B W v (l ++ [x]) := by
  unfold Own; rw [cells3_app, List.length_append]; exact h
set_option maxHeartbeats 2000000 in
theorem keep_any (p1 : Value) (p : Lem.T3 → Bool) (A : Option Addr) (n c : Nat) (l : List Lem.T3) (w : World) (hl : Ls w.heap.size w A n l) (hn : n ≤ 70)
    (hf : ∀ x w', x ∈ l → Below w.heap.size w w' → Calls Try.prog 36 #[L3 x, p1] w' (RetB (.bool (p x)) w')) :
    Calls Try.prog 35 #[.slice A n c, .func (Fn.func 36) #[] #[p1]] w (OwnPost (l.filter p) w) := by
  obtain ⟨hlen, hcell⟩ := hl
  have Hlen := Lib.hid hlen
  have Hf := Lib.hid hf
  obtain ⟨i0, hi, hz0, hz1, hz2⟩ := info_parts infoLease
  clear hlen hf
  go_enter Try.func35, Try.ntmps35
  go_wp2
  go_loopw [10, 5] (fun i v wr => ∃ k : Nat, k ≤ n ∧ i = .int .i64 k ∧ Own w.heap.size wr v ((l.take k).filter p) ∧ Below w.heap.size w wr) (fun i _ _ => n - (intOf i).toNat)
  case atStart => exact ⟨0, Nat.zero_le _, rfl, World.ownsRow_nil _ _ _ _, Below.refl _ _⟩
  case round =>
    obtain ⟨k, hk, rfl, hown, hb⟩ := hrel
    by_cases hlt : k < n
    · obtain ⟨b, off, rfl, hbB, hc⟩ := hcell (by omega)
      obtain ⟨c0, c1, c2⟩ := hc k hlt
      have c0 := (hb.cell (p := ⟨b, off + k * 3, none⟩) hbB).trans c0
      have c1 := (hb.cell (p := ⟨b, off + k * 3 + 1, none⟩) hbB).trans c1
      have c2 := (hb.cell (p := ⟨b, off + k * 3 + 2, none⟩) hbB).trans c2
      have hs := Lib.hid (Lem.filter_snoc p Hlen.out hlt)
      have hmem : Hid (Lem.at' l k ∈ l) := Lib.hid (by unfold Lem.at'; rw [List.getElem?_eq_getElem (by rw [Hlen.out]; exact hlt)]; exact List.getElem_mem _)
      have hfl : ((l.take k).filter p).length ≤ 70 := by
        have := List.length_filter_le p (l.take k); have := List.length_take_le k l; omega
      clear hc hcell
      generalize Lem.at' l k = x at *
      generalize (l.take k).filter p = F at *
      cases hp : p x
      · have hs2 : Hid ((l.take (k + 1)).filter p = F) := Lib.hid (hs.out.trans (by rw [hp]; simp))
        go_wp2_with fail
        refine (Hf.out x _ hmem.out (hb.alloc hb.size _)).mono ?_
        rintro e w1 ⟨rfl, hb1⟩
        have hb2 := Below.goA hb hb1
        have ho2 := own_below (hown.alloc (oL x)) hb1
        clear hb1
        go_wp2
        go_roundw
        case rel => exact ⟨k + 1, by omega, by go_num, by rw [hs2.out]; exact ho2, hb2⟩
        case measure => simp [intOf]; omega
      · have hs2 : Hid ((l.take (k + 1)).filter p = F ++ [x]) := Lib.hid (hs.out.trans (by rw [hp, if_pos rfl]))
        go_wp2_with fail
        refine (Hf.out x _ hmem.out (hb.alloc hb.size _)).mono ?_
        rintro e w1 ⟨rfl, hb1⟩
        have hb2 := Below.goA hb hb1
        have ho2 := own_below (hown.alloc (oL x)) hb1
        obtain ⟨⟨e0, e1, e2⟩, -⟩ := blk3 (keep' (heap_new wr _) hb1)
        clear hb1 hown
        have hsz := hb2.size
        go_wp2_with (at_builtin; refine wpList_append_own_at _ rfl _ _ 22 rfl w.heap.size tL i0 (.agg #[.int .i64 0, .int .i64 0, .int .i64 0]) 3 24 Try.underlying22 hi hz0 hz1 hz2 rfl (by decide) _ _ _ rfl (ho2.alloc _) ⟨w1.heap.size, 0, none⟩ 1 1 [.int .i64 x.1, .int .i64 x.2.1, .int .i64 x.2.2] rfl rfl (World.news_of_block (heap_new w1 _)) (by simp [Value.oneCell']) (by unfold maxLen; omega) (by omega) (by simp; omega) ?_; intro v' w2 hown' hgrow _ _)
        have hb3 := Below.grown (hb2.alloc hb2.size _) hgrow (by simp; omega) (fun g hg => (ho2.lt g hg).1)
        have ho3 := own_snoc hown'
        clear hown' hgrow ho2
        go_wp2
        go_roundw
        case rel => exact ⟨k + 1, by omega, by go_num, by rw [hs2.out]; exact ho3, hb3⟩
        case measure => simp [intOf]; omega
    · obtain rfl : k = n := by omega
      have e : l.take k = l := List.take_of_length_le (by rw [Hlen.out]; omega)
      rw [e] at hown
      go_wp2
      go_ret
      exact ⟨_, rfl, hown, hb⟩
end Go.Proofs.Ytfaceopjblpkeaa
