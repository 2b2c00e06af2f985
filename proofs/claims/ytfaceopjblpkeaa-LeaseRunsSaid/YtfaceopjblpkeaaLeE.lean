/- Contracts of lease.Drop and lease.Free, of slices.Clone over leases, and of lease.Grant. -/
import Derived.Test.YtfaceopjblpkeaaLeD
import Derived.Laws.EntriesVeiled
set_option linter.unusedVariables false
namespace Go.Proofs.Ytfaceopjblpkeaa
open Go.RowKit
theorem vp_form {l : List Lem.T3} {n : Nat} (h : Lem.vp l n = true) : ∀ k, k < n → Lem.form (Lem.at' l k) = true := by
  induction n with
  | zero => intro k hk; omega
  | succ m ih =>
    simp only [Lem.vp, Bool.and_eq_true] at h
    intro k hk
    by_cases e : k = m
    · rw [e]; exact h.2.1
    · exact ih h.1 k (by omega)
theorem valid_form {l : List Lem.T3} (h : Lem.valid l = true) : ∀ x, x ∈ l → Lem.form x = true := by
  unfold Lem.valid at h; simp only [Bool.and_eq_true] at h
  intro x hx
  obtain ⟨k, hk, rfl⟩ := List.mem_iff_getElem.1 hx
  have := vp_form h.1 k hk
  unfold Lem.at' at this; simpa [List.getElem?_eq_getElem hk] using this
/-- it returns a list of leases and an error -/
def OwnPostE (l : List Lem.T3) (E : Int) (w : World) (e : Ending) (w' : World) : Prop := ∃ v, e = .returned (.tuple #[v, .int .i64 E]) ∧ Own w.heap.size w' v l ∧ Below w.heap.size w w'
theorem drB_ways {l : List Lem.T3} {lo hi : Int} (e : Lem.drB l lo hi = false) : Lem.valid l = false ∨ Lem.valid l = true ∧ Lem.iV lo hi = false := by
  unfold Lem.drB at e
  cases h1 : Lem.valid l
  · exact .inl rfl
  · rw [h1] at e; exact .inr ⟨rfl, by simpa using e⟩
theorem Own.nil (B : Nat) (W : World) : Own B W (.slice none 0 0) [] := World.ownsRow_nil _ _ _ _
theorem own_down {B B' : Nat} {W : World} {v : Value} {l : List Lem.T3} (h : Own B W v l) (hb : B' ≤ B) : Own B' W v l := by
  obtain ⟨h0, h1 | ⟨g, cap, cur, e, hB, r⟩⟩ := h
  · exact ⟨h0, .inl h1⟩
  · exact ⟨h0, .inr ⟨g, cap, cur, e, by omega, r⟩⟩
set_option maxHeartbeats 2000000 in
set_option maxRecDepth 100000 in
theorem Drop_any (A : Option Addr) (n c : Nat) (l : List Lem.T3) (lo hi : Int) (w : World) (hl : Lin w A n c l) (hn : n ≤ 70) :
    Calls Try.prog 20 #[.slice A n c, I2 lo hi] w (OwnPostE (Lem.drL l lo hi) (Lem.drE l lo hi) w) := by
  have HL := Lib.hid (hl.alloc (oI lo hi))
  have hb0 : Below w.heap.size w (w.alloc (oI lo hi)) := (Below.refl _ _).alloc (Nat.le_refl _) _
  have k0 := Lib.hid (heap_new w (oI lo hi))
  clear hl
  have hE : Hid (Lem.drE l lo hi = if Lem.drB l lo hi then 0 else 1) := Lib.hid rfl
  have hV : Hid (Lem.drL l lo hi = if Lem.drB l lo hi then l.filter (Lem.stays lo) else []) := Lib.hid rfl
  have hval := Lib.hid (Valid_any A n c l _ HL.out.ls hn HL.out.nc HL.out.cap)
  cases hB : Lem.drB l lo hi
  · rw [hB] at hE hV
    rcases drB_ways hB with h1 | ⟨h1, h2⟩
    all_goals rw [h1] at hval
    all_goals clear hB h1
    all_goals
      go_enter Try.func20, Try.ntmps20
      go_wp2_with (first | (go_at_call 13; refine hval.out.mono ?_; rintro e w1 ⟨rfl, hb1⟩; obtain ⟨⟨d0, d1⟩, -⟩ := blk2 (keep' k0.out hb1); have hb := Below.go hb0 hb1) | (go_at_call 26; refine (iValid_any _ _ _).mono ?_; rintro e w2 ⟨rfl, hb2⟩; have hb := Below.go hb hb2))
      go_ret2
      exact ⟨.slice none 0 0, by rw [hE.out]; rfl, by rw [hV.out]; exact Own.nil _ _, hb⟩
  · rw [hB] at hE hV
    have hB2 := hB
    unfold Lem.drB at hB2
    simp only [Bool.and_eq_true] at hB2
    obtain ⟨h1, h3⟩ := hB2
    have hfm := Lib.hid (valid_form h1)
    rw [h1] at hval
    clear hB h1
    go_enter Try.func20, Try.ntmps20
    go_wp2_with (first | (go_at_call 13; refine hval.out.mono ?_; rintro e w1 ⟨rfl, hb1⟩; obtain ⟨⟨d0, d1⟩, -⟩ := blk2 (keep' k0.out hb1)) | (go_at_call 26; refine (iValid_any _ _ _).mono ?_; rintro e w2 ⟨rfl, hb2⟩; have hb3 := Below.go hb1 hb2; obtain ⟨⟨e0, e1⟩, -⟩ := blk2 (keep' k0.out hb3)))
    refine (over_any _ _ _).mono ?_
    rintro e w3 ⟨rfl, hk, hb4⟩
    have hb5 := Below.go hb3 hb4
    have HK := Lib.hid hk
    clear hk
    go_wp2_with fail
    refine (keep_any _ (Lem.stays lo) A n c l _ ((HL.out.below hb5).alloc _).ls hn (fun x w' hx hb' => clD x _ _ lo hi w' (keep' (heap_new w3 _) hb') (keepA HK.out hb') (by have := form_bd (hfm.out x hx); have := Lem.hB_bd this.1; omega))).mono ?_
    rintro e w4 ⟨v, rfl, hown, hb6⟩
    have hb7 := Below.go hb0 (Below.goA hb5 hb6)
    have hd : w.heap.size ≤ (w3.alloc (.cells #[overF w2.heap.size] 53)).heap.size := by have a := hb5.size; simp at a ⊢; omega
    have ho := own_down hown hd
    clear hown hd hb6
    go_wp2
    go_ret2
    exact ⟨v, by rw [hE.out]; rfl, by rw [hV.out]; exact ho, hb7⟩
set_option maxHeartbeats 1000000 in
theorem Free_any (A : Option Addr) (n c : Nat) (l : List Lem.T3) (lo hi : Int) (w : World) (hl : Lin w A n c l) (hn : n ≤ 70) :
    Calls Try.prog 18 #[.slice A n c, I2 lo hi] w (RetB (.tuple #[.bool (Lem.frV l lo hi), .int .i64 (Lem.drE l lo hi)]) w) := by
  have hb0 : Below w.heap.size w (w.alloc (oI lo hi)) := (Below.refl _ _).alloc (Nat.le_refl _) _
  have hd := Lib.hid (Drop_any A n c l lo hi _ (hl.alloc (oI lo hi)) hn)
  have hV : Hid (Lem.frV l lo hi = (Lem.drB l lo hi && decide ((Lem.drL l lo hi).length = 0))) := Lib.hid rfl
  have hE : Hid (Lem.drE l lo hi = if Lem.drB l lo hi then 0 else 1) := Lib.hid rfl
  clear hl
  cases hB : Lem.drB l lo hi
  · rw [hB] at hV hE
    have he : Lem.drE l lo hi = 1 := hE.out.trans rfl
    go_enter Try.func18, Try.ntmps18
    go_wp2_with fail
    refine hd.out.mono ?_
    rintro e w1 ⟨v, rfl, hown, hb1⟩
    obtain ⟨A', n', c', rfl, -, -⟩ := hown.lin
    have hb := Below.go hb0 hb1
    go_wp2
    go_ret2
    exact ⟨ret_be (by rw [hV.out]; rfl) he.symm, hb⟩
  · rw [hB] at hV hE
    have he : Lem.drE l lo hi = 0 := hE.out.trans rfl
    go_enter Try.func18, Try.ntmps18
    go_wp2_with fail
    refine hd.out.mono ?_
    rintro e w1 ⟨v, rfl, hown, hb1⟩
    obtain ⟨A', n', c', rfl, hn', -⟩ := hown.lin
    have hb := Below.go hb0 hb1
    have Hn := Lib.hid hn'
    clear hn' hown
    go_wp2
    go_ret2
    exact ⟨ret_be (by rw [hV.out, ← Hn.out, Bool.true_and, Bool.eq_iff_iff]; simp) he.symm, hb⟩
end Go.Proofs.Ytfaceopjblpkeaa
