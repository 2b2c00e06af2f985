/- The fires of a day: recur.fires and the reference's on. -/
import Derived.Test.YtcnenkhgbifmmaaDoorReI
set_option linter.unusedVariables false
namespace Go.Proofs.YtcnenkhgbifmmaaDoor
open Go.RowKit
abbrev tF : TypeId := 34
theorem infoF : (Tryd.prog.info? tF).map (fun i => (i.zero, i.size, i.bytes)) = some (some (.agg #[.int .i64 0, .int .i64 0]), 2, 16) := by kernel_rfl
/-- it returns a slice that holds a list -/
def LiPost (l : List Int) (w : World) (e : Ending) (w' : World) : Prop := ∃ A k c, e = .returned (.slice A k c) ∧ (∀ ad, A = some ad → w.heap.size ≤ ad.block) ∧ Li w'.heap.size w' A k l ∧ Below w.heap.size w w'
def LpPost (l : Lpm.LL) (w : World) (e : Ending) (w' : World) : Prop := ∃ A k c, e = .returned (.slice A k c) ∧ (A = none → k = 0 ∧ c = 0) ∧ Lp w'.heap.size w' A k l ∧ Below w.heap.size w w'
theorem li_post {l l' : List Int} {w w' : World} {A : Option Addr} {k c : Nat} (h : Li w'.heap.size w' A k l') (hf : ∀ ad, A = some ad → w.heap.size ≤ ad.block) (e : l = l') (hb : Below w.heap.size w w') : LiPost l w (.returned (.slice A k c)) w' := ⟨A, k, c, rfl, hf, by rw [e]; exact h, hb⟩
theorem own_fresh {B : Nat} {W : World} {t : TypeId} {sz : Nat} {A : Option Addr} {n m c : Nat} {xs : List Value} (h : W.ownsRow B t sz (.slice A n c) m xs) : ∀ ad, A = some ad → B ≤ ad.block := by
  intro ad hA
  subst hA
  obtain ⟨-, ⟨e, -⟩ | ⟨g, cap, cur, e, hB, -⟩⟩ := h
  · cases e
  · cases e; exact hB
theorem lp_post {l l' : Lpm.LL} {w w' : World} {A : Option Addr} {k c : Nat} (h : Lp w'.heap.size w' A k l') (hA : A = none → k = 0 ∧ c = 0) (e : l = l') (hb : Below w.heap.size w w') : LpPost l w (.returned (.slice A k c)) w' := ⟨A, k, c, rfl, hA, by rw [e]; exact h, hb⟩
theorem li_one (W : World) (x : Int) : Li (W.alloc (.cells #[.int .i64 x] tI)).heap.size (W.alloc (.cells #[.int .i64 x] tI)) (some ⟨W.heap.size, 0, none⟩) 1 [x] :=
  ⟨rfl, fun _ => ⟨W.heap.size, 0, rfl, by simp, fun j hj => by
    obtain rfl : j = 0 := by omega
    exact blk1 (heap_new W _)⟩⟩
theorem lp_one (W : World) (x y : Int) (t : TypeId) : Lp (W.alloc (.cells #[.int .i64 x, .int .i64 y] t)).heap.size (W.alloc (.cells #[.int .i64 x, .int .i64 y] t)) (some ⟨W.heap.size, 0, none⟩) 1 [(x, y)] :=
  ⟨rfl, fun _ => ⟨W.heap.size, 0, rfl, by simp, fun j hj => by
    obtain rfl : j = 0 := by omega
    exact (blk2 (heap_new W _)).1⟩⟩
theorem Li.cut {B : Nat} {W : World} {A : Option Addr} {n : Nat} {l : List Int} (h : Li B W A n l) {k : Nat} (hk : k ≤ n) : Li B W A k (l.take k) := h.take hk
theorem sec_ok {r : Rec} (h : Rc.validB r = true) : 0 ≤ r.sec ∧ r.sec ≤ 86399 := (of_decide_eq_true h : Rc.Val r).2.2.1
set_option maxHeartbeats 2000000 in
set_option maxRecDepth 100000 in
theorem fires_any (A : Option Addr) (n c : Nat) (l : Lpm.LL) (r : Rec) (d : Int) (w : World) (hl : Lp w.heap.size w A n l) (hv : Lpm.valid l = true) (h0 : 0 ≤ d) (h1 : d ≤ 34000) (hs : 0 ≤ r.sec ∧ r.sec ≤ 86399) :
    Calls Tryd.prog 26 #[.slice A n c, (.agg #[.int .i64 r.kind, .int .i64 r.every, .int .i64 r.wd, .int .i64 r.nth, .int .i64 r.frm, .int .i64 r.unt, .int .i64 r.sec, .bool r.shift, .bool r.both]), .int .i64 d] w (LiPost (Rc.fon l r d) w) := by
  have HF := Lib.hid (Find_any A n c l d r.sec (w.alloc (.cells #[.int .i64 r.kind, .int .i64 r.every, .int .i64 r.wd, .int .i64 r.nth, .int .i64 r.frm, .int .i64 r.unt, .int .i64 r.sec, .bool r.shift, .bool r.both] 24)) (hl.go (Below.goN (Below.refl _ _) _)) hv h0 h1 hs.1 hs.2)
  have hn : n ≤ 110 := by have := Lpm.valid_len hv; have := hl.1; omega
  have HL : Hid (∀ W, Below w.heap.size w W → Lp W.heap.size W A n l) := Lib.hid fun W hW => hl.go hW
  have kx := Lib.hid (heap_new w (.cells #[.int .i64 r.kind, .int .i64 r.every, .int .i64 r.wd, .int .i64 r.nth, .int .i64 r.frm, .int .i64 r.unt, .int .i64 r.sec, .bool r.shift, .bool r.both] 24))
  have HO : Hid (Rc.fon l r d = if (Rc.tim l r.sec d).length = 0 ∧ r.shift = true then [Lpm.stV l (d + 1)] else if 1 < (Rc.tim l r.sec d).length ∧ r.both = false then (Rc.tim l r.sec d).take 1 else Rc.tim l r.sec d) := Lib.hid rfl
  have hlen := Rc.tim_len l r.sec d
  clear hl hv hs
  go_enter Tryd.func26, Tryd.ntmps26
  go_wp2_with fail
  refine HF.out.mono ?_
  rintro e w1 ⟨v, rfl, hown, hb1⟩
  have kx := Lib.hid (keep' kx.out hb1)
  have hb := Below.goA (Below.refl w.heap.size w) hb1
  clear hb1 HF
  obtain ⟨k, hk⟩ : ∃ k, (Rc.tim l r.sec d).length = k := ⟨_, rfl⟩
  rw [hk] at hown hlen HO
  obtain ⟨A', c', rfl, hkc, hA', hL'⟩ := own_li hown hk
  have HL' := Lib.hid hL'
  have HFr : Hid (∀ ad, A' = some ad → w.heap.size ≤ ad.block) := Lib.hid fun ad h => by have := own_fresh hown ad h; simp at this; omega
  obtain ⟨-, -, -, -, -, -, -, c7, c8⟩ := blk9 kx.out
  clear hown hL' hk
  generalize Rc.tim l r.sec d = T at *
  obtain ⟨sh, hsh⟩ : ∃ b, r.shift = b := ⟨_, rfl⟩
  obtain ⟨bo, hbo⟩ : ∃ b, r.both = b := ⟨_, rfl⟩
  rw [hsh] at c7 HO
  rw [hbo] at c8 HO
  clear hsh hbo
  rcases (show k = 0 ∨ k = 1 ∨ k = 2 by omega) with rfl | rfl | rfl
  · cases sh
    · go_wp2
      go_ret
      exact li_post HL'.out HFr.out (by rw [HO.out]; simp) hb
    · go_wp2_with fail
      refine (Start_c (day := d + 1) (HL.out _ hb) (Nat.le_refl _) hn (Below.refl _ _)).mono ?_
      rintro e w2 ⟨rfl, hb2⟩
      have hb3 := Below.goN (Below.go hb hb2) (.cells #[.int .i64 (Lpm.stV l (d + 1))] tI)
      have hszw : w.heap.size ≤ w2.heap.size := (Below.go hb hb2).size
      clear hb2
      go_wp2
      go_ret
      exact li_post (li_one _ _) (fun ad h => by cases h; exact hszw) (by rw [HO.out]; simp) hb3
  · cases sh
    all_goals
      go_wp2
      go_ret
      exact li_post HL'.out HFr.out (by rw [HO.out]; simp) hb
  · obtain ⟨b, off, rfl, hbB, hc⟩ := HL'.out.2 (by omega)
    have i0 : (0 : Int) ≤ 1 := by omega
    have i1 : (1 : Int) ≤ (c' : Int) := by omega
    clear hc
    cases bo
    · go_wp2
      go_ret
      exact li_post (HL'.out.cut (show 1 ≤ 2 by omega)) HFr.out (by rw [HO.out]; simp) hb
    · go_wp2
      go_ret
      exact li_post HL'.out HFr.out (by rw [HO.out]; simp) hb
end Go.Proofs.YtcnenkhgbifmmaaDoor
