/- civil.Find and the reference's: the times of a second of a day. -/
import Derived.Test.YtmicbniipbcapaaDoorReH
set_option linter.unusedVariables false
namespace Go.Proofs.YtmicbniipbcapaaDoor
open Go.RowKit
theorem Find_any (A : Option Addr) (n c : Nat) (l : Lpm.LL) (d sec : Int) (w : World) (hl : Lp w.heap.size w A n l) (hv : Lpm.valid l = true) (h0 : 0 ≤ d) (h1 : d ≤ 34000) (s0 : 0 ≤ sec) (s1 : sec ≤ 86399) :
    Calls Tryd.prog 62 #[.slice A n c, .agg #[.int .i64 d, .int .i64 sec, .int .i64 0]] w (ListPost (Rc.tim l sec d) w) := by
  have hb := Lpm.start_bd (a := d) hv
  have hN := Rc.lenD_is hv d
  have go := fun (E : Nat) hw => Find_way E A n c l d sec (sec * 1000000) (Lpm.start l d) (Rc.lenD l d) w hl hv h0 h1 s0 s1 rfl rfl rfl (by omega) (by omega) (by omega) (by omega) hw
  rcases Rc.tim_ways hv s0 s1 d with ⟨a, b, e⟩ | ⟨a, b, e⟩ | ⟨a, b, e⟩ | ⟨a, b, e⟩
  · rw [e]
    have h1 : wi (sec * 1000000) 0 (Rc.lenD l d - 1) = true := wi_t (by omega)
    cases h2 : wi (sec * 1000000 + 1000000) 0 (Rc.lenD l d - 1)
    · exact go 1 (.inr (.inl ⟨rfl, h1, h2⟩))
    · exact go 1 (.inr (.inr (.inl ⟨rfl, h1, h2, decide_eq_true a⟩)))
  · rw [e]; exact go 0 (.inl ⟨rfl, wi_f (by omega)⟩)
  · rw [e]; exact go 1 (.inr (.inl ⟨rfl, wi_t (by omega), wi_f (by omega)⟩))
  · rw [e]; exact go 2 (.inr (.inr (.inr ⟨rfl, wi_t (by omega), wi_t (by omega), wi_f (by omega), decide_eq_false (by omega)⟩)))
set_option maxHeartbeats 2000000 in
set_option maxRecDepth 100000 in
theorem refWall_any (d sec : Int) (w : World) (h0 : 0 ≤ d) (h1 : d ≤ 34000) (s0 : 0 ≤ sec) (s1 : sec ≤ 86399) : Calls Tryd.prog 83 #[.agg #[.int .i64 d, .int .i64 sec, .int .i64 0]] w (RetB (.bool true) w) := by
  have HI : Hid (∀ W, Calls Tryd.prog 84 #[.int .i64 d] W (RetB (.bool true) W)) := Lib.hid fun W => by
    have := isDay_c (day := d) (Below.refl W.heap.size W)
    rwa [show Lpm.isDay d = true from decide_eq_true ⟨h0, h1⟩] at this
  have kx := Lib.hid (heap_new w (.cells #[.int .i64 d, .int .i64 sec, .int .i64 0] 54))
  have g1 : decide (0 ≤ sec) = true := decide_eq_true s0
  have g2 : decide (sec ≤ 86399) = true := decide_eq_true s1
  go_enter Tryd.func83, Tryd.ntmps83
  go_wp2_with fail
  refine (HI.out _).mono ?_
  rintro e w1 ⟨rfl, hb1⟩
  obtain ⟨⟨c0, c1, c2⟩, -⟩ := blk3 (keep' kx.out hb1)
  have hb := Below.goA (Below.refl w.heap.size w) hb1
  go_wp2
  go_ret
  exact ⟨rfl, hb⟩
def Fs (S N sec s : Int) : List Int := (if sec < s ∧ sec * 1000000 < N then [S + sec * 1000000] else []) ++ (if 86400 < s ∧ sec = 86399 ∧ 86400000000 < N then [S + 86400000000] else [])
theorem Fs_start (S N sec : Int) (h : sec ≤ 86399) : Fs S N sec sec = [] := by unfold Fs; rw [if_neg (by omega), if_neg (by omega)]; rfl
theorem Fs_no {S N sec s : Int} (h0 : sec ≤ s) (h1 : s ≤ 86400) (hs : sec ≤ 86399) (h : ¬ (s * 1000000 < N ∧ (s = sec ∨ s = 86400 ∧ sec = 86399))) : Fs S N sec (s + 1) = Fs S N sec s := by
  have e1 : (sec < s + 1 ∧ sec * 1000000 < N) ↔ (sec < s ∧ sec * 1000000 < N) := by omega
  have e2 : (86400 < s + 1 ∧ sec = 86399 ∧ 86400000000 < N) ↔ (86400 < s ∧ sec = 86399 ∧ 86400000000 < N) := by omega
  unfold Fs; simp only [e1, e2]
theorem Fs_yes {S N sec s : Int} (h0 : sec ≤ s) (h1 : s ≤ 86400) (hs : sec ≤ 86399) (hN : s * 1000000 < N) (h : s = sec ∨ s = 86400 ∧ sec = 86399) : Fs S N sec (s + 1) = Fs S N sec s ++ [S + s * 1000000] := by
  unfold Fs
  rcases h with rfl | ⟨rfl, rfl⟩
  · rw [if_pos (by omega), if_neg (by omega), if_neg (by omega), if_neg (by omega)]; rfl
  · rw [if_pos (by omega), if_pos (by omega), if_pos (by omega), if_neg (by omega)]; rfl
theorem Fs_len (S N sec s : Int) : (Fs S N sec s).length ≤ 2 := by unfold Fs; repeat' split
                                                                   all_goals simp
theorem Fs_end {l : Lpm.LL} (h : Lpm.valid l = true) {sec : Int} (h0 : 0 ≤ sec) (h1 : sec ≤ 86399) (d : Int) : Fs (Lpm.start l d) (Rc.lenD l d) sec 86401 = Rc.tim l sec d := by
  unfold Fs
  rcases Rc.tim_ways h h0 h1 d with ⟨a, b, e⟩ | ⟨a, b, e⟩ | ⟨a, b, e⟩ | ⟨a, b, e⟩ <;> rw [e]
  · rw [if_pos (by omega), if_neg (by omega)]; rfl
  · rw [if_neg (by omega), if_neg (by omega)]; rfl
  · rw [if_pos (by omega), if_neg (by omega)]; rfl
  · subst a; rw [if_pos (by omega), if_pos (by omega)]; simp
set_option maxHeartbeats 2000000 in
set_option maxRecDepth 100000 in
theorem refFind_any (A : Option Addr) (n c : Nat) (l : Lpm.LL) (d sec : Int) (w : World) (hl : Lp w.heap.size w A n l) (hv : Lpm.valid l = true) (h0 : 0 ≤ d) (h1 : d ≤ 34000) (s0 : 0 ≤ sec) (s1 : sec ≤ 86399) :
    Calls Tryd.prog 64 #[.slice A n c, .agg #[.int .i64 d, .int .i64 sec, .int .i64 0]] w (ListPost (Rc.tim l sec d) w) := by
  obtain ⟨a1, a2, a3⟩ := Lpm.st_yes (day := d) hv h0 h1
  have hn : n ≤ 110 := by have := Lpm.valid_len hv; have := hl.1; omega
  have HL : Hid (∀ W, Below w.heap.size w W → Lp W.heap.size W A n l) := Lib.hid fun W hW => hl.go hW
  have a3' : Lpm.leV l d = Rc.lenD l d := a3
  have hbd := Lpm.start_bd (a := d) hv
  have hNn := Rc.lenD_is hv d
  have HE := Lib.hid (Fs_end hv s0 s1 d)
  obtain ⟨i0, hi, hz0, hz1, hz2⟩ := info_parts infoI
  have kx := Lib.hid (heap_new w (.cells #[.int .i64 d, .int .i64 sec, .int .i64 0] 54))
  have hb := Below.goN (Below.refl w.heap.size w) (.cells #[.int .i64 d, .int .i64 sec, .int .i64 0] 54)
  clear a3 hl hv
  generalize Lpm.start l d = S at *
  generalize Rc.lenD l d = N at *
  have n0 : 0 ≤ N := by omega
  have n1 : N ≤ 100000000000 := by omega
  have b0 : -1000000000 ≤ S := by omega
  have b1 : S ≤ 3000000000000000 := by omega
  clear hbd hNn
  go_enter Tryd.func64, Tryd.ntmps64
  go_wp2_with fail
  refine (refLength_c (day := d) (HL.out _ hb) (Nat.le_refl _) hn (Below.refl _ _)).mono ?_
  rintro e w1 ⟨rfl, hb1⟩
  have kx := Lib.hid (keep' kx.out hb1)
  have hb := Below.go hb hb1
  obtain ⟨⟨c0, c1, c2⟩, -⟩ := blk3 kx.out
  clear hb1
  go_wp2_with fail
  refine (refWall_any d sec _ h0 h1 s0 s1).mono ?_
  rintro e w2 ⟨rfl, hb1⟩
  have kx := Lib.hid (keep' kx.out hb1)
  have hb := Below.go hb hb1
  obtain ⟨⟨c0, c1, c2⟩, -⟩ := blk3 kx.out
  clear hb1
  go_wp2_with fail
  refine (refStart_c (day := d) (HL.out _ hb) (Nat.le_refl _) hn (Below.refl _ _)).mono ?_
  rintro e w3 ⟨rfl, hb1⟩
  have kx := Lib.hid (keep' kx.out hb1)
  have hb := Below.go hb hb1
  obtain ⟨⟨c0, c1, c2⟩, -⟩ := blk3 kx.out
  clear hb1
  go_wp2
  go_loopw [10, 11] (fun v i wr => ∃ (s : Int) (A : Option Addr) (k c : Nat), sec ≤ s ∧ s ≤ 86401 ∧ i = .int .i64 s ∧ v = .slice A k c ∧ Hid ((Fs S N sec s).length = k) ∧ Hid (wr.ownsRow w3.heap.size tI 1 (.slice A k c) k (cellsI (Fs S N sec s))) ∧ Below w3.heap.size w3 wr) (fun _ i _ => (86401 - intOf i).toNat)
  case atStart => exact ⟨sec, none, 0, 0, by omega, by omega, rfl, rfl, Lib.hid (by rw [Fs_start _ _ _ s1]; rfl), Lib.hid (by rw [Fs_start _ _ _ s1]; exact own_nil), Below.refl _ _⟩
  case round =>
    obtain ⟨s, A', k, c', hs0, hs1, rfl, rfl, hk, hown, hbr⟩ := hrel
    obtain ⟨⟨d0, d1, d2⟩, -⟩ := blk3 (keep' kx.out hbr)
    have hk2 : k ≤ 2 := by have := Fs_len S N sec s; have := hk.out; omega
    by_cases hlt : s ≤ 86400
    · by_cases hN : s * 1000000 < N
      · by_cases hs : s ≤ 86399
        · by_cases he : sec = s
          · subst he
            have hN2 : decide (sec * 1000000 < N) = true := decide_eq_true hN
            have HS : Hid (Fs S N sec (sec + 1) = Fs S N sec sec ++ [S + sec * 1000000]) := Lib.hid (Fs_yes hs0 hlt s1 hN (by omega))
            have hbx := Below.goN hbr (.cells #[.int .i64 (S + sec * 1000000)] tI)
            go_wp2_with (at_builtin; refine wpList_append_own_at _ rfl _ _ 28 rfl w3.heap.size tI i0 (.int .i64 0) 1 8 Tryd.underlying28 hi hz0 hz1 hz2 rfl (by decide) _ k (cellsI (Fs S N sec sec)) rfl (hown.out.alloc _) ⟨wr.heap.size, 0, none⟩ 1 1 [.int .i64 (S + sec * 1000000)] rfl rfl (World.news_of_block (heap_new wr _)) (by simp [Value.oneCell']) (by unfold maxLen; omega) (by omega) (by have := hbr.size; simp; omega) ?_; intro v' w9 hown' hgrow _ _)
            have hb9 := Below.grown hbx hgrow (by have := hbr.size; simp; omega) (fun g hg => (hown.out.lt g hg).1)
            have ho9 : w9.ownsRow w3.heap.size tI 1 v' (k + 1) (cellsI (Fs S N sec (sec + 1))) := by rw [HS.out, cellsI_app]; exact hown'
            have hn9 : Hid ((Fs S N sec (sec + 1)).length = k + 1) := Lib.hid (by rw [HS.out, List.length_append, hk.out]; rfl)
            obtain ⟨A2, c2', rfl, -, -, -⟩ := own_li ho9 hn9.out
            have HO := Lib.hid ho9
            clear ho9 hown' hgrow hbx
            go_wp2
            go_roundw
            case rel => exact ⟨sec + 1, A2, k + 1, c2', by omega, by omega, by simp, rfl, hn9, HO, hb9⟩
            case measure => simp [intOf]; try omega
          · have he2 : (s == sec) = false := by simp; omega
            have hN2 : decide (s * 1000000 < N) = true := decide_eq_true hN
            have HS : Hid (Fs S N sec (s + 1) = Fs S N sec s) := Lib.hid (Fs_no hs0 hlt s1 (fun h => by omega))
            go_wp2
            go_roundw
            case rel => exact ⟨s + 1, A', k, c', by omega, by omega, by simp, rfl, by rw [HS.out]; exact hk, by rw [HS.out]; exact hown, hbr⟩
            case measure => simp [intOf]; try omega
        · obtain rfl : s = 86400 := by omega
          have hN3 : 86400000000 < N := by omega
          have hN2 : decide (86400000000 < N) = true := decide_eq_true hN3
          by_cases he : sec = 86399
          · subst he
            have HS : Hid (Fs S N 86399 (86400 + 1) = Fs S N 86399 86400 ++ [S + 86400 * 1000000]) := Lib.hid (Fs_yes hs0 hlt s1 hN (by omega))
            have hbx := Below.goN hbr (.cells #[.int .i64 (S + 86400000000)] tI)
            go_wp2_with (at_builtin; refine wpList_append_own_at _ rfl _ _ 28 rfl w3.heap.size tI i0 (.int .i64 0) 1 8 Tryd.underlying28 hi hz0 hz1 hz2 rfl (by decide) _ k (cellsI (Fs S N 86399 86400)) rfl (hown.out.alloc _) ⟨wr.heap.size, 0, none⟩ 1 1 [.int .i64 (S + 86400000000)] rfl rfl (World.news_of_block (heap_new wr _)) (by simp [Value.oneCell']) (by unfold maxLen; omega) (by omega) (by have := hbr.size; simp; omega) ?_; intro v' w9 hown' hgrow _ _)
            have hb9 := Below.grown hbx hgrow (by have := hbr.size; simp; omega) (fun g hg => (hown.out.lt g hg).1)
            have ho9 : w9.ownsRow w3.heap.size tI 1 v' (k + 1) (cellsI (Fs S N 86399 (86400 + 1))) := by rw [HS.out, cellsI_app]; exact hown'
            have hn9 : Hid ((Fs S N 86399 (86400 + 1)).length = k + 1) := Lib.hid (by rw [HS.out, List.length_append, hk.out]; rfl)
            obtain ⟨A2, c2', rfl, -, -, -⟩ := own_li ho9 hn9.out
            have HO := Lib.hid ho9
            clear ho9 hown' hgrow hbx
            go_wp2
            go_roundw
            case rel => exact ⟨86400 + 1, A2, k + 1, c2', by omega, by omega, by simp, rfl, hn9, HO, hb9⟩
            case measure => simp [intOf]; try omega
          · have he2 : ((86399 : Int) == sec) = false := by simp; omega
            have HS : Hid (Fs S N sec (86400 + 1) = Fs S N sec 86400) := Lib.hid (Fs_no hs0 hlt s1 (fun h => by omega))
            go_wp2
            go_roundw
            case rel => exact ⟨86400 + 1, A', k, c', by omega, by omega, by simp, rfl, by rw [HS.out]; exact hk, by rw [HS.out]; exact hown, hbr⟩
            case measure => simp [intOf]; try omega
      · have HS : Hid (Fs S N sec (s + 1) = Fs S N sec s) := Lib.hid (Fs_no hs0 hlt s1 (fun h => hN h.1))
        have hN2 : decide (s * 1000000 < N) = false := decide_eq_false hN
        go_wp2
        go_roundw
        case rel => exact ⟨s + 1, A', k, c', by omega, by omega, rfl, rfl, by rw [HS.out]; exact hk, by rw [HS.out]; exact hown, hbr⟩
        case measure => simp [intOf]; omega
    · obtain rfl : s = 86401 := by omega
      go_wp2
      go_ret2
      exact ⟨_, rfl, by rw [← HE.out, hk.out]; exact own_base hown.out hb.size, Below.go hb hbr⟩
end Go.Proofs.YtmicbniipbcapaaDoor
