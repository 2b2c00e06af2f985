/- Contracts of leap's exported functions and of the reference's: for every table of up to 110 and every integer they return the plain functions (Lpm.stV .. Lpm.oE); nothing that was there has changed. -/
import Derived.Test.YtcnenkhgbifmmaaDoorLpC
import Derived.Deep.RegionHeld3
set_option linter.unusedVariables false
namespace Go.Proofs.YtcnenkhgbifmmaaDoor
open Go.RowKit

theorem Below.cellOf {B : Nat} {w w' : World} (h : Below B w w') {b o : Nat} {v : Value} (hb : b < B) (hc : w.cell? ⟨b, o, none⟩ = some v) : w'.cell? ⟨b, o, none⟩ = some v := (h.cell (p := ⟨b, o, none⟩) hb).trans hc
theorem Lp.drew {B : Nat} {W : World} {A : Option Addr} {n : Nat} {l : Lpm.LL} (h : Lp B W A n l) : Lp B W.drew A n l := h
set_option maxHeartbeats 400000 in
theorem ended_any (B bl ba : Nat) (A : Option Addr) (n c : Nat) (l : Lpm.LL) (t day : Int) (w : World) (hl : Lp B w A n l) (hB : B ≤ w.heap.size) (hv : Lpm.valid l = true) (h0 : 0 ≤ day) (h1 : day ≤ 34000)
    (hbl : bl < w.heap.size) (hba : ba < w.heap.size) (cl : w.cell? ⟨bl, 0, none⟩ = some (.slice A n c)) (ca : w.cell? ⟨ba, 0, none⟩ = some (.int .i64 t)) :
    Calls Tryd.prog 55 #[.int .i64 day, .pointer (some ⟨bl, 0, none⟩), .pointer (some ⟨ba, 0, none⟩)] w (RetB (.bool (decide (t < Lpm.start l (day + 1)))) w) := by
  go_enter Tryd.func55, Tryd.ntmps55
  go_wp2
  have g0 : 0 ≤ day + 1 := by omega
  have g1 : day + 1 ≤ 34001 := by omega
  have hwr : IntKind.i64.wrap (day + 1) = day + 1 := IntWalk.i64_in _ (by omega)
  go_region_held3 (fun w' => w'.cell? ⟨bl, 0, none⟩ = some (.slice A n c) ∧ w'.cell? ⟨ba, 0, none⟩ = some (.int .i64 t)) (first | exact ⟨cl, ca⟩ | exact ⟨Below.cellOf hw hbl cl, Below.cellOf hw hba ca⟩) (first | (go_at_call 48; refine (start_any B A n c l (day + 1) w.drew hl.drew hB hv g0 g1).mono ?_; rintro e w' ⟨rfl, hw⟩))
  clear hwr
  go_wp2
  go_ret
  exact ⟨rfl, (Below.refl _ w).drew.trans hw⟩

set_option maxHeartbeats 1000000 in
theorem search_any (B bl ba : Nat) (A : Option Addr) (n c : Nat) (l : Lpm.LL) (t : Int) (w : World) (hl : Lp B w A n l) (hB : B ≤ w.heap.size) (hv : Lpm.valid l = true)
    (hbl : bl < w.heap.size) (hba : ba < w.heap.size) (cl : w.cell? ⟨bl, 0, none⟩ = some (.slice A n c)) (ca : w.cell? ⟨ba, 0, none⟩ = some (.int .i64 t)) :
    Calls Tryd.prog 45 #[.int .i64 34001, .func (.func 55) #[] #[.pointer (some ⟨bl, 0, none⟩), .pointer (some ⟨ba, 0, none⟩)]] w (RetB (.int .i64 (Lpm.dayNo l t)) w) := by
  have HV := Lib.hid hv
  have CL := Lib.hid cl
  have CA := Lib.hid ca
  clear hv cl ca
  go_enter Tryd.func45, Tryd.ntmps45
  go_wp2
  go_loopw [5, 6] (fun a b wr => ∃ i j : Int, 0 ≤ i ∧ i ≤ j ∧ j ≤ 34001 ∧ a = .int .i64 i ∧ b = .int .i64 j ∧ Hid (∀ k, 0 ≤ k → k < i → Lpm.start l (k + 1) ≤ t) ∧ Hid (j < 34001 → t < Lpm.start l (j + 1)) ∧ Below w.heap.size w wr) (fun a b _ => (intOf b - intOf a).toNat)
  case atStart => exact ⟨0, 34001, by omega, by omega, by omega, rfl, rfl, Lib.hid (fun k a b => by omega), Lib.hid (fun h => by omega), Below.refl _ _⟩
  case round =>
    obtain ⟨i, j, h1, h2, h3, rfl, rfl, hlo, hhi, hb⟩ := hrel
    have hbs := hb.size
    by_cases hlt : i < j
    · have hce : ∃ h, (i + j) / 2 = h ∧ i ≤ h ∧ h < j := ⟨_, rfl, by omega, by omega⟩
      obtain ⟨h, hh, hh1, hh2⟩ := hce
      have cl := Below.cellOf hb hbl CL.out
      have ca := Below.cellOf hb hba CA.out
      have hl2 := hl.below (hb.mono hB)
      by_cases ht : t < Lpm.start l (h + 1)
      · have hd : decide (t < Lpm.start l (h + 1)) = true := by simpa using ht
        go_wp2_with (go_at_call 55; refine (ended_any B bl ba A n c l t h _ hl2 (by omega) HV.out (by omega) (by omega) (by omega) (by omega) cl ca).mono ?_; rintro e w' ⟨rfl, hw⟩)
        go_roundw
        case rel => exact ⟨i, h, by omega, by omega, by omega, rfl, rfl, hlo, Lib.hid (fun _ => ht), hb.trans (hw.mono hbs)⟩
        case measure => simp [intOf]; omega
      · have hd : decide (t < Lpm.start l (h + 1)) = false := by simpa using ht
        go_wp2_with (go_at_call 55; refine (ended_any B bl ba A n c l t h _ hl2 (by omega) HV.out (by omega) (by omega) (by omega) (by omega) cl ca).mono ?_; rintro e w' ⟨rfl, hw⟩)
        go_roundw
        case rel => exact ⟨h + 1, j, by omega, by omega, by omega, rfl, rfl, Lib.hid (fun k k0 k1 => by have := Lpm.start_le (l := l) (a := k + 1) (b := h + 1) HV.out (by omega); omega), hhi, hb.trans (hw.mono hbs)⟩
        case measure => simp [intOf]; omega
    · go_wp2
      go_ret
      obtain rfl : i = j := by omega
      exact ⟨ret_int (Lpm.dayNo_is ⟨h1, h3, hlo.out, hhi.out⟩).symm, hb⟩

/-- a call whose result is a bool, by its contract -/
theorem isRight {l : Lpm.LL} {day : Int} (h : Lpm.valid l = true ∧ 0 ≤ day ∧ day ≤ 34000) : (Lpm.valid l && Lpm.isDay day) = true := by simp [h.1, Lpm.isDay, h.2]
theorem notRight {l : Lpm.LL} {day : Int} (h : ¬ (Lpm.valid l = true ∧ 0 ≤ day ∧ day ≤ 34000)) : (Lpm.valid l && Lpm.isDay day) = false := by
  cases hv : Lpm.valid l
  · rfl
  · simp [Lpm.isDay]; simp [hv] at h; omega
set_option maxHeartbeats 1000000 in
theorem right_any (B : Nat) (A : Option Addr) (n c : Nat) (l : Lpm.LL) (day : Int) (w : World) (hl : Lp B w A n l) (hB : B ≤ w.heap.size) (hn : n ≤ 110) :
    Calls Tryd.prog 47 #[.slice A n c, .int .i64 day] w (RetB (.bool (Lpm.valid l && Lpm.isDay day)) w) := by
  cases hv : Lpm.valid l
  · go_enter Tryd.func47, Tryd.ntmps47
    go_wp2_with (go_at_call 24; refine (valid_any _ _ _ _ _ _ hl hB hn).mono ?_; rintro e w' ⟨rfl, hw⟩)
    go_ret
    exact ⟨rfl, hw⟩
  · have H1 : Hid ((true && Lpm.isDay day) = decide (0 ≤ day ∧ day ≤ 34000)) := Lib.hid (by simp [Lpm.isDay])
    by_cases h0 : 0 ≤ day
    · by_cases h1 : day ≤ 34000
      · go_enter Tryd.func47, Tryd.ntmps47
        go_wp2_with (go_at_call 24; refine (valid_any _ _ _ _ _ _ hl hB hn).mono ?_; rintro e w' ⟨rfl, hw⟩)
        go_ret
        exact ⟨ret_bool (by rw [H1.out]; simp [h0, h1]), hw⟩
      · have h1' : decide (day ≤ 34000) = false := by simpa using h1
        go_enter Tryd.func47, Tryd.ntmps47
        go_wp2_with (go_at_call 24; refine (valid_any _ _ _ _ _ _ hl hB hn).mono ?_; rintro e w' ⟨rfl, hw⟩)
        go_ret
        exact ⟨ret_bool (by rw [H1.out]; simp [h1]), hw⟩
    · have h0' : decide (0 ≤ day) = false := by simpa using h0
      go_enter Tryd.func47, Tryd.ntmps47
      go_wp2_with (go_at_call 24; refine (valid_any _ _ _ _ _ _ hl hB hn).mono ?_; rintro e w' ⟨rfl, hw⟩)
      go_ret
      exact ⟨ret_bool (by rw [H1.out]; exact (decide_eq_false (by omega)).symm), hw⟩

set_option maxHeartbeats 1000000 in
theorem Start_any (B : Nat) (A : Option Addr) (n c : Nat) (l : Lpm.LL) (day : Int) (w : World) (hl : Lp B w A n l) (hB : B ≤ w.heap.size) (hn : n ≤ 110) :
    Calls Tryd.prog 21 #[.slice A n c, .int .i64 day] w (RetB (.tuple #[.int .i64 (Lpm.stV l day), .int .i64 (Lpm.stE l day)]) w) := by
  by_cases hr : Lpm.valid l = true ∧ 0 ≤ day ∧ day ≤ 34000
  · have hrb := isRight hr
    obtain ⟨hv, h0, h1⟩ := hr
    have hz := Lib.hid (Lpm.st_yes hv h0 h1)
    have HV := Lib.hid hv
    clear hv
    go_enter Tryd.func21, Tryd.ntmps21
    go_wp2_with fail
    ((with_reducible refine (right_any _ _ _ _ _ _ _ hl hB hn).mono ?_); rintro e w1 ⟨rfl, hw1⟩)
    have hs1 := hw1.size
    go_wp2_with fail
    ((with_reducible refine (start_any _ _ _ _ _ _ _ (hl.below (hw1.mono hB)) (by omega) HV.out (by omega) (by omega)).mono ?_); rintro e w2 ⟨rfl, hw2⟩)
    go_wp2
    go_ret2
    exact ⟨ret_two hz.out.2.1.symm hz.out.1.symm, hw1.trans (hw2.mono hs1)⟩
  · have hrb := notRight hr
    have hz := Lib.hid (Lpm.st_no hr)
    go_enter Tryd.func21, Tryd.ntmps21
    go_wp2_with fail
    ((with_reducible refine (right_any _ _ _ _ _ _ _ hl hB hn).mono ?_); rintro e w1 ⟨rfl, hw1⟩)
    go_wp2
    go_ret2
    exact ⟨ret_two hz.out.2.1.symm hz.out.1.symm, hw1⟩
set_option maxHeartbeats 1000000 in
theorem Length_any (B : Nat) (A : Option Addr) (n c : Nat) (l : Lpm.LL) (day : Int) (w : World) (hl : Lp B w A n l) (hB : B ≤ w.heap.size) (hn : n ≤ 110) :
    Calls Tryd.prog 36 #[.slice A n c, .int .i64 day] w (RetB (.tuple #[.int .i64 (Lpm.leV l day), .int .i64 (Lpm.stE l day)]) w) := by
  by_cases hr : Lpm.valid l = true ∧ 0 ≤ day ∧ day ≤ 34000
  · have hrb := isRight hr
    obtain ⟨hv, h0, h1⟩ := hr
    have hz := Lib.hid (Lpm.st_yes hv h0 h1)
    have hb0 := Lpm.start_bd (a := day) hv
    have hb1 := Lpm.start_bd (a := day + 1) hv
    have HV := Lib.hid hv
    clear hv
    go_enter Tryd.func36, Tryd.ntmps36
    go_wp2_with fail
    ((with_reducible refine (right_any _ _ _ _ _ _ _ hl hB hn).mono ?_); rintro e w1 ⟨rfl, hw1⟩)
    have hs1 := hw1.size
    go_wp2_with fail
    ((with_reducible refine (start_any _ _ _ _ _ _ _ (hl.below (hw1.mono hB)) (by omega) HV.out (by omega) (by omega)).mono ?_); rintro e w2 ⟨rfl, hw2⟩)
    have hw12 := hw1.trans (hw2.mono hs1)
    have hs2 := hw12.size
    go_wp2_with fail
    ((with_reducible refine (start_any _ _ _ _ _ _ _ (hl.below (hw12.mono hB)) (by omega) HV.out (by omega) (by omega)).mono ?_); rintro e w3 ⟨rfl, hw3⟩)
    go_wp2
    go_ret2
    exact ⟨ret_two hz.out.2.2.symm hz.out.1.symm, hw12.trans (hw3.mono hs2)⟩
  · have hrb := notRight hr
    have hz := Lib.hid (Lpm.st_no hr)
    go_enter Tryd.func36, Tryd.ntmps36
    go_wp2_with fail
    ((with_reducible refine (right_any _ _ _ _ _ _ _ hl hB hn).mono ?_); rintro e w1 ⟨rfl, hw1⟩)
    go_wp2
    go_ret2
    exact ⟨ret_two hz.out.2.2.symm hz.out.1.symm, hw1⟩

set_option maxHeartbeats 1000000 in
theorem Day_any (B : Nat) (A : Option Addr) (n c : Nat) (l : Lpm.LL) (t : Int) (w : World) (hl : Lp B w A n l) (hB : B ≤ w.heap.size) (hn : n ≤ 110) :
    Calls Tryd.prog 37 #[.slice A n c, .int .i64 t] w (RetB (.tuple #[.int .i64 (Lpm.dV l t), .int .i64 (Lpm.dE l t)]) w) := by
  have hmf : ∀ (fn : Fn) (first cap : Array Value) (w : World), (Instr.makeFunc fn first cap).run Tryd.prog w = .ok (.func fn first cap) w := fun _ _ _ _ => rfl
  have hb0 : Below w.heap.size w ((w.alloc (.cells #[.slice A n c] 22)).alloc (.cells #[.int .i64 t] 3)) := ((Below.refl _ w).alloc (Nat.le_refl _) _).alloc (by simp) _
  have hl0 := hl.below (hb0.mono hB)
  have c0 : ((w.alloc (.cells #[.slice A n c] 22)).alloc (.cells #[.int .i64 t] 3)).cell? ⟨w.heap.size, 0, none⟩ = some (.slice A n c) := ((Boxed.new w 22 (.slice A n c)).alloc (.cells #[.int .i64 t] 3)).cell
  have c1 : ((w.alloc (.cells #[.slice A n c] 22)).alloc (.cells #[.int .i64 t] 3)).cell? ⟨w.heap.size + 1, 0, none⟩ = some (.int .i64 t) := by
    have h := (Boxed.new (w.alloc (.cells #[.slice A n c] 22)) 3 (.int .i64 t)).cell
    rwa [World.size_alloc] at h
  have hsz : ((w.alloc (.cells #[.slice A n c] 22)).alloc (.cells #[.int .i64 t] 3)).heap.size = w.heap.size + 2 := by simp
  by_cases hr : Lpm.valid l = true ∧ 0 ≤ t ∧ t ≤ 3000000000000000
  · obtain ⟨hv, h0, h1⟩ := hr
    have hdn := (Lpm.dayNo_spec l t).1
    have hdn2 := (Lpm.dayNo_spec l t).2.1
    have Hsz := Lib.hid hsz
    clear hsz
    by_cases hf : 34000 < Lpm.dayNo l t
    · have hz := Lib.hid (Lpm.d_far hv h0 h1 hf)
      go_enter Tryd.func37, Tryd.ntmps37
      go_wp2_with fail
      ((with_reducible refine (valid_any _ _ _ _ _ _ hl0 (by have := Hsz.out; omega) hn).mono ?_); rintro e w1 ⟨rfl, hw1⟩)
      have hs1 : w.heap.size + 2 ≤ w1.heap.size := by have := Hsz.out; have := hw1.size; omega
      have hl1 := hl0.below (hw1.mono (by have := Hsz.out; omega))
      have c0' := Below.cellOf hw1 (by have := Hsz.out; omega) c0
      have c1' := Below.cellOf hw1 (by have := Hsz.out; omega) c1
      have hb1 := hb0.trans (hw1.mono (by have := Hsz.out; omega))
      clear hw1 c0 c1 hl0 hb0
      go_wp2_with fail
      ((with_reducible refine (search_any B w.heap.size (w.heap.size + 1) A n c l t _ hl1 (by omega) hv (by omega) (by omega) c0' c1').mono ?_); rintro e w2 ⟨rfl, hw2⟩)
      go_wp2
      go_ret2
      exact ⟨ret_two hz.out.2.1.symm hz.out.1.symm, hb1.trans (hw2.mono (by omega))⟩
    · have hz := Lib.hid (Lpm.d_yes hv h0 h1 (by omega))
      go_enter Tryd.func37, Tryd.ntmps37
      go_wp2_with fail
      ((with_reducible refine (valid_any _ _ _ _ _ _ hl0 (by have := Hsz.out; omega) hn).mono ?_); rintro e w1 ⟨rfl, hw1⟩)
      have hs1 : w.heap.size + 2 ≤ w1.heap.size := by have := Hsz.out; have := hw1.size; omega
      have hl1 := hl0.below (hw1.mono (by have := Hsz.out; omega))
      have c0' := Below.cellOf hw1 (by have := Hsz.out; omega) c0
      have c1' := Below.cellOf hw1 (by have := Hsz.out; omega) c1
      have hb1 := hb0.trans (hw1.mono (by have := Hsz.out; omega))
      clear hw1 c0 c1 hl0 hb0
      go_wp2_with fail
      ((with_reducible refine (search_any B w.heap.size (w.heap.size + 1) A n c l t _ hl1 (by omega) hv (by omega) (by omega) c0' c1').mono ?_); rintro e w2 ⟨rfl, hw2⟩)
      go_wp2
      go_ret2
      exact ⟨ret_two hz.out.2.1.symm hz.out.1.symm, hb1.trans (hw2.mono (by omega))⟩
  · have hz := Lib.hid (Lpm.d_no hr)
    have hcs : Lpm.valid l = false ∨ Lpm.valid l = true ∧ (t < 0 ∨ 0 ≤ t ∧ 3000000000000000 < t) := by
      cases hv : Lpm.valid l
      · exact .inl rfl
      · right; refine ⟨rfl, ?_⟩; simp [hv] at hr; omega
    have Hsz := Lib.hid hsz
    clear hsz hr
    rcases hcs with hv | ⟨hv, h | ⟨h, h'⟩⟩
    all_goals
      go_enter Tryd.func37, Tryd.ntmps37
      go_wp2_with fail
      ((with_reducible refine (valid_any _ _ _ _ _ _ hl0 (by have := Hsz.out; omega) hn).mono ?_); rintro e w1 ⟨rfl, hw1⟩)
      have c1' := Below.cellOf hw1 (by have := Hsz.out; omega) c1
      have hb1 := hb0.trans (hw1.mono (by have := Hsz.out; omega))
      clear hw1 c0 c1 hl0 hb0
      go_wp2
      go_ret2
      exact ⟨ret_two hz.out.2.1.symm hz.out.1.symm, hb1⟩
end Go.Proofs.YtcnenkhgbifmmaaDoor
