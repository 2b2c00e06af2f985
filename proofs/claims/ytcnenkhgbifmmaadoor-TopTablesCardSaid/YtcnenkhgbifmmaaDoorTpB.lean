/- The contract of edition.Follows. Condition: tables of up to 110 leap seconds. -/
import Derived.Test.YtcnenkhgbifmmaaDoorTpA
set_option linter.unusedVariables false
namespace Go.Proofs.YtcnenkhgbifmmaaDoor
open Go.RowKit
theorem le_bd (l : Lpm.LL) (d : Int) : 0 ≤ Lpm.leV l d ∧ Lpm.leV l d ≤ 86401000000 := by
  unfold Lpm.leV
  split
  · rename_i h
    have := Rc.lenD_is (by simpa using (Bool.and_eq_true _ _ ▸ h).1 : Lpm.valid l = true) d
    unfold Rc.lenD at this
    omega
  · omega
theorem st_bd (l : Lpm.LL) (d : Int) : -1000000000 ≤ Lpm.stV l d ∧ Lpm.stV l d ≤ 4000000000000000 := by
  unfold Lpm.stV
  split
  · rename_i h
    have h' := Bool.and_eq_true _ _ ▸ h
    have := Lpm.start_bd (a := d) h'.1
    have hd := h'.2
    unfold Lpm.isDay at hd
    have := of_decide_eq_true hd
    omega
  · omega
set_option maxHeartbeats 2000000 in
set_option maxRecDepth 100000 in
theorem ends_any (A : Option Addr) (n c : Nat) (l : Lpm.LL) (d st : Int) (p6 p8 : Nat) (w : World) (hl : Lp w.heap.size w A n l) (hn : n ≤ 110) (k6 : w.cell? ⟨p6, 0, none⟩ = some (.int .i64 d)) (k8 : w.heap[p8]? = some (.cells #[.int .i64 st] tI)) (b0 : -1000000000 ≤ st) (b1 : st ≤ 4000000000000000) :
    Calls Tryd.prog 35 #[.slice A n c, .pointer (some ⟨p6, 0, none⟩), .pointer (some ⟨p8, 0, none⟩)] w (RetB (.int .i64 (st + Lpm.leV l d)) w) := by
  obtain ⟨q0, q1⟩ := le_bd l d
  have HL := Lib.hid (Length_c (day := d) (c := c) hl (Nat.le_refl _) hn (Below.refl w.heap.size w))
  generalize Lpm.leV l d = N at *
  clear hl
  have kx := Lib.hid k8
  clear k8
  go_enter Tryd.func35, Tryd.ntmps35
  go_wp2_with fail
  refine HL.out.mono ?_
  rintro e w1 ⟨rfl, hn1⟩
  have k8 := blk1 (keep' kx.out hn1)
  clear k6
  go_wp2
  go_ret
  exact ⟨rfl, hn1⟩
/-- are both editions well-formed? -/
def foB (a b : Ed) (la lb : Lpm.LL) : Bool := formedB a la && formedB b lb
def foE (a b : Ed) (la lb : Lpm.LL) : Int := if foB a b la lb then 0 else 1
def foV (a b : Ed) (la lb : Lpm.LL) : Bool := foB a b la lb && decide (b.ver = a.ver + 1) && decide (a.frm ≤ b.frm) && (match dif la lb with
  | none => true
  | some d => decide (b.frm ≤ Lpm.stV la d + Lpm.leV la d) && decide (b.frm ≤ Lpm.stV la d + Lpm.leV lb d))
theorem fo_ret {a b : Ed} {la lb : Lpm.LL} {x : Bool} {e : Int} (h1 : foV a b la lb = x) (h2 : foE a b la lb = e) : Ending.returned (.tuple #[.bool x, .int .i64 e]) = .returned (.tuple #[.bool (foV a b la lb), .int .i64 (foE a b la lb)]) := by rw [h1, h2]
theorem fo_a {a b : Ed} {la lb : Lpm.LL} (h : formedB a la = false) : foV a b la lb = false ∧ foE a b la lb = 1 := by simp [foV, foE, foB, h]
theorem fo_b {a b : Ed} {la lb : Lpm.LL} (h : formedB b lb = false) : foV a b la lb = false ∧ foE a b la lb = 1 := by simp [foV, foE, foB, h]
theorem fo_e {a b : Ed} {la lb : Lpm.LL} (h : formedB a la = true) (h' : formedB b lb = true) : foE a b la lb = 0 := by simp [foE, foB, h, h']
theorem fo_v {a b : Ed} {la lb : Lpm.LL} (h : ¬ b.ver = a.ver + 1) : foV a b la lb = false := by simp [foV, h]
theorem fo_f {a b : Ed} {la lb : Lpm.LL} (h : b.frm < a.frm) : foV a b la lb = false := by simp [foV]; intro _ _ h'; omega
theorem fo_n {a b : Ed} {la lb : Lpm.LL} (h : formedB a la = true) (h' : formedB b lb = true) (hv : b.ver = a.ver + 1) (hf : ¬ b.frm < a.frm) (hd : dif la lb = none) : foV a b la lb = true := by
  unfold foV foB; rw [h, h', hd, decide_eq_true hv, decide_eq_true (by omega : a.frm ≤ b.frm)]; rfl
theorem fo_s {a b : Ed} {la lb : Lpm.LL} {d : Int} (h : formedB a la = true) (h' : formedB b lb = true) (hv : b.ver = a.ver + 1) (hf : ¬ b.frm < a.frm) (hd : dif la lb = some d) :
    foV a b la lb = (decide (b.frm ≤ Lpm.stV la d + Lpm.leV la d) && decide (b.frm ≤ Lpm.stV la d + Lpm.leV lb d)) := by
  unfold foV foB; rw [h, h', hd, decide_eq_true hv, decide_eq_true (by omega : a.frm ≤ b.frm)]; rfl
set_option maxHeartbeats 2000000 in
set_option maxRecDepth 100000 in
theorem Follows_any (A1 A2 : Option Addr) (n1 c1 n2 c2 : Nat) (la lb : Lpm.LL) (a b : Ed) (w : World) (h1 : Lp w.heap.size w A1 n1 la) (h2 : Lp w.heap.size w A2 n2 lb) (m1 : n1 ≤ 110) (m2 : n2 ≤ 110) :
    Calls Tryd.prog 13 #[(.agg #[.int .i64 a.ver, .int .i64 a.frm, .int .i64 a.unt, .slice A1 n1 c1, .int .i64 a.sc, .int .i64 a.ss]), (.agg #[.int .i64 b.ver, .int .i64 b.frm, .int .i64 b.unt, .slice A2 n2 c2, .int .i64 b.sc, .int .i64 b.ss])] w (RetB (.tuple #[.bool (foV a b la lb), .int .i64 (foE a b la lb)]) w) := by
  have H1 : Hid (∀ W, Below w.heap.size w W → Lp W.heap.size W A1 n1 la) := Lib.hid fun W hW => h1.go hW
  have H2 : Hid (∀ W, Below w.heap.size w W → Lp W.heap.size W A2 n2 lb) := Lib.hid fun W hW => h2.go hW
  clear h1 h2
  have hb := Below.goN (Below.goN (Below.refl w.heap.size w) (.cells #[.int .i64 a.ver, .int .i64 a.frm, .int .i64 a.unt, .slice A1 n1 c1, .int .i64 a.sc, .int .i64 a.ss] 43)) (.cells #[.int .i64 b.ver, .int .i64 b.frm, .int .i64 b.unt, .slice A2 n2 c2, .int .i64 b.sc, .int .i64 b.ss] 43)
  have ka := Lib.hid (new0 w (.cells #[.int .i64 a.ver, .int .i64 a.frm, .int .i64 a.unt, .slice A1 n1 c1, .int .i64 a.sc, .int .i64 a.ss] 43) (.cells #[.int .i64 b.ver, .int .i64 b.frm, .int .i64 b.unt, .slice A2 n2 c2, .int .i64 b.sc, .int .i64 b.ss] 43))
  have kb := Lib.hid (new1 w (.cells #[.int .i64 a.ver, .int .i64 a.frm, .int .i64 a.unt, .slice A1 n1 c1, .int .i64 a.sc, .int .i64 a.ss] 43) (.cells #[.int .i64 b.ver, .int .i64 b.frm, .int .i64 b.unt, .slice A2 n2 c2, .int .i64 b.sc, .int .i64 b.ss] 43))
  obtain ⟨a0, a1, a2, a3, a4, a5⟩ := blk6 ka.out
  obtain ⟨b0, b1, b2, b3, b4, b5⟩ := blk6 kb.out
  go_enter Tryd.func13, Tryd.ntmps13
  go_wp2_with fail
  refine (formed_any A1 n1 c1 la a _ (H1.out _ hb) m1).mono ?_
  rintro e w1 ⟨rfl, hn⟩
  have hb := Below.go hb hn
  have ka := Lib.hid (keep' ka.out hn)
  have kb := Lib.hid (keep' kb.out hn)
  clear hn
  obtain ⟨a0, a1, a2, a3, a4, a5⟩ := blk6 ka.out
  obtain ⟨b0, b1, b2, b3, b4, b5⟩ := blk6 kb.out
  cases fa : formedB a la
  · have HV := Lib.hid (fo_a (b := b) (lb := lb) fa)
    clear fa
    go_wp2
    go_ret2
    exact ⟨fo_ret HV.out.1 HV.out.2, hb⟩
  go_wp2_with fail
  refine (formed_any A2 n2 c2 lb b _ (H2.out _ hb) m2).mono ?_
  rintro e w2 ⟨rfl, hn⟩
  have hb := Below.go hb hn
  have ka := Lib.hid (keep' ka.out hn)
  have kb := Lib.hid (keep' kb.out hn)
  clear hn
  obtain ⟨a0, a1, a2, a3, a4, a5⟩ := blk6 ka.out
  obtain ⟨b0, b1, b2, b3, b4, b5⟩ := blk6 kb.out
  cases fb : formedB b lb
  · have HV := Lib.hid (fo_b (a := a) (la := la) fb)
    clear fb
    go_wp2
    go_ret2
    exact ⟨fo_ret HV.out.1 HV.out.2, hb⟩
  have va : 1 ≤ a.ver ∧ a.ver ≤ 1000 := by have := fa; unfold formedB at this; simp at this; exact ⟨this.1.1, this.1.2.1⟩
  have vb : 0 ≤ b.frm ∧ b.frm ≤ 3000000000000000 := by have := fb; unfold formedB at this; simp at this; omega
  have HE := Lib.hid (fo_e fa fb)
  by_cases hv : b.ver = a.ver + 1
  case neg =>
    have HV := Lib.hid (fo_v (la := la) (lb := lb) hv)
    have u : (b.ver == a.ver + 1) = false := by rw [beq_eq_false_iff_ne]; exact hv
    clear fa fb
    go_wp2
    go_ret2
    exact ⟨fo_ret HV.out HE.out, hb⟩
  have u : (b.ver == a.ver + 1) = true := by rw [beq_iff_eq]; exact hv
  have Hv := Lib.hid hv
  clear hv
  by_cases hf : b.frm < a.frm
  case pos =>
    have HV := Lib.hid (fo_f (la := la) (lb := lb) hf)
    clear fa fb
    go_wp2
    go_ret2
    exact ⟨fo_ret HV.out HE.out, hb⟩
  have hf' : decide (b.frm < a.frm) = false := decide_eq_false hf
  have FA := Lib.hid fa
  have FB := Lib.hid fb
  clear fa fb
  cases hd : dif la lb with
  | none =>
    have HD := fun (W : World) (hb : Below w.heap.size w W) => difference_any A1 A2 n1 c1 n2 c2 la lb W (H1.out W hb) (H2.out W hb) m1 m2
    unfold difV at HD
    rw [hd] at HD
    have HD := Lib.hid HD
    have HV := Lib.hid (fo_n FA.out FB.out Hv.out hf hd)
    clear hd
    go_wp2_with fail
    refine (HD.out _ hb).mono ?_
    rintro e w3 ⟨rfl, hn⟩
    have hb := Below.go hb hn
    clear hn
    simp only [Option.getD_none, Option.isSome_none]
    have hb3 := Below.goN hb (.cells #[.int .i64 0] tI)
    go_wp2
    go_ret2
    exact ⟨fo_ret HV.out HE.out, hb3⟩
  | some d =>
    have HD := fun (W : World) (hb : Below w.heap.size w W) => difference_any A1 A2 n1 c1 n2 c2 la lb W (H1.out W hb) (H2.out W hb) m1 m2
    unfold difV at HD
    rw [hd] at HD
    have HD := Lib.hid HD
    have HV := Lib.hid (fo_s FA.out FB.out Hv.out hf hd)
    clear hd
    go_wp2_with fail
    refine (HD.out _ hb).mono ?_
    rintro e w3 ⟨rfl, hn⟩
    have hb := Below.go hb hn
    have ka := Lib.hid (keep' ka.out hn)
    have kb := Lib.hid (keep' kb.out hn)
    clear hn
    simp only [Option.getD_some, Option.isSome_some]
    have k6 := Lib.hid (heap_new w3 (.cells #[.int .i64 d] tI))
    have ka := Lib.hid (keepN ka.out (.cells #[.int .i64 d] tI))
    have kb := Lib.hid (keepN kb.out (.cells #[.int .i64 d] tI))
    have hb := Below.goN hb (.cells #[.int .i64 d] tI)
    have k60 := blk1 k6.out
    obtain ⟨a0, a1, a2, a3, a4, a5⟩ := blk6 ka.out
    have HS := Lib.hid (fun (W : World) (hb : Below w.heap.size w W) => Start_c (day := d) (c := c1) (H1.out W hb) (Nat.le_refl _) m1 (Below.refl W.heap.size W))
    obtain ⟨s0, s1⟩ := st_bd la d
    generalize Lpm.stV la d = S at *
    go_wp2_with fail
    refine (HS.out _ hb).mono ?_
    rintro e w4 ⟨rfl, hn⟩
    have hb := Below.go hb hn
    have ka := Lib.hid (keepN (keep' ka.out hn) (.cells #[.int .i64 S] tI))
    have kb := Lib.hid (keepN (keep' kb.out hn) (.cells #[.int .i64 S] tI))
    have k6 := Lib.hid (keepN (keep' k6.out hn) (.cells #[.int .i64 S] tI))
    have k8 := Lib.hid (heap_new w4 (.cells #[.int .i64 S] tI))
    have hb := Below.goN hb (.cells #[.int .i64 S] tI)
    clear hn k60 a0 a1 a2 a3 a4 a5
    have HP : Hid (∀ W, Below (w4.alloc (.cells #[.int .i64 S] tI)).heap.size (w4.alloc (.cells #[.int .i64 S] tI)) W → W.cell? ⟨w.heap.size, 3, none⟩ = some (.slice A1 n1 c1) ∧ W.cell? ⟨w.heap.size + 1, 1, none⟩ = some (.int .i64 b.frm) ∧ W.cell? ⟨w.heap.size + 1, 3, none⟩ = some (.slice A2 n2 c2)) := Lib.hid fun W hW => ⟨(blk6 (keep' ka.out hW)).2.2.2.1, (blk6 (keep' kb.out hW)).2.1, (blk6 (keep' kb.out hW)).2.2.2.1⟩
    have CA : Hid (∀ W, Below (w4.alloc (.cells #[.int .i64 S] tI)).heap.size (w4.alloc (.cells #[.int .i64 S] tI)) W → Calls Tryd.prog 35 #[.slice A1 n1 c1, .pointer (some ⟨w3.heap.size, 0, none⟩), .pointer (some ⟨w4.heap.size, 0, none⟩)] W (fun e W' => e = .returned (.int .i64 (S + Lpm.leV la d)) ∧ Below (w4.alloc (.cells #[.int .i64 S] tI)).heap.size (w4.alloc (.cells #[.int .i64 S] tI)) W')) := Lib.hid fun W hW => (ends_any A1 n1 c1 la d S _ _ W (H1.out _ (Below.go hb hW)) m1 (blk1 (keep' k6.out hW)) (keep' k8.out hW) s0 s1).mono fun _ _ h => ⟨h.1, Below.go hW h.2⟩
    have CB : Hid (∀ W, Below (w4.alloc (.cells #[.int .i64 S] tI)).heap.size (w4.alloc (.cells #[.int .i64 S] tI)) W → Calls Tryd.prog 35 #[.slice A2 n2 c2, .pointer (some ⟨w3.heap.size, 0, none⟩), .pointer (some ⟨w4.heap.size, 0, none⟩)] W (fun e W' => e = .returned (.int .i64 (S + Lpm.leV lb d)) ∧ Below (w4.alloc (.cells #[.int .i64 S] tI)).heap.size (w4.alloc (.cells #[.int .i64 S] tI)) W')) := Lib.hid fun W hW => (ends_any A2 n2 c2 lb d S _ _ W (H2.out _ (Below.go hb hW)) m2 (blk1 (keep' k6.out hW)) (keep' k8.out hW) s0 s1).mono fun _ _ h => ⟨h.1, Below.go hW h.2⟩
    have hr0 := Below.refl (w4.alloc (.cells #[.int .i64 S] tI)).heap.size (w4.alloc (.cells #[.int .i64 S] tI))
    have hr1 := hr0.drew
    have hbw := hb
    generalize Lpm.leV la d = X at *
    generalize Lpm.leV lb d = Y at *
    clear ka kb k6 k8
    by_cases x : b.frm ≤ S + X
    · have x' : decide (b.frm ≤ S + X) = true := decide_eq_true x
      by_cases y : b.frm ≤ S + Y
      · have y' : decide (b.frm ≤ S + Y) = true := decide_eq_true y
        rw [x', y', Bool.true_and] at HV
        go_wp2_with fail
        refine wp_region_cls (fun _ W => Below (w4.alloc (.cells #[.int .i64 S] tI)).heap.size (w4.alloc (.cells #[.int .i64 S] tI)) W) (by kernel_rfl) (by kernel_rfl) hr1 ?_
        refine cls_pure (.pointer (some ⟨w.heap.size + 1, 1, none⟩)) (fun L W h => h) (by kernel_rfl) (fun L W h0 h1 h2 => by go_simp) ?_
        simp only [Act.put, List.setIfInBounds_toArray, List.set_cons_succ, List.set_cons_zero]
        refine cls_pure (.int .i64 b.frm) (fun L W h => h) (by kernel_rfl) (fun L W h0 h1 h2 => by obtain ⟨e1, e2, e3⟩ := HP.out W h2; go_simp) ?_
        simp only [Act.put, List.setIfInBounds_toArray, List.set_cons_succ, List.set_cons_zero]
        refine cls_pure (.func (.func 35) #[] #[.pointer (some ⟨w3.heap.size, 0, none⟩), .pointer (some ⟨w4.heap.size, 0, none⟩)]) (fun L W h => h) (by kernel_rfl) (fun L W h0 h1 h2 => by go_simp) ?_
        simp only [Act.put, List.setIfInBounds_toArray, List.set_cons_succ, List.set_cons_zero]
        refine cls_pure (.pointer (some ⟨w.heap.size, 3, none⟩)) (fun L W h => h) (by kernel_rfl) (fun L W h0 h1 h2 => by go_simp) ?_
        simp only [Act.put, List.setIfInBounds_toArray, List.set_cons_succ, List.set_cons_zero]
        refine cls_pure (.slice A1 n1 c1) (fun L W h => h) (by kernel_rfl) (fun L W h0 h1 h2 => by obtain ⟨e1, e2, e3⟩ := HP.out W h2; go_simp) ?_
        simp only [Act.put, List.setIfInBounds_toArray, List.set_cons_succ, List.set_cons_zero]
        refine cls_call 35 #[.slice A1 n1 c1, .pointer (some ⟨w3.heap.size, 0, none⟩), .pointer (some ⟨w4.heap.size, 0, none⟩)] (.int .i64 (S + X)) (by kernel_rfl) (fun W => by go_simp) (fun L W h0 h1 h2 => CA.out W h2) ?_
        simp only [Act.put, List.setIfInBounds_toArray, List.set_cons_succ, List.set_cons_zero]
        refine cls_pure (.bool true) (fun L W h => h) (by kernel_rfl) (fun L W h0 h1 h2 => by go_simp) ?_
        simp only [Act.put, List.setIfInBounds_toArray, List.set_cons_succ, List.set_cons_zero]
        refine cls_pure (.bool true) (fun L W h => h) (by kernel_rfl) (fun L W h0 h1 h2 => by go_simp) ?_
        simp only [Act.put, List.setIfInBounds_toArray, List.set_cons_succ, List.set_cons_zero]
        refine cls_pure (.pointer (some ⟨w.heap.size + 1, 1, none⟩)) (fun L W h => h) (by kernel_rfl) (fun L W h0 h1 h2 => by go_simp) ?_
        simp only [Act.put, List.setIfInBounds_toArray, List.set_cons_succ, List.set_cons_zero]
        refine cls_pure (.int .i64 b.frm) (fun L W h => h) (by kernel_rfl) (fun L W h0 h1 h2 => by obtain ⟨e1, e2, e3⟩ := HP.out W h2; go_simp) ?_
        simp only [Act.put, List.setIfInBounds_toArray, List.set_cons_succ, List.set_cons_zero]
        refine cls_pure (.func (.func 35) #[] #[.pointer (some ⟨w3.heap.size, 0, none⟩), .pointer (some ⟨w4.heap.size, 0, none⟩)]) (fun L W h => h) (by kernel_rfl) (fun L W h0 h1 h2 => by go_simp) ?_
        simp only [Act.put, List.setIfInBounds_toArray, List.set_cons_succ, List.set_cons_zero]
        refine cls_pure (.pointer (some ⟨w.heap.size + 1, 3, none⟩)) (fun L W h => h) (by kernel_rfl) (fun L W h0 h1 h2 => by go_simp) ?_
        simp only [Act.put, List.setIfInBounds_toArray, List.set_cons_succ, List.set_cons_zero]
        refine cls_pure (.slice A2 n2 c2) (fun L W h => h) (by kernel_rfl) (fun L W h0 h1 h2 => by obtain ⟨e1, e2, e3⟩ := HP.out W h2; go_simp) ?_
        simp only [Act.put, List.setIfInBounds_toArray, List.set_cons_succ, List.set_cons_zero]
        refine cls_call 35 #[.slice A2 n2 c2, .pointer (some ⟨w3.heap.size, 0, none⟩), .pointer (some ⟨w4.heap.size, 0, none⟩)] (.int .i64 (S + Y)) (by kernel_rfl) (fun W => by go_simp) (fun L W h0 h1 h2 => CB.out W h2) ?_
        simp only [Act.put, List.setIfInBounds_toArray, List.set_cons_succ, List.set_cons_zero]
        refine cls_pure (.bool true) (fun L W h => h) (by kernel_rfl) (fun L W h0 h1 h2 => by go_simp) ?_
        simp only [Act.put, List.setIfInBounds_toArray, List.set_cons_succ, List.set_cons_zero]
        refine cls_pure (.bool true) (fun L W h => h) (by kernel_rfl) (fun L W h0 h1 h2 => by go_simp) ?_
        simp only [Act.put, List.setIfInBounds_toArray, List.set_cons_succ, List.set_cons_zero]
        refine cls_pure (.bool true) (fun L W h => h) (by kernel_rfl) (fun L W h0 h1 h2 => by go_simp) ?_
        simp only [Act.put, List.setIfInBounds_toArray, List.set_cons_succ, List.set_cons_zero]
        refine cls_pure (.int .i64 0) (fun L W h => h) (by kernel_rfl) (fun L W h0 h1 h2 => by go_simp) ?_
        simp only [Act.put, List.setIfInBounds_toArray, List.set_cons_succ, List.set_cons_zero]
        intro L W hL hC
        go_wp2
        go_ret2
        exact ⟨fo_ret HV.out HE.out, Below.go hbw hC⟩
      · have y' : decide (b.frm ≤ S + Y) = false := decide_eq_false y
        rw [x', y', Bool.and_false] at HV
        go_wp2_with fail
        refine wp_region_cls (fun _ W => Below (w4.alloc (.cells #[.int .i64 S] tI)).heap.size (w4.alloc (.cells #[.int .i64 S] tI)) W) (by kernel_rfl) (by kernel_rfl) hr1 ?_
        refine cls_pure (.pointer (some ⟨w.heap.size + 1, 1, none⟩)) (fun L W h => h) (by kernel_rfl) (fun L W h0 h1 h2 => by go_simp) ?_
        simp only [Act.put, List.setIfInBounds_toArray, List.set_cons_succ, List.set_cons_zero]
        refine cls_pure (.int .i64 b.frm) (fun L W h => h) (by kernel_rfl) (fun L W h0 h1 h2 => by obtain ⟨e1, e2, e3⟩ := HP.out W h2; go_simp) ?_
        simp only [Act.put, List.setIfInBounds_toArray, List.set_cons_succ, List.set_cons_zero]
        refine cls_pure (.func (.func 35) #[] #[.pointer (some ⟨w3.heap.size, 0, none⟩), .pointer (some ⟨w4.heap.size, 0, none⟩)]) (fun L W h => h) (by kernel_rfl) (fun L W h0 h1 h2 => by go_simp) ?_
        simp only [Act.put, List.setIfInBounds_toArray, List.set_cons_succ, List.set_cons_zero]
        refine cls_pure (.pointer (some ⟨w.heap.size, 3, none⟩)) (fun L W h => h) (by kernel_rfl) (fun L W h0 h1 h2 => by go_simp) ?_
        simp only [Act.put, List.setIfInBounds_toArray, List.set_cons_succ, List.set_cons_zero]
        refine cls_pure (.slice A1 n1 c1) (fun L W h => h) (by kernel_rfl) (fun L W h0 h1 h2 => by obtain ⟨e1, e2, e3⟩ := HP.out W h2; go_simp) ?_
        simp only [Act.put, List.setIfInBounds_toArray, List.set_cons_succ, List.set_cons_zero]
        refine cls_call 35 #[.slice A1 n1 c1, .pointer (some ⟨w3.heap.size, 0, none⟩), .pointer (some ⟨w4.heap.size, 0, none⟩)] (.int .i64 (S + X)) (by kernel_rfl) (fun W => by go_simp) (fun L W h0 h1 h2 => CA.out W h2) ?_
        simp only [Act.put, List.setIfInBounds_toArray, List.set_cons_succ, List.set_cons_zero]
        refine cls_pure (.bool true) (fun L W h => h) (by kernel_rfl) (fun L W h0 h1 h2 => by go_simp) ?_
        simp only [Act.put, List.setIfInBounds_toArray, List.set_cons_succ, List.set_cons_zero]
        refine cls_pure (.bool true) (fun L W h => h) (by kernel_rfl) (fun L W h0 h1 h2 => by go_simp) ?_
        simp only [Act.put, List.setIfInBounds_toArray, List.set_cons_succ, List.set_cons_zero]
        refine cls_pure (.pointer (some ⟨w.heap.size + 1, 1, none⟩)) (fun L W h => h) (by kernel_rfl) (fun L W h0 h1 h2 => by go_simp) ?_
        simp only [Act.put, List.setIfInBounds_toArray, List.set_cons_succ, List.set_cons_zero]
        refine cls_pure (.int .i64 b.frm) (fun L W h => h) (by kernel_rfl) (fun L W h0 h1 h2 => by obtain ⟨e1, e2, e3⟩ := HP.out W h2; go_simp) ?_
        simp only [Act.put, List.setIfInBounds_toArray, List.set_cons_succ, List.set_cons_zero]
        refine cls_pure (.func (.func 35) #[] #[.pointer (some ⟨w3.heap.size, 0, none⟩), .pointer (some ⟨w4.heap.size, 0, none⟩)]) (fun L W h => h) (by kernel_rfl) (fun L W h0 h1 h2 => by go_simp) ?_
        simp only [Act.put, List.setIfInBounds_toArray, List.set_cons_succ, List.set_cons_zero]
        refine cls_pure (.pointer (some ⟨w.heap.size + 1, 3, none⟩)) (fun L W h => h) (by kernel_rfl) (fun L W h0 h1 h2 => by go_simp) ?_
        simp only [Act.put, List.setIfInBounds_toArray, List.set_cons_succ, List.set_cons_zero]
        refine cls_pure (.slice A2 n2 c2) (fun L W h => h) (by kernel_rfl) (fun L W h0 h1 h2 => by obtain ⟨e1, e2, e3⟩ := HP.out W h2; go_simp) ?_
        simp only [Act.put, List.setIfInBounds_toArray, List.set_cons_succ, List.set_cons_zero]
        refine cls_call 35 #[.slice A2 n2 c2, .pointer (some ⟨w3.heap.size, 0, none⟩), .pointer (some ⟨w4.heap.size, 0, none⟩)] (.int .i64 (S + Y)) (by kernel_rfl) (fun W => by go_simp) (fun L W h0 h1 h2 => CB.out W h2) ?_
        simp only [Act.put, List.setIfInBounds_toArray, List.set_cons_succ, List.set_cons_zero]
        refine cls_pure (.bool false) (fun L W h => h) (by kernel_rfl) (fun L W h0 h1 h2 => by go_simp) ?_
        simp only [Act.put, List.setIfInBounds_toArray, List.set_cons_succ, List.set_cons_zero]
        refine cls_pure (.bool false) (fun L W h => h) (by kernel_rfl) (fun L W h0 h1 h2 => by go_simp) ?_
        simp only [Act.put, List.setIfInBounds_toArray, List.set_cons_succ, List.set_cons_zero]
        refine cls_pure (.bool false) (fun L W h => h) (by kernel_rfl) (fun L W h0 h1 h2 => by go_simp) ?_
        simp only [Act.put, List.setIfInBounds_toArray, List.set_cons_succ, List.set_cons_zero]
        refine cls_pure (.int .i64 0) (fun L W h => h) (by kernel_rfl) (fun L W h0 h1 h2 => by go_simp) ?_
        simp only [Act.put, List.setIfInBounds_toArray, List.set_cons_succ, List.set_cons_zero]
        intro L W hL hC
        go_wp2
        go_ret2
        exact ⟨fo_ret HV.out HE.out, Below.go hbw hC⟩
    · have x' : decide (b.frm ≤ S + X) = false := decide_eq_false x
      rw [x', Bool.false_and] at HV
      go_wp2_with fail
      refine wp_region_cls (fun _ W => Below (w4.alloc (.cells #[.int .i64 S] tI)).heap.size (w4.alloc (.cells #[.int .i64 S] tI)) W) (by kernel_rfl) (by kernel_rfl) hr1 ?_
      refine cls_pure (.pointer (some ⟨w.heap.size + 1, 1, none⟩)) (fun L W h => h) (by kernel_rfl) (fun L W h0 h1 h2 => by go_simp) ?_
      simp only [Act.put, List.setIfInBounds_toArray, List.set_cons_succ, List.set_cons_zero]
      refine cls_pure (.int .i64 b.frm) (fun L W h => h) (by kernel_rfl) (fun L W h0 h1 h2 => by obtain ⟨e1, e2, e3⟩ := HP.out W h2; go_simp) ?_
      simp only [Act.put, List.setIfInBounds_toArray, List.set_cons_succ, List.set_cons_zero]
      refine cls_pure (.func (.func 35) #[] #[.pointer (some ⟨w3.heap.size, 0, none⟩), .pointer (some ⟨w4.heap.size, 0, none⟩)]) (fun L W h => h) (by kernel_rfl) (fun L W h0 h1 h2 => by go_simp) ?_
      simp only [Act.put, List.setIfInBounds_toArray, List.set_cons_succ, List.set_cons_zero]
      refine cls_pure (.pointer (some ⟨w.heap.size, 3, none⟩)) (fun L W h => h) (by kernel_rfl) (fun L W h0 h1 h2 => by go_simp) ?_
      simp only [Act.put, List.setIfInBounds_toArray, List.set_cons_succ, List.set_cons_zero]
      refine cls_pure (.slice A1 n1 c1) (fun L W h => h) (by kernel_rfl) (fun L W h0 h1 h2 => by obtain ⟨e1, e2, e3⟩ := HP.out W h2; go_simp) ?_
      simp only [Act.put, List.setIfInBounds_toArray, List.set_cons_succ, List.set_cons_zero]
      refine cls_call 35 #[.slice A1 n1 c1, .pointer (some ⟨w3.heap.size, 0, none⟩), .pointer (some ⟨w4.heap.size, 0, none⟩)] (.int .i64 (S + X)) (by kernel_rfl) (fun W => by go_simp) (fun L W h0 h1 h2 => CA.out W h2) ?_
      simp only [Act.put, List.setIfInBounds_toArray, List.set_cons_succ, List.set_cons_zero]
      refine cls_pure (.bool false) (fun L W h => h) (by kernel_rfl) (fun L W h0 h1 h2 => by go_simp) ?_
      simp only [Act.put, List.setIfInBounds_toArray, List.set_cons_succ, List.set_cons_zero]
      refine cls_pure (.bool false) (fun L W h => h) (by kernel_rfl) (fun L W h0 h1 h2 => by go_simp) ?_
      simp only [Act.put, List.setIfInBounds_toArray, List.set_cons_succ, List.set_cons_zero]
      refine cls_not (fun L W h => h) (by kernel_rfl) ?_
      simp only [Act.put, List.setIfInBounds_toArray, List.set_cons_succ, List.set_cons_zero]
      refine cls_not (fun L W h => h) (by kernel_rfl) ?_
      simp only [Act.put, List.setIfInBounds_toArray, List.set_cons_succ, List.set_cons_zero]
      refine cls_not (fun L W h => h) (by kernel_rfl) ?_
      simp only [Act.put, List.setIfInBounds_toArray, List.set_cons_succ, List.set_cons_zero]
      refine cls_not (fun L W h => h) (by kernel_rfl) ?_
      simp only [Act.put, List.setIfInBounds_toArray, List.set_cons_succ, List.set_cons_zero]
      refine cls_not (fun L W h => h) (by kernel_rfl) ?_
      simp only [Act.put, List.setIfInBounds_toArray, List.set_cons_succ, List.set_cons_zero]
      refine cls_not (fun L W h => h) (by kernel_rfl) ?_
      simp only [Act.put, List.setIfInBounds_toArray, List.set_cons_succ, List.set_cons_zero]
      refine cls_not (fun L W h => h) (by kernel_rfl) ?_
      simp only [Act.put, List.setIfInBounds_toArray, List.set_cons_succ, List.set_cons_zero]
      refine cls_pure (.bool false) (fun L W h => h) (by kernel_rfl) (fun L W h0 h1 h2 => by go_simp) ?_
      simp only [Act.put, List.setIfInBounds_toArray, List.set_cons_succ, List.set_cons_zero]
      refine cls_pure (.bool false) (fun L W h => h) (by kernel_rfl) (fun L W h0 h1 h2 => by go_simp) ?_
      simp only [Act.put, List.setIfInBounds_toArray, List.set_cons_succ, List.set_cons_zero]
      refine cls_pure (.int .i64 0) (fun L W h => h) (by kernel_rfl) (fun L W h0 h1 h2 => by go_simp) ?_
      simp only [Act.put, List.setIfInBounds_toArray, List.set_cons_succ, List.set_cons_zero]
      intro L W hL hC
      go_wp2
      go_ret2
      exact ⟨fo_ret HV.out HE.out, Below.go hbw hC⟩
end Go.Proofs.YtcnenkhgbifmmaaDoor
