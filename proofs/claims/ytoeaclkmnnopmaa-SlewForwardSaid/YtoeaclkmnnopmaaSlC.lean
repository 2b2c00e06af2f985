/- The contracts of slew.Start, slew.Steer and slew.Left. -/
import Derived.Test.YtoeaclkmnnopmaaSlB
set_option linter.unusedVariables false
namespace Go.Proofs.Ytoeaclkmnnopmaa
open Go.RowKit
theorem ret_o {a s r a' s' r' e e' : Int} (h1 : a = a') (h2 : s = s') (h3 : r = r') (h4 : e = e') : Ending.returned (.tuple #[O3 a s r, .int .i64 e]) = .returned (.tuple #[O3 a' s' r', .int .i64 e']) := by rw [h1, h2, h3, h4]
def oB (b : Bool) (x : Int) : Int := if b then x else 0
theorem blk3 {W : World} {k : Nat} {x y z : Value} {t : TypeId} (h : W.heap[k]? = some (.cells #[x, y, z] t)) : (W.cell? ⟨k, 0, none⟩ = some x ∧ W.cell? ⟨k, 1, none⟩ = some y ∧ W.cell? ⟨k, 2, none⟩ = some z) ∧ W.frozen? ⟨k, 0, none⟩ = false ∧ W.frozen? ⟨k, 1, none⟩ = false ∧ W.frozen? ⟨k, 2, none⟩ = false := by
  simp [World.cell?, World.frozen?, h]
theorem keep {B : Nat} {W W' : World} {k : Nat} {o : Obj} (h : W.heap[k]? = some o) (hb : Below B W W') (hk : k < B) : W'.heap[k]? = some o := by rw [hb.block _ hk]; exact h
theorem new0 (w : World) (o p : Obj) : ((w.alloc o).alloc p).heap[w.heap.size]? = some o := (Below.heap_alloc _ _ _ (by simp)).trans (heap_new w o)
theorem new1 (w : World) (o p : Obj) : ((w.alloc o).alloc p).heap[w.heap.size + 1]? = some p := by have := heap_new (w.alloc o) p; rwa [World.size_alloc] at this
set_option maxHeartbeats 1000000 in
theorem Start_any (a s : Int) (w : World) : Calls Try.prog 16 #[.int .i64 a, .int .i64 s] w (RetB (.tuple #[O3 (oB (Slm.vO a s 0) a) (oB (Slm.vO a s 0) s) 0, .int .i64 (if Slm.vO a s 0 then 0 else 1)]) w) := by
  have hb0 : Below w.heap.size w ((w.alloc (.cells #[.int .i64 0, .int .i64 0, .int .i64 0] 23)).alloc (.cells #[.int .i64 a, .int .i64 s, .int .i64 0] 44)) := ((Below.refl _ _).alloc (Nat.le_refl _) _).alloc (by simp) _
  cases h1 : Slm.vO a s 0
  · go_enter Try.func16, Try.ntmps16
    go_wp2_with (go_at_call 19; refine (valid_any _ _ _ _).mono ?_; rintro e w1 ⟨rfl, hb1⟩; obtain ⟨⟨r0, r1, r2⟩, f0, f1, f2⟩ := blk3 (keep (new0 _ _ _) hb1 (by simp; omega)); obtain ⟨⟨c0, c1, c2⟩, _⟩ := blk3 (keep (new1 _ _ _) hb1 (by simp)))
    have hbase := hb0.trans (hb1.mono hb0.size)
    exact bodyPost_ret (v := .tuple #[O3 0 0 0, .int .i64 1]) (by simp [results, Try.results16, go_sem, r0, r1, r2]) rfl ⟨rfl, by (repeat (with_reducible first | exact hbase | refine Below.drew ?_ | refine Below.setCell ?_ ?_ _)); all_goals simp⟩
  · go_enter Try.func16, Try.ntmps16
    go_wp2_with (go_at_call 19; refine (valid_any _ _ _ _).mono ?_; rintro e w1 ⟨rfl, hb1⟩; obtain ⟨⟨r0, r1, r2⟩, f0, f1, f2⟩ := blk3 (keep (new0 _ _ _) hb1 (by simp; omega)); obtain ⟨⟨c0, c1, c2⟩, _⟩ := blk3 (keep (new1 _ _ _) hb1 (by simp)))
    have hbase := hb0.trans (hb1.mono hb0.size)
    exact bodyPost_ret (v := .tuple #[O3 a s 0, .int .i64 0]) (by simp [results, Try.results16, go_sem, r0, r1, r2]) rfl ⟨rfl, by (repeat (with_reducible first | exact hbase | refine Below.drew ?_ | refine Below.setCell ?_ ?_ _)); all_goals simp⟩
theorem new31 (w : World) (o p q : Obj) : (((w.alloc o).alloc p).alloc q).heap[w.heap.size + 1]? = some p := by have := new0 (w.alloc o) p q; rwa [World.size_alloc] at this
theorem new32 (w : World) (o p q : Obj) : (((w.alloc o).alloc p).alloc q).heap[w.heap.size + 2]? = some q := by have := new1 (w.alloc o) p q; rwa [World.size_alloc] at this
/-- what the walk of Steer knows behind each call -/
theorem steer_facts {w w1 : World} {x y z a s r : Value} {o : Obj} {t t' : TypeId} (hb : Below (((w.alloc o).alloc (.cells #[x, y, z] t)).alloc (.cells #[a, s, r] t')).heap.size (((w.alloc o).alloc (.cells #[x, y, z] t)).alloc (.cells #[a, s, r] t')) w1) :
    ((w1.cell? ⟨w.heap.size + 1, 0, none⟩ = some x ∧ w1.cell? ⟨w.heap.size + 1, 1, none⟩ = some y ∧ w1.cell? ⟨w.heap.size + 1, 2, none⟩ = some z) ∧ w1.frozen? ⟨w.heap.size + 1, 0, none⟩ = false ∧ w1.frozen? ⟨w.heap.size + 1, 1, none⟩ = false ∧ w1.frozen? ⟨w.heap.size + 1, 2, none⟩ = false) ∧
    (w1.cell? ⟨w.heap.size + 2, 0, none⟩ = some a ∧ w1.cell? ⟨w.heap.size + 2, 1, none⟩ = some s ∧ w1.cell? ⟨w.heap.size + 2, 2, none⟩ = some r) ∧ Below w.heap.size w w1 := by
  have hb0 : Below w.heap.size w (((w.alloc o).alloc (.cells #[x, y, z] t)).alloc (.cells #[a, s, r] t')) := (((Below.refl _ _).alloc (Nat.le_refl _) _).alloc (by simp) _).alloc (by simp; omega) _
  exact ⟨blk3 (keep (new31 _ _ _ _) hb (by simp)), (blk3 (keep (new32 _ _ _ _) hb (by simp))).1, hb0.trans (hb.mono hb0.size)⟩
theorem stB_ways {a s r t want l h : Int} (e : Slm.stB a s r t want l h = false) : Slm.vO a s r = false ∨ (Slm.vO a s r = true ∧ Slm.tT t = false) ∨ (Slm.vO a s r = true ∧ Slm.tT t = true ∧ Slm.tT want = false) ∨
    (Slm.vO a s r = true ∧ Slm.tT t = true ∧ Slm.tT want = true ∧ ¬ (0 ≤ l ∧ l ≤ 100000000 ∧ 1 ≤ h ∧ h ≤ 1000000000000)) := by
  unfold Slm.stB at e
  cases h1 : Slm.vO a s r
  · exact .inl rfl
  cases h2 : Slm.tT t
  · exact .inr (.inl ⟨rfl, rfl⟩)
  cases h3 : Slm.tT want
  · exact .inr (.inr (.inl ⟨rfl, rfl, rfl⟩))
  rw [h1, h2, h3] at e
  refine .inr (.inr (.inr ⟨rfl, rfl, rfl, fun hh => ?_⟩))
  simp [hh.1, hh.2.1, hh.2.2.1, hh.2.2.2] at e
set_option maxHeartbeats 2000000 in
theorem Steer_any (a s r t want l h : Int) (w : World) : Calls Try.prog 12 #[O3 a s r, .int .i64 t, .int .i64 want, .int .i64 l, .int .i64 h] w (RetB (.tuple #[O3 (Slm.stA a s r t want l h) (Slm.stS a s r t want l h) (Slm.stR a s r t want l h), .int .i64 (Slm.stE a s r t want l h)]) w) := by
  cases hB : Slm.stB a s r t want l h
  · have hz : Hid (Slm.stE a s r t want l h = 1) := Lib.hid (by unfold Slm.stE; rw [hB]; rfl)
    have hz2 := Lib.hid (Slm.st_off (a := a) (s := s) (r := r) (t := t) (want := want) (l := l) (h := h) (by rw [hz.out]; omega))
    rcases stB_ways hB with h1 | ⟨h1, h2⟩ | ⟨h1, h2, h3⟩ | ⟨h1, h2, h3, h4⟩
    all_goals
      clear hB
      go_enter Try.func12, Try.ntmps12
      go_wp2_with (first | (go_at_call 19; refine (valid_any _ _ _ _).mono ?_; rintro e w1 ⟨rfl, hb1⟩; obtain ⟨⟨⟨r0, r1, r2⟩, f0, f1, f2⟩, ⟨c0, c1, c2⟩, hbase⟩ := steer_facts hb1) | (go_at_call 20; refine (slT_any _ _).mono ?_; rintro e w' ⟨rfl, rfl⟩))
      all_goals exact bodyPost_ret (v := .tuple #[O3 0 0 0, .int .i64 1]) (by simp [results, Try.results12, go_sem, r0, r1, r2]) rfl ⟨ret_o hz2.out.1.symm hz2.out.2.1.symm hz2.out.2.2.symm hz.out.symm, by (repeat (with_reducible first | exact hbase | refine Below.drew ?_ | refine Below.setCell ?_ ?_ _)); all_goals simp⟩
  obtain ⟨h1, ⟨t1, t2⟩, ⟨w1, w2⟩, ⟨l1, l2⟩, h3, h4⟩ := Slm.stB_bd hB
  have hT1 := Slm.tT_yes ⟨t1, t2⟩
  have hT2 := Slm.tT_yes ⟨w1, w2⟩
  have hE : Slm.stE a s r t want l h = Slm.shE a s r t := by unfold Slm.stE; rw [hB]; rfl
  clear hB
  by_cases he : Slm.shE a s r t = 0
  · obtain ⟨_, _, p1, p2, p3⟩ := Slm.sh_ok he
    have p4 := Slm.shn_bd h1 p1
    have p5 := (Slm.vO_bd h1).2.1.1
    obtain ⟨q1, q2, q3, q4, q5⟩ := Slm.st_ok (hE.trans he)
    have hz := Lib.hid ((⟨q3, q4, q5, hE.trans he⟩ : _ ∧ _ ∧ _ ∧ _))
    clear q1 q2 q3 q4 q5 hE
    go_enter Try.func12, Try.ntmps12
    go_wp2_with (first | (go_at_call 19; refine (valid_any _ _ _ _).mono ?_; rintro e w1 ⟨rfl, hb1⟩; obtain ⟨_, ⟨c0, c1, c2⟩, _⟩ := steer_facts hb1) | (go_at_call 20; refine (slT_any _ _).mono ?_; rintro e w' ⟨rfl, rfl⟩) | (go_at_call 17; refine (shows_any _ _ _ _ _).mono ?_; rintro e w2 ⟨rfl, hb2'⟩; have hb2 := hb1.trans (hb2'.mono hb1.size)) | (go_at_call 21; refine (speed_any _ _ _ _ (by omega) (by omega) (by omega) (by omega) (by omega) (by omega)).mono ?_; rintro e w3 ⟨rfl, hb3'⟩; have hb3 := hb2.trans (hb3'.mono hb2.size); obtain ⟨⟨⟨r0, r1, r2⟩, f0, f1, f2⟩, _, hbase⟩ := steer_facts hb3))
    exact bodyPost_ret (v := .tuple #[O3 t (Slm.shn a s r t) (Slm.spd (want - Slm.shn a s r t) l h), .int .i64 0]) (by simp [results, Try.results12, go_sem, r0, r1, r2]) rfl ⟨ret_o hz.out.1.symm hz.out.2.1.symm hz.out.2.2.1.symm hz.out.2.2.2.symm, by (repeat (with_reducible first | exact hbase | refine Below.drew ?_ | refine Below.setCell ?_ ?_ _)); all_goals simp⟩
  · have hn : (Slm.shE a s r t != 0) = true := by simpa using he
    have hz2 := Lib.hid (Slm.st_off (a := a) (s := s) (r := r) (t := t) (want := want) (l := l) (h := h) (by rw [hE]; exact he))
    have hz := Lib.hid hE
    clear hE he
    go_enter Try.func12, Try.ntmps12
    go_wp2_with (first | (go_at_call 19; refine (valid_any _ _ _ _).mono ?_; rintro e w1 ⟨rfl, hb1⟩; obtain ⟨_, ⟨c0, c1, c2⟩, _⟩ := steer_facts hb1) | (go_at_call 20; refine (slT_any _ _).mono ?_; rintro e w' ⟨rfl, rfl⟩) | (go_at_call 17; refine (shows_any _ _ _ _ _).mono ?_; rintro e w2 ⟨rfl, hb2'⟩; have hb2 := hb1.trans (hb2'.mono hb1.size); obtain ⟨⟨⟨r0, r1, r2⟩, f0, f1, f2⟩, _, hbase⟩ := steer_facts hb2))
    exact bodyPost_ret (v := .tuple #[O3 0 0 0, .int .i64 (Slm.shE a s r t)]) (by simp [results, Try.results12, go_sem, r0, r1, r2]) rfl ⟨ret_o hz2.out.1.symm hz2.out.2.1.symm hz2.out.2.2.symm hz.out.symm, by (repeat (with_reducible first | exact hbase | refine Below.drew ?_ | refine Below.setCell ?_ ?_ _)); all_goals simp⟩
end Go.Proofs.Ytoeaclkmnnopmaa
