/- The contract of the laws' head. -/
import Derived.Test.YtlmdjkkeocmehaaDrK
set_option linter.unusedVariables false
namespace Go.Proofs.Ytlmdjkkeocmehaa
open Go.RowKit
theorem Below.goD {w0 W w : World} (h : Below w0.heap.size w0 W) (hb : Below W.drew.heap.size W.drew w) : Below w0.heap.size w0 w := Below.go h.drew hb
theorem Below.goAD {w0 W w : World} {o : Obj} (h : Below w0.heap.size w0 W) (hb : Below (W.alloc o).drew.heap.size (W.alloc o).drew w) : Below w0.heap.size w0 w := Below.go (h.alloc h.size o).drew hb
theorem keepD {W W' : World} {k : Nat} {o : Obj} (h : W.heap[k]? = some o) (hb : Below W.drew.heap.size W.drew W') : W'.heap[k]? = some o := keep' (W := W.drew) h hb
theorem keepAD {W W' : World} {k : Nat} {o p : Obj} (h : W.heap[k]? = some o) (hb : Below (W.alloc p).drew.heap.size (W.alloc p).drew W') : W'.heap[k]? = some o := keep' (W := (W.alloc p).drew) (keepN h p) hb
theorem newAD {W W' : World} {o : Obj} (hb : Below (W.alloc o).drew.heap.size (W.alloc o).drew W') : W'.heap[W.heap.size]? = some o := keep' (W := (W.alloc o).drew) (heap_new W o) hb
def exL : List Tab.Sg := [⟨7, 0, 0, 0, 0⟩, ⟨0, 0, 0, 0, 0⟩]
abbrev oL2 (a b : Int) : Obj := .cells #[.int .i64 a, .int .i64 0, .int .i64 0, .int .i64 0, .int .i64 0, .int .i64 b, .int .i64 0, .int .i64 0, .int .i64 0, .int .i64 0] 45
theorem lg2 {W : World} {b : Nat} (h : W.heap[b]? = some (oL2 7 0)) : Lg W.heap.size W (some ⟨b, 0, none⟩) 2 exL := by
  refine ⟨rfl, fun _ => ⟨b, 0, rfl, lt_of_heap h, fun j hj => ?_⟩⟩
  rcases (show j = 0 ∨ j = 1 by omega) with rfl | rfl
  · simp [World.cell?, h, exL, Tab.sAt]
  · simp [World.cell?, h, exL, Tab.sAt]
theorem ex_e1 (W : World) : Calls Try.prog 17 #[.int .i64 50000, .int .i64 1000000] W (RetB (.tuple #[I2 999950 1000051, .int .i64 0]) W) := Elapsed_any 50000 1000000 W
theorem ex_e2 (W : World) : Calls Try.prog 17 #[.int .i64 1000000, .int .i64 0] W (RetB (.tuple #[I2 0 1, .int .i64 0]) W) := Elapsed_any 1000000 0 W
theorem ex_c (W : World) : Calls Try.prog 19 #[.int .i64 50000, .int .i64 1000000] W (RetB (.tuple #[I2 999950 1000050, .int .i64 0]) W) := Counts_any 50000 1000000 W
theorem ex_r1 {v : TabV} {W : World} (h : TabIn W v exT) : Calls Try.prog 11 #[T3 v, .int .i64 25, .int .i64 99] W (RetB (.tuple #[.int .i64 30, .int .i64 0]) W) := Rate_any v exT 25 99 W h
theorem ex_r2 {v : TabV} {W : World} (h : TabIn W v exT) : Calls Try.prog 11 #[T3 v, .int .i64 (-41), .int .i64 0] W (RetB (.tuple #[.int .i64 0, .int .i64 3]) W) := Rate_any v exT (-41) 0 W h
theorem ex_w {v : TabV} {W : World} (h : TabIn W v exT) : Calls Try.prog 15 #[T3 v, I2 0 30, I2 0 99] W (RetB (.tuple #[.int .i64 50, .int .i64 0]) W) := Worst_any v exT 0 30 0 99 W h
theorem ex_s {v : TabV} {W : World} {b : Nat} (h : TabIn W v exT) (hl : W.heap[b]? = some (oL2 7 0)) : Calls Try.prog 21 #[T3 v, .slice (some ⟨b, 0, none⟩) 2 2] W (RetB (.tuple #[I2 6 9, .int .i64 0]) W) := Several_any v exT (some ⟨b, 0, none⟩) 2 2 exL W h (lg2 hl) (by omega)
set_option maxHeartbeats 2000000 in
set_option maxRecDepth 100000 in
theorem head_any (w : World) : Calls Try.prog 9 #[] w (RetB (.bool true) w) := by
  have hb := Below.refl w.heap.size w
  go_enter Try.func9, Try.ntmps9
  go_wp2_with fail
  refine (ex_e1 _).mono ?_
  rintro e wN ⟨rfl, hn⟩
  have hb := (by first | exact Below.go hb hn | exact Below.goA hb hn | exact Below.goAA hb hn | exact Below.goD hb hn | exact Below.goAD hb hn : Below w.heap.size w wN)
  clear hn
  go_wp2_with fail
  refine (ex_e2 _).mono ?_
  rintro e wN ⟨rfl, hn⟩
  have hb := (by first | exact Below.go hb hn | exact Below.goA hb hn | exact Below.goAA hb hn | exact Below.goD hb hn | exact Below.goAD hb hn : Below w.heap.size w wN)
  have ka := Lib.hid (by first | exact keep' (heap_new _ _) hn | exact newAD hn)
  clear hn
  obtain ⟨⟨ka0, ka1⟩, -⟩ := blk2 ka.out
  have kaz := lt_of_heap ka.out
  go_wp2_with fail
  refine (ex_c _).mono ?_
  rintro e wN ⟨rfl, hn⟩
  have hb := (by first | exact Below.go hb hn | exact Below.goA hb hn | exact Below.goAA hb hn | exact Below.goD hb hn | exact Below.goAD hb hn : Below w.heap.size w wN)
  have ka := Lib.hid (by first | exact keep' ka.out hn | exact keepA ka.out hn | exact keepAA ka.out hn | exact keepD ka.out hn | exact keepAD ka.out hn)
  have kb := Lib.hid (by first | exact keep' (heap_new _ _) hn | exact newAD hn)
  clear hn
  obtain ⟨⟨ka0, ka1⟩, -⟩ := blk2 ka.out
  have kaz := lt_of_heap ka.out
  obtain ⟨⟨kb0, kb1⟩, -⟩ := blk2 kb.out
  have kbz := lt_of_heap kb.out
  go_wp2_with fail
  refine (example_any _).mono ?_
  rintro e wN ⟨vN, rfl, hown, hn⟩
  have hb := (by first | exact Below.go hb hn | exact Below.goA hb hn | exact Below.goAA hb hn | exact Below.goD hb hn | exact Below.goAD hb hn : Below w.heap.size w wN)
  have ka := Lib.hid (by first | exact keep' ka.out hn | exact keepA ka.out hn | exact keepAA ka.out hn | exact keepD ka.out hn | exact keepAD ka.out hn)
  have kb := Lib.hid (by first | exact keep' kb.out hn | exact keepA kb.out hn | exact keepAA kb.out hn | exact keepD kb.out hn | exact keepAD kb.out hn)
  have kc := Lib.hid (by first | exact keep' (heap_new _ _) hn | exact newAD hn)
  clear hn
  obtain ⟨⟨ka0, ka1⟩, -⟩ := blk2 ka.out
  have kaz := lt_of_heap ka.out
  obtain ⟨⟨kb0, kb1⟩, -⟩ := blk2 kb.out
  have kbz := lt_of_heap kb.out
  obtain ⟨⟨kc0, kc1⟩, -⟩ := blk2 kc.out
  have kcz := lt_of_heap kc.out
  go_wp2_with fail
  refine (ex_r1 hown).mono ?_
  rintro e wN ⟨rfl, hn⟩
  have hb := (by first | exact Below.go hb hn | exact Below.goA hb hn | exact Below.goAA hb hn | exact Below.goD hb hn | exact Below.goAD hb hn : Below w.heap.size w wN)
  have ka := Lib.hid (by first | exact keep' ka.out hn | exact keepA ka.out hn | exact keepAA ka.out hn | exact keepD ka.out hn | exact keepAD ka.out hn)
  have kb := Lib.hid (by first | exact keep' kb.out hn | exact keepA kb.out hn | exact keepAA kb.out hn | exact keepD kb.out hn | exact keepAD kb.out hn)
  have kc := Lib.hid (by first | exact keep' kc.out hn | exact keepA kc.out hn | exact keepAA kc.out hn | exact keepD kc.out hn | exact keepAD kc.out hn)
  clear hn
  obtain ⟨⟨ka0, ka1⟩, -⟩ := blk2 ka.out
  have kaz := lt_of_heap ka.out
  obtain ⟨⟨kb0, kb1⟩, -⟩ := blk2 kb.out
  have kbz := lt_of_heap kb.out
  obtain ⟨⟨kc0, kc1⟩, -⟩ := blk2 kc.out
  have kcz := lt_of_heap kc.out
  clear hown
  go_wp2_with fail
  refine (example_any _).mono ?_
  rintro e wN ⟨vN, rfl, hown, hn⟩
  have hb := (by first | exact Below.go hb hn | exact Below.goA hb hn | exact Below.goAA hb hn | exact Below.goD hb hn | exact Below.goAD hb hn : Below w.heap.size w wN)
  have ka := Lib.hid (by first | exact keep' ka.out hn | exact keepA ka.out hn | exact keepAA ka.out hn | exact keepD ka.out hn | exact keepAD ka.out hn)
  have kb := Lib.hid (by first | exact keep' kb.out hn | exact keepA kb.out hn | exact keepAA kb.out hn | exact keepD kb.out hn | exact keepAD kb.out hn)
  have kc := Lib.hid (by first | exact keep' kc.out hn | exact keepA kc.out hn | exact keepAA kc.out hn | exact keepD kc.out hn | exact keepAD kc.out hn)
  clear hn
  obtain ⟨⟨ka0, ka1⟩, -⟩ := blk2 ka.out
  have kaz := lt_of_heap ka.out
  obtain ⟨⟨kb0, kb1⟩, -⟩ := blk2 kb.out
  have kbz := lt_of_heap kb.out
  obtain ⟨⟨kc0, kc1⟩, -⟩ := blk2 kc.out
  have kcz := lt_of_heap kc.out
  go_wp2_with fail
  refine (ex_w hown).mono ?_
  rintro e wN ⟨rfl, hn⟩
  have hb := (by first | exact Below.go hb hn | exact Below.goA hb hn | exact Below.goAA hb hn | exact Below.goD hb hn | exact Below.goAD hb hn : Below w.heap.size w wN)
  have ka := Lib.hid (by first | exact keep' ka.out hn | exact keepA ka.out hn | exact keepAA ka.out hn | exact keepD ka.out hn | exact keepAD ka.out hn)
  have kb := Lib.hid (by first | exact keep' kb.out hn | exact keepA kb.out hn | exact keepAA kb.out hn | exact keepD kb.out hn | exact keepAD kb.out hn)
  have kc := Lib.hid (by first | exact keep' kc.out hn | exact keepA kc.out hn | exact keepAA kc.out hn | exact keepD kc.out hn | exact keepAD kc.out hn)
  clear hn
  obtain ⟨⟨ka0, ka1⟩, -⟩ := blk2 ka.out
  have kaz := lt_of_heap ka.out
  obtain ⟨⟨kb0, kb1⟩, -⟩ := blk2 kb.out
  have kbz := lt_of_heap kb.out
  obtain ⟨⟨kc0, kc1⟩, -⟩ := blk2 kc.out
  have kcz := lt_of_heap kc.out
  clear hown
  go_wp2_with fail
  refine (example_any _).mono ?_
  rintro e wN ⟨vN, rfl, hown, hn⟩
  have hb := (by first | exact Below.go hb hn | exact Below.goA hb hn | exact Below.goAA hb hn | exact Below.goD hb hn | exact Below.goAD hb hn : Below w.heap.size w wN)
  have ka := Lib.hid (by first | exact keep' ka.out hn | exact keepA ka.out hn | exact keepAA ka.out hn | exact keepD ka.out hn | exact keepAD ka.out hn)
  have kb := Lib.hid (by first | exact keep' kb.out hn | exact keepA kb.out hn | exact keepAA kb.out hn | exact keepD kb.out hn | exact keepAD kb.out hn)
  have kc := Lib.hid (by first | exact keep' kc.out hn | exact keepA kc.out hn | exact keepAA kc.out hn | exact keepD kc.out hn | exact keepAD kc.out hn)
  clear hn
  obtain ⟨⟨ka0, ka1⟩, -⟩ := blk2 ka.out
  have kaz := lt_of_heap ka.out
  obtain ⟨⟨kb0, kb1⟩, -⟩ := blk2 kb.out
  have kbz := lt_of_heap kb.out
  obtain ⟨⟨kc0, kc1⟩, -⟩ := blk2 kc.out
  have kcz := lt_of_heap kc.out
  go_wp2_with fail
  refine (ex_r2 hown).mono ?_
  rintro e wN ⟨rfl, hn⟩
  have hb := (by first | exact Below.go hb hn | exact Below.goA hb hn | exact Below.goAA hb hn | exact Below.goD hb hn | exact Below.goAD hb hn : Below w.heap.size w wN)
  have ka := Lib.hid (by first | exact keep' ka.out hn | exact keepA ka.out hn | exact keepAA ka.out hn | exact keepD ka.out hn | exact keepAD ka.out hn)
  have kb := Lib.hid (by first | exact keep' kb.out hn | exact keepA kb.out hn | exact keepAA kb.out hn | exact keepD kb.out hn | exact keepAD kb.out hn)
  have kc := Lib.hid (by first | exact keep' kc.out hn | exact keepA kc.out hn | exact keepAA kc.out hn | exact keepD kc.out hn | exact keepAD kc.out hn)
  clear hn
  obtain ⟨⟨ka0, ka1⟩, -⟩ := blk2 ka.out
  have kaz := lt_of_heap ka.out
  obtain ⟨⟨kb0, kb1⟩, -⟩ := blk2 kb.out
  have kbz := lt_of_heap kb.out
  obtain ⟨⟨kc0, kc1⟩, -⟩ := blk2 kc.out
  have kcz := lt_of_heap kc.out
  clear hown
  go_wp2_with fail
  refine (example_any _).mono ?_
  rintro e wN ⟨vN, rfl, hown, hn⟩
  have hb := (by first | exact Below.go hb hn | exact Below.goA hb hn | exact Below.goAA hb hn | exact Below.goD hb hn | exact Below.goAD hb hn : Below w.heap.size w wN)
  have ka := Lib.hid (by first | exact keep' ka.out hn | exact keepA ka.out hn | exact keepAA ka.out hn | exact keepD ka.out hn | exact keepAD ka.out hn)
  have kb := Lib.hid (by first | exact keep' kb.out hn | exact keepA kb.out hn | exact keepAA kb.out hn | exact keepD kb.out hn | exact keepAD kb.out hn)
  have kc := Lib.hid (by first | exact keep' kc.out hn | exact keepA kc.out hn | exact keepAA kc.out hn | exact keepD kc.out hn | exact keepAD kc.out hn)
  clear hn
  obtain ⟨⟨ka0, ka1⟩, -⟩ := blk2 ka.out
  have kaz := lt_of_heap ka.out
  obtain ⟨⟨kb0, kb1⟩, -⟩ := blk2 kb.out
  have kbz := lt_of_heap kb.out
  obtain ⟨⟨kc0, kc1⟩, -⟩ := blk2 kc.out
  have kcz := lt_of_heap kc.out
  go_wp2_with fail
  refine (ex_s (hown.alloc _) (heap_new _ _)).mono ?_
  rintro e wN ⟨rfl, hn⟩
  have hb := (by first | exact Below.go hb hn | exact Below.goA hb hn | exact Below.goAA hb hn | exact Below.goD hb hn | exact Below.goAD hb hn : Below w.heap.size w wN)
  have ka := Lib.hid (by first | exact keep' ka.out hn | exact keepA ka.out hn | exact keepAA ka.out hn | exact keepD ka.out hn | exact keepAD ka.out hn)
  have kb := Lib.hid (by first | exact keep' kb.out hn | exact keepA kb.out hn | exact keepAA kb.out hn | exact keepD kb.out hn | exact keepAD kb.out hn)
  have kc := Lib.hid (by first | exact keep' kc.out hn | exact keepA kc.out hn | exact keepAA kc.out hn | exact keepD kc.out hn | exact keepAD kc.out hn)
  clear hn
  obtain ⟨⟨ka0, ka1⟩, -⟩ := blk2 ka.out
  have kaz := lt_of_heap ka.out
  obtain ⟨⟨kb0, kb1⟩, -⟩ := blk2 kb.out
  have kbz := lt_of_heap kb.out
  obtain ⟨⟨kc0, kc1⟩, -⟩ := blk2 kc.out
  have kcz := lt_of_heap kc.out
  clear hown
  go_wp2
  go_ret
  exact ⟨rfl, Below.goN hb _⟩
theorem head_c {w0 w : World} (hb : Below w0.heap.size w0 w) : Calls Try.prog 9 #[] w (RetB (.bool true) w0) := (head_any w).mono fun _ _ ⟨h1, h2⟩ => ⟨h1, Below.go hb h2⟩
end Go.Proofs.Ytlmdjkkeocmehaa
