/- Contracts of slices.IndexFunc and slices.ContainsFunc over leases. -/
import Derived.Test.YtfaceopjblpkeaaRows
import Derived.Test.YtfaceopjblpkeaaLeMath
import Derived.WalkKit
import Derived.WalkSpells
import Derived.WalkLawsBesides
import Derived.Lib.Hide
import Derived.Below
import Derived.Deep.QuietTactic
import Derived.BigQuiet
import Derived.WalkSmall
set_option linter.unusedVariables false
namespace Go.Proofs.Ytfaceopjblpkeaa
open Go.RowKit
def Ret (v : Value) (w : World) (e : Ending) (w' : World) : Prop := e = .returned v ∧ w = w'
def RetB (v : Value) (w : World) (e : Ending) (w' : World) : Prop := e = .returned v ∧ Below w.heap.size w w'
theorem ret_int {k : IntKind} {a b : Int} (h : a = b) : Ending.returned (.int k a) = .returned (.int k b) := by rw [h]
theorem ret_bool {a b : Bool} (h : a = b) : Ending.returned (.bool a) = .returned (.bool b) := by rw [h]
theorem chain {P : Program} {f : FuncId} {args : Array Value} {v : Value} {w0 w : World} (hb : Below w0.heap.size w0 w) (h : Calls P f args w (RetB v w)) : Calls P f args w (RetB v w0) :=
  h.mono fun _ _ ⟨he, hw⟩ => ⟨he, hb.trans (hw.mono hb.size)⟩
theorem heap_new (w : World) (o : Obj) : (w.alloc o).heap[w.heap.size]? = some o := by unfold World.alloc; simp
theorem ret_two {a b a' b' : Int} (h1 : a = a') (h2 : b = b') : Ending.returned (.tuple #[.int .i64 a, .int .i64 b]) = .returned (.tuple #[.int .i64 a', .int .i64 b']) := by rw [h1, h2]
abbrev L3 (x : Lem.T3) : Value := .agg #[.int .i64 x.1, .int .i64 x.2.1, .int .i64 x.2.2]
abbrev I2 (a b : Int) : Value := .agg #[.int .i64 a, .int .i64 b]
/-- the slice (A, n) holds the leases l, in a block below B -/
def Ls (B : Nat) (W : World) (A : Option Addr) (n : Nat) (l : List Lem.T3) : Prop :=
  l.length = n ∧ (0 < n → ∃ b off, A = some ⟨b, off, none⟩ ∧ b < B ∧ ∀ j, j < n → W.cell? ⟨b, off + j * 3, none⟩ = some (.int .i64 (Lem.at' l j).1) ∧ W.cell? ⟨b, off + j * 3 + 1, none⟩ = some (.int .i64 (Lem.at' l j).2.1) ∧ W.cell? ⟨b, off + j * 3 + 2, none⟩ = some (.int .i64 (Lem.at' l j).2.2))
theorem Ls.below {B : Nat} {W W' : World} {A : Option Addr} {n : Nat} {l : List Lem.T3} (h : Ls B W A n l) (hb : Below B W W') : Ls B W' A n l :=
  ⟨h.1, fun hn => by obtain ⟨b, off, e, hB, hc⟩ := h.2 hn; exact ⟨b, off, e, hB, fun j hj => ⟨(hb.cell (p := ⟨b, off + j * 3, none⟩) hB).trans (hc j hj).1, (hb.cell (p := ⟨b, off + j * 3 + 1, none⟩) hB).trans (hc j hj).2.1, (hb.cell (p := ⟨b, off + j * 3 + 2, none⟩) hB).trans (hc j hj).2.2⟩⟩⟩
theorem Ls.mono {B B' : Nat} {W : World} {A : Option Addr} {n : Nat} {l : List Lem.T3} (h : Ls B W A n l) (hB : B ≤ B') : Ls B' W A n l :=
  ⟨h.1, fun hn => by obtain ⟨b, off, e, hb, hc⟩ := h.2 hn; exact ⟨b, off, e, by omega, hc⟩⟩
/-- it returns an index, or -1 where none is -/
def IdxPost (b : Bool) (w : World) (e : Ending) (w' : World) : Prop := ∃ i : Int, decide (0 ≤ i) = b ∧ e = .returned (.int .i64 i) ∧ Below w.heap.size w w'
set_option maxHeartbeats 1000000 in
theorem index_V (p1 : Value) (p : Lem.T3 → Bool) (A : Option Addr) (n c : Nat) (l : List Lem.T3) (w : World) (hl : Ls w.heap.size w A n l) (hn : n ≤ 70)
    (hf : ∀ x w', Below w.heap.size w w' → Calls Try.prog 32 #[L3 x, p1] w' (RetB (.bool (p x)) w')) :
    Calls Try.prog 38 #[.slice A n c, .func (Fn.func 32) #[] #[p1]] w (IdxPost (l.any p) w) := by
  obtain ⟨hlen, hcell⟩ := hl
  have Hlen := Lib.hid hlen
  have Hf := Lib.hid hf
  clear hlen hf
  go_enter Try.func38, Try.ntmps38
  go_wp2
  go_loopw [8] (fun i wr => ∃ k : Nat, k ≤ n ∧ i = .int .i64 k ∧ Hid ((l.take k).any p = false) ∧ Below w.heap.size w wr) (fun i _ => n - (intOf i).toNat)
  case atStart => exact ⟨0, Nat.zero_le _, rfl, Lib.hid rfl, Below.refl _ _⟩
  case round =>
    obtain ⟨k, hk, rfl, hix, hb⟩ := hrel
    by_cases hlt : k < n
    · obtain ⟨b, off, rfl, hbB, hc⟩ := hcell (by omega)
      obtain ⟨c0, c1, c2⟩ := hc k hlt
      have c0 := (hb.cell (p := ⟨b, off + k * 3, none⟩) hbB).trans c0
      have c1 := (hb.cell (p := ⟨b, off + k * 3 + 1, none⟩) hbB).trans c1
      have c2 := (hb.cell (p := ⟨b, off + k * 3 + 2, none⟩) hbB).trans c2
      have hs := Lib.hid (Lem.any_snoc p Hlen.out hlt)
      clear hc hcell
      generalize Lem.at' l k = x at *
      cases hp : p x
      · have hs2 := Lib.hid (hs.out.trans (by rw [hix.out, hp, Bool.or_false]))
        go_wp2_with fail
        refine (Hf.out _ _ hb).mono ?_
        rintro e w1 ⟨rfl, hb1⟩
        have hb2 := hb.trans (hb1.mono hb.size)
        go_wp2
        go_roundw
        case rel => exact ⟨k + 1, by omega, by go_num, hs2, hb2⟩
        case measure => simp [intOf]; omega
      · have hs2 := Lib.hid (Lem.any_take (hs.out.trans (by rw [hp, Bool.or_true])))
        go_wp2_with fail
        refine (Hf.out _ _ hb).mono ?_
        rintro e w1 ⟨rfl, hb1⟩
        have hb2 := hb.trans (hb1.mono hb.size)
        go_wp2
        go_ret
        exact ⟨k, by rw [hs2.out]; simp, rfl, hb2⟩
    · obtain rfl : k = n := by omega
      have e : l.take k = l := List.take_of_length_le (by rw [Hlen.out]; omega)
      rw [e] at hix
      go_wp2
      go_ret
      exact ⟨-1, by rw [hix.out]; rfl, rfl, hb⟩
set_option maxHeartbeats 400000 in
theorem contains_V (p1 : Value) (p : Lem.T3 → Bool) (A : Option Addr) (n c : Nat) (l : List Lem.T3) (w : World) (hl : Ls w.heap.size w A n l) (hn : n ≤ 70)
    (hf : ∀ x w', Below w.heap.size w w' → Calls Try.prog 32 #[L3 x, p1] w' (RetB (.bool (p x)) w')) :
    Calls Try.prog 29 #[.slice A n c, .func (Fn.func 32) #[] #[p1]] w (RetB (.bool (l.any p)) w) := by
  have hx := Lib.hid (index_V p1 p A n c l w hl hn hf)
  clear hf hl
  go_enter Try.func29, Try.ntmps29
  go_wp2_with fail
  refine hx.out.mono ?_
  rintro e w1 ⟨i, hi, rfl, hb⟩
  have Hi := Lib.hid hi
  clear hi
  go_wp2
  go_ret
  exact ⟨ret_bool Hi.out, hb⟩
set_option maxHeartbeats 1000000 in
theorem index_G (p1 p2 : Value) (p : Lem.T3 → Bool) (A : Option Addr) (n c : Nat) (l : List Lem.T3) (w : World) (hl : Ls w.heap.size w A n l) (hn : n ≤ 70)
    (hf : ∀ x w', Below w.heap.size w w' → Calls Try.prog 27 #[L3 x, p1, p2] w' (RetB (.bool (p x)) w')) :
    Calls Try.prog 38 #[.slice A n c, .func (Fn.func 27) #[] #[p1, p2]] w (IdxPost (l.any p) w) := by
  obtain ⟨hlen, hcell⟩ := hl
  have Hlen := Lib.hid hlen
  have Hf := Lib.hid hf
  clear hlen hf
  go_enter Try.func38, Try.ntmps38
  go_wp2
  go_loopw [8] (fun i wr => ∃ k : Nat, k ≤ n ∧ i = .int .i64 k ∧ Hid ((l.take k).any p = false) ∧ Below w.heap.size w wr) (fun i _ => n - (intOf i).toNat)
  case atStart => exact ⟨0, Nat.zero_le _, rfl, Lib.hid rfl, Below.refl _ _⟩
  case round =>
    obtain ⟨k, hk, rfl, hix, hb⟩ := hrel
    by_cases hlt : k < n
    · obtain ⟨b, off, rfl, hbB, hc⟩ := hcell (by omega)
      obtain ⟨c0, c1, c2⟩ := hc k hlt
      have c0 := (hb.cell (p := ⟨b, off + k * 3, none⟩) hbB).trans c0
      have c1 := (hb.cell (p := ⟨b, off + k * 3 + 1, none⟩) hbB).trans c1
      have c2 := (hb.cell (p := ⟨b, off + k * 3 + 2, none⟩) hbB).trans c2
      have hs := Lib.hid (Lem.any_snoc p Hlen.out hlt)
      clear hc hcell
      generalize Lem.at' l k = x at *
      cases hp : p x
      · have hs2 := Lib.hid (hs.out.trans (by rw [hix.out, hp, Bool.or_false]))
        go_wp2_with fail
        refine (Hf.out _ _ hb).mono ?_
        rintro e w1 ⟨rfl, hb1⟩
        have hb2 := hb.trans (hb1.mono hb.size)
        go_wp2
        go_roundw
        case rel => exact ⟨k + 1, by omega, by go_num, hs2, hb2⟩
        case measure => simp [intOf]; omega
      · have hs2 := Lib.hid (Lem.any_take (hs.out.trans (by rw [hp, Bool.or_true])))
        go_wp2_with fail
        refine (Hf.out _ _ hb).mono ?_
        rintro e w1 ⟨rfl, hb1⟩
        have hb2 := hb.trans (hb1.mono hb.size)
        go_wp2
        go_ret
        exact ⟨k, by rw [hs2.out]; simp, rfl, hb2⟩
    · obtain rfl : k = n := by omega
      have e : l.take k = l := List.take_of_length_le (by rw [Hlen.out]; omega)
      rw [e] at hix
      go_wp2
      go_ret
      exact ⟨-1, by rw [hix.out]; rfl, rfl, hb⟩
set_option maxHeartbeats 400000 in
theorem contains_G (p1 p2 : Value) (p : Lem.T3 → Bool) (A : Option Addr) (n c : Nat) (l : List Lem.T3) (w : World) (hl : Ls w.heap.size w A n l) (hn : n ≤ 70)
    (hf : ∀ x w', Below w.heap.size w w' → Calls Try.prog 27 #[L3 x, p1, p2] w' (RetB (.bool (p x)) w')) :
    Calls Try.prog 29 #[.slice A n c, .func (Fn.func 27) #[] #[p1, p2]] w (RetB (.bool (l.any p)) w) := by
  have hx := Lib.hid (index_G p1 p2 p A n c l w hl hn hf)
  clear hf hl
  go_enter Try.func29, Try.ntmps29
  go_wp2_with fail
  refine hx.out.mono ?_
  rintro e w1 ⟨i, hi, rfl, hb⟩
  have Hi := Lib.hid hi
  clear hi
  go_wp2
  go_ret
  exact ⟨ret_bool Hi.out, hb⟩
set_option maxHeartbeats 1000000 in
theorem index_S (p1 p2 : Value) (p : Lem.T3 → Bool) (A : Option Addr) (n c : Nat) (l : List Lem.T3) (w : World) (hl : Ls w.heap.size w A n l) (hn : n ≤ 70)
    (hf : ∀ x w', Below w.heap.size w w' → Calls Try.prog 34 #[L3 x, p1, p2] w' (RetB (.bool (p x)) w')) :
    Calls Try.prog 38 #[.slice A n c, .func (Fn.func 34) #[] #[p1, p2]] w (IdxPost (l.any p) w) := by
  obtain ⟨hlen, hcell⟩ := hl
  have Hlen := Lib.hid hlen
  have Hf := Lib.hid hf
  clear hlen hf
  go_enter Try.func38, Try.ntmps38
  go_wp2
  go_loopw [8] (fun i wr => ∃ k : Nat, k ≤ n ∧ i = .int .i64 k ∧ Hid ((l.take k).any p = false) ∧ Below w.heap.size w wr) (fun i _ => n - (intOf i).toNat)
  case atStart => exact ⟨0, Nat.zero_le _, rfl, Lib.hid rfl, Below.refl _ _⟩
  case round =>
    obtain ⟨k, hk, rfl, hix, hb⟩ := hrel
    by_cases hlt : k < n
    · obtain ⟨b, off, rfl, hbB, hc⟩ := hcell (by omega)
      obtain ⟨c0, c1, c2⟩ := hc k hlt
      have c0 := (hb.cell (p := ⟨b, off + k * 3, none⟩) hbB).trans c0
      have c1 := (hb.cell (p := ⟨b, off + k * 3 + 1, none⟩) hbB).trans c1
      have c2 := (hb.cell (p := ⟨b, off + k * 3 + 2, none⟩) hbB).trans c2
      have hs := Lib.hid (Lem.any_snoc p Hlen.out hlt)
      clear hc hcell
      generalize Lem.at' l k = x at *
      cases hp : p x
      · have hs2 := Lib.hid (hs.out.trans (by rw [hix.out, hp, Bool.or_false]))
        go_wp2_with fail
        refine (Hf.out _ _ hb).mono ?_
        rintro e w1 ⟨rfl, hb1⟩
        have hb2 := hb.trans (hb1.mono hb.size)
        go_wp2
        go_roundw
        case rel => exact ⟨k + 1, by omega, by go_num, hs2, hb2⟩
        case measure => simp [intOf]; omega
      · have hs2 := Lib.hid (Lem.any_take (hs.out.trans (by rw [hp, Bool.or_true])))
        go_wp2_with fail
        refine (Hf.out _ _ hb).mono ?_
        rintro e w1 ⟨rfl, hb1⟩
        have hb2 := hb.trans (hb1.mono hb.size)
        go_wp2
        go_ret
        exact ⟨k, by rw [hs2.out]; simp, rfl, hb2⟩
    · obtain rfl : k = n := by omega
      have e : l.take k = l := List.take_of_length_le (by rw [Hlen.out]; omega)
      rw [e] at hix
      go_wp2
      go_ret
      exact ⟨-1, by rw [hix.out]; rfl, rfl, hb⟩
set_option maxHeartbeats 400000 in
theorem contains_S (p1 p2 : Value) (p : Lem.T3 → Bool) (A : Option Addr) (n c : Nat) (l : List Lem.T3) (w : World) (hl : Ls w.heap.size w A n l) (hn : n ≤ 70)
    (hf : ∀ x w', Below w.heap.size w w' → Calls Try.prog 34 #[L3 x, p1, p2] w' (RetB (.bool (p x)) w')) :
    Calls Try.prog 29 #[.slice A n c, .func (Fn.func 34) #[] #[p1, p2]] w (RetB (.bool (l.any p)) w) := by
  have hx := Lib.hid (index_S p1 p2 p A n c l w hl hn hf)
  clear hf hl
  go_enter Try.func29, Try.ntmps29
  go_wp2_with fail
  refine hx.out.mono ?_
  rintro e w1 ⟨i, hi, rfl, hb⟩
  have Hi := Lib.hid hi
  clear hi
  go_wp2
  go_ret
  exact ⟨ret_bool Hi.out, hb⟩
end Go.Proofs.Ytfaceopjblpkeaa
