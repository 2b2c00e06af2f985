/- What the laws share: the argument that is a schedule, opened. -/
import Derived.Test.YtcnenkhgbifmmaaDoorTpD
import Derived.Test.YtcnenkhgbifmmaaDoorOpen
import Derived.Test.YtcnenkhgbifmmaaDoorLaid
set_option linter.unusedVariables false
namespace Go.Proofs.YtcnenkhgbifmmaaDoor
open Go.RowKit Go.ChangeShapes Go.WideShapes
def IsRc (v : Value) (r : Rec) : Prop := v = (.agg #[.int .i64 r.kind, .int .i64 r.every, .int .i64 r.wd, .int .i64 r.nth, .int .i64 r.frm, .int .i64 r.unt, .int .i64 r.sec, .bool r.shift, .bool r.both]) ∧ (Lit.int .i64 r.kind).wf = true
theorem array9 {cs : Array Value} (h : cs.size = 9) : ∃ a0 a1 a2 a3 a4 a5 a6 a7 a8, cs = #[a0, a1, a2, a3, a4, a5, a6, a7, a8] := by
  obtain ⟨l⟩ := cs
  match l, h with
  | [a0, a1, a2, a3, a4, a5, a6, a7, a8], _ => exact ⟨a0, a1, a2, a3, a4, a5, a6, a7, a8, rfl⟩
set_option maxRecDepth 100000 in
theorem cellsRec : Tryd.prog.cellsOf 24 = 9 := by kernel_rfl
set_option maxRecDepth 100000 in
theorem open_rc {H : Type} {enc : TypeId × Value → H} {W : World} {base b0 : Nat} {r : Reach} {sp : Nat → Bool} {hd : Bool} {v : Value} {d : DataW H} {p : List MemPlace}
    (hv : Value.okWide Tryd.prog W r b0 24 v) (h : DataW.Trod enc Tryd.prog W base sp hd 24 v d p) : ∃ x, IsRc v x := by
  obtain ⟨cs, rfl, hsz⟩ := okWide_struct Tryd.underlying24 hv
  obtain ⟨a0, a1, a2, a3, a4, a5, a6, a7, a8, rfl⟩ := array9 (hsz.trans cellsRec)
  obtain ⟨fuel, hf⟩ := h
  obtain ⟨ys, n', hn', hy, hlen, hyl, hg⟩ := DataW.trod_struct Tryd.underlying24 hf
  have key : ∀ (j : Nat) (f : Field) (x : Value), j < 9 → ys[j]? = DataW.trod enc Tryd.prog W base sp hd n' f.type [x] → ∃ y, DataW.trod enc Tryd.prog W base sp hd n' f.type [x] = some y := fun j f x hj e => by
    have hs : ys.length = 9 := hyl
    exact ⟨ys[j]'(by omega), e.symm.trans (List.getElem?_eq_getElem (by omega))⟩
  obtain ⟨y0, t0⟩ := key 0 _ a0 (by decide) (hg 0 _ rfl).symm
  obtain ⟨y1, t1⟩ := key 1 _ a1 (by decide) (hg 1 _ rfl).symm
  obtain ⟨y2, t2⟩ := key 2 _ a2 (by decide) (hg 2 _ rfl).symm
  obtain ⟨y3, t3⟩ := key 3 _ a3 (by decide) (hg 3 _ rfl).symm
  obtain ⟨y4, t4⟩ := key 4 _ a4 (by decide) (hg 4 _ rfl).symm
  obtain ⟨y5, t5⟩ := key 5 _ a5 (by decide) (hg 5 _ rfl).symm
  obtain ⟨y6, t6⟩ := key 6 _ a6 (by decide) (hg 6 _ rfl).symm
  obtain ⟨y7, t7⟩ := key 7 _ a7 (by decide) (hg 7 _ rfl).symm
  obtain ⟨y8, t8⟩ := key 8 _ a8 (by decide) (hg 8 _ rfl).symm
  obtain ⟨z0, e0, -, u0⟩ := DataW.trod_int Tryd.underlying3 t0
  obtain ⟨z1, e1, -, u1⟩ := DataW.trod_int Tryd.underlying3 t1
  obtain ⟨z2, e2, -, u2⟩ := DataW.trod_int Tryd.underlying3 t2
  obtain ⟨z3, e3, -, u3⟩ := DataW.trod_int Tryd.underlying3 t3
  obtain ⟨z4, e4, -, u4⟩ := DataW.trod_int Tryd.underlying3 t4
  obtain ⟨z5, e5, -, u5⟩ := DataW.trod_int Tryd.underlying3 t5
  obtain ⟨z6, e6, -, u6⟩ := DataW.trod_int Tryd.underlying3 t6
  obtain ⟨z7, e7, -⟩ := DataW.trod_bool Tryd.underlying4 t7
  obtain ⟨z8, e8, -⟩ := DataW.trod_bool Tryd.underlying4 t8
  simp at e0 e1 e2 e3 e4 e5 e6 e7 e8
  subst e0 e1 e2 e3 e4 e5 e6 e7 e8
  exact ⟨⟨z0, z1, z2, z3, z4, z5, z6, z7, z8⟩, rfl, u0⟩
end Go.Proofs.YtcnenkhgbifmmaaDoor
