/- The contract of the head of the laws of chapter 35. -/
import Derived.Test.YtfaceopjblpkeaaLeG
import Derived.Test.YtfaceopjblpkeaaLeI
set_option linter.unusedVariables false
namespace Go.Proofs.Ytfaceopjblpkeaa
open Go.RowKit
theorem Lin.none (w : World) : Lin w none 0 0 [] := ⟨⟨rfl, fun h => absurd h (by omega)⟩, by omega, by omega, fun _ => rfl⟩
theorem Ls.one (w : World) (x : Lem.T3) : Ls (w.alloc (oL x)).heap.size (w.alloc (oL x)) (some ⟨w.heap.size, 0, none⟩) 1 [x] :=
  ⟨rfl, fun _ => ⟨w.heap.size, 0, rfl, by simp, fun j hj => by
    obtain rfl : j = 0 := by omega
    simp [Lem.at']⟩⟩
theorem Own.lin1 {B : Nat} {W : World} {v : Value} {l : List Lem.T3} {m : Nat} (h : Own B W v l) (hm : l.length = m) : ∃ A c, v = .slice A m c ∧ Lin W A m c l := by
  obtain ⟨A, n, c, e, hn, hl⟩ := h.lin
  obtain rfl : n = m := hn.trans hm
  exact ⟨A, c, e, hl⟩
set_option maxHeartbeats 2000000 in
set_option maxRecDepth 100000 in
theorem head_any (w : World) : Calls Try.prog 10 #[] w (RetB (.bool true) w) := by
  have a1 : Lem.grL [] 1 50 100 120 = [(1, 100, 150)] := by decide
  have a2 : Lem.grE [] 1 50 100 120 = 0 := by decide
  have b1 : Lem.seV [(1, 100, 150)] 1 130 149 = true := by decide
  have b2 : Lem.seE [(1, 100, 150)] 1 130 149 = 0 := by decide
  have c1 : Lem.seV [(1, 100, 150)] 1 140 150 = false := by decide
  have c2 : Lem.seE [(1, 100, 150)] 1 140 150 = 0 := by decide
  have d1 : Lem.grL [(1, 100, 150)] 2 50 149 160 = [] := by decide
  have d2 : Lem.grE [(1, 100, 150)] 2 50 149 160 = 62 := by decide
  have e1 : Lem.grL [(1, 100, 150)] 2 50 150 170 = [(1, 100, 150), (2, 150, 200)] := by decide
  have e2 : Lem.grE [(1, 100, 150)] 2 50 150 170 = 0 := by decide
  have f1 : Lem.frV [(1, 100, 150)] 150 170 = true := by decide
  have f2 : Lem.drE [(1, 100, 150)] 150 170 = 0 := by decide
  have g1 : Lem.drL [(1, 100, 150), (2, 150, 200)] 150 170 = [(2, 150, 200)] := by decide
  have g2 : Lem.drE [(1, 100, 150), (2, 150, 200)] 150 170 = 0 := by decide
  have h1 : sameB [(1, 100, 150)] [(1, 100, 150)] = true := by decide
  have h2 : sameB [(2, 150, 200)] [(2, 150, 200)] = true := by decide
  have i1 : Lem.valid [(1, 100, 150), (2, 150, 200)] = true := by decide
  go_enter Try.func10, Try.ntmps10
  go_wp2_with fail
  refine (Grant_any none 0 0 [] _ _ _ _ _ (Lin.none _) (by omega)).mono ?_
  rintro e w1 ⟨v, rfl, hown, hb1⟩
  rw [a1] at hown
  obtain ⟨A1, c1', rfl, hl1⟩ := hown.lin1 (m := 1) rfl
  have L1 := Lib.hid hl1
  clear hl1 hown
  go_wp2_with fail
  refine (Serves_any _ _ _ _ _ _ _ _ L1.out (by omega)).mono ?_
  rintro e w2 ⟨rfl, hb2'⟩
  have L2 := Lib.hid (L1.out.below hb2')
  have hb2 := Below.go hb1 hb2'
  go_wp2_with fail
  refine (Serves_any _ _ _ _ _ _ _ _ L2.out (by omega)).mono ?_
  rintro e w3 ⟨rfl, hb3'⟩
  have L3' := Lib.hid (L2.out.below hb3')
  have hb3 := Below.go hb2 hb3'
  go_wp2_with fail
  refine (Grant_any _ _ _ _ _ _ _ _ _ L3'.out (by omega)).mono ?_
  rintro e w4 ⟨v, rfl, hown, hb4'⟩
  rw [d1] at hown
  obtain ⟨A4, c4', rfl, -⟩ := hown.lin1 (m := 0) rfl
  have L4 := Lib.hid (L3'.out.below hb4')
  have hb4 := Below.go hb3 hb4'
  clear hown
  go_wp2_with fail
  refine (Grant_any _ _ _ _ _ _ _ _ _ L4.out (by omega)).mono ?_
  rintro e w5 ⟨v, rfl, hown, hb5'⟩
  rw [e1] at hown
  obtain ⟨A5, c5', rfl, hm⟩ := hown.lin1 (m := 2) rfl
  have M5 := Lib.hid hm
  have L5 := Lib.hid (L4.out.below hb5')
  have hb5 := Below.go hb4 hb5'
  clear hown hm
  go_wp2_with fail
  refine (Free_any _ _ _ _ _ _ _ L5.out (by omega)).mono ?_
  rintro e w6 ⟨rfl, hb6'⟩
  have L6 := Lib.hid (L5.out.below hb6')
  have M6 := Lib.hid (M5.out.below hb6')
  have hb6 := Below.go hb5 hb6'
  go_wp2_with fail
  refine (Drop_any _ _ _ _ _ _ _ M6.out (by omega)).mono ?_
  rintro e w7 ⟨v, rfl, hown, hb7'⟩
  rw [g1] at hown
  obtain ⟨A7, c7', rfl, hd⟩ := hown.lin1 (m := 1) rfl
  have D7 := Lib.hid hd
  have L7 := Lib.hid (L6.out.below hb7')
  have M7 := Lib.hid (M6.out.below hb7')
  have hb7 := Below.go hb6 hb7'
  clear hown hd
  go_wp2_with fail
  refine (Same_any _ _ _ _ _ _ _ [(1, 100, 150)] _ (L7.out.alloc _).ls (Ls.one w7 (1, 100, 150)) (by omega) (by omega)).mono ?_
  rintro e w8 ⟨rfl, hb8'⟩
  have M8 := Lib.hid ((M7.out.alloc _).below hb8')
  have D8 := Lib.hid ((D7.out.alloc _).below hb8')
  have hb8 := Below.goA hb7 hb8'
  go_wp2_with fail
  refine (Same_any _ _ _ _ _ _ _ [(2, 150, 200)] _ (D8.out.alloc _).ls (Ls.one w8 (2, 150, 200)) (by omega) (by omega)).mono ?_
  rintro e w9 ⟨rfl, hb9'⟩
  have M9 := Lib.hid ((M8.out.alloc _).below hb9')
  have hb9 := Below.goA hb8 hb9'
  go_wp2_with fail
  refine (Valid_any _ _ _ _ _ M9.out.ls (by omega) M9.out.nc M9.out.cap).mono ?_
  rintro e w10 ⟨rfl, hb10'⟩
  have hb10 := Below.go hb9 hb10'
  go_wp2
  go_ret
  exact ⟨rfl, hb10⟩
theorem head_c {w0 w : World} (hb : Below w0.heap.size w0 w) : Calls Try.prog 10 #[] w (RetB (.bool true) w0) := chain hb (head_any w)
end Go.Proofs.Ytfaceopjblpkeaa
