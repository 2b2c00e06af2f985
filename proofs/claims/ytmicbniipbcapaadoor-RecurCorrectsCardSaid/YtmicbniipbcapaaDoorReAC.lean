/- The law RecurCorrects. -/
import Derived.Test.YtmicbniipbcapaaDoorReAB
import Derived.Test.YtmicbniipbcapaaDoorReMath7
import Derived.Maps.RangeWalk
import Derived.WideKeyEntry
set_option linter.unusedVariables false
namespace Go.Proofs.YtmicbniipbcapaaDoor
open Go.RowKit Go.ChangeMaps Go.MapKept
open Go.Maps (Keyed int_keyed keyOf_int_mk)
abbrev tFI : TypeId := 44
/-- a map that counts fires -/
def NetOk (v : Int × Int → Int) (D : DataW Unit) : Prop := Maps.IsMap D ∧ (∀ x, WfP x → D.atKey (kF x) (.lit (.int .i64 0)) = .lit (.int .i64 (v x))) ∧ ∀ kl, Maps.has D kl = true → ∃ x, WfP x ∧ kl = kF x
set_option maxRecDepth 100000 in
theorem net_nil {v : Int × Int → Int} (h : ∀ x, v x = 0) : NetOk v (.map []) := ⟨⟨[], rfl⟩, fun x _ => by rw [h x]; rfl, fun kl h => by cases h⟩
set_option maxRecDepth 100000 in
theorem net_put {v v' : Int × Int → Int} {D : DataW Unit} (h : NetOk v D) (x : Int × Int) (hx : WfP x) (s : Int) (hs : v' x = s) (ho : ∀ y, x ≠ y → v' y = v y) : NetOk v' (D.put (kF x) (.lit (.int .i64 s))) := by
  refine ⟨h.1.put _ _, fun y hy => ?_, fun kl hk => ?_⟩
  · by_cases e : x = y
    · subst e
      rw [Maps.atKey_put_same h.1 (keyedF.key (kF_some hx)), hs]
    · rw [Maps.atKey_put_other (fun e' => e (kF_inj hy hx e').symm), h.2.1 y hy, ho y e]
  · by_cases e : kl = kF x
    · exact ⟨x, hx, e⟩
    · rw [Maps.has_put_other e] at hk
      exact h.2.2 kl hk
/-- the count of a fire -/
def net (A F N B : Lpm.LL) (x : Int × Int) : Int := (A.count x : Int) - F.count x + N.count x - B.count x
theorem net_A {A F N B : Lpm.LL} (x y : Int × Int) : net (A ++ [x]) F N B y = net A F N B y + if x = y then 1 else 0 := by
  unfold net; rw [Rc.count_snoc]; split <;> omega
theorem net_F {A F N B : Lpm.LL} (x y : Int × Int) : net A (F ++ [x]) N B y = net A F N B y - if x = y then 1 else 0 := by
  unfold net; rw [Rc.count_snoc]; split <;> omega
theorem net_N {A F N B : Lpm.LL} (x y : Int × Int) : net A F (N ++ [x]) B y = net A F N B y + if x = y then 1 else 0 := by
  unfold net; rw [Rc.count_snoc]; split <;> omega
theorem net_B {A F N B : Lpm.LL} (x y : Int × Int) : net A F N (B ++ [x]) y = net A F N B y - if x = y then 1 else 0 := by
  unfold net; rw [Rc.count_snoc]; split <;> omega
theorem net_bd {A F N B : Lpm.LL} (a : A.length ≤ 1000) (f : F.length ≤ 1000) (n : N.length ≤ 1000) (b : B.length ≤ 1000) (x : Int × Int) : -2000 ≤ net A F N B x ∧ net A F N B x ≤ 2000 := by
  have := Rc.count_le A _ a x; have := Rc.count_le F _ f x; have := Rc.count_le N _ n x; have := Rc.count_le B _ b x
  unfold net; omega
set_option maxRecDepth 100000 in
theorem keyLawF : WideMaps.KeyLaw Tryd.prog tF := deep_law_laid (P := Tryd.prog) (by kernel_rfl) (m := 10) (by decide) (of_decide_eq_true (by kernel_rfl)) (by kernel_rfl) (by kernel_rfl)
/-- what becomes of a map's block when an entry is asked for, and then given a value -/
theorem entry_gen {P : Program} {t k e : TypeId} {w : World} {b n : Nat} {D : DataW Unit} {key : Value} {kl : Lit} (KL : WideMaps.KeyLaw P k) (K : Keyed P k) (ht : P.underlying t = some (.map k e)) (he : P.underlying e = some (.int .i64)) (hz : ∀ u : World, (zeroValue e).run P u = .ok (.int .i64 0) u) (hkey : keyOf P k key = some kl)
    (h : w.ownsMap P k (plainElem P e) b n D) (hn : n < maxLen) {c s : Int} (hc : D.atKey kl (.lit (.int .i64 0)) = .lit (.int .i64 c)) (hs : (Lit.int .i64 s).wf = true) :
    ∃ (v0 : Value) (st : Nat) (w1 w2 : World), (Instr.lookup t (.map (some b)) key false).run P w = .ok (.int .i64 c) w ∧ (Instr.lookup t (.map (some b)) key false).run P w1 = .ok (.int .i64 c) w1 ∧
      (Instr.mapEntry t (.map (some b)) key).run P w = .ok (.tuple #[v0, .int .i64 (st : Int)]) w1 ∧ (Instr.entryStore t (.map (some b)) (.int .i64 (st : Int)) (.int .i64 s)).run P w1 = .ok () w2 ∧
      w2.ownsMap P k (plainElem P e) b (n + 1) (D.put kl (.lit (.int .i64 s))) ∧ w.grownBy w1 (some b) ∧ w.grownBy w2 (some b) := by
  have look : ∀ (W : World) (m : Nat) (D' : DataW Unit), W.ownsMap P k (plainElem P e) b m D' → D'.atKey kl (.lit (.int .i64 0)) = .lit (.int .i64 c) → (Instr.lookup t (.map (some b)) key false).run P W = .ok (.int .i64 c) W := fun W m D' hW hD => by
    obtain ⟨c', hr, hat, -⟩ := hW.lookup_int K ht he (hz W) hkey
    rw [hD] at hat
    obtain rfl : c = c' := lit_int hat
    exact hr
  have hzp : (plainElem P e (.int .i64 0) : Option (DataW Unit × List MemPlace)) = some (.lit (.int .i64 0), []) := plainElem_int he (by decide)
  obtain ⟨wz, hrz, hoz, -⟩ := h.update K ht hn hkey hzp
  obtain ⟨ws, hrs, hos, -⟩ := h.update K ht hn hkey (plainElem_int he hs)
  have hL := look w n D h hc
  have hD := h.isMap
  have h' := h
  obtain ⟨es, clock, hb, F, hsz, -⟩ := h'
  obtain ⟨v0, st, es1, clock1, hE, -, hS⟩ := WideElems.entry_then_store KL ht hz hb F hkey
  have hb1 : (setBlock w b (.map es1 clock1)).heap[b]? = some (.map es1 clock1) := heap_setBlock_same hb _
  obtain ⟨es2, clock2, hst, hup⟩ := hS (setBlock w b (.map es1 clock1)) (.int .i64 s) hb1
  rw [hrs] at hup
  injection hup with e1 e2
  have grow : ∀ (es' : Array MapEntry) (c' : Nat), w.grownBy (setBlock w b (.map es' c')) (some b) := fun es' c' => ⟨rfl, rfl, rfl, by simp [setBlock], fun i _ hi => heap_setBlock_other hb _ (fun e => hi (by rw [e]))⟩
  refine ⟨v0, st, setBlock w b (.map es1 clock1), setBlock (setBlock w b (.map es1 clock1)) b (.map es2 clock2), hL, ?_, hE, hst, ?_, grow _ _, ?_⟩
  · rcases KL.find w hkey es.toList F.keys with ⟨h1, h2⟩ | ⟨j, e0, h1, h2, h3⟩
    · have hE' : (Instr.mapEntry t (.map (some b)) key).run P w = .ok (.tuple #[.int .i64 0, goInt clock]) (setBlock w b (.map (es.push ⟨key, .int .i64 0, clock⟩) (clock + 1))) := by
        simp [Instr.mapEntry, run_underlying ht, MapKept.run_getObj_map hb, KL.check w false hkey, h1, hz, MapKept.run_setObj_map _ hb, Result.andThen, setBlock]
      have hU' : (Instr.mapUpdate t (.map (some b)) key (.int .i64 0)).run P w = .ok () (setBlock w b (.map (es.push ⟨key, .int .i64 0, clock⟩) (clock + 1))) := by
        simp [Instr.mapUpdate, run_underlying ht, MapKept.run_getObj_map hb, KL.check w false hkey, h1, MapKept.run_setObj_map _ hb, Result.andThen, setBlock]
      rw [hE] at hE'
      have e4 := (Result.ok.inj hE').2
      rw [hrz] at hU'
      have e6 := (Result.ok.inj hU').2
      rw [e4, ← e6]
      refine look wz _ _ hoz ?_
      rw [Maps.atKey_put_same hD (K.key hkey)]
      -- the key is not there: the count is nought
      have : (Instr.lookup t (.map (some b)) key false).run P w = .ok (.int .i64 0) w := by
        simp [Instr.lookup, run_underlying ht, MapKept.run_getObj_map hb, KL.check w es.isEmpty hkey, h1, hz, Result.andThen]
      rw [hL] at this
      injection this with e7 e8
      injection e7 with _ e9
      rw [e9]
    · have hj : es[j]? = some e0 := by simpa using h2
      have hsame : es.modify j (fun e => { e with key := key }) = es := by
        apply Array.ext'
        rw [Array.toList_modify, modify_eq_set _ _ _ _ h2, ← h3]
        exact WideElems.set_self _ _ _ h2
      have hE' : (Instr.mapEntry t (.map (some b)) key).run P w = .ok (.tuple #[e0.val, goInt e0.born]) (setBlock w b (.map es clock)) := by
        simp [Instr.mapEntry, run_underlying ht, MapKept.run_getObj_map hb, KL.check w false hkey, h1, hj, h3, KL.stays w hkey, hsame, MapKept.run_setObj_map _ hb, Result.andThen, setBlock]
      rw [hE] at hE'
      have e4 := (Result.ok.inj hE').2
      rw [e4]
      exact look _ n D ⟨es, clock, heap_setBlock_same hb _, F, hsz, by obtain ⟨es', clock', hb', F', hs', hd'⟩ := h; rw [hb] at hb'; injection hb' with hb'; injection hb' with a1 a2; subst a1; exact hd'⟩ hc
  · obtain ⟨es3, clock3, hb3, F3, hs3, hd3⟩ := hos
    rw [e2, heap_setBlock_same hb] at hb3
    injection hb3 with hb3
    injection hb3 with a1 a2
    subst a1 a2
    exact ⟨es2, clock2, heap_setBlock_same hb1 _, F3, hs3, hd3⟩
  · exact ⟨rfl, rfl, rfl, by simp [setBlock], fun i _ hi => (heap_setBlock_other hb1 _ (fun e => hi (by rw [e]))).trans (heap_setBlock_other hb _ (fun e => hi (by rw [e])))⟩
set_option maxRecDepth 100000 in
theorem entry_own {w : World} {b n : Nat} {D : DataW Unit} (h : w.ownsMap Tryd.prog tF (plainElem Tryd.prog 3) b n D) (hn : n < maxLen) {x : Int × Int} (hx : WfP x) {c s : Int} (hc : D.atKey (kF x) (.lit (.int .i64 0)) = .lit (.int .i64 c)) (hs : (Lit.int .i64 s).wf = true) :
    ∃ (v0 : Value) (st : Nat) (w1 w2 : World), (Instr.lookup tFI (.map (some b)) (FV x) false).run Tryd.prog w = .ok (.int .i64 c) w ∧ (Instr.lookup tFI (.map (some b)) (FV x) false).run Tryd.prog w1 = .ok (.int .i64 c) w1 ∧
      (Instr.mapEntry tFI (.map (some b)) (FV x)).run Tryd.prog w = .ok (.tuple #[v0, .int .i64 (st : Int)]) w1 ∧ (Instr.entryStore tFI (.map (some b)) (.int .i64 (st : Int)) (.int .i64 s)).run Tryd.prog w1 = .ok () w2 ∧
      w2.ownsMap Tryd.prog tF (plainElem Tryd.prog 3) b (n + 1) (D.put (kF x) (.lit (.int .i64 s))) ∧ w.grownBy w1 (some b) ∧ w.grownBy w2 (some b) :=
  entry_gen keyLawF keyedF Tryd.underlying44 Tryd.underlying3 zeroI (kF_some hx) h hn hc hs
/-- the worlds of a region that gives an entry a value: ahead of asking for the entry, between, behind -/
def BC (w0 w1 w2 : World) (L : Array Bool) (W : World) : Prop :=
  (L.getD 6 false = true ∧ L.getD 4 false = true ∧ L.getD 2 false = true ∧ W = w2) ∨ (L.getD 6 false = false ∧ L.getD 4 false = true ∧ W = w1) ∨ (L.getD 6 false = false ∧ L.getD 4 false = false ∧ W = w0)
theorem BC.other {w0 w1 w2 : World} {L : Array Bool} {W : World} {n : Nat} (h : BC w0 w1 w2 L W) (h2 : n ≠ 2) (h4 : n ≠ 4) (h6 : n ≠ 6) : BC w0 w1 w2 (L.setIfInBounds n true) W := by
  unfold BC at *; rw [set_ne h2, set_ne h4, set_ne h6]; exact h
theorem BC.look {w0 w1 w2 : World} {L : Array Bool} {W : World} (h : BC w0 w1 w2 L W) (hu : L.getD 2 true = false) : (W = w1 ∨ W = w0) ∧ BC w0 w1 w2 (L.setIfInBounds 2 true) W := by
  have := un_f hu
  rcases h with ⟨_, _, h, _⟩ | h | h
  · rw [this] at h; cases h
  · refine ⟨.inl h.2.2, ?_⟩
    unfold BC; rw [set_ne (by decide : 2 ≠ 4), set_ne (by decide : 2 ≠ 6)]; exact .inr (.inl h)
  · refine ⟨.inr h.2.2, ?_⟩
    unfold BC; rw [set_ne (by decide : 2 ≠ 4), set_ne (by decide : 2 ≠ 6)]; exact .inr (.inr h)
theorem BC.ask {w0 w1 w2 : World} {L : Array Bool} {W : World} (h : BC w0 w1 w2 L W) (hu : L.getD 4 true = false) : W = w0 ∧ BC w0 w1 w2 (L.setIfInBounds 4 true) w1 := by
  have := un_f hu
  rcases h with ⟨_, h, _⟩ | ⟨_, h, _⟩ | h
  · rw [this] at h; cases h
  · rw [this] at h; cases h
  · refine ⟨h.2.2, ?_⟩
    unfold BC; rw [set_eq hu, set_ne (by decide : 4 ≠ 6)]; exact .inr (.inl ⟨h.1, rfl, rfl⟩)
theorem BC.give {w0 w1 w2 : World} {L : Array Bool} {W : World} (h : BC w0 w1 w2 L W) (hu : L.getD 6 true = false) (h4 : L.getD 4 false = true) (h2 : L.getD 2 false = true) : W = w1 ∧ BC w0 w1 w2 (L.setIfInBounds 6 true) w2 := by
  have := un_f hu
  rcases h with ⟨h, _⟩ | h | ⟨_, h, _⟩
  · rw [this] at h; cases h
  · refine ⟨h.2.2, ?_⟩
    unfold BC; rw [set_eq hu, set_ne (by decide : 6 ≠ 4), set_ne (by decide : 6 ≠ 2)]; exact .inl ⟨rfl, h4, h2, rfl⟩
  · rw [h4] at h; cases h
theorem BC.fin {w0 w1 w2 : World} {L : Array Bool} {W : World} (h : BC w0 w1 w2 L W) (h6 : L.getD 6 false = true) : W = w2 := by
  rcases h with h | ⟨h, _⟩ | ⟨h, _⟩
  · exact h.2.2.2
  · rw [h6] at h; cases h
  · rw [h6] at h; cases h
theorem BC.which {w0 w1 w2 : World} {L : Array Bool} {W : World} (h : BC w0 w1 w2 L W) : W = w0 ∨ W = w1 ∨ W = w2 := by
  rcases h with h | h | h
  · exact .inr (.inr h.2.2.2)
  · exact .inr (.inl h.2.2)
  · exact .inl h.2.2
set_option maxHeartbeats 2000000 in
set_option maxRecDepth 100000 in
theorem corrects_un1 (A1 A2 : Option Addr) (n1 c1 n2 c2 : Nat) (o nw : Lpm.LL) (r : Rec) (t : Int) (w : World) (ht : Tab w) (h1 : Lp w.heap.size w A1 n1 o) (h2 : Lp w.heap.size w A2 n2 nw) (q : Hid (useB n1 o r = false)) :
    Calls Tryd.prog 5 #[.slice A1 n1 c1, .slice A2 n2 c2, (.agg #[.int .i64 r.kind, .int .i64 r.every, .int .i64 r.wd, .int .i64 r.nth, .int .i64 r.frm, .int .i64 r.unt, .int .i64 r.sec, .bool r.shift, .bool r.both]), .int .i64 t] w (LawPost w) := by
  have HT : Hid (∀ W, Below w.heap.size w W → Tab W) := Lib.hid fun W hW => ht.below hW
  have H1 : Hid (∀ W, Below w.heap.size w W → Lp W.heap.size W A1 n1 o) := Lib.hid fun W hW => h1.go hW
  have H2 : Hid (∀ W, Below w.heap.size w W → Lp W.heap.size W A2 n2 nw) := Lib.hid fun W hW => h2.go hW
  have hb := Below.goN (Below.refl w.heap.size w) (.cells #[.int .i64 r.kind, .int .i64 r.every, .int .i64 r.wd, .int .i64 r.nth, .int .i64 r.frm, .int .i64 r.unt, .int .i64 r.sec, .bool r.shift, .bool r.both] 24)
  have kx := Lib.hid (heap_new w (.cells #[.int .i64 r.kind, .int .i64 r.every, .int .i64 r.wd, .int .i64 r.nth, .int .i64 r.frm, .int .i64 r.unt, .int .i64 r.sec, .bool r.shift, .bool r.both] 24))
  clear ht h1 h2
  go_enter Tryd.func5, Tryd.ntmps5
  go_wp2_with fail
  refine (head_any _ (HT.out _ hb)).mono ?_
  rintro e w1 ⟨rfl, hn⟩
  have hb := Below.go hb hn
  have kx := Lib.hid (keep' kx.out hn)
  clear hn
  obtain ⟨kx_0, kx_1, kx_2, kx_3, kx_4, kx_5, kx_6, kx_7, kx_8⟩ := blk9 kx.out
  go_wp2_with fail
  refine (usable_any A1 n1 c1 o r _ (H1.out _ hb)).mono ?_
  rintro e w2 ⟨rfl, hn⟩
  have hb := Below.go hb hn
  have kx := Lib.hid (keep' kx.out hn)
  clear hn
  rw [q.out]
  go_wp2
  go_ret
  exact ⟨by simp, hb⟩
set_option maxHeartbeats 2000000 in
set_option maxRecDepth 100000 in
theorem corrects_un2 (A1 A2 : Option Addr) (n1 c1 n2 c2 : Nat) (o nw : Lpm.LL) (r : Rec) (t : Int) (w : World) (ht : Tab w) (h1 : Lp w.heap.size w A1 n1 o) (h2 : Lp w.heap.size w A2 n2 nw) (q : Hid (useB n1 o r = true)) (q' : Hid (useB n2 nw r = false)) :
    Calls Tryd.prog 5 #[.slice A1 n1 c1, .slice A2 n2 c2, (.agg #[.int .i64 r.kind, .int .i64 r.every, .int .i64 r.wd, .int .i64 r.nth, .int .i64 r.frm, .int .i64 r.unt, .int .i64 r.sec, .bool r.shift, .bool r.both]), .int .i64 t] w (LawPost w) := by
  have HT : Hid (∀ W, Below w.heap.size w W → Tab W) := Lib.hid fun W hW => ht.below hW
  have H1 : Hid (∀ W, Below w.heap.size w W → Lp W.heap.size W A1 n1 o) := Lib.hid fun W hW => h1.go hW
  have H2 : Hid (∀ W, Below w.heap.size w W → Lp W.heap.size W A2 n2 nw) := Lib.hid fun W hW => h2.go hW
  have hb := Below.goN (Below.refl w.heap.size w) (.cells #[.int .i64 r.kind, .int .i64 r.every, .int .i64 r.wd, .int .i64 r.nth, .int .i64 r.frm, .int .i64 r.unt, .int .i64 r.sec, .bool r.shift, .bool r.both] 24)
  have kx := Lib.hid (heap_new w (.cells #[.int .i64 r.kind, .int .i64 r.every, .int .i64 r.wd, .int .i64 r.nth, .int .i64 r.frm, .int .i64 r.unt, .int .i64 r.sec, .bool r.shift, .bool r.both] 24))
  clear ht h1 h2
  go_enter Tryd.func5, Tryd.ntmps5
  go_wp2_with fail
  refine (head_any _ (HT.out _ hb)).mono ?_
  rintro e w1 ⟨rfl, hn⟩
  have hb := Below.go hb hn
  have kx := Lib.hid (keep' kx.out hn)
  clear hn
  obtain ⟨kx_0, kx_1, kx_2, kx_3, kx_4, kx_5, kx_6, kx_7, kx_8⟩ := blk9 kx.out
  go_wp2_with fail
  refine (usable_any A1 n1 c1 o r _ (H1.out _ hb)).mono ?_
  rintro e w2 ⟨rfl, hn⟩
  have hb := Below.go hb hn
  have kx := Lib.hid (keep' kx.out hn)
  clear hn
  rw [q.out]
  obtain ⟨kx_0, kx_1, kx_2, kx_3, kx_4, kx_5, kx_6, kx_7, kx_8⟩ := blk9 kx.out
  go_wp2_with fail
  refine (usable_any A2 n2 c2 nw r _ (H2.out _ hb)).mono ?_
  rintro e w3 ⟨rfl, hn⟩
  have hb := Below.go hb hn
  have kx := Lib.hid (keep' kx.out hn)
  clear hn
  rw [q'.out]
  go_wp2
  go_ret
  exact ⟨by simp, hb⟩
set_option maxHeartbeats 2000000 in
set_option maxRecDepth 100000 in
theorem corrects_neg (A1 A2 : Option Addr) (n1 c1 n2 c2 : Nat) (o nw : Lpm.LL) (r : Rec) (t : Int) (w : World) (ht : Tab w) (h1 : Lp w.heap.size w A1 n1 o) (h2 : Lp w.heap.size w A2 n2 nw) (q : Hid (useB n1 o r = true)) (q' : Hid (useB n2 nw r = true)) (q1 : t < 0) :
    Calls Tryd.prog 5 #[.slice A1 n1 c1, .slice A2 n2 c2, (.agg #[.int .i64 r.kind, .int .i64 r.every, .int .i64 r.wd, .int .i64 r.nth, .int .i64 r.frm, .int .i64 r.unt, .int .i64 r.sec, .bool r.shift, .bool r.both]), .int .i64 t] w (LawPost w) := by
  have HT : Hid (∀ W, Below w.heap.size w W → Tab W) := Lib.hid fun W hW => ht.below hW
  have H1 : Hid (∀ W, Below w.heap.size w W → Lp W.heap.size W A1 n1 o) := Lib.hid fun W hW => h1.go hW
  have H2 : Hid (∀ W, Below w.heap.size w W → Lp W.heap.size W A2 n2 nw) := Lib.hid fun W hW => h2.go hW
  have hb := Below.goN (Below.refl w.heap.size w) (.cells #[.int .i64 r.kind, .int .i64 r.every, .int .i64 r.wd, .int .i64 r.nth, .int .i64 r.frm, .int .i64 r.unt, .int .i64 r.sec, .bool r.shift, .bool r.both] 24)
  have kx := Lib.hid (heap_new w (.cells #[.int .i64 r.kind, .int .i64 r.every, .int .i64 r.wd, .int .i64 r.nth, .int .i64 r.frm, .int .i64 r.unt, .int .i64 r.sec, .bool r.shift, .bool r.both] 24))
  clear ht h1 h2
  go_enter Tryd.func5, Tryd.ntmps5
  go_wp2_with fail
  refine (head_any _ (HT.out _ hb)).mono ?_
  rintro e w1 ⟨rfl, hn⟩
  have hb := Below.go hb hn
  have kx := Lib.hid (keep' kx.out hn)
  clear hn
  obtain ⟨kx_0, kx_1, kx_2, kx_3, kx_4, kx_5, kx_6, kx_7, kx_8⟩ := blk9 kx.out
  go_wp2_with fail
  refine (usable_any A1 n1 c1 o r _ (H1.out _ hb)).mono ?_
  rintro e w2 ⟨rfl, hn⟩
  have hb := Below.go hb hn
  have kx := Lib.hid (keep' kx.out hn)
  clear hn
  rw [q.out]
  obtain ⟨kx_0, kx_1, kx_2, kx_3, kx_4, kx_5, kx_6, kx_7, kx_8⟩ := blk9 kx.out
  go_wp2_with fail
  refine (usable_any A2 n2 c2 nw r _ (H2.out _ hb)).mono ?_
  rintro e w3 ⟨rfl, hn⟩
  have hb := Below.go hb hn
  have kx := Lib.hid (keep' kx.out hn)
  clear hn
  rw [q'.out]
  go_wp2
  go_ret
  exact ⟨by simp, hb⟩
set_option maxHeartbeats 2000000 in
set_option maxRecDepth 100000 in
theorem corrects_far (A1 A2 : Option Addr) (n1 c1 n2 c2 : Nat) (o nw : Lpm.LL) (r : Rec) (t : Int) (w : World) (ht : Tab w) (h1 : Lp w.heap.size w A1 n1 o) (h2 : Lp w.heap.size w A2 n2 nw) (q : Hid (useB n1 o r = true)) (q' : Hid (useB n2 nw r = true)) (q1 : ¬ t < 0) (q2 : 3000000000000000 < t) :
    Calls Tryd.prog 5 #[.slice A1 n1 c1, .slice A2 n2 c2, (.agg #[.int .i64 r.kind, .int .i64 r.every, .int .i64 r.wd, .int .i64 r.nth, .int .i64 r.frm, .int .i64 r.unt, .int .i64 r.sec, .bool r.shift, .bool r.both]), .int .i64 t] w (LawPost w) := by
  have HT : Hid (∀ W, Below w.heap.size w W → Tab W) := Lib.hid fun W hW => ht.below hW
  have H1 : Hid (∀ W, Below w.heap.size w W → Lp W.heap.size W A1 n1 o) := Lib.hid fun W hW => h1.go hW
  have H2 : Hid (∀ W, Below w.heap.size w W → Lp W.heap.size W A2 n2 nw) := Lib.hid fun W hW => h2.go hW
  have hb := Below.goN (Below.refl w.heap.size w) (.cells #[.int .i64 r.kind, .int .i64 r.every, .int .i64 r.wd, .int .i64 r.nth, .int .i64 r.frm, .int .i64 r.unt, .int .i64 r.sec, .bool r.shift, .bool r.both] 24)
  have kx := Lib.hid (heap_new w (.cells #[.int .i64 r.kind, .int .i64 r.every, .int .i64 r.wd, .int .i64 r.nth, .int .i64 r.frm, .int .i64 r.unt, .int .i64 r.sec, .bool r.shift, .bool r.both] 24))
  clear ht h1 h2
  go_enter Tryd.func5, Tryd.ntmps5
  go_wp2_with fail
  refine (head_any _ (HT.out _ hb)).mono ?_
  rintro e w1 ⟨rfl, hn⟩
  have hb := Below.go hb hn
  have kx := Lib.hid (keep' kx.out hn)
  clear hn
  obtain ⟨kx_0, kx_1, kx_2, kx_3, kx_4, kx_5, kx_6, kx_7, kx_8⟩ := blk9 kx.out
  go_wp2_with fail
  refine (usable_any A1 n1 c1 o r _ (H1.out _ hb)).mono ?_
  rintro e w2 ⟨rfl, hn⟩
  have hb := Below.go hb hn
  have kx := Lib.hid (keep' kx.out hn)
  clear hn
  rw [q.out]
  obtain ⟨kx_0, kx_1, kx_2, kx_3, kx_4, kx_5, kx_6, kx_7, kx_8⟩ := blk9 kx.out
  go_wp2_with fail
  refine (usable_any A2 n2 c2 nw r _ (H2.out _ hb)).mono ?_
  rintro e w3 ⟨rfl, hn⟩
  have hb := Below.go hb hn
  have kx := Lib.hid (keep' kx.out hn)
  clear hn
  rw [q'.out]
  go_wp2
  go_ret
  exact ⟨by simp, hb⟩
set_option maxHeartbeats 2000000 in
set_option maxRecDepth 100000 in
theorem corrects_limit20 (A1 A2 : Option Addr) (n1 c1 n2 c2 : Nat) (o nw : Lpm.LL) (r : Rec) (t : Int) (w : World) (ht : Tab w) (h1 : Lp w.heap.size w A1 n1 o) (h2 : Lp w.heap.size w A2 n2 nw) (q : Hid (useB n1 o r = true)) (q' : Hid (useB n2 nw r = true)) (q1 : ¬ t < 0) (q2 : ¬ 3000000000000000 < t) (m1 : n1 ≤ 110) (m2 : n2 ≤ 110) (hr : Fit21 r) (NA NB : Nat) (NAq : Hid ((Rc.fiV o r).length = NA)) (NBq : Hid ((Rc.fiV nw r).length = NB)) (E1 : Hid (Rc.fiE o r = 2)) (E2 : Hid (Rc.fiE nw r = 0)) (E3 : Hid (Rc.coE o nw r t = 2)) :
    Calls Tryd.prog 5 #[.slice A1 n1 c1, .slice A2 n2 c2, (.agg #[.int .i64 r.kind, .int .i64 r.every, .int .i64 r.wd, .int .i64 r.nth, .int .i64 r.frm, .int .i64 r.unt, .int .i64 r.sec, .bool r.shift, .bool r.both]), .int .i64 t] w (LawPost w) := by
  have HT : Hid (∀ W, Below w.heap.size w W → Tab W) := Lib.hid fun W hW => ht.below hW
  have H1 : Hid (∀ W, Below w.heap.size w W → Lp W.heap.size W A1 n1 o) := Lib.hid fun W hW => h1.go hW
  have H2 : Hid (∀ W, Below w.heap.size w W → Lp W.heap.size W A2 n2 nw) := Lib.hid fun W hW => h2.go hW
  have hb := Below.goN (Below.refl w.heap.size w) (.cells #[.int .i64 r.kind, .int .i64 r.every, .int .i64 r.wd, .int .i64 r.nth, .int .i64 r.frm, .int .i64 r.unt, .int .i64 r.sec, .bool r.shift, .bool r.both] 24)
  have kx := Lib.hid (heap_new w (.cells #[.int .i64 r.kind, .int .i64 r.every, .int .i64 r.wd, .int .i64 r.nth, .int .i64 r.frm, .int .i64 r.unt, .int .i64 r.sec, .bool r.shift, .bool r.both] 24))
  clear ht h1 h2
  go_enter Tryd.func5, Tryd.ntmps5
  go_wp2_with fail
  refine (head_any _ (HT.out _ hb)).mono ?_
  rintro e w1 ⟨rfl, hn⟩
  have hb := Below.go hb hn
  have kx := Lib.hid (keep' kx.out hn)
  clear hn
  obtain ⟨kx_0, kx_1, kx_2, kx_3, kx_4, kx_5, kx_6, kx_7, kx_8⟩ := blk9 kx.out
  go_wp2_with fail
  refine (usable_any A1 n1 c1 o r _ (H1.out _ hb)).mono ?_
  rintro e w2 ⟨rfl, hn⟩
  have hb := Below.go hb hn
  have kx := Lib.hid (keep' kx.out hn)
  clear hn
  rw [q.out]
  obtain ⟨kx_0, kx_1, kx_2, kx_3, kx_4, kx_5, kx_6, kx_7, kx_8⟩ := blk9 kx.out
  go_wp2_with fail
  refine (usable_any A2 n2 c2 nw r _ (H2.out _ hb)).mono ?_
  rintro e w3 ⟨rfl, hn⟩
  have hb := Below.go hb hn
  have kx := Lib.hid (keep' kx.out hn)
  clear hn
  rw [q'.out]
  obtain ⟨kx_0, kx_1, kx_2, kx_3, kx_4, kx_5, kx_6, kx_7, kx_8⟩ := blk9 kx.out
  go_wp2_with fail
  refine (fi_n (e := 2) (n := NA) (Fires_any A1 n1 c1 o r _ (HT.out _ hb) (H1.out _ hb) m1 hr) E1.out NAq.out).mono ?_
  rintro e w4 ⟨A3, c3, rfl, hc3, hz3, -, hL, hn⟩
  have hb := Below.go hb hn
  have kx := Lib.hid (keep' kx.out hn)
  clear hn
  have L3 := Lib.hid hL; clear hL hc3 hz3
  obtain ⟨kx_0, kx_1, kx_2, kx_3, kx_4, kx_5, kx_6, kx_7, kx_8⟩ := blk9 kx.out
  go_wp2_with fail
  refine (fi_n (e := 0) (n := NB) (Fires_any A2 n2 c2 nw r _ (HT.out _ hb) (H2.out _ hb) m2 hr) E2.out NBq.out).mono ?_
  rintro e w5 ⟨A4, c4, rfl, hc4, hz4, -, hL, hn⟩
  have hb := Below.go hb hn
  have kx := Lib.hid (keep' kx.out hn)
  have L3 := Lib.hid (Lp.go L3.out hn)
  clear hn
  have L4 := Lib.hid hL; clear hL hc4 hz4
  obtain ⟨kx_0, kx_1, kx_2, kx_3, kx_4, kx_5, kx_6, kx_7, kx_8⟩ := blk9 kx.out
  go_wp2_with fail
  refine (Correct_any A1 A2 n1 c1 n2 c2 o nw r t _ (HT.out _ hb) (H1.out _ hb) (H2.out _ hb) m1 m2 hr).mono ?_
  rintro e w6 ⟨B1, k1, z1, B2, k2, z2, rfl, -, -, hL1, hL2, hn⟩
  have hb := Below.go hb hn
  have kx := Lib.hid (keep' kx.out hn)
  have L3 := Lib.hid (Lp.go L3.out hn)
  have L4 := Lib.hid (Lp.go L4.out hn)
  clear hn
  rw [E3.out]
  clear hL1 hL2
  go_wp2
  go_ret
  exact ⟨by simp, hb⟩
set_option maxHeartbeats 2000000 in
set_option maxRecDepth 100000 in
theorem corrects_limit22 (A1 A2 : Option Addr) (n1 c1 n2 c2 : Nat) (o nw : Lpm.LL) (r : Rec) (t : Int) (w : World) (ht : Tab w) (h1 : Lp w.heap.size w A1 n1 o) (h2 : Lp w.heap.size w A2 n2 nw) (q : Hid (useB n1 o r = true)) (q' : Hid (useB n2 nw r = true)) (q1 : ¬ t < 0) (q2 : ¬ 3000000000000000 < t) (m1 : n1 ≤ 110) (m2 : n2 ≤ 110) (hr : Fit21 r) (NA NB : Nat) (NAq : Hid ((Rc.fiV o r).length = NA)) (NBq : Hid ((Rc.fiV nw r).length = NB)) (E1 : Hid (Rc.fiE o r = 2)) (E2 : Hid (Rc.fiE nw r = 2)) (E3 : Hid (Rc.coE o nw r t = 2)) :
    Calls Tryd.prog 5 #[.slice A1 n1 c1, .slice A2 n2 c2, (.agg #[.int .i64 r.kind, .int .i64 r.every, .int .i64 r.wd, .int .i64 r.nth, .int .i64 r.frm, .int .i64 r.unt, .int .i64 r.sec, .bool r.shift, .bool r.both]), .int .i64 t] w (LawPost w) := by
  have HT : Hid (∀ W, Below w.heap.size w W → Tab W) := Lib.hid fun W hW => ht.below hW
  have H1 : Hid (∀ W, Below w.heap.size w W → Lp W.heap.size W A1 n1 o) := Lib.hid fun W hW => h1.go hW
  have H2 : Hid (∀ W, Below w.heap.size w W → Lp W.heap.size W A2 n2 nw) := Lib.hid fun W hW => h2.go hW
  have hb := Below.goN (Below.refl w.heap.size w) (.cells #[.int .i64 r.kind, .int .i64 r.every, .int .i64 r.wd, .int .i64 r.nth, .int .i64 r.frm, .int .i64 r.unt, .int .i64 r.sec, .bool r.shift, .bool r.both] 24)
  have kx := Lib.hid (heap_new w (.cells #[.int .i64 r.kind, .int .i64 r.every, .int .i64 r.wd, .int .i64 r.nth, .int .i64 r.frm, .int .i64 r.unt, .int .i64 r.sec, .bool r.shift, .bool r.both] 24))
  clear ht h1 h2
  go_enter Tryd.func5, Tryd.ntmps5
  go_wp2_with fail
  refine (head_any _ (HT.out _ hb)).mono ?_
  rintro e w1 ⟨rfl, hn⟩
  have hb := Below.go hb hn
  have kx := Lib.hid (keep' kx.out hn)
  clear hn
  obtain ⟨kx_0, kx_1, kx_2, kx_3, kx_4, kx_5, kx_6, kx_7, kx_8⟩ := blk9 kx.out
  go_wp2_with fail
  refine (usable_any A1 n1 c1 o r _ (H1.out _ hb)).mono ?_
  rintro e w2 ⟨rfl, hn⟩
  have hb := Below.go hb hn
  have kx := Lib.hid (keep' kx.out hn)
  clear hn
  rw [q.out]
  obtain ⟨kx_0, kx_1, kx_2, kx_3, kx_4, kx_5, kx_6, kx_7, kx_8⟩ := blk9 kx.out
  go_wp2_with fail
  refine (usable_any A2 n2 c2 nw r _ (H2.out _ hb)).mono ?_
  rintro e w3 ⟨rfl, hn⟩
  have hb := Below.go hb hn
  have kx := Lib.hid (keep' kx.out hn)
  clear hn
  rw [q'.out]
  obtain ⟨kx_0, kx_1, kx_2, kx_3, kx_4, kx_5, kx_6, kx_7, kx_8⟩ := blk9 kx.out
  go_wp2_with fail
  refine (fi_n (e := 2) (n := NA) (Fires_any A1 n1 c1 o r _ (HT.out _ hb) (H1.out _ hb) m1 hr) E1.out NAq.out).mono ?_
  rintro e w4 ⟨A3, c3, rfl, hc3, hz3, -, hL, hn⟩
  have hb := Below.go hb hn
  have kx := Lib.hid (keep' kx.out hn)
  clear hn
  have L3 := Lib.hid hL; clear hL hc3 hz3
  obtain ⟨kx_0, kx_1, kx_2, kx_3, kx_4, kx_5, kx_6, kx_7, kx_8⟩ := blk9 kx.out
  go_wp2_with fail
  refine (fi_n (e := 2) (n := NB) (Fires_any A2 n2 c2 nw r _ (HT.out _ hb) (H2.out _ hb) m2 hr) E2.out NBq.out).mono ?_
  rintro e w5 ⟨A4, c4, rfl, hc4, hz4, -, hL, hn⟩
  have hb := Below.go hb hn
  have kx := Lib.hid (keep' kx.out hn)
  have L3 := Lib.hid (Lp.go L3.out hn)
  clear hn
  have L4 := Lib.hid hL; clear hL hc4 hz4
  obtain ⟨kx_0, kx_1, kx_2, kx_3, kx_4, kx_5, kx_6, kx_7, kx_8⟩ := blk9 kx.out
  go_wp2_with fail
  refine (Correct_any A1 A2 n1 c1 n2 c2 o nw r t _ (HT.out _ hb) (H1.out _ hb) (H2.out _ hb) m1 m2 hr).mono ?_
  rintro e w6 ⟨B1, k1, z1, B2, k2, z2, rfl, -, -, hL1, hL2, hn⟩
  have hb := Below.go hb hn
  have kx := Lib.hid (keep' kx.out hn)
  have L3 := Lib.hid (Lp.go L3.out hn)
  have L4 := Lib.hid (Lp.go L4.out hn)
  clear hn
  rw [E3.out]
  clear hL1 hL2
  go_wp2
  go_ret
  exact ⟨by simp, hb⟩
set_option maxHeartbeats 2000000 in
set_option maxRecDepth 100000 in
theorem corrects_limit02 (A1 A2 : Option Addr) (n1 c1 n2 c2 : Nat) (o nw : Lpm.LL) (r : Rec) (t : Int) (w : World) (ht : Tab w) (h1 : Lp w.heap.size w A1 n1 o) (h2 : Lp w.heap.size w A2 n2 nw) (q : Hid (useB n1 o r = true)) (q' : Hid (useB n2 nw r = true)) (q1 : ¬ t < 0) (q2 : ¬ 3000000000000000 < t) (m1 : n1 ≤ 110) (m2 : n2 ≤ 110) (hr : Fit21 r) (NA NB : Nat) (NAq : Hid ((Rc.fiV o r).length = NA)) (NBq : Hid ((Rc.fiV nw r).length = NB)) (E1 : Hid (Rc.fiE o r = 0)) (E2 : Hid (Rc.fiE nw r = 2)) (E3 : Hid (Rc.coE o nw r t = 2)) :
    Calls Tryd.prog 5 #[.slice A1 n1 c1, .slice A2 n2 c2, (.agg #[.int .i64 r.kind, .int .i64 r.every, .int .i64 r.wd, .int .i64 r.nth, .int .i64 r.frm, .int .i64 r.unt, .int .i64 r.sec, .bool r.shift, .bool r.both]), .int .i64 t] w (LawPost w) := by
  have HT : Hid (∀ W, Below w.heap.size w W → Tab W) := Lib.hid fun W hW => ht.below hW
  have H1 : Hid (∀ W, Below w.heap.size w W → Lp W.heap.size W A1 n1 o) := Lib.hid fun W hW => h1.go hW
  have H2 : Hid (∀ W, Below w.heap.size w W → Lp W.heap.size W A2 n2 nw) := Lib.hid fun W hW => h2.go hW
  have hb := Below.goN (Below.refl w.heap.size w) (.cells #[.int .i64 r.kind, .int .i64 r.every, .int .i64 r.wd, .int .i64 r.nth, .int .i64 r.frm, .int .i64 r.unt, .int .i64 r.sec, .bool r.shift, .bool r.both] 24)
  have kx := Lib.hid (heap_new w (.cells #[.int .i64 r.kind, .int .i64 r.every, .int .i64 r.wd, .int .i64 r.nth, .int .i64 r.frm, .int .i64 r.unt, .int .i64 r.sec, .bool r.shift, .bool r.both] 24))
  clear ht h1 h2
  go_enter Tryd.func5, Tryd.ntmps5
  go_wp2_with fail
  refine (head_any _ (HT.out _ hb)).mono ?_
  rintro e w1 ⟨rfl, hn⟩
  have hb := Below.go hb hn
  have kx := Lib.hid (keep' kx.out hn)
  clear hn
  obtain ⟨kx_0, kx_1, kx_2, kx_3, kx_4, kx_5, kx_6, kx_7, kx_8⟩ := blk9 kx.out
  go_wp2_with fail
  refine (usable_any A1 n1 c1 o r _ (H1.out _ hb)).mono ?_
  rintro e w2 ⟨rfl, hn⟩
  have hb := Below.go hb hn
  have kx := Lib.hid (keep' kx.out hn)
  clear hn
  rw [q.out]
  obtain ⟨kx_0, kx_1, kx_2, kx_3, kx_4, kx_5, kx_6, kx_7, kx_8⟩ := blk9 kx.out
  go_wp2_with fail
  refine (usable_any A2 n2 c2 nw r _ (H2.out _ hb)).mono ?_
  rintro e w3 ⟨rfl, hn⟩
  have hb := Below.go hb hn
  have kx := Lib.hid (keep' kx.out hn)
  clear hn
  rw [q'.out]
  obtain ⟨kx_0, kx_1, kx_2, kx_3, kx_4, kx_5, kx_6, kx_7, kx_8⟩ := blk9 kx.out
  go_wp2_with fail
  refine (fi_n (e := 0) (n := NA) (Fires_any A1 n1 c1 o r _ (HT.out _ hb) (H1.out _ hb) m1 hr) E1.out NAq.out).mono ?_
  rintro e w4 ⟨A3, c3, rfl, hc3, hz3, -, hL, hn⟩
  have hb := Below.go hb hn
  have kx := Lib.hid (keep' kx.out hn)
  clear hn
  have L3 := Lib.hid hL; clear hL hc3 hz3
  obtain ⟨kx_0, kx_1, kx_2, kx_3, kx_4, kx_5, kx_6, kx_7, kx_8⟩ := blk9 kx.out
  go_wp2_with fail
  refine (fi_n (e := 2) (n := NB) (Fires_any A2 n2 c2 nw r _ (HT.out _ hb) (H2.out _ hb) m2 hr) E2.out NBq.out).mono ?_
  rintro e w5 ⟨A4, c4, rfl, hc4, hz4, -, hL, hn⟩
  have hb := Below.go hb hn
  have kx := Lib.hid (keep' kx.out hn)
  have L3 := Lib.hid (Lp.go L3.out hn)
  clear hn
  have L4 := Lib.hid hL; clear hL hc4 hz4
  obtain ⟨kx_0, kx_1, kx_2, kx_3, kx_4, kx_5, kx_6, kx_7, kx_8⟩ := blk9 kx.out
  go_wp2_with fail
  refine (Correct_any A1 A2 n1 c1 n2 c2 o nw r t _ (HT.out _ hb) (H1.out _ hb) (H2.out _ hb) m1 m2 hr).mono ?_
  rintro e w6 ⟨B1, k1, z1, B2, k2, z2, rfl, -, -, hL1, hL2, hn⟩
  have hb := Below.go hb hn
  have kx := Lib.hid (keep' kx.out hn)
  have L3 := Lib.hid (Lp.go L3.out hn)
  have L4 := Lib.hid (Lp.go L4.out hn)
  clear hn
  rw [E3.out]
  clear hL1 hL2
  go_wp2
  go_ret
  exact ⟨by simp, hb⟩
set_option maxHeartbeats 2000000 in
set_option maxRecDepth 100000 in
theorem corrects_main (A1 A2 : Option Addr) (n1 c1 n2 c2 : Nat) (o nw : Lpm.LL) (r : Rec) (t : Int) (w : World) (ht : Tab w) (h1 : Lp w.heap.size w A1 n1 o) (h2 : Lp w.heap.size w A2 n2 nw) (q : Hid (useB n1 o r = true)) (q' : Hid (useB n2 nw r = true)) (q1 : ¬ t < 0) (q2 : ¬ 3000000000000000 < t) (m1 : n1 ≤ 110) (m2 : n2 ≤ 110) (hr : Fit21 r) (NA NB : Nat) (NAq : Hid ((Rc.fiV o r).length = NA)) (NBq : Hid ((Rc.fiV nw r).length = NB)) (E1 : Hid (Rc.fiE o r = 0)) (E2 : Hid (Rc.fiE nw r = 0)) (E3 : Hid (Rc.coE o nw r t = 0)) (WA : Hid (∀ k, k < NA → WfP ((Rc.fiV o r)[k]?.getD (0, 0)))) (WB : Hid (∀ k, k < NB → WfP ((Rc.fiV nw r)[k]?.getD (0, 0)))) (WF : Hid (∀ k, k < (Rc.coF o nw r t).length → WfP ((Rc.coF o nw r t)[k]?.getD (0, 0)))) (WN : Hid (∀ k, k < (Rc.coN o nw r t).length → WfP ((Rc.coN o nw r t)[k]?.getD (0, 0)))) (HK : Hid ((Rc.coF o nw r t).length ≤ (Rc.fiV o r).length ∧ (Rc.coN o nw r t).length ≤ (Rc.fiV nw r).length)) (HNet : Hid (∀ x, net (Rc.aft (Rc.fiV o r) t) (Rc.coF o nw r t) (Rc.coN o nw r t) (Rc.aft (Rc.fiV nw r) t) x = 0)) :
    Calls Tryd.prog 5 #[.slice A1 n1 c1, .slice A2 n2 c2, (.agg #[.int .i64 r.kind, .int .i64 r.every, .int .i64 r.wd, .int .i64 r.nth, .int .i64 r.frm, .int .i64 r.unt, .int .i64 r.sec, .bool r.shift, .bool r.both]), .int .i64 t] w (LawPost w) := by
  have HT : Hid (∀ W, Below w.heap.size w W → Tab W) := Lib.hid fun W hW => ht.below hW
  have H1 : Hid (∀ W, Below w.heap.size w W → Lp W.heap.size W A1 n1 o) := Lib.hid fun W hW => h1.go hW
  have H2 : Hid (∀ W, Below w.heap.size w W → Lp W.heap.size W A2 n2 nw) := Lib.hid fun W hW => h2.go hW
  have hb := Below.goN (Below.refl w.heap.size w) (.cells #[.int .i64 r.kind, .int .i64 r.every, .int .i64 r.wd, .int .i64 r.nth, .int .i64 r.frm, .int .i64 r.unt, .int .i64 r.sec, .bool r.shift, .bool r.both] 24)
  have kx := Lib.hid (heap_new w (.cells #[.int .i64 r.kind, .int .i64 r.every, .int .i64 r.wd, .int .i64 r.nth, .int .i64 r.frm, .int .i64 r.unt, .int .i64 r.sec, .bool r.shift, .bool r.both] 24))
  clear ht h1 h2
  go_enter Tryd.func5, Tryd.ntmps5
  go_wp2_with fail
  refine (head_any _ (HT.out _ hb)).mono ?_
  rintro e w1 ⟨rfl, hn⟩
  have hb := Below.go hb hn
  have kx := Lib.hid (keep' kx.out hn)
  clear hn
  obtain ⟨kx_0, kx_1, kx_2, kx_3, kx_4, kx_5, kx_6, kx_7, kx_8⟩ := blk9 kx.out
  go_wp2_with fail
  refine (usable_any A1 n1 c1 o r _ (H1.out _ hb)).mono ?_
  rintro e w2 ⟨rfl, hn⟩
  have hb := Below.go hb hn
  have kx := Lib.hid (keep' kx.out hn)
  clear hn
  rw [q.out]
  obtain ⟨kx_0, kx_1, kx_2, kx_3, kx_4, kx_5, kx_6, kx_7, kx_8⟩ := blk9 kx.out
  go_wp2_with fail
  refine (usable_any A2 n2 c2 nw r _ (H2.out _ hb)).mono ?_
  rintro e w3 ⟨rfl, hn⟩
  have hb := Below.go hb hn
  have kx := Lib.hid (keep' kx.out hn)
  clear hn
  rw [q'.out]
  obtain ⟨kx_0, kx_1, kx_2, kx_3, kx_4, kx_5, kx_6, kx_7, kx_8⟩ := blk9 kx.out
  go_wp2_with fail
  refine (fi_n (e := 0) (n := NA) (Fires_any A1 n1 c1 o r _ (HT.out _ hb) (H1.out _ hb) m1 hr) E1.out NAq.out).mono ?_
  rintro e w4 ⟨A3, c3, rfl, hc3, hz3, -, hL, hn⟩
  have hb := Below.go hb hn
  have kx := Lib.hid (keep' kx.out hn)
  clear hn
  have L3 := Lib.hid hL; clear hL hc3 hz3
  obtain ⟨kx_0, kx_1, kx_2, kx_3, kx_4, kx_5, kx_6, kx_7, kx_8⟩ := blk9 kx.out
  go_wp2_with fail
  refine (fi_n (e := 0) (n := NB) (Fires_any A2 n2 c2 nw r _ (HT.out _ hb) (H2.out _ hb) m2 hr) E2.out NBq.out).mono ?_
  rintro e w5 ⟨A4, c4, rfl, hc4, hz4, -, hL, hn⟩
  have hb := Below.go hb hn
  have kx := Lib.hid (keep' kx.out hn)
  have L3 := Lib.hid (Lp.go L3.out hn)
  clear hn
  have L4 := Lib.hid hL; clear hL hc4 hz4
  obtain ⟨kx_0, kx_1, kx_2, kx_3, kx_4, kx_5, kx_6, kx_7, kx_8⟩ := blk9 kx.out
  go_wp2_with fail
  refine (Correct_any A1 A2 n1 c1 n2 c2 o nw r t _ (HT.out _ hb) (H1.out _ hb) (H2.out _ hb) m1 m2 hr).mono ?_
  rintro e w6 ⟨B1, k1, z1, B2, k2, z2, rfl, -, -, hL1, hL2, hn⟩
  have hb := Below.go hb hn
  have kx := Lib.hid (keep' kx.out hn)
  have L3 := Lib.hid (Lp.go L3.out hn)
  have L4 := Lib.hid (Lp.go L4.out hn)
  clear hn
  rw [E3.out]
  have K1q := Lib.hid hL1.1
  have K2q := Lib.hid hL2.1
  have L5 := Lib.hid hL1
  have L6 := Lib.hid hL2
  clear hL1 hL2
  have hNA : NA ≤ 1000 := by have := Rc.fiV_len o r; rw [NAq.out] at this; exact this
  have hNB : NB ≤ 1000 := by have := Rc.fiV_len nw r; rw [NBq.out] at this; exact this
  have hK1 : k1 ≤ NA := by have := HK.out.1; rw [K1q.out, NAq.out] at this; exact this
  have hK2 : k2 ≤ NB := by have := HK.out.2; rw [K2q.out, NBq.out] at this; exact this
  have hmade := World.ownsMap_made w6 Tryd.prog tF (plainElem (H := Unit) Tryd.prog 3)
  have hmm := @run_makeMap Tryd.prog
  go_wp2
  clear hmm
  go_loopw [95] (fun i wr => ∃ (k m : Nat) (D : DataW Unit), k ≤ NA ∧ i = .int .i64 k ∧ m ≤ 0 + k ∧ Hid (wr.ownsMap Tryd.prog tF (plainElem Tryd.prog 3) w6.heap.size m D) ∧ Hid (NetOk (net (Rc.aft ((Rc.fiV o r).take k) t) [] [] []) D) ∧ Below w6.heap.size w6 wr) (fun i _ => NA - (intOf i).toNat)
  case atStart => exact ⟨0, 0, _, Nat.zero_le _, rfl, Nat.zero_le _, Lib.hid hmade, Lib.hid (net_nil fun x => by simp [net, Rc.aft]), Below.goN (Below.refl _ _) _⟩
  case round =>
    obtain ⟨k, m, D, hk, rfl, hm, hown, hnet, hbr⟩ := hrel
    by_cases hlt : k < NA
    · obtain ⟨b, off, rfl, hB, hc⟩ := L3.out.2 (by omega)
      have c0 := (hbr.cell (p := ⟨b, off + k * 2, none⟩) hB).trans (hc k hlt).1
      have c1' := (hbr.cell (p := ⟨b, off + k * 2 + 1, none⟩) hB).trans (hc k hlt).2
      have hwx := WA.out k hlt
      obtain ⟨d, s, hx⟩ : ∃ d s, (Rc.fiV o r)[k]?.getD (0, 0) = (d, s) := ⟨_, _, rfl⟩
      rw [hx] at c0 c1' hwx
      have hbx := Below.goN hbr (.cells #[.int .i64 d, .int .i64 s] tF)
      have kz := Lib.hid (heap_new wr (.cells #[.int .i64 d, .int .i64 s] tF))
      obtain ⟨⟨z0, z1⟩, -⟩ := blk2 kz.out
      have i0 : (0 : Int) ≤ (k : Int) := by omega
      have i1 : (k : Int) < (NA : Int) := by omega
      by_cases hd : t < s
      · have hd' : decide (t < s) = true := decide_eq_true hd
        have hV : Rc.aft ((Rc.fiV o r).take (k + 1)) t = Rc.aft ((Rc.fiV o r).take k) t ++ [(d, s)] := Rc.aft_yes NAq.out hlt hx hd
        have hv := hnet.out.2.1 (d, s) hwx
        obtain ⟨q0, q1⟩ := net_bd (A := Rc.aft ((Rc.fiV o r).take k) t) (F := []) (N := []) (B := []) (Nat.le_trans (Rc.aft_len _ _) (by rw [List.length_take]; omega)) (Nat.zero_le _) (Nat.zero_le _) (Nat.zero_le _) (d, s)
        have HNew : Hid (NetOk (net (Rc.aft ((Rc.fiV o r).take (k + 1)) t) [] [] []) (D.put (kF (d, s)) (.lit (.int .i64 ((net (Rc.aft ((Rc.fiV o r).take k) t) [] [] []) (d, s) + 1))))) := Lib.hid (net_put hnet.out (d, s) hwx _ (by rw [hV, net_A, if_pos rfl]) (fun y hy => by rw [hV, net_A, if_neg hy]; omega))
        have Hwx := Lib.hid hwx
        clear hV hwx hnet hc
        generalize (net (Rc.aft ((Rc.fiV o r).take k) t) [] [] []) (d, s) = C at *
        have hwr : IntKind.i64.wrap (C + 1) = C + 1 := IntWalk.i64_in _ (by omega)
        have hlm := hown.out.lt
        obtain ⟨W0, hW0⟩ : ∃ W0, W0 = (wr.alloc (.cells #[.int .i64 d, .int .i64 s] tF)).drew := ⟨_, rfl⟩
        have own0 : W0.ownsMap Tryd.prog tF (plainElem Tryd.prog 3) w6.heap.size m D := by rw [hW0]; exact (hown.out.alloc (.cells #[.int .i64 d, .int .i64 s] tF)).drew
        have kz0 : W0.heap[wr.heap.size]? = some (.cells #[.int .i64 d, .int .i64 s] tF) := by rw [hW0]; exact kz.out
        have hb0 : Below w6.heap.size w6 W0 := by rw [hW0]; exact hbx.drew
        obtain ⟨v0, st, x1, x2, e1, e2, e3, e4, own2, gr1, gr2⟩ := entry_own (s := C + 1) own0 (by unfold maxLen; omega) Hwx.out hv (wf_small (by omega) (by omega))
        have hne : (some wr.heap.size : Option Nat) ≠ some w6.heap.size := by simp; omega
        have KZ : Hid (∀ L W, BC W0 x1 x2 L W → W.heap[wr.heap.size]? = some (.cells #[.int .i64 d, .int .i64 s] tF)) := Lib.hid fun L W h => by rcases h.which with rfl | rfl | rfl; exact kz0; exact (gr1.block _ (lt_of_heap kz0) hne).trans kz0; exact (gr2.block _ (lt_of_heap kz0) hne).trans kz0
        have hb2 := Below.grown hb0 gr2 (by have := hb0.size; omega) (fun g e => by cases e; exact Nat.le_refl _)
        have HO2 := Lib.hid own2
        have HW0 := Lib.hid hW0
        clear own2 gr1 gr2 kz0 own0 hv hne hW0
        go_wp2_with fail
        refine wp_region_cls (BC W0 x1 x2) (by kernel_rfl) (by kernel_rfl) (.inr (.inr ⟨rfl, rfl, by rw [HW0.out]; rfl⟩)) ?_
        refine cls_pure (.map (some w6.heap.size)) (fun L W h => h.other (by decide) (by decide) (by decide)) (by kernel_rfl) (fun L W h0 h1 h2 => by go_simp) ?_
        simp only [Act.put, List.setIfInBounds_toArray, List.set_cons_succ, List.set_cons_zero]
        refine cls_pure (FV (d, s)) (fun L W h => h.other (by decide) (by decide) (by decide)) (by kernel_rfl) (fun L W h0 h1 h2 => by obtain ⟨⟨z0, z1⟩, -⟩ := blk2 (KZ.out L W h2); go_simp) ?_
        simp only [Act.put, List.setIfInBounds_toArray, List.set_cons_succ, List.set_cons_zero]
        refine cls_res (.int .i64 C) (by kernel_rfl) (fun L W h0 h1 h2 => by obtain ⟨hw, hc⟩ := h2.look (ready_un h1); rcases hw with rfl | rfl <;> (go_simp; exact ⟨hc, rfl⟩)) ?_
        simp only [Act.put, List.setIfInBounds_toArray, List.set_cons_succ, List.set_cons_zero]
        refine cls_pure (.int .i64 (C + 1)) (fun L W h => h.other (by decide) (by decide) (by decide)) (by kernel_rfl) (fun L W h0 h1 h2 => by go_simp) ?_
        simp only [Act.put, List.setIfInBounds_toArray, List.set_cons_succ, List.set_cons_zero]
        refine cls_res (.tuple #[v0, .int .i64 (st : Int)]) (by kernel_rfl) (fun L W h0 h1 h2 => by obtain ⟨hw, hc⟩ := h2.ask (ready_un h1); subst hw; go_simp; exact ⟨hc, rfl⟩) ?_
        simp only [Act.put, List.setIfInBounds_toArray, List.set_cons_succ, List.set_cons_zero]
        refine cls_pure (.int .i64 (st : Int)) (fun L W h => h.other (by decide) (by decide) (by decide)) (by kernel_rfl) (fun L W h0 h1 h2 => by go_simp) ?_
        simp only [Act.put, List.setIfInBounds_toArray, List.set_cons_succ, List.set_cons_zero]
        refine cls_res undef (by kernel_rfl) (fun L W h0 h1 h2 => by obtain ⟨hw, hc⟩ := h2.give (ready_un h1) (ready_dep h1 4 (by kernel_rfl)) (ready_dep h1 2 (by kernel_rfl)); subst hw; go_simp; exact ⟨hc, rfl⟩) ?_
        simp only [Act.put, List.setIfInBounds_toArray, List.set_cons_succ, List.set_cons_zero]
        intro L W hL hC
        obtain rfl := hC.fin (hL 6 (by decide))
        clear e1 e2 e3 e4 hwr
        go_wp2
        go_roundw
        case rel => exact ⟨k + 1, m + 1, _, by omega, by go_num, by omega, HO2, HNew, hb2⟩
        case measure => simp [intOf]; omega
      · have hd' : decide (t < s) = false := decide_eq_false hd
        have hV : Rc.aft ((Rc.fiV o r).take (k + 1)) t = Rc.aft ((Rc.fiV o r).take k) t := Rc.aft_no NAq.out hlt hx hd
        have HNew : Hid (NetOk (net (Rc.aft ((Rc.fiV o r).take (k + 1)) t) [] [] []) D) := by rw [hV]; exact hnet
        clear hV hwx hnet hc
        go_wp2
        go_roundw
        case rel => exact ⟨k + 1, m, D, by omega, by go_num, by omega, Lib.hid (hown.out.alloc _), HNew, hbx⟩
        case measure => simp [intOf]; omega
    · obtain rfl : NA = k := by omega
      obtain ⟨mE, DE, hmE, hownE, hbE⟩ : ∃ (mE : Nat) (DE : DataW Unit), mE ≤ 0 + 1000 ∧ Hid (wr.ownsMap Tryd.prog tF (plainElem Tryd.prog 3) w6.heap.size mE DE ∧ NetOk (net (Rc.aft ((Rc.fiV o r).take NA) t) [] [] []) DE) ∧ Below w6.heap.size w6 wr := ⟨m, D, by omega, Lib.hid ⟨hown.out, hnet.out⟩, hbr⟩
      have hnetE := Lib.hid hownE.out.2
      have hownE := Lib.hid hownE.out.1
      rw [List.take_of_length_le (Nat.le_of_eq NAq.out)] at hnetE
      clear hown hnet hk hm hlt
      go_wp2
      skip
      go_loopw [112] (fun i wr => ∃ (k m : Nat) (D : DataW Unit), k ≤ k1 ∧ i = .int .i64 k ∧ m ≤ 1000 + k ∧ Hid (wr.ownsMap Tryd.prog tF (plainElem Tryd.prog 3) w6.heap.size m D) ∧ Hid (NetOk (net (Rc.aft (Rc.fiV o r) t) ((Rc.coF o nw r t).take k) [] []) D) ∧ Below w6.heap.size w6 wr) (fun i _ => k1 - (intOf i).toNat)
      case atStart => exact ⟨0, mE, DE, Nat.zero_le _, rfl, hmE, hownE, hnetE, hbE⟩
      case round =>
        obtain ⟨k, m, D, hk, rfl, hm, hown, hnet, hbr⟩ := hrel
        by_cases hlt : k < k1
        · obtain ⟨b, off, rfl, hB, hc⟩ := L5.out.2 (by omega)
          have c0 := (hbr.cell (p := ⟨b, off + k * 2, none⟩) hB).trans (hc k hlt).1
          have c1' := (hbr.cell (p := ⟨b, off + k * 2 + 1, none⟩) hB).trans (hc k hlt).2
          have hwx := WF.out k (by rw [K1q.out]; exact hlt)
          obtain ⟨d, s, hx⟩ : ∃ d s, (Rc.coF o nw r t)[k]?.getD (0, 0) = (d, s) := ⟨_, _, rfl⟩
          rw [hx] at c0 c1' hwx
          have hbx := Below.goN hbr (.cells #[.int .i64 d, .int .i64 s] tF)
          have kz := Lib.hid (heap_new wr (.cells #[.int .i64 d, .int .i64 s] tF))
          obtain ⟨⟨z0, z1⟩, -⟩ := blk2 kz.out
          have i0 : (0 : Int) ≤ (k : Int) := by omega
          have i1 : (k : Int) < (k1 : Int) := by omega
          have hV : ((Rc.coF o nw r t).take (k + 1)) = ((Rc.coF o nw r t).take k) ++ [(d, s)] := by rw [takeL_snoc K1q.out hlt, hx]
          have hv := hnet.out.2.1 (d, s) hwx
          obtain ⟨q0, q1⟩ := net_bd (A := (Rc.aft (Rc.fiV o r) t)) (F := ((Rc.coF o nw r t).take k)) (N := []) (B := []) (Nat.le_trans (Rc.aft_len _ _) (by rw [NAq.out]; omega)) (by rw [List.length_take]; omega) (Nat.zero_le _) (Nat.zero_le _) (d, s)
          have HNew : Hid (NetOk (net (Rc.aft (Rc.fiV o r) t) ((Rc.coF o nw r t).take (k + 1)) [] []) (D.put (kF (d, s)) (.lit (.int .i64 ((net (Rc.aft (Rc.fiV o r) t) ((Rc.coF o nw r t).take k) [] []) (d, s) - 1))))) := Lib.hid (net_put hnet.out (d, s) hwx _ (by rw [hV, net_F, if_pos rfl]) (fun y hy => by rw [hV, net_F, if_neg hy]; omega))
          have Hwx := Lib.hid hwx
          clear hV hwx hnet hc
          generalize (net (Rc.aft (Rc.fiV o r) t) ((Rc.coF o nw r t).take k) [] []) (d, s) = C at *
          have hwr : IntKind.i64.wrap (C - 1) = C - 1 := IntWalk.i64_in _ (by omega)
          have hlm := hown.out.lt
          obtain ⟨W0, hW0⟩ : ∃ W0, W0 = (wr.alloc (.cells #[.int .i64 d, .int .i64 s] tF)).drew := ⟨_, rfl⟩
          have own0 : W0.ownsMap Tryd.prog tF (plainElem Tryd.prog 3) w6.heap.size m D := by rw [hW0]; exact (hown.out.alloc (.cells #[.int .i64 d, .int .i64 s] tF)).drew
          have kz0 : W0.heap[wr.heap.size]? = some (.cells #[.int .i64 d, .int .i64 s] tF) := by rw [hW0]; exact kz.out
          have hb0 : Below w6.heap.size w6 W0 := by rw [hW0]; exact hbx.drew
          obtain ⟨v0, st, x1, x2, e1, e2, e3, e4, own2, gr1, gr2⟩ := entry_own (s := C - 1) own0 (by unfold maxLen; omega) Hwx.out hv (wf_small (by omega) (by omega))
          have hne : (some wr.heap.size : Option Nat) ≠ some w6.heap.size := by simp; omega
          have KZ : Hid (∀ L W, BC W0 x1 x2 L W → W.heap[wr.heap.size]? = some (.cells #[.int .i64 d, .int .i64 s] tF)) := Lib.hid fun L W h => by rcases h.which with rfl | rfl | rfl; exact kz0; exact (gr1.block _ (lt_of_heap kz0) hne).trans kz0; exact (gr2.block _ (lt_of_heap kz0) hne).trans kz0
          have hb2 := Below.grown hb0 gr2 (by have := hb0.size; omega) (fun g e => by cases e; exact Nat.le_refl _)
          have HO2 := Lib.hid own2
          have HW0 := Lib.hid hW0
          clear own2 gr1 gr2 kz0 own0 hv hne hW0
          go_wp2_with fail
          refine wp_region_cls (BC W0 x1 x2) (by kernel_rfl) (by kernel_rfl) (.inr (.inr ⟨rfl, rfl, by rw [HW0.out]; rfl⟩)) ?_
          refine cls_pure (.map (some w6.heap.size)) (fun L W h => h.other (by decide) (by decide) (by decide)) (by kernel_rfl) (fun L W h0 h1 h2 => by go_simp) ?_
          simp only [Act.put, List.setIfInBounds_toArray, List.set_cons_succ, List.set_cons_zero]
          refine cls_pure (FV (d, s)) (fun L W h => h.other (by decide) (by decide) (by decide)) (by kernel_rfl) (fun L W h0 h1 h2 => by obtain ⟨⟨z0, z1⟩, -⟩ := blk2 (KZ.out L W h2); go_simp) ?_
          simp only [Act.put, List.setIfInBounds_toArray, List.set_cons_succ, List.set_cons_zero]
          refine cls_res (.int .i64 C) (by kernel_rfl) (fun L W h0 h1 h2 => by obtain ⟨hw, hc⟩ := h2.look (ready_un h1); rcases hw with rfl | rfl <;> (go_simp; exact ⟨hc, rfl⟩)) ?_
          simp only [Act.put, List.setIfInBounds_toArray, List.set_cons_succ, List.set_cons_zero]
          refine cls_pure (.int .i64 (C - 1)) (fun L W h => h.other (by decide) (by decide) (by decide)) (by kernel_rfl) (fun L W h0 h1 h2 => by go_simp) ?_
          simp only [Act.put, List.setIfInBounds_toArray, List.set_cons_succ, List.set_cons_zero]
          refine cls_res (.tuple #[v0, .int .i64 (st : Int)]) (by kernel_rfl) (fun L W h0 h1 h2 => by obtain ⟨hw, hc⟩ := h2.ask (ready_un h1); subst hw; go_simp; exact ⟨hc, rfl⟩) ?_
          simp only [Act.put, List.setIfInBounds_toArray, List.set_cons_succ, List.set_cons_zero]
          refine cls_pure (.int .i64 (st : Int)) (fun L W h => h.other (by decide) (by decide) (by decide)) (by kernel_rfl) (fun L W h0 h1 h2 => by go_simp) ?_
          simp only [Act.put, List.setIfInBounds_toArray, List.set_cons_succ, List.set_cons_zero]
          refine cls_res undef (by kernel_rfl) (fun L W h0 h1 h2 => by obtain ⟨hw, hc⟩ := h2.give (ready_un h1) (ready_dep h1 4 (by kernel_rfl)) (ready_dep h1 2 (by kernel_rfl)); subst hw; go_simp; exact ⟨hc, rfl⟩) ?_
          simp only [Act.put, List.setIfInBounds_toArray, List.set_cons_succ, List.set_cons_zero]
          intro L W hL hC
          obtain rfl := hC.fin (hL 6 (by decide))
          clear e1 e2 e3 e4 hwr
          go_wp2
          go_roundw
          case rel => exact ⟨k + 1, m + 1, _, by omega, by go_num, by omega, HO2, HNew, hb2⟩
          case measure => simp [intOf]; omega
        · obtain rfl : k1 = k := by omega
          obtain ⟨mE, DE, hmE, hownE, hbE⟩ : ∃ (mE : Nat) (DE : DataW Unit), mE ≤ 1000 + 1000 ∧ Hid (wr.ownsMap Tryd.prog tF (plainElem Tryd.prog 3) w6.heap.size mE DE ∧ NetOk (net (Rc.aft (Rc.fiV o r) t) ((Rc.coF o nw r t).take k1) [] []) DE) ∧ Below w6.heap.size w6 wr := ⟨m, D, by omega, Lib.hid ⟨hown.out, hnet.out⟩, hbr⟩
          have hnetE := Lib.hid hownE.out.2
          have hownE := Lib.hid hownE.out.1
          rw [List.take_of_length_le (Nat.le_of_eq K1q.out)] at hnetE
          clear hown hnet hk hm hlt
          go_wp2
          skip
          go_loopw [125] (fun i wr => ∃ (k m : Nat) (D : DataW Unit), k ≤ k2 ∧ i = .int .i64 k ∧ m ≤ 2000 + k ∧ Hid (wr.ownsMap Tryd.prog tF (plainElem Tryd.prog 3) w6.heap.size m D) ∧ Hid (NetOk (net (Rc.aft (Rc.fiV o r) t) (Rc.coF o nw r t) ((Rc.coN o nw r t).take k) []) D) ∧ Below w6.heap.size w6 wr) (fun i _ => k2 - (intOf i).toNat)
          case atStart => exact ⟨0, mE, DE, Nat.zero_le _, rfl, hmE, hownE, hnetE, hbE⟩
          case round =>
            obtain ⟨k, m, D, hk, rfl, hm, hown, hnet, hbr⟩ := hrel
            by_cases hlt : k < k2
            · obtain ⟨b, off, rfl, hB, hc⟩ := L6.out.2 (by omega)
              have c0 := (hbr.cell (p := ⟨b, off + k * 2, none⟩) hB).trans (hc k hlt).1
              have c1' := (hbr.cell (p := ⟨b, off + k * 2 + 1, none⟩) hB).trans (hc k hlt).2
              have hwx := WN.out k (by rw [K2q.out]; exact hlt)
              obtain ⟨d, s, hx⟩ : ∃ d s, (Rc.coN o nw r t)[k]?.getD (0, 0) = (d, s) := ⟨_, _, rfl⟩
              rw [hx] at c0 c1' hwx
              have hbx := Below.goN hbr (.cells #[.int .i64 d, .int .i64 s] tF)
              have kz := Lib.hid (heap_new wr (.cells #[.int .i64 d, .int .i64 s] tF))
              obtain ⟨⟨z0, z1⟩, -⟩ := blk2 kz.out
              have i0 : (0 : Int) ≤ (k : Int) := by omega
              have i1 : (k : Int) < (k2 : Int) := by omega
              have hV : ((Rc.coN o nw r t).take (k + 1)) = ((Rc.coN o nw r t).take k) ++ [(d, s)] := by rw [takeL_snoc K2q.out hlt, hx]
              have hv := hnet.out.2.1 (d, s) hwx
              obtain ⟨q0, q1⟩ := net_bd (A := (Rc.aft (Rc.fiV o r) t)) (F := (Rc.coF o nw r t)) (N := ((Rc.coN o nw r t).take k)) (B := []) (Nat.le_trans (Rc.aft_len _ _) (by rw [NAq.out]; omega)) (by rw [K1q.out]; omega) (by rw [List.length_take]; omega) (Nat.zero_le _) (d, s)
              have HNew : Hid (NetOk (net (Rc.aft (Rc.fiV o r) t) (Rc.coF o nw r t) ((Rc.coN o nw r t).take (k + 1)) []) (D.put (kF (d, s)) (.lit (.int .i64 ((net (Rc.aft (Rc.fiV o r) t) (Rc.coF o nw r t) ((Rc.coN o nw r t).take k) []) (d, s) + 1))))) := Lib.hid (net_put hnet.out (d, s) hwx _ (by rw [hV, net_N, if_pos rfl]) (fun y hy => by rw [hV, net_N, if_neg hy]; omega))
              have Hwx := Lib.hid hwx
              clear hV hwx hnet hc
              generalize (net (Rc.aft (Rc.fiV o r) t) (Rc.coF o nw r t) ((Rc.coN o nw r t).take k) []) (d, s) = C at *
              have hwr : IntKind.i64.wrap (C + 1) = C + 1 := IntWalk.i64_in _ (by omega)
              have hlm := hown.out.lt
              obtain ⟨W0, hW0⟩ : ∃ W0, W0 = (wr.alloc (.cells #[.int .i64 d, .int .i64 s] tF)).drew := ⟨_, rfl⟩
              have own0 : W0.ownsMap Tryd.prog tF (plainElem Tryd.prog 3) w6.heap.size m D := by rw [hW0]; exact (hown.out.alloc (.cells #[.int .i64 d, .int .i64 s] tF)).drew
              have kz0 : W0.heap[wr.heap.size]? = some (.cells #[.int .i64 d, .int .i64 s] tF) := by rw [hW0]; exact kz.out
              have hb0 : Below w6.heap.size w6 W0 := by rw [hW0]; exact hbx.drew
              obtain ⟨v0, st, x1, x2, e1, e2, e3, e4, own2, gr1, gr2⟩ := entry_own (s := C + 1) own0 (by unfold maxLen; omega) Hwx.out hv (wf_small (by omega) (by omega))
              have hne : (some wr.heap.size : Option Nat) ≠ some w6.heap.size := by simp; omega
              have KZ : Hid (∀ L W, BC W0 x1 x2 L W → W.heap[wr.heap.size]? = some (.cells #[.int .i64 d, .int .i64 s] tF)) := Lib.hid fun L W h => by rcases h.which with rfl | rfl | rfl; exact kz0; exact (gr1.block _ (lt_of_heap kz0) hne).trans kz0; exact (gr2.block _ (lt_of_heap kz0) hne).trans kz0
              have hb2 := Below.grown hb0 gr2 (by have := hb0.size; omega) (fun g e => by cases e; exact Nat.le_refl _)
              have HO2 := Lib.hid own2
              have HW0 := Lib.hid hW0
              clear own2 gr1 gr2 kz0 own0 hv hne hW0
              go_wp2_with fail
              refine wp_region_cls (BC W0 x1 x2) (by kernel_rfl) (by kernel_rfl) (.inr (.inr ⟨rfl, rfl, by rw [HW0.out]; rfl⟩)) ?_
              refine cls_pure (.map (some w6.heap.size)) (fun L W h => h.other (by decide) (by decide) (by decide)) (by kernel_rfl) (fun L W h0 h1 h2 => by go_simp) ?_
              simp only [Act.put, List.setIfInBounds_toArray, List.set_cons_succ, List.set_cons_zero]
              refine cls_pure (FV (d, s)) (fun L W h => h.other (by decide) (by decide) (by decide)) (by kernel_rfl) (fun L W h0 h1 h2 => by obtain ⟨⟨z0, z1⟩, -⟩ := blk2 (KZ.out L W h2); go_simp) ?_
              simp only [Act.put, List.setIfInBounds_toArray, List.set_cons_succ, List.set_cons_zero]
              refine cls_res (.int .i64 C) (by kernel_rfl) (fun L W h0 h1 h2 => by obtain ⟨hw, hc⟩ := h2.look (ready_un h1); rcases hw with rfl | rfl <;> (go_simp; exact ⟨hc, rfl⟩)) ?_
              simp only [Act.put, List.setIfInBounds_toArray, List.set_cons_succ, List.set_cons_zero]
              refine cls_pure (.int .i64 (C + 1)) (fun L W h => h.other (by decide) (by decide) (by decide)) (by kernel_rfl) (fun L W h0 h1 h2 => by go_simp) ?_
              simp only [Act.put, List.setIfInBounds_toArray, List.set_cons_succ, List.set_cons_zero]
              refine cls_res (.tuple #[v0, .int .i64 (st : Int)]) (by kernel_rfl) (fun L W h0 h1 h2 => by obtain ⟨hw, hc⟩ := h2.ask (ready_un h1); subst hw; go_simp; exact ⟨hc, rfl⟩) ?_
              simp only [Act.put, List.setIfInBounds_toArray, List.set_cons_succ, List.set_cons_zero]
              refine cls_pure (.int .i64 (st : Int)) (fun L W h => h.other (by decide) (by decide) (by decide)) (by kernel_rfl) (fun L W h0 h1 h2 => by go_simp) ?_
              simp only [Act.put, List.setIfInBounds_toArray, List.set_cons_succ, List.set_cons_zero]
              refine cls_res undef (by kernel_rfl) (fun L W h0 h1 h2 => by obtain ⟨hw, hc⟩ := h2.give (ready_un h1) (ready_dep h1 4 (by kernel_rfl)) (ready_dep h1 2 (by kernel_rfl)); subst hw; go_simp; exact ⟨hc, rfl⟩) ?_
              simp only [Act.put, List.setIfInBounds_toArray, List.set_cons_succ, List.set_cons_zero]
              intro L W hL hC
              obtain rfl := hC.fin (hL 6 (by decide))
              clear e1 e2 e3 e4 hwr
              go_wp2
              go_roundw
              case rel => exact ⟨k + 1, m + 1, _, by omega, by go_num, by omega, HO2, HNew, hb2⟩
              case measure => simp [intOf]; omega
            · obtain rfl : k2 = k := by omega
              obtain ⟨mE, DE, hmE, hownE, hbE⟩ : ∃ (mE : Nat) (DE : DataW Unit), mE ≤ 2000 + 1000 ∧ Hid (wr.ownsMap Tryd.prog tF (plainElem Tryd.prog 3) w6.heap.size mE DE ∧ NetOk (net (Rc.aft (Rc.fiV o r) t) (Rc.coF o nw r t) ((Rc.coN o nw r t).take k2) []) DE) ∧ Below w6.heap.size w6 wr := ⟨m, D, by omega, Lib.hid ⟨hown.out, hnet.out⟩, hbr⟩
              have hnetE := Lib.hid hownE.out.2
              have hownE := Lib.hid hownE.out.1
              rw [List.take_of_length_le (Nat.le_of_eq K2q.out)] at hnetE
              clear hown hnet hk hm hlt
              go_wp2
              skip
              go_loopw [138] (fun i wr => ∃ (k m : Nat) (D : DataW Unit), k ≤ NB ∧ i = .int .i64 k ∧ m ≤ 3000 + k ∧ Hid (wr.ownsMap Tryd.prog tF (plainElem Tryd.prog 3) w6.heap.size m D) ∧ Hid (NetOk (net (Rc.aft (Rc.fiV o r) t) (Rc.coF o nw r t) (Rc.coN o nw r t) (Rc.aft ((Rc.fiV nw r).take k) t)) D) ∧ Below w6.heap.size w6 wr) (fun i _ => NB - (intOf i).toNat)
              case atStart => exact ⟨0, mE, DE, Nat.zero_le _, rfl, hmE, hownE, hnetE, hbE⟩
              case round =>
                obtain ⟨k, m, D, hk, rfl, hm, hown, hnet, hbr⟩ := hrel
                by_cases hlt : k < NB
                · obtain ⟨b, off, rfl, hB, hc⟩ := L4.out.2 (by omega)
                  have c0 := (hbr.cell (p := ⟨b, off + k * 2, none⟩) hB).trans (hc k hlt).1
                  have c1' := (hbr.cell (p := ⟨b, off + k * 2 + 1, none⟩) hB).trans (hc k hlt).2
                  have hwx := WB.out k hlt
                  obtain ⟨d, s, hx⟩ : ∃ d s, (Rc.fiV nw r)[k]?.getD (0, 0) = (d, s) := ⟨_, _, rfl⟩
                  rw [hx] at c0 c1' hwx
                  have hbx := Below.goN hbr (.cells #[.int .i64 d, .int .i64 s] tF)
                  have kz := Lib.hid (heap_new wr (.cells #[.int .i64 d, .int .i64 s] tF))
                  obtain ⟨⟨z0, z1⟩, -⟩ := blk2 kz.out
                  have i0 : (0 : Int) ≤ (k : Int) := by omega
                  have i1 : (k : Int) < (NB : Int) := by omega
                  by_cases hd : t < s
                  · have hd' : decide (t < s) = true := decide_eq_true hd
                    have hV : Rc.aft ((Rc.fiV nw r).take (k + 1)) t = Rc.aft ((Rc.fiV nw r).take k) t ++ [(d, s)] := Rc.aft_yes NBq.out hlt hx hd
                    have hv := hnet.out.2.1 (d, s) hwx
                    obtain ⟨q0, q1⟩ := net_bd (A := (Rc.aft (Rc.fiV o r) t)) (F := (Rc.coF o nw r t)) (N := (Rc.coN o nw r t)) (B := Rc.aft ((Rc.fiV nw r).take k) t) (Nat.le_trans (Rc.aft_len _ _) (by rw [NAq.out]; omega)) (by rw [K1q.out]; omega) (by rw [K2q.out]; omega) (Nat.le_trans (Rc.aft_len _ _) (by rw [List.length_take]; omega)) (d, s)
                    have HNew : Hid (NetOk (net (Rc.aft (Rc.fiV o r) t) (Rc.coF o nw r t) (Rc.coN o nw r t) (Rc.aft ((Rc.fiV nw r).take (k + 1)) t)) (D.put (kF (d, s)) (.lit (.int .i64 ((net (Rc.aft (Rc.fiV o r) t) (Rc.coF o nw r t) (Rc.coN o nw r t) (Rc.aft ((Rc.fiV nw r).take k) t)) (d, s) - 1))))) := Lib.hid (net_put hnet.out (d, s) hwx _ (by rw [hV, net_B, if_pos rfl]) (fun y hy => by rw [hV, net_B, if_neg hy]; omega))
                    have Hwx := Lib.hid hwx
                    clear hV hwx hnet hc
                    generalize (net (Rc.aft (Rc.fiV o r) t) (Rc.coF o nw r t) (Rc.coN o nw r t) (Rc.aft ((Rc.fiV nw r).take k) t)) (d, s) = C at *
                    have hwr : IntKind.i64.wrap (C - 1) = C - 1 := IntWalk.i64_in _ (by omega)
                    have hlm := hown.out.lt
                    obtain ⟨W0, hW0⟩ : ∃ W0, W0 = (wr.alloc (.cells #[.int .i64 d, .int .i64 s] tF)).drew := ⟨_, rfl⟩
                    have own0 : W0.ownsMap Tryd.prog tF (plainElem Tryd.prog 3) w6.heap.size m D := by rw [hW0]; exact (hown.out.alloc (.cells #[.int .i64 d, .int .i64 s] tF)).drew
                    have kz0 : W0.heap[wr.heap.size]? = some (.cells #[.int .i64 d, .int .i64 s] tF) := by rw [hW0]; exact kz.out
                    have hb0 : Below w6.heap.size w6 W0 := by rw [hW0]; exact hbx.drew
                    obtain ⟨v0, st, x1, x2, e1, e2, e3, e4, own2, gr1, gr2⟩ := entry_own (s := C - 1) own0 (by unfold maxLen; omega) Hwx.out hv (wf_small (by omega) (by omega))
                    have hne : (some wr.heap.size : Option Nat) ≠ some w6.heap.size := by simp; omega
                    have KZ : Hid (∀ L W, BC W0 x1 x2 L W → W.heap[wr.heap.size]? = some (.cells #[.int .i64 d, .int .i64 s] tF)) := Lib.hid fun L W h => by rcases h.which with rfl | rfl | rfl; exact kz0; exact (gr1.block _ (lt_of_heap kz0) hne).trans kz0; exact (gr2.block _ (lt_of_heap kz0) hne).trans kz0
                    have hb2 := Below.grown hb0 gr2 (by have := hb0.size; omega) (fun g e => by cases e; exact Nat.le_refl _)
                    have HO2 := Lib.hid own2
                    have HW0 := Lib.hid hW0
                    clear own2 gr1 gr2 kz0 own0 hv hne hW0
                    go_wp2_with fail
                    refine wp_region_cls (BC W0 x1 x2) (by kernel_rfl) (by kernel_rfl) (.inr (.inr ⟨rfl, rfl, by rw [HW0.out]; rfl⟩)) ?_
                    refine cls_pure (.map (some w6.heap.size)) (fun L W h => h.other (by decide) (by decide) (by decide)) (by kernel_rfl) (fun L W h0 h1 h2 => by go_simp) ?_
                    simp only [Act.put, List.setIfInBounds_toArray, List.set_cons_succ, List.set_cons_zero]
                    refine cls_pure (FV (d, s)) (fun L W h => h.other (by decide) (by decide) (by decide)) (by kernel_rfl) (fun L W h0 h1 h2 => by obtain ⟨⟨z0, z1⟩, -⟩ := blk2 (KZ.out L W h2); go_simp) ?_
                    simp only [Act.put, List.setIfInBounds_toArray, List.set_cons_succ, List.set_cons_zero]
                    refine cls_res (.int .i64 C) (by kernel_rfl) (fun L W h0 h1 h2 => by obtain ⟨hw, hc⟩ := h2.look (ready_un h1); rcases hw with rfl | rfl <;> (go_simp; exact ⟨hc, rfl⟩)) ?_
                    simp only [Act.put, List.setIfInBounds_toArray, List.set_cons_succ, List.set_cons_zero]
                    refine cls_pure (.int .i64 (C - 1)) (fun L W h => h.other (by decide) (by decide) (by decide)) (by kernel_rfl) (fun L W h0 h1 h2 => by go_simp) ?_
                    simp only [Act.put, List.setIfInBounds_toArray, List.set_cons_succ, List.set_cons_zero]
                    refine cls_res (.tuple #[v0, .int .i64 (st : Int)]) (by kernel_rfl) (fun L W h0 h1 h2 => by obtain ⟨hw, hc⟩ := h2.ask (ready_un h1); subst hw; go_simp; exact ⟨hc, rfl⟩) ?_
                    simp only [Act.put, List.setIfInBounds_toArray, List.set_cons_succ, List.set_cons_zero]
                    refine cls_pure (.int .i64 (st : Int)) (fun L W h => h.other (by decide) (by decide) (by decide)) (by kernel_rfl) (fun L W h0 h1 h2 => by go_simp) ?_
                    simp only [Act.put, List.setIfInBounds_toArray, List.set_cons_succ, List.set_cons_zero]
                    refine cls_res undef (by kernel_rfl) (fun L W h0 h1 h2 => by obtain ⟨hw, hc⟩ := h2.give (ready_un h1) (ready_dep h1 4 (by kernel_rfl)) (ready_dep h1 2 (by kernel_rfl)); subst hw; go_simp; exact ⟨hc, rfl⟩) ?_
                    simp only [Act.put, List.setIfInBounds_toArray, List.set_cons_succ, List.set_cons_zero]
                    intro L W hL hC
                    obtain rfl := hC.fin (hL 6 (by decide))
                    clear e1 e2 e3 e4 hwr
                    go_wp2
                    go_roundw
                    case rel => exact ⟨k + 1, m + 1, _, by omega, by go_num, by omega, HO2, HNew, hb2⟩
                    case measure => simp [intOf]; omega
                  · have hd' : decide (t < s) = false := decide_eq_false hd
                    have hV : Rc.aft ((Rc.fiV nw r).take (k + 1)) t = Rc.aft ((Rc.fiV nw r).take k) t := Rc.aft_no NBq.out hlt hx hd
                    have HNew : Hid (NetOk (net (Rc.aft (Rc.fiV o r) t) (Rc.coF o nw r t) (Rc.coN o nw r t) (Rc.aft ((Rc.fiV nw r).take (k + 1)) t)) D) := by rw [hV]; exact hnet
                    clear hV hwx hnet hc
                    go_wp2
                    go_roundw
                    case rel => exact ⟨k + 1, m, D, by omega, by go_num, by omega, Lib.hid (hown.out.alloc _), HNew, hbx⟩
                    case measure => simp [intOf]; omega
                · obtain rfl : NB = k := by omega
                  obtain ⟨mE, DE, hmE, hownE, hbE⟩ : ∃ (mE : Nat) (DE : DataW Unit), mE ≤ 3000 + 1000 ∧ Hid (wr.ownsMap Tryd.prog tF (plainElem Tryd.prog 3) w6.heap.size mE DE ∧ NetOk (net (Rc.aft (Rc.fiV o r) t) (Rc.coF o nw r t) (Rc.coN o nw r t) (Rc.aft ((Rc.fiV nw r).take NB) t)) DE) ∧ Below w6.heap.size w6 wr := ⟨m, D, by omega, Lib.hid ⟨hown.out, hnet.out⟩, hbr⟩
                  have hnetE := Lib.hid hownE.out.2
                  have hownE := Lib.hid hownE.out.1
                  rw [List.take_of_length_le (Nat.le_of_eq NBq.out)] at hnetE
                  clear hown hnet hk hm hlt
                  obtain ⟨wE, rfl⟩ : ∃ wE, wE = wr := ⟨_, rfl⟩
                  have HZ : Hid (∀ x, WfP x → DE.atKey (kF x) (.lit (.int .i64 0)) = .lit (.int .i64 0)) := Lib.hid fun x hx => by rw [hnetE.out.2.1 x hx, HNet.out x]
                  have HKy := Lib.hid hnetE.out.2.2
                  clear hnetE
                  have hbZ := Below.go hb hbE
                  go_wp2_with (first | (at_range; refine wpList_range_own _ rfl _ tFI rfl tF 3 keyedF Tryd.underlying44 _ w6.heap.size mE DE rfl hownE.out ?_; intro w9 hrg9 hg9 hs9) | fail)
                  have hb9 := Below.grown hbE hg9 (by have := hbE.size; omega) (fun g e => by cases e)
                  have HR9 := Lib.hid hrg9
                  have hRs := Lib.hid (show w6.heap.size ≤ wE.heap.size from hbE.size)
                  clear hrg9 hg9 hs9 hownE
                  go_frame
                  go_loopw [9] (fun v w7 => v = .bool true ∧ ∃ (left : Lit → Bool) (cnt : Nat), Hid (w7.ranges Tryd.prog tF (plainElem Tryd.prog 3) w6.heap.size wE.heap.size mE DE left cnt) ∧ Hid (∀ kl, left kl = true → ∃ x, WfP x ∧ kl = kF x) ∧ Below w6.heap.size w6 w7) (fun _ w7 => w7.rangeLeft w6.heap.size wE.heap.size)
                  case atStart => exact ⟨rfl, _, _, HR9, HKy, hb9⟩
                  case round =>
                    obtain ⟨rfl, left, cnt, hrg, hlk, hbr9⟩ := hrel
                    go_wp2_with (first | (at_next; refine wpList_next_ranges _ rfl _ rfl tF keyedF (plainElem Tryd.prog 3) (fun v => v) (Value.int .i64) (fun key kl h => ⟨key, rfl⟩) (fun v y hv => by obtain ⟨c, rfl, _⟩ := plainElem_int_inv Tryd.underlying3 hv; exact ⟨c, rfl⟩) w6.heap.size wE.heap.size mE DE left cnt rfl hrg.out ?_ ?_) | fail)
                    · intro _ hl0
                      have j1 : (k1 : Int) ≤ (NA : Int) := by omega
                      have j2 : (k2 : Int) ≤ (NB : Int) := by omega
                      have hbF := Below.go hb hbr9
                      go_wp2
                      go_ret
                      exact ⟨by simp, hbF⟩
                    · intro x c kl y yp w7 cnt1 hkx hlx hR hat hrg1 hlt hg1 hs1 hen
                      obtain ⟨x', hx', rfl⟩ := hlk.out kl hlx
                      have hy : y = .lit (.int .i64 0) := (hat _).symm.trans (HZ.out x' hx')
                      obtain ⟨c', hc', hy', -⟩ := plainElem_int_inv Tryd.underlying3 hR
                      obtain rfl : c = 0 := by
                        injection hc' with _ e1
                        injection hy' with e2 _
                        rw [e2] at hy
                        have := lit_int hy
                        omega
                      have hrl := hrg.out.left_eq
                      have HR1 := Lib.hid hrg1
                      have HLk : Hid (∀ kl, (left kl && !kl.sameKey (kF x')) = true → ∃ x, WfP x ∧ kl = kF x) := Lib.hid fun kl h => hlk.out kl (by revert h; cases left kl <;> simp)
                      have hb10 := Below.grown hbr9 hg1 (by have := hbr9.size; omega) (fun g e => by cases e; exact hRs.out)
                      clear hR hat hrg1 hg1 hs1 hy hy' hc' hkx hlx
                      go_wp2
                      go_roundw
                      case rel => exact ⟨rfl, _, _, HR1, HLk, hb10⟩
                      case measure => rw [HR1.out.left_eq, hrl]; exact hlt
theorem wf_at {l : Lpm.LL} (h : WfL l) (k : Nat) (hk : k < l.length) : WfP (l[k]?.getD (0, 0)) := by rw [List.getElem?_eq_getElem hk]; exact h _ (List.getElem_mem hk)
theorem wf_coF {o nw : Lpm.LL} {r : Rec} {t : Int} : WfL (Rc.coF o nw r t) := by
  unfold Rc.coF
  split
  · intro x hx
    unfold Rc.less at hx
    exact wf_fires x (List.mem_filter.1 hx).1
  · intro x hx
    exact (List.not_mem_nil hx).elim
theorem wf_coN {o nw : Lpm.LL} {r : Rec} {t : Int} : WfL (Rc.coN o nw r t) := by
  unfold Rc.coN
  split
  · intro x hx
    unfold Rc.less at hx
    exact wf_fires x (List.mem_filter.1 hx).1
  · intro x hx
    exact (List.not_mem_nil hx).elim
theorem co_len {o nw : Lpm.LL} {r : Rec} {t : Int} (h : Rc.coE o nw r t = 0) : (Rc.coF o nw r t).length ≤ (Rc.fiV o r).length ∧ (Rc.coN o nw r t).length ≤ (Rc.fiV nw r).length := by
  unfold Rc.coF Rc.coN
  rw [if_pos h, if_pos h]
  exact ⟨Rc.less_len _ _ _, Rc.less_len _ _ _⟩
theorem co_net {o nw : Lpm.LL} {r : Rec} {t : Int} (h : Rc.coE o nw r t = 0) (h1 : Rc.fiE o r = 0) (h2 : Rc.fiE nw r = 0) (x : Int × Int) : net (Rc.aft (Rc.fiV o r) t) (Rc.coF o nw r t) (Rc.coN o nw r t) (Rc.aft (Rc.fiV nw r) t) x = 0 := by
  obtain ⟨v1, b1, -, e1, -, -⟩ := Rc.fi_ok h1
  obtain ⟨v2, b2, -, e2, -, -⟩ := Rc.fi_ok h2
  unfold Rc.coF Rc.coN net
  rw [if_pos h, if_pos h, e1, e2]
  exact Rc.net_zero (Rc.fires_nodup v1 b1) (Rc.fires_nodup v2 b2) t x
theorem corrects_law (v1 : Value) (o : Lpm.LL) (v2 : Value) (nw : Lpm.LL) (v3 : Value) (r : Rec) (t : Int) (w : World) (i1 : IsTab w v1 o) (i2 : IsTab w v2 nw) (i3 : IsRc v3 r) (i4 : (Lit.int .i64 t).wf = true) (ht : Tab w) :
    Calls Tryd.prog 5 #[v1, v2, v3, .int .i64 t] w (LawPost w) := by
  obtain ⟨A1, n1, c1, rfl, -, -, -, h1⟩ := i1
  obtain ⟨A2, n2, c2, rfl, -, -, -, h2⟩ := i2
  obtain ⟨rfl, hk⟩ := i3
  cases hu : useB n1 o r
  · exact corrects_un1 A1 A2 n1 c1 n2 c2 o nw r t w ht h1 h2 (Lib.hid hu)
  · cases hu' : useB n2 nw r
    · exact corrects_un2 A1 A2 n1 c1 n2 c2 o nw r t w ht h1 h2 (Lib.hid hu) (Lib.hid hu')
    · by_cases q1 : t < 0
      · exact corrects_neg A1 A2 n1 c1 n2 c2 o nw r t w ht h1 h2 (Lib.hid hu) (Lib.hid hu') q1
      · by_cases q2 : 3000000000000000 < t
        · exact corrects_far A1 A2 n1 c1 n2 c2 o nw r t w ht h1 h2 (Lib.hid hu) (Lib.hid hu') q1 q2
        · obtain ⟨m1, v1, hB, hf⟩ := use_ok hu
          obtain ⟨m2, v2, -, -⟩ := use_ok hu'
          have hr := use_fit hu hk
          have hc := coE_in (o := o) (nw := nw) (r := r) (t := t) (by omega) (by omega)
          rcases Rc.fi_lim v1 hB with e1 | e1
          · rcases Rc.fi_lim v2 hB with e2 | e2
            · rw [if_pos e1, e2] at hc
              exact corrects_main A1 A2 n1 c1 n2 c2 o nw r t w ht h1 h2 (Lib.hid hu) (Lib.hid hu') q1 q2 m1 m2 hr _ _ (Lib.hid rfl) (Lib.hid rfl) (Lib.hid e1) (Lib.hid e2) (Lib.hid hc) (Lib.hid (wf_at wf_fires)) (Lib.hid (wf_at wf_fires)) (Lib.hid (wf_at wf_coF)) (Lib.hid (wf_at wf_coN)) (Lib.hid (co_len hc)) (Lib.hid (co_net hc e1 e2))
            · rw [if_pos e1, e2] at hc
              exact corrects_limit02 A1 A2 n1 c1 n2 c2 o nw r t w ht h1 h2 (Lib.hid hu) (Lib.hid hu') q1 q2 m1 m2 hr _ _ (Lib.hid rfl) (Lib.hid rfl) (Lib.hid e1) (Lib.hid e2) (Lib.hid hc)
          · rw [if_neg (by omega), e1] at hc
            rcases Rc.fi_lim v2 hB with e2 | e2
            · exact corrects_limit20 A1 A2 n1 c1 n2 c2 o nw r t w ht h1 h2 (Lib.hid hu) (Lib.hid hu') q1 q2 m1 m2 hr _ _ (Lib.hid rfl) (Lib.hid rfl) (Lib.hid e1) (Lib.hid e2) (Lib.hid hc)
            · exact corrects_limit22 A1 A2 n1 c1 n2 c2 o nw r t w ht h1 h2 (Lib.hid hu) (Lib.hid hu') q1 q2 m1 m2 hr _ _ (Lib.hid rfl) (Lib.hid rfl) (Lib.hid e1) (Lib.hid e2) (Lib.hid hc)
end Go.Proofs.YtmicbniipbcapaaDoor
