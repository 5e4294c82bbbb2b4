/-
  Loops over functions: 'for c := range slices.Chunk(x, n) { .. }'.
-/
import Derived.Test.YtbcdcpkofgfofaaGU
import Derived.Test.YtbcdcpkofgfofaaGQ
import Derived.RangeFuncRecord
set_option linter.unusedVariables false
set_option linter.unusedSimpArgs false
namespace Go.Gol
open Go
theorem Sat.putObj {w : World} {B : Rf} {cs : List HP} {r : Nat} {o o' : Obj} (h : Sat w B (pts r o :: cs)) : Sat (w.putObj r o') B (pts r o' :: cs) := h.setPts
theorem Sat.heapAt {w : World} {B : Rf} {cs : List HP} {r : Nat} {o : Obj} (h : Sat w B (pts r o :: cs)) : w.heap[r]? = some o := h.blockAt 0 rfl
/-! ### marks among the deferred calls -/
def mk1 (d : Deferred) : HP := fun H => ∃ r, d = { target := .collected r, args := #[] } ∧ pts r (.deferred (some [])) H
def mks (D : List Deferred) : HP := SepL (D.map mk1)
theorem Sat.mksNil {w : World} {B : Rf} {cs : List HP} (h : Sat w B cs) : Sat w B (mks [] :: cs) := Sat.cl [] h
theorem Sat.mksCons {w : World} {B : Rf} {cs : List HP} {D : List Deferred} {r : Nat} (h : Sat w B (pts r (.deferred (some [])) :: mks D :: cs)) : Sat w B (mks ({ target := .collected r, args := #[] } :: D) :: cs) := by
  have h1 : Sat w B (mk1 { target := .collected r, args := #[] } :: mks D :: cs) := h.mono1 (fun H hH => ⟨r, rfl, hH⟩)
  have h2 : Sat w B (mks D :: mk1 { target := .collected r, args := #[] } :: cs) := Sat.sel2 h1
  have h3 : Sat w B (D.map mk1 ++ ([mk1 { target := .collected r, args := #[] }] ++ cs)) := Sat.op h2
  have h4 : Sat w B (mk1 { target := .collected r, args := #[] } :: (D.map mk1 ++ cs)) := Sat.front (D.map mk1) cs (by simpa using h3)
  exact Sat.cl (mk1 { target := .collected r, args := #[] } :: D.map mk1) h4
section
variable {P : Program}
/-- a function's end -/
theorem leaves_marks {fn : Func} {T : Array Value} {R : Ending → World → Prop} {B : Rf} {cs : List HP} : ∀ (D : List Deferred) (w : World), Sat w B (mks D :: cs) →
    (∀ w', Sat w' B cs → ∃ v, (results fn T).run P w' = .ok v w' ∧ R (.returned v) w') → LeavesInM (fw none) 0 P fn T R D .returning w
  | [], w, h, hR => by
    obtain ⟨v, h1, h2⟩ := hR w (Sat.op h)
    exact ⟨v, h1, h2⟩
  | d :: D, w, h, hR => by
    have h1 : Sat w B (mk1 d :: (D.map mk1 ++ cs)) := Sat.op h
    obtain ⟨r, h2⟩ := Sat.ex h1
    have hd : d = { target := .collected r, args := #[] } := Sat.pure1 (fun H hH => hH.1) h2
    have h3 : Sat w B (pts r (.deferred (some [])) :: (D.map mk1 ++ cs)) := h2.mono1 (fun H hH => hH.2)
    have h4 : Sat (w.putObj r (.deferred none)) B (D.map mk1 ++ cs) := by
      have := h3.putObj (o' := .deferred none)
      exact Sat.drop1 this
    refine ⟨by simp, .inl ⟨r, _, by rw [hd], run_takeDeferred h3.heapAt, leaves_marks D _ (Sat.cl _ h4) hR⟩⟩
  where
  Sat.drop1 {w : World} {B : Rf} {c : HP} {cs : List HP} (h : Sat w B (c :: cs)) : Sat w B cs := by
    obtain ⟨hs, H1, hd, h0, h1, A, C, hdd, ha, hc, _, hr⟩ := h
    exact ⟨hs, C, hd.mono (Sub.refl _) hc, h0, hc.trans h1, hr⟩
abbrev Mbody (P : Program) (fn : Func) (R : Ending → World → Prop) (D : List Deferred) : Kx := ⟨bodyPostM (fw none) 0 P fn R, D, none⟩
theorem At.bodyM {fn : Func} {R : Ending → World → Prop} {D : List Deferred} {n : Nat} {L : SL} {w : World} {B : Rf} {cs : List HP} (h : Sat w B (mks D :: cs))
    (hR : ∀ w', Sat w' B cs → ∃ v, (∀ T, Holds n L T → (results fn T).run P w' = .ok v w') ∧ R (.returned v) w') : At (Mbody P fn R D) .ret n L w := fun T hT =>
  leaves_marks D w h (fun w' hw => let ⟨v, h1, h2⟩ := hR w' hw; ⟨v, h1 T hT, h2⟩)
theorem calls_of_WCM {f : FuncId} {fn : Func} {c : Code} {vs : List Value} {w : World} {R : Ending → World → Prop}
    (hf : P.funcs[f]? = some fn) (hb : fn.body = some c) {n : Nat} (hn : fn.ntmps = n) (hl : Nat.ble vs.length n = true)
    (h : WC P c (Mbody P fn R []) n (inSlots 0 vs) w) : Calls P f vs.toArray w R := by
  have hl' : vs.length ≤ n := by simpa [Nat.ble_eq] using hl
  refine (callsIn_wide (n := 0)).1 (callsIn_of_wp_marks hf hb trivial (h _ ⟨?_, ?_⟩))
  · simp [hn]; omega
  · intro i v hv
    obtain ⟨_, h2⟩ := lk_inSlots vs 0 i v hv
    simp only [Nat.sub_zero] at h2
    have hlt : i < vs.length := by
      rcases Nat.lt_or_ge i vs.length with h | h
      · exact h
      · simp [List.getElem?_eq_none h] at h2
    rw [Array.getElem?_append_left (by simpa using hlt)]
    simpa using h2
end
/-! ### the loop's record, and what is asked of a round -/
structure RC where
  P : Program
  Q : Exit → Act → World → Prop
  D : List Deferred
  n : Nat
  L : SL
  T : Array Value
  l : Nat
  r : Nat
  fn : Nat
  p : Tmp
  as : Code
  body : Code
  b1 : Nat
  b2 : Nat
  o1 : Obj
  o2 : Obj
  A : Option Addr
  len : Nat
  sz : Nat
def RC.rcd (X : RC) (st : LoopState) (pe : Option Code) : Loop := { state := st, pending := pe, fn := X.fn, tmps := X.T, params := #[X.p], assign := X.as, body := X.body, defers := X.r }
abbrev RC.ob (X : RC) (st : LoopState) (pe : Option Code) : Obj := .loop (X.rcd st pe)
/-- the chunk that begins at o -/
abbrev chv (A : Option Addr) (o len sz : Nat) : Value := .slice (some (adr A o 1)) (min sz (len - o)) (min sz (len - o))
def RC.facts (X : RC) (w : World) : Prop := w.heap[X.l]? = some (X.ob .ready none) ∧ w.heap[X.b1]? = some X.o1 ∧ w.heap[X.b2]? = some X.o2
def RC.rpost (X : RC) (K : World → Prop) : Exit → Act → World → Prop
  | .normal, _, w => w.heap[X.l]? = some (X.ob .busy none) ∧ K (w.putObj X.l (X.ob .ready none))
  | .ret, _, w => w.heap[X.l]? = some (X.ob .busy none) ∧ At ⟨X.Q, X.D, none⟩ .ret X.n X.L ((w.putObj X.l (X.ob .done (some .ret))).putObj X.l (X.ob .exhausted (some .ret)))
  | _, _, _ => False
def RC.bkOf (X : RC) (K : World → Prop) : Kx := ⟨X.rpost K, [], some X.l⟩
def RC.akOf (X : RC) (K : World → Prop) : Kx := ⟨Exit.then (fun a w1 => ∃ w2, (Instr.beginRound X.l).run X.P w1 = .ok () w2 ∧ kwp X.P X.body (X.bkOf K) a w2) (fun _ _ _ => False), [], some X.l⟩
/-- whatever else was drawn -/
def clo (p : World → Prop) : World → Prop := fun w => ∀ w', w'.heap = w.heap → Alike' w w' → p w'
theorem clo.at {p : World → Prop} {w : World} (h : clo p w) : p w := h w rfl (Alike'.refl w)
theorem clo.step {p : World → Prop} {w w' : World} (h : clo p w) (e : w'.heap = w.heap) (ha : Alike' w w') : clo p w' := fun w2 e2 ha2 => h w2 (e2.trans e) ⟨ha2.1.trans ha.1, ha2.2.1.trans ha.2.1, ha2.2.2.trans ha.2.2⟩
theorem clo.mono {p q : World → Prop} (hpq : ∀ w, p w → q w) {w : World} (h : clo p w) : clo q w := fun w' e ha => hpq _ (h w' e ha)
/-- the rounds from the chunk at o on -/
def Rng (X : RC) : Nat → Nat → World → Prop
  | 0, o, w => X.facts w ∧ X.len ≤ o ∧ At ⟨X.Q, X.D, none⟩ .normal X.n X.L (w.putObj X.l (X.ob .exhausted none))
  | m + 1, o, w => X.facts w ∧ ((X.len ≤ o ∧ At ⟨X.Q, X.D, none⟩ .normal X.n X.L (w.putObj X.l (X.ob .exhausted none))) ∨
      (o < X.len ∧ WC X.P X.as (X.akOf (clo (Rng X m (o + X.sz)))) X.n ((X.p, chv X.A o X.len X.sz) :: X.L) w))
theorem WC.mono {P : Program} {c : Code} {Q Q' : Kx} {n : Nat} {L : SL} {w : World} (hD : Q'.D = Q.D) (hr : Q'.r = Q.r) (hq : ∀ e a w, Q.post e a w → Q'.post e a w) (h : WC P c Q n L w) : WC P c Q' n L w := fun T hT => by
  have := wpIn_mono (h T hT) hq
  unfold kwp
  rw [hD, hr]
  exact this
theorem RC.rpost_mono (X : RC) {K K' : World → Prop} (h : ∀ w, K w → K' w) : ∀ e a w, X.rpost K e a w → X.rpost K' e a w := fun e a w hp => by
  cases e <;> first | exact ⟨hp.1, h _ hp.2⟩ | exact hp
theorem RC.ak_mono (X : RC) {K K' : World → Prop} (h : ∀ w, K w → K' w) {c : Code} {n : Nat} {L : SL} {w : World} (hw : WC X.P c (X.akOf K) n L w) : WC X.P c (X.akOf K') n L w :=
  WC.mono (Q := X.akOf K) (Q' := X.akOf K') rfl rfl (fun e a w hp => by
    cases e with
    | normal => obtain ⟨w2, h1, h2⟩ := hp; exact ⟨w2, h1, wpIn_mono h2 (X.rpost_mono h)⟩
    | _ => exact hp) hw
theorem Rng.more {X : RC} : ∀ {m m' o : Nat} {w : World}, m ≤ m' → Rng X m o w → Rng X m' o w
  | 0, 0, _, _, _, h => h
  | 0, m' + 1, _, _, _, h => ⟨h.1, .inl h.2⟩
  | m + 1, 0, _, _, hm, _ => by omega
  | m + 1, m' + 1, _, _, hm, h => ⟨h.1, h.2.imp id fun ⟨h1, h2⟩ => ⟨h1, X.ak_mono (fun w hw => hw.mono (fun w hw => Rng.more (by omega) hw)) h2⟩⟩
abbrev RgK (X : RC) (o : Nat) : World → Prop := clo (Rng X (X.len - o) o)
section
variable {X : RC} {o : Nat} {w : World} {B : Rf} {cs : List HP} {L' : SL}
theorem facts_of (hS : Sat w B (pts X.l (X.ob .ready none) :: pts X.b1 X.o1 :: pts X.b2 X.o2 :: cs)) : X.facts w := ⟨hS.heapAt, hS.blockAt 1 rfl, hS.blockAt 2 rfl⟩
theorem RgK.go (hsz : 1 ≤ X.sz) (hS : Sat w B (pts X.l (X.ob .ready none) :: pts X.b1 X.o1 :: pts X.b2 X.o2 :: cs)) (h : o < X.len)
    (hh : ∀ w, Sat w B (pts X.l (X.ob .ready none) :: pts X.b1 X.o1 :: pts X.b2 X.o2 :: cs) → WC X.P X.as (X.akOf (RgK X (o + X.sz))) X.n ((X.p, chv X.A o X.len X.sz) :: X.L) w) : RgK X o w := by
  intro w' e ha
  have hS := hS.heap e ha
  obtain ⟨m, hm⟩ : ∃ m, X.len - o = m + 1 := ⟨X.len - o - 1, by omega⟩
  rw [hm]
  exact ⟨facts_of hS, .inr ⟨h, X.ak_mono (fun w hw => hw.mono (fun w hw => Rng.more (by omega) hw)) (hh _ hS)⟩⟩
theorem RgK.stop (hS : Sat w B (pts X.l (X.ob .ready none) :: pts X.b1 X.o1 :: pts X.b2 X.o2 :: cs)) (h : X.len ≤ o)
    (hh : ∀ w', Sat w' B (pts X.l (X.ob .exhausted none) :: pts X.b1 X.o1 :: pts X.b2 X.o2 :: cs) → At ⟨X.Q, X.D, none⟩ .normal X.n X.L w') : RgK X o w := by
  intro w' e ha
  have hS := hS.heap e ha
  rw [show X.len - o = 0 by omega]
  exact ⟨facts_of hS, h, hh _ hS.putObj⟩
theorem At.begin {K : World → Prop} (hS : Sat w B (pts X.l (X.ob .ready none) :: cs)) (hh : ∀ w', Sat w' B (pts X.l (X.ob .busy none) :: cs) → WC X.P X.body (X.bkOf K) X.n L' w') : At (X.akOf K) .normal X.n L' w := fun T hT =>
  ⟨_, run_beginRound hS.heapAt rfl, hh _ hS.putObj T hT⟩
theorem At.endRound {K : World → Prop} {n : Nat} (hS : Sat w B (pts X.l (X.ob .busy none) :: cs)) (hh : ∀ w', Sat w' B (pts X.l (X.ob .ready none) :: cs) → K w') : At (X.bkOf K) .normal n L' w := fun T hT =>
  ⟨hS.heapAt, hh _ hS.putObj⟩
theorem At.retRound {K : World → Prop} {n : Nat} (hS : Sat w B (pts X.l (X.ob .busy none) :: cs)) (hh : ∀ w', Sat w' B (pts X.l (X.ob .exhausted (some .ret)) :: cs) → At ⟨X.Q, X.D, none⟩ .ret X.n X.L w') : At (X.bkOf K) .ret n L' w := fun T hT =>
  ⟨hS.heapAt, hh _ (Sat.putObj (Sat.putObj hS))⟩
end
/-! ### a call of yield -/
theorem WR.rnd {P : Program} {ops : Array Oper} {Q : Kx} {n i : Nat} {is : List Nat} {L : SL} {w : World} {g x : Operand} {tys : Array TypeId} {l : Nat} {rcd : Loop} {xv : Value} {R : Value → World → Prop} (hop : (opAt ops i).op = .call { callee := .value g, args := #[x], argTypes := tys }) (hrd : ready n ops L i = true)
    (hg : rho L g = .func (.yield l) #[] #[]) (hx : rho L x = xv) (hl : w.heap[l]? = some (.loop rcd)) (hs : rcd.params.size = 1)
    (hc : RoundIn (fw none) 0 P l rcd.fn ((rcd.params.zip #[xv]).foldl (fun tmps (t, a) => tmps.setIfInBounds t a) rcd.tmps) rcd.assign rcd.body w (fun e w' => ∃ v, e = .returned v ∧ R v w'))
    (h : ∀ v w', R v w' → WR P ops Q n is (upd L (opAt ops i).dst v) w') : WR P ops Q n (i :: is) L w := fun T hT => by
  obtain ⟨ho, hw, h3⟩ := ready_spec hrd
  simp only [Bool.and_eq_true] at h3
  show wpOpsIn (fw Q.r) 0 P ops Q.post (i :: is) ⟨T, Q.D⟩ w
  unfold wpOpsIn
  simp only [ho, wanted_gd hT hw, if_true]
  unfold Oper.wpIn
  refine ⟨fun _ _ => trivial, ?_⟩
  have hr : (execOp (rho L) (opAt ops i)).run P w = .ok (.round l rcd.fn ((rcd.params.zip #[xv]).foldl (fun tmps (t, a) => tmps.setIfInBounds t a) rcd.tmps) rcd.assign rcd.body) w := by
    simp only [execOp, hop, resolve, hg]
    simp [invoke, go_sem, hx, run_yield (P := P) (args := #[xv]) hl (by simp [hs])]
  rw [Oper.semAt_eq _ _ _ (noSel_defer h3.2.1), exec_rho hT h3.2.1 h3.2.2, hr]
  refine ⟨fun h => (by cases h), RoundIn.mono (F := fw Q.r) hc ?_⟩
  rintro e w' ⟨v, rfl, hR⟩
  obtain ⟨T', e1, hT'⟩ := hT.put h3.1 v
  show wpOpsIn (fw Q.r) 0 P ops Q.post is _ w'
  rw [e1]
  exact h v w' hR T' hT'
/-! ### the iterator's contract, and the statement -/
def ChunkIt (P : Program) (fi : Nat) (t1 t2 : TypeId) : Prop := ∀ (l b1 b2 : Nat) (A : Option Addr) (len cap sz : Nat) (rcd : Loop) (J : Nat → World → Prop) (Jx : World → Prop) (w : World), 1 ≤ sz → sz ≤ 1000000 → len ≤ 4611686018427387904 → rcd.state = .ready → rcd.params.size = 1 → (len ≠ 0 → A.isSome = true) → len ≤ cap →
  (∀ o w, J o w → w.heap[l]? = some (.loop rcd) ∧ w.heap[b1]? = some (.cells #[.slice A len cap] t1 (0, 0)) ∧ w.heap[b2]? = some (.cells #[.int .i64 (sz : Int)] t2 (0, 0))) →
  (∀ o w w', J o w → w'.heap = w.heap → Alike' w w' → J o w') →
  (∀ o w, o < len → J o w → RoundIn (fw none) 0 P l rcd.fn ((rcd.params.zip #[chv A o len sz]).foldl (fun tmps (t, a) => tmps.setIfInBounds t a) rcd.tmps) rcd.assign rcd.body w
    (fun e w' => (e = .returned (.bool true) ∧ J (o + sz) w') ∨ (e = .returned (.bool false) ∧ Jx w'))) →
  J 0 w → Calls P fi #[.func (.yield l) #[] #[], .pointer (some ⟨b1, 0, none⟩), .pointer (some ⟨b2, 0, none⟩)] w (fun e w' => (∃ v, e = .returned v) ∧ ((∃ o, len ≤ o ∧ J o w') ∨ Jx w'))
def rgf : Code → Operand | .rangeFunc g _ _ _ => g | _ => .func 0
def rgas : Code → Code | .rangeFunc _ _ a _ => a | c => c
def rgbody : Code → Code | .rangeFunc _ _ _ b => b | c => c
def isRange (p : Nat) : Code → Bool | .rangeFunc _ ps _ _ => (match ps with | ⟨[q]⟩ => Nat.beq p q | _ => false) | _ => false
theorem WC.range {P : Program} {c : Code} {Q : Exit → Act → World → Prop} {D : List Deferred} {n : Nat} {L : SL} {w : World} {B : Rf} {cs : List HP} {fi b1 b2 len cap sz : Nat} {t1 t2 : TypeId} {A : Option Addr} (p : Nat)
    (hc : isRange p c = true) (hp : Nat.blt p n = true) (hcov : coversX L (rgf c) = true) (hg : rho L (rgf c) = .func (.func fi) #[] #[.pointer (some ⟨b1, 0, none⟩), .pointer (some ⟨b2, 0, none⟩)])
    (hE : ∀ args w, (callFunc fi args).run P w = .ok (.enter fi args) w) (hIt : ChunkIt P fi t1 t2) (hsz : Nat.ble 1 sz = true) (hsz2 : Nat.ble sz 1000000 = true) (hlen : len ≤ 4611686018427387904) (hA : len ≠ 0 → A.isSome = true) (hcap : len ≤ cap)
    (hS : Sat w B (mks D :: pts b1 (.cells #[.slice A len cap] t1 (0, 0)) :: pts b2 (.cells #[.int .i64 (sz : Int)] t2 (0, 0)) :: cs))
    (hh : ∀ (T : Array Value) (l r fn : Nat) (D' : List Deferred) (X : RC) (w' : World), X = ⟨P, Q, D', n, L, T, l, r, fn, p, rgas c, rgbody c, b1, b2, .cells #[.slice A len cap] t1 (0, 0), .cells #[.int .i64 (sz : Int)] t2 (0, 0), A, len, sz⟩ →
      Sat w' B (pts l (X.ob .ready none) :: pts b1 (.cells #[.slice A len cap] t1 (0, 0)) :: pts b2 (.cells #[.int .i64 (sz : Int)] t2 (0, 0)) :: mks D' :: cs) → RgK X 0 w') :
    WC P c ⟨Q, D, none⟩ n L w := by
  have hsz' : 1 ≤ sz := by simpa [Nat.ble_eq] using hsz
  have hsz2' : sz ≤ 1000000 := by simpa [Nat.ble_eq] using hsz2
  intro T hT
  cases c with
  | rangeFunc g ps assign body =>
    have hps : ps = #[p] := by
      simp only [isRange] at hc
      split at hc
      · rw [beq_of hc]
      · cases hc
    subst hps
    have hpn : p < n := by simpa [Nat.blt_eq] using hp
    have hgv : Act.eval ⟨T, D⟩ g = .func (.func fi) #[] #[.pointer (some ⟨b1, 0, none⟩), .pointer (some ⟨b2, 0, none⟩)] := (eval_rho (D := D) hT hcov).trans hg
    refine wpIn_rangeFunc (F := fw none) ?_
    intro fn _
    obtain ⟨X, hX⟩ : ∃ X : RC, X = ⟨P, Q, { target := .collected w.heap.size, args := #[] } :: D, n, L, T, w.heap.size + 1, w.heap.size, fn, p, assign, body, b1, b2, .cells #[.slice A len cap] t1 (0, 0), .cells #[.int .i64 (sz : Int)] t2 (0, 0), A, len, sz⟩ := ⟨_, rfl⟩
    obtain ⟨W1, hW1⟩ : ∃ W1, (w.alloc (.deferred (some []))).alloc (X.ob .ready none) = W1 := ⟨_, rfl⟩
    have hS1 : Sat W1 B (pts (w.heap.size + 1) (X.ob .ready none) :: pts b1 (.cells #[.slice A len cap] t1 (0, 0)) :: pts b2 (.cells #[.int .i64 (sz : Int)] t2 (0, 0)) :: mks ({ target := .collected w.heap.size, args := #[] } :: D) :: cs) := by
      have h1 := hS.alloc (.deferred (some []))
      have h2 := (Sat.mksCons h1).alloc (X.ob .ready none)
      rw [hW1, World.size_alloc] at h2
      have h3 := Sat.front [_, _, _] cs h2
      have h4 := Sat.front [_, _, _] cs h3
      exact Sat.front [_, _] (_ :: cs) h4
    have hRg : RgK X 0 W1 := hh T _ _ fn _ X W1 hX (by simpa [hX] using hS1)
    refine ⟨w.heap.size + 1, [{ target := .collected w.heap.size, args := #[] }], W1, { target := .fn (.func fi) #[.pointer (some ⟨b1, 0, none⟩), .pointer (some ⟨b2, 0, none⟩)], args := #[.func (.yield (w.heap.size + 1)) #[] #[]] }, W1, fi,
      #[.func (.yield (w.heap.size + 1)) #[] #[]] ++ #[.pointer (some ⟨b1, 0, none⟩), .pointer (some ⟨b2, 0, none⟩)], W1, ?_, ?_, fun _ _ => trivial, ?_, fun h => (by cases h), ?_⟩
    · rw [← hW1, hX]; exact run_enterLoop_outer _ _ _ _ _
    · simp only [resolve, hgv]
      simp [go_sem]
    · simp [invoke, go_sem, hE]
    · refine CallsIn.mono (CallsIn.ofCalls (hIt (w.heap.size + 1) b1 b2 A len cap sz (X.rcd .ready none) (fun o W => ∃ m, X.len - o ≤ m ∧ clo (Rng X m o) W)
        (fun W => W.heap[X.l]? = some (X.ob .done (some .ret)) ∧ At ⟨Q, X.D, none⟩ .ret n L (W.putObj X.l (X.ob .exhausted (some .ret)))) W1 hsz' hsz2' hlen rfl rfl hA hcap ?_ (fun o W W' ⟨m, h1, h2⟩ e ha => ⟨m, h1, h2.step e ha⟩) ?_ ⟨_, Nat.le_refl _, hRg⟩)) ?_
      · rintro o W ⟨m, _, hW⟩
        replace hW := hW.at
        have hf : X.facts W := by
          cases m with
          | zero => exact hW.1
          | succ m => exact hW.1
        rw [hX] at hf
        exact ⟨by rw [hX]; exact hf.1, hf.2.1, hf.2.2⟩
      · rintro o W ho ⟨m, hm, hW⟩
        have hlt : o < X.len := by rw [hX]; exact ho
        obtain ⟨m, rfl⟩ : ∃ m', m = m' + 1 := ⟨m - 1, by omega⟩
        obtain ⟨hf, hW⟩ := hW.at
        obtain ⟨_, hW⟩ := hW.resolve_left (fun h => by omega)
        have hT' : Holds X.n ((X.p, chv X.A o X.len X.sz) :: X.L) (T.setIfInBounds p (chv A o len sz)) := by
          rw [hX]
          refine ⟨by simp [hT.1], fun i u hu => ?_⟩
          simp only [lk] at hu
          cases hb : Nat.beq p i with
          | true =>
            simp only [hb, cond_true, Option.some.injEq] at hu
            have := beq_of hb
            subst this; subst hu
            simp [hT.1, hpn]
          | false =>
            simp only [hb, cond_false] at hu
            have := beq_ne hb
            rw [Array.getElem?_setIfInBounds, if_neg this]
            exact hT.2 i u hu
        have hgo := hW _ hT'
        have hgo2 : assign.wpIn (Fence.inRound (fw none) X.l) 0 P (X.akOf (clo (Rng X m (o + X.sz)))).post ⟨T.setIfInBounds p (chv A o len sz), []⟩ W := by rw [hX] at hgo ⊢; exact hgo
        have hR := roundIn_of_wpIn (F := fw none) (n := 0) (l := X.l) (f := fn) (body := body) (R := fun e w' => (e = .returned (.bool true) ∧ clo (Rng X m (o + X.sz)) w') ∨ (e = .returned (.bool false) ∧ (w'.heap[X.l]? = some (X.ob .done (some .ret)) ∧ At ⟨Q, X.D, none⟩ .ret n L (w'.putObj X.l (X.ob .exhausted (some .ret)))))) trivial (wpIn_mono hgo2 (fun e a w1 hp => by
          cases e with
          | normal =>
            obtain ⟨w2, hb2, hk2⟩ := hp
            refine ⟨w2, by rw [hX] at hb2 ⊢; exact hb2, ?_⟩
            have hk3 : body.wpIn (Fence.inRound (fw none) X.l) 0 P (X.rpost (clo (Rng X m (o + X.sz)))) a w2 := by rw [hX] at hk2 ⊢; exact hk2
            refine wpIn_mono hk3 (fun e a3 w3 hp3 => ?_)
            cases e with
            | normal =>
              refine ⟨_, _, run_endRound none hp3.1, .inl ⟨rfl, ?_⟩⟩
              exact hp3.2
            | ret =>
              refine ⟨_, _, run_endRound (some .ret) hp3.1, .inr ⟨rfl, ?_, ?_⟩⟩
              · exact World.putObj_heap_same (Array.getElem?_eq_some_iff.1 hp3.1).1
              · have := hp3.2
                rw [hX] at this ⊢
                exact this
            | _ => exact hp3.elim
          | _ => exact hp.elim))
        have hR2 : RoundIn (fw none) 0 P (w.heap.size + 1) (X.rcd .ready none).fn (((X.rcd .ready none).params.zip #[chv A o len sz]).foldl (fun tmps (t, a) => tmps.setIfInBounds t a) (X.rcd .ready none).tmps) (X.rcd .ready none).assign (X.rcd .ready none).body W (fun e w' => (e = .returned (.bool true) ∧ clo (Rng X m (o + X.sz)) w') ∨ (e = .returned (.bool false) ∧ (w'.heap[X.l]? = some (X.ob .done (some .ret)) ∧ At ⟨Q, X.D, none⟩ .ret n L (w'.putObj X.l (X.ob .exhausted (some .ret)))))) := by
          rw [show ((X.rcd .ready none).params.zip #[chv A o len sz]).foldl (fun tmps (t, a) => tmps.setIfInBounds t a) (X.rcd .ready none).tmps = T.setIfInBounds p (chv A o len sz) from by rw [hX]; simp [RC.rcd]]
          rw [hX] at hR ⊢
          exact hR
        refine hR2.mono (fun e w' h => h.imp (fun ⟨h1, h2⟩ => ⟨h1, ?_⟩) id)
        have e2 : X.sz = sz := by rw [hX]
        rw [e2] at h2
        exact ⟨m, by omega, h2⟩
      · rintro e w3 ⟨⟨v, rfl⟩, h | h⟩
        · obtain ⟨o, ho, m, _, hW⟩ := h
          replace hW := hW.at
          have hlo : ¬ o < X.len := by rw [hX]; simp only []; omega
          have hfa : X.facts w3 ∧ At ⟨X.Q, X.D, none⟩ .normal X.n X.L (w3.putObj X.l (X.ob .exhausted none)) := by
            cases m with
            | zero => exact ⟨hW.1, hW.2.2⟩
            | succ m => exact ⟨hW.1, (hW.2.resolve_right (fun h => hlo h.1)).2⟩
          obtain ⟨hf, hat⟩ := hfa
          refine ⟨none, _, run_endLoop (by rw [hX] at hf; exact hf.1) (by simp [RC.rcd]), ?_⟩
          have := hat T (by rw [hX]; exact hT)
          rw [hX] at this
          exact this
        · obtain ⟨hl, hat⟩ := h
          refine ⟨some .ret, _, run_endLoop (by rw [hX] at hl; exact hl) (by simp [RC.rcd]), ?_⟩
          refine wpIn_ret ?_
          have := hat T hT
          rw [hX] at this
          exact this
  | _ => simp [isRange] at hc
/-! ### the same, told over the parts of a context -/
section
variable {X : RC} {P : Program} {Q : Exit → Act → World → Prop} {D : List Deferred} {n : Nat} {L : SL} {T : Array Value} {l r fn : Nat} {p : Tmp} {as body : Code} {b1 b2 : Nat} {o1 o2 : Obj} {A : Option Addr} {len sz o : Nat}
  (hX : X = ⟨P, Q, D, n, L, T, l, r, fn, p, as, body, b1, b2, o1, o2, A, len, sz⟩) {w : World} {B : Rf} {cs : List HP} {L' : SL}
include hX
theorem RgK.go' (hsz : Nat.ble 1 sz = true) (hS : Sat w B (pts l (X.ob .ready none) :: pts b1 o1 :: pts b2 o2 :: cs)) (h : o < len) {v : Value} (hv : chv A o len sz = v)
    (hh : ∀ w, Sat w B (pts l (X.ob .ready none) :: pts b1 o1 :: pts b2 o2 :: cs) → WC P as (X.akOf (RgK X (o + sz))) n ((p, v) :: L) w) : RgK X o w := by
  subst hX
  have hsz' : 1 ≤ sz := by simpa [Nat.ble_eq] using hsz
  exact RgK.go hsz' hS h (fun w hw => by rw [← hv] at hh; exact hh w hw)
theorem RgK.stop' (hS : Sat w B (pts l (X.ob .ready none) :: pts b1 o1 :: pts b2 o2 :: cs)) (h : len ≤ o)
    (hh : ∀ w', Sat w' B (pts l (X.ob .exhausted none) :: pts b1 o1 :: pts b2 o2 :: cs) → At ⟨Q, D, none⟩ .normal n L w') : RgK X o w := by
  subst hX; exact RgK.stop hS h hh
theorem At.begin' {K : World → Prop} (hS : Sat w B (pts l (X.ob .ready none) :: cs)) (hh : ∀ w', Sat w' B (pts l (X.ob .busy none) :: cs) → WC P body (X.bkOf K) n L' w') : At (X.akOf K) .normal n L' w := by
  subst hX; exact At.begin hS hh
theorem At.endRound' {K : World → Prop} {m : Nat} (hS : Sat w B (pts l (X.ob .busy none) :: cs)) (hh : ∀ w', Sat w' B (pts l (X.ob .ready none) :: cs) → K w') : At (X.bkOf K) .normal m L' w := by
  subst hX; exact At.endRound hS hh
theorem At.retRound' {K : World → Prop} {m : Nat} (hS : Sat w B (pts l (X.ob .busy none) :: cs)) (hh : ∀ w', Sat w' B (pts l (X.ob .exhausted (some .ret)) :: cs) → At ⟨Q, D, none⟩ .ret n L w') : At (X.bkOf K) .ret m L' w := by
  subst hX; exact At.retRound hS hh
end
theorem rdS.nz {α : Type} {R : List Value → α → Prop} {sz : Nat} {H : Heap} {A : Option Addr} {c : Nat} {xs : List α} (h : rdS R sz H A c xs) (hn : xs.length ≠ 0) : A.isSome = true := by
  cases A with
  | some a => rfl
  | none => exact absurd (by have := h.2.2; simp only [] at this; rw [this]; rfl) hn
theorem rdS.chunk {α : Type} {R : List Value → α → Prop} {H : Heap} {A : Option Addr} {c o sz : Nat} {xs : List α} (h : rdS R 1 H A c xs) (ho : o < xs.length) (hsz : Nat.ble 1 sz = true) :
    rdS R 1 H (some (adr A o 1)) (min sz (xs.length - o)) ((xs.drop o).take sz) := by
  have hsz' : 1 ≤ sz := by simpa [Nat.ble_eq] using hsz
  have hA := h.nz (by omega)
  have h1 := h.part (lo := o) (hi := o + min sz (xs.length - o)) (m := o + min sz (xs.length - o)) (by omega) (by omega) (Nat.le_refl _) (by have := h.1; omega)
  rw [if_neg (by omega), show o + min sz (xs.length - o) - o = min sz (xs.length - o) by omega] at h1
  have e : (xs.take (o + min sz (xs.length - o))).drop o = (xs.drop o).take sz := by
    apply List.ext_getElem?
    intro j
    rw [List.getElem?_drop, List.getElem?_take, List.getElem?_take, List.getElem?_drop]
    by_cases h1 : j < sz
    · rw [if_pos h1]
      by_cases h2 : o + j < xs.length
      · rw [if_pos (by omega)]
      · rw [if_neg (by omega), List.getElem?_eq_none (by omega)]
    · rw [if_neg h1, if_neg (by omega)]
  rw [e] at h1
  cases A with
  | none => cases hA
  | some a => exact h1
theorem chunk_len {α : Type} (xs : List α) (o sz : Nat) : ((xs.drop o).take sz).length = min sz (xs.length - o) := by rw [List.length_take, List.length_drop]
theorem chv_eq {α : Type} (A : Option Addr) (xs : List α) (o sz : Nat) : chv A o xs.length sz = .slice (some (adr A o 1)) ((xs.drop o).take sz).length (min sz (xs.length - o)) := by rw [chunk_len]
/-! ### ends -/
theorem At.bodyMv {P : Program} {fn : Func} {R : Ending → World → Prop} {D : List Deferred} {n : Nat} {L : SL} {w : World} {B : Rf} {cs : List HP} (vs : List Value) (h : resV L fn.results.toList = some vs) (hS : Sat w B (mks D :: cs))
    (hR : ∀ w', Sat w' B cs → R (.returned (ofRes vs)) w') : At ⟨bodyPostM (fw none) 0 P fn R, D, none⟩ .ret n L w :=
  At.bodyM (cs := cs) hS (fun w' hw => ⟨_, fun T hT => results_resV hT h P w', hR w' hw⟩)
/-- two results in cells -/
theorem results_cells2 {P : Program} {fn : Func} {L : SL} {n : Nat} {T : Array Value} {w : World} (hT : Holds n L T) {a b : Nat} {t u : TypeId} {ba bb : Nat} {va vb : Value} (h : fn.results.toList = [.cell a t, .cell b u]) (ha : lk L a = some (.pointer (some ⟨ba, 0, none⟩))) (hb : lk L b = some (.pointer (some ⟨bb, 0, none⟩)))
    (hta : (isAgg t).run P w = .ok false w) (htb : (isAgg u).run P w = .ok false w) (hva : w.cell? ⟨ba, 0, none⟩ = some va) (hvb : w.cell? ⟨bb, 0, none⟩ = some vb) : (results fn T).run P w = .ok (.tuple #[va, vb]) w := by
  have h1 : T[a]? = some (.pointer (some ⟨ba, 0, none⟩)) := hT.2 a _ ha
  have h2 : T[b]? = some (.pointer (some ⟨bb, 0, none⟩)) := hT.2 b _ hb
  unfold results
  rw [← Array.toArray_toList (xs := fn.results), List.mapM_toArray, h]
  simp [h1, h2, asAddr, run_loadVar hta hva, run_loadVar htb hvb, Sem.run_bind]
/-! ### append where there is no room: what is appended to is only looked at -/
theorem St.appendNew {P : Program} {n i : Nat} {ops : Array Oper} {L : SL} {w : World} {K : Value → World → Prop} {α : Type} {t e : TypeId} {sz bytes : Nat} {H0 : Rf} {cs : List HP} (s x : Operand) (hop : (opAt ops i).op = .call { callee := .builtin .append, args := #[s, x], argTypes := #[t, t] }) (hrd : ready n ops L i = true) (hE : ElemInfo P t e sz bytes)
    {R : List Value → α → Prop} {A A2 : Option Addr} {c c2 : Nat} {xs ys zs : List α} (hS : Sat w H0 cs) (hs : rho L s = .slice A xs.length c) (hx : rho L x = .slice A2 ys.length c2) (hrs : rdS R sz (hp w) A c xs) (hr : rdS R sz (hp w) A2 c2 ys) {u : Unit} (hg : chk? (decide (c < xs.length + ys.length)) = some u)
    (lim : Nat) (hlim : Nat.ble (lim * bytes) 140737488355328 = true) (hlim2 : Nat.ble lim 140737488355328 = true) (hv : app? lim xs ys = some zs)
    (hh : ∀ A' c' w', Sat w' H0 (osl e R sz A' c' zs :: cs) → K (.slice A' zs.length c') w') : St P n ops L i w K := by
  have hg' : c < xs.length + ys.length := by have := chk?_some hg; simpa using this
  have hlim' : lim * bytes ≤ 140737488355328 := by simpa [Nat.ble_eq] using hlim
  have hlim2' : lim ≤ 140737488355328 := by simpa [Nat.ble_eq] using hlim2
  obtain ⟨hle, rfl⟩ := app?_some hv
  have hzl : (xs ++ ys).length = xs.length + ys.length := by simp
  obtain ⟨news, hnr, hnews⟩ := rdS.first (P := P) hr
  obtain ⟨olds, hor, hof⟩ := rdS.first (P := P) hrs
  obtain ⟨z, hz, hrun⟩ := run_append_new (ty := (opAt ops i).type) hE (A := A) (m := xs.length) (c := c) (w := w) (.slice A2 ys.length c2) olds news (by simp [Builtin.lenOf]) (hnews _) (hof _) hg' (by omega) (by
    have : (xs.length + ys.length) * bytes ≤ lim * bytes := Nat.mul_le_mul_right _ hle
    omega) t (.inl ⟨_, hE.und⟩)
  have hge := grownCap_ge w (xs.length + ys.length) c e
  have hcm := grownCap_le_maxLen w (xs.length + ys.length) c e (by simp only [maxLen]; omega)
  have hS' : Sat (w.drew.alloc (.cells (olds.toArray ++ news.toArray ++ Builtin.zeroCells z.cells (grownCap w (xs.length + ys.length) c e - (xs.length + ys.length))) e)) H0 (osl e R sz (some ⟨w.heap.size, 0, none⟩) (grownCap w (xs.length + ys.length) c e) (xs ++ ys) :: cs) := by
    have h1 : Sat w.drew H0 cs := hS.heap rfl ⟨rfl, rfl, rfl⟩
    have h2 := h1.alloc (.cells (olds.toArray ++ news.toArray ++ Builtin.zeroCells z.cells (grownCap w (xs.length + ys.length) c e - (xs.length + ys.length))) e)
    refine h2.mono1 (fun H hH => ⟨by rw [hzl]; exact hge, hcm, w.heap.size, 0, _, rfl, hH, ?_, ?_⟩)
    · simp only [Array.size_append, List.size_toArray, size_zeroCells, hz, hor.len, hnr.len, ← Nat.add_mul, Nat.zero_add]
      refine Nat.mul_le_mul_right _ ?_
      omega
    · have e4 : (xs ++ ys).length * sz = (olds ++ news).length := by rw [hzl, Nat.add_mul, List.length_append, hor.len, hnr.len]
      simp only [Array.toList_append, List.drop_zero]
      rw [e4, List.take_left]
      exact hor.append hnr
  have hK := hh _ _ _ hS'
  rw [hzl] at hK
  refine St.val hrd ?_ hK
  simp only [execOp, hop, resolve, invoke, builtin, Sem.run_bind, Sem.run_pure, Result.andThen_ok, List.map_toArray, List.map_cons, List.map_nil, hs, hx, hrun]
end Go.Gol
