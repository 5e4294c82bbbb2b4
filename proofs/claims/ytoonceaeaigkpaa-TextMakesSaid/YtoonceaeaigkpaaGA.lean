/-
  Slots, code by paths, and the steps of a walk over them. (My own base: it names no program.)
-/
import Derived.Tactics
import Derived.KernelRfl
import Derived.Still
set_option linter.unusedVariables false
set_option linter.unusedSimpArgs false
namespace Go.Gol
open Go

/-- the slots whose values are known: the first entry of a slot counts -/
abbrev SL := List (Nat × Value)
def lk : SL → Nat → Option Value
  | [], _ => none
  | (j, v) :: L, i => bif Nat.beq j i then some v else lk L i
def Holds (n : Nat) (L : SL) (T : Array Value) : Prop := T.size = n ∧ ∀ i v, lk L i = some v → T[i]? = some v
/-- an operand's value -/
def rho (L : SL) : Operand → Value
  | .tmp t => (lk L t).getD undef
  | .const v => v
  | .global g => .pointer (some ⟨g, 0, none⟩)
  | .func f => .func (.func f) #[] #[]
def coversX (L : SL) : Operand → Bool
  | .tmp t => (lk L t).isSome
  | _ => true
def covers (L : SL) (o : Oper) : Bool := o.op.operands.toList.all (coversX L)
def upd (L : SL) (d : Option Tmp) (v : Value) : SL := match d with | some d => (d, v) :: L | none => L
/-- is the operation wanted? (none: not known) -/
def gd (L : SL) (ops : Array Oper) (o : Oper) : Option Bool :=
  match o.guard with
  | none => some true
  | some (j, want) => match ((ops[j]?).bind (·.dst)).bind (lk L) with
    | some (.bool b) => some (b == want)
    | some (.tuple ⟨[]⟩) => some false
    | _ => none
def dstOk (n : Nat) (o : Oper) : Bool := match o.dst with | some d => Nat.blt d n | none => true

theorem beq_of {a b : Nat} (h : Nat.beq a b = true) : a = b := Nat.eq_of_beq_eq_true h
theorem beq_ne {a b : Nat} (h : Nat.beq a b = false) : a ≠ b := Nat.ne_of_beq_eq_false h

theorem eval_rho {n : Nat} {L : SL} {T : Array Value} (hT : Holds n L T) {x : Operand} (h : coversX L x = true) :
    Act.eval ⟨T, []⟩ x = rho L x := by
  cases x with
  | tmp t =>
    simp only [coversX, Option.isSome_iff_exists] at h
    obtain ⟨v, hv⟩ := h
    have := hT.2 t v hv
    simp only [Act.eval, rho, hv, Option.getD_some]
    simp [Array.getD_eq_getD_getElem?, this]
  | const v => rfl
  | global g => rfl
  | func f => rfl

theorem execOp_congr {ρ ρ' : Operand → Value} (o : Oper) (hs : ∀ cs b, o.op ≠ .select cs b) (h : ∀ x ∈ o.op.operands.toList, ρ x = ρ' x) : execOp ρ o = execOp ρ' o := by
  obtain ⟨dst, op, type, pos, after, guard⟩ := o
  have hmem : ∀ x ∈ op.operands, ρ x = ρ' x := fun x hx => h x (by simpa using hx)
  clear h
  cases op with
  | select cs b => exact absurd rfl (hs cs b)
  | call c =>
    obtain ⟨callee, args, tys⟩ := c
    have ha : args.map ρ = args.map ρ' := Array.map_congr_left (fun x hx => hmem x (by simp [Op.operands, Call.operands, hx]))
    cases callee with
    | value f => have hf := hmem f (by simp [Op.operands, Call.operands]); simp [execOp, resolve, ha, hf]
    | invoke r m => have hf := hmem r (by simp [Op.operands, Call.operands]); simp [execOp, resolve, ha, hf]
    | builtin b => simp [execOp, resolve, ha]
  | go c =>
    obtain ⟨callee, args, tys⟩ := c
    have ha : args.map ρ = args.map ρ' := Array.map_congr_left (fun x hx => hmem x (by simp [Op.operands, Call.operands, hx]))
    cases callee with
    | value f => have hf := hmem f (by simp [Op.operands, Call.operands]); simp [execOp, resolve, ha, hf]
    | invoke r m => have hf := hmem r (by simp [Op.operands, Call.operands]); simp [execOp, resolve, ha, hf]
    | builtin b => simp [execOp, resolve, ha]
  | «defer» c =>
    obtain ⟨callee, args, tys⟩ := c
    have ha : args.map ρ = args.map ρ' := Array.map_congr_left (fun x hx => hmem x (by simp [Op.operands, Call.operands, hx]))
    cases callee with
    | value f => have hf := hmem f (by simp [Op.operands, Call.operands]); simp [execOp, resolve, ha, hf]
    | invoke r m => have hf := hmem r (by simp [Op.operands, Call.operands]); simp [execOp, resolve, ha, hf]
    | builtin b => simp [execOp, resolve, ha]
  | build t ps =>
    have ha : ps.map (fun p => (p.1, ρ p.2)) = ps.map (fun p => (p.1, ρ' p.2)) := Array.map_congr_left (fun p hp => by rw [hmem p.2 (by simp only [Op.operands, List.mem_toArray, List.mem_map]; exact ⟨p, by simpa using hp, rfl⟩)])
    simp [execOp, ha]
  | buildSlice t m ps =>
    have ha : ps.map (fun p => (p.1, ρ p.2)) = ps.map (fun p => (p.1, ρ' p.2)) := Array.map_congr_left (fun p hp => by rw [hmem p.2 (by simp only [Op.operands, List.mem_toArray, List.mem_map]; exact ⟨p, by simpa using hp, rfl⟩)])
    simp [execOp, ha]
  | makeFunc f a b =>
    have ha : a.map ρ = a.map ρ' := Array.map_congr_left (fun x hx => hmem x (by simp [Op.operands, hx]))
    have hb : b.map ρ = b.map ρ' := Array.map_congr_left (fun x hx => hmem x (by simp [Op.operands, hx]))
    simp [execOp, ha, hb]
  | makeMap t r =>
    have ha : r.map ρ = r.map ρ' := by cases r with | none => rfl | some x => simp [hmem x (by simp [Op.operands])]
    simp [execOp, ha]
  | slice t x l hh m =>
    have hx := hmem x (by simp [Op.operands])
    have ha : l.map ρ = l.map ρ' := by cases l with | none => rfl | some x => simp [hmem x (by simp [Op.operands])]
    have hb : hh.map ρ = hh.map ρ' := by cases hh with | none => rfl | some x => simp [hmem x (by simp [Op.operands])]
    have hc : m.map ρ = m.map ρ' := by cases m with | none => rfl | some x => simp [hmem x (by simp [Op.operands])]
    simp [execOp, hx, ha, hb, hc]
  | _ => simp_all [Op.operands, execOp]

def noSel (o : Oper) : Bool := match o.op with | .select _ _ => false | _ => true
theorem noSel_spec {o : Oper} (h : noSel o = true) : ∀ cs b, o.op ≠ .select cs b := by
  intro cs b e; simp [noSel, e] at h

theorem exec_rho {n : Nat} {L : SL} {T : Array Value} (hT : Holds n L T) {o : Oper} (hs : noSel o = true) (h : covers L o = true) :
    execOp (Act.eval ⟨T, []⟩) o = execOp (rho L) o :=
  execOp_congr o (noSel_spec hs) (fun x hx => eval_rho hT (by simp only [covers, List.all_eq_true] at h; exact h x hx))

theorem wanted_gd {n : Nat} {L : SL} {T : Array Value} (hT : Holds n L T) {ops : Array Oper} {o : Oper} {b : Bool} (h : gd L ops o = some b) :
    Region.wanted o (yielded ops T) = b := by
  unfold gd at h
  unfold Region.wanted
  split at h
  · rename_i hg; simp only [hg]; simpa using h
  · rename_i j want hg
    simp only [hg]
    split at h
    · rename_i b' hb'
      simp only [Option.some.injEq] at h
      have : yielded ops T j = some b' := by
        unfold yielded
        cases hd : (ops[j]?).bind (·.dst) with
        | none => simp [hd] at hb'
        | some d =>
          simp only [hd, Option.bind_some] at hb'
          have := hT.2 d _ hb'
          simp [this]
      rw [this, ← h]
      cases b' <;> cases want <;> rfl
    · rename_i hb'
      simp only [Option.some.injEq] at h
      have : yielded ops T j = none := by
        unfold yielded
        cases hd : (ops[j]?).bind (·.dst) with
        | none => simp [hd] at hb'
        | some d =>
          simp only [hd, Option.bind_some] at hb'
          have := hT.2 d _ hb'
          simp [this]
      rw [this, ← h]
      cases want <;> rfl
    · cases h

theorem Holds.put {n : Nat} {L : SL} {T : Array Value} (hT : Holds n L T) {o : Oper} (hd : dstOk n o = true) (v : Value) :
    ∃ T', (⟨T, []⟩ : Act).put o.dst v = ⟨T', []⟩ ∧ Holds n (upd L o.dst v) T' := by
  unfold Act.put upd
  unfold dstOk at hd
  cases hdst : o.dst with
  | none => exact ⟨T, rfl, hT⟩
  | some d =>
    simp only [hdst] at hd
    have hlt : d < n := by simpa [Nat.blt_eq] using hd
    refine ⟨T.setIfInBounds d v, rfl, by simp [hT.1], fun i u hu => ?_⟩
    simp only [lk] at hu
    cases hb : Nat.beq d i with
    | true =>
      simp only [hb, cond_true, Option.some.injEq] at hu
      have := beq_of hb
      subst this; subst hu
      simp [hT.1, hlt]
    | false =>
      simp only [hb, cond_false] at hu
      have := beq_ne hb
      rw [Array.getElem?_setIfInBounds, if_neg this]
      exact hT.2 i u hu

/-! ### code by paths -/
def cl : Code → Code | .seq a _ => a | c => c
def cr : Code → Code | .seq _ b => b | c => c
def cthen : Code → Code | .cond _ a _ => a | c => c
def celse : Code → Code | .cond _ _ b => b | c => c
def ctest : Code → Operand | .cond x _ _ => x | _ => .func 0
def cbody : Code → Code | .block _ b => b | .loop b => b | .scope b => b | c => c
def cid : Code → Nat | .block i _ => i | .exit i => i | .region i _ _ => i | _ => 0
def cops : Code → Array Oper | .region _ ops _ => ops | _ => #[]
def isSeq : Code → Bool | .seq _ _ => true | _ => false
def isCond : Code → Bool | .cond _ _ _ => true | _ => false
def isBlock : Code → Bool | .block _ _ => true | _ => false
def isLoop : Code → Bool | .loop _ => true | _ => false
def isExit : Code → Bool | .exit _ => true | _ => false
def isRet : Code → Bool | .ret => true | _ => false
def isSkip : Code → Bool | .skip => true | _ => false
def isReg : Code → Bool | .region _ _ false => true | _ => false
def isDraw : Code → Bool | .region _ _ true => true | _ => false

/-- code, from slots that are known -/
def WC (P : Program) (c : Code) (Q : Exit → Act → World → Prop) (n : Nat) (L : SL) (w : World) : Prop := ∀ T, Holds n L T → Code.wp P c Q ⟨T, []⟩ w
/-- operations -/
def WR (P : Program) (ops : Array Oper) (Q : Exit → Act → World → Prop) (n : Nat) (is : List Nat) (L : SL) (w : World) : Prop := ∀ T, Holds n L T → wpOps P ops Q is ⟨T, []⟩ w
/-- an exit -/
def At (Q : Exit → Act → World → Prop) (e : Exit) (n : Nat) (L : SL) (w : World) : Prop := ∀ T, Holds n L T → Q e ⟨T, []⟩ w

section
variable {P : Program} {c : Code} {Q : Exit → Act → World → Prop} {n : Nat} {L : SL} {w : World}

theorem seq_eq (h : isSeq c = true) : c = .seq (cl c) (cr c) := by cases c <;> simp [isSeq] at h; rfl
theorem WC.seq (h : isSeq c = true) (hh : WC P (cl c) (Exit.then (Code.wp P (cr c) Q) Q) n L w) : WC P c Q n L w := fun T hT => by
  have := wp_seq (hh T hT)
  rw [seq_eq h]; exact this
theorem WC.skip (h : isSkip c = true) (hh : At Q .normal n L w) : WC P c Q n L w := fun T hT => by
  cases c <;> simp [isSkip] at h
  exact wp_skip (hh T hT)
theorem WC.exit (h : isExit c = true) (hh : At Q (.exit (cid c)) n L w) : WC P c Q n L w := fun T hT => by
  cases c <;> simp [isExit] at h
  exact wp_exit (hh T hT)
theorem WC.ret (h : isRet c = true) (hh : At Q .ret n L w) : WC P c Q n L w := fun T hT => by
  cases c <;> simp [isRet] at h
  exact wp_ret (hh T hT)
theorem WC.block (h : isBlock c = true) (hh : WC P (cbody c) (Exit.inBlock (cid c) Q) n L w) : WC P c Q n L w := fun T hT => by
  cases c <;> simp [isBlock] at h
  exact wp_block (hh T hT)
theorem WC.cond (h : isCond c = true) (b : Bool) (hb : (coversX L (ctest c) && true) = true) (hv : rho L (ctest c) = .bool b)
    (ht : b = true → WC P (cthen c) Q n L w) (hf : b = false → WC P (celse c) Q n L w) : WC P c Q n L w := fun T hT => by
  cases c <;> simp [isCond] at h
  simp only [Bool.and_true] at hb
  have he := (eval_rho hT hb).trans hv
  exact wp_cond_split he (fun e => ht e T hT) (fun e => hf e T hT)
theorem WC.region (h : isReg c = true) (hh : WR P (cops c) Q n (List.range (cops c).size) L w) : WC P c Q n L w := fun T hT => by
  cases c with
  | region id ops d => cases d <;> simp [isReg] at h; exact wp_region (hh T hT)
  | _ => simp [isReg] at h

/-- a loop, from the head of a round on -/
def wpL (P : Program) (b : Code) (Q : Exit → Act → World → Prop) (a : Act) (w : World) : Prop :=
  ∀ (f : Frame) (k : List Item) (cs : List Frame),
    ∃ e a' w', Q e a' w' ∧ Arrives P (lone (f.at a (.code b :: .inLoop b :: k)) cs w) f k cs e a' w'
theorem wp_of_wpL {b : Code} {a : Act} (h : wpL P b Q a w) : (Code.loop b).wp P Q a w := fun f k cs =>
  let ⟨e, a', w', q, r⟩ := h f k cs; ⟨e, a', w', q, .of_steps (.one step_loop) r⟩
theorem wpL_round {b : Code} {a : Act} (h : b.wp P (Exit.then (wpL P b Q) Q) a w) : wpL P b Q a w := by
  intro f k cs
  obtain ⟨e, a₁, w₁, hq, harr⟩ := h f (.inLoop b :: k) cs
  cases e with
  | normal =>
    obtain ⟨e₂, a₂, w₂, hq₂, harr₂⟩ := hq f k cs
    exact ⟨e₂, a₂, w₂, hq₂, .of_steps (Steps.trans harr (.one step_inLoop)) harr₂⟩
  | exit id => exact ⟨_, a₁, w₁, hq, .pass (x := .inLoop b) rfl (fun _ _ => .inl (by simp)) harr⟩
  | goto l => exact ⟨_, a₁, w₁, hq, .pass (x := .inLoop b) rfl (fun _ _ => .inl (by simp)) harr⟩
  | ret => exact ⟨_, a₁, w₁, hq, .pass (x := .inLoop b) rfl (fun _ _ => .inl (by simp)) harr⟩
  | panic ch => exact ⟨_, a₁, w₁, hq, .pass (x := .inLoop b) rfl (fun _ _ => .inl (by simp)) harr⟩
  | outgrown => exact ⟨_, a₁, w₁, hq, .pass (x := .inLoop b) rfl (fun _ _ => .inl (by simp)) harr⟩

def WL (P : Program) (b : Code) (Q : Exit → Act → World → Prop) (n : Nat) (L : SL) (w : World) : Prop := ∀ T, Holds n L T → wpL P b Q ⟨T, []⟩ w
theorem WC.loop (h : isLoop c = true) (hh : WL P (cbody c) Q n L w) : WC P c Q n L w := fun T hT => by
  cases c <;> simp [isLoop] at h
  exact wp_of_wpL (hh T hT)
theorem WL.round {b : Code} (h : WC P b (Exit.then (wpL P b Q) Q) n L w) : WL P b Q n L w := fun T hT => wpL_round (h T hT)

/-! ### slots are let go -/
def keep (is : List Nat) (L : SL) : SL := is.filterMap fun i => (lk L i).map fun v => (i, v)
theorem lk_keep (is : List Nat) (L : SL) (i : Nat) (v : Value) (h : lk (keep is L) i = some v) : lk L i = some v := by
  induction is with
  | nil => simp [keep, lk] at h
  | cons j is ih =>
    unfold keep at h ih
    simp only [List.filterMap_cons] at h
    cases hj : lk L j with
    | none => simp only [hj, Option.map_none] at h; exact ih h
    | some u =>
      simp only [hj, Option.map_some, lk] at h
      cases hb : Nat.beq j i with
      | true => simp only [hb, cond_true, Option.some.injEq] at h; rw [← beq_of hb, hj, h]
      | false => simp only [hb, cond_false] at h; exact ih h
theorem Holds.keep {T : Array Value} (is : List Nat) (h : Holds n L T) : Holds n (keep is L) T := ⟨h.1, fun i v hv => h.2 i v (lk_keep is L i v hv)⟩
/-- a test's value, when it has been decided -/
theorem Holds.know {T : Array Value} {i : Nat} {v u : Value} (h : Holds n L T) (hv : lk L i = some v) (e : v = u) : Holds n ((i, u) :: L) T := by
  refine ⟨h.1, fun j x hx => ?_⟩
  simp only [lk] at hx
  cases hb : Nat.beq i j with
  | true => simp only [hb, cond_true, Option.some.injEq] at hx; rw [← beq_of hb, ← hx, ← e]; exact h.2 _ _ hv
  | false => simp only [hb, cond_false] at hx; exact h.2 _ _ hx

theorem WC.weaken (is : List Nat) {L' : SL} (e : keep is L = L') (h : WC P c Q n L' w) : WC P c Q n L w := fun T hT => h T (e ▸ hT.keep is)
theorem WL.weaken (is : List Nat) {L' : SL} (e : keep is L = L') (h : WL P c Q n L' w) : WL P c Q n L w := fun T hT => h T (e ▸ hT.keep is)
theorem WR.weaken (is : List Nat) {ops : Array Oper} {js : List Nat} {L' : SL} (e : keep is L = L') (h : WR P ops Q n js L' w) : WR P ops Q n js L w := fun T hT => h T (e ▸ hT.keep is)
theorem At.weaken {e : Exit} (is : List Nat) {L' : SL} (he : keep is L = L') (h : At Q e n L' w) : At Q e n L w := fun T hT => h T (he ▸ hT.keep is)

/-! ### exits -/
theorem At.go {y : Code} (h : WC P y Q n L w) : At (Exit.then (Code.wp P y Q) Q) .normal n L w := h
theorem At.again {b : Code} (h : WL P b Q n L w) : At (Exit.then (wpL P b Q) Q) .normal n L w := h
theorem At.thenExit {K : Act → World → Prop} {i : Nat} (h : At Q (.exit i) n L w) : At (Exit.then K Q) (.exit i) n L w := h
theorem At.thenRet {K : Act → World → Prop} (h : At Q .ret n L w) : At (Exit.then K Q) .ret n L w := h
theorem At.hit {i : Nat} (h : At Q .normal n L w) : At (Exit.inBlock i Q) (.exit i) n L w := fun T hT => by simp only [Exit.inBlock, if_true]; exact h T hT
theorem At.miss {i j : Nat} (hne : Nat.beq j i = false) (h : At Q (.exit j) n L w) : At (Exit.inBlock i Q) (.exit j) n L w := fun T hT => by
  simp only [Exit.inBlock]; rw [if_neg (beq_ne hne)]; exact h T hT
theorem At.blockNormal {i : Nat} (h : At Q .normal n L w) : At (Exit.inBlock i Q) .normal n L w := h
theorem At.blockRet {i : Nat} (h : At Q .ret n L w) : At (Exit.inBlock i Q) .ret n L w := h

/-! ### operations -/
/-- operations one behind the other, as far as they go by themselves -/
def runP (P : Program) (n : Nat) (ops : Array Oper) : List Nat → SL → World → Option (SL × World)
  | [], L, w => some (L, w)
  | i :: is, L, w => match ops[i]? with
    | none => none
    | some o => match gd L ops o with
      | none => none
      | some false => bif dstOk n o then runP P n ops is (upd L o.dst undef) w else none
      | some true => bif dstOk n o && (noSel o && covers L o) then
          (match (execOp (rho L) o).run P w with
           | .ok (.value v) w' => runP P n ops is (upd L o.dst v) w'
           | .ok .skip w' => runP P n ops is (upd L o.dst undef) w'
           | _ => none) else none

variable {ops : Array Oper} {is : List Nat}
theorem WR.nil (h : At Q .normal n L w) : WR P ops Q n [] L w := fun T hT => h T hT
theorem WR.run {P : Program} {n : Nat} {ops : Array Oper} {Q : Exit → Act → World → Prop} {rest : List Nat} {L' : SL} {w' : World} : ∀ (is : List Nat) {L : SL} {w : World},
    runP P n ops is L w = some (L', w') → WR P ops Q n rest L' w' → WR P ops Q n (is ++ rest) L w
  | [], L, w, e, h => by simp only [runP, Option.some.injEq, Prod.mk.injEq] at e; obtain ⟨rfl, rfl⟩ := e; exact h
  | i :: is, L, w, e, h => fun T hT => by
    show wpOps P ops Q (i :: (is ++ rest)) ⟨T, []⟩ w
    unfold runP at e
    unfold wpOps
    cases ho : ops[i]? with
    | none => simp [ho] at e
    | some o =>
      simp only [ho] at e ⊢
      cases hg : gd L ops o with
      | none => simp [hg] at e
      | some b =>
        have hw := wanted_gd hT hg
        cases b with
        | false =>
          simp only [hg] at e
          cases hd : dstOk n o with
          | false => simp [hd] at e
          | true =>
            simp only [hd, cond_true] at e
            simp only [hw, Bool.false_eq_true, if_false]
            obtain ⟨T', e1, hT'⟩ := hT.put hd undef
            rw [e1]
            exact WR.run is e h T' hT'
        | true =>
          simp only [hg] at e
          cases hd : dstOk n o && (noSel o && covers L o) with
          | false => simp [hd] at e
          | true =>
            simp only [hd, cond_true] at e
            simp only [Bool.and_eq_true] at hd
            obtain ⟨hd, hs, hc⟩ := hd
            simp only [hw, if_true]
            refine .inl ?_
            unfold Oper.wp
            rw [exec_rho hT hs hc]
            cases hr : (execOp (rho L) o).run P w with
            | halt x w1 => simp [hr] at e
            | ok x w1 =>
              simp only [hr] at e
              cases x <;> simp only [reduceCtorEq] at e
              case value v =>
                obtain ⟨T', e1, hT'⟩ := hT.put hd v
                show wpOps P ops Q (is ++ rest) _ w1
                rw [e1]
                exact WR.run is e h T' hT'
              case skip =>
                obtain ⟨T', e1, hT'⟩ := hT.put hd undef
                show wpOps P ops Q (is ++ rest) _ w1
                rw [e1]
                exact WR.run is e h T' hT'

/-- an operation that is told by a hypothesis: its value and the world behind it -/
theorem WR.value {i : Nat} {o : Oper} {v : Value} {w' : World} (ho : ops[i]? = some o) (hg : gd L ops o = some true) (hd : (dstOk n o && (noSel o && covers L o)) = true)
    (hr : (execOp (rho L) o).run P w = .ok (.value v) w') (h : WR P ops Q n is (upd L o.dst v) w') : WR P ops Q n (i :: is) L w := fun T hT => by
  show wpOps P ops Q (i :: is) ⟨T, []⟩ w
  unfold wpOps
  simp only [Bool.and_eq_true] at hd
  obtain ⟨hd, hs, hc⟩ := hd
  simp only [ho, wanted_gd hT hg, if_true]
  refine .inl ?_
  unfold Oper.wp
  rw [exec_rho hT hs hc, hr]
  obtain ⟨T', e1, hT'⟩ := hT.put hd v
  show wpOps P ops Q is _ w'
  rw [e1]
  exact h T' hT'
theorem WR.skipped {i : Nat} {o : Oper} {w' : World} (ho : ops[i]? = some o) (hg : gd L ops o = some true) (hd : (dstOk n o && (noSel o && covers L o)) = true)
    (hr : (execOp (rho L) o).run P w = .ok .skip w') (h : WR P ops Q n is (upd L o.dst undef) w') : WR P ops Q n (i :: is) L w := fun T hT => by
  show wpOps P ops Q (i :: is) ⟨T, []⟩ w
  unfold wpOps
  simp only [Bool.and_eq_true] at hd
  obtain ⟨hd, hs, hc⟩ := hd
  simp only [ho, wanted_gd hT hg, if_true]
  refine .inl ?_
  unfold Oper.wp
  rw [exec_rho hT hs hc, hr]
  obtain ⟨T', e1, hT'⟩ := hT.put hd undef
  show wpOps P ops Q is _ w'
  rw [e1]
  exact h T' hT'
/-- a call -/
theorem WR.call {i : Nat} {o : Oper} {f : FuncId} {args : Array Value} {R : Value → World → Prop} (ho : ops[i]? = some o) (hg : gd L ops o = some true) (hd : (dstOk n o && (noSel o && covers L o)) = true)
    (hr : (execOp (rho L) o).run P w = .ok (.enter f args) w) (hc : Calls P f args w (fun e w' => ∃ v, e = .returned v ∧ R v w'))
    (h : ∀ v w', R v w' → WR P ops Q n is (upd L o.dst v) w') : WR P ops Q n (i :: is) L w := fun T hT => by
  show wpOps P ops Q (i :: is) ⟨T, []⟩ w
  unfold wpOps
  simp only [Bool.and_eq_true] at hd
  obtain ⟨hd, hs, hcv⟩ := hd
  simp only [ho, wanted_gd hT hg, if_true]
  refine .inl ?_
  unfold Oper.wp
  rw [exec_rho hT hs hcv, hr]
  refine Calls.mono hc ?_
  rintro e w' ⟨v, rfl, hR⟩
  obtain ⟨T', e1, hT'⟩ := hT.put hd v
  show wpOps P ops Q is _ w'
  rw [e1]
  exact h v w' hR T' hT'
/-- a slot's value is known by a hypothesis -/
theorem WR.know (i : Nat) (u v : Value) (hv : lk L i = some v) (e : v = u) {js : List Nat} (h : WR P ops Q n js ((i, u) :: L) w) : WR P ops Q n js L w := fun T hT => h T (hT.know hv e)
theorem WC.know (i : Nat) (u v : Value) (hv : lk L i = some v) (e : v = u) (h : WC P c Q n ((i, u) :: L) w) : WC P c Q n L w := fun T hT => h T (hT.know hv e)

/-! ### a function -/
/-- the results, read off the slots -/
def resV (L : SL) : List ResultVar → Option (List Value)
  | [] => some []
  | .tmp t :: r => match lk L t, resV L r with | some v, some vs => some (v :: vs) | _, _ => none
  | _ => none
end
def ofRes : List Value → Value
  | [v] => v
  | vs => .tuple vs.toArray
/-- a function's slots at its begin -/
def inSlots : Nat → List Value → SL
  | _, [] => []
  | i, v :: vs => (i, v) :: inSlots (i + 1) vs
theorem lk_inSlots (vs : List Value) : ∀ (i j : Nat) (v : Value), lk (inSlots i vs) j = some v → i ≤ j ∧ vs[j - i]? = some v := by
  induction vs with
  | nil => intro i j v h; simp [inSlots, lk] at h
  | cons u vs ih =>
    intro i j v h
    simp only [inSlots, lk] at h
    cases hb : Nat.beq i j with
    | true => simp only [hb, cond_true, Option.some.injEq] at h; have := beq_of hb; subst this; subst h; simp
    | false =>
      simp only [hb, cond_false] at h
      obtain ⟨h1, h2⟩ := ih (i + 1) j v h
      refine ⟨by omega, ?_⟩
      obtain ⟨d, rfl⟩ : ∃ d, j = i + 1 + d := ⟨j - (i + 1), by omega⟩
      have e1 : i + 1 + d - (i + 1) = d := by omega
      have e2 : i + 1 + d - i = d + 1 := by omega
      rw [e1] at h2; rw [e2]; simpa using h2
theorem calls_of_WC {P : Program} {f : FuncId} {fn : Func} {c : Code} {vs : List Value} {w : World} {R : Ending → World → Prop}
    (hf : P.funcs[f]? = some fn) (hb : fn.body = some c) {n : Nat} (hn : fn.ntmps = n) (hl : Nat.ble vs.length n = true)
    (h : WC P c (bodyPost P fn R) n (inSlots 0 vs) w) : Calls P f vs.toArray w R := by
  have hl' : vs.length ≤ n := by simpa [Nat.ble_eq] using hl
  refine calls_of_wp hf hb (h _ ⟨?_, ?_⟩)
  · simp [hn]; omega
  · intro i v hv
    obtain ⟨_, h2⟩ := lk_inSlots vs 0 i v hv
    simp only [Nat.sub_zero] at h2
    have hlt : i < vs.length := by
      rcases Nat.lt_or_ge i vs.length with h | h
      · exact h
      · simp [List.getElem?_eq_none h] at h2
    rw [Array.getElem?_append_left (by simpa using hlt)]
    simpa using h2
theorem mapM_resV {L : SL} (g : Nat → Value) (hg : ∀ t v, lk L t = some v → g t = v) (P : Program) (w : World) : ∀ (rs : List ResultVar) (vs : List Value), resV L rs = some vs →
    (rs.mapM (m := Sem) fun
      | .tmp t => pure (g t)
      | .cell a t => do loadVar t (← asAddr (g a))).run P w = .ok vs w := by
  intro rs
  induction rs with
  | nil => intro vs h; simp only [resV, Option.some.injEq] at h; subst h; rfl
  | cons r rs ih =>
    intro vs h
    cases r with
    | cell a t => simp [resV] at h
    | tmp t =>
      simp only [resV] at h
      cases h1 : lk L t with
      | none => simp [h1] at h
      | some v =>
        cases h2 : resV L rs with
        | none => simp [h1, h2] at h
        | some us =>
          simp only [h1, h2, Option.some.injEq] at h
          subst h
          have hv := hg t v h1
          simp only [List.mapM_cons, Sem.run_bind, Sem.run_pure, Result.andThen_ok, hv, ih us h2]
theorem results_resV {fn : Func} {L : SL} {n : Nat} {T : Array Value} (hT : Holds n L T) {vs : List Value} (h : resV L fn.results.toList = some vs) (P : Program) (w : World) :
    (results fn T).run P w = .ok (ofRes vs) w := by
  have hk := mapM_resV (fun t => T.getD t undef) (fun t v hv => by simp [Array.getD_eq_getD_getElem?, hT.2 t v hv]) P w _ _ h
  unfold results
  rw [← Array.toArray_toList (xs := fn.results), List.mapM_toArray]
  simp only [Sem.run_bind, map_eq_pure_bind, Sem.run_pure]
  refine (congrArg (fun r => Result.andThen (Result.andThen r _) _) hk).trans ?_
  match vs with
  | [] => rfl
  | [v] => rfl
  | _ :: _ :: _ => rfl
theorem At.body {P : Program} {fn : Func} {R : Ending → World → Prop} {n : Nat} {L : SL} {w : World} (vs : List Value) (h : resV L fn.results.toList = some vs) (hR : R (.returned (ofRes vs)) w) :
    At (bodyPost P fn R) .ret n L w := fun T hT => ⟨rfl, _, results_resV hT h P w, hR⟩
theorem At.bodyEnd {P : Program} {fn : Func} {R : Ending → World → Prop} {n : Nat} {L : SL} {w : World} (vs : List Value) (h : resV L fn.results.toList = some vs) (hR : R (.returned (ofRes vs)) w) :
    At (bodyPost P fn R) .normal n L w := fun T hT => ⟨rfl, _, results_resV hT h P w, hR⟩
end Go.Gol
