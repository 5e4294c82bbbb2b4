/-
  Operations on slices and blocks, as steps of a walk.
-/
import Derived.Test.YtoonceaeaigkpaaGB
set_option linter.unusedVariables false
set_option linter.unusedSimpArgs false
namespace Go.Gol
open Go

def opAt (ops : Array Oper) (i : Nat) : Oper := (ops[i]?).getD default
/-- operation i is wanted, and its operands and its slot are known -/
def ready (n : Nat) (ops : Array Oper) (L : SL) (i : Nat) : Bool :=
  match ops[i]? with
  | none => false
  | some o => (match gd L ops o with | some true => true | _ => false) && (dstOk n o && (noSel o && covers L o))
theorem ready_spec {n : Nat} {ops : Array Oper} {L : SL} {i : Nat} (h : ready n ops L i = true) :
    ops[i]? = some (opAt ops i) ∧ gd L ops (opAt ops i) = some true ∧ (dstOk n (opAt ops i) && (noSel (opAt ops i) && covers L (opAt ops i))) = true := by
  unfold ready at h
  cases ho : ops[i]? with
  | none => simp [ho] at h
  | some o =>
    simp only [ho, Bool.and_eq_true] at h
    have e : opAt ops i = o := by simp [opAt, ho]
    rw [e]
    refine ⟨rfl, ?_, by simpa using h.2⟩
    have h1 := h.1
    split at h1
    · assumption
    · cases h1

section
variable {P : Program} {n : Nat} {ops : Array Oper} {L : SL} {w : World} {i : Nat} {K : Value → World → Prop}

/-- operation i goes, and K holds of what it leaves -/
def St (P : Program) (n : Nat) (ops : Array Oper) (L : SL) (i : Nat) (w : World) (K : Value → World → Prop) : Prop :=
  ready n ops L i = true ∧ ((∃ v w', (execOp (rho L) (opAt ops i)).run P w = .ok (.value v) w' ∧ K v w') ∨ (∃ w', (execOp (rho L) (opAt ops i)).run P w = .ok .skip w' ∧ K undef w') ∨
    (∃ f args, (execOp (rho L) (opAt ops i)).run P w = .ok (.enter f args) w ∧ Calls P f args w (fun e w' => ∃ v, e = .returned v ∧ K v w')))
theorem St.val {v : Value} {w' : World} (h : ready n ops L i = true) (hr : (execOp (rho L) (opAt ops i)).run P w = .ok (.value v) w') (hh : K v w') : St P n ops L i w K := ⟨h, .inl ⟨v, w', hr, hh⟩⟩
theorem St.skp {w' : World} (h : ready n ops L i = true) (hr : (execOp (rho L) (opAt ops i)).run P w = .ok .skip w') (hh : K undef w') : St P n ops L i w K := ⟨h, .inr (.inl ⟨w', hr, hh⟩)⟩
theorem St.call {f : FuncId} {args : Array Value} {R : Value → World → Prop} (h : ready n ops L i = true) (hr : (execOp (rho L) (opAt ops i)).run P w = .ok (.enter f args) w)
    (hc : Calls P f args w (fun e w' => ∃ v, e = .returned v ∧ R v w')) (hh : ∀ v w', R v w' → K v w') : St P n ops L i w K :=
  ⟨h, .inr (.inr ⟨f, args, hr, hc.mono fun e w' ⟨v, e1, hR⟩ => ⟨v, e1, hh v w' hR⟩⟩)⟩
theorem WR.st {Q : Exit → Act → World → Prop} {is : List Nat} (h : St P n ops L i w (fun v w' => WR P ops Q n is (upd L (opAt ops i).dst v) w')) : WR P ops Q n (i :: is) L w := by
  obtain ⟨hr, h⟩ := h
  obtain ⟨h1, h2, h3⟩ := ready_spec hr
  rcases h with ⟨v, w', hv, hh⟩ | ⟨w', hv, hh⟩ | ⟨f, args, hv, hh⟩
  · exact WR.value h1 h2 h3 hv hh
  · exact WR.skipped h1 h2 h3 hv hh
  · exact WR.call h1 h2 h3 hv hh (fun v w' h => h)

/-! ### plain words for what is computed -/
/-- the element at an index -/
def at? {α : Type} (xs : List α) (i : Int) : Option α := if 0 ≤ i then xs[i.toNat]? else none
theorem at?_some {α : Type} {xs : List α} {i : Int} {x : α} (h : at? xs i = some x) : 0 ≤ i ∧ i.toNat < xs.length ∧ xs[i.toNat]? = some x ∧ i < (xs.length : Int) := by
  unfold at? at h
  split at h
  · rename_i h0
    have : i.toNat < xs.length := by
      rcases Nat.lt_or_ge i.toNat xs.length with h' | h'
      · exact h'
      · rw [List.getElem?_eq_none h'] at h; cases h
    exact ⟨h0, this, h, by omega⟩
  · cases h
/-- a part of a list -/
def sub? {α : Type} (xs : List α) (lo hi : Int) : Option (List α) := if 0 ≤ lo ∧ lo ≤ hi ∧ hi ≤ (xs.length : Int) then some ((xs.take hi.toNat).drop lo.toNat) else none
theorem sub?_some {α : Type} {xs ys : List α} {lo hi : Int} (h : sub? xs lo hi = some ys) : 0 ≤ lo ∧ lo ≤ hi ∧ hi ≤ (xs.length : Int) ∧ ys = (xs.take hi.toNat).drop lo.toNat ∧ ys.length = hi.toNat - lo.toNat := by
  unfold sub? at h
  split at h
  · rename_i hh
    simp only [Option.some.injEq] at h
    exact ⟨hh.1, hh.2.1, hh.2.2, h.symm, by rw [← h]; simp; omega⟩
  · cases h
/-- two lists, if there is room -/
def app? {α : Type} (lim : Nat) (xs ys : List α) : Option (List α) := if xs.length + ys.length ≤ lim then some (xs ++ ys) else none
theorem app?_some {α : Type} {lim : Nat} {xs ys zs : List α} (h : app? lim xs ys = some zs) : xs.length + ys.length ≤ lim ∧ zs = xs ++ ys := by
  unfold app? at h
  split at h
  · exact ⟨‹_›, by simpa using h.symm⟩
  · cases h
/-- an element is laid -/
def set? {α : Type} (xs : List α) (i : Int) (x : α) : Option (List α) := if 0 ≤ i ∧ i < (xs.length : Int) then some (xs.set i.toNat x) else none
theorem set?_some {α : Type} {xs ys : List α} {i : Int} {x : α} (h : set? xs i x = some ys) : 0 ≤ i ∧ i.toNat < xs.length ∧ ys = xs.set i.toNat x := by
  unfold set? at h
  split at h
  · rename_i hh; exact ⟨hh.1, by omega, by simpa using h.symm⟩
  · cases h
/-- so many noughts -/
def make? {α : Type} (lim : Nat) (z : α) (m : Int) : Option (List α) := if 0 ≤ m ∧ m ≤ (lim : Int) then some (List.replicate m.toNat z) else none
theorem make?_some {α : Type} {lim : Nat} {z : α} {m : Int} {xs : List α} (h : make? lim z m = some xs) : 0 ≤ m ∧ m ≤ (lim : Int) ∧ xs = List.replicate m.toNat z := by
  unfold make? at h
  split at h
  · rename_i hh; exact ⟨hh.1, hh.2, by simpa using h.symm⟩
  · cases h
/-- bytes as a string -/
def bs (xs : List Int) : ByteArray := ⟨(xs.map fun x => UInt8.ofNat x.toNat).toArray⟩

/-! ### slices -/
/-- where element j of a slice lies -/
def adr (A : Option Addr) (j sz : Nat) : Addr := match A with | some a => a.add (j * sz) | none => ⟨0, 0, none⟩
/-- a slice of the call's own -/
def osl {α : Type} (e : TypeId) (R : List Value → α → Prop) (sz : Nat) (A : Option Addr) (c : Nat) (xs : List α) : HP := fun H =>
  xs.length ≤ c ∧ c ≤ maxLen ∧ match A with
  | none => xs = [] ∧ c = 0
  | some a => ∃ g off cur, a = ⟨g, off, none⟩ ∧ H g = some (.cells cur e (0, 0)) ∧ off + c * sz ≤ cur.size ∧ rdL R sz ((cur.toList.drop off).take (xs.length * sz)) xs
theorem osl.read {α : Type} {e : TypeId} {R : List Value → α → Prop} {sz : Nat} {A : Option Addr} {c : Nat} {xs : List α} {H : Heap} (h : osl e R sz A c xs H) : rdS R sz H A c xs := by
  obtain ⟨h1, h2, h3⟩ := h
  refine ⟨h1, h2, ?_⟩
  cases A with
  | none => exact h3.1
  | some a => obtain ⟨g, off, cur, rfl, hb, ho, hr⟩ := h3; exact .inr ⟨rfl, cur, e, _, hb, ho, hr⟩
theorem osl.mono {α : Type} {e : TypeId} {R R' : List Value → α → Prop} {sz : Nat} {A : Option Addr} {c : Nat} {xs : List α} {H : Heap} (hR : ∀ c x, R c x → R' c x) (h : osl e R sz A c xs H) : osl e R' sz A c xs H := by
  obtain ⟨h1, h2, h3⟩ := h
  refine ⟨h1, h2, ?_⟩
  cases A with
  | none => exact h3
  | some a => obtain ⟨g, off, cur, rfl, hb, ho, hr⟩ := h3; exact ⟨g, off, cur, rfl, hb, ho, hr.mono hR⟩
theorem osl.nil {α : Type} (e : TypeId) (R : List Value → α → Prop) (sz : Nat) (H : Heap) : osl e R sz none 0 [] H := ⟨Nat.le_refl _, Nat.zero_le _, rfl, rfl⟩

theorem add_add (a : Addr) (hs : a.spot = none) (i j : Nat) : (a.add i).add j = a.add (i + j) := by
  unfold Addr.add
  by_cases hi : i = 0 <;> by_cases hj : j = 0 <;> simp [hi, hj, Nat.add_assoc]
theorem add_cell {w : World} {a : Addr} (hs : a.spot = none) {cells : Array Value} {E : TypeId} {fr : Nat × Nat} (hb : w.heap[a.block]? = some (.cells cells E fr)) (j : Nat) :
    w.cell? (a.add j) = cells[a.off + j]? := by
  unfold World.cell? Addr.add
  by_cases hj : j = 0
  · subst hj; simp [hb, hs]
  · simp [hj, hb]
/-- the cells of an element -/
theorem rdS.cells {α : Type} {R : List Value → α → Prop} {sz : Nat} {A : Option Addr} {c : Nat} {xs : List α} (h : rdS R sz (hp w) A c xs) {j : Nat} {x : α} (hx : xs[j]? = some x) :
    A.isSome = true ∧ ∃ cs, cs.length = sz ∧ R cs x ∧ ∀ k v, cs[k]? = some v → w.cell? ((adr A j sz).add k) = some v := by
  obtain ⟨h1, h2, h3⟩ := h
  have hj : j < xs.length := by
    rcases Nat.lt_or_ge j xs.length with h' | h'
    · exact h'
    · rw [List.getElem?_eq_none h'] at hx; cases hx
  cases A with
  | none => simp only at h3; subst h3; simp at hj
  | some a =>
    obtain ⟨hs, cells, E, fr, hb, ho, hr⟩ := h3.resolve_left (by omega)
    obtain ⟨cs, e, hl, hR⟩ := hr.at hx
    refine ⟨rfl, cs, hl, hR, fun k v hv => ?_⟩
    have hk : k < sz := by
      rw [← hl]; rcases Nat.lt_or_ge k cs.length with h' | h'
      · exact h'
      · rw [List.getElem?_eq_none h'] at hv; cases hv
    show w.cell? ((a.add (j * sz)).add k) = some v
    rw [add_add a hs, add_cell hs hb, ← hv, ← e, List.getElem?_take, if_pos hk, List.getElem?_drop, List.getElem?_take, List.getElem?_drop]
    have hlt : j * sz + k < xs.length * sz := by
      have : (j + 1) * sz ≤ xs.length * sz := Nat.mul_le_mul_right _ hj
      rw [Nat.add_mul] at this; omega
    rw [if_pos hlt, Array.getElem?_toList]
theorem rdS.cell1 {α : Type} {R : List Value → α → Prop} {A : Option Addr} {c : Nat} {xs : List α} (h : rdS R 1 (hp w) A c xs) {j : Nat} {x : α} (hx : xs[j]? = some x) :
    A.isSome = true ∧ ∃ v, R [v] x ∧ w.cell? (adr A j 1) = some v := by
  obtain ⟨h1, cs, hl, hR, hc⟩ := h.cells hx
  match cs, hl with
  | [v], _ =>
    refine ⟨h1, v, hR, ?_⟩
    have := hc 0 v rfl
    simpa [Addr.add] using this

/-- P.underlying, the zero value, how many cells, how many bytes -/
structure ElemInfo (P : Program) (t e : TypeId) (sz bytes : Nat) : Prop where
  und : P.underlying t = some (.slice e)
  info : ∃ inf z, P.info? e = some inf ∧ inf.zero = some z ∧ inf.size = sz ∧ inf.bytes = bytes ∧ z.cells.size = sz
theorem ElemInfo.mk' {t e : TypeId} {sz bytes : Nat} (z : Value) (h1 : P.underlying t = some (.slice e)) (h2 : (P.info? e).map (fun i => (i.zero, i.size, i.bytes)) = some (some z, sz, bytes)) (h3 : z.cells.size = sz) : ElemInfo P t e sz bytes := by
  refine ⟨h1, ?_⟩
  cases hi : P.info? e with
  | none => simp [hi] at h2
  | some inf => simp only [hi, Option.map_some, Option.some.injEq, Prod.mk.injEq] at h2; exact ⟨inf, z, rfl, h2.1, h2.2.1, h2.2.2, h3⟩

theorem run_indexAt {t e : TypeId} {sz bytes : Nat} (hE : ElemInfo P t e sz bytes) {A : Option Addr} {m c : Nat} {k : IntKind} {j : Int} (hA : A.isSome = true) (h0 : 0 ≤ j) (h1 : j < (m : Int)) :
    (Instr.indexAt t (.slice A m c) (.int k j)).run P w = .ok (.pointer (some (adr A j.toNat sz))) w := by
  obtain ⟨hu, inf, z, hi, hz, hsz, hb, hc⟩ := hE
  cases A with
  | none => cases hA
  | some a =>
    subst hsz
    simp [Instr.indexAt, asIntOf, run_underlying hu, h0, h1, sizeOf, typeInfo, hi, adr]
theorem St.idx {α : Type} {t e : TypeId} {sz bytes : Nat} (x ix : Operand) (hop : (opAt ops i).op = .indexAddr t x ix) (hrd : ready n ops L i = true) (hE : ElemInfo P t e sz bytes)
    {A : Option Addr} {c : Nat} {xs : List α} {R : List Value → α → Prop} {k : IntKind} {j : Int} {v : α} (hx : rho L x = .slice A xs.length c) (hi : rho L ix = .int k j) (hr : rdS R sz (hp w) A c xs) (hv : at? xs j = some v)
    (hh : K ((.pointer (some (adr A j.toNat sz)))) w) : St P n ops L i w K := by
  obtain ⟨h0, _, h2, h3⟩ := at?_some hv
  obtain ⟨hA, _⟩ := hr.cells h2
  refine St.val hrd ?_ hh
  simp only [execOp, hop, hx, hi]
  simp [run_indexAt hE hA h0 h3]

theorem run_loadVar {t : TypeId} {a : Addr} {v : Value} (hagg : (isAgg t).run P w = .ok false w) (hc : w.cell? a = some v) : (loadVar t a).run P w = .ok v w := by
  simp [loadVar, hagg, hc]
theorem St.load {t : TypeId} (x : Operand) (a : Addr) {v : Value} (hop : (opAt ops i).op = .load t x) (hrd : ready n ops L i = true) (hagg : (isAgg t).run P w = .ok false w) (hx : rho L x = .pointer (some a))
    (hc : w.cell? a = some v) (hh : K (v) w) : St P n ops L i w K := by
  refine St.val hrd ?_ hh
  simp only [execOp, hop, hx]
  simp [Instr.loadAt, Instr.sureAddr, run_loadVar hagg hc]
theorem run_loadAgg {t : TypeId} {a : Addr} {cs : List Value} (hagg : (isAgg t).run P w = .ok true w) (hsz : (sizeOf t).run P w = .ok cs.length w) (hc : ∀ k v, cs[k]? = some v → w.cell? (a.add k) = some v) :
    (loadVar t a).run P w = .ok (.agg cs.toArray) w := by
  simp [loadVar, hagg, hsz, run_loadCells_list w a cs hc]
theorem St.loadAgg {t : TypeId} (x : Operand) (a : Addr) (cs : List Value) (hop : (opAt ops i).op = .load t x) (hrd : ready n ops L i = true) (hagg : (isAgg t).run P w = .ok true w) (hsz : (sizeOf t).run P w = .ok cs.length w) (hx : rho L x = .pointer (some a))
    (hc : ∀ k v, cs[k]? = some v → w.cell? (a.add k) = some v) (hh : K ((.agg cs.toArray)) w) : St P n ops L i w K := by
  refine St.val hrd ?_ hh
  simp only [execOp, hop, hx]
  simp [Instr.loadAt, Instr.sureAddr, run_loadAgg hagg hsz hc]
/-- an element of whole numbers, bools, strings: one cell -/
theorem St.load1 {α : Type} {t : TypeId} (x : Operand) (hop : (opAt ops i).op = .load t x) (hrd : ready n ops L i = true) (hagg : (isAgg t).run P w = .ok false w)
    {A : Option Addr} {c : Nat} {xs : List α} {R : List Value → α → Prop} {j : Int} {v : α} (hx : rho L x = .pointer (some (adr A j.toNat 1))) (hr : rdS R 1 (hp w) A c xs) (hv : at? xs j = some v)
    (hh : ∀ u, R [u] v → K (u) w) : St P n ops L i w K := by
  obtain ⟨_, u, hR, hc⟩ := hr.cell1 (at?_some hv).2.2.1
  exact St.load x _ hop hrd hagg hx hc (hh u hR)

/-! ### parts of slices -/
theorem run_sliceBound {y : Nat} {code : BoundsCode} {k : IntKind} {j : Int} (h0 : 0 ≤ j) (h1 : j ≤ (y : Int)) : (Instr.sliceBound (.int k j) y code).run P w = .ok j.toNat w := by
  simp [Instr.sliceBound, asIntOf, h0, h1]
theorem rdS.part {α : Type} {R : List Value → α → Prop} {sz : Nat} {H : Heap} {A : Option Addr} {c : Nat} {xs : List α} (h : rdS R sz H A c xs) {lo hi m : Nat} (h1 : lo ≤ hi) (h2 : hi ≤ xs.length) (h3 : hi ≤ m) (h4 : m ≤ c) :
    rdS R sz H (if m = lo then A else A.map (·.add (lo * sz))) (m - lo) ((xs.take hi).drop lo) := by
  obtain ⟨ha, hb, hc⟩ := h
  refine ⟨by simp; omega, by omega, ?_⟩
  cases A with
  | none => simp only at hc; subst hc; by_cases e : m = lo <;> simp [e]
  | some a =>
    by_cases hc0 : c = 0
    · have : m = lo := by omega
      rw [if_pos this]
      exact .inl (by omega)
    obtain ⟨hs, cells, E, fr, hbk, ho, hr⟩ := hc.resolve_left hc0
    by_cases e : m = lo
    · subst e
      have : hi = m := by omega
      subst this
      simp only [if_true]
      refine .inr ⟨hs, cells, E, fr, hbk, by simp; omega, ?_⟩
      have hl : ((xs.take hi).drop hi) = [] := by apply List.drop_eq_nil_of_le; simp; omega
      rw [hl]; simp; exact rdL.nil R sz
    · rw [if_neg e]
      have e1 : (a.add (lo * sz)).block = a.block := by unfold Addr.add; split <;> rfl
      have e2 : (a.add (lo * sz)).off = a.off + lo * sz := by unfold Addr.add; split <;> simp_all
      have e3 : (a.add (lo * sz)).spot = none := by unfold Addr.add; split <;> simp_all
      refine .inr ⟨e3, cells, E, fr, by rw [e1]; exact hbk, ?_, ?_⟩
      · rw [e2]
        have : lo * sz + (m - lo) * sz = m * sz := by rw [← Nat.add_mul]; congr 1; omega
        have : m * sz ≤ c * sz := Nat.mul_le_mul_right _ h4
        omega
      · rw [e2]
        have := (hr.take hi).drop lo
        have hl : ((xs.take hi).drop lo).length * sz = (hi - lo) * sz := by simp [Nat.min_eq_left h2]
        rw [hl, ← List.drop_drop]
        have e4 : (List.take (hi * sz) (List.take (xs.length * sz) (List.drop a.off cells.toList))).drop (lo * sz) = List.take ((hi - lo) * sz) (List.drop (lo * sz) (List.drop a.off cells.toList)) := by
          rw [List.take_take, Nat.min_eq_left (Nat.mul_le_mul_right _ h2), List.drop_take, Nat.sub_mul]
        rwa [e4] at this
theorem osl.part {α : Type} {e : TypeId} {R : List Value → α → Prop} {sz : Nat} {H : Heap} {A : Option Addr} {c : Nat} {xs : List α} (h : osl e R sz A c xs H) {lo hi m : Nat} (h1 : lo ≤ hi) (h2 : hi ≤ xs.length) (h3 : hi ≤ m) (h4 : m ≤ c) :
    osl e R sz (if m = lo then A else A.map (·.add (lo * sz))) (m - lo) ((xs.take hi).drop lo) H := by
  have hp := (osl.read h).part h1 h2 h3 h4
  obtain ⟨ha, hb, hc⟩ := h
  refine ⟨hp.1, hp.2.1, ?_⟩
  have hp3 := hp.2.2
  cases A with
  | none =>
    simp only at hc
    obtain ⟨rfl, rfl⟩ := hc
    by_cases e : m = lo <;> simp [e] <;> omega
  | some a =>
    obtain ⟨g, off, cur, rfl, hbk, ho, hr⟩ := hc
    have hlen : ((xs.take hi).drop lo).length * sz = (hi - lo) * sz := by simp [Nat.min_eq_left h2]
    by_cases hml : m - lo = 0
    · have hnil : (xs.take hi).drop lo = [] := by apply List.drop_eq_nil_of_le; simp; omega
      have e : m = lo := by omega
      rw [if_pos e, hnil]
      exact ⟨g, off, cur, rfl, hbk, by rw [hml]; omega, by simpa using rdL.nil R sz⟩
    replace hp3 := hp3
    by_cases e' : m = lo
    · rw [if_pos e'] at hp3 ⊢
      obtain ⟨_, cells, E, fr, hbk', ho', hr'⟩ := hp3.resolve_left hml
      simp only at hbk'
      rw [hbk] at hbk'
      simp only [Option.some.injEq, Obj.cells.injEq] at hbk'
      obtain ⟨rfl, rfl, rfl⟩ := hbk'
      exact ⟨g, off, cur, rfl, hbk, ho', hr'⟩
    · rw [if_neg e'] at hp3 ⊢
      have e1 : (⟨g, off, none⟩ : Addr).add (lo * sz) = ⟨g, off + lo * sz, none⟩ := by unfold Addr.add; split <;> simp_all
      simp only [Option.map_some, e1] at hp3 ⊢
      obtain ⟨_, cells, E, fr, hbk', ho', hr'⟩ := hp3.resolve_left hml
      rw [hbk] at hbk'
      simp only [Option.some.injEq, Obj.cells.injEq] at hbk'
      obtain ⟨rfl, rfl, rfl⟩ := hbk'
      exact ⟨g, _, cur, rfl, hbk, ho', hr'⟩
theorem run_sliceAt {t e : TypeId} {sz bytes : Nat} (hE : ElemInfo P t e sz bytes) {A : Option Addr} {m c : Nat} (lo hi mx : Option Value) {l h mm : Nat}
    (hb : (Instr.sliceBounds true m c lo hi mx).run P w = .ok (l, h, mm) w) :
    (Instr.sliceAt t (.slice A m c) lo hi mx).run P w = .ok (.slice (if mm = l then A else A.map (·.add (l * sz))) (h - l) (mm - l)) w := by
  obtain ⟨hu, inf, z, hi, hz, hsz, hby, hc⟩ := hE
  subst hsz
  simp [Instr.sliceAt, Instr.slice, run_underlying hu, hb, sizeOf, typeInfo, hi]
theorem St.part {α : Type} {t e : TypeId} {sz bytes : Nat} (x : Operand) (lo hi mx : Option Operand) (hop : (opAt ops i).op = .slice t x lo hi mx) (hrd : ready n ops L i = true) (hE : ElemInfo P t e sz bytes)
    {A : Option Addr} {c : Nat} {xs ys : List α} {jl jh : Int} (hx : rho L x = .slice A xs.length c) (hv : sub? xs jl jh = some ys) (mm : Nat)
    (hb : (Instr.sliceBounds true xs.length c (lo.map (rho L)) (hi.map (rho L)) (mx.map (rho L))).run P w = .ok (jl.toNat, jh.toNat, mm) w)
    (hh : K ((.slice (if mm = jl.toNat then A else A.map (·.add (jl.toNat * sz))) ys.length (mm - jl.toNat))) w) : St P n ops L i w K := by
  obtain ⟨h0, h1, h2, h3, h4⟩ := sub?_some hv
  refine St.val hrd ?_ hh
  simp only [execOp, hop, hx]
  rw [h4]
  simp [run_sliceAt hE _ _ _ hb]
end
end Go.Gol
