/-
  Elements of several cells, whole objects, bytes of a string, variables that are arrays. My own text.
-/
import Derived.Test.YtoonceaeaigkpaaGJ
import Derived.Test.YtoonceaeaigkpaaGH
set_option linter.unusedVariables false
set_option linter.unusedSimpArgs false
namespace Go.Gol
open Go
section
variable {P : Program} {n : Nat} {ops : Array Oper} {L : SL} {w : World} {i : Nat} {K : Value → World → Prop} {M : Value → Prop} {B : Rf} {cs : List HP}
/-- the cells of a value that is nothing but whole numbers, bools, strings -/
def cellsOf : (κ : Ki) → κ.T → List Value
  | .int k, n => [.int k n]
  | .bool, b => [.bool b]
  | .str, s => [.string s]
  | .unit, _ => []
  | .pair a b, x => cellsOf a x.1 ++ cellsOf b x.2
  | .slice _ _, _ => []
  | .ptr _ _, _ => []
  | .arr _ κ, xs => ((show List κ.T from xs).map (cellsOf κ)).flatten
def flatK : Ki → Bool
  | .int _ => true
  | .bool => true
  | .str => true
  | .unit => true
  | .pair a b => flatK a && flatK b
  | _ => false
theorem r0_cells {H : Heap} : ∀ {κ : Ki} {cs : List Value} {x : κ.T}, flatK κ = true → rd H κ cs x → cs = cellsOf κ x
  | .int _, _, _, _, h => h
  | .bool, _, _, _, h => h
  | .str, _, _, _, h => h
  | .unit, _, _, _, h => h
  | .pair a b, _, _, hf, ⟨c1, c2, e, _, h1, h2⟩ => by
    simp only [flatK, Bool.and_eq_true] at hf
    rw [e, r0_cells hf.1 h1, r0_cells hf.2 h2]; rfl
theorem cells_len : ∀ {κ : Ki} (x : κ.T), flatK κ = true → (cellsOf κ x).length = κ.sz
  | .int _, _, _ => rfl
  | .bool, _, _ => rfl
  | .str, _, _ => rfl
  | .unit, _, _ => rfl
  | .pair a b, x, hf => by
    simp only [flatK, Bool.and_eq_true] at hf
    simp [cellsOf, Ki.sz, cells_len x.1 hf.1, cells_len x.2 hf.2]
theorem cells_rd {H : Heap} : ∀ {κ : Ki} (x : κ.T), flatK κ = true → rd H κ (cellsOf κ x) x
  | .int _, _, _ => rfl
  | .bool, _, _ => rfl
  | .str, _, _ => rfl
  | .unit, _, _ => rfl
  | .pair a b, x, hf => by
    simp only [flatK, Bool.and_eq_true] at hf
    exact ⟨_, _, rfl, cells_len x.1 hf.1, cells_rd x.1 hf.1, cells_rd x.2 hf.2⟩
/-- an element of several cells -/
theorem RSt.loadFlat {t : TypeId} {κ : Ki} (x : Operand) (hop : (opAt ops i).op = .load t x) (hrd : ready n ops L i = true) (hagg : (isAgg t).run P w = .ok true w) (hsz : (sizeOf t).run P w = .ok κ.sz w) (hf : flatK κ = true)
    {A : Option Addr} {c : Nat} {xs : List κ.T} {j : Int} {v : κ.T} (hx : rho L x = .pointer (some (adr A j.toNat κ.sz))) (hr : rdS (r0 κ) κ.sz (hp w) A c xs) (hv : at? xs j = some v)
    (hh : M (.agg (cellsOf κ v).toArray)) : RSt P n ops L i w M := by
  obtain ⟨_, cs, hl, hR, hc⟩ := hr.cells (at?_some hv).2.2.1
  have e := r0_cells hf hR
  subst e
  refine ⟨hrd, _, ?_, hh⟩
  simp only [execOp, hop, hx]
  simp [Instr.loadAt, Instr.sureAddr, run_loadAgg hagg (hl ▸ hsz) hc]
/-- one cell of an element -/
theorem RSt.loadPart {t : TypeId} {κ : Ki} (x : Operand) (k : Nat) (hop : (opAt ops i).op = .load t x) (hrd : ready n ops L i = true) (hagg : (isAgg t).run P w = .ok false w) (hf : flatK κ = true)
    {A : Option Addr} {c : Nat} {xs : List κ.T} {j : Int} {v : κ.T} {u : Value} (hx : rho L x = .pointer (some ((adr A j.toNat κ.sz).add k))) (hr : rdS (r0 κ) κ.sz (hp w) A c xs) (hv : at? xs j = some v) (hu : (cellsOf κ v)[k]? = some u)
    (hh : M u) : RSt P n ops L i w M := by
  obtain ⟨_, cs, hl, hR, hc⟩ := hr.cells (at?_some hv).2.2.1
  have e := r0_cells hf hR
  subst e
  exact RSt.load x _ hop hrd hagg hx (hc k u hu) hh
/-- a byte of a string -/
def chr? (s : ByteArray) (i : Int) : Option Int := if 0 ≤ i then (s[i.toNat]?).map (fun b => (b.toNat : Int)) else none
theorem PSt.chr {t : TypeId} (x ix : Operand) (hop : (opAt ops i).op = .index t x ix) (hrd : ready n ops L i = true) (hu : P.underlying t = some .string) {s : ByteArray} {k : IntKind} {j v : Int} (hx : rho L x = .string s) (hi : rho L ix = .int k j) (hv : chr? s j = some v)
    (hh : M (.int .u8 v)) : PSt P n ops L i M := by
  refine ⟨hrd, _, fun w' => ?_, hh⟩
  unfold chr? at hv
  split at hv
  · rename_i h0
    cases hb : s[j.toNat]? with
    | none => simp [hb] at hv
    | some b =>
      simp only [hb, Option.map_some, Option.some.injEq] at hv
      subst hv
      simp only [execOp, hop, hx, hi]
      simp [Instr.index, asIntOf, run_underlying hu, h0, hb]
  · cases hv
/-- a whole object is written -/
theorem St.storeAll {t : TypeId} (a x : Operand) (hop : (opAt ops i).op = .store t a x) (hrd : ready n ops L i = true) {vs : List Value} (hsz : (sizeOf t).run P w = .ok vs.length w) {b : Nat} {cur : Array Value} {e : TypeId}
    (hS : Sat w B (pts b (.cells cur e (0, 0)) :: cs)) (ha : rho L a = .pointer (some ⟨b, 0, none⟩)) (hx : rho L x = .agg vs.toArray) (h1 : (vs.all (·.oneCell')) = true) (hl : Nat.beq vs.length cur.size = true)
    (hh : ∀ w', Sat w' B (pts b (.cells vs.toArray e (0, 0)) :: cs) → K undef w') : St P n ops L i w K := by
  obtain ⟨M0, hM, _, hm⟩ := Sat.read [] cs hS
  have hb : w.heap[b]? = some (.cells cur e (0, 0)) := hM b _ hm
  have hl' := beq_of hl
  have hst := run_storeCells_at P b 0 e vs 0 cur w hb (by omega) (fun v hv => by simpa using (List.all_eq_true.1 h1) v hv)
  have he : (cur.toList.take (0 + 0) ++ vs ++ cur.toList.drop (0 + 0 + vs.length)).toArray = vs.toArray := by
    have : cur.toList.drop (0 + 0 + vs.length) = [] := List.drop_eq_nil_of_le (by simp; omega)
    rw [this]; simp
  rw [he] at hst
  refine St.skp hrd (w' := w.setRow b vs.toArray) ?_ (hh _ ?_)
  · simp only [execOp, hop, ha, hx]
    simp [Instr.storeAt, Instr.sureAddr, storeVar, Value.cells, hsz, hst]
  · refine Sat.upd [] cs (cs := [pts b (.cells cur e (0, 0))]) (cs' := [pts b (.cells vs.toArray e (0, 0))]) hS ⟨rfl, rfl, rfl⟩ (fun H1 _ hH1 hc => ?_)
    obtain ⟨J1, J2, _, hJ1, _, hc1, _⟩ := hc
    have hgd : H1 b = some (.cells cur e (0, 0)) := hJ1 b _ hc1
    refine ⟨one b (.cells vs.toArray e (0, 0)), SepL.one (one_self _ _), ?_, ?_, ?_⟩
    · intro x o hx; obtain ⟨rfl, rfl⟩ := one_inv hx; exact hp_setRow hb
    · intro x o hx; obtain ⟨rfl, rfl⟩ := one_inv hx; left; rw [hgd]; exact fun h => by cases h
    · intro x o hx hn
      rw [hp_setRow_ne]
      · exact hx
      · rintro rfl; rw [hgd] at hn; cases hn

/-! ### a result that is a part of an argument -/
theorem SubT.refl {α : Type} (sz : Nat) (A : Option Addr) (c : Nat) (xs : List α) : SubT sz A c xs A c xs := ⟨fun _ _ h => h, fun _ _ _ _ _ h => h⟩
theorem SubT.trans {α : Type} {sz : Nat} {A A' A2 : Option Addr} {c c' c2 : Nat} {xs ys zs : List α} (h : SubT sz A c xs A' c' ys) (h' : SubT sz A' c' ys A2 c2 zs) : SubT sz A c xs A2 c2 zs :=
  ⟨fun R H k => h'.rd R H (h.rd R H k), fun w H0 bs e R k => h'.sat w H0 bs e R (h.sat w H0 bs e R k)⟩
theorem SubT.nil {α : Type} (sz : Nat) (A : Option Addr) (c : Nat) (xs : List α) : SubT sz A c xs none 0 ([] : List α) :=
  ⟨fun _ _ _ => rdS.nil _ _ _, fun _ _ _ e R k => Sat.mono1 (fun H _ => osl.nil e R sz H) k⟩

/-! ### arguments that are structs -/
theorem OpensF.one' {P : Program} {f : Field} {off : Nat} {κ : Ki} (ho : f.offset = off) (hc : P.cellsOf f.type = κ.sz) (h : Opens P f.type κ) : OpensF P [f] off κ := ho ▸ OpensF.one hc h
theorem OpensF.cons' {P : Program} {f : Field} {fs : List Field} {off : Nat} {a b : Ki} (ho : f.offset = off) (hc : P.cellsOf f.type = a.sz) (h : Opens P f.type a) (hr : OpensF P fs (off + a.sz) b) : OpensF P (f :: fs) off (.pair a b) := by
  subst ho; exact OpensF.cons hc h hr
theorem Opens.struct' {P : Program} {t : TypeId} {fs : List Field} {κ : Ki} (h : P.underlying t = some (.struct ⟨fs⟩)) (hc : P.cellsOf t = κ.sz) (hf : OpensF P fs 0 κ) : Opens P t κ := Opens.struct h hc hf

/-! ### variables that are arrays -/
def oar {α : Type} (e : TypeId) (R : List Value → α → Prop) (sz m b : Nat) (xs : List α) : HP := fun H => xs.length = m ∧ osl e R sz (some ⟨b, 0, none⟩) m xs H
theorem oar.op {α : Type} {e : TypeId} {R : List Value → α → Prop} {sz m b : Nat} {xs : List α} (h : Sat w B (oar e R sz m b xs :: cs)) : xs.length = m ∧ Sat w B (osl e R sz (some ⟨b, 0, none⟩) m xs :: cs) :=
  ⟨Sat.pure1 (fun _ h => h.1) h, Sat.mono1 (fun _ h => h.2) h⟩
theorem oar.cl {α : Type} {e : TypeId} {R : List Value → α → Prop} {sz m b : Nat} {xs : List α} (hl : xs.length = m) (h : Sat w B (osl e R sz (some ⟨b, 0, none⟩) m xs :: cs)) : Sat w B (oar e R sz m b xs :: cs) :=
  Sat.mono1 (fun _ h => ⟨hl, h⟩) h
theorem oar.ofPts {κ : Ki} {e : TypeId} {b : Nat} {cur : Array Value} (m : Nat) (x0 : κ.T) (z : List Value) (hc : cur.toList = (List.replicate m z).flatten) (hz : Nat.beq z.length κ.sz = true) (hr : r0 κ z x0) (hm : Nat.ble m maxLen = true)
    (h : Sat w B (pts b (.cells cur e (0, 0)) :: cs)) : Sat w B (oar e (r0 κ) κ.sz m b (List.replicate m x0) :: cs) := by
  refine oar.cl (by simp) ?_
  have hz' := beq_of hz
  have hrd : rdL (r0 κ) κ.sz cur.toList (List.replicate m x0) := ⟨List.replicate m z, hc, by simp, fun c hc => by rw [(List.mem_replicate.1 hc).2, hz'], fun j c x hc hx => by
    rw [List.getElem?_replicate] at hc hx
    split at hc
    · rename_i hj; rw [if_pos hj] at hx; cases hc; cases hx; exact hr
    · cases hc⟩
  have := Sat.toOsl [] cs (xs := List.replicate m x0) κ.sz (by simpa using h) (by simpa [Nat.ble_eq] using hm) hrd
  simpa using this
theorem Sat.oarAt {α : Type} (j : Nat) {e : TypeId} {R : List Value → α → Prop} {sz m b : Nat} {xs : List α} (h : Sat w B cs) (hj : cs[j]? = some (oar e R sz m b xs)) : Gol.rdS R sz (hp w) (some ⟨b, 0, none⟩) m xs ∧ xs.length = m := by
  obtain ⟨K, hK, _, hk⟩ := Sat.read _ _ (split_at hj ▸ h)
  exact ⟨(osl.read hk.2).mono hK (fun _ _ h => h), hk.1⟩
theorem PSt.idxArr {α : Type} {t e : TypeId} {sz m : Nat} (x ix : Operand) (hop : (opAt ops i).op = .indexAddr t x ix) (hrd : ready n ops L i = true) (hu : P.underlying t = some (.array m e)) (hsz : (P.info? e).map (·.size) = some sz) (hm : Nat.ble 2 m = true)
    {b : Nat} {xs : List α} {k : IntKind} {j : Int} {v : α} (hx : rho L x = .pointer (some ⟨b, 0, none⟩)) (hi : rho L ix = .int k j) (hl : xs.length = m) (hv : at? xs j = some v)
    (hh : M (.pointer (some (adr (some ⟨b, 0, none⟩) j.toNat sz)))) : PSt P n ops L i M := by
  obtain ⟨h0, _, h2, h3⟩ := at?_some hv
  refine ⟨hrd, _, fun w' => ?_, hh⟩
  simp only [execOp, hop, hx, hi]
  cases hq : P.info? e with
  | none => simp [hq] at hsz
  | some q =>
    have hq' : q.size = sz := by simpa [hq] using hsz
    have hm' : 2 ≤ m := by simpa [Nat.ble_eq] using hm
    have h4 : j < (m : Int) := by omega
    simp [Instr.indexAt, asIntOf, run_underlying hu, Instr.sureAddr, h0, h4, sizeOf, typeInfo, hq, hq', adr]
end
end Go.Gol
