/-
  More operations as steps; facts of memory for walks.
-/
import Derived.Test.YtoonceaeaigkpaaGE
import Derived.Below
set_option linter.unusedVariables false
set_option linter.unusedSimpArgs false
namespace Go.Gol
open Go

abbrev Em : Heap := fun _ => none
theorem Sub.em (H : Heap) : Sub Em H := fun _ _ h => by cases h
abbrev r0 (κ : Ki) : List Value → κ.T → Prop := rd Em κ
theorem r0_one (κ : Ki) : ∀ c x, r0 κ c x → ∀ v ∈ c, v.oneCell' = true := fun c x h => rd_one κ c x h
theorem r0_up {κ : Ki} (H : Heap) {c : List Value} {x : κ.T} (h : r0 κ c x) : rd H κ c x := rd.mono (Sub.em H) κ c x h

section
variable {P : Program} {n : Nat} {ops : Array Oper} {L : SL} {w : World} {i : Nat} {K : Value → World → Prop}

/-- a slice of one's own, as it reads now -/
theorem Sat.rdS {α : Type} {H0 : Rf} (as bs : List HP) {e : TypeId} {R : List Value → α → Prop} {sz : Nat} {A : Option Addr} {c : Nat} {xs : List α} (h : Sat w H0 (as ++ [osl e R sz A c xs] ++ bs)) : Gol.rdS R sz (hp w) A c xs := by
  obtain ⟨K, hK, _, hk⟩ := Sat.read as bs h
  exact (osl.read hk).mono hK (fun _ _ h => h)
theorem rdS.up {α : Type} {H K : Heap} {R : List Value → α → Prop} {sz : Nat} {A : Option Addr} {c : Nat} {xs : List α} (h : rdS R sz H A c xs) (hs : Sub H K) : rdS R sz K A c xs := h.mono hs (fun _ _ h => h)
theorem rdS.upd {κ : Ki} {H K : Heap} {sz : Nat} {A : Option Addr} {c : Nat} {xs : List κ.T} (h : rdS (rd H κ) sz H A c xs) (hs : Sub H K) : rdS (rd K κ) sz K A c xs := h.mono hs (fun c x h => rd.mono hs κ c x h)
theorem rdS.r0up {κ : Ki} {H K : Heap} {sz : Nat} {A : Option Addr} {c : Nat} {xs : List κ.T} (h : rdS (r0 κ) sz H A c xs) : rdS (rd K κ) sz H A c xs := h.mono (Sub.refl _) (fun _ _ h => r0_up K h)
theorem Sat.ext {w' : World} {H0 : Rf} {fs cs : List HP} (h : Sat w H0 fs) (h' : Sat w' (rf w) cs) : Sat w' H0 (cs ++ fs) := by
  obtain ⟨hsame, A, hd, h0, h1, hs⟩ := h
  obtain ⟨hsame', B, hd', h0', h1', hs'⟩ := h'
  have h0'' : Sub (hp w) (hp w') := h0'
  have hd'' : Dis (hp w) B := hd'
  have dB0 : Dis H0.heap B := hd''.mono h0 (Sub.refl _)
  have dBA : Dis B A := (hd''.mono h1 (Sub.refl _)).symm
  refine ⟨hsame.step hsame', Un B A, (Dis.un dB0.symm hd.symm).symm, h0.trans h0'', h1'.un (h1.trans h0''), SepL.append dBA (Sub.unL _ _) (Sub.unR dBA) hs' hs⟩
theorem Sat.below {W : World} {cs : List HP} (h : Sat w (rf W) cs) : RowKit.Below W.heap.size W w := by
  obtain ⟨⟨h1, h2, h3⟩, _, _, hs, _⟩ := h
  have hs' : Sub (hp W) (hp w) := hs
  have hb : ∀ k, k < W.heap.size → w.heap[k]? = W.heap[k]? := fun k hk => by
    have e : hp W k = some W.heap[k] := by simp [hp, hk]
    have := hs' k _ e
    rw [show W.heap[k]? = some W.heap[k] by simp [hk]]
    exact this
  refine ⟨h1, h2, h3, ?_, hb⟩
  rcases Nat.eq_zero_or_pos W.heap.size with h0 | hpos
  · omega
  · have := hb (W.heap.size - 1) (by omega)
    have e : W.heap[W.heap.size - 1]? = some (W.heap[W.heap.size - 1]'(by omega)) := by simp
    rw [e] at this
    have := (Array.getElem?_eq_some_iff.1 this).1
    omega

/-! ### elements -/
theorem wrap_u64_nonneg (a : Int) : 0 ≤ IntKind.u64.wrap a := by
  unfold IntKind.wrap; simp only [IntKind.signed, Bool.false_and, Bool.false_eq_true, if_false]; exact Int.emod_nonneg _ (by simp [IntKind.bits])
theorem wrap_u32_nonneg (a : Int) : 0 ≤ IntKind.u32.wrap a := by
  unfold IntKind.wrap; simp only [IntKind.signed, Bool.false_and, Bool.false_eq_true, if_false]; exact Int.emod_nonneg _ (by simp [IntKind.bits])

/-! ### a slice and nil -/
theorem St.eqNil {t e : TypeId} (q : BinOp) (hq : q = .eql ∨ q = .neq) {t2 : TypeId} (x : Operand) (hop : (opAt ops i).op = .binOp q t x (.const (.slice none 0 0)) t2) (hrd : ready n ops L i = true) (hu : P.underlying t = some (.slice e))
    {A : Option Addr} {m c : Nat} (hx : rho L x = .slice A m c) (hh : K (.bool (if q = .eql then A.isNone else !A.isNone)) w) : St P n ops L i w K := by
  refine St.val hrd ?_ hh
  have hq' : (Op.equalIn Op.maxDepth t (.slice A m c) (.slice none 0 0)).run P w = .ok A.isNone w := by
    unfold Op.maxDepth
    unfold Op.equalIn
    cases A <;> simp [run_underlying hu]
  have hn : rho L (.const (.slice none 0 0)) = .slice none 0 0 := rfl
  rcases hq with rfl | rfl <;> simp [execOp, hop, hx, hn, eqGuard, binOp, Op.equal, hq']

/-! ### bytes as a string -/
theorem strOf_bs (xs : List Int) : strOfNums xs = bs xs := rfl
theorem run_toStr {src dst e : TypeId} (hs : P.underlying src = some (.slice e)) (he : P.underlying e = some (.int .u8)) (hd : P.underlying dst = some .string)
    {A : Option Addr} {c : Nat} {xs : List Int} (hr : rdS (r0 (.int .u8)) 1 (hp w) A c xs) : (convert src dst (.slice A xs.length c)).run P w = .ok (.string (bs xs)) w := by
  obtain ⟨h1, h2, h3⟩ := hr
  cases A with
  | none => simp only at h3; subst h3; rw [run_convert_bytes_nil w src e hs he _ _ dst hd]; rfl
  | some a =>
    by_cases hc0 : c = 0
    · have : xs = [] := List.eq_nil_of_length_eq_zero (by omega)
      subst this
      rw [run_convert_bytes_string w src dst e _ _ _ hs he hd]
      simp [Conv.bytesToString, loadCells, loadCellsFrom, bs]
      rfl
    obtain ⟨hsp, cells, E, fr, hb, ho, hrl⟩ := h3.resolve_left hc0
    obtain ⟨b, off, sp⟩ := a
    simp only at hsp hb ho hrl
    subst hsp
    rw [run_convert_bytes_arg w src e hs he b off _ c xs rfl ?_ dst hd, strOf_bs]
    intro j hj
    have hxj : xs[j]? = some (xs.getD j 0) := by simp [List.getD, hj]
    have hrs : rdS (r0 (.int .u8)) 1 (hp w) (some ⟨b, off, none⟩) c xs := ⟨h1, h2, .inr ⟨rfl, cells, E, fr, hb, ho, hrl⟩⟩
    obtain ⟨_, v, e1, hc⟩ := rdS.cell1 hrs hxj
    have e2 : [v] = [Value.int .u8 (xs.getD j 0)] := e1
    simp only [List.cons.injEq, and_true] at e2
    subst e2
    simpa [adr, addr_add] using hc

/-! ### stores -/
theorem run_storeVar1 {t : TypeId} {a : Addr} {v u : Value} (hsz : (sizeOf t).run P w = .ok 1 w) (h1 : v.oneCell' = true) (hc : w.cell? a = some u) (hf : w.frozen? a = false) : (storeVar t a v).run P w = .ok () (w.setCell a v) := by
  have hcells : v.cells = #[v] := by cases v <;> simp_all [Value.oneCell', Value.cells]
  simp only [storeVar, hcells]
  have : ∀ v : Value, v.oneCell' = true → (storeCells a [v]).run P w = .ok () (w.setCell a v) := by
    intro v hv
    cases v <;> simp [Value.oneCell'] at hv <;> simp [storeCells, store, Addr.add, Sem.run, hc, hf]
  simp [hsz, this v h1]
theorem cell_of_hp {g k : Nat} {cur : Array Value} {e : TypeId} {fr : Nat × Nat} (h : hp w g = some (.cells cur e fr)) : w.cell? ⟨g, k, none⟩ = cur[k]? := by
  have h' : w.heap[g]? = some (.cells cur e fr) := h
  simp [World.cell?, h']
theorem frozen_of_hp {g k : Nat} {cur : Array Value} {e : TypeId} (h : hp w g = some (.cells cur e (0, 0))) : w.frozen? ⟨g, k, none⟩ = false := by
  have h' : w.heap[g]? = some (.cells cur e (0, 0)) := h
  simp [World.frozen?, h']
theorem hp_setCell {g k : Nat} {cur : Array Value} {e : TypeId} {fr : Nat × Nat} (v : Value) (h : hp w g = some (.cells cur e fr)) : hp (w.setCell ⟨g, k, none⟩ v) g = some (.cells (cur.setIfInBounds k v) e fr) := by
  have h' : w.heap[g]? = some (.cells cur e fr) := h
  show (w.setCell ⟨g, k, none⟩ v).heap[g]? = _
  simp only [World.setCell, Array.getElem?_modify, if_true, h', Option.map_some]
  rfl
theorem hp_setCell_ne {g k b : Nat} (v : Value) (h : b ≠ g) : hp (w.setCell ⟨g, k, none⟩ v) b = hp w b := by
  show (w.setCell ⟨g, k, none⟩ v).heap[b]? = w.heap[b]?
  simp only [World.setCell, Array.getElem?_modify]
  rw [if_neg (Ne.symm h)]
/-- a cell of a block that is held -/
theorem Sat.cell {H0 : Rf} (as bs : List HP) {b k : Nat} {cur : Array Value} {e : TypeId} {fr : Nat × Nat} {v : Value} (h : Sat w H0 (as ++ [pts b (.cells cur e fr)] ++ bs)) (hv : cur[k]? = some v) : w.cell? ⟨b, k, none⟩ = some v := by
  obtain ⟨M, hM, _, hm⟩ := Sat.read as bs h
  rw [cell_of_hp (hM b _ hm), hv]
theorem Sat.setCell {H0 : Rf} (as bs : List HP) {b k : Nat} {cur : Array Value} {e : TypeId} {fr : Nat × Nat} (v : Value) (h : Sat w H0 (as ++ [pts b (.cells cur e fr)] ++ bs)) :
    Sat (w.setCell ⟨b, k, none⟩ v) H0 (as ++ [pts b (.cells (cur.setIfInBounds k v) e fr)] ++ bs) := by
  refine Sat.upd as bs h ⟨rfl, rfl, rfl⟩ (fun H1 _ hH1 hc => ?_)
  obtain ⟨J1, J2, _, hJ1, _, hc1, _⟩ := hc
  have hb : H1 b = some (.cells cur e fr) := hJ1 b _ hc1
  refine ⟨one b (.cells (cur.setIfInBounds k v) e fr), SepL.one (one_self _ _), ?_, ?_, ?_⟩
  · intro x o hx; obtain ⟨rfl, rfl⟩ := one_inv hx; exact hp_setCell v (hH1 _ _ hb)
  · intro x o hx; obtain ⟨rfl, rfl⟩ := one_inv hx; left; rw [hb]; exact fun h => by cases h
  · intro x o hx hn; rw [hp_setCell_ne]; · exact hx
    · rintro rfl; rw [hb] at hn; cases hn
theorem St.storeCell {t : TypeId} (a x : Operand) (hop : (opAt ops i).op = .store t a x) (hrd : ready n ops L i = true) (hsz : (sizeOf t).run P w = .ok 1 w) {H0 : Rf} (as bs : List HP) {b k : Nat} {cur : Array Value} {e : TypeId} {u v : Value}
    (hS : Sat w H0 (as ++ [pts b (.cells cur e (0, 0))] ++ bs)) (ha : rho L a = .pointer (some ⟨b, k, none⟩)) (hx : rho L x = v) (h1 : v.oneCell' = true) (hu : cur[k]? = some u)
    (hh : ∀ w', Sat w' H0 (as ++ [pts b (.cells (cur.setIfInBounds k v) e (0, 0))] ++ bs) → K undef w') : St P n ops L i w K := by
  obtain ⟨M, hM, _, hm⟩ := Sat.read as bs hS
  have hc := Sat.cell as bs hS hu
  have hf := frozen_of_hp (k := k) (hM b _ hm)
  refine St.skp hrd ?_ (hh _ (Sat.setCell as bs v hS))
  simp only [execOp, hop, ha, hx]
  simp [Instr.storeAt, Instr.sureAddr, run_storeVar1 hsz h1 hc hf]
/-- an element of one cell is laid -/
theorem Sat.setElem {α : Type} {H0 : Rf} (as bs : List HP) {e : TypeId} {R : List Value → α → Prop} {A : Option Addr} {c : Nat} {xs ys : List α} {j : Int} {v : α} {u : Value}
    (h : Sat w H0 (as ++ [osl e R 1 A c xs] ++ bs)) (hv : set? xs j v = some ys) (hR : R [u] v) :
    ∃ p, w.cell? (adr A j.toNat 1) = some p ∧ w.frozen? (adr A j.toNat 1) = false ∧ Sat (w.setCell (adr A j.toNat 1) u) H0 (as ++ [osl e R 1 A c ys] ++ bs) := by
  obtain ⟨h0, hj, rfl⟩ := set?_some hv
  obtain ⟨M, hM, _, hm⟩ := Sat.read as bs h
  have hx : xs[j.toNat]? = some xs[j.toNat] := List.getElem?_eq_getElem hj
  obtain ⟨_, p, _, hc⟩ := (Sat.rdS as bs h).cell1 hx
  obtain ⟨m1, m2, m3⟩ := hm
  cases A with
  | none => obtain ⟨rfl, _⟩ := m3; simp at hj
  | some a =>
    obtain ⟨g, off, cur, rfl, hg, ho, hr⟩ := m3
    have e1 : adr (some ⟨g, off, none⟩) j.toNat 1 = ⟨g, off + j.toNat, none⟩ := by simp [adr, addr_add]
    rw [e1] at hc ⊢
    refine ⟨p, hc, frozen_of_hp (hM g _ hg), ?_⟩
    refine Sat.upd as bs h ⟨rfl, rfl, rfl⟩ (fun H1 _ hH1 hc' => ?_)
    obtain ⟨J1, J2, _, hJ1, _, hc1, _⟩ := hc'
    obtain ⟨_, _, g', off', cur', ee, hg', _, _⟩ := hc1
    simp only [Option.some.injEq, Addr.mk.injEq] at ee
    obtain ⟨rfl, rfl, _⟩ := ee
    have hgd : H1 g = some (.cells cur' e (0, 0)) := hJ1 g _ hg'
    have hgc : hp w g = some (.cells cur' e (0, 0)) := hH1 _ _ hgd
    have : cur' = cur := by
      have h2 := hM g _ hg
      rw [hgc] at h2
      simpa using h2
    subst this
    refine ⟨one g (.cells (cur'.setIfInBounds (off + j.toNat) u) e (0, 0)), SepL.one ?_, ?_, ?_, ?_⟩
    · refine ⟨by simpa using m1, m2, g, off, _, rfl, one_self _ _, by simpa using ho, ?_⟩
      have hs := hr.set j.toNat hj (c := [u]) rfl hR
      have e2 : ((cur'.setIfInBounds (off + j.toNat) u).toList.drop off).take ((xs.set j.toNat v).length * 1) = ((cur'.toList.drop off).take (xs.length * 1)).take (j.toNat * 1) ++ [u] ++ ((cur'.toList.drop off).take (xs.length * 1)).drop ((j.toNat + 1) * 1) := by
        have hlen : xs.length ≤ (cur'.toList.drop off).length := by simp; omega
        simp only [Nat.mul_one, List.length_set]
        have e3 : (cur'.setIfInBounds (off + j.toNat) u).toList.drop off = (cur'.toList.drop off).set j.toNat u := by
          rw [Array.toList_setIfInBounds, List.drop_set, if_neg (by omega), Nat.add_sub_cancel_left]
        rw [e3, List.take_set]
        rw [List.set_eq_take_append_cons_drop, if_pos (by simp; simp at hlen; omega)]
        simp
      rw [e2]; exact hs
    · intro x o hx; obtain ⟨rfl, rfl⟩ := one_inv hx; exact hp_setCell u hgc
    · intro x o hx; obtain ⟨rfl, rfl⟩ := one_inv hx; left; rw [hgd]; exact fun h => by cases h
    · intro x o hx hn; rw [hp_setCell_ne]; · exact hx
      · rintro rfl; rw [hgd] at hn; cases hn
theorem St.storeElem {α : Type} {t : TypeId} (a x : Operand) (hop : (opAt ops i).op = .store t a x) (hrd : ready n ops L i = true) (hsz : (sizeOf t).run P w = .ok 1 w) {H0 : Rf} (as bs : List HP) {e : TypeId} {R : List Value → α → Prop} {A : Option Addr} {c : Nat} {xs ys : List α} {j : Int} {v : α} {u : Value}
    (hS : Sat w H0 (as ++ [osl e R 1 A c xs] ++ bs)) (ha : rho L a = .pointer (some (adr A j.toNat 1))) (hx : rho L x = u) (h1 : u.oneCell' = true) (hv : set? xs j v = some ys) (hR : R [u] v)
    (hh : ∀ w', Sat w' H0 (as ++ [osl e R 1 A c ys] ++ bs) → K undef w') : St P n ops L i w K := by
  obtain ⟨p, hc, hf, hS'⟩ := Sat.setElem as bs hS hv hR
  refine St.skp hrd ?_ (hh _ hS')
  simp only [execOp, hop, ha, hx]
  simp [Instr.storeAt, Instr.sureAddr, run_storeVar1 hsz h1 hc hf]

/-! ### blocks that are made of written-out cells -/
theorem osl_of_pts {α : Type} {e : TypeId} {R : List Value → α → Prop} {sz b : Nat} {cur : Array Value} {xs : List α} {H : Heap} (h : pts b (.cells cur e (0, 0)) H) (hl : xs.length ≤ maxLen) (hr : rdL R sz cur.toList xs) : osl e R sz (some ⟨b, 0, none⟩) xs.length xs H := by
  have h2 := hr.len
  refine ⟨Nat.le_refl _, hl, b, 0, cur, rfl, h, ?_, ?_⟩
  · simp at h2 ⊢; omega
  · rw [List.drop_zero, ← h2, List.take_length]; exact hr
theorem Sat.toOsl {α : Type} {H0 : Rf} (as bs : List HP) {e : TypeId} {R : List Value → α → Prop} (sz : Nat) {b : Nat} {cur : Array Value} (xs : List α) (h : Sat w H0 (as ++ [pts b (.cells cur e (0, 0))] ++ bs)) (hl : xs.length ≤ maxLen) (hr : rdL R sz cur.toList xs) :
    Sat w H0 (as ++ [osl e R sz (some ⟨b, 0, none⟩) xs.length xs] ++ bs) := by
  refine Sat.upd as bs h ⟨rfl, rfl, rfl⟩ (fun H1 _ hH1 hc => ⟨H1, ?_, hH1, (fun x o hx => .inl (by rw [hx]; exact fun h => by cases h)), fun x o hx _ => hx⟩)
  obtain ⟨J1, J2, _, hJ1, _, hc1, _⟩ := hc
  exact SepL.one (osl_of_pts (hJ1 b _ hc1) hl hr)
theorem rdL.cons1 {α : Type} {R : List Value → α → Prop} {u : Value} {vs : List Value} {x : α} {xs : List α} (h : R [u] x) (h' : rdL R 1 vs xs) : rdL R 1 (u :: vs) (x :: xs) := (rdL.single (v := [u]) rfl h).append h'
end
end Go.Gol
