/-
  Elements taken out of the middle of a slice of one's own: what is cut, laid in place, wiped behind the end. My own text.
-/
import Derived.Test.YtbcdcpkofgfofaaGR
set_option linter.unusedVariables false
set_option linter.unusedSimpArgs false
namespace Go.Gol
open Go
section
variable {P : Program} {n : Nat} {ops : Array Oper} {L : SL} {w : World} {i : Nat} {K : Value → World → Prop} {M : Value → Prop} {B : Rf} {cs : List HP}
theorem Sat.sel2 {a b : HP} (h : Sat w B (a :: b :: cs)) : Sat w B (b :: a :: cs) := by
  have := Sat.front [a] cs (c := b) (by simpa using h)
  simpa using this
/-- a part of a slice, as the machine tells it -/
theorem PSt.cut {t e : TypeId} {sz bytes : Nat} (x : Operand) (lo hi mx : Option Operand) (hop : (opAt ops i).op = .slice t x lo hi mx) (hrd : ready n ops L i = true) (hE : ElemInfo P t e sz bytes)
    {A : Option Addr} {m c l h mm : Nat} {lv hv mv : Option Value} (hx : rho L x = .slice A m c) (hl : lo.map (rho L) = lv) (hhi : hi.map (rho L) = hv) (hm : mx.map (rho L) = mv) (hb : ∀ w, (Instr.sliceBounds true m c lv hv mv).run P w = .ok (l, h, mm) w)
    (hh : M (.slice (if mm = l then A else A.map (·.add (l * sz))) (h - l) (mm - l))) : PSt P n ops L i M := by
  refine ⟨hrd, _, fun w' => ?_, hh⟩
  simp only [execOp, hop, hx]
  subst hl hhi hm
  simp [run_sliceAt hE _ _ _ (hb w')]
theorem bounds_none_some {k : IntKind} {m c : Nat} {j : Int} (h0 : 0 ≤ j) (h1 : j ≤ (c : Int)) (w : World) : (Instr.sliceBounds true m c none (some (.int k j)) none).run P w = .ok (0, j.toNat, c) w := by
  simp [Instr.sliceBounds, run_sliceBound h0 h1]
theorem bounds_some_none {k : IntKind} {m c : Nat} {j : Int} (h0 : 0 ≤ j) (h1 : j ≤ (m : Int)) (w : World) : (Instr.sliceBounds true m c (some (.int k j)) none none).run P w = .ok (j.toNat, m, c) w := by
  simp [Instr.sliceBounds, run_sliceBound h0 h1]
theorem bounds_some_some {k k2 : IntKind} {m c : Nat} {j j2 : Int} (h0 : 0 ≤ j) (h1 : j ≤ j2) (h2 : j2 ≤ (c : Int)) (w : World) : (Instr.sliceBounds true m c (some (.int k j)) (some (.int k2 j2)) none).run P w = .ok (j.toNat, j2.toNat, c) w := by
  simp [Instr.sliceBounds, run_sliceBound (show 0 ≤ j2 by omega) h2, run_sliceBound (y := j2.toNat) h0 (by omega)]
theorem bounds_all {k k2 k3 : IntKind} {m c : Nat} {j j2 j3 : Int} (h0 : 0 ≤ j) (h1 : j ≤ j2) (h2 : j2 ≤ j3) (h3 : j3 ≤ (c : Int)) (w : World) : (Instr.sliceBounds true m c (some (.int k j)) (some (.int k2 j2)) (some (.int k3 j3))).run P w = .ok (j.toNat, j2.toNat, j3.toNat) w := by
  simp [Instr.sliceBounds, run_sliceBound (show 0 ≤ j3 by omega) h3, run_sliceBound (y := j3.toNat) (show 0 ≤ j2 by omega) (by omega), run_sliceBound (y := j2.toNat) h0 (by omega)]
theorem addr_zero (a : Addr) : a.add 0 = a := by unfold Addr.add; simp
theorem map_zero (A : Option Addr) (sz : Nat) : A.map (·.add (0 * sz)) = A := by cases A <;> simp [addr_zero]
/-- append where there is room: the slice stays where it is -/
theorem St.appendIn {α : Type} {t e : TypeId} {sz bytes : Nat} (s x : Operand) (hop : (opAt ops i).op = .call { callee := .builtin .append, args := #[s, x], argTypes := #[t, t] }) (hrd : ready n ops L i = true) (hE : ElemInfo P t e sz bytes)
    {R : List Value → α → Prop} (hR1 : ∀ c x, R c x → ∀ v ∈ c, v.oneCell' = true) {g off c c2 : Nat} {A2 : Option Addr} {xs ys : List α} (hS : Sat w B (osl e R sz (some ⟨g, off, none⟩) c xs :: cs)) (hs : rho L s = .slice (some ⟨g, off, none⟩) xs.length c) (hx : rho L x = .slice A2 ys.length c2) (hr : rdS R sz (hp w) A2 c2 ys)
    (hroom : xs.length + ys.length ≤ c) (hh : ∀ w', Sat w' B (osl e R sz (some ⟨g, off, none⟩) c (xs ++ ys) :: cs) → K (.slice (some ⟨g, off, none⟩) (xs ++ ys).length c) w') : St P n ops L i w K := by
  obtain ⟨news, hnr, hnews⟩ := rdS.first (P := P) hr
  have hone : ∀ u ∈ news, u.oneCell' = true := by
    intro u hu
    obtain ⟨css, rfl, hcl, hcs, hcr⟩ := hnr
    obtain ⟨cc, hcc, hvc⟩ := List.mem_flatten.1 hu
    obtain ⟨j, hj, rfl⟩ := List.getElem_of_mem hcc
    exact hR1 _ _ (hcr j _ _ (List.getElem?_eq_getElem hj) (List.getElem?_eq_getElem (hcl ▸ hj))) u hvc
  have hn0 := hnews w.drawn
  have hd0 : ({ w with drawn := w.drawn } : World) = w := rfl
  rw [hd0] at hn0
  obtain ⟨M0, hM, _, hm⟩ := Sat.read [] cs hS
  obtain ⟨h1, h2, g', off', cur, ea, hg, ho, hrr⟩ := hm
  simp only [Option.some.injEq, Addr.mk.injEq] at ea
  obtain ⟨rfl, rfl, _⟩ := ea
  have hgw : w.heap[g]? = some (.cells cur e (0, 0)) := hM g _ hg
  have hm1 : (xs.length + ys.length) * sz ≤ c * sz := Nat.mul_le_mul_right _ hroom
  rw [Nat.add_mul] at hm1
  have hfit : off + xs.length * sz + news.length ≤ cur.size := by rw [hnr.len]; omega
  have hrun := run_append_at (ty := (opAt ops i).type) hE (off := off) (m := xs.length) (c := c) hgw (.slice A2 ys.length c2) news (by simp [Builtin.lenOf]) hnr.len hn0 hone hroom hfit t (.inl ⟨_, hE.und⟩)
  have hzl : (xs ++ ys).length = xs.length + ys.length := by simp
  refine St.val hrd (v := .slice (some ⟨g, off, none⟩) (xs ++ ys).length c) (w' := w.setRow g (cur.toList.take (off + xs.length * sz) ++ news ++ cur.toList.drop (off + xs.length * sz + news.length)).toArray) ?_ (hh _ ?_)
  · simp only [execOp, hop, resolve, invoke, builtin, Sem.run_bind, Sem.run_pure, Result.andThen_ok, List.map_toArray, List.map_cons, List.map_nil, hs, hx, hzl]
    rw [hrun]; rfl
  · refine Sat.upd [] cs (cs := [osl e R sz (some ⟨g, off, none⟩) c xs]) (cs' := [osl e R sz (some ⟨g, off, none⟩) c (xs ++ ys)]) hS ⟨rfl, rfl, rfl⟩ (fun H1 _ hH1 hc => ?_)
    obtain ⟨J1, J2, _, hJ1, _, hc1, _⟩ := hc
    obtain ⟨_, _, g', off', cur', ee, hg', _, _⟩ := hc1
    simp only [Option.some.injEq, Addr.mk.injEq] at ee
    obtain ⟨rfl, rfl, _⟩ := ee
    have hgd : H1 g = some (.cells cur' e (0, 0)) := hJ1 g _ hg'
    refine ⟨one g (.cells (cur.toList.take (off + xs.length * sz) ++ news ++ cur.toList.drop (off + xs.length * sz + news.length)).toArray e (0, 0)), SepL.one ?_, ?_, ?_, ?_⟩
    · refine ⟨by rw [hzl]; exact hroom, h2, g, off, _, rfl, one_self _ _, ?_, ?_⟩
      · simp; omega
      · have hA : (cur.toList.drop off).take (xs.length * sz) ++ news = ((List.take (off + xs.length * sz) cur.toList ++ news ++ List.drop (off + xs.length * sz + news.length) cur.toList).toArray.toList.drop off).take ((xs ++ ys).length * sz) := by
          have e1 : ((cur.toList.drop off).take (xs.length * sz)).length = xs.length * sz := by rw [hrr.len]
          have e2 : List.drop off (List.take (off + xs.length * sz) cur.toList) = (cur.toList.drop off).take (xs.length * sz) := by
            rw [List.drop_take, Nat.add_sub_cancel_left]
          have e3 : off ≤ (List.take (off + xs.length * sz) cur.toList).length := by simp; omega
          simp only []
          rw [List.append_assoc, List.drop_append_of_le_length e3, e2, ← List.append_assoc]
          rw [hzl, Nat.add_mul, ← hnr.len]
          have e4 : xs.length * sz + news.length = ((cur.toList.drop off).take (xs.length * sz) ++ news).length := by rw [List.length_append, e1]
          rw [e4, List.take_left]
        rw [← hA]
        exact hrr.append hnr
    · intro b o hb; obtain ⟨rfl, rfl⟩ := one_inv hb; exact hp_setRow hgw
    · intro b o hb; obtain ⟨rfl, rfl⟩ := one_inv hb; left; rw [hgd]; exact fun h => by cases h
    · intro b o hb hnone
      rw [hp_setRow_ne]
      · exact hb
      · rintro rfl; rw [hgd] at hnone; cases hnone
/-- what lies behind the end of a slice is wiped: the slice reads as it did -/
theorem St.clearTail {α : Type} {t e : TypeId} {sz bytes : Nat} (x : Operand) (hop : (opAt ops i).op = .call { callee := .builtin .clear, args := #[x], argTypes := #[t] }) (hrd : ready n ops L i = true) (hE : ElemInfo P t e sz bytes) (hz1 : ∀ inf z, P.info? e = some inf → inf.zero = some z → ∀ v ∈ z.cells.toList, v.oneCell' = true)
    {R : List Value → α → Prop} {g off c k m c' : Nat} {xs : List α} (hS : Sat w B (osl e R sz (some ⟨g, off, none⟩) c xs :: cs)) (hx : rho L x = .slice (some ⟨g, off + k * sz, none⟩) (m + 1) c') (hk : xs.length ≤ k) (hkm : k + (m + 1) ≤ c)
    (hh : ∀ w', Sat w' B (osl e R sz (some ⟨g, off, none⟩) c xs :: cs) → K (.tuple #[]) w') : St P n ops L i w K := by
  obtain ⟨M0, hM, _, hm⟩ := Sat.read [] cs hS
  obtain ⟨h1, h2, g', off', cur, ea, hg, ho, hrr⟩ := hm
  simp only [Option.some.injEq, Addr.mk.injEq] at ea
  obtain ⟨rfl, rfl, _⟩ := ea
  have hgw : w.heap[g]? = some (.cells cur e (0, 0)) := hM g _ hg
  obtain ⟨hu, inf, z, hi, hzz, hsz, hb, hc⟩ := hE
  have hfit : off + k * sz + 0 + (Builtin.zeroCells z.cells (m + 1)).toList.length ≤ cur.size := by
    rw [Array.length_toList, size_zeroCells, hc]
    have : (k + (m + 1)) * sz ≤ c * sz := Nat.mul_le_mul_right _ hkm
    rw [Nat.add_mul] at this; omega
  have hone : ∀ v ∈ (Builtin.zeroCells z.cells (m + 1)).toList, v.oneCell' = true := by
    intro v hv
    unfold Builtin.zeroCells at hv
    have : v ∈ z.cells.toList := by
      simp at hv
      obtain ⟨j, hj, hv⟩ := hv
      have hpos : 0 < z.cells.size := by
        rcases Nat.eq_zero_or_pos z.cells.size with h0 | h0
        · rw [h0] at hj; omega
        · exact h0
      have hlt : j % z.cells.size < z.cells.size := Nat.mod_lt _ hpos
      rw [getElem!_pos z.cells (j % z.cells.size) hlt] at hv
      rw [← hv]; simp
    exact hz1 _ _ hi hzz v this
  have hst := run_storeCells_at P g (off + k * sz) e (Builtin.zeroCells z.cells (m + 1)).toList 0 cur w hgw hfit hone
  refine St.val hrd (v := .tuple #[]) (w' := w.setRow g (cur.toList.take (off + k * sz + 0) ++ (Builtin.zeroCells z.cells (m + 1)).toList ++ cur.toList.drop (off + k * sz + 0 + (Builtin.zeroCells z.cells (m + 1)).toList.length)).toArray) ?_ (hh _ ?_)
  · simp only [execOp, hop, resolve, invoke, builtin, Sem.run_bind, Sem.run_pure, Result.andThen_ok, List.map_toArray, List.map_cons, List.map_nil, hx]
    simp [Builtin.clear_, run_underlying hu, zeroValue, typeInfo, hi, hzz, hst, Result.andThen]
  · refine Sat.upd [] cs (cs := [osl e R sz (some ⟨g, off, none⟩) c xs]) (cs' := [osl e R sz (some ⟨g, off, none⟩) c xs]) hS ⟨rfl, rfl, rfl⟩ (fun H1 _ hH1 hc' => ?_)
    obtain ⟨J1, J2, _, hJ1, _, hc1, _⟩ := hc'
    obtain ⟨_, _, g', off', cur', ee, hg', _, _⟩ := hc1
    simp only [Option.some.injEq, Addr.mk.injEq] at ee
    obtain ⟨rfl, rfl, _⟩ := ee
    have hgd : H1 g = some (.cells cur' e (0, 0)) := hJ1 g _ hg'
    refine ⟨one g (.cells (cur.toList.take (off + k * sz + 0) ++ (Builtin.zeroCells z.cells (m + 1)).toList ++ cur.toList.drop (off + k * sz + 0 + (Builtin.zeroCells z.cells (m + 1)).toList.length)).toArray e (0, 0)), SepL.one ?_, ?_, ?_, ?_⟩
    · refine ⟨h1, h2, g, off, _, rfl, one_self _ _, ?_, ?_⟩
      · simp only [List.size_toArray, List.length_append, List.length_take, List.length_drop, Array.length_toList] at hfit ⊢; omega
      · have hle : xs.length * sz ≤ k * sz := Nat.mul_le_mul_right _ hk
        have hA : ((List.take (off + k * sz + 0) cur.toList ++ (Builtin.zeroCells z.cells (m + 1)).toList ++ List.drop (off + k * sz + 0 + (Builtin.zeroCells z.cells (m + 1)).toList.length) cur.toList).toArray.toList.drop off).take (xs.length * sz) = (cur.toList.drop off).take (xs.length * sz) := by
          have hfit' := hfit
          simp only [Array.length_toList] at hfit'
          have e3 : off ≤ (List.take (off + k * sz + 0) cur.toList).length := by simp; omega
          simp only []
          rw [List.append_assoc, List.drop_append_of_le_length e3, List.take_append_of_le_length (by simp; omega), Nat.add_zero, List.drop_take, Nat.add_sub_cancel_left, List.take_take, Nat.min_eq_left hle]
        rw [hA]; exact hrr
    · intro b o hb; obtain ⟨rfl, rfl⟩ := one_inv hb; exact hp_setRow hgw
    · intro b o hb; obtain ⟨rfl, rfl⟩ := one_inv hb; left; rw [hgd]; exact fun h => by cases h
    · intro b o hb hnone
      rw [hp_setRow_ne]
      · exact hb
      · rintro rfl; rw [hgd] at hnone; cases hnone
/-- an object out of a row of pointers -/
theorem Sat.focusP {α : Type} {O : Nat → α → HP} {e : TypeId} {sz : Nat} {A : Option Addr} {c : Nat} {css : List (List Value)} {xs : List (Option α)} {Kn : Heap} (hC : orc e (Ept O) sz A c css xs Kn) (h : Sat w B (gh Kn :: cs))
    {k b : Nat} {y : α} (hc : css[k]? = some [.pointer (some ⟨b, 0, none⟩)]) (hx : xs[k]? = some (some y)) : Sat w B (orh e (Ept O) sz A c css k xs :: O b y :: cs) := by
  have h1 := Sat.focus hC h hc hx
  have h2 : Sat w B (Ept O [.pointer (some ⟨b, 0, none⟩)] (some y) :: orh e (Ept O) sz A c css k xs :: cs) := h1.sel2
  have h3 : Sat w B (O b y :: orh e (Ept O) sz A c css k xs :: cs) := h2.mono1 (fun H hh => by
    obtain ⟨v, e1, hh⟩ := hh
    obtain ⟨b', e2, hh⟩ := hh
    simp only [List.cons.injEq, and_true] at e1
    rw [← e1] at e2
    simp only [Value.pointer.injEq, Option.some.injEq, Addr.mk.injEq, and_true] at e2
    rw [e2]; exact hh)
  exact h3.sel2
theorem Sat.fillP {α : Type} {O : Nat → α → HP} {e : TypeId} {sz : Nat} {A : Option Addr} {c : Nat} {css : List (List Value)} {xs : List (Option α)} {k b : Nat} {y : α}
    (h : Sat w B (orh e (Ept O) sz A c css k xs :: O b y :: cs)) (hc : css[k]? = some [.pointer (some ⟨b, 0, none⟩)]) : Sat w B (orw e (Ept O) sz A c (xs.set k (some y)) :: cs) := by
  have h2 : Sat w B (O b y :: orh e (Ept O) sz A c css k xs :: cs) := h.sel2
  have h3 : Sat w B (Ept O [.pointer (some ⟨b, 0, none⟩)] (some y) :: orh e (Ept O) sz A c css k xs :: cs) := h2.mono1 (fun H hh => ⟨_, rfl, b, rfl, hh⟩)
  exact Sat.fill h3.sel2 hc
/-- a whole variable that is a struct is read -/
theorem RSt.loadAll {t : TypeId} (x : Operand) (hop : (opAt ops i).op = .load t x) (hrd : ready n ops L i = true) (hagg : (isAgg t).run P w = .ok true w) (j : Nat) {b : Nat} {vs : List Value} {e : TypeId} {fr : Nat × Nat} (hsz : (sizeOf t).run P w = .ok vs.length w)
    (hS : Sat w B cs) (hj : cs[j]? = some (pts b (.cells vs.toArray e fr))) (hx : rho L x = .pointer (some ⟨b, 0, none⟩)) (hh : M (.agg vs.toArray)) : RSt P n ops L i w M := by
  refine ⟨hrd, .agg vs.toArray, ?_, hh⟩
  have hc : ∀ k v, vs[k]? = some v → w.cell? ((⟨b, 0, none⟩ : Addr).add k) = some v := fun k v hv => by
    rw [addr_add, Nat.zero_add]
    exact Sat.cellAt j k hS hj (by simpa using hv)
  simp only [execOp, hop, hx]
  simp [Instr.loadAt, Instr.sureAddr, run_loadAgg hagg hsz hc]
/-! ### rows of rows of numbers as one variable -/
theorem PSt.idxArr1 {t e : TypeId} {sz m : Nat} (x ix : Operand) (hop : (opAt ops i).op = .indexAddr t x ix) (hrd : ready n ops L i = true) (hu : P.underlying t = some (.array m e)) (hsz : (P.info? e).map (·.size) = some sz) (hm : Nat.ble 2 m = true)
    {b : Nat} {k : IntKind} {j : Int} (hx : rho L x = .pointer (some ⟨b, 0, none⟩)) (hi : rho L ix = .int k j) {u : Unit} (hv : chk? (decide (0 ≤ j) && decide (j < (m : Int))) = some u)
    (hh : M (.pointer (some (adr (some ⟨b, 0, none⟩) j.toNat sz)))) : PSt P n ops L i M := by
  have h := chk?_some hv
  simp only [Bool.and_eq_true, decide_eq_true_eq] at h
  refine ⟨hrd, _, fun w' => ?_, hh⟩
  simp only [execOp, hop, hx, hi]
  cases hq : P.info? e with
  | none => simp [hq] at hsz
  | some q =>
    have hq' : q.size = sz := by simpa [hq] using hsz
    have hm' : 2 ≤ m := by simpa [Nat.ble_eq] using hm
    simp [Instr.indexAt, asIntOf, run_underlying hu, Instr.sureAddr, h.1, h.2, sizeOf, typeInfo, hq, hq', adr]
theorem chk_ge {j : Int} {p : Bool} {u : Unit} (h : chk? (decide (0 ≤ j) && p) = some u) : 0 ≤ j := by
  have := chk?_some h
  simp only [Bool.and_eq_true, decide_eq_true_eq] at this
  exact this.1
theorem PSt.idxArr2 {α : Type} {t e : TypeId} {m : Nat} (x ix : Operand) (hop : (opAt ops i).op = .indexAddr t x ix) (hrd : ready n ops L i = true) (hu : P.underlying t = some (.array m e)) (hsz : (P.info? e).map (·.size) = some 1) (hm : Nat.ble 2 m = true)
    {b : Nat} {xs : List α} {k : IntKind} {j0 j : Int} {v : α} (h0 : 0 ≤ j0) (hx : rho L x = .pointer (some (adr (some ⟨b, 0, none⟩) j0.toNat m))) (hi : rho L ix = .int k j) {u : Unit} (hv : chk? (decide (0 ≤ j) && decide (j < (m : Int))) = some u)
    (hh : M (.pointer (some (adr (some ⟨b, 0, none⟩) (j0 * m + j).toNat 1)))) : PSt P n ops L i M := by
  have h := chk?_some hv
  simp only [Bool.and_eq_true, decide_eq_true_eq] at h
  refine ⟨hrd, .pointer (some (adr (some ⟨b, 0, none⟩) (j0 * m + j).toNat 1)), fun w' => ?_, hh⟩
  simp only [execOp, hop, hx, hi]
  cases hq : P.info? e with
  | none => simp [hq] at hsz
  | some q =>
    have hq' : q.size = 1 := by simpa [hq] using hsz
    have hm' : 2 ≤ m := by simpa [Nat.ble_eq] using hm
    have e1 : (adr (some (⟨b, 0, none⟩ : Addr)) j0.toNat m).add j.toNat = adr (some ⟨b, 0, none⟩) (j0 * m + j).toNat 1 := by
      obtain ⟨a, rfl⟩ : ∃ a : Nat, j0 = (a : Int) := ⟨j0.toNat, by omega⟩
      obtain ⟨c, rfl⟩ : ∃ c : Nat, j = (c : Int) := ⟨j.toNat, by omega⟩
      have e2 : ((a : Int) * m + c).toNat = a * m + c := by
        have : ((a : Int) * m + c) = ((a * m + c : Nat) : Int) := by push_cast; rfl
        rw [this, Int.toNat_natCast]
      rw [e2]
      simp [adr, addr_add]
    simp [Instr.indexAt, asIntOf, run_underlying hu, Instr.sureAddr, h.1, h.2, sizeOf, typeInfo, hq, hq', e1]
end
end Go.Gol
