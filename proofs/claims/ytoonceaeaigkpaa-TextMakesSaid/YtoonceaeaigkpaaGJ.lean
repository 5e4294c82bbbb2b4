/-
  Objects behind pointers: parts that are folded and unfolded, lent to a call, read and written cell by cell; copy. My own text.
-/
import Derived.Test.YtoonceaeaigkpaaGG
set_option linter.unusedVariables false
set_option linter.unusedSimpArgs false
namespace Go.Gol
open Go
section
variable {P : Program} {n : Nat} {ops : Array Oper} {L : SL} {w : World} {i : Nat} {K : Value → World → Prop} {M : Value → Prop} {B : Rf} {cs : List HP}
theorem Sat.mono1 {c c' : HP} (hc : ∀ H, c H → c' H) (h : Sat w B (c :: cs)) : Sat w B (c' :: cs) := by
  obtain ⟨hs, H1, hd, h0, h1, A, C, d, hA, hC, ha, hr⟩ := h
  exact ⟨hs, H1, hd, h0, h1, A, C, d, hA, hC, hc _ ha, hr⟩
theorem Sat.ex {α : Type} {P : α → HP} (h : Sat w B ((fun H => ∃ a, P a H) :: cs)) : ∃ a, Sat w B (P a :: cs) := by
  obtain ⟨hs, H1, hd, h0, h1, A, C, d, hA, hC, ⟨a, ha⟩, hr⟩ := h
  exact ⟨a, hs, H1, hd, h0, h1, A, C, d, hA, hC, ha, hr⟩
theorem Sat.op {as : List HP} (h : Sat w B (SepL as :: cs)) : Sat w B (as ++ cs) := by
  obtain ⟨hs, H1, hd, h0, h1, A, C, d, hA, hC, ha, hr⟩ := h
  exact ⟨hs, H1, hd, h0, h1, SepL.append d hA hC ha hr⟩
theorem Sat.cl (as : List HP) (h : Sat w B (as ++ cs)) : Sat w B (SepL as :: cs) := by
  obtain ⟨hs, H1, hd, h0, h1, hh⟩ := h
  obtain ⟨A, C, d, hA, hC, ha, hr⟩ := hh.split
  exact ⟨hs, H1, hd, h0, h1, A, C, d, hA, hC, ha, hr⟩
theorem Sat.pure1 {c : HP} {p : Prop} (hc : ∀ H, c H → p) (h : Sat w B (c :: cs)) : p := by
  obtain ⟨hs, H1, hd, h0, h1, A, C, d, hA, hC, ha, hr⟩ := h
  exact hc _ ha
/-- some parts are lent to a call; the others stay with what stays -/
theorem Sat.lend (os : List HP) {cs : List HP} (h : Sat w B (os ++ cs)) : ∃ B' : Rf, Sat w B' os ∧ Sub B.heap B'.heap ∧ SepL cs B'.heap ∧ ∀ w' os', Sat w' B' os' → Sat w' B (os' ++ cs) := by
  obtain ⟨hs, H1, hd, h0, h1, hh⟩ := h
  obtain ⟨A, C, d, hA, hC, ha, hr⟩ := hh.split
  have dBC : Dis B.heap C := hd.mono (Sub.refl _) hC
  have dBA : Dis B.heap A := hd.mono (Sub.refl _) hA
  refine ⟨⟨Un B.heap C, B.os, B.tape, B.output⟩, ⟨hs, A, Dis.un dBA d.symm, h0.un (hC.trans h1), hA.trans h1, ha⟩, Sub.unL _ _, hr.mono (Sub.unR dBC), ?_⟩
  rintro w' os' ⟨hs', X, hd', h0', h1', hx⟩
  have dX : Dis X C := (hd'.mono (Sub.unR dBC) (Sub.refl _)).symm
  have dBX : Dis B.heap X := hd'.mono (Sub.unL _ _) (Sub.refl _)
  exact ⟨hs', Un X C, (Dis.un dBX.symm dBC.symm).symm, (Sub.unL _ _).trans h0', h1'.un ((Sub.unR dBC).trans h0'), SepL.append dX (Sub.unL _ _) (Sub.unR dX) hx hr⟩
theorem SepL.rdAt {α : Type} {H : Heap} (j : Nat) {e : TypeId} {R : List Value → α → Prop} {sz : Nat} {A : Option Addr} {c : Nat} {xs : List α} (h : SepL cs H) (hj : cs[j]? = some (osl e R sz A c xs)) : rdS R sz H A c xs := by
  obtain ⟨K, hK, hk⟩ := SepL.readAt _ _ (split_at hj ▸ h)
  exact (osl.read hk).mono hK (fun _ _ h => h)
theorem Sat.cellAt (j k : Nat) {b : Nat} {cur : Array Value} {e : TypeId} {fr : Nat × Nat} {v : Value} (h : Sat w B cs) (hj : cs[j]? = some (pts b (.cells cur e fr))) (hv : cur[k]? = some v) : w.cell? ⟨b, k, none⟩ = some v :=
  Sat.cell _ _ (split_at hj ▸ h) hv
/-- a field is read -/
theorem RSt.loadObj {t : TypeId} (x : Operand) (hop : (opAt ops i).op = .load t x) (hrd : ready n ops L i = true) (hagg : (isAgg t).run P w = .ok false w) (j : Nat) {b k : Nat} {cur : Array Value} {e : TypeId} {fr : Nat × Nat} {v : Value}
    (hS : Sat w B cs) (hj : cs[j]? = some (pts b (.cells cur e fr))) (hx : rho L x = .pointer (some ⟨b, k, none⟩)) (hv : cur[k]? = some v) (hh : M v) : RSt P n ops L i w M :=
  RSt.load x _ hop hrd hagg hx (Sat.cellAt j k hS hj hv) hh
/-- a field is written -/
theorem St.storeObj {t : TypeId} (a x : Operand) (hop : (opAt ops i).op = .store t a x) (hrd : ready n ops L i = true) (hsz : (sizeOf t).run P w = .ok 1 w) {b k : Nat} {cur cur' : Array Value} {e : TypeId} {u v : Value}
    (hS : Sat w B (pts b (.cells cur e (0, 0)) :: cs)) (ha : rho L a = .pointer (some ⟨b, k, none⟩)) (hx : rho L x = v) (h1 : v.oneCell' = true) (hu : cur[k]? = some u) (hc : cur.setIfInBounds k v = cur')
    (hh : ∀ w', Sat w' B (pts b (.cells cur' e (0, 0)) :: cs) → K undef w') : St P n ops L i w K :=
  St.storeCell a x hop hrd hsz [] cs hS ha hx h1 hu (fun w' h => hh w' (hc ▸ h))

/-! ### a pointer that may be nil -/
def optP {α : Type} (O : Nat → α → HP) (v : Value) (x : Option α) : HP := fun H => match x with
  | none => v = .pointer none
  | some y => ∃ b, v = .pointer (some ⟨b, 0, none⟩) ∧ O b y H
theorem optP.some {α : Type} {O : Nat → α → HP} {v : Value} {x : Option α} {y : α} (h : Sat w B (optP O v x :: cs)) (e : x = some y) : ∃ b, v = .pointer (some ⟨b, 0, none⟩) ∧ Sat w B (O b y :: cs) := by
  subst e
  obtain ⟨hs, H1, hd, h0, h1, A, C, d, hA, hC, ⟨b, e, ha⟩, hr⟩ := h
  exact ⟨b, e, hs, H1, hd, h0, h1, A, C, d, hA, hC, ha, hr⟩
theorem optP.none {α : Type} {O : Nat → α → HP} {v : Value} {x : Option α} (h : Sat w B (optP O v x :: cs)) (e : x = none) : v = .pointer none := by
  subst e
  obtain ⟨hs, H1, hd, h0, h1, A, C, d, hA, hC, ha, hr⟩ := h
  exact ha
theorem optP.mk {α : Type} {O : Nat → α → HP} {b : Nat} {y : α} (h : Sat w B (O b y :: cs)) : Sat w B (optP O (.pointer (.some ⟨b, 0, .none⟩)) (.some y) :: cs) := h.mono1 (fun H h => ⟨b, rfl, h⟩)
theorem optP.nil {α : Type} {O : Nat → α → HP} (h : Sat w B cs) : Sat w B (optP O (.pointer .none) .none :: cs) := by
  obtain ⟨hs, H1, hd, h0, h1, hh⟩ := h
  exact ⟨hs, H1, hd, h0, h1, Em, H1, fun b => .inl rfl, Sub.em _, Sub.refl _, rfl, hh⟩

/-! ### copy -/
def cpy {α : Type} (xs ys : List α) : List α := ys.take (min ys.length xs.length) ++ xs.drop (min ys.length xs.length)
theorem cpy_len {α : Type} (xs ys : List α) : (cpy xs ys).length = xs.length := by simp [cpy]; omega
theorem St.copy {α : Type} {t t2 e : TypeId} (s x : Operand) (hop : (opAt ops i).op = .call { callee := .builtin .copy, args := #[s, x], argTypes := #[t, t2] }) (hrd : ready n ops L i = true) (hu : P.underlying t = some (.slice e)) (hsz : (P.info? e).map (·.size) = some 1)
    {bs : List HP} {e' : TypeId} {R : List Value → α → Prop} (hR1 : ∀ c x, R c x → ∀ v ∈ c, v.oneCell' = true)
    {A A2 : Option Addr} {c c2 : Nat} {xs ys : List α} (hS : Sat w B (osl e' R 1 A c xs :: bs)) (hs : rho L s = .slice A xs.length c) (hx : rho L x = .slice A2 ys.length c2) (hr : rdS R 1 (hp w) A2 c2 ys)
    (hh : ∀ w', Sat w' B (osl e' R 1 A c (cpy xs ys) :: bs) → K (.int .i64 ((min ys.length xs.length : Nat) : Int)) w') : St P n ops L i w K := by
  have hm : Nat.min ys.length xs.length = min ys.length xs.length := rfl
  by_cases h0 : min ys.length xs.length = 0
  · have hcp : cpy xs ys = xs := by simp [cpy, h0]
    refine St.val hrd (w' := w) ?_ (hh w (by rw [hcp]; exact hS))
    have hrun := run_copy_none (P := P) w t t2 (opAt ops i).type e A A2 xs.length c ys.length c2 hu hsz (by rw [hm]; exact h0)
    simp only [execOp, hop, resolve, invoke, builtin, Sem.run_bind, Sem.run_pure, Result.andThen_ok, List.map_toArray, List.map_cons, List.map_nil, hs, hx, hrun, h0]
    rfl
  · have hy : ys ≠ [] := by rintro rfl; simp at h0
    have hxn : xs ≠ [] := by rintro rfl; simp at h0
    obtain ⟨r1, r2, r3⟩ := hr
    obtain ⟨M0, hM, _, hm0⟩ := Sat.read [] bs hS
    obtain ⟨m1, m2, m3⟩ := hm0
    cases A2 with
    | none => exact absurd r3 hy
    | some a2 =>
    cases A with
    | none => exact absurd m3.1 hxn
    | some a =>
    obtain ⟨g, off, cur, rfl, hg, ho, hrl⟩ := m3
    have hgw : w.heap[g]? = some (.cells cur e' (0, 0)) := hM g _ hg
    obtain ⟨hsp, cells, E, fr, hb2, ho2, hr2⟩ := r3.resolve_left (by have := List.length_pos_iff.2 hy; omega)
    have hcsl : ((cells.toList.drop a2.off).take (ys.length * 1)).length = ys.length := by simpa using hr2.len
    have hone : ∀ v ∈ (cells.toList.drop a2.off).take (ys.length * 1), v.oneCell' = true := by
      intro u hu'
      obtain ⟨css, e1, hcl, hcs, hcr⟩ := hr2
      rw [e1] at hu'
      obtain ⟨cc, hcc, hvc⟩ := List.mem_flatten.1 hu'
      obtain ⟨j, hj, rfl⟩ := List.getElem_of_mem hcc
      exact hR1 _ _ (hcr j _ _ (List.getElem?_eq_getElem hj) (List.getElem?_eq_getElem (hcl ▸ hj))) u hvc
    let k := min ys.length xs.length
    let vs := ((cells.toList.drop a2.off).take (ys.length * 1)).take k
    have hk1 : k ≤ ys.length := Nat.min_le_left _ _
    have hk2 : k ≤ xs.length := Nat.min_le_right _ _
    have hvl : vs.length = k := by simp only [vs, List.length_take, hcsl]; omega
    have hrv : rdL R 1 vs (ys.take k) := by have := hr2.take k; simpa [vs] using this
    have hrun := run_copy_row (P := P) w t t2 (opAt ops i).type e g off xs.length c a2 ys.length c2 cur e' vs hu hsz hgw (by rw [hvl])
      (fun j v hj => by
        have hjk : j < k := by
          rw [← hvl]; rcases Nat.lt_or_ge j vs.length with h | h
          · exact h
          · rw [List.getElem?_eq_none h] at hj; cases hj
        rw [add_cell hsp hb2, ← hj]
        simp only [vs, List.getElem?_take, if_pos hjk, List.getElem?_drop, Nat.mul_one]
        rw [if_pos (by omega), Array.getElem?_toList])
      (by rw [hvl]; omega) (fun v hv => hone v (List.mem_of_mem_take hv))
    refine St.val hrd (w' := w.setRow g (cur.toList.take off ++ vs ++ cur.toList.drop (off + vs.length)).toArray) ?_ (hh _ ?_)
    · simp only [execOp, hop, resolve, invoke, builtin, Sem.run_bind, Sem.run_pure, Result.andThen_ok, List.map_toArray, List.map_cons, List.map_nil, hs, hx, hrun, hvl]
      rfl
    · refine Sat.upd [] bs (cs := [osl e' R 1 (some ⟨g, off, none⟩) c xs]) (cs' := [osl e' R 1 (some ⟨g, off, none⟩) c (cpy xs ys)]) hS ⟨rfl, rfl, rfl⟩ (fun H1 _ hH1 hc => ?_)
      obtain ⟨J1, J2, _, hJ1, _, hc1, _⟩ := hc
      obtain ⟨_, _, g', off', cur', ee, hg', _, _⟩ := hc1
      simp only [Option.some.injEq, Addr.mk.injEq] at ee
      obtain ⟨rfl, rfl, _⟩ := ee
      have hgd : H1 g = some (.cells cur' e' (0, 0)) := hJ1 g _ hg'
      refine ⟨one g (.cells (cur.toList.take off ++ vs ++ cur.toList.drop (off + vs.length)).toArray e' (0, 0)), SepL.one ?_, ?_, ?_, ?_⟩
      · refine ⟨by rw [cpy_len]; exact m1, m2, g, off, _, rfl, one_self _ _, ?_, ?_⟩
        · simp [hvl]; omega
        · have hrest : rdL R 1 (((cur.toList.drop off).take (xs.length * 1)).drop (k * 1)) (xs.drop k) := hrl.drop k
          have := hrv.append hrest
          have e1 : ((cur.toList.take off ++ vs ++ cur.toList.drop (off + vs.length)).toArray.toList.drop off).take ((cpy xs ys).length * 1) = vs ++ ((cur.toList.drop off).take (xs.length * 1)).drop (k * 1) := by
            have e3 : off = (cur.toList.take off).length := by simp; omega
            simp only []
            rw [List.append_assoc]
            conv => lhs; arg 2; arg 1; rw [e3]
            rw [List.drop_left, cpy_len, List.drop_take, List.drop_drop, hvl, Nat.mul_one, Nat.mul_one, List.take_append, hvl, List.take_of_length_le (by omega)]
          rw [e1]; exact this
      · intro b o hb; obtain ⟨rfl, rfl⟩ := one_inv hb; exact hp_setRow hgw
      · intro b o hb; obtain ⟨rfl, rfl⟩ := one_inv hb; left; rw [hgd]; exact fun h => by cases h
      · intro b o hb hnone
        rw [hp_setRow_ne]
        · exact hb
        · rintro rfl; rw [hgd] at hnone; cases hnone
end
end Go.Gol
