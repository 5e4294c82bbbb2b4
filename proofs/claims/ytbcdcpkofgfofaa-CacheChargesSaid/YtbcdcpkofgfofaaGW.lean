/-
  copy into a part of a slice of one's own.
-/
import Derived.Test.YtbcdcpkofgfofaaGV
set_option linter.unusedVariables false
set_option linter.unusedSimpArgs false
namespace Go.Gol
open Go
/-- where a part begins -/
def win (A : Option Addr) (c lo : Nat) : Option Addr := if c = lo then A else A.map (·.add (lo * 1))
section
variable {P : Program} {n : Nat} {ops : Array Oper} {L : SL} {w : World} {i : Nat} {K : Value → World → Prop} {M : Value → Prop} {B : Rf} {bs : List HP}
theorem PSt.win {α : Type} {t e : TypeId} {bytes : Nat} (x : Operand) (lo hi : Option Operand) (hop : (opAt ops i).op = .slice t x lo hi none) (hrd : ready n ops L i = true) (hE : ElemInfo P t e 1 bytes)
    {A : Option Addr} {c : Nat} {xs ys : List α} {jl jh : Int} (hx : rho L x = .slice A xs.length c) (hxc : xs.length ≤ c) (hv : sub? xs jl jh = some ys)
    (hlo : match lo.map (rho L) with | none => jl = 0 | some v => ∃ k, v = .int k jl) (hhi : match hi.map (rho L) with | none => jh = (xs.length : Int) ∧ (none : Option Operand) = none | some v => ∃ k, v = .int k jh)
    (hh : M (.slice (Gol.win A c jl.toNat) ys.length (c - jl.toNat))) : PSt P n ops L i M := by
  obtain ⟨h0, h1, h2, h3, h4⟩ := sub?_some hv
  have hb : ∀ w, (Instr.sliceBounds true xs.length c (lo.map (rho L)) (hi.map (rho L)) none).run P w = .ok (jl.toNat, jh.toNat, c) w := by
    intro w
    cases lo with
    | none =>
      simp only [Option.map_none] at hlo
      subst hlo
      cases hi with
      | none =>
        simp only [Option.map_none] at hhi
        obtain ⟨rfl, _⟩ := hhi
        simp [Instr.sliceBounds]
      | some y =>
        simp only [Option.map_some] at hhi
        obtain ⟨k, hk⟩ := hhi
        simp only [Option.map_some, Option.map_none, hk]
        have := bounds_none_some (P := P) (k := k) (m := xs.length) (c := c) (j := jh) (by omega) (by omega) w
        simpa using this
    | some y0 =>
      simp only [Option.map_some] at hlo
      obtain ⟨k0, hk0⟩ := hlo
      cases hi with
      | none =>
        simp only [Option.map_none] at hhi
        obtain ⟨rfl, _⟩ := hhi
        simp only [Option.map_some, Option.map_none, hk0]
        have := bounds_some_none (P := P) (k := k0) (m := xs.length) (c := c) (j := jl) (by omega) (by omega) w
        simpa using this
      | some y =>
        simp only [Option.map_some] at hhi
        obtain ⟨k, hk⟩ := hhi
        simp only [Option.map_some, hk, hk0]
        exact bounds_some_some (P := P) (k := k0) (k2 := k) (m := xs.length) (c := c) (j := jl) (j2 := jh) (by omega) (by omega) (by omega) w
  refine ⟨hrd, _, fun w' => ?_, hh⟩
  simp only [execOp, hop, hx]
  rw [h4]
  simp [run_sliceAt hE _ _ _ (hb w'), Gol.win]
theorem take_drop_back {α : Type} (xs : List α) {a b : Nat} (h : a ≤ b) (h2 : b ≤ xs.length) : (xs.take b).drop a ++ xs.drop b = xs.drop a := by
  conv => rhs; rw [← List.take_append_drop b xs]
  rw [List.drop_append_of_le_length (by simp; omega)]
/-- a list, of which a part is overwritten -/
def cpyIn {α : Type} (xs : List α) (lo hi : Nat) (ys zs : List α) : List α := xs.take lo ++ cpy ys zs ++ xs.drop hi
theorem cpyIn_len {α : Type} {xs ys : List α} {jl jh : Int} (hv : sub? xs jl jh = some ys) (zs : List α) : (cpyIn xs jl.toNat jh.toNat ys zs).length = xs.length := by
  obtain ⟨q0, q1, q2, q3, q4⟩ := sub?_some hv
  unfold cpyIn; rw [List.length_append, List.length_append, List.length_take, List.length_drop, cpy_len, q4]; omega
theorem St.copyIn {α : Type} {t t2 e : TypeId} (s x : Operand) (hop : (opAt ops i).op = .call { callee := .builtin .copy, args := #[s, x], argTypes := #[t, t2] }) (hrd : ready n ops L i = true) (hu : P.underlying t = some (.slice e)) (hsz : (P.info? e).map (·.size) = some 1)
    {e' : TypeId} {R : List Value → α → Prop} (hR1 : ∀ c x, R c x → ∀ v ∈ c, v.oneCell' = true)
    {A A2 : Option Addr} {c c2 : Nat} {xs ys zs : List α} {jl jh : Int} (hS : Sat w B (osl e' R 1 A c xs :: bs)) (hv : sub? xs jl jh = some ys) (hs : rho L s = .slice (win A c jl.toNat) ys.length (c - jl.toNat)) (hx : rho L x = .slice A2 zs.length c2) (hr : rdS R 1 (hp w) A2 c2 zs)
    (hh : ∀ w', Sat w' B (osl e' R 1 A c (cpyIn xs jl.toNat jh.toNat ys zs) :: bs) → K (.int .i64 ((min zs.length ys.length : Nat) : Int)) w') : St P n ops L i w K := by
  obtain ⟨q0, q1, q2, q3, q4⟩ := sub?_some hv
  generalize hlo : jl.toNat = lo at *
  generalize hhi : jh.toNat = hi at *
  have hlh : lo ≤ hi := by omega
  have hhx : hi ≤ xs.length := by omega
  have hlen : (cpyIn xs lo hi ys zs).length = xs.length := by
    unfold cpyIn; rw [List.length_append, List.length_append, List.length_take, List.length_drop, cpy_len, q4]; omega
  have hm : Nat.min zs.length ys.length = min zs.length ys.length := rfl
  by_cases h0 : min zs.length ys.length = 0
  · have hcp : cpyIn xs lo hi ys zs = xs := by
      have : cpy ys zs = ys := by simp [cpy, h0]
      unfold cpyIn
      rw [this, q3, List.append_assoc, take_drop_back xs hlh hhx, List.take_append_drop]
    refine St.val hrd (w' := w) ?_ (hh w (by rw [hcp]; exact hS))
    have hrun := run_copy_none (P := P) w t t2 (opAt ops i).type e (win A c lo) A2 ys.length (c - lo) zs.length c2 hu hsz (by rw [hm]; exact h0)
    simp only [execOp, hop, resolve, invoke, builtin, Sem.run_bind, Sem.run_pure, Result.andThen_ok, List.map_toArray, List.map_cons, List.map_nil, hs, hx, hrun, h0]
    rfl
  · have hy : zs ≠ [] := by rintro rfl; simp at h0
    have hyl : ys.length ≠ 0 := by omega
    obtain ⟨r1, r2, r3⟩ := hr
    obtain ⟨M0, hM, _, hm0⟩ := Sat.read [] bs hS
    obtain ⟨m1, m2, m3⟩ := hm0
    cases A2 with
    | none => exact absurd r3 hy
    | some a2 =>
    cases A with
    | none => exact absurd (by rw [m3.1] at hhx; simp at hhx; omega) hyl
    | some a =>
    obtain ⟨g, off, cur, rfl, hg, ho, hrl⟩ := m3
    have hwin : win (some ⟨g, off, none⟩) c lo = some ⟨g, off + lo, none⟩ := by
      unfold win; rw [if_neg (by omega)]; simp [addr_add]
    rw [hwin] at hs
    have hgw : w.heap[g]? = some (.cells cur e' (0, 0)) := hM g _ hg
    obtain ⟨hsp, cells, E, fr, hb2, ho2, hr2⟩ := r3.resolve_left (by have := List.length_pos_iff.2 hy; omega)
    have hcsl : ((cells.toList.drop a2.off).take (zs.length * 1)).length = zs.length := by simpa using hr2.len
    have hone : ∀ v ∈ (cells.toList.drop a2.off).take (zs.length * 1), v.oneCell' = true := by
      intro u hu'
      obtain ⟨css, e1, hcl, hcs, hcr⟩ := hr2
      rw [e1] at hu'
      obtain ⟨cc, hcc, hvc⟩ := List.mem_flatten.1 hu'
      obtain ⟨j, hj, rfl⟩ := List.getElem_of_mem hcc
      exact hR1 _ _ (hcr j _ _ (List.getElem?_eq_getElem hj) (List.getElem?_eq_getElem (hcl ▸ hj))) u hvc
    let k := min zs.length ys.length
    let vs := ((cells.toList.drop a2.off).take (zs.length * 1)).take k
    have hk1 : k ≤ zs.length := Nat.min_le_left _ _
    have hk2 : k ≤ ys.length := Nat.min_le_right _ _
    have hvl : vs.length = k := by simp only [vs, List.length_take, hcsl]; omega
    have hrv : rdL R 1 vs (zs.take k) := by have := hr2.take k; simpa [vs] using this
    have hrun := run_copy_row (P := P) w t t2 (opAt ops i).type e g (off + lo) ys.length (c - lo) a2 zs.length c2 cur e' vs hu hsz hgw (by rw [hvl])
      (fun j v hj => by
        have hjk : j < k := by
          rw [← hvl]; rcases Nat.lt_or_ge j vs.length with h | h
          · exact h
          · rw [List.getElem?_eq_none h] at hj; cases hj
        rw [add_cell hsp hb2, ← hj]
        simp only [vs, List.getElem?_take, if_pos hjk, List.getElem?_drop, Nat.mul_one]
        rw [if_pos (by omega), Array.getElem?_toList])
      (by rw [hvl]; omega) (fun v hv => hone v (List.mem_of_mem_take hv))
    refine St.val hrd (w' := w.setRow g (cur.toList.take (off + lo) ++ vs ++ cur.toList.drop (off + lo + vs.length)).toArray) ?_ (hh _ ?_)
    · simp only [execOp, hop, resolve, invoke, builtin, Sem.run_bind, Sem.run_pure, Result.andThen_ok, List.map_toArray, List.map_cons, List.map_nil, hs, hx, hrun, hvl]
      rfl
    · refine Sat.upd [] bs (cs := [osl e' R 1 (some ⟨g, off, none⟩) c xs]) (cs' := [osl e' R 1 (some ⟨g, off, none⟩) c (cpyIn xs lo hi ys zs)]) hS ⟨rfl, rfl, rfl⟩ (fun H1 _ hH1 hc => ?_)
      obtain ⟨J1, J2, _, hJ1, _, hc1, _⟩ := hc
      obtain ⟨_, _, g', off', cur', ee, hg', _, _⟩ := hc1
      simp only [Option.some.injEq, Addr.mk.injEq] at ee
      obtain ⟨rfl, rfl, _⟩ := ee
      have hgd : H1 g = some (.cells cur' e' (0, 0)) := hJ1 g _ hg'
      refine ⟨one g (.cells (cur.toList.take (off + lo) ++ vs ++ cur.toList.drop (off + lo + vs.length)).toArray e' (0, 0)), SepL.one ?_, ?_, ?_, ?_⟩
      · refine ⟨by rw [hlen]; exact m1, m2, g, off, _, rfl, one_self _ _, ?_, ?_⟩
        · simp [hvl]; omega
        · have hfirst : rdL R 1 (((cur.toList.drop off).take (xs.length * 1)).take (lo * 1)) (xs.take lo) := hrl.take lo
          have hrest : rdL R 1 (((cur.toList.drop off).take (xs.length * 1)).drop ((lo + k) * 1)) (xs.drop (lo + k)) := hrl.drop (lo + k)
          have h3 := (hfirst.append hrv).append hrest
          have e0 : cpyIn xs lo hi ys zs = xs.take lo ++ zs.take k ++ xs.drop (lo + k) := by
            unfold cpyIn cpy
            have : ys.drop (min zs.length ys.length) ++ xs.drop hi = xs.drop (lo + k) := by
              rw [q3, List.drop_drop]
              rw [← q3]
              exact take_drop_back xs (by omega) hhx
            rw [List.append_assoc, List.append_assoc, this, List.append_assoc]
          rw [e0]
          have e1 : ((cur.toList.take (off + lo) ++ vs ++ cur.toList.drop (off + lo + vs.length)).toArray.toList.drop off).take ((xs.take lo ++ zs.take k ++ xs.drop (lo + k)).length * 1) = ((cur.toList.drop off).take (xs.length * 1)).take (lo * 1) ++ vs ++ ((cur.toList.drop off).take (xs.length * 1)).drop ((lo + k) * 1) := by
            rw [← e0, hlen]
            simp only [Nat.mul_one]
            have hcl : off + xs.length ≤ cur.toList.length := by simp; omega
            apply List.ext_getElem?
            intro j
            simp only [List.getElem?_take, List.getElem?_drop, List.getElem?_append, List.length_take, List.length_drop, List.length_append, hvl]
            by_cases c1 : j < xs.length
            · rw [if_pos c1]
              by_cases c2 : j < lo
              · simp only [if_pos (show off + j < min (off + lo) cur.toList.length by omega), if_pos (show off + j < off + lo by omega), if_pos (show off + j < min (off + lo) cur.toList.length + k by omega), if_pos (show j < min lo (min xs.length (cur.toList.length - off)) by omega), if_pos (show j < min lo (min xs.length (cur.toList.length - off)) + k by omega), if_pos c2, if_pos c1]
              · by_cases c3 : j < lo + k
                · simp only [if_neg (show ¬ off + j < min (off + lo) cur.toList.length by omega), if_pos (show off + j < min (off + lo) cur.toList.length + k by omega), if_neg (show ¬ j < min lo (min xs.length (cur.toList.length - off)) by omega), if_pos (show j < min lo (min xs.length (cur.toList.length - off)) + k by omega)]
                  congr 1; omega
                · simp only [if_neg (show ¬ off + j < min (off + lo) cur.toList.length + k by omega), if_neg (show ¬ j < min lo (min xs.length (cur.toList.length - off)) + k by omega)]
                  rw [if_pos (by omega)]
                  congr 1; omega
            · rw [if_neg c1]
              symm
              simp only [if_neg (show ¬ j < min lo (min xs.length (cur.toList.length - off)) + k by omega)]
              rw [if_neg (by omega)]
          rw [e1]
          exact h3
      · intro b o hb; obtain ⟨rfl, rfl⟩ := one_inv hb; exact hp_setRow hgw
      · intro b o hb; obtain ⟨rfl, rfl⟩ := one_inv hb; left; rw [hgd]; exact fun h => by cases h
      · intro b o hb hnone
        rw [hp_setRow_ne]
        · exact hb
        · rintro rfl; rw [hgd] at hnone; cases hnone
theorem WD.know {Q : Kx} {S : Fl} {done : List Nat} {f : Nat} (i : Nat) (u v : Value) (hv : lk L i = some v) (e : v = u) (h : WD P ops Q n S f done ((i, u) :: L) w) : WD P ops Q n S f done L w := fun T hT => h T (hT.know hv e)
end
end Go.Gol
