/-
  A whole element of several cells is written into a slice of one's own. My own text; not whole yet.
-/
import Derived.Test.YtoonceaeaigkpaaGM
set_option linter.unusedVariables false
set_option linter.unusedSimpArgs false
namespace Go.Gol
open Go
theorem seg_set (cur vs : List Value) (off n j sz : Nat) (hv : vs.length = sz) (hj : j < n) (hc : off + n * sz ≤ cur.length) :
    ((cur.take (off + j * sz) ++ vs ++ cur.drop (off + j * sz + vs.length)).drop off).take (n * sz) = ((cur.drop off).take (n * sz)).take (j * sz) ++ vs ++ ((cur.drop off).take (n * sz)).drop ((j + 1) * sz) := by
  have h1 : (j + 1) * sz = j * sz + sz := by rw [Nat.add_mul, Nat.one_mul]
  have h2 : j * sz + sz ≤ n * sz := by rw [← h1]; exact Nat.mul_le_mul_right sz hj
  rw [h1, hv]
  generalize j * sz = a at *
  generalize n * sz = b at *
  apply List.ext_getElem?
  intro i
  simp only [List.getElem?_take, List.getElem?_drop, List.getElem?_append, List.length_append, List.length_take, List.length_drop, hv]
  rcases Nat.lt_trichotomy i a with h | h | h <;> (repeat' split) <;> (first | rfl | omega | (congr 1; omega) | (rw [List.getElem?_eq_none (by omega)]) | skip)
section
variable {P : Program} {n : Nat} {ops : Array Oper} {L : SL} {w : World} {i : Nat} {K : Value → World → Prop} {B : Rf} {cs : List HP}
theorem St.storeFlat {α : Type} {t : TypeId} (a x : Operand) (hop : (opAt ops i).op = .store t a x) (hrd : ready n ops L i = true) {vs : List Value} (hsz : (sizeOf t).run P w = .ok vs.length w) {e : TypeId} {R : List Value → α → Prop} {sz : Nat} {A : Option Addr} {c : Nat} {xs ys : List α} {j : Int} {v : α}
    (hS : Sat w B (osl e R sz A c xs :: cs)) (ha : rho L a = .pointer (some (adr A j.toNat sz))) (hx : rho L x = .agg vs.toArray) (h1 : (vs.all (·.oneCell')) = true) (hl : vs.length = sz) (hv : set? xs j v = some ys) (hR : R vs v)
    (hh : ∀ w', Sat w' B (osl e R sz A c ys :: cs) → K undef w') : St P n ops L i w K := by
  obtain ⟨h0, hj, rfl⟩ := set?_some hv
  obtain ⟨M0, hM, _, hm⟩ := Sat.read [] cs hS
  obtain ⟨m1, m2, m3⟩ := hm
  cases A with
  | none => obtain ⟨rfl, _⟩ := m3; simp at hj
  | some a0 =>
    obtain ⟨g, off, cur, rfl, hg, ho, hr⟩ := m3
    have e1 : adr (some ⟨g, off, none⟩) j.toNat sz = ⟨g, off + j.toNat * sz, none⟩ := by simp [adr, addr_add]
    rw [e1] at ha
    have hb : w.heap[g]? = some (.cells cur e (0, 0)) := hM g _ hg
    have hin : j.toNat * sz + sz ≤ xs.length * sz := by have := Nat.mul_le_mul_right sz (show j.toNat + 1 ≤ xs.length from hj); rw [Nat.add_mul, Nat.one_mul] at this; exact this
    have hcx : xs.length * sz ≤ c * sz := Nat.mul_le_mul_right sz m1
    have hst := run_storeCells_at P g (off + j.toNat * sz) e vs 0 cur w hb (by omega) (fun v hv => by simpa using (List.all_eq_true.1 h1) v hv)
    simp only [Nat.add_zero] at hst
    refine St.skp hrd (w' := w.setRow g (cur.toList.take (off + j.toNat * sz) ++ vs ++ cur.toList.drop (off + j.toNat * sz + vs.length)).toArray) ?_ (hh _ ?_)
    · simp only [execOp, hop, ha, hx]
      simp [Instr.storeAt, Instr.sureAddr, storeVar, Value.cells, hsz, hst]
    · refine Sat.upd [] cs (cs := [osl e R sz (some ⟨g, off, none⟩) c xs]) (cs' := [osl e R sz (some ⟨g, off, none⟩) c (xs.set j.toNat v)]) hS ⟨rfl, rfl, rfl⟩ (fun H1 _ hH1 hc' => ?_)
      obtain ⟨J1, J2, _, hJ1, _, hc1, _⟩ := hc'
      obtain ⟨_, _, g', off', cur', ee, hg', _, _⟩ := hc1
      simp only [Option.some.injEq, Addr.mk.injEq] at ee
      obtain ⟨rfl, rfl, _⟩ := ee
      have hgd : H1 g = some (.cells cur' e (0, 0)) := hJ1 g _ hg'
      have hgc : hp w g = some (.cells cur' e (0, 0)) := hH1 _ _ hgd
      have : cur' = cur := by
        have h2 := hM g _ hg
        rw [hgc] at h2
        simpa using h2
      subst this
      refine ⟨one g (.cells (cur'.toList.take (off + j.toNat * sz) ++ vs ++ cur'.toList.drop (off + j.toNat * sz + vs.length)).toArray e (0, 0)), SepL.one ?_, ?_, ?_, ?_⟩
      · refine ⟨by simpa using m1, m2, g, off, _, rfl, one_self _ _, ?_, ?_⟩
        · simp; omega
        · have h5 : cur'.toList.length = cur'.size := by simp
          have hs := hr.set j.toNat hj (c := vs) hl hR
          have e5 := seg_set cur'.toList vs off xs.length j.toNat sz hl hj (by omega)
          rw [← e5] at hs
          simpa using hs
      · intro x o hx; obtain ⟨rfl, rfl⟩ := one_inv hx; exact hp_setRow hb
      · intro x o hx; obtain ⟨rfl, rfl⟩ := one_inv hx; left; rw [hgd]; exact fun h => by cases h
      · intro x o hx hn
        rw [hp_setRow_ne]
        · exact hx
        · rintro rfl; rw [hgd] at hn; cases hn
end
end Go.Gol
