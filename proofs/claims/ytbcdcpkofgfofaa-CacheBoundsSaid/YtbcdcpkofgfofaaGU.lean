/-
  Elements taken out of the middle of a slice of one's own: what is cut, laid in place, wiped behind the end. My own text.
-/
import Derived.Test.YtbcdcpkofgfofaaGR
set_option linter.unusedVariables false
set_option linter.unusedSimpArgs false
namespace Go.Gol
open Go
section
variable {P : Program} {n : Nat} {ops : Array Oper} {L : SL} {w : World} {i : Nat} {K : Value → World → Prop} {M : Value → Prop} {B : Rf} {cs : List HP}
theorem Sat.sel2 {a b : HP} (h : Sat w B (a :: b :: cs)) : Sat w B (b :: a :: cs) := by
  have := Sat.front [a] cs (c := b) (by simpa using h)
  simpa using this
/-- a part of a slice, as the machine tells it -/
theorem PSt.cut {t e : TypeId} {sz bytes : Nat} (x : Operand) (lo hi mx : Option Operand) (hop : (opAt ops i).op = .slice t x lo hi mx) (hrd : ready n ops L i = true) (hE : ElemInfo P t e sz bytes)
    {A : Option Addr} {m c l h mm : Nat} {lv hv mv : Option Value} (hx : rho L x = .slice A m c) (hl : lo.map (rho L) = lv) (hhi : hi.map (rho L) = hv) (hm : mx.map (rho L) = mv) (hb : ∀ w, (Instr.sliceBounds true m c lv hv mv).run P w = .ok (l, h, mm) w)
    (hh : M (.slice (if mm = l then A else A.map (·.add (l * sz))) (h - l) (mm - l))) : PSt P n ops L i M := by
  refine ⟨hrd, _, fun w' => ?_, hh⟩
  simp only [execOp, hop, hx]
  subst hl hhi hm
  simp [run_sliceAt hE _ _ _ (hb w')]
theorem bounds_none_some {k : IntKind} {m c : Nat} {j : Int} (h0 : 0 ≤ j) (h1 : j ≤ (c : Int)) (w : World) : (Instr.sliceBounds true m c none (some (.int k j)) none).run P w = .ok (0, j.toNat, c) w := by
  simp [Instr.sliceBounds, run_sliceBound h0 h1]
theorem bounds_some_none {k : IntKind} {m c : Nat} {j : Int} (h0 : 0 ≤ j) (h1 : j ≤ (m : Int)) (w : World) : (Instr.sliceBounds true m c (some (.int k j)) none none).run P w = .ok (j.toNat, m, c) w := by
  simp [Instr.sliceBounds, run_sliceBound h0 h1]
theorem bounds_some_some {k k2 : IntKind} {m c : Nat} {j j2 : Int} (h0 : 0 ≤ j) (h1 : j ≤ j2) (h2 : j2 ≤ (c : Int)) (w : World) : (Instr.sliceBounds true m c (some (.int k j)) (some (.int k2 j2)) none).run P w = .ok (j.toNat, j2.toNat, c) w := by
  simp [Instr.sliceBounds, run_sliceBound (show 0 ≤ j2 by omega) h2, run_sliceBound (y := j2.toNat) h0 (by omega)]
theorem bounds_all {k k2 k3 : IntKind} {m c : Nat} {j j2 j3 : Int} (h0 : 0 ≤ j) (h1 : j ≤ j2) (h2 : j2 ≤ j3) (h3 : j3 ≤ (c : Int)) (w : World) : (Instr.sliceBounds true m c (some (.int k j)) (some (.int k2 j2)) (some (.int k3 j3))).run P w = .ok (j.toNat, j2.toNat, j3.toNat) w := by
  simp [Instr.sliceBounds, run_sliceBound (show 0 ≤ j3 by omega) h3, run_sliceBound (y := j3.toNat) (show 0 ≤ j2 by omega) (by omega), run_sliceBound (y := j2.toNat) h0 (by omega)]
theorem addr_zero (a : Addr) : a.add 0 = a := by unfold Addr.add; simp
theorem map_zero (A : Option Addr) (sz : Nat) : A.map (·.add (0 * sz)) = A := by cases A <;> simp [addr_zero]
/-- a whole variable that is a struct is read -/
theorem RSt.loadAll {t : TypeId} (x : Operand) (hop : (opAt ops i).op = .load t x) (hrd : ready n ops L i = true) (hagg : (isAgg t).run P w = .ok true w) (j : Nat) {b : Nat} {vs : List Value} {e : TypeId} {fr : Nat × Nat} (hsz : (sizeOf t).run P w = .ok vs.length w)
    (hS : Sat w B cs) (hj : cs[j]? = some (pts b (.cells vs.toArray e fr))) (hx : rho L x = .pointer (some ⟨b, 0, none⟩)) (hh : M (.agg vs.toArray)) : RSt P n ops L i w M := by
  refine ⟨hrd, .agg vs.toArray, ?_, hh⟩
  have hc : ∀ k v, vs[k]? = some v → w.cell? ((⟨b, 0, none⟩ : Addr).add k) = some v := fun k v hv => by
    rw [addr_add, Nat.zero_add]
    exact Sat.cellAt j k hS hj (by simpa using hv)
  simp only [execOp, hop, hx]
  simp [Instr.loadAt, Instr.sureAddr, run_loadAgg hagg hsz hc]
end
end Go.Gol
