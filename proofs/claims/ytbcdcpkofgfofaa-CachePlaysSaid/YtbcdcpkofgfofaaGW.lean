/-
  copy into a part of a slice of one's own.
-/
import Derived.Test.YtbcdcpkofgfofaaGV
set_option linter.unusedVariables false
set_option linter.unusedSimpArgs false
namespace Go.Gol
open Go
/-- where a part begins -/
def win (A : Option Addr) (c lo : Nat) : Option Addr := if c = lo then A else A.map (·.add (lo * 1))
section
variable {P : Program} {n : Nat} {ops : Array Oper} {L : SL} {w : World} {i : Nat} {K : Value → World → Prop} {M : Value → Prop} {B : Rf} {bs : List HP}
theorem PSt.win {α : Type} {t e : TypeId} {bytes : Nat} (x : Operand) (lo hi : Option Operand) (hop : (opAt ops i).op = .slice t x lo hi none) (hrd : ready n ops L i = true) (hE : ElemInfo P t e 1 bytes)
    {A : Option Addr} {c : Nat} {xs ys : List α} {jl jh : Int} (hx : rho L x = .slice A xs.length c) (hxc : xs.length ≤ c) (hv : sub? xs jl jh = some ys)
    (hlo : match lo.map (rho L) with | none => jl = 0 | some v => ∃ k, v = .int k jl) (hhi : match hi.map (rho L) with | none => jh = (xs.length : Int) ∧ (none : Option Operand) = none | some v => ∃ k, v = .int k jh)
    (hh : M (.slice (Gol.win A c jl.toNat) ys.length (c - jl.toNat))) : PSt P n ops L i M := by
  obtain ⟨h0, h1, h2, h3, h4⟩ := sub?_some hv
  have hb : ∀ w, (Instr.sliceBounds true xs.length c (lo.map (rho L)) (hi.map (rho L)) none).run P w = .ok (jl.toNat, jh.toNat, c) w := by
    intro w
    cases lo with
    | none =>
      simp only [Option.map_none] at hlo
      subst hlo
      cases hi with
      | none =>
        simp only [Option.map_none] at hhi
        obtain ⟨rfl, _⟩ := hhi
        simp [Instr.sliceBounds]
      | some y =>
        simp only [Option.map_some] at hhi
        obtain ⟨k, hk⟩ := hhi
        simp only [Option.map_some, Option.map_none, hk]
        have := bounds_none_some (P := P) (k := k) (m := xs.length) (c := c) (j := jh) (by omega) (by omega) w
        simpa using this
    | some y0 =>
      simp only [Option.map_some] at hlo
      obtain ⟨k0, hk0⟩ := hlo
      cases hi with
      | none =>
        simp only [Option.map_none] at hhi
        obtain ⟨rfl, _⟩ := hhi
        simp only [Option.map_some, Option.map_none, hk0]
        have := bounds_some_none (P := P) (k := k0) (m := xs.length) (c := c) (j := jl) (by omega) (by omega) w
        simpa using this
      | some y =>
        simp only [Option.map_some] at hhi
        obtain ⟨k, hk⟩ := hhi
        simp only [Option.map_some, hk, hk0]
        exact bounds_some_some (P := P) (k := k0) (k2 := k) (m := xs.length) (c := c) (j := jl) (j2 := jh) (by omega) (by omega) (by omega) w
  refine ⟨hrd, _, fun w' => ?_, hh⟩
  simp only [execOp, hop, hx]
  rw [h4]
  simp [run_sliceAt hE _ _ _ (hb w'), Gol.win]
theorem WD.know {Q : Kx} {S : Fl} {done : List Nat} {f : Nat} (i : Nat) (u v : Value) (hv : lk L i = some v) (e : v = u) (h : WD P ops Q n S f done ((i, u) :: L) w) : WD P ops Q n S f done L w := fun T hT => h T (hT.know hv e)
end
end Go.Gol
