/-
  Maps from whole numbers to whole numbers; elements of several cells that are written. My own text.
-/
import Derived.Test.YtbcdcpkofgfofaaGL
import Derived.MapKept
set_option linter.unusedVariables false
set_option linter.unusedSimpArgs false
namespace Go.Gol
open Go Go.MapKept
theorem rdL.consN {α : Type} {R : List Value → α → Prop} {sz : Nat} (c : List Value) {vs : List Value} {x : α} {xs : List α} (hc : c.length = sz) (h : R c x) (h' : rdL R sz vs xs) : rdL R sz (c ++ vs) (x :: xs) := (rdL.single hc h).append h'
abbrev kv (kk vk : IntKind) (m : List (Int × Int)) : List (Value × Value) := m.map fun p => (Value.int kk p.1, Value.int vk p.2)
abbrev ekv (es : Array MapEntry) : List (Value × Value) := es.toList.map fun e => (e.key, e.val)
def omp (kk vk : IntKind) (b : Nat) (m : List (Int × Int)) : HP := fun H => ∃ es clock, H b = some (.map es clock) ∧ Stamped es clock ∧ ekv es = kv kk vk m
section
variable {P : Program} {n : Nat} {ops : Array Oper} {L : SL} {w : World} {i : Nat} {K : Value → World → Prop} {M : Value → Prop} {B : Rf} {cs : List HP}
end
end Go.Gol
