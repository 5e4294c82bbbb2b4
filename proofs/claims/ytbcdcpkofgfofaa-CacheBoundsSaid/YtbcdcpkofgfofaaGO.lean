/-
  An entry taken out of a map. My own text.
-/
import Derived.Test.YtbcdcpkofgfofaaGM
set_option linter.unusedVariables false
set_option linter.unusedSimpArgs false
namespace Go.Gol
open Go Go.MapKept
section
variable {P : Program} {n : Nat} {ops : Array Oper} {L : SL} {w : World} {i : Nat} {K : Value → World → Prop} {B : Rf} {cs : List HP}
end
end Go.Gol
