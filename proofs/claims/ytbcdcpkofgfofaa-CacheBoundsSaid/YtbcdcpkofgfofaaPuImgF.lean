/-
  Images in plain words: sizes, sameness, the first test. No condition.
-/
import Derived.Test.YtbcdcpkofgfofaaPuImgE
namespace Go.Proofs.Ytbcdcpkofgfofaa
open Go Go.Gol
set_option linter.unusedVariables false
set_option linter.unusedSimpArgs false
set_option maxRecDepth 100000
namespace Img
open Crc Page
/-! ### what an image answers -/
def objS (S : List (List B8)) : Obj3 := (((cont S).map body).map (·.map ub), ints (lens S), ints (firsts 1 (lens S)))
def S0 : List (List B8) := [[97#8, 98#8], [], List.replicate 300 0#8]
end Img
end Go.Proofs.Ytbcdcpkofgfofaa
