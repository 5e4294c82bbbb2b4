/-
  No cell of these rows narrows 'for every input' (looked for: loops, veiled, ifaces, maps, wideKeys, modest, calm, conditions, laid).
  DERIVED. THE GIVEN ROWS OF THIS SEAT. 4 by the template 'for every input the law returns true; each argument reads behind the call as it read before'; 0 by the template 'total and deterministic' (their statements: YtoonceaeaigkpaaTotals.lean).
  GIVEN WITH THE SEED: the statements are not yours to turn. If you find one false, say at which input.
  Laid BY PROGRAM, IN A SANDBOX (cutbox-rows.mjs): the forced cells as the released guide's own fill.sh prints them over the translation 8e25658cf420fea8… (all of the seat's roots in one cut). By AI agents, Wed Nov 11 2026. No macro, syntax, notation, axiom, sorry.
-/
import Derived.Test.YtoonceaeaigkpaaChecked
import GoSem.Claim
import GoSem.ClaimJoined
import GoSem.ClaimMapViews
import Derived.JoinedTies
import Derived.KernelRfl
namespace Go.Proofs.Ytoonceaeaigkpaa
/- THE CELL 'sum', in the pinned program and in every row, IS THE sha256 OF THE DUMP (.gsa) THAT YtoonceaeaigkpaaProg.lean LOADS. Nothing in Lean hashes anything: it is a label: what it is worth is what the hold of that sum in a sandbox is worth. -/
noncomputable def Try.pinned : Pinned := { name := "ytoonceaeaigkpaa", sum := "8e25658cf420fea83452ebc9545738233738d2e82c2a4ff3f9d43ff78f622c7c", checked := Try.checked }
namespace Rows
def none {H : Type} : Left H := { results := [], args := [] }

/-- 'colophonlaw08.TextMakes': WHATEVER THE INPUT: true; the input reads as it did. -/
def textMakesSpec : ChangeSpec := { name := "textMakes", fn := fun _ => fun
  | [d1, d2, d3] => { results := [.lit (.bool true)], args := [d1, d2, d3] }
  | _ => none }
def textMakesRow : OpenClaim := { program := "ytoonceaeaigkpaa", sum := "8e25658cf420fea83452ebc9545738233738d2e82c2a4ff3f9d43ff78f622c7c", func := "colophon/colophonlaw08.TextMakes", spec := "textMakes", unfollowed := true, recurses := true, apart := false }
def TextMakesSaid : Prop := textMakesRow.holds Try.pinned (OpenSpec.ofChange textMakesSpec)

/-- ITS FALSE NEIGHBOUR: 'it returns false'. Refute it at one input. -/
def textMakesWrong : ChangeSpec := { name := "textMakes", fn := fun _ => fun
  | [d1, d2, d3] => { results := [.lit (.bool false)], args := [d1, d2, d3] }
  | _ => none }
def TextMakesWrongFalsely : Prop := textMakesRow.holds Try.pinned (OpenSpec.ofChange textMakesWrong)

/-- 'colophonlaw08.TextPatterns': WHATEVER THE INPUT: true; the input reads as it did. -/
def textPatternsSpec : ChangeSpec := { name := "textPatterns", fn := fun _ => fun
  | [d1, d2] => { results := [.lit (.bool true)], args := [d1, d2] }
  | _ => none }
def textPatternsRow : OpenClaim := { program := "ytoonceaeaigkpaa", sum := "8e25658cf420fea83452ebc9545738233738d2e82c2a4ff3f9d43ff78f622c7c", func := "colophon/colophonlaw08.TextPatterns", spec := "textPatterns", unfollowed := true, recurses := true, apart := false }
def TextPatternsSaid : Prop := textPatternsRow.holds Try.pinned (OpenSpec.ofChange textPatternsSpec)

/-- ITS FALSE NEIGHBOUR: 'it returns false'. Refute it at one input. -/
def textPatternsWrong : ChangeSpec := { name := "textPatterns", fn := fun _ => fun
  | [d1, d2] => { results := [.lit (.bool false)], args := [d1, d2] }
  | _ => none }
def TextPatternsWrongFalsely : Prop := textPatternsRow.holds Try.pinned (OpenSpec.ofChange textPatternsWrong)

/-- 'colophonlaw08.TextPlaces': WHATEVER THE INPUT: true; the input reads as it did. -/
def textPlacesSpec : ChangeSpec := { name := "textPlaces", fn := fun _ => fun
  | [d] => { results := [.lit (.bool true)], args := [d] }
  | _ => none }
def textPlacesRow : OpenClaim := { program := "ytoonceaeaigkpaa", sum := "8e25658cf420fea83452ebc9545738233738d2e82c2a4ff3f9d43ff78f622c7c", func := "colophon/colophonlaw08.TextPlaces", spec := "textPlaces", unfollowed := true, recurses := true, apart := false }
def TextPlacesSaid : Prop := textPlacesRow.holds Try.pinned (OpenSpec.ofChange textPlacesSpec)

/-- ITS FALSE NEIGHBOUR: 'it returns false'. Refute it at one input. -/
def textPlacesWrong : ChangeSpec := { name := "textPlaces", fn := fun _ => fun
  | [d] => { results := [.lit (.bool false)], args := [d] }
  | _ => none }
def TextPlacesWrongFalsely : Prop := textPlacesRow.holds Try.pinned (OpenSpec.ofChange textPlacesWrong)

/-- 'colophonlaw08.TextEnds': WHATEVER THE INPUT: true; the input reads as it did. -/
def textEndsSpec : ChangeSpec := { name := "textEnds", fn := fun _ => fun
  | [d] => { results := [.lit (.bool true)], args := [d] }
  | _ => none }
def textEndsRow : OpenClaim := { program := "ytoonceaeaigkpaa", sum := "8e25658cf420fea83452ebc9545738233738d2e82c2a4ff3f9d43ff78f622c7c", func := "colophon/colophonlaw08.TextEnds", spec := "textEnds", unfollowed := true, recurses := true, apart := false }
def TextEndsSaid : Prop := textEndsRow.holds Try.pinned (OpenSpec.ofChange textEndsSpec)

/-- ITS FALSE NEIGHBOUR: 'it returns false'. Refute it at one input. -/
def textEndsWrong : ChangeSpec := { name := "textEnds", fn := fun _ => fun
  | [d] => { results := [.lit (.bool false)], args := [d] }
  | _ => none }
def TextEndsWrongFalsely : Prop := textEndsRow.holds Try.pinned (OpenSpec.ofChange textEndsWrong)

/- THE SECOND FORM. 'bulk': how many values and letters a reading holds, each counted each time it is reached (what is shared counts as often as it is met; a slice's spare places count too). A statement '..UptoSaid' is the law's where the arguments, and the package variables that the reading takes, are together of bulk at most 1048576: NARROWER than '..Said'. Prove '..Said' where nothing that the law and all that it calls make is longer than what came in: it says more and counts as full. Else prove '..UptoSaid'. A law counts once. -/
mutual
def uptoBulk {H : Type} : DataW H → Nat
  | .lit (.string bytes) => bytes.length + 1
  | .lit _ => 1
  | .nil => 1
  | .ptr d => uptoBulk d + 1
  | .slice elems spare => uptoBulkAll elems + uptoBulkAll spare + 1
  | .agg parts => uptoBulkAll parts + 1
  | .iface _ d => uptoBulk d + 1
  | .map entries => uptoBulkEntries entries + 1
  | .held _ => 1
def uptoBulkAll {H : Type} : List (DataW H) → Nat
  | [] => 0
  | d :: r => uptoBulk d + uptoBulkAll r
def uptoBulkEntries {H : Type} : List (Lit × DataW H) → Nat
  | [] => 0
  | x :: r => uptoBulkEntry x + uptoBulkEntries r
def uptoBulkEntry {H : Type} : Lit × DataW H → Nat
  | (.string bytes, d) => bytes.length + uptoBulk d + 1
  | (_, d) => uptoBulk d + 1
 end
def uptoSmall : (H : Type) → List (DataW H) → Bool := fun _ ds => decide (uptoBulkAll ds ≤ 1048576)
def OpenSpec.upto (s : _root_.Go.ChangeSpec) : _root_.Go.OpenSpec := { _root_.Go.OpenSpec.ofChange s with cond := some uptoSmall }

/-- 'colophonlaw08.TextMakes', WHERE WHAT IT READS IS OF BULK AT MOST 1048576: true; the input reads as it did. -/
def textMakesUptoRow : OpenClaim := { program := "ytoonceaeaigkpaa", sum := "8e25658cf420fea83452ebc9545738233738d2e82c2a4ff3f9d43ff78f622c7c", func := "colophon/colophonlaw08.TextMakes", spec := "textMakes", unfollowed := true, recurses := true, apart := false, narrowed := true }
def TextMakesUptoSaid : Prop := textMakesUptoRow.holds Try.pinned (OpenSpec.upto textMakesSpec)

/-- 'colophonlaw08.TextPatterns', WHERE WHAT IT READS IS OF BULK AT MOST 1048576: true; the input reads as it did. -/
def textPatternsUptoRow : OpenClaim := { program := "ytoonceaeaigkpaa", sum := "8e25658cf420fea83452ebc9545738233738d2e82c2a4ff3f9d43ff78f622c7c", func := "colophon/colophonlaw08.TextPatterns", spec := "textPatterns", unfollowed := true, recurses := true, apart := false, narrowed := true }
def TextPatternsUptoSaid : Prop := textPatternsUptoRow.holds Try.pinned (OpenSpec.upto textPatternsSpec)

/-- 'colophonlaw08.TextPlaces', WHERE WHAT IT READS IS OF BULK AT MOST 1048576: true; the input reads as it did. -/
def textPlacesUptoRow : OpenClaim := { program := "ytoonceaeaigkpaa", sum := "8e25658cf420fea83452ebc9545738233738d2e82c2a4ff3f9d43ff78f622c7c", func := "colophon/colophonlaw08.TextPlaces", spec := "textPlaces", unfollowed := true, recurses := true, apart := false, narrowed := true }
def TextPlacesUptoSaid : Prop := textPlacesUptoRow.holds Try.pinned (OpenSpec.upto textPlacesSpec)

/-- 'colophonlaw08.TextEnds', WHERE WHAT IT READS IS OF BULK AT MOST 1048576: true; the input reads as it did. -/
def textEndsUptoRow : OpenClaim := { program := "ytoonceaeaigkpaa", sum := "8e25658cf420fea83452ebc9545738233738d2e82c2a4ff3f9d43ff78f622c7c", func := "colophon/colophonlaw08.TextEnds", spec := "textEnds", unfollowed := true, recurses := true, apart := false, narrowed := true }
def TextEndsUptoSaid : Prop := textEndsUptoRow.holds Try.pinned (OpenSpec.upto textEndsSpec)

end Rows
end Go.Proofs.Ytoonceaeaigkpaa
