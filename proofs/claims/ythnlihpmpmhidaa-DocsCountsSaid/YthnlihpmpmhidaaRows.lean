/-
  No cell of these rows narrows 'for every input' (looked for: loops, veiled, ifaces, maps, wideKeys, modest, calm, conditions, laid).
  DERIVED. THE GIVEN ROWS OF THIS SEAT. 4 by the template 'for every input the law returns true; each argument reads behind the call as it read before'; 0 by the template 'total and deterministic' (their statements: YthnlihpmpmhidaaTotals.lean).
  GIVEN WITH THE SEED: the statements are not yours to turn. If you find one false, say at which input.
  Laid BY PROGRAM, IN A SANDBOX (cutbox-rows.mjs): the forced cells as the released guide's own fill.sh prints them over the translation dc279f9e8fe32348… (all of the seat's roots in one cut). By AI agents, Wed Nov 11 2026. No macro, syntax, notation, axiom, sorry.
-/
import Derived.Test.YthnlihpmpmhidaaChecked
import GoSem.Claim
import GoSem.ClaimJoined
import GoSem.ClaimMapViews
import Derived.JoinedTies
import Derived.KernelRfl
namespace Go.Proofs.Ythnlihpmpmhidaa
/- THE CELL 'sum', in the pinned program and in every row, IS THE sha256 OF THE DUMP (.gsa) THAT YthnlihpmpmhidaaProg.lean LOADS. Nothing in Lean hashes anything: it is a label: what it is worth is what the hold of that sum in a sandbox is worth. -/
noncomputable def Try.pinned : Pinned := { name := "ythnlihpmpmhidaa", sum := "dc279f9e8fe32348095dbc1bf6145524ec081dbb42b6f210051a492c1a4472f6", checked := Try.checked }
namespace Rows
def none {H : Type} : Left H := { results := [], args := [] }

/-- 'colophonlaw12.DocsArrays': WHATEVER THE INPUT: true; the input reads as it did. -/
def docsArraysSpec : ChangeSpec := { name := "docsArrays", fn := fun _ => fun
  | [d1, d2] => { results := [.lit (.bool true)], args := [d1, d2] }
  | _ => none }
def docsArraysRow : OpenClaim := { program := "ythnlihpmpmhidaa", sum := "dc279f9e8fe32348095dbc1bf6145524ec081dbb42b6f210051a492c1a4472f6", func := "colophon/colophonlaw12.DocsArrays", spec := "docsArrays", unfollowed := true, recurses := true, apart := false }
def DocsArraysSaid : Prop := docsArraysRow.holds Try.pinned (OpenSpec.ofChange docsArraysSpec)

/-- ITS FALSE NEIGHBOUR: 'it returns false'. Refute it at one input. -/
def docsArraysWrong : ChangeSpec := { name := "docsArrays", fn := fun _ => fun
  | [d1, d2] => { results := [.lit (.bool false)], args := [d1, d2] }
  | _ => none }
def DocsArraysWrongFalsely : Prop := docsArraysRow.holds Try.pinned (OpenSpec.ofChange docsArraysWrong)

/-- 'colophonlaw12.DocsLinks': WHATEVER THE INPUT: true; the input reads as it did. -/
def docsLinksSpec : ChangeSpec := { name := "docsLinks", fn := fun _ => fun
  | [d] => { results := [.lit (.bool true)], args := [d] }
  | _ => none }
def docsLinksRow : OpenClaim := { program := "ythnlihpmpmhidaa", sum := "dc279f9e8fe32348095dbc1bf6145524ec081dbb42b6f210051a492c1a4472f6", func := "colophon/colophonlaw12.DocsLinks", spec := "docsLinks", unfollowed := true, recurses := true, apart := false }
def DocsLinksSaid : Prop := docsLinksRow.holds Try.pinned (OpenSpec.ofChange docsLinksSpec)

/-- ITS FALSE NEIGHBOUR: 'it returns false'. Refute it at one input. -/
def docsLinksWrong : ChangeSpec := { name := "docsLinks", fn := fun _ => fun
  | [d] => { results := [.lit (.bool false)], args := [d] }
  | _ => none }
def DocsLinksWrongFalsely : Prop := docsLinksRow.holds Try.pinned (OpenSpec.ofChange docsLinksWrong)

/-- 'colophonlaw12.DocsCounts': WHATEVER THE INPUT: true; the input reads as it did. -/
def docsCountsSpec : ChangeSpec := { name := "docsCounts", fn := fun _ => fun
  | [d1, d2, d3] => { results := [.lit (.bool true)], args := [d1, d2, d3] }
  | _ => none }
def docsCountsRow : OpenClaim := { program := "ythnlihpmpmhidaa", sum := "dc279f9e8fe32348095dbc1bf6145524ec081dbb42b6f210051a492c1a4472f6", func := "colophon/colophonlaw12.DocsCounts", spec := "docsCounts", unfollowed := true, recurses := true, apart := false }
def DocsCountsSaid : Prop := docsCountsRow.holds Try.pinned (OpenSpec.ofChange docsCountsSpec)

/-- ITS FALSE NEIGHBOUR: 'it returns false'. Refute it at one input. -/
def docsCountsWrong : ChangeSpec := { name := "docsCounts", fn := fun _ => fun
  | [d1, d2, d3] => { results := [.lit (.bool false)], args := [d1, d2, d3] }
  | _ => none }
def DocsCountsWrongFalsely : Prop := docsCountsRow.holds Try.pinned (OpenSpec.ofChange docsCountsWrong)

/-- 'colophonlaw12.DocsMirrors': WHATEVER THE INPUT: true; the input reads as it did. -/
def docsMirrorsSpec : ChangeSpec := { name := "docsMirrors", fn := fun _ => fun
  | [d] => { results := [.lit (.bool true)], args := [d] }
  | _ => none }
def docsMirrorsRow : OpenClaim := { program := "ythnlihpmpmhidaa", sum := "dc279f9e8fe32348095dbc1bf6145524ec081dbb42b6f210051a492c1a4472f6", func := "colophon/colophonlaw12.DocsMirrors", spec := "docsMirrors", unfollowed := true, recurses := true, apart := false }
def DocsMirrorsSaid : Prop := docsMirrorsRow.holds Try.pinned (OpenSpec.ofChange docsMirrorsSpec)

/-- ITS FALSE NEIGHBOUR: 'it returns false'. Refute it at one input. -/
def docsMirrorsWrong : ChangeSpec := { name := "docsMirrors", fn := fun _ => fun
  | [d] => { results := [.lit (.bool false)], args := [d] }
  | _ => none }
def DocsMirrorsWrongFalsely : Prop := docsMirrorsRow.holds Try.pinned (OpenSpec.ofChange docsMirrorsWrong)

/- THE SECOND FORM. 'bulk': how many values and letters a reading holds, each counted each time it is reached (what is shared counts as often as it is met; a slice's spare places count too). A statement '..UptoSaid' is the law's where the arguments, and the package variables that the reading takes, are together of bulk at most 1048576: NARROWER than '..Said'. Prove '..Said' where nothing that the law and all that it calls make is longer than what came in: it says more and counts as full. Else prove '..UptoSaid'. A law counts once. -/
mutual
def uptoBulk {H : Type} : DataW H → Nat
  | .lit (.string bytes) => bytes.length + 1
  | .lit _ => 1
  | .nil => 1
  | .ptr d => uptoBulk d + 1
  | .slice elems spare => uptoBulkAll elems + uptoBulkAll spare + 1
  | .agg parts => uptoBulkAll parts + 1
  | .iface _ d => uptoBulk d + 1
  | .map entries => uptoBulkEntries entries + 1
  | .held _ => 1
def uptoBulkAll {H : Type} : List (DataW H) → Nat
  | [] => 0
  | d :: r => uptoBulk d + uptoBulkAll r
def uptoBulkEntries {H : Type} : List (Lit × DataW H) → Nat
  | [] => 0
  | x :: r => uptoBulkEntry x + uptoBulkEntries r
def uptoBulkEntry {H : Type} : Lit × DataW H → Nat
  | (.string bytes, d) => bytes.length + uptoBulk d + 1
  | (_, d) => uptoBulk d + 1
 end
def uptoSmall : (H : Type) → List (DataW H) → Bool := fun _ ds => decide (uptoBulkAll ds ≤ 1048576)
def OpenSpec.upto (s : _root_.Go.ChangeSpec) : _root_.Go.OpenSpec := { _root_.Go.OpenSpec.ofChange s with cond := some uptoSmall }

/-- 'colophonlaw12.DocsArrays', WHERE WHAT IT READS IS OF BULK AT MOST 1048576: true; the input reads as it did. -/
def docsArraysUptoRow : OpenClaim := { program := "ythnlihpmpmhidaa", sum := "dc279f9e8fe32348095dbc1bf6145524ec081dbb42b6f210051a492c1a4472f6", func := "colophon/colophonlaw12.DocsArrays", spec := "docsArrays", unfollowed := true, recurses := true, apart := false, narrowed := true }
def DocsArraysUptoSaid : Prop := docsArraysUptoRow.holds Try.pinned (OpenSpec.upto docsArraysSpec)

/-- 'colophonlaw12.DocsLinks', WHERE WHAT IT READS IS OF BULK AT MOST 1048576: true; the input reads as it did. -/
def docsLinksUptoRow : OpenClaim := { program := "ythnlihpmpmhidaa", sum := "dc279f9e8fe32348095dbc1bf6145524ec081dbb42b6f210051a492c1a4472f6", func := "colophon/colophonlaw12.DocsLinks", spec := "docsLinks", unfollowed := true, recurses := true, apart := false, narrowed := true }
def DocsLinksUptoSaid : Prop := docsLinksUptoRow.holds Try.pinned (OpenSpec.upto docsLinksSpec)

/-- 'colophonlaw12.DocsCounts', WHERE WHAT IT READS IS OF BULK AT MOST 1048576: true; the input reads as it did. -/
def docsCountsUptoRow : OpenClaim := { program := "ythnlihpmpmhidaa", sum := "dc279f9e8fe32348095dbc1bf6145524ec081dbb42b6f210051a492c1a4472f6", func := "colophon/colophonlaw12.DocsCounts", spec := "docsCounts", unfollowed := true, recurses := true, apart := false, narrowed := true }
def DocsCountsUptoSaid : Prop := docsCountsUptoRow.holds Try.pinned (OpenSpec.upto docsCountsSpec)

/-- 'colophonlaw12.DocsMirrors', WHERE WHAT IT READS IS OF BULK AT MOST 1048576: true; the input reads as it did. -/
def docsMirrorsUptoRow : OpenClaim := { program := "ythnlihpmpmhidaa", sum := "dc279f9e8fe32348095dbc1bf6145524ec081dbb42b6f210051a492c1a4472f6", func := "colophon/colophonlaw12.DocsMirrors", spec := "docsMirrors", unfollowed := true, recurses := true, apart := false, narrowed := true }
def DocsMirrorsUptoSaid : Prop := docsMirrorsUptoRow.holds Try.pinned (OpenSpec.upto docsMirrorsSpec)

end Rows
end Go.Proofs.Ythnlihpmpmhidaa
