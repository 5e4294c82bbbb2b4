/-
  No cell of these rows narrows 'for every input' (looked for: loops, veiled, ifaces, maps, wideKeys, modest, calm, conditions, laid).
  DERIVED. THE GIVEN ROWS OF THIS SEAT. 4 by the template 'for every input the law returns true; each argument reads behind the call as it read before'; 0 by the template 'total and deterministic' (their statements: YtmdemfbkdbilpaaTotals.lean).
  GIVEN WITH THE SEED: the statements are not yours to turn. If you find one false, say at which input.
  Laid BY PROGRAM, IN A SANDBOX (cutbox-rows.mjs): the forced cells as the released guide's own fill.sh prints them over the translation eab22ec24dc9a954… (all of the seat's roots in one cut). By AI agents, Wed Nov 11 2026. No macro, syntax, notation, axiom, sorry.
-/
import Derived.Test.YtmdemfbkdbilpaaChecked
import GoSem.Claim
import GoSem.ClaimJoined
import GoSem.ClaimMapViews
import Derived.JoinedTies
import Derived.KernelRfl
namespace Go.Proofs.Ytmdemfbkdbilpaa
/- THE CELL 'sum', in the pinned program and in every row, IS THE sha256 OF THE DUMP (.gsa) THAT YtmdemfbkdbilpaaProg.lean LOADS. Nothing in Lean hashes anything: it is a label: what it is worth is what the hold of that sum in a sandbox is worth. -/
noncomputable def Try.pinned : Pinned := { name := "ytmdemfbkdbilpaa", sum := "eab22ec24dc9a95445729e2adcb1e9f74340138b8d3b8bb63d9039822d345ba7", checked := Try.checked }
namespace Rows
def none {H : Type} : Left H := { results := [], args := [] }

/-- 'colophonlaw16.TallyDoubles': WHATEVER THE INPUT: true; the input reads as it did. -/
def tallyDoublesSpec : ChangeSpec := { name := "tallyDoubles", fn := fun _ => fun
  | [d1, d2, d3] => { results := [.lit (.bool true)], args := [d1, d2, d3] }
  | _ => none }
def tallyDoublesRow : OpenClaim := { program := "ytmdemfbkdbilpaa", sum := "eab22ec24dc9a95445729e2adcb1e9f74340138b8d3b8bb63d9039822d345ba7", func := "colophon/colophonlaw16.TallyDoubles", spec := "tallyDoubles", unfollowed := true, recurses := true, apart := false }
def TallyDoublesSaid : Prop := tallyDoublesRow.holds Try.pinned (OpenSpec.ofChange tallyDoublesSpec)

/-- ITS FALSE NEIGHBOUR: 'it returns false'. Refute it at one input. -/
def tallyDoublesWrong : ChangeSpec := { name := "tallyDoubles", fn := fun _ => fun
  | [d1, d2, d3] => { results := [.lit (.bool false)], args := [d1, d2, d3] }
  | _ => none }
def TallyDoublesWrongFalsely : Prop := tallyDoublesRow.holds Try.pinned (OpenSpec.ofChange tallyDoublesWrong)

/-- 'colophonlaw16.TallyDocs': WHATEVER THE INPUT: true; the input reads as it did. -/
def tallyDocsSpec : ChangeSpec := { name := "tallyDocs", fn := fun _ => fun
  | [d1, d2] => { results := [.lit (.bool true)], args := [d1, d2] }
  | _ => none }
def tallyDocsRow : OpenClaim := { program := "ytmdemfbkdbilpaa", sum := "eab22ec24dc9a95445729e2adcb1e9f74340138b8d3b8bb63d9039822d345ba7", func := "colophon/colophonlaw16.TallyDocs", spec := "tallyDocs", unfollowed := true, recurses := true, apart := false }
def TallyDocsSaid : Prop := tallyDocsRow.holds Try.pinned (OpenSpec.ofChange tallyDocsSpec)

/-- ITS FALSE NEIGHBOUR: 'it returns false'. Refute it at one input. -/
def tallyDocsWrong : ChangeSpec := { name := "tallyDocs", fn := fun _ => fun
  | [d1, d2] => { results := [.lit (.bool false)], args := [d1, d2] }
  | _ => none }
def TallyDocsWrongFalsely : Prop := tallyDocsRow.holds Try.pinned (OpenSpec.ofChange tallyDocsWrong)

/-- 'colophonlaw16.TallyAll': WHATEVER THE INPUT: true; the input reads as it did. -/
def tallyAllSpec : ChangeSpec := { name := "tallyAll", fn := fun _ => fun
  | [d1, d2] => { results := [.lit (.bool true)], args := [d1, d2] }
  | _ => none }
def tallyAllRow : OpenClaim := { program := "ytmdemfbkdbilpaa", sum := "eab22ec24dc9a95445729e2adcb1e9f74340138b8d3b8bb63d9039822d345ba7", func := "colophon/colophonlaw16.TallyAll", spec := "tallyAll", unfollowed := true, recurses := true, apart := false }
def TallyAllSaid : Prop := tallyAllRow.holds Try.pinned (OpenSpec.ofChange tallyAllSpec)

/-- ITS FALSE NEIGHBOUR: 'it returns false'. Refute it at one input. -/
def tallyAllWrong : ChangeSpec := { name := "tallyAll", fn := fun _ => fun
  | [d1, d2] => { results := [.lit (.bool false)], args := [d1, d2] }
  | _ => none }
def TallyAllWrongFalsely : Prop := tallyAllRow.holds Try.pinned (OpenSpec.ofChange tallyAllWrong)

/-- 'colophonlaw16.TallyLinks': WHATEVER THE INPUT: true; the input reads as it did. -/
def tallyLinksSpec : ChangeSpec := { name := "tallyLinks", fn := fun _ => fun
  | [d1, d2] => { results := [.lit (.bool true)], args := [d1, d2] }
  | _ => none }
def tallyLinksRow : OpenClaim := { program := "ytmdemfbkdbilpaa", sum := "eab22ec24dc9a95445729e2adcb1e9f74340138b8d3b8bb63d9039822d345ba7", func := "colophon/colophonlaw16.TallyLinks", spec := "tallyLinks", unfollowed := true, recurses := true, apart := false }
def TallyLinksSaid : Prop := tallyLinksRow.holds Try.pinned (OpenSpec.ofChange tallyLinksSpec)

/-- ITS FALSE NEIGHBOUR: 'it returns false'. Refute it at one input. -/
def tallyLinksWrong : ChangeSpec := { name := "tallyLinks", fn := fun _ => fun
  | [d1, d2] => { results := [.lit (.bool false)], args := [d1, d2] }
  | _ => none }
def TallyLinksWrongFalsely : Prop := tallyLinksRow.holds Try.pinned (OpenSpec.ofChange tallyLinksWrong)

/- THE SECOND FORM. 'bulk': how many values and letters a reading holds, each counted each time it is reached (what is shared counts as often as it is met; a slice's spare places count too). A statement '..UptoSaid' is the law's where the arguments, and the package variables that the reading takes, are together of bulk at most 1048576: NARROWER than '..Said'. Prove '..Said' where nothing that the law and all that it calls make is longer than what came in: it says more and counts as full. Else prove '..UptoSaid'. A law counts once. -/
mutual
def uptoBulk {H : Type} : DataW H → Nat
  | .lit (.string bytes) => bytes.length + 1
  | .lit _ => 1
  | .nil => 1
  | .ptr d => uptoBulk d + 1
  | .slice elems spare => uptoBulkAll elems + uptoBulkAll spare + 1
  | .agg parts => uptoBulkAll parts + 1
  | .iface _ d => uptoBulk d + 1
  | .map entries => uptoBulkEntries entries + 1
  | .held _ => 1
def uptoBulkAll {H : Type} : List (DataW H) → Nat
  | [] => 0
  | d :: r => uptoBulk d + uptoBulkAll r
def uptoBulkEntries {H : Type} : List (Lit × DataW H) → Nat
  | [] => 0
  | x :: r => uptoBulkEntry x + uptoBulkEntries r
def uptoBulkEntry {H : Type} : Lit × DataW H → Nat
  | (.string bytes, d) => bytes.length + uptoBulk d + 1
  | (_, d) => uptoBulk d + 1
 end
def uptoSmall : (H : Type) → List (DataW H) → Bool := fun _ ds => decide (uptoBulkAll ds ≤ 1048576)
def OpenSpec.upto (s : _root_.Go.ChangeSpec) : _root_.Go.OpenSpec := { _root_.Go.OpenSpec.ofChange s with cond := some uptoSmall }

/-- 'colophonlaw16.TallyDoubles', WHERE WHAT IT READS IS OF BULK AT MOST 1048576: true; the input reads as it did. -/
def tallyDoublesUptoRow : OpenClaim := { program := "ytmdemfbkdbilpaa", sum := "eab22ec24dc9a95445729e2adcb1e9f74340138b8d3b8bb63d9039822d345ba7", func := "colophon/colophonlaw16.TallyDoubles", spec := "tallyDoubles", unfollowed := true, recurses := true, apart := false, narrowed := true }
def TallyDoublesUptoSaid : Prop := tallyDoublesUptoRow.holds Try.pinned (OpenSpec.upto tallyDoublesSpec)

/-- 'colophonlaw16.TallyDocs', WHERE WHAT IT READS IS OF BULK AT MOST 1048576: true; the input reads as it did. -/
def tallyDocsUptoRow : OpenClaim := { program := "ytmdemfbkdbilpaa", sum := "eab22ec24dc9a95445729e2adcb1e9f74340138b8d3b8bb63d9039822d345ba7", func := "colophon/colophonlaw16.TallyDocs", spec := "tallyDocs", unfollowed := true, recurses := true, apart := false, narrowed := true }
def TallyDocsUptoSaid : Prop := tallyDocsUptoRow.holds Try.pinned (OpenSpec.upto tallyDocsSpec)

/-- 'colophonlaw16.TallyAll', WHERE WHAT IT READS IS OF BULK AT MOST 1048576: true; the input reads as it did. -/
def tallyAllUptoRow : OpenClaim := { program := "ytmdemfbkdbilpaa", sum := "eab22ec24dc9a95445729e2adcb1e9f74340138b8d3b8bb63d9039822d345ba7", func := "colophon/colophonlaw16.TallyAll", spec := "tallyAll", unfollowed := true, recurses := true, apart := false, narrowed := true }
def TallyAllUptoSaid : Prop := tallyAllUptoRow.holds Try.pinned (OpenSpec.upto tallyAllSpec)

/-- 'colophonlaw16.TallyLinks', WHERE WHAT IT READS IS OF BULK AT MOST 1048576: true; the input reads as it did. -/
def tallyLinksUptoRow : OpenClaim := { program := "ytmdemfbkdbilpaa", sum := "eab22ec24dc9a95445729e2adcb1e9f74340138b8d3b8bb63d9039822d345ba7", func := "colophon/colophonlaw16.TallyLinks", spec := "tallyLinks", unfollowed := true, recurses := true, apart := false, narrowed := true }
def TallyLinksUptoSaid : Prop := tallyLinksUptoRow.holds Try.pinned (OpenSpec.upto tallyLinksSpec)

end Rows
end Go.Proofs.Ytmdemfbkdbilpaa
