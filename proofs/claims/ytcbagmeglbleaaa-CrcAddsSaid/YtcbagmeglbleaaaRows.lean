/-
  No cell of these rows narrows 'for every input' (looked for: loops, veiled, ifaces, maps, wideKeys, modest, calm, conditions, laid).
  DERIVED. THE GIVEN ROWS OF THIS SEAT. 5 by the template 'for every input the law returns true; each argument reads behind the call as it read before'; 0 by the template 'total and deterministic' (their statements: YtcbagmeglbleaaaTotals.lean).
  GIVEN WITH THE SEED: the statements are not yours to turn. If you find one false, say at which input.
  Laid BY PROGRAM, IN A SANDBOX (cutbox-rows.mjs): the forced cells as the released guide's own fill.sh prints them over the translation 5e70660718922e45… (all of the seat's roots in one cut). By AI agents, Wed Nov 11 2026. No macro, syntax, notation, axiom, sorry.
-/
import Derived.Test.YtcbagmeglbleaaaChecked
import GoSem.Claim
import GoSem.ClaimJoined
import GoSem.ClaimMapViews
import Derived.JoinedTies
import Derived.KernelRfl
namespace Go.Proofs.Ytcbagmeglbleaaa
/- THE CELL 'sum', in the pinned program and in every row, IS THE sha256 OF THE DUMP (.gsa) THAT YtcbagmeglbleaaaProg.lean LOADS. Nothing in Lean hashes anything: it is a label: what it is worth is what the hold of that sum in a sandbox is worth. -/
noncomputable def Try.pinned : Pinned := { name := "ytcbagmeglbleaaa", sum := "5e70660718922e45f330a876e99cd76b2aedfc01b9a2593ff0494787245112d3", checked := Try.checked }
namespace Rows
def none {H : Type} : Left H := { results := [], args := [] }

/-- 'colophonlaw04.CrcPuts': WHATEVER THE INPUT: true; the input reads as it did. -/
def crcPutsSpec : ChangeSpec := { name := "crcPuts", fn := fun _ => fun
  | [d1, d2] => { results := [.lit (.bool true)], args := [d1, d2] }
  | _ => none }
def crcPutsRow : OpenClaim := { program := "ytcbagmeglbleaaa", sum := "5e70660718922e45f330a876e99cd76b2aedfc01b9a2593ff0494787245112d3", func := "colophon/colophonlaw04.CrcPuts", spec := "crcPuts", apart := false }
def CrcPutsSaid : Prop := crcPutsRow.holds Try.pinned (OpenSpec.ofChange crcPutsSpec)

/-- ITS FALSE NEIGHBOUR: 'it returns false'. Refute it at one input. -/
def crcPutsWrong : ChangeSpec := { name := "crcPuts", fn := fun _ => fun
  | [d1, d2] => { results := [.lit (.bool false)], args := [d1, d2] }
  | _ => none }
def CrcPutsWrongFalsely : Prop := crcPutsRow.holds Try.pinned (OpenSpec.ofChange crcPutsWrong)

/-- 'colophonlaw04.CrcCuts': WHATEVER THE INPUT: true; the input reads as it did. -/
def crcCutsSpec : ChangeSpec := { name := "crcCuts", fn := fun _ => fun
  | [d] => { results := [.lit (.bool true)], args := [d] }
  | _ => none }
def crcCutsRow : OpenClaim := { program := "ytcbagmeglbleaaa", sum := "5e70660718922e45f330a876e99cd76b2aedfc01b9a2593ff0494787245112d3", func := "colophon/colophonlaw04.CrcCuts", spec := "crcCuts", apart := false }
def CrcCutsSaid : Prop := crcCutsRow.holds Try.pinned (OpenSpec.ofChange crcCutsSpec)

/-- ITS FALSE NEIGHBOUR: 'it returns false'. Refute it at one input. -/
def crcCutsWrong : ChangeSpec := { name := "crcCuts", fn := fun _ => fun
  | [d] => { results := [.lit (.bool false)], args := [d] }
  | _ => none }
def CrcCutsWrongFalsely : Prop := crcCutsRow.holds Try.pinned (OpenSpec.ofChange crcCutsWrong)

/-- 'colophonlaw04.CrcRows': WHATEVER THE INPUT: true; the input reads as it did. -/
def crcRowsSpec : ChangeSpec := { name := "crcRows", fn := fun _ => fun
  | [d1, d2, d3] => { results := [.lit (.bool true)], args := [d1, d2, d3] }
  | _ => none }
def crcRowsRow : OpenClaim := { program := "ytcbagmeglbleaaa", sum := "5e70660718922e45f330a876e99cd76b2aedfc01b9a2593ff0494787245112d3", func := "colophon/colophonlaw04.CrcRows", spec := "crcRows", apart := false }
def CrcRowsSaid : Prop := crcRowsRow.holds Try.pinned (OpenSpec.ofChange crcRowsSpec)

/-- ITS FALSE NEIGHBOUR: 'it returns false'. Refute it at one input. -/
def crcRowsWrong : ChangeSpec := { name := "crcRows", fn := fun _ => fun
  | [d1, d2, d3] => { results := [.lit (.bool false)], args := [d1, d2, d3] }
  | _ => none }
def CrcRowsWrongFalsely : Prop := crcRowsRow.holds Try.pinned (OpenSpec.ofChange crcRowsWrong)

/-- 'colophonlaw04.CrcAdds': WHATEVER THE INPUT: true; the input reads as it did. -/
def crcAddsSpec : ChangeSpec := { name := "crcAdds", fn := fun _ => fun
  | [d1, d2, d3] => { results := [.lit (.bool true)], args := [d1, d2, d3] }
  | _ => none }
def crcAddsRow : OpenClaim := { program := "ytcbagmeglbleaaa", sum := "5e70660718922e45f330a876e99cd76b2aedfc01b9a2593ff0494787245112d3", func := "colophon/colophonlaw04.CrcAdds", spec := "crcAdds", apart := false }
def CrcAddsSaid : Prop := crcAddsRow.holds Try.pinned (OpenSpec.ofChange crcAddsSpec)

/-- ITS FALSE NEIGHBOUR: 'it returns false'. Refute it at one input. -/
def crcAddsWrong : ChangeSpec := { name := "crcAdds", fn := fun _ => fun
  | [d1, d2, d3] => { results := [.lit (.bool false)], args := [d1, d2, d3] }
  | _ => none }
def CrcAddsWrongFalsely : Prop := crcAddsRow.holds Try.pinned (OpenSpec.ofChange crcAddsWrong)

/-- 'colophonlaw04.CrcTwice': WHATEVER THE INPUT: true; the input reads as it did. -/
def crcTwiceSpec : ChangeSpec := { name := "crcTwice", fn := fun _ => fun
  | [d] => { results := [.lit (.bool true)], args := [d] }
  | _ => none }
def crcTwiceRow : OpenClaim := { program := "ytcbagmeglbleaaa", sum := "5e70660718922e45f330a876e99cd76b2aedfc01b9a2593ff0494787245112d3", func := "colophon/colophonlaw04.CrcTwice", spec := "crcTwice", apart := false }
def CrcTwiceSaid : Prop := crcTwiceRow.holds Try.pinned (OpenSpec.ofChange crcTwiceSpec)

/-- ITS FALSE NEIGHBOUR: 'it returns false'. Refute it at one input. -/
def crcTwiceWrong : ChangeSpec := { name := "crcTwice", fn := fun _ => fun
  | [d] => { results := [.lit (.bool false)], args := [d] }
  | _ => none }
def CrcTwiceWrongFalsely : Prop := crcTwiceRow.holds Try.pinned (OpenSpec.ofChange crcTwiceWrong)

/- THE SECOND FORM. 'bulk': how many values and letters a reading holds, each counted each time it is reached (what is shared counts as often as it is met; a slice's spare places count too). A statement '..UptoSaid' is the law's where the arguments, and the package variables that the reading takes, are together of bulk at most 1048576: NARROWER than '..Said'. Prove '..Said' where nothing that the law and all that it calls make is longer than what came in: it says more and counts as full. Else prove '..UptoSaid'. A law counts once. -/
mutual
def uptoBulk {H : Type} : DataW H → Nat
  | .lit (.string bytes) => bytes.length + 1
  | .lit _ => 1
  | .nil => 1
  | .ptr d => uptoBulk d + 1
  | .slice elems spare => uptoBulkAll elems + uptoBulkAll spare + 1
  | .agg parts => uptoBulkAll parts + 1
  | .iface _ d => uptoBulk d + 1
  | .map entries => uptoBulkEntries entries + 1
  | .held _ => 1
def uptoBulkAll {H : Type} : List (DataW H) → Nat
  | [] => 0
  | d :: r => uptoBulk d + uptoBulkAll r
def uptoBulkEntries {H : Type} : List (Lit × DataW H) → Nat
  | [] => 0
  | x :: r => uptoBulkEntry x + uptoBulkEntries r
def uptoBulkEntry {H : Type} : Lit × DataW H → Nat
  | (.string bytes, d) => bytes.length + uptoBulk d + 1
  | (_, d) => uptoBulk d + 1
 end
def uptoSmall : (H : Type) → List (DataW H) → Bool := fun _ ds => decide (uptoBulkAll ds ≤ 1048576)
def OpenSpec.upto (s : _root_.Go.ChangeSpec) : _root_.Go.OpenSpec := { _root_.Go.OpenSpec.ofChange s with cond := some uptoSmall }

/-- 'colophonlaw04.CrcPuts', WHERE WHAT IT READS IS OF BULK AT MOST 1048576: true; the input reads as it did. -/
def crcPutsUptoRow : OpenClaim := { program := "ytcbagmeglbleaaa", sum := "5e70660718922e45f330a876e99cd76b2aedfc01b9a2593ff0494787245112d3", func := "colophon/colophonlaw04.CrcPuts", spec := "crcPuts", apart := false, narrowed := true }
def CrcPutsUptoSaid : Prop := crcPutsUptoRow.holds Try.pinned (OpenSpec.upto crcPutsSpec)

/-- 'colophonlaw04.CrcCuts', WHERE WHAT IT READS IS OF BULK AT MOST 1048576: true; the input reads as it did. -/
def crcCutsUptoRow : OpenClaim := { program := "ytcbagmeglbleaaa", sum := "5e70660718922e45f330a876e99cd76b2aedfc01b9a2593ff0494787245112d3", func := "colophon/colophonlaw04.CrcCuts", spec := "crcCuts", apart := false, narrowed := true }
def CrcCutsUptoSaid : Prop := crcCutsUptoRow.holds Try.pinned (OpenSpec.upto crcCutsSpec)

/-- 'colophonlaw04.CrcRows', WHERE WHAT IT READS IS OF BULK AT MOST 1048576: true; the input reads as it did. -/
def crcRowsUptoRow : OpenClaim := { program := "ytcbagmeglbleaaa", sum := "5e70660718922e45f330a876e99cd76b2aedfc01b9a2593ff0494787245112d3", func := "colophon/colophonlaw04.CrcRows", spec := "crcRows", apart := false, narrowed := true }
def CrcRowsUptoSaid : Prop := crcRowsUptoRow.holds Try.pinned (OpenSpec.upto crcRowsSpec)

/-- 'colophonlaw04.CrcAdds', WHERE WHAT IT READS IS OF BULK AT MOST 1048576: true; the input reads as it did. -/
def crcAddsUptoRow : OpenClaim := { program := "ytcbagmeglbleaaa", sum := "5e70660718922e45f330a876e99cd76b2aedfc01b9a2593ff0494787245112d3", func := "colophon/colophonlaw04.CrcAdds", spec := "crcAdds", apart := false, narrowed := true }
def CrcAddsUptoSaid : Prop := crcAddsUptoRow.holds Try.pinned (OpenSpec.upto crcAddsSpec)

/-- 'colophonlaw04.CrcTwice', WHERE WHAT IT READS IS OF BULK AT MOST 1048576: true; the input reads as it did. -/
def crcTwiceUptoRow : OpenClaim := { program := "ytcbagmeglbleaaa", sum := "5e70660718922e45f330a876e99cd76b2aedfc01b9a2593ff0494787245112d3", func := "colophon/colophonlaw04.CrcTwice", spec := "crcTwice", apart := false, narrowed := true }
def CrcTwiceUptoSaid : Prop := crcTwiceUptoRow.holds Try.pinned (OpenSpec.upto crcTwiceSpec)

end Rows
end Go.Proofs.Ytcbagmeglbleaaa
