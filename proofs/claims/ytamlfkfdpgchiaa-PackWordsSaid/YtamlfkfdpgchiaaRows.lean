/-
  No cell of these rows narrows 'for every input' (looked for: loops, veiled, ifaces, maps, wideKeys, modest, calm, conditions, laid).
  DERIVED. THE GIVEN ROWS OF THIS SEAT. 6 by the template 'for every input the law returns true; each argument reads behind the call as it read before'; 0 by the template 'total and deterministic' (their statements: YtamlfkfdpgchiaaTotals.lean).
  GIVEN WITH THE SEED: the statements are not yours to turn. If you find one false, say at which input.
  Laid BY PROGRAM, IN A SANDBOX (cutbox-rows.mjs): the forced cells as the released guide's own fill.sh prints them over the translation 1ab3f78b1196ea1b… (all of the seat's roots in one cut). By AI agents, Wed Nov 11 2026. No macro, syntax, notation, axiom, sorry.
-/
import Derived.Test.YtamlfkfdpgchiaaChecked
import GoSem.Claim
import GoSem.ClaimJoined
import GoSem.ClaimMapViews
import Derived.JoinedTies
import Derived.KernelRfl
namespace Go.Proofs.Ytamlfkfdpgchiaa
/- THE CELL 'sum', in the pinned program and in every row, IS THE sha256 OF THE DUMP (.gsa) THAT YtamlfkfdpgchiaaProg.lean LOADS. Nothing in Lean hashes anything: it is a label: what it is worth is what the hold of that sum in a sandbox is worth. -/
noncomputable def Try.pinned : Pinned := { name := "ytamlfkfdpgchiaa", sum := "1ab3f78b1196ea1b651da6800c48bb2952a60101baa51363c2e687724db87ba7", checked := Try.checked }
namespace Rows
def none {H : Type} : Left H := { results := [], args := [] }

/-- 'colophonlaw01.PackWidths': WHATEVER THE INPUT: true; the input reads as it did. -/
def packWidthsSpec : ChangeSpec := { name := "packWidths", fn := fun _ => fun
  | [d] => { results := [.lit (.bool true)], args := [d] }
  | _ => none }
def packWidthsRow : OpenClaim := { program := "ytamlfkfdpgchiaa", sum := "1ab3f78b1196ea1b651da6800c48bb2952a60101baa51363c2e687724db87ba7", func := "colophon/colophonlaw01.PackWidths", spec := "packWidths", apart := false }
def PackWidthsSaid : Prop := packWidthsRow.holds Try.pinned (OpenSpec.ofChange packWidthsSpec)

/-- ITS FALSE NEIGHBOUR: 'it returns false'. Refute it at one input. -/
def packWidthsWrong : ChangeSpec := { name := "packWidths", fn := fun _ => fun
  | [d] => { results := [.lit (.bool false)], args := [d] }
  | _ => none }
def PackWidthsWrongFalsely : Prop := packWidthsRow.holds Try.pinned (OpenSpec.ofChange packWidthsWrong)

/-- 'colophonlaw01.PackWords': WHATEVER THE INPUT: true; the input reads as it did. -/
def packWordsSpec : ChangeSpec := { name := "packWords", fn := fun _ => fun
  | [d1, d2] => { results := [.lit (.bool true)], args := [d1, d2] }
  | _ => none }
def packWordsRow : OpenClaim := { program := "ytamlfkfdpgchiaa", sum := "1ab3f78b1196ea1b651da6800c48bb2952a60101baa51363c2e687724db87ba7", func := "colophon/colophonlaw01.PackWords", spec := "packWords", apart := false }
def PackWordsSaid : Prop := packWordsRow.holds Try.pinned (OpenSpec.ofChange packWordsSpec)

/-- ITS FALSE NEIGHBOUR: 'it returns false'. Refute it at one input. -/
def packWordsWrong : ChangeSpec := { name := "packWords", fn := fun _ => fun
  | [d1, d2] => { results := [.lit (.bool false)], args := [d1, d2] }
  | _ => none }
def PackWordsWrongFalsely : Prop := packWordsRow.holds Try.pinned (OpenSpec.ofChange packWordsWrong)

/-- 'colophonlaw01.PackLast': WHATEVER THE INPUT: true; the input reads as it did. -/
def packLastSpec : ChangeSpec := { name := "packLast", fn := fun _ => fun
  | [d1, d2] => { results := [.lit (.bool true)], args := [d1, d2] }
  | _ => none }
def packLastRow : OpenClaim := { program := "ytamlfkfdpgchiaa", sum := "1ab3f78b1196ea1b651da6800c48bb2952a60101baa51363c2e687724db87ba7", func := "colophon/colophonlaw01.PackLast", spec := "packLast", apart := false }
def PackLastSaid : Prop := packLastRow.holds Try.pinned (OpenSpec.ofChange packLastSpec)

/-- ITS FALSE NEIGHBOUR: 'it returns false'. Refute it at one input. -/
def packLastWrong : ChangeSpec := { name := "packLast", fn := fun _ => fun
  | [d1, d2] => { results := [.lit (.bool false)], args := [d1, d2] }
  | _ => none }
def PackLastWrongFalsely : Prop := packLastRow.holds Try.pinned (OpenSpec.ofChange packLastWrong)

/-- 'colophonlaw01.PackFrom': WHATEVER THE INPUT: true; the input reads as it did. -/
def packFromSpec : ChangeSpec := { name := "packFrom", fn := fun _ => fun
  | [d1, d2, d3] => { results := [.lit (.bool true)], args := [d1, d2, d3] }
  | _ => none }
def packFromRow : OpenClaim := { program := "ytamlfkfdpgchiaa", sum := "1ab3f78b1196ea1b651da6800c48bb2952a60101baa51363c2e687724db87ba7", func := "colophon/colophonlaw01.PackFrom", spec := "packFrom", apart := false }
def PackFromSaid : Prop := packFromRow.holds Try.pinned (OpenSpec.ofChange packFromSpec)

/-- ITS FALSE NEIGHBOUR: 'it returns false'. Refute it at one input. -/
def packFromWrong : ChangeSpec := { name := "packFrom", fn := fun _ => fun
  | [d1, d2, d3] => { results := [.lit (.bool false)], args := [d1, d2, d3] }
  | _ => none }
def PackFromWrongFalsely : Prop := packFromRow.holds Try.pinned (OpenSpec.ofChange packFromWrong)

/-- 'colophonlaw01.PackPlays': WHATEVER THE INPUT: true; the input reads as it did. -/
def packPlaysSpec : ChangeSpec := { name := "packPlays", fn := fun _ => fun
  | [d1, d2, d3] => { results := [.lit (.bool true)], args := [d1, d2, d3] }
  | _ => none }
def packPlaysRow : OpenClaim := { program := "ytamlfkfdpgchiaa", sum := "1ab3f78b1196ea1b651da6800c48bb2952a60101baa51363c2e687724db87ba7", func := "colophon/colophonlaw01.PackPlays", spec := "packPlays", apart := false }
def PackPlaysSaid : Prop := packPlaysRow.holds Try.pinned (OpenSpec.ofChange packPlaysSpec)

/-- ITS FALSE NEIGHBOUR: 'it returns false'. Refute it at one input. -/
def packPlaysWrong : ChangeSpec := { name := "packPlays", fn := fun _ => fun
  | [d1, d2, d3] => { results := [.lit (.bool false)], args := [d1, d2, d3] }
  | _ => none }
def PackPlaysWrongFalsely : Prop := packPlaysRow.holds Try.pinned (OpenSpec.ofChange packPlaysWrong)

/-- 'colophonlaw01.PackApart': WHATEVER THE INPUT: true; the input reads as it did. -/
def packApartSpec : ChangeSpec := { name := "packApart", fn := fun _ => fun
  | [d1, d2, d3] => { results := [.lit (.bool true)], args := [d1, d2, d3] }
  | _ => none }
def packApartRow : OpenClaim := { program := "ytamlfkfdpgchiaa", sum := "1ab3f78b1196ea1b651da6800c48bb2952a60101baa51363c2e687724db87ba7", func := "colophon/colophonlaw01.PackApart", spec := "packApart", apart := false }
def PackApartSaid : Prop := packApartRow.holds Try.pinned (OpenSpec.ofChange packApartSpec)

/-- ITS FALSE NEIGHBOUR: 'it returns false'. Refute it at one input. -/
def packApartWrong : ChangeSpec := { name := "packApart", fn := fun _ => fun
  | [d1, d2, d3] => { results := [.lit (.bool false)], args := [d1, d2, d3] }
  | _ => none }
def PackApartWrongFalsely : Prop := packApartRow.holds Try.pinned (OpenSpec.ofChange packApartWrong)

/- THE SECOND FORM. 'bulk': how many values and letters a reading holds, each counted each time it is reached (what is shared counts as often as it is met; a slice's spare places count too). A statement '..UptoSaid' is the law's where the arguments, and the package variables that the reading takes, are together of bulk at most 1048576: NARROWER than '..Said'. Prove '..Said' where nothing that the law and all that it calls make is longer than what came in: it says more and counts as full. Else prove '..UptoSaid'. A law counts once. -/
mutual
def uptoBulk {H : Type} : DataW H → Nat
  | .lit (.string bytes) => bytes.length + 1
  | .lit _ => 1
  | .nil => 1
  | .ptr d => uptoBulk d + 1
  | .slice elems spare => uptoBulkAll elems + uptoBulkAll spare + 1
  | .agg parts => uptoBulkAll parts + 1
  | .iface _ d => uptoBulk d + 1
  | .map entries => uptoBulkEntries entries + 1
  | .held _ => 1
def uptoBulkAll {H : Type} : List (DataW H) → Nat
  | [] => 0
  | d :: r => uptoBulk d + uptoBulkAll r
def uptoBulkEntries {H : Type} : List (Lit × DataW H) → Nat
  | [] => 0
  | x :: r => uptoBulkEntry x + uptoBulkEntries r
def uptoBulkEntry {H : Type} : Lit × DataW H → Nat
  | (.string bytes, d) => bytes.length + uptoBulk d + 1
  | (_, d) => uptoBulk d + 1
 end
def uptoSmall : (H : Type) → List (DataW H) → Bool := fun _ ds => decide (uptoBulkAll ds ≤ 1048576)
def OpenSpec.upto (s : _root_.Go.ChangeSpec) : _root_.Go.OpenSpec := { _root_.Go.OpenSpec.ofChange s with cond := some uptoSmall }

/-- 'colophonlaw01.PackWidths', WHERE WHAT IT READS IS OF BULK AT MOST 1048576: true; the input reads as it did. -/
def packWidthsUptoRow : OpenClaim := { program := "ytamlfkfdpgchiaa", sum := "1ab3f78b1196ea1b651da6800c48bb2952a60101baa51363c2e687724db87ba7", func := "colophon/colophonlaw01.PackWidths", spec := "packWidths", apart := false, narrowed := true }
def PackWidthsUptoSaid : Prop := packWidthsUptoRow.holds Try.pinned (OpenSpec.upto packWidthsSpec)

/-- 'colophonlaw01.PackWords', WHERE WHAT IT READS IS OF BULK AT MOST 1048576: true; the input reads as it did. -/
def packWordsUptoRow : OpenClaim := { program := "ytamlfkfdpgchiaa", sum := "1ab3f78b1196ea1b651da6800c48bb2952a60101baa51363c2e687724db87ba7", func := "colophon/colophonlaw01.PackWords", spec := "packWords", apart := false, narrowed := true }
def PackWordsUptoSaid : Prop := packWordsUptoRow.holds Try.pinned (OpenSpec.upto packWordsSpec)

/-- 'colophonlaw01.PackLast', WHERE WHAT IT READS IS OF BULK AT MOST 1048576: true; the input reads as it did. -/
def packLastUptoRow : OpenClaim := { program := "ytamlfkfdpgchiaa", sum := "1ab3f78b1196ea1b651da6800c48bb2952a60101baa51363c2e687724db87ba7", func := "colophon/colophonlaw01.PackLast", spec := "packLast", apart := false, narrowed := true }
def PackLastUptoSaid : Prop := packLastUptoRow.holds Try.pinned (OpenSpec.upto packLastSpec)

/-- 'colophonlaw01.PackFrom', WHERE WHAT IT READS IS OF BULK AT MOST 1048576: true; the input reads as it did. -/
def packFromUptoRow : OpenClaim := { program := "ytamlfkfdpgchiaa", sum := "1ab3f78b1196ea1b651da6800c48bb2952a60101baa51363c2e687724db87ba7", func := "colophon/colophonlaw01.PackFrom", spec := "packFrom", apart := false, narrowed := true }
def PackFromUptoSaid : Prop := packFromUptoRow.holds Try.pinned (OpenSpec.upto packFromSpec)

/-- 'colophonlaw01.PackPlays', WHERE WHAT IT READS IS OF BULK AT MOST 1048576: true; the input reads as it did. -/
def packPlaysUptoRow : OpenClaim := { program := "ytamlfkfdpgchiaa", sum := "1ab3f78b1196ea1b651da6800c48bb2952a60101baa51363c2e687724db87ba7", func := "colophon/colophonlaw01.PackPlays", spec := "packPlays", apart := false, narrowed := true }
def PackPlaysUptoSaid : Prop := packPlaysUptoRow.holds Try.pinned (OpenSpec.upto packPlaysSpec)

/-- 'colophonlaw01.PackApart', WHERE WHAT IT READS IS OF BULK AT MOST 1048576: true; the input reads as it did. -/
def packApartUptoRow : OpenClaim := { program := "ytamlfkfdpgchiaa", sum := "1ab3f78b1196ea1b651da6800c48bb2952a60101baa51363c2e687724db87ba7", func := "colophon/colophonlaw01.PackApart", spec := "packApart", apart := false, narrowed := true }
def PackApartUptoSaid : Prop := packApartUptoRow.holds Try.pinned (OpenSpec.upto packApartSpec)

end Rows
end Go.Proofs.Ytamlfkfdpgchiaa
