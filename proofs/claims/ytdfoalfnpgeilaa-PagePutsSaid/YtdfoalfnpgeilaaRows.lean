/-
  No cell of these rows narrows 'for every input' (looked for: loops, veiled, ifaces, maps, wideKeys, modest, calm, conditions, laid).
  DERIVED. THE GIVEN ROWS OF THIS SEAT. 5 by the template 'for every input the law returns true; each argument reads behind the call as it read before'; 0 by the template 'total and deterministic' (their statements: YtdfoalfnpgeilaaTotals.lean).
  GIVEN WITH THE SEED: the statements are not yours to turn. If you find one false, say at which input.
  Laid BY PROGRAM, IN A SANDBOX (cutbox-rows.mjs): the forced cells as the released guide's own fill.sh prints them over the translation 1db85014317e95e6… (all of the seat's roots in one cut). By AI agents, Wed Nov 11 2026. No macro, syntax, notation, axiom, sorry.
-/
import Derived.Test.YtdfoalfnpgeilaaChecked
import GoSem.Claim
import GoSem.ClaimJoined
import GoSem.ClaimMapViews
import Derived.JoinedTies
import Derived.KernelRfl
namespace Go.Proofs.Ytdfoalfnpgeilaa
/- THE CELL 'sum', in the pinned program and in every row, IS THE sha256 OF THE DUMP (.gsa) THAT YtdfoalfnpgeilaaProg.lean LOADS. Nothing in Lean hashes anything: it is a label: what it is worth is what the hold of that sum in a sandbox is worth. -/
noncomputable def Try.pinned : Pinned := { name := "ytdfoalfnpgeilaa", sum := "1db85014317e95e6e2501489921d01c72a3b124b7f6bf630ee1be740b86c0585", checked := Try.checked }
namespace Rows
def none {H : Type} : Left H := { results := [], args := [] }

/-- 'colophonlaw05.PagePuts': WHATEVER THE INPUT: true; the input reads as it did. -/
def pagePutsSpec : ChangeSpec := { name := "pagePuts", fn := fun _ => fun
  | [d1, d2] => { results := [.lit (.bool true)], args := [d1, d2] }
  | _ => none }
def pagePutsRow : OpenClaim := { program := "ytdfoalfnpgeilaa", sum := "1db85014317e95e6e2501489921d01c72a3b124b7f6bf630ee1be740b86c0585", func := "colophon/colophonlaw05.PagePuts", spec := "pagePuts", apart := false }
def PagePutsSaid : Prop := pagePutsRow.holds Try.pinned (OpenSpec.ofChange pagePutsSpec)

/-- ITS FALSE NEIGHBOUR: 'it returns false'. Refute it at one input. -/
def pagePutsWrong : ChangeSpec := { name := "pagePuts", fn := fun _ => fun
  | [d1, d2] => { results := [.lit (.bool false)], args := [d1, d2] }
  | _ => none }
def PagePutsWrongFalsely : Prop := pagePutsRow.holds Try.pinned (OpenSpec.ofChange pagePutsWrong)

/-- 'colophonlaw05.PageGets': WHATEVER THE INPUT: true; the input reads as it did. -/
def pageGetsSpec : ChangeSpec := { name := "pageGets", fn := fun _ => fun
  | [d1, d2] => { results := [.lit (.bool true)], args := [d1, d2] }
  | _ => none }
def pageGetsRow : OpenClaim := { program := "ytdfoalfnpgeilaa", sum := "1db85014317e95e6e2501489921d01c72a3b124b7f6bf630ee1be740b86c0585", func := "colophon/colophonlaw05.PageGets", spec := "pageGets", apart := false }
def PageGetsSaid : Prop := pageGetsRow.holds Try.pinned (OpenSpec.ofChange pageGetsSpec)

/-- ITS FALSE NEIGHBOUR: 'it returns false'. Refute it at one input. -/
def pageGetsWrong : ChangeSpec := { name := "pageGets", fn := fun _ => fun
  | [d1, d2] => { results := [.lit (.bool false)], args := [d1, d2] }
  | _ => none }
def PageGetsWrongFalsely : Prop := pageGetsRow.holds Try.pinned (OpenSpec.ofChange pageGetsWrong)

/-- 'colophonlaw05.PageRows': WHATEVER THE INPUT: true; the input reads as it did. -/
def pageRowsSpec : ChangeSpec := { name := "pageRows", fn := fun _ => fun
  | [d1, d2, d3] => { results := [.lit (.bool true)], args := [d1, d2, d3] }
  | _ => none }
def pageRowsRow : OpenClaim := { program := "ytdfoalfnpgeilaa", sum := "1db85014317e95e6e2501489921d01c72a3b124b7f6bf630ee1be740b86c0585", func := "colophon/colophonlaw05.PageRows", spec := "pageRows", apart := false }
def PageRowsSaid : Prop := pageRowsRow.holds Try.pinned (OpenSpec.ofChange pageRowsSpec)

/-- ITS FALSE NEIGHBOUR: 'it returns false'. Refute it at one input. -/
def pageRowsWrong : ChangeSpec := { name := "pageRows", fn := fun _ => fun
  | [d1, d2, d3] => { results := [.lit (.bool false)], args := [d1, d2, d3] }
  | _ => none }
def PageRowsWrongFalsely : Prop := pageRowsRow.holds Try.pinned (OpenSpec.ofChange pageRowsWrong)

/-- 'colophonlaw05.PageCounts': WHATEVER THE INPUT: true; the input reads as it did. -/
def pageCountsSpec : ChangeSpec := { name := "pageCounts", fn := fun _ => fun
  | [d] => { results := [.lit (.bool true)], args := [d] }
  | _ => none }
def pageCountsRow : OpenClaim := { program := "ytdfoalfnpgeilaa", sum := "1db85014317e95e6e2501489921d01c72a3b124b7f6bf630ee1be740b86c0585", func := "colophon/colophonlaw05.PageCounts", spec := "pageCounts", apart := false }
def PageCountsSaid : Prop := pageCountsRow.holds Try.pinned (OpenSpec.ofChange pageCountsSpec)

/-- ITS FALSE NEIGHBOUR: 'it returns false'. Refute it at one input. -/
def pageCountsWrong : ChangeSpec := { name := "pageCounts", fn := fun _ => fun
  | [d] => { results := [.lit (.bool false)], args := [d] }
  | _ => none }
def PageCountsWrongFalsely : Prop := pageCountsRow.holds Try.pinned (OpenSpec.ofChange pageCountsWrong)

/-- 'colophonlaw05.PageApart': WHATEVER THE INPUT: true; the input reads as it did. -/
def pageApartSpec : ChangeSpec := { name := "pageApart", fn := fun _ => fun
  | [d1, d2, d3] => { results := [.lit (.bool true)], args := [d1, d2, d3] }
  | _ => none }
def pageApartRow : OpenClaim := { program := "ytdfoalfnpgeilaa", sum := "1db85014317e95e6e2501489921d01c72a3b124b7f6bf630ee1be740b86c0585", func := "colophon/colophonlaw05.PageApart", spec := "pageApart", apart := false }
def PageApartSaid : Prop := pageApartRow.holds Try.pinned (OpenSpec.ofChange pageApartSpec)

/-- ITS FALSE NEIGHBOUR: 'it returns false'. Refute it at one input. -/
def pageApartWrong : ChangeSpec := { name := "pageApart", fn := fun _ => fun
  | [d1, d2, d3] => { results := [.lit (.bool false)], args := [d1, d2, d3] }
  | _ => none }
def PageApartWrongFalsely : Prop := pageApartRow.holds Try.pinned (OpenSpec.ofChange pageApartWrong)

/- THE SECOND FORM. 'bulk': how many values and letters a reading holds, each counted each time it is reached (what is shared counts as often as it is met; a slice's spare places count too). A statement '..UptoSaid' is the law's where the arguments, and the package variables that the reading takes, are together of bulk at most 1048576: NARROWER than '..Said'. Prove '..Said' where nothing that the law and all that it calls make is longer than what came in: it says more and counts as full. Else prove '..UptoSaid'. A law counts once. -/
mutual
def uptoBulk {H : Type} : DataW H → Nat
  | .lit (.string bytes) => bytes.length + 1
  | .lit _ => 1
  | .nil => 1
  | .ptr d => uptoBulk d + 1
  | .slice elems spare => uptoBulkAll elems + uptoBulkAll spare + 1
  | .agg parts => uptoBulkAll parts + 1
  | .iface _ d => uptoBulk d + 1
  | .map entries => uptoBulkEntries entries + 1
  | .held _ => 1
def uptoBulkAll {H : Type} : List (DataW H) → Nat
  | [] => 0
  | d :: r => uptoBulk d + uptoBulkAll r
def uptoBulkEntries {H : Type} : List (Lit × DataW H) → Nat
  | [] => 0
  | x :: r => uptoBulkEntry x + uptoBulkEntries r
def uptoBulkEntry {H : Type} : Lit × DataW H → Nat
  | (.string bytes, d) => bytes.length + uptoBulk d + 1
  | (_, d) => uptoBulk d + 1
 end
def uptoSmall : (H : Type) → List (DataW H) → Bool := fun _ ds => decide (uptoBulkAll ds ≤ 1048576)
def OpenSpec.upto (s : _root_.Go.ChangeSpec) : _root_.Go.OpenSpec := { _root_.Go.OpenSpec.ofChange s with cond := some uptoSmall }

/-- 'colophonlaw05.PagePuts', WHERE WHAT IT READS IS OF BULK AT MOST 1048576: true; the input reads as it did. -/
def pagePutsUptoRow : OpenClaim := { program := "ytdfoalfnpgeilaa", sum := "1db85014317e95e6e2501489921d01c72a3b124b7f6bf630ee1be740b86c0585", func := "colophon/colophonlaw05.PagePuts", spec := "pagePuts", apart := false, narrowed := true }
def PagePutsUptoSaid : Prop := pagePutsUptoRow.holds Try.pinned (OpenSpec.upto pagePutsSpec)

/-- 'colophonlaw05.PageGets', WHERE WHAT IT READS IS OF BULK AT MOST 1048576: true; the input reads as it did. -/
def pageGetsUptoRow : OpenClaim := { program := "ytdfoalfnpgeilaa", sum := "1db85014317e95e6e2501489921d01c72a3b124b7f6bf630ee1be740b86c0585", func := "colophon/colophonlaw05.PageGets", spec := "pageGets", apart := false, narrowed := true }
def PageGetsUptoSaid : Prop := pageGetsUptoRow.holds Try.pinned (OpenSpec.upto pageGetsSpec)

/-- 'colophonlaw05.PageRows', WHERE WHAT IT READS IS OF BULK AT MOST 1048576: true; the input reads as it did. -/
def pageRowsUptoRow : OpenClaim := { program := "ytdfoalfnpgeilaa", sum := "1db85014317e95e6e2501489921d01c72a3b124b7f6bf630ee1be740b86c0585", func := "colophon/colophonlaw05.PageRows", spec := "pageRows", apart := false, narrowed := true }
def PageRowsUptoSaid : Prop := pageRowsUptoRow.holds Try.pinned (OpenSpec.upto pageRowsSpec)

/-- 'colophonlaw05.PageCounts', WHERE WHAT IT READS IS OF BULK AT MOST 1048576: true; the input reads as it did. -/
def pageCountsUptoRow : OpenClaim := { program := "ytdfoalfnpgeilaa", sum := "1db85014317e95e6e2501489921d01c72a3b124b7f6bf630ee1be740b86c0585", func := "colophon/colophonlaw05.PageCounts", spec := "pageCounts", apart := false, narrowed := true }
def PageCountsUptoSaid : Prop := pageCountsUptoRow.holds Try.pinned (OpenSpec.upto pageCountsSpec)

/-- 'colophonlaw05.PageApart', WHERE WHAT IT READS IS OF BULK AT MOST 1048576: true; the input reads as it did. -/
def pageApartUptoRow : OpenClaim := { program := "ytdfoalfnpgeilaa", sum := "1db85014317e95e6e2501489921d01c72a3b124b7f6bf630ee1be740b86c0585", func := "colophon/colophonlaw05.PageApart", spec := "pageApart", apart := false, narrowed := true }
def PageApartUptoSaid : Prop := pageApartUptoRow.holds Try.pinned (OpenSpec.upto pageApartSpec)

end Rows
end Go.Proofs.Ytdfoalfnpgeilaa
