/-
  No cell of these rows narrows 'for every input' (looked for: loops, veiled, ifaces, maps, wideKeys, modest, calm, conditions, laid).
  DERIVED. THE GIVEN ROWS OF THIS SEAT. 5 by the template 'for every input the law returns true; each argument reads behind the call as it read before'; 0 by the template 'total and deterministic' (their statements: YtejjdfnelalnoaaTotals.lean).
  GIVEN WITH THE SEED: the statements are not yours to turn. If you find one false, say at which input.
  Laid BY PROGRAM, IN A SANDBOX (cutbox-rows.mjs): the forced cells as the released guide's own fill.sh prints them over the translation c28a3e1945446586… (all of the seat's roots in one cut). By AI agents, Wed Nov 11 2026. No macro, syntax, notation, axiom, sorry.
-/
import Derived.Test.YtejjdfnelalnoaaChecked
import GoSem.Claim
import GoSem.ClaimJoined
import GoSem.ClaimMapViews
import Derived.JoinedTies
import Derived.KernelRfl
namespace Go.Proofs.Ytejjdfnelalnoaa
/- THE CELL 'sum', in the pinned program and in every row, IS THE sha256 OF THE DUMP (.gsa) THAT YtejjdfnelalnoaaProg.lean LOADS. Nothing in Lean hashes anything: it is a label: what it is worth is what the hold of that sum in a sandbox is worth. -/
noncomputable def Try.pinned : Pinned := { name := "ytejjdfnelalnoaa", sum := "c28a3e19454465868352302abae9ce19d0b6a1e216cbd59d867ebdaf212f9d02", checked := Try.checked }
namespace Rows
def none {H : Type} : Left H := { results := [], args := [] }

/-- 'colophonlaw06.ImageOpens': WHATEVER THE INPUT: true; the input reads as it did. -/
def imageOpensSpec : ChangeSpec := { name := "imageOpens", fn := fun _ => fun
  | [d1, d2] => { results := [.lit (.bool true)], args := [d1, d2] }
  | _ => none }
def imageOpensRow : OpenClaim := { program := "ytejjdfnelalnoaa", sum := "c28a3e19454465868352302abae9ce19d0b6a1e216cbd59d867ebdaf212f9d02", func := "colophon/colophonlaw06.ImageOpens", spec := "imageOpens", unfollowed := true, recurses := true, apart := false }
def ImageOpensSaid : Prop := imageOpensRow.holds Try.pinned (OpenSpec.ofChange imageOpensSpec)

/-- ITS FALSE NEIGHBOUR: 'it returns false'. Refute it at one input. -/
def imageOpensWrong : ChangeSpec := { name := "imageOpens", fn := fun _ => fun
  | [d1, d2] => { results := [.lit (.bool false)], args := [d1, d2] }
  | _ => none }
def ImageOpensWrongFalsely : Prop := imageOpensRow.holds Try.pinned (OpenSpec.ofChange imageOpensWrong)

/-- 'colophonlaw06.ImageRows': WHATEVER THE INPUT: true; the input reads as it did. -/
def imageRowsSpec : ChangeSpec := { name := "imageRows", fn := fun _ => fun
  | [d1, d2, d3] => { results := [.lit (.bool true)], args := [d1, d2, d3] }
  | _ => none }
def imageRowsRow : OpenClaim := { program := "ytejjdfnelalnoaa", sum := "c28a3e19454465868352302abae9ce19d0b6a1e216cbd59d867ebdaf212f9d02", func := "colophon/colophonlaw06.ImageRows", spec := "imageRows", unfollowed := true, recurses := true, apart := false }
def ImageRowsSaid : Prop := imageRowsRow.holds Try.pinned (OpenSpec.ofChange imageRowsSpec)

/-- ITS FALSE NEIGHBOUR: 'it returns false'. Refute it at one input. -/
def imageRowsWrong : ChangeSpec := { name := "imageRows", fn := fun _ => fun
  | [d1, d2, d3] => { results := [.lit (.bool false)], args := [d1, d2, d3] }
  | _ => none }
def ImageRowsWrongFalsely : Prop := imageRowsRow.holds Try.pinned (OpenSpec.ofChange imageRowsWrong)

/-- 'colophonlaw06.ImageApart': WHATEVER THE INPUT: true; the input reads as it did. -/
def imageApartSpec : ChangeSpec := { name := "imageApart", fn := fun _ => fun
  | [d1, d2] => { results := [.lit (.bool true)], args := [d1, d2] }
  | _ => none }
def imageApartRow : OpenClaim := { program := "ytejjdfnelalnoaa", sum := "c28a3e19454465868352302abae9ce19d0b6a1e216cbd59d867ebdaf212f9d02", func := "colophon/colophonlaw06.ImageApart", spec := "imageApart", unfollowed := true, recurses := true, apart := false }
def ImageApartSaid : Prop := imageApartRow.holds Try.pinned (OpenSpec.ofChange imageApartSpec)

/-- ITS FALSE NEIGHBOUR: 'it returns false'. Refute it at one input. -/
def imageApartWrong : ChangeSpec := { name := "imageApart", fn := fun _ => fun
  | [d1, d2] => { results := [.lit (.bool false)], args := [d1, d2] }
  | _ => none }
def ImageApartWrongFalsely : Prop := imageApartRow.holds Try.pinned (OpenSpec.ofChange imageApartWrong)

/-- 'colophonlaw06.ImageBuilds': WHATEVER THE INPUT: true; the input reads as it did. -/
def imageBuildsSpec : ChangeSpec := { name := "imageBuilds", fn := fun _ => fun
  | [d1, d2, d3] => { results := [.lit (.bool true)], args := [d1, d2, d3] }
  | _ => none }
def imageBuildsRow : OpenClaim := { program := "ytejjdfnelalnoaa", sum := "c28a3e19454465868352302abae9ce19d0b6a1e216cbd59d867ebdaf212f9d02", func := "colophon/colophonlaw06.ImageBuilds", spec := "imageBuilds", unfollowed := true, recurses := true, apart := false }
def ImageBuildsSaid : Prop := imageBuildsRow.holds Try.pinned (OpenSpec.ofChange imageBuildsSpec)

/-- ITS FALSE NEIGHBOUR: 'it returns false'. Refute it at one input. -/
def imageBuildsWrong : ChangeSpec := { name := "imageBuilds", fn := fun _ => fun
  | [d1, d2, d3] => { results := [.lit (.bool false)], args := [d1, d2, d3] }
  | _ => none }
def ImageBuildsWrongFalsely : Prop := imageBuildsRow.holds Try.pinned (OpenSpec.ofChange imageBuildsWrong)

/-- 'colophonlaw06.ImageMoves': WHATEVER THE INPUT: true; the input reads as it did. -/
def imageMovesSpec : ChangeSpec := { name := "imageMoves", fn := fun _ => fun
  | [d1, d2, d3] => { results := [.lit (.bool true)], args := [d1, d2, d3] }
  | _ => none }
def imageMovesRow : OpenClaim := { program := "ytejjdfnelalnoaa", sum := "c28a3e19454465868352302abae9ce19d0b6a1e216cbd59d867ebdaf212f9d02", func := "colophon/colophonlaw06.ImageMoves", spec := "imageMoves", unfollowed := true, recurses := true, apart := false }
def ImageMovesSaid : Prop := imageMovesRow.holds Try.pinned (OpenSpec.ofChange imageMovesSpec)

/-- ITS FALSE NEIGHBOUR: 'it returns false'. Refute it at one input. -/
def imageMovesWrong : ChangeSpec := { name := "imageMoves", fn := fun _ => fun
  | [d1, d2, d3] => { results := [.lit (.bool false)], args := [d1, d2, d3] }
  | _ => none }
def ImageMovesWrongFalsely : Prop := imageMovesRow.holds Try.pinned (OpenSpec.ofChange imageMovesWrong)

/- THE SECOND FORM. 'bulk': how many values and letters a reading holds, each counted each time it is reached (what is shared counts as often as it is met; a slice's spare places count too). A statement '..UptoSaid' is the law's where the arguments, and the package variables that the reading takes, are together of bulk at most 1048576: NARROWER than '..Said'. Prove '..Said' where nothing that the law and all that it calls make is longer than what came in: it says more and counts as full. Else prove '..UptoSaid'. A law counts once. -/
mutual
def uptoBulk {H : Type} : DataW H → Nat
  | .lit (.string bytes) => bytes.length + 1
  | .lit _ => 1
  | .nil => 1
  | .ptr d => uptoBulk d + 1
  | .slice elems spare => uptoBulkAll elems + uptoBulkAll spare + 1
  | .agg parts => uptoBulkAll parts + 1
  | .iface _ d => uptoBulk d + 1
  | .map entries => uptoBulkEntries entries + 1
  | .held _ => 1
def uptoBulkAll {H : Type} : List (DataW H) → Nat
  | [] => 0
  | d :: r => uptoBulk d + uptoBulkAll r
def uptoBulkEntries {H : Type} : List (Lit × DataW H) → Nat
  | [] => 0
  | x :: r => uptoBulkEntry x + uptoBulkEntries r
def uptoBulkEntry {H : Type} : Lit × DataW H → Nat
  | (.string bytes, d) => bytes.length + uptoBulk d + 1
  | (_, d) => uptoBulk d + 1
 end
def uptoSmall : (H : Type) → List (DataW H) → Bool := fun _ ds => decide (uptoBulkAll ds ≤ 1048576)
def OpenSpec.upto (s : _root_.Go.ChangeSpec) : _root_.Go.OpenSpec := { _root_.Go.OpenSpec.ofChange s with cond := some uptoSmall }

/-- 'colophonlaw06.ImageOpens', WHERE WHAT IT READS IS OF BULK AT MOST 1048576: true; the input reads as it did. -/
def imageOpensUptoRow : OpenClaim := { program := "ytejjdfnelalnoaa", sum := "c28a3e19454465868352302abae9ce19d0b6a1e216cbd59d867ebdaf212f9d02", func := "colophon/colophonlaw06.ImageOpens", spec := "imageOpens", unfollowed := true, recurses := true, apart := false, narrowed := true }
def ImageOpensUptoSaid : Prop := imageOpensUptoRow.holds Try.pinned (OpenSpec.upto imageOpensSpec)

/-- 'colophonlaw06.ImageRows', WHERE WHAT IT READS IS OF BULK AT MOST 1048576: true; the input reads as it did. -/
def imageRowsUptoRow : OpenClaim := { program := "ytejjdfnelalnoaa", sum := "c28a3e19454465868352302abae9ce19d0b6a1e216cbd59d867ebdaf212f9d02", func := "colophon/colophonlaw06.ImageRows", spec := "imageRows", unfollowed := true, recurses := true, apart := false, narrowed := true }
def ImageRowsUptoSaid : Prop := imageRowsUptoRow.holds Try.pinned (OpenSpec.upto imageRowsSpec)

/-- 'colophonlaw06.ImageApart', WHERE WHAT IT READS IS OF BULK AT MOST 1048576: true; the input reads as it did. -/
def imageApartUptoRow : OpenClaim := { program := "ytejjdfnelalnoaa", sum := "c28a3e19454465868352302abae9ce19d0b6a1e216cbd59d867ebdaf212f9d02", func := "colophon/colophonlaw06.ImageApart", spec := "imageApart", unfollowed := true, recurses := true, apart := false, narrowed := true }
def ImageApartUptoSaid : Prop := imageApartUptoRow.holds Try.pinned (OpenSpec.upto imageApartSpec)

/-- 'colophonlaw06.ImageBuilds', WHERE WHAT IT READS IS OF BULK AT MOST 1048576: true; the input reads as it did. -/
def imageBuildsUptoRow : OpenClaim := { program := "ytejjdfnelalnoaa", sum := "c28a3e19454465868352302abae9ce19d0b6a1e216cbd59d867ebdaf212f9d02", func := "colophon/colophonlaw06.ImageBuilds", spec := "imageBuilds", unfollowed := true, recurses := true, apart := false, narrowed := true }
def ImageBuildsUptoSaid : Prop := imageBuildsUptoRow.holds Try.pinned (OpenSpec.upto imageBuildsSpec)

/-- 'colophonlaw06.ImageMoves', WHERE WHAT IT READS IS OF BULK AT MOST 1048576: true; the input reads as it did. -/
def imageMovesUptoRow : OpenClaim := { program := "ytejjdfnelalnoaa", sum := "c28a3e19454465868352302abae9ce19d0b6a1e216cbd59d867ebdaf212f9d02", func := "colophon/colophonlaw06.ImageMoves", spec := "imageMoves", unfollowed := true, recurses := true, apart := false, narrowed := true }
def ImageMovesUptoSaid : Prop := imageMovesUptoRow.holds Try.pinned (OpenSpec.upto imageMovesSpec)

end Rows
end Go.Proofs.Ytejjdfnelalnoaa
