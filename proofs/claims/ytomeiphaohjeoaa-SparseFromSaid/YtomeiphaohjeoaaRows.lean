/-
  No cell of these rows narrows 'for every input' (looked for: loops, veiled, ifaces, maps, wideKeys, modest, calm, conditions, laid).
  DERIVED. THE GIVEN ROWS OF THIS SEAT. 5 by the template 'for every input the law returns true; each argument reads behind the call as it read before'; 0 by the template 'total and deterministic' (their statements: YtomeiphaohjeoaaTotals.lean).
  GIVEN WITH THE SEED: the statements are not yours to turn. If you find one false, say at which input.
  Laid BY PROGRAM, IN A SANDBOX (cutbox-rows.mjs): the forced cells as the released guide's own fill.sh prints them over the translation 40603ef78e51cc88… (all of the seat's roots in one cut). By AI agents, Wed Nov 11 2026. No macro, syntax, notation, axiom, sorry.
-/
import Derived.Test.YtomeiphaohjeoaaChecked
import GoSem.Claim
import GoSem.ClaimJoined
import GoSem.ClaimMapViews
import Derived.JoinedTies
import Derived.KernelRfl
namespace Go.Proofs.Ytomeiphaohjeoaa
/- THE CELL 'sum', in the pinned program and in every row, IS THE sha256 OF THE DUMP (.gsa) THAT YtomeiphaohjeoaaProg.lean LOADS. Nothing in Lean hashes anything: it is a label: what it is worth is what the hold of that sum in a sandbox is worth. -/
noncomputable def Try.pinned : Pinned := { name := "ytomeiphaohjeoaa", sum := "40603ef78e51cc880f752bf5293bb7a19222f6950dcf8bd8450e19f4da99e3b7", checked := Try.checked }
namespace Rows
def none {H : Type} : Left H := { results := [], args := [] }

/-- 'colophonlaw03.SparseMoves': WHATEVER THE INPUT: true; the input reads as it did. -/
def sparseMovesSpec : ChangeSpec := { name := "sparseMoves", fn := fun _ => fun
  | [d1, d2, d3] => { results := [.lit (.bool true)], args := [d1, d2, d3] }
  | _ => none }
def sparseMovesRow : OpenClaim := { program := "ytomeiphaohjeoaa", sum := "40603ef78e51cc880f752bf5293bb7a19222f6950dcf8bd8450e19f4da99e3b7", func := "colophon/colophonlaw03.SparseMoves", spec := "sparseMoves", unfollowed := true, recurses := true, apart := false }
def SparseMovesSaid : Prop := sparseMovesRow.holds Try.pinned (OpenSpec.ofChange sparseMovesSpec)

/-- ITS FALSE NEIGHBOUR: 'it returns false'. Refute it at one input. -/
def sparseMovesWrong : ChangeSpec := { name := "sparseMoves", fn := fun _ => fun
  | [d1, d2, d3] => { results := [.lit (.bool false)], args := [d1, d2, d3] }
  | _ => none }
def SparseMovesWrongFalsely : Prop := sparseMovesRow.holds Try.pinned (OpenSpec.ofChange sparseMovesWrong)

/-- 'colophonlaw03.SparseHas': WHATEVER THE INPUT: true; the input reads as it did. -/
def sparseHasSpec : ChangeSpec := { name := "sparseHas", fn := fun _ => fun
  | [d1, d2, d3] => { results := [.lit (.bool true)], args := [d1, d2, d3] }
  | _ => none }
def sparseHasRow : OpenClaim := { program := "ytomeiphaohjeoaa", sum := "40603ef78e51cc880f752bf5293bb7a19222f6950dcf8bd8450e19f4da99e3b7", func := "colophon/colophonlaw03.SparseHas", spec := "sparseHas", unfollowed := true, recurses := true, apart := false }
def SparseHasSaid : Prop := sparseHasRow.holds Try.pinned (OpenSpec.ofChange sparseHasSpec)

/-- ITS FALSE NEIGHBOUR: 'it returns false'. Refute it at one input. -/
def sparseHasWrong : ChangeSpec := { name := "sparseHas", fn := fun _ => fun
  | [d1, d2, d3] => { results := [.lit (.bool false)], args := [d1, d2, d3] }
  | _ => none }
def SparseHasWrongFalsely : Prop := sparseHasRow.holds Try.pinned (OpenSpec.ofChange sparseHasWrong)

/-- 'colophonlaw03.SparseOrder': WHATEVER THE INPUT: true; the input reads as it did. -/
def sparseOrderSpec : ChangeSpec := { name := "sparseOrder", fn := fun _ => fun
  | [d1, d2, d3] => { results := [.lit (.bool true)], args := [d1, d2, d3] }
  | _ => none }
def sparseOrderRow : OpenClaim := { program := "ytomeiphaohjeoaa", sum := "40603ef78e51cc880f752bf5293bb7a19222f6950dcf8bd8450e19f4da99e3b7", func := "colophon/colophonlaw03.SparseOrder", spec := "sparseOrder", unfollowed := true, recurses := true, apart := false }
def SparseOrderSaid : Prop := sparseOrderRow.holds Try.pinned (OpenSpec.ofChange sparseOrderSpec)

/-- ITS FALSE NEIGHBOUR: 'it returns false'. Refute it at one input. -/
def sparseOrderWrong : ChangeSpec := { name := "sparseOrder", fn := fun _ => fun
  | [d1, d2, d3] => { results := [.lit (.bool false)], args := [d1, d2, d3] }
  | _ => none }
def SparseOrderWrongFalsely : Prop := sparseOrderRow.holds Try.pinned (OpenSpec.ofChange sparseOrderWrong)

/-- 'colophonlaw03.SparseBack': WHATEVER THE INPUT: true; the input reads as it did. -/
def sparseBackSpec : ChangeSpec := { name := "sparseBack", fn := fun _ => fun
  | [d1, d2, d3] => { results := [.lit (.bool true)], args := [d1, d2, d3] }
  | _ => none }
def sparseBackRow : OpenClaim := { program := "ytomeiphaohjeoaa", sum := "40603ef78e51cc880f752bf5293bb7a19222f6950dcf8bd8450e19f4da99e3b7", func := "colophon/colophonlaw03.SparseBack", spec := "sparseBack", unfollowed := true, recurses := true, apart := false }
def SparseBackSaid : Prop := sparseBackRow.holds Try.pinned (OpenSpec.ofChange sparseBackSpec)

/-- ITS FALSE NEIGHBOUR: 'it returns false'. Refute it at one input. -/
def sparseBackWrong : ChangeSpec := { name := "sparseBack", fn := fun _ => fun
  | [d1, d2, d3] => { results := [.lit (.bool false)], args := [d1, d2, d3] }
  | _ => none }
def SparseBackWrongFalsely : Prop := sparseBackRow.holds Try.pinned (OpenSpec.ofChange sparseBackWrong)

/-- 'colophonlaw03.SparseFrom': WHATEVER THE INPUT: true; the input reads as it did. -/
def sparseFromSpec : ChangeSpec := { name := "sparseFrom", fn := fun _ => fun
  | [d1, d2, d3] => { results := [.lit (.bool true)], args := [d1, d2, d3] }
  | _ => none }
def sparseFromRow : OpenClaim := { program := "ytomeiphaohjeoaa", sum := "40603ef78e51cc880f752bf5293bb7a19222f6950dcf8bd8450e19f4da99e3b7", func := "colophon/colophonlaw03.SparseFrom", spec := "sparseFrom", unfollowed := true, recurses := true, apart := false }
def SparseFromSaid : Prop := sparseFromRow.holds Try.pinned (OpenSpec.ofChange sparseFromSpec)

/-- ITS FALSE NEIGHBOUR: 'it returns false'. Refute it at one input. -/
def sparseFromWrong : ChangeSpec := { name := "sparseFrom", fn := fun _ => fun
  | [d1, d2, d3] => { results := [.lit (.bool false)], args := [d1, d2, d3] }
  | _ => none }
def SparseFromWrongFalsely : Prop := sparseFromRow.holds Try.pinned (OpenSpec.ofChange sparseFromWrong)

/- THE SECOND FORM. 'bulk': how many values and letters a reading holds, each counted each time it is reached (what is shared counts as often as it is met; a slice's spare places count too). A statement '..UptoSaid' is the law's where the arguments, and the package variables that the reading takes, are together of bulk at most 1048576: NARROWER than '..Said'. Prove '..Said' where nothing that the law and all that it calls make is longer than what came in: it says more and counts as full. Else prove '..UptoSaid'. A law counts once. -/
mutual
def uptoBulk {H : Type} : DataW H → Nat
  | .lit (.string bytes) => bytes.length + 1
  | .lit _ => 1
  | .nil => 1
  | .ptr d => uptoBulk d + 1
  | .slice elems spare => uptoBulkAll elems + uptoBulkAll spare + 1
  | .agg parts => uptoBulkAll parts + 1
  | .iface _ d => uptoBulk d + 1
  | .map entries => uptoBulkEntries entries + 1
  | .held _ => 1
def uptoBulkAll {H : Type} : List (DataW H) → Nat
  | [] => 0
  | d :: r => uptoBulk d + uptoBulkAll r
def uptoBulkEntries {H : Type} : List (Lit × DataW H) → Nat
  | [] => 0
  | x :: r => uptoBulkEntry x + uptoBulkEntries r
def uptoBulkEntry {H : Type} : Lit × DataW H → Nat
  | (.string bytes, d) => bytes.length + uptoBulk d + 1
  | (_, d) => uptoBulk d + 1
 end
def uptoSmall : (H : Type) → List (DataW H) → Bool := fun _ ds => decide (uptoBulkAll ds ≤ 1048576)
def OpenSpec.upto (s : _root_.Go.ChangeSpec) : _root_.Go.OpenSpec := { _root_.Go.OpenSpec.ofChange s with cond := some uptoSmall }

/-- 'colophonlaw03.SparseMoves', WHERE WHAT IT READS IS OF BULK AT MOST 1048576: true; the input reads as it did. -/
def sparseMovesUptoRow : OpenClaim := { program := "ytomeiphaohjeoaa", sum := "40603ef78e51cc880f752bf5293bb7a19222f6950dcf8bd8450e19f4da99e3b7", func := "colophon/colophonlaw03.SparseMoves", spec := "sparseMoves", unfollowed := true, recurses := true, apart := false, narrowed := true }
def SparseMovesUptoSaid : Prop := sparseMovesUptoRow.holds Try.pinned (OpenSpec.upto sparseMovesSpec)

/-- 'colophonlaw03.SparseHas', WHERE WHAT IT READS IS OF BULK AT MOST 1048576: true; the input reads as it did. -/
def sparseHasUptoRow : OpenClaim := { program := "ytomeiphaohjeoaa", sum := "40603ef78e51cc880f752bf5293bb7a19222f6950dcf8bd8450e19f4da99e3b7", func := "colophon/colophonlaw03.SparseHas", spec := "sparseHas", unfollowed := true, recurses := true, apart := false, narrowed := true }
def SparseHasUptoSaid : Prop := sparseHasUptoRow.holds Try.pinned (OpenSpec.upto sparseHasSpec)

/-- 'colophonlaw03.SparseOrder', WHERE WHAT IT READS IS OF BULK AT MOST 1048576: true; the input reads as it did. -/
def sparseOrderUptoRow : OpenClaim := { program := "ytomeiphaohjeoaa", sum := "40603ef78e51cc880f752bf5293bb7a19222f6950dcf8bd8450e19f4da99e3b7", func := "colophon/colophonlaw03.SparseOrder", spec := "sparseOrder", unfollowed := true, recurses := true, apart := false, narrowed := true }
def SparseOrderUptoSaid : Prop := sparseOrderUptoRow.holds Try.pinned (OpenSpec.upto sparseOrderSpec)

/-- 'colophonlaw03.SparseBack', WHERE WHAT IT READS IS OF BULK AT MOST 1048576: true; the input reads as it did. -/
def sparseBackUptoRow : OpenClaim := { program := "ytomeiphaohjeoaa", sum := "40603ef78e51cc880f752bf5293bb7a19222f6950dcf8bd8450e19f4da99e3b7", func := "colophon/colophonlaw03.SparseBack", spec := "sparseBack", unfollowed := true, recurses := true, apart := false, narrowed := true }
def SparseBackUptoSaid : Prop := sparseBackUptoRow.holds Try.pinned (OpenSpec.upto sparseBackSpec)

/-- 'colophonlaw03.SparseFrom', WHERE WHAT IT READS IS OF BULK AT MOST 1048576: true; the input reads as it did. -/
def sparseFromUptoRow : OpenClaim := { program := "ytomeiphaohjeoaa", sum := "40603ef78e51cc880f752bf5293bb7a19222f6950dcf8bd8450e19f4da99e3b7", func := "colophon/colophonlaw03.SparseFrom", spec := "sparseFrom", unfollowed := true, recurses := true, apart := false, narrowed := true }
def SparseFromUptoSaid : Prop := sparseFromUptoRow.holds Try.pinned (OpenSpec.upto sparseFromSpec)

end Rows
end Go.Proofs.Ytomeiphaohjeoaa
