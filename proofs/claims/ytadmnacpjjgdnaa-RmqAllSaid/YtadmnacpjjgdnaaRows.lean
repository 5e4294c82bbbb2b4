/-
  No cell of these rows narrows 'for every input' (looked for: loops, veiled, ifaces, maps, wideKeys, modest, calm, conditions, laid).
  DERIVED. THE GIVEN ROWS OF THIS SEAT. 4 by the template 'for every input the law returns true; each argument reads behind the call as it read before'; 0 by the template 'total and deterministic' (their statements: YtadmnacpjjgdnaaTotals.lean).
  GIVEN WITH THE SEED: the statements are not yours to turn. If you find one false, say at which input.
  Laid BY PROGRAM, IN A SANDBOX (cutbox-rows.mjs): the forced cells as the released guide's own fill.sh prints them over the translation 43d15765953f4052… (all of the seat's roots in one cut). By AI agents, Wed Nov 11 2026. No macro, syntax, notation, axiom, sorry.
-/
import Derived.Test.YtadmnacpjjgdnaaChecked
import GoSem.Claim
import GoSem.ClaimJoined
import GoSem.ClaimMapViews
import Derived.JoinedTies
import Derived.KernelRfl
namespace Go.Proofs.Ytadmnacpjjgdnaa
/- THE CELL 'sum', in the pinned program and in every row, IS THE sha256 OF THE DUMP (.gsa) THAT YtadmnacpjjgdnaaProg.lean LOADS. Nothing in Lean hashes anything: it is a label: what it is worth is what the hold of that sum in a sandbox is worth. -/
noncomputable def Try.pinned : Pinned := { name := "ytadmnacpjjgdnaa", sum := "43d15765953f40527af67c9d5a32c8bfd551debe10e03f997a3352988ebf207b", checked := Try.checked }
namespace Rows
def none {H : Type} : Left H := { results := [], args := [] }

/-- 'colophonlaw14.RmqLeast': WHATEVER THE INPUT: true; the input reads as it did. -/
def rmqLeastSpec : ChangeSpec := { name := "rmqLeast", fn := fun _ => fun
  | [d1, d2, d3] => { results := [.lit (.bool true)], args := [d1, d2, d3] }
  | _ => none }
def rmqLeastRow : OpenClaim := { program := "ytadmnacpjjgdnaa", sum := "43d15765953f40527af67c9d5a32c8bfd551debe10e03f997a3352988ebf207b", func := "colophon/colophonlaw14.RmqLeast", spec := "rmqLeast", apart := false }
def RmqLeastSaid : Prop := rmqLeastRow.holds Try.pinned (OpenSpec.ofChange rmqLeastSpec)

/-- ITS FALSE NEIGHBOUR: 'it returns false'. Refute it at one input. -/
def rmqLeastWrong : ChangeSpec := { name := "rmqLeast", fn := fun _ => fun
  | [d1, d2, d3] => { results := [.lit (.bool false)], args := [d1, d2, d3] }
  | _ => none }
def RmqLeastWrongFalsely : Prop := rmqLeastRow.holds Try.pinned (OpenSpec.ofChange rmqLeastWrong)

/-- 'colophonlaw14.RmqAll': WHATEVER THE INPUT: true; the input reads as it did. -/
def rmqAllSpec : ChangeSpec := { name := "rmqAll", fn := fun _ => fun
  | [d1, d2] => { results := [.lit (.bool true)], args := [d1, d2] }
  | _ => none }
def rmqAllRow : OpenClaim := { program := "ytadmnacpjjgdnaa", sum := "43d15765953f40527af67c9d5a32c8bfd551debe10e03f997a3352988ebf207b", func := "colophon/colophonlaw14.RmqAll", spec := "rmqAll", apart := false }
def RmqAllSaid : Prop := rmqAllRow.holds Try.pinned (OpenSpec.ofChange rmqAllSpec)

/-- ITS FALSE NEIGHBOUR: 'it returns false'. Refute it at one input. -/
def rmqAllWrong : ChangeSpec := { name := "rmqAll", fn := fun _ => fun
  | [d1, d2] => { results := [.lit (.bool false)], args := [d1, d2] }
  | _ => none }
def RmqAllWrongFalsely : Prop := rmqAllRow.holds Try.pinned (OpenSpec.ofChange rmqAllWrong)

/-- 'colophonlaw14.RmqMoves': WHATEVER THE INPUT: true; the input reads as it did. -/
def rmqMovesSpec : ChangeSpec := { name := "rmqMoves", fn := fun _ => fun
  | [d1, d2, d3] => { results := [.lit (.bool true)], args := [d1, d2, d3] }
  | _ => none }
def rmqMovesRow : OpenClaim := { program := "ytadmnacpjjgdnaa", sum := "43d15765953f40527af67c9d5a32c8bfd551debe10e03f997a3352988ebf207b", func := "colophon/colophonlaw14.RmqMoves", spec := "rmqMoves", apart := false }
def RmqMovesSaid : Prop := rmqMovesRow.holds Try.pinned (OpenSpec.ofChange rmqMovesSpec)

/-- ITS FALSE NEIGHBOUR: 'it returns false'. Refute it at one input. -/
def rmqMovesWrong : ChangeSpec := { name := "rmqMoves", fn := fun _ => fun
  | [d1, d2, d3] => { results := [.lit (.bool false)], args := [d1, d2, d3] }
  | _ => none }
def RmqMovesWrongFalsely : Prop := rmqMovesRow.holds Try.pinned (OpenSpec.ofChange rmqMovesWrong)

/-- 'colophonlaw14.RmqFirst': WHATEVER THE INPUT: true; the input reads as it did. -/
def rmqFirstSpec : ChangeSpec := { name := "rmqFirst", fn := fun _ => fun
  | [d1, d2, d3] => { results := [.lit (.bool true)], args := [d1, d2, d3] }
  | _ => none }
def rmqFirstRow : OpenClaim := { program := "ytadmnacpjjgdnaa", sum := "43d15765953f40527af67c9d5a32c8bfd551debe10e03f997a3352988ebf207b", func := "colophon/colophonlaw14.RmqFirst", spec := "rmqFirst", apart := false }
def RmqFirstSaid : Prop := rmqFirstRow.holds Try.pinned (OpenSpec.ofChange rmqFirstSpec)

/-- ITS FALSE NEIGHBOUR: 'it returns false'. Refute it at one input. -/
def rmqFirstWrong : ChangeSpec := { name := "rmqFirst", fn := fun _ => fun
  | [d1, d2, d3] => { results := [.lit (.bool false)], args := [d1, d2, d3] }
  | _ => none }
def RmqFirstWrongFalsely : Prop := rmqFirstRow.holds Try.pinned (OpenSpec.ofChange rmqFirstWrong)

/- THE SECOND FORM. 'bulk': how many values and letters a reading holds, each counted each time it is reached (what is shared counts as often as it is met; a slice's spare places count too). A statement '..UptoSaid' is the law's where the arguments, and the package variables that the reading takes, are together of bulk at most 1048576: NARROWER than '..Said'. Prove '..Said' where nothing that the law and all that it calls make is longer than what came in: it says more and counts as full. Else prove '..UptoSaid'. A law counts once. -/
mutual
def uptoBulk {H : Type} : DataW H → Nat
  | .lit (.string bytes) => bytes.length + 1
  | .lit _ => 1
  | .nil => 1
  | .ptr d => uptoBulk d + 1
  | .slice elems spare => uptoBulkAll elems + uptoBulkAll spare + 1
  | .agg parts => uptoBulkAll parts + 1
  | .iface _ d => uptoBulk d + 1
  | .map entries => uptoBulkEntries entries + 1
  | .held _ => 1
def uptoBulkAll {H : Type} : List (DataW H) → Nat
  | [] => 0
  | d :: r => uptoBulk d + uptoBulkAll r
def uptoBulkEntries {H : Type} : List (Lit × DataW H) → Nat
  | [] => 0
  | x :: r => uptoBulkEntry x + uptoBulkEntries r
def uptoBulkEntry {H : Type} : Lit × DataW H → Nat
  | (.string bytes, d) => bytes.length + uptoBulk d + 1
  | (_, d) => uptoBulk d + 1
 end
def uptoSmall : (H : Type) → List (DataW H) → Bool := fun _ ds => decide (uptoBulkAll ds ≤ 1048576)
def OpenSpec.upto (s : _root_.Go.ChangeSpec) : _root_.Go.OpenSpec := { _root_.Go.OpenSpec.ofChange s with cond := some uptoSmall }

/-- 'colophonlaw14.RmqLeast', WHERE WHAT IT READS IS OF BULK AT MOST 1048576: true; the input reads as it did. -/
def rmqLeastUptoRow : OpenClaim := { program := "ytadmnacpjjgdnaa", sum := "43d15765953f40527af67c9d5a32c8bfd551debe10e03f997a3352988ebf207b", func := "colophon/colophonlaw14.RmqLeast", spec := "rmqLeast", apart := false, narrowed := true }
def RmqLeastUptoSaid : Prop := rmqLeastUptoRow.holds Try.pinned (OpenSpec.upto rmqLeastSpec)

/-- 'colophonlaw14.RmqAll', WHERE WHAT IT READS IS OF BULK AT MOST 1048576: true; the input reads as it did. -/
def rmqAllUptoRow : OpenClaim := { program := "ytadmnacpjjgdnaa", sum := "43d15765953f40527af67c9d5a32c8bfd551debe10e03f997a3352988ebf207b", func := "colophon/colophonlaw14.RmqAll", spec := "rmqAll", apart := false, narrowed := true }
def RmqAllUptoSaid : Prop := rmqAllUptoRow.holds Try.pinned (OpenSpec.upto rmqAllSpec)

/-- 'colophonlaw14.RmqMoves', WHERE WHAT IT READS IS OF BULK AT MOST 1048576: true; the input reads as it did. -/
def rmqMovesUptoRow : OpenClaim := { program := "ytadmnacpjjgdnaa", sum := "43d15765953f40527af67c9d5a32c8bfd551debe10e03f997a3352988ebf207b", func := "colophon/colophonlaw14.RmqMoves", spec := "rmqMoves", apart := false, narrowed := true }
def RmqMovesUptoSaid : Prop := rmqMovesUptoRow.holds Try.pinned (OpenSpec.upto rmqMovesSpec)

/-- 'colophonlaw14.RmqFirst', WHERE WHAT IT READS IS OF BULK AT MOST 1048576: true; the input reads as it did. -/
def rmqFirstUptoRow : OpenClaim := { program := "ytadmnacpjjgdnaa", sum := "43d15765953f40527af67c9d5a32c8bfd551debe10e03f997a3352988ebf207b", func := "colophon/colophonlaw14.RmqFirst", spec := "rmqFirst", apart := false, narrowed := true }
def RmqFirstUptoSaid : Prop := rmqFirstUptoRow.holds Try.pinned (OpenSpec.upto rmqFirstSpec)

end Rows
end Go.Proofs.Ytadmnacpjjgdnaa
