/-
  No cell of these rows narrows 'for every input' (looked for: loops, veiled, ifaces, maps, wideKeys, modest, calm, conditions, laid).
  DERIVED. THE GIVEN ROWS OF THIS SEAT. 4 by the template 'for every input the law returns true; each argument reads behind the call as it read before'; 0 by the template 'total and deterministic' (their statements: YtnffhpnlehcoiaaTotals.lean).
  GIVEN WITH THE SEED: the statements are not yours to turn. If you find one false, say at which input.
  Laid BY PROGRAM, IN A SANDBOX (cutbox-rows.mjs): the forced cells as the released guide's own fill.sh prints them over the translation 21d17ca86ed69d4f… (all of the seat's roots in one cut). By AI agents, Wed Nov 11 2026. No macro, syntax, notation, axiom, sorry.
-/
import Derived.Test.YtnffhpnlehcoiaaChecked
import GoSem.Claim
import GoSem.ClaimJoined
import GoSem.ClaimMapViews
import Derived.JoinedTies
import Derived.KernelRfl
namespace Go.Proofs.Ytnffhpnlehcoiaa
/- THE CELL 'sum', in the pinned program and in every row, IS THE sha256 OF THE DUMP (.gsa) THAT YtnffhpnlehcoiaaProg.lean LOADS. Nothing in Lean hashes anything: it is a label: what it is worth is what the hold of that sum in a sandbox is worth. -/
noncomputable def Try.pinned : Pinned := { name := "ytnffhpnlehcoiaa", sum := "21d17ca86ed69d4fd31f641c98c4bc2d3462df7d258375af74d4450207af9e41", checked := Try.checked }
namespace Rows
def none {H : Type} : Left H := { results := [], args := [] }

/-- 'colophonlaw23.FairShares': WHATEVER THE INPUT: true; the input reads as it did. -/
def fairSharesSpec : ChangeSpec := { name := "fairShares", fn := fun _ => fun
  | [d1, d2, d3] => { results := [.lit (.bool true)], args := [d1, d2, d3] }
  | _ => none }
def fairSharesRow : OpenClaim := { program := "ytnffhpnlehcoiaa", sum := "21d17ca86ed69d4fd31f641c98c4bc2d3462df7d258375af74d4450207af9e41", func := "colophon/colophonlaw23.FairShares", spec := "fairShares", unfollowed := true, recurses := true, apart := false }
def FairSharesSaid : Prop := fairSharesRow.holds Try.pinned (OpenSpec.ofChange fairSharesSpec)

/-- ITS FALSE NEIGHBOUR: 'it returns false'. Refute it at one input. -/
def fairSharesWrong : ChangeSpec := { name := "fairShares", fn := fun _ => fun
  | [d1, d2, d3] => { results := [.lit (.bool false)], args := [d1, d2, d3] }
  | _ => none }
def FairSharesWrongFalsely : Prop := fairSharesRow.holds Try.pinned (OpenSpec.ofChange fairSharesWrong)

/-- 'colophonlaw23.FairOne': WHATEVER THE INPUT: true; the input reads as it did. -/
def fairOneSpec : ChangeSpec := { name := "fairOne", fn := fun _ => fun
  | [d1, d2, d3] => { results := [.lit (.bool true)], args := [d1, d2, d3] }
  | _ => none }
def fairOneRow : OpenClaim := { program := "ytnffhpnlehcoiaa", sum := "21d17ca86ed69d4fd31f641c98c4bc2d3462df7d258375af74d4450207af9e41", func := "colophon/colophonlaw23.FairOne", spec := "fairOne", unfollowed := true, recurses := true, apart := false }
def FairOneSaid : Prop := fairOneRow.holds Try.pinned (OpenSpec.ofChange fairOneSpec)

/-- ITS FALSE NEIGHBOUR: 'it returns false'. Refute it at one input. -/
def fairOneWrong : ChangeSpec := { name := "fairOne", fn := fun _ => fun
  | [d1, d2, d3] => { results := [.lit (.bool false)], args := [d1, d2, d3] }
  | _ => none }
def FairOneWrongFalsely : Prop := fairOneRow.holds Try.pinned (OpenSpec.ofChange fairOneWrong)

/-- 'colophonlaw23.FairAgain': WHATEVER THE INPUT: true; the input reads as it did. -/
def fairAgainSpec : ChangeSpec := { name := "fairAgain", fn := fun _ => fun
  | [d1, d2] => { results := [.lit (.bool true)], args := [d1, d2] }
  | _ => none }
def fairAgainRow : OpenClaim := { program := "ytnffhpnlehcoiaa", sum := "21d17ca86ed69d4fd31f641c98c4bc2d3462df7d258375af74d4450207af9e41", func := "colophon/colophonlaw23.FairAgain", spec := "fairAgain", unfollowed := true, recurses := true, apart := false }
def FairAgainSaid : Prop := fairAgainRow.holds Try.pinned (OpenSpec.ofChange fairAgainSpec)

/-- ITS FALSE NEIGHBOUR: 'it returns false'. Refute it at one input. -/
def fairAgainWrong : ChangeSpec := { name := "fairAgain", fn := fun _ => fun
  | [d1, d2] => { results := [.lit (.bool false)], args := [d1, d2] }
  | _ => none }
def FairAgainWrongFalsely : Prop := fairAgainRow.holds Try.pinned (OpenSpec.ofChange fairAgainWrong)

/-- 'colophonlaw23.FairTurns': WHATEVER THE INPUT: true; the input reads as it did. -/
def fairTurnsSpec : ChangeSpec := { name := "fairTurns", fn := fun _ => fun
  | [d1, d2, d3] => { results := [.lit (.bool true)], args := [d1, d2, d3] }
  | _ => none }
def fairTurnsRow : OpenClaim := { program := "ytnffhpnlehcoiaa", sum := "21d17ca86ed69d4fd31f641c98c4bc2d3462df7d258375af74d4450207af9e41", func := "colophon/colophonlaw23.FairTurns", spec := "fairTurns", unfollowed := true, recurses := true, apart := false }
def FairTurnsSaid : Prop := fairTurnsRow.holds Try.pinned (OpenSpec.ofChange fairTurnsSpec)

/-- ITS FALSE NEIGHBOUR: 'it returns false'. Refute it at one input. -/
def fairTurnsWrong : ChangeSpec := { name := "fairTurns", fn := fun _ => fun
  | [d1, d2, d3] => { results := [.lit (.bool false)], args := [d1, d2, d3] }
  | _ => none }
def FairTurnsWrongFalsely : Prop := fairTurnsRow.holds Try.pinned (OpenSpec.ofChange fairTurnsWrong)

/- THE SECOND FORM. 'bulk': how many values and letters a reading holds, each counted each time it is reached (what is shared counts as often as it is met; a slice's spare places count too). A statement '..UptoSaid' is the law's where the arguments, and the package variables that the reading takes, are together of bulk at most 1048576: NARROWER than '..Said'. Prove '..Said' where nothing that the law and all that it calls make is longer than what came in: it says more and counts as full. Else prove '..UptoSaid'. A law counts once. -/
mutual
def uptoBulk {H : Type} : DataW H → Nat
  | .lit (.string bytes) => bytes.length + 1
  | .lit _ => 1
  | .nil => 1
  | .ptr d => uptoBulk d + 1
  | .slice elems spare => uptoBulkAll elems + uptoBulkAll spare + 1
  | .agg parts => uptoBulkAll parts + 1
  | .iface _ d => uptoBulk d + 1
  | .map entries => uptoBulkEntries entries + 1
  | .held _ => 1
def uptoBulkAll {H : Type} : List (DataW H) → Nat
  | [] => 0
  | d :: r => uptoBulk d + uptoBulkAll r
def uptoBulkEntries {H : Type} : List (Lit × DataW H) → Nat
  | [] => 0
  | x :: r => uptoBulkEntry x + uptoBulkEntries r
def uptoBulkEntry {H : Type} : Lit × DataW H → Nat
  | (.string bytes, d) => bytes.length + uptoBulk d + 1
  | (_, d) => uptoBulk d + 1
 end
def uptoSmall : (H : Type) → List (DataW H) → Bool := fun _ ds => decide (uptoBulkAll ds ≤ 1048576)
def OpenSpec.upto (s : _root_.Go.ChangeSpec) : _root_.Go.OpenSpec := { _root_.Go.OpenSpec.ofChange s with cond := some uptoSmall }

/-- 'colophonlaw23.FairShares', WHERE WHAT IT READS IS OF BULK AT MOST 1048576: true; the input reads as it did. -/
def fairSharesUptoRow : OpenClaim := { program := "ytnffhpnlehcoiaa", sum := "21d17ca86ed69d4fd31f641c98c4bc2d3462df7d258375af74d4450207af9e41", func := "colophon/colophonlaw23.FairShares", spec := "fairShares", unfollowed := true, recurses := true, apart := false, narrowed := true }
def FairSharesUptoSaid : Prop := fairSharesUptoRow.holds Try.pinned (OpenSpec.upto fairSharesSpec)

/-- 'colophonlaw23.FairOne', WHERE WHAT IT READS IS OF BULK AT MOST 1048576: true; the input reads as it did. -/
def fairOneUptoRow : OpenClaim := { program := "ytnffhpnlehcoiaa", sum := "21d17ca86ed69d4fd31f641c98c4bc2d3462df7d258375af74d4450207af9e41", func := "colophon/colophonlaw23.FairOne", spec := "fairOne", unfollowed := true, recurses := true, apart := false, narrowed := true }
def FairOneUptoSaid : Prop := fairOneUptoRow.holds Try.pinned (OpenSpec.upto fairOneSpec)

/-- 'colophonlaw23.FairAgain', WHERE WHAT IT READS IS OF BULK AT MOST 1048576: true; the input reads as it did. -/
def fairAgainUptoRow : OpenClaim := { program := "ytnffhpnlehcoiaa", sum := "21d17ca86ed69d4fd31f641c98c4bc2d3462df7d258375af74d4450207af9e41", func := "colophon/colophonlaw23.FairAgain", spec := "fairAgain", unfollowed := true, recurses := true, apart := false, narrowed := true }
def FairAgainUptoSaid : Prop := fairAgainUptoRow.holds Try.pinned (OpenSpec.upto fairAgainSpec)

/-- 'colophonlaw23.FairTurns', WHERE WHAT IT READS IS OF BULK AT MOST 1048576: true; the input reads as it did. -/
def fairTurnsUptoRow : OpenClaim := { program := "ytnffhpnlehcoiaa", sum := "21d17ca86ed69d4fd31f641c98c4bc2d3462df7d258375af74d4450207af9e41", func := "colophon/colophonlaw23.FairTurns", spec := "fairTurns", unfollowed := true, recurses := true, apart := false, narrowed := true }
def FairTurnsUptoSaid : Prop := fairTurnsUptoRow.holds Try.pinned (OpenSpec.upto fairTurnsSpec)

end Rows
end Go.Proofs.Ytnffhpnlehcoiaa
