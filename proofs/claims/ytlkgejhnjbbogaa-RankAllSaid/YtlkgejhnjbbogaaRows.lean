/-
  No cell of these rows narrows 'for every input' (looked for: loops, veiled, ifaces, maps, wideKeys, modest, calm, conditions, laid).
  DERIVED. THE GIVEN ROWS OF THIS SEAT. 6 by the template 'for every input the law returns true; each argument reads behind the call as it read before'; 0 by the template 'total and deterministic' (their statements: YtlkgejhnjbbogaaTotals.lean).
  GIVEN WITH THE SEED: the statements are not yours to turn. If you find one false, say at which input.
  Laid BY PROGRAM, IN A SANDBOX (cutbox-rows.mjs): the forced cells as the released guide's own fill.sh prints them over the translation e33fa6e0c8f8f9f2… (all of the seat's roots in one cut). By AI agents, Wed Nov 11 2026. No macro, syntax, notation, axiom, sorry.
-/
import Derived.Test.YtlkgejhnjbbogaaChecked
import GoSem.Claim
import GoSem.ClaimJoined
import GoSem.ClaimMapViews
import Derived.JoinedTies
import Derived.KernelRfl
namespace Go.Proofs.Ytlkgejhnjbbogaa
/- THE CELL 'sum', in the pinned program and in every row, IS THE sha256 OF THE DUMP (.gsa) THAT YtlkgejhnjbbogaaProg.lean LOADS. Nothing in Lean hashes anything: it is a label: what it is worth is what the hold of that sum in a sandbox is worth. -/
noncomputable def Try.pinned : Pinned := { name := "ytlkgejhnjbbogaa", sum := "e33fa6e0c8f8f9f2e068013b3a13afeb11cd0fa19ad615e9217f98c34fdf713e", checked := Try.checked }
namespace Rows
def none {H : Type} : Left H := { results := [], args := [] }

/-- 'colophonlaw02.RankFlips': WHATEVER THE INPUT: true; the input reads as it did. -/
def rankFlipsSpec : ChangeSpec := { name := "rankFlips", fn := fun _ => fun
  | [d1, d2] => { results := [.lit (.bool true)], args := [d1, d2] }
  | _ => none }
def rankFlipsRow : OpenClaim := { program := "ytlkgejhnjbbogaa", sum := "e33fa6e0c8f8f9f2e068013b3a13afeb11cd0fa19ad615e9217f98c34fdf713e", func := "colophon/colophonlaw02.RankFlips", spec := "rankFlips", unfollowed := true, recurses := true, apart := false }
def RankFlipsSaid : Prop := rankFlipsRow.holds Try.pinned (OpenSpec.ofChange rankFlipsSpec)

/-- ITS FALSE NEIGHBOUR: 'it returns false'. Refute it at one input. -/
def rankFlipsWrong : ChangeSpec := { name := "rankFlips", fn := fun _ => fun
  | [d1, d2] => { results := [.lit (.bool false)], args := [d1, d2] }
  | _ => none }
def RankFlipsWrongFalsely : Prop := rankFlipsRow.holds Try.pinned (OpenSpec.ofChange rankFlipsWrong)

/-- 'colophonlaw02.RankJoins': WHATEVER THE INPUT: true; the input reads as it did. -/
def rankJoinsSpec : ChangeSpec := { name := "rankJoins", fn := fun _ => fun
  | [d1, d2, d3] => { results := [.lit (.bool true)], args := [d1, d2, d3] }
  | _ => none }
def rankJoinsRow : OpenClaim := { program := "ytlkgejhnjbbogaa", sum := "e33fa6e0c8f8f9f2e068013b3a13afeb11cd0fa19ad615e9217f98c34fdf713e", func := "colophon/colophonlaw02.RankJoins", spec := "rankJoins", unfollowed := true, recurses := true, apart := false }
def RankJoinsSaid : Prop := rankJoinsRow.holds Try.pinned (OpenSpec.ofChange rankJoinsSpec)

/-- ITS FALSE NEIGHBOUR: 'it returns false'. Refute it at one input. -/
def rankJoinsWrong : ChangeSpec := { name := "rankJoins", fn := fun _ => fun
  | [d1, d2, d3] => { results := [.lit (.bool false)], args := [d1, d2, d3] }
  | _ => none }
def RankJoinsWrongFalsely : Prop := rankJoinsRow.holds Try.pinned (OpenSpec.ofChange rankJoinsWrong)

/-- 'colophonlaw02.RankCounts': WHATEVER THE INPUT: true; the input reads as it did. -/
def rankCountsSpec : ChangeSpec := { name := "rankCounts", fn := fun _ => fun
  | [d1, d2, d3] => { results := [.lit (.bool true)], args := [d1, d2, d3] }
  | _ => none }
def rankCountsRow : OpenClaim := { program := "ytlkgejhnjbbogaa", sum := "e33fa6e0c8f8f9f2e068013b3a13afeb11cd0fa19ad615e9217f98c34fdf713e", func := "colophon/colophonlaw02.RankCounts", spec := "rankCounts", unfollowed := true, recurses := true, apart := false }
def RankCountsSaid : Prop := rankCountsRow.holds Try.pinned (OpenSpec.ofChange rankCountsSpec)

/-- ITS FALSE NEIGHBOUR: 'it returns false'. Refute it at one input. -/
def rankCountsWrong : ChangeSpec := { name := "rankCounts", fn := fun _ => fun
  | [d1, d2, d3] => { results := [.lit (.bool false)], args := [d1, d2, d3] }
  | _ => none }
def RankCountsWrongFalsely : Prop := rankCountsRow.holds Try.pinned (OpenSpec.ofChange rankCountsWrong)

/-- 'colophonlaw02.RankAll': WHATEVER THE INPUT: true; the input reads as it did. -/
def rankAllSpec : ChangeSpec := { name := "rankAll", fn := fun _ => fun
  | [d] => { results := [.lit (.bool true)], args := [d] }
  | _ => none }
def rankAllRow : OpenClaim := { program := "ytlkgejhnjbbogaa", sum := "e33fa6e0c8f8f9f2e068013b3a13afeb11cd0fa19ad615e9217f98c34fdf713e", func := "colophon/colophonlaw02.RankAll", spec := "rankAll", unfollowed := true, recurses := true, apart := false }
def RankAllSaid : Prop := rankAllRow.holds Try.pinned (OpenSpec.ofChange rankAllSpec)

/-- ITS FALSE NEIGHBOUR: 'it returns false'. Refute it at one input. -/
def rankAllWrong : ChangeSpec := { name := "rankAll", fn := fun _ => fun
  | [d] => { results := [.lit (.bool false)], args := [d] }
  | _ => none }
def RankAllWrongFalsely : Prop := rankAllRow.holds Try.pinned (OpenSpec.ofChange rankAllWrong)

/-- 'colophonlaw02.RankTurns': WHATEVER THE INPUT: true; the input reads as it did. -/
def rankTurnsSpec : ChangeSpec := { name := "rankTurns", fn := fun _ => fun
  | [d1, d2] => { results := [.lit (.bool true)], args := [d1, d2] }
  | _ => none }
def rankTurnsRow : OpenClaim := { program := "ytlkgejhnjbbogaa", sum := "e33fa6e0c8f8f9f2e068013b3a13afeb11cd0fa19ad615e9217f98c34fdf713e", func := "colophon/colophonlaw02.RankTurns", spec := "rankTurns", unfollowed := true, recurses := true, apart := false }
def RankTurnsSaid : Prop := rankTurnsRow.holds Try.pinned (OpenSpec.ofChange rankTurnsSpec)

/-- ITS FALSE NEIGHBOUR: 'it returns false'. Refute it at one input. -/
def rankTurnsWrong : ChangeSpec := { name := "rankTurns", fn := fun _ => fun
  | [d1, d2] => { results := [.lit (.bool false)], args := [d1, d2] }
  | _ => none }
def RankTurnsWrongFalsely : Prop := rankTurnsRow.holds Try.pinned (OpenSpec.ofChange rankTurnsWrong)

/-- 'colophonlaw02.RankKeeps': WHATEVER THE INPUT: true; the input reads as it did. -/
def rankKeepsSpec : ChangeSpec := { name := "rankKeeps", fn := fun _ => fun
  | [d1, d2] => { results := [.lit (.bool true)], args := [d1, d2] }
  | _ => none }
def rankKeepsRow : OpenClaim := { program := "ytlkgejhnjbbogaa", sum := "e33fa6e0c8f8f9f2e068013b3a13afeb11cd0fa19ad615e9217f98c34fdf713e", func := "colophon/colophonlaw02.RankKeeps", spec := "rankKeeps", unfollowed := true, recurses := true, apart := false }
def RankKeepsSaid : Prop := rankKeepsRow.holds Try.pinned (OpenSpec.ofChange rankKeepsSpec)

/-- ITS FALSE NEIGHBOUR: 'it returns false'. Refute it at one input. -/
def rankKeepsWrong : ChangeSpec := { name := "rankKeeps", fn := fun _ => fun
  | [d1, d2] => { results := [.lit (.bool false)], args := [d1, d2] }
  | _ => none }
def RankKeepsWrongFalsely : Prop := rankKeepsRow.holds Try.pinned (OpenSpec.ofChange rankKeepsWrong)

/- THE SECOND FORM. 'bulk': how many values and letters a reading holds, each counted each time it is reached (what is shared counts as often as it is met; a slice's spare places count too). A statement '..UptoSaid' is the law's where the arguments, and the package variables that the reading takes, are together of bulk at most 1048576: NARROWER than '..Said'. Prove '..Said' where nothing that the law and all that it calls make is longer than what came in: it says more and counts as full. Else prove '..UptoSaid'. A law counts once. -/
mutual
def uptoBulk {H : Type} : DataW H → Nat
  | .lit (.string bytes) => bytes.length + 1
  | .lit _ => 1
  | .nil => 1
  | .ptr d => uptoBulk d + 1
  | .slice elems spare => uptoBulkAll elems + uptoBulkAll spare + 1
  | .agg parts => uptoBulkAll parts + 1
  | .iface _ d => uptoBulk d + 1
  | .map entries => uptoBulkEntries entries + 1
  | .held _ => 1
def uptoBulkAll {H : Type} : List (DataW H) → Nat
  | [] => 0
  | d :: r => uptoBulk d + uptoBulkAll r
def uptoBulkEntries {H : Type} : List (Lit × DataW H) → Nat
  | [] => 0
  | x :: r => uptoBulkEntry x + uptoBulkEntries r
def uptoBulkEntry {H : Type} : Lit × DataW H → Nat
  | (.string bytes, d) => bytes.length + uptoBulk d + 1
  | (_, d) => uptoBulk d + 1
 end
def uptoSmall : (H : Type) → List (DataW H) → Bool := fun _ ds => decide (uptoBulkAll ds ≤ 1048576)
def OpenSpec.upto (s : _root_.Go.ChangeSpec) : _root_.Go.OpenSpec := { _root_.Go.OpenSpec.ofChange s with cond := some uptoSmall }

/-- 'colophonlaw02.RankFlips', WHERE WHAT IT READS IS OF BULK AT MOST 1048576: true; the input reads as it did. -/
def rankFlipsUptoRow : OpenClaim := { program := "ytlkgejhnjbbogaa", sum := "e33fa6e0c8f8f9f2e068013b3a13afeb11cd0fa19ad615e9217f98c34fdf713e", func := "colophon/colophonlaw02.RankFlips", spec := "rankFlips", unfollowed := true, recurses := true, apart := false, narrowed := true }
def RankFlipsUptoSaid : Prop := rankFlipsUptoRow.holds Try.pinned (OpenSpec.upto rankFlipsSpec)

/-- 'colophonlaw02.RankJoins', WHERE WHAT IT READS IS OF BULK AT MOST 1048576: true; the input reads as it did. -/
def rankJoinsUptoRow : OpenClaim := { program := "ytlkgejhnjbbogaa", sum := "e33fa6e0c8f8f9f2e068013b3a13afeb11cd0fa19ad615e9217f98c34fdf713e", func := "colophon/colophonlaw02.RankJoins", spec := "rankJoins", unfollowed := true, recurses := true, apart := false, narrowed := true }
def RankJoinsUptoSaid : Prop := rankJoinsUptoRow.holds Try.pinned (OpenSpec.upto rankJoinsSpec)

/-- 'colophonlaw02.RankCounts', WHERE WHAT IT READS IS OF BULK AT MOST 1048576: true; the input reads as it did. -/
def rankCountsUptoRow : OpenClaim := { program := "ytlkgejhnjbbogaa", sum := "e33fa6e0c8f8f9f2e068013b3a13afeb11cd0fa19ad615e9217f98c34fdf713e", func := "colophon/colophonlaw02.RankCounts", spec := "rankCounts", unfollowed := true, recurses := true, apart := false, narrowed := true }
def RankCountsUptoSaid : Prop := rankCountsUptoRow.holds Try.pinned (OpenSpec.upto rankCountsSpec)

/-- 'colophonlaw02.RankAll', WHERE WHAT IT READS IS OF BULK AT MOST 1048576: true; the input reads as it did. -/
def rankAllUptoRow : OpenClaim := { program := "ytlkgejhnjbbogaa", sum := "e33fa6e0c8f8f9f2e068013b3a13afeb11cd0fa19ad615e9217f98c34fdf713e", func := "colophon/colophonlaw02.RankAll", spec := "rankAll", unfollowed := true, recurses := true, apart := false, narrowed := true }
def RankAllUptoSaid : Prop := rankAllUptoRow.holds Try.pinned (OpenSpec.upto rankAllSpec)

/-- 'colophonlaw02.RankTurns', WHERE WHAT IT READS IS OF BULK AT MOST 1048576: true; the input reads as it did. -/
def rankTurnsUptoRow : OpenClaim := { program := "ytlkgejhnjbbogaa", sum := "e33fa6e0c8f8f9f2e068013b3a13afeb11cd0fa19ad615e9217f98c34fdf713e", func := "colophon/colophonlaw02.RankTurns", spec := "rankTurns", unfollowed := true, recurses := true, apart := false, narrowed := true }
def RankTurnsUptoSaid : Prop := rankTurnsUptoRow.holds Try.pinned (OpenSpec.upto rankTurnsSpec)

/-- 'colophonlaw02.RankKeeps', WHERE WHAT IT READS IS OF BULK AT MOST 1048576: true; the input reads as it did. -/
def rankKeepsUptoRow : OpenClaim := { program := "ytlkgejhnjbbogaa", sum := "e33fa6e0c8f8f9f2e068013b3a13afeb11cd0fa19ad615e9217f98c34fdf713e", func := "colophon/colophonlaw02.RankKeeps", spec := "rankKeeps", unfollowed := true, recurses := true, apart := false, narrowed := true }
def RankKeepsUptoSaid : Prop := rankKeepsUptoRow.holds Try.pinned (OpenSpec.upto rankKeepsSpec)

end Rows
end Go.Proofs.Ytlkgejhnjbbogaa
