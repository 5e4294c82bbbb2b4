/-
  No cell of these rows narrows 'for every input' (looked for: loops, veiled, ifaces, maps, wideKeys, modest, calm, conditions, laid).
  DERIVED. THE GIVEN ROWS OF THIS SEAT. 4 by the template 'for every input the law returns true; each argument reads behind the call as it read before'; 0 by the template 'total and deterministic' (their statements: YtbcdcpkofgfofaaTotals.lean).
  GIVEN WITH THE SEED: the statements are not yours to turn. If you find one false, say at which input.
  Laid BY PROGRAM, IN A SANDBOX (cutbox-rows.mjs): the forced cells as the released guide's own fill.sh prints them over the translation 60c080f5819eb188… (all of the seat's roots in one cut). By AI agents, Wed Nov 11 2026. No macro, syntax, notation, axiom, sorry.
-/
import Derived.Test.YtbcdcpkofgfofaaChecked
import GoSem.Claim
import GoSem.ClaimJoined
import GoSem.ClaimMapViews
import Derived.JoinedTies
import Derived.KernelRfl
namespace Go.Proofs.Ytbcdcpkofgfofaa
/- THE CELL 'sum', in the pinned program and in every row, IS THE sha256 OF THE DUMP (.gsa) THAT YtbcdcpkofgfofaaProg.lean LOADS. Nothing in Lean hashes anything: it is a label: what it is worth is what the hold of that sum in a sandbox is worth. -/
noncomputable def Try.pinned : Pinned := { name := "ytbcdcpkofgfofaa", sum := "60c080f5819eb18820a76586f5c4eef074f28d671e6b714f661d5a300b779163", checked := Try.checked }
namespace Rows
def none {H : Type} : Left H := { results := [], args := [] }

/-- 'colophonlaw07.CachePlays': WHATEVER THE INPUT: true; the input reads as it did. -/
def cachePlaysSpec : ChangeSpec := { name := "cachePlays", fn := fun _ => fun
  | [d1, d2, d3] => { results := [.lit (.bool true)], args := [d1, d2, d3] }
  | _ => none }
def cachePlaysRow : OpenClaim := { program := "ytbcdcpkofgfofaa", sum := "60c080f5819eb18820a76586f5c4eef074f28d671e6b714f661d5a300b779163", func := "colophon/colophonlaw07.CachePlays", spec := "cachePlays", unfollowed := true, recurses := true, apart := false }
def CachePlaysSaid : Prop := cachePlaysRow.holds Try.pinned (OpenSpec.ofChange cachePlaysSpec)

/-- ITS FALSE NEIGHBOUR: 'it returns false'. Refute it at one input. -/
def cachePlaysWrong : ChangeSpec := { name := "cachePlays", fn := fun _ => fun
  | [d1, d2, d3] => { results := [.lit (.bool false)], args := [d1, d2, d3] }
  | _ => none }
def CachePlaysWrongFalsely : Prop := cachePlaysRow.holds Try.pinned (OpenSpec.ofChange cachePlaysWrong)

/-- 'colophonlaw07.CacheBounds': WHATEVER THE INPUT: true; the input reads as it did. -/
def cacheBoundsSpec : ChangeSpec := { name := "cacheBounds", fn := fun _ => fun
  | [d1, d2] => { results := [.lit (.bool true)], args := [d1, d2] }
  | _ => none }
def cacheBoundsRow : OpenClaim := { program := "ytbcdcpkofgfofaa", sum := "60c080f5819eb18820a76586f5c4eef074f28d671e6b714f661d5a300b779163", func := "colophon/colophonlaw07.CacheBounds", spec := "cacheBounds", unfollowed := true, recurses := true, apart := false }
def CacheBoundsSaid : Prop := cacheBoundsRow.holds Try.pinned (OpenSpec.ofChange cacheBoundsSpec)

/-- ITS FALSE NEIGHBOUR: 'it returns false'. Refute it at one input. -/
def cacheBoundsWrong : ChangeSpec := { name := "cacheBounds", fn := fun _ => fun
  | [d1, d2] => { results := [.lit (.bool false)], args := [d1, d2] }
  | _ => none }
def CacheBoundsWrongFalsely : Prop := cacheBoundsRow.holds Try.pinned (OpenSpec.ofChange cacheBoundsWrong)

/-- 'colophonlaw07.CacheCharges': WHATEVER THE INPUT: true; the input reads as it did. -/
def cacheChargesSpec : ChangeSpec := { name := "cacheCharges", fn := fun _ => fun
  | [d1, d2] => { results := [.lit (.bool true)], args := [d1, d2] }
  | _ => none }
def cacheChargesRow : OpenClaim := { program := "ytbcdcpkofgfofaa", sum := "60c080f5819eb18820a76586f5c4eef074f28d671e6b714f661d5a300b779163", func := "colophon/colophonlaw07.CacheCharges", spec := "cacheCharges", unfollowed := true, recurses := true, apart := false }
def CacheChargesSaid : Prop := cacheChargesRow.holds Try.pinned (OpenSpec.ofChange cacheChargesSpec)

/-- ITS FALSE NEIGHBOUR: 'it returns false'. Refute it at one input. -/
def cacheChargesWrong : ChangeSpec := { name := "cacheCharges", fn := fun _ => fun
  | [d1, d2] => { results := [.lit (.bool false)], args := [d1, d2] }
  | _ => none }
def CacheChargesWrongFalsely : Prop := cacheChargesRow.holds Try.pinned (OpenSpec.ofChange cacheChargesWrong)

/-- 'colophonlaw07.CacheSame': WHATEVER THE INPUT: true; the input reads as it did. -/
def cacheSameSpec : ChangeSpec := { name := "cacheSame", fn := fun _ => fun
  | [d1, d2] => { results := [.lit (.bool true)], args := [d1, d2] }
  | _ => none }
def cacheSameRow : OpenClaim := { program := "ytbcdcpkofgfofaa", sum := "60c080f5819eb18820a76586f5c4eef074f28d671e6b714f661d5a300b779163", func := "colophon/colophonlaw07.CacheSame", spec := "cacheSame", unfollowed := true, recurses := true, apart := false }
def CacheSameSaid : Prop := cacheSameRow.holds Try.pinned (OpenSpec.ofChange cacheSameSpec)

/-- ITS FALSE NEIGHBOUR: 'it returns false'. Refute it at one input. -/
def cacheSameWrong : ChangeSpec := { name := "cacheSame", fn := fun _ => fun
  | [d1, d2] => { results := [.lit (.bool false)], args := [d1, d2] }
  | _ => none }
def CacheSameWrongFalsely : Prop := cacheSameRow.holds Try.pinned (OpenSpec.ofChange cacheSameWrong)

/- THE SECOND FORM. 'bulk': how many values and letters a reading holds, each counted each time it is reached (what is shared counts as often as it is met; a slice's spare places count too). A statement '..UptoSaid' is the law's where the arguments, and the package variables that the reading takes, are together of bulk at most 1048576: NARROWER than '..Said'. Prove '..Said' where nothing that the law and all that it calls make is longer than what came in: it says more and counts as full. Else prove '..UptoSaid'. A law counts once. -/
mutual
def uptoBulk {H : Type} : DataW H → Nat
  | .lit (.string bytes) => bytes.length + 1
  | .lit _ => 1
  | .nil => 1
  | .ptr d => uptoBulk d + 1
  | .slice elems spare => uptoBulkAll elems + uptoBulkAll spare + 1
  | .agg parts => uptoBulkAll parts + 1
  | .iface _ d => uptoBulk d + 1
  | .map entries => uptoBulkEntries entries + 1
  | .held _ => 1
def uptoBulkAll {H : Type} : List (DataW H) → Nat
  | [] => 0
  | d :: r => uptoBulk d + uptoBulkAll r
def uptoBulkEntries {H : Type} : List (Lit × DataW H) → Nat
  | [] => 0
  | x :: r => uptoBulkEntry x + uptoBulkEntries r
def uptoBulkEntry {H : Type} : Lit × DataW H → Nat
  | (.string bytes, d) => bytes.length + uptoBulk d + 1
  | (_, d) => uptoBulk d + 1
 end
def uptoSmall : (H : Type) → List (DataW H) → Bool := fun _ ds => decide (uptoBulkAll ds ≤ 1048576)
def OpenSpec.upto (s : _root_.Go.ChangeSpec) : _root_.Go.OpenSpec := { _root_.Go.OpenSpec.ofChange s with cond := some uptoSmall }

/-- 'colophonlaw07.CachePlays', WHERE WHAT IT READS IS OF BULK AT MOST 1048576: true; the input reads as it did. -/
def cachePlaysUptoRow : OpenClaim := { program := "ytbcdcpkofgfofaa", sum := "60c080f5819eb18820a76586f5c4eef074f28d671e6b714f661d5a300b779163", func := "colophon/colophonlaw07.CachePlays", spec := "cachePlays", unfollowed := true, recurses := true, apart := false, narrowed := true }
def CachePlaysUptoSaid : Prop := cachePlaysUptoRow.holds Try.pinned (OpenSpec.upto cachePlaysSpec)

/-- 'colophonlaw07.CacheBounds', WHERE WHAT IT READS IS OF BULK AT MOST 1048576: true; the input reads as it did. -/
def cacheBoundsUptoRow : OpenClaim := { program := "ytbcdcpkofgfofaa", sum := "60c080f5819eb18820a76586f5c4eef074f28d671e6b714f661d5a300b779163", func := "colophon/colophonlaw07.CacheBounds", spec := "cacheBounds", unfollowed := true, recurses := true, apart := false, narrowed := true }
def CacheBoundsUptoSaid : Prop := cacheBoundsUptoRow.holds Try.pinned (OpenSpec.upto cacheBoundsSpec)

/-- 'colophonlaw07.CacheCharges', WHERE WHAT IT READS IS OF BULK AT MOST 1048576: true; the input reads as it did. -/
def cacheChargesUptoRow : OpenClaim := { program := "ytbcdcpkofgfofaa", sum := "60c080f5819eb18820a76586f5c4eef074f28d671e6b714f661d5a300b779163", func := "colophon/colophonlaw07.CacheCharges", spec := "cacheCharges", unfollowed := true, recurses := true, apart := false, narrowed := true }
def CacheChargesUptoSaid : Prop := cacheChargesUptoRow.holds Try.pinned (OpenSpec.upto cacheChargesSpec)

/-- 'colophonlaw07.CacheSame', WHERE WHAT IT READS IS OF BULK AT MOST 1048576: true; the input reads as it did. -/
def cacheSameUptoRow : OpenClaim := { program := "ytbcdcpkofgfofaa", sum := "60c080f5819eb18820a76586f5c4eef074f28d671e6b714f661d5a300b779163", func := "colophon/colophonlaw07.CacheSame", spec := "cacheSame", unfollowed := true, recurses := true, apart := false, narrowed := true }
def CacheSameUptoSaid : Prop := cacheSameUptoRow.holds Try.pinned (OpenSpec.upto cacheSameSpec)

end Rows
end Go.Proofs.Ytbcdcpkofgfofaa
