/-
  Printed by gen.py (my own tool): for each Go function a plain Lean function and the proof that a call of it does what that function says.
-/
import Derived.Test.YtdfoalfnpgeilaaGP1
set_option linter.unusedVariables false
set_option linter.unusedSimpArgs false
set_option maxRecDepth 100000
namespace Go.Proofs.Ytdfoalfnpgeilaa
open Go Go.Gol
/-! ### 4 colophon/colophonlaw05.PageGets -/
def colophonlaw05_PageGets.l1 (y40 : List Int) : Nat → (List Int) → Int → Option Unit
  | 0, _, _ => none
  | k + 1, x6_l1, x42_l1 => (if decide (x42_l1 < (y40.length : Int)) then ((at? x6_l1 x42_l1).bind fun v56 => ((set? x6_l1 x42_l1 (ixor .u8 v56 255)).bind fun y58 => colophonlaw05_PageGets.l1 y40 k y58 (wi (x42_l1 + 1)))) else some ())
def colophonlaw05_PageGets.l2 (y84 : List Int) : Nat → (List Int) → Int → Option Unit
  | 0, _, _ => none
  | k + 1, x6_l2, x42_l2 => (if decide (x42_l2 < (y84.length : Int)) then ((at? x6_l2 x42_l2).bind fun v100 => ((set? x6_l2 x42_l2 (ixor .u8 v100 255)).bind fun y102 => colophonlaw05_PageGets.l2 y84 k y102 (wi (x42_l2 + 1)))) else some ())
def colophonlaw05_PageGets.l3 (y128 : List Int) : Nat → (List Int) → Int → Option Unit
  | 0, _, _ => none
  | k + 1, x6_l3, x42_l3 => (if decide (x42_l3 < (y128.length : Int)) then ((at? x6_l3 x42_l3).bind fun v144 => ((set? x6_l3 x42_l3 (ixor .u8 v144 255)).bind fun y146 => colophonlaw05_PageGets.l3 y128 k y146 (wi (x42_l3 + 1)))) else some ())
def colophonlaw05_PageGets.f (l0 : List Int) (a1 : Bool) : Option Bool := (colophonlaw05_first.f.bind fun r1 => (if (!r1) then some false else (if decide ((l0.length : Int) > 2000) then some true else ((app? 140737488355328 (([] : List Int) : List Int) l0).bind fun y15 => (if a1 then (if decide ((y15.length : Int) ≥ 260) then ((sub? y15 0 260).bind fun y21 => ((colophonref04_Put.f y21).bind fun r26 => ((app? 140737488355328 (([] : List Int) : List Int) r26).bind fun y40 => ((page_Get.f y40).bind fun r44 => ((colophonlaw05_PageGets.l1 y40 FU y40 0).bind fun o62 => ((colophonref05_Get.f r26).bind fun r67 => (if (r44.2.2 == r67.2.2) then (if (r44.1 == r67.1) then some ((bs r44.2.1).toList == (bs r67.2.1).toList) else some false) else some false))))))) else ((app? 140737488355328 (([] : List Int) : List Int) y15).bind fun y84 => ((page_Get.f y84).bind fun r88 => ((colophonlaw05_PageGets.l2 y84 FU y84 0).bind fun o106 => ((colophonref05_Get.f y15).bind fun r111 => (if (r88.2.2 == r111.2.2) then (if (r88.1 == r111.1) then some ((bs r88.2.1).toList == (bs r111.2.1).toList) else some false) else some false)))))) else ((app? 140737488355328 (([] : List Int) : List Int) y15).bind fun y128 => ((page_Get.f y128).bind fun r132 => ((colophonlaw05_PageGets.l3 y128 FU y128 0).bind fun o150 => ((colophonref05_Get.f y15).bind fun r155 => (if (r132.2.2 == r155.2.2) then (if (r132.1 == r155.1) then some ((bs r132.2.1).toList == (bs r155.2.1).toList) else some false) else some false))))))))))
def colophonlaw05_PageGets.post (w : World) (r : Bool) (v : Value) (w' : World) : Prop := v = (.bool r : Value) ∧ Sat w' (rf w) []
theorem colophonlaw05_PageGets.l1_ok {Q} (w0 : World) (r26 : (List Int)) (A35 : Option Addr) (c36 : Nat) (y40 : List Int) (r44 : Int × (List Int) × Int) (A53 : Option Addr) (c54 : Nat) (out : Unit) (hn0 : ∀ (w : World), Sat w (rf w0) [osl 5 (r0 (.int .u8)) 1 A35 c36 r26, osl 5 (r0 (.int .u8)) 1 A53 c54 r44.2.1] → At Q (.exit 0) 73 [(5, .slice A35 r26.length c36), (7, .int .i64 r44.1), (8, .slice A53 r44.2.1.length c54), (9, .int .i64 r44.2.2)] w) :
    ∀ (k : Nat) (x6_l1 : List Int) (x42_l1 : Int) (A6_l1 : Option Addr) (c6_l1 : Nat) (w : World), Sat w (rf w0) [osl 5 (r0 (.int .u8)) 1 A35 c36 r26, osl 5 (r0 (.int .u8)) 1 A6_l1 c6_l1 x6_l1, osl 5 (r0 (.int .u8)) 1 A53 c54 r44.2.1] → colophonlaw05_PageGets.l1 y40 k x6_l1 x42_l1 = some out → WL Try.prog (cbody (cbody (cr (cl (cr (cr (cr (cr (cr (cr (cr C4))))))))))) Q 73 [(5, .slice A35 r26.length c36), (6, .slice A6_l1 x6_l1.length c6_l1), (7, .int .i64 r44.1), (8, .slice A53 r44.2.1.length c54), (9, .int .i64 r44.2.2), (41, .int .i64 (y40.length : Int)), (42, .int .i64 x42_l1)] w := by
  intro k
  induction k with
  | zero => intro x6_l1 x42_l1 A6_l1 c6_l1 w hS H; exact absurd (show none = some out from H) (by simp)
  | succ k ih =>
    intro x6_l1 x42_l1 A6_l1 c6_l1 w hS H
    unfold colophonlaw05_PageGets.l1 at H
    refine WL.round ?_
    refine WC.seq (by kernel_rfl) ?_
    refine WC.reg [0] (by kernel_rfl) (by kernel_rfl) ?_
    refine WR.runk [0] [] [5, 6, 7, 8, 9, 41, 42, 43] (L' := [(5, .slice A35 r26.length c36), (6, .slice A6_l1 x6_l1.length c6_l1), (7, .int .i64 r44.1), (8, .slice A53 r44.2.1.length c54), (9, .int .i64 r44.2.2), (41, .int .i64 (y40.length : Int)), (42, .int .i64 x42_l1), (43, .bool (decide (x42_l1 < (y40.length : Int))))]) (w' := w) (by kernel_rfl) ?_
    refine WR.nil ?_
    refine At.go ?_
    refine WC.seq (by kernel_rfl) ?_
    refine WC.cond (by kernel_rfl) (decide (x42_l1 < (y40.length : Int))) (by kernel_rfl) (by kernel_rfl) (fun hb55 => ?_) (fun hb55 => ?_)
    · replace H := ite_t H hb55
      refine WC.skip (by kernel_rfl) ?_
      refine At.go ?_
      refine WC.seq (by kernel_rfl) ?_
      refine WC.block (by kernel_rfl) ?_
      refine WC.seq (by kernel_rfl) ?_
      refine WC.reg [0, 1] (by kernel_rfl) (by kernel_rfl) ?_
      refine WR.runk [0, 1] [] [5, 6, 7, 8, 9, 10, 41, 42] (L' := [(5, .slice A35 r26.length c36), (6, .slice A6_l1 x6_l1.length c6_l1), (7, .int .i64 r44.1), (8, .slice A53 r44.2.1.length c54), (9, .int .i64 r44.2.2), (10, .int .i64 x42_l1), (41, .int .i64 (y40.length : Int)), (42, .int .i64 x42_l1)]) (w' := w) (by kernel_rfl) ?_
      refine WR.nil ?_
      refine At.go ?_
      refine WC.reg [0, 1, 2, 3, 4, 5, 6] (by kernel_rfl) (by kernel_rfl) ?_
      refine WR.runk [0, 1] [2, 3, 4, 5, 6] [5, 6, 7, 8, 9, 41, 42, 45, 46] (L' := [(5, .slice A35 r26.length c36), (6, .slice A6_l1 x6_l1.length c6_l1), (7, .int .i64 r44.1), (8, .slice A53 r44.2.1.length c54), (9, .int .i64 r44.2.2), (41, .int .i64 (y40.length : Int)), (42, .int .i64 x42_l1), (45, .slice A6_l1 x6_l1.length c6_l1), (46, .int .i64 x42_l1)]) (w' := w) (by kernel_rfl) ?_
      obtain ⟨v56, e57, H⟩ := bind_ex H
      refine WR.st (St.ofP (PSt.idx (k := .i64) (.tmp 45) (.tmp 46) (by kernel_rfl) (by kernel_rfl) E22 (by kernel_rfl) (by kernel_rfl) (Sat.rdAt 1 hS rfl) e57 ?_))
      refine WR.runk [] [3, 4, 5, 6] [5, 6, 7, 8, 9, 41, 42, 45, 46, 47] (L' := [(5, .slice A35 r26.length c36), (6, .slice A6_l1 x6_l1.length c6_l1), (7, .int .i64 r44.1), (8, .slice A53 r44.2.1.length c54), (9, .int .i64 r44.2.2), (41, .int .i64 (y40.length : Int)), (42, .int .i64 x42_l1), (45, .slice A6_l1 x6_l1.length c6_l1), (46, .int .i64 x42_l1), (47, .pointer (some (adr A6_l1 x42_l1.toNat 1)))]) (w' := w) (by kernel_rfl) ?_
      refine WR.st (St.ofR (RSt.loadInt (t := 5) (.tmp 47) (by kernel_rfl) (by kernel_rfl) (by kernel_rfl) (by kernel_rfl) (Sat.rdAt 1 hS rfl) e57 ?_))
      refine WR.runk [4] [5, 6] [5, 6, 7, 8, 9, 41, 42, 45, 46, 49] (L' := [(5, .slice A35 r26.length c36), (6, .slice A6_l1 x6_l1.length c6_l1), (7, .int .i64 r44.1), (8, .slice A53 r44.2.1.length c54), (9, .int .i64 r44.2.2), (41, .int .i64 (y40.length : Int)), (42, .int .i64 x42_l1), (45, .slice A6_l1 x6_l1.length c6_l1), (46, .int .i64 x42_l1), (49, .int .u8 (ixor .u8 v56 255))]) (w' := w) (by kernel_rfl) ?_
      refine WR.st (St.ofP (PSt.idx (k := .i64) (.tmp 45) (.tmp 46) (by kernel_rfl) (by kernel_rfl) E22 (by kernel_rfl) (by kernel_rfl) (Sat.rdAt 1 hS rfl) e57 ?_))
      refine WR.runk [] [6] [5, 6, 7, 8, 9, 41, 42, 49, 50] (L' := [(5, .slice A35 r26.length c36), (6, .slice A6_l1 x6_l1.length c6_l1), (7, .int .i64 r44.1), (8, .slice A53 r44.2.1.length c54), (9, .int .i64 r44.2.2), (41, .int .i64 (y40.length : Int)), (42, .int .i64 x42_l1), (49, .int .u8 (ixor .u8 v56 255)), (50, .pointer (some (adr A6_l1 x42_l1.toNat 1)))]) (w' := w) (by kernel_rfl) ?_
      have hS : Sat w (rf w0) [osl 5 (r0 (.int .u8)) 1 A6_l1 c6_l1 x6_l1, osl 5 (r0 (.int .u8)) 1 A35 c36 r26, osl 5 (r0 (.int .u8)) 1 A53 c54 r44.2.1] := hS.sel [1, 0, 2] (by kernel_rfl)
      obtain ⟨y58, e59, H⟩ := bind_ex H
      refine WR.st (St.storeElem' (t := 5) (.tmp 50) (.tmp 49) (by kernel_rfl) (by kernel_rfl) (by kernel_rfl) hS (by kernel_rfl) (by kernel_rfl) rfl e59 rfl (fun w60 hS => ?_))
      have hl61 := set?_len e59
      refine WR.know 6 (.slice A6_l1 y58.length c6_l1) (.slice A6_l1 x6_l1.length c6_l1) (by kernel_rfl) (by rw [hl61]) ?_
      refine WR.runk [] [] [5, 6, 7, 8, 9, 41, 42] (L' := [(5, .slice A35 r26.length c36), (6, .slice A6_l1 y58.length c6_l1), (7, .int .i64 r44.1), (8, .slice A53 r44.2.1.length c54), (9, .int .i64 r44.2.2), (41, .int .i64 (y40.length : Int)), (42, .int .i64 x42_l1)]) (w' := w60) (by kernel_rfl) ?_
      refine WR.nil ?_
      refine At.blockNormal ?_
      refine At.go ?_
      refine WC.reg [0, 1] (by kernel_rfl) (by kernel_rfl) ?_
      refine WR.runk [0, 1] [] [5, 6, 7, 8, 9, 41, 42] (L' := [(5, .slice A35 r26.length c36), (6, .slice A6_l1 y58.length c6_l1), (7, .int .i64 r44.1), (8, .slice A53 r44.2.1.length c54), (9, .int .i64 r44.2.2), (41, .int .i64 (y40.length : Int)), (42, .int .i64 (wi (x42_l1 + 1)))]) (w' := w60) (by kernel_rfl) ?_
      refine WR.nil ?_
      have hS : Sat w60 (rf w0) [osl 5 (r0 (.int .u8)) 1 A35 c36 r26, osl 5 (r0 (.int .u8)) 1 A6_l1 c6_l1 y58, osl 5 (r0 (.int .u8)) 1 A53 c54 r44.2.1] := hS.sel [1, 0, 2] (by kernel_rfl)
      refine At.again ?_
      refine WL.weaken [5, 6, 7, 8, 9, 41, 42] (L' := [(5, .slice A35 r26.length c36), (6, .slice A6_l1 y58.length c6_l1), (7, .int .i64 r44.1), (8, .slice A53 r44.2.1.length c54), (9, .int .i64 r44.2.2), (41, .int .i64 (y40.length : Int)), (42, .int .i64 (wi (x42_l1 + 1)))]) (by kernel_rfl) ?_
      exact ih y58 (wi (x42_l1 + 1)) A6_l1 c6_l1 _ hS H
    · replace H := ite_f H hb55
      refine WC.exit (by kernel_rfl) ?_
      refine At.thenExit ?_
      refine At.thenExit ?_
      obtain rfl := Option.some.inj H
      have hS : Sat w (rf w0) [osl 5 (r0 (.int .u8)) 1 A35 c36 r26, osl 5 (r0 (.int .u8)) 1 A53 c54 r44.2.1] := hS.sel [0, 2] (by kernel_rfl)
      refine At.weaken [5, 7, 8, 9] (L' := [(5, .slice A35 r26.length c36), (7, .int .i64 r44.1), (8, .slice A53 r44.2.1.length c54), (9, .int .i64 r44.2.2)]) (by kernel_rfl) ?_
      exact hn0 _ hS
theorem colophonlaw05_PageGets.l2_ok {Q} (w0 : World) (y15 : List Int) (A16 : Option Addr) (c17 : Nat) (y84 : List Int) (r88 : Int × (List Int) × Int) (A97 : Option Addr) (c98 : Nat) (out : Unit) (hn0 : ∀ (w : World), Sat w (rf w0) [osl 5 (r0 (.int .u8)) 1 A16 c17 y15, osl 5 (r0 (.int .u8)) 1 A97 c98 r88.2.1] → At Q (.exit 0) 73 [(5, .slice A16 y15.length c17), (7, .int .i64 r88.1), (8, .slice A97 r88.2.1.length c98), (9, .int .i64 r88.2.2)] w) :
    ∀ (k : Nat) (x6_l2 : List Int) (x42_l2 : Int) (A6_l2 : Option Addr) (c6_l2 : Nat) (w : World), Sat w (rf w0) [osl 5 (r0 (.int .u8)) 1 A16 c17 y15, osl 5 (r0 (.int .u8)) 1 A6_l2 c6_l2 x6_l2, osl 5 (r0 (.int .u8)) 1 A97 c98 r88.2.1] → colophonlaw05_PageGets.l2 y84 k x6_l2 x42_l2 = some out → WL Try.prog (cbody (cbody (cr (cl (cr (cr (cr (cr (cr (cr (cr C4))))))))))) Q 73 [(5, .slice A16 y15.length c17), (6, .slice A6_l2 x6_l2.length c6_l2), (7, .int .i64 r88.1), (8, .slice A97 r88.2.1.length c98), (9, .int .i64 r88.2.2), (41, .int .i64 (y84.length : Int)), (42, .int .i64 x42_l2)] w := by
  intro k
  induction k with
  | zero => intro x6_l2 x42_l2 A6_l2 c6_l2 w hS H; exact absurd (show none = some out from H) (by simp)
  | succ k ih =>
    intro x6_l2 x42_l2 A6_l2 c6_l2 w hS H
    unfold colophonlaw05_PageGets.l2 at H
    refine WL.round ?_
    refine WC.seq (by kernel_rfl) ?_
    refine WC.reg [0] (by kernel_rfl) (by kernel_rfl) ?_
    refine WR.runk [0] [] [5, 6, 7, 8, 9, 41, 42, 43] (L' := [(5, .slice A16 y15.length c17), (6, .slice A6_l2 x6_l2.length c6_l2), (7, .int .i64 r88.1), (8, .slice A97 r88.2.1.length c98), (9, .int .i64 r88.2.2), (41, .int .i64 (y84.length : Int)), (42, .int .i64 x42_l2), (43, .bool (decide (x42_l2 < (y84.length : Int))))]) (w' := w) (by kernel_rfl) ?_
    refine WR.nil ?_
    refine At.go ?_
    refine WC.seq (by kernel_rfl) ?_
    refine WC.cond (by kernel_rfl) (decide (x42_l2 < (y84.length : Int))) (by kernel_rfl) (by kernel_rfl) (fun hb99 => ?_) (fun hb99 => ?_)
    · replace H := ite_t H hb99
      refine WC.skip (by kernel_rfl) ?_
      refine At.go ?_
      refine WC.seq (by kernel_rfl) ?_
      refine WC.block (by kernel_rfl) ?_
      refine WC.seq (by kernel_rfl) ?_
      refine WC.reg [0, 1] (by kernel_rfl) (by kernel_rfl) ?_
      refine WR.runk [0, 1] [] [5, 6, 7, 8, 9, 10, 41, 42] (L' := [(5, .slice A16 y15.length c17), (6, .slice A6_l2 x6_l2.length c6_l2), (7, .int .i64 r88.1), (8, .slice A97 r88.2.1.length c98), (9, .int .i64 r88.2.2), (10, .int .i64 x42_l2), (41, .int .i64 (y84.length : Int)), (42, .int .i64 x42_l2)]) (w' := w) (by kernel_rfl) ?_
      refine WR.nil ?_
      refine At.go ?_
      refine WC.reg [0, 1, 2, 3, 4, 5, 6] (by kernel_rfl) (by kernel_rfl) ?_
      refine WR.runk [0, 1] [2, 3, 4, 5, 6] [5, 6, 7, 8, 9, 41, 42, 45, 46] (L' := [(5, .slice A16 y15.length c17), (6, .slice A6_l2 x6_l2.length c6_l2), (7, .int .i64 r88.1), (8, .slice A97 r88.2.1.length c98), (9, .int .i64 r88.2.2), (41, .int .i64 (y84.length : Int)), (42, .int .i64 x42_l2), (45, .slice A6_l2 x6_l2.length c6_l2), (46, .int .i64 x42_l2)]) (w' := w) (by kernel_rfl) ?_
      obtain ⟨v100, e101, H⟩ := bind_ex H
      refine WR.st (St.ofP (PSt.idx (k := .i64) (.tmp 45) (.tmp 46) (by kernel_rfl) (by kernel_rfl) E22 (by kernel_rfl) (by kernel_rfl) (Sat.rdAt 1 hS rfl) e101 ?_))
      refine WR.runk [] [3, 4, 5, 6] [5, 6, 7, 8, 9, 41, 42, 45, 46, 47] (L' := [(5, .slice A16 y15.length c17), (6, .slice A6_l2 x6_l2.length c6_l2), (7, .int .i64 r88.1), (8, .slice A97 r88.2.1.length c98), (9, .int .i64 r88.2.2), (41, .int .i64 (y84.length : Int)), (42, .int .i64 x42_l2), (45, .slice A6_l2 x6_l2.length c6_l2), (46, .int .i64 x42_l2), (47, .pointer (some (adr A6_l2 x42_l2.toNat 1)))]) (w' := w) (by kernel_rfl) ?_
      refine WR.st (St.ofR (RSt.loadInt (t := 5) (.tmp 47) (by kernel_rfl) (by kernel_rfl) (by kernel_rfl) (by kernel_rfl) (Sat.rdAt 1 hS rfl) e101 ?_))
      refine WR.runk [4] [5, 6] [5, 6, 7, 8, 9, 41, 42, 45, 46, 49] (L' := [(5, .slice A16 y15.length c17), (6, .slice A6_l2 x6_l2.length c6_l2), (7, .int .i64 r88.1), (8, .slice A97 r88.2.1.length c98), (9, .int .i64 r88.2.2), (41, .int .i64 (y84.length : Int)), (42, .int .i64 x42_l2), (45, .slice A6_l2 x6_l2.length c6_l2), (46, .int .i64 x42_l2), (49, .int .u8 (ixor .u8 v100 255))]) (w' := w) (by kernel_rfl) ?_
      refine WR.st (St.ofP (PSt.idx (k := .i64) (.tmp 45) (.tmp 46) (by kernel_rfl) (by kernel_rfl) E22 (by kernel_rfl) (by kernel_rfl) (Sat.rdAt 1 hS rfl) e101 ?_))
      refine WR.runk [] [6] [5, 6, 7, 8, 9, 41, 42, 49, 50] (L' := [(5, .slice A16 y15.length c17), (6, .slice A6_l2 x6_l2.length c6_l2), (7, .int .i64 r88.1), (8, .slice A97 r88.2.1.length c98), (9, .int .i64 r88.2.2), (41, .int .i64 (y84.length : Int)), (42, .int .i64 x42_l2), (49, .int .u8 (ixor .u8 v100 255)), (50, .pointer (some (adr A6_l2 x42_l2.toNat 1)))]) (w' := w) (by kernel_rfl) ?_
      have hS : Sat w (rf w0) [osl 5 (r0 (.int .u8)) 1 A6_l2 c6_l2 x6_l2, osl 5 (r0 (.int .u8)) 1 A16 c17 y15, osl 5 (r0 (.int .u8)) 1 A97 c98 r88.2.1] := hS.sel [1, 0, 2] (by kernel_rfl)
      obtain ⟨y102, e103, H⟩ := bind_ex H
      refine WR.st (St.storeElem' (t := 5) (.tmp 50) (.tmp 49) (by kernel_rfl) (by kernel_rfl) (by kernel_rfl) hS (by kernel_rfl) (by kernel_rfl) rfl e103 rfl (fun w104 hS => ?_))
      have hl105 := set?_len e103
      refine WR.know 6 (.slice A6_l2 y102.length c6_l2) (.slice A6_l2 x6_l2.length c6_l2) (by kernel_rfl) (by rw [hl105]) ?_
      refine WR.runk [] [] [5, 6, 7, 8, 9, 41, 42] (L' := [(5, .slice A16 y15.length c17), (6, .slice A6_l2 y102.length c6_l2), (7, .int .i64 r88.1), (8, .slice A97 r88.2.1.length c98), (9, .int .i64 r88.2.2), (41, .int .i64 (y84.length : Int)), (42, .int .i64 x42_l2)]) (w' := w104) (by kernel_rfl) ?_
      refine WR.nil ?_
      refine At.blockNormal ?_
      refine At.go ?_
      refine WC.reg [0, 1] (by kernel_rfl) (by kernel_rfl) ?_
      refine WR.runk [0, 1] [] [5, 6, 7, 8, 9, 41, 42] (L' := [(5, .slice A16 y15.length c17), (6, .slice A6_l2 y102.length c6_l2), (7, .int .i64 r88.1), (8, .slice A97 r88.2.1.length c98), (9, .int .i64 r88.2.2), (41, .int .i64 (y84.length : Int)), (42, .int .i64 (wi (x42_l2 + 1)))]) (w' := w104) (by kernel_rfl) ?_
      refine WR.nil ?_
      have hS : Sat w104 (rf w0) [osl 5 (r0 (.int .u8)) 1 A16 c17 y15, osl 5 (r0 (.int .u8)) 1 A6_l2 c6_l2 y102, osl 5 (r0 (.int .u8)) 1 A97 c98 r88.2.1] := hS.sel [1, 0, 2] (by kernel_rfl)
      refine At.again ?_
      refine WL.weaken [5, 6, 7, 8, 9, 41, 42] (L' := [(5, .slice A16 y15.length c17), (6, .slice A6_l2 y102.length c6_l2), (7, .int .i64 r88.1), (8, .slice A97 r88.2.1.length c98), (9, .int .i64 r88.2.2), (41, .int .i64 (y84.length : Int)), (42, .int .i64 (wi (x42_l2 + 1)))]) (by kernel_rfl) ?_
      exact ih y102 (wi (x42_l2 + 1)) A6_l2 c6_l2 _ hS H
    · replace H := ite_f H hb99
      refine WC.exit (by kernel_rfl) ?_
      refine At.thenExit ?_
      refine At.thenExit ?_
      obtain rfl := Option.some.inj H
      have hS : Sat w (rf w0) [osl 5 (r0 (.int .u8)) 1 A16 c17 y15, osl 5 (r0 (.int .u8)) 1 A97 c98 r88.2.1] := hS.sel [0, 2] (by kernel_rfl)
      refine At.weaken [5, 7, 8, 9] (L' := [(5, .slice A16 y15.length c17), (7, .int .i64 r88.1), (8, .slice A97 r88.2.1.length c98), (9, .int .i64 r88.2.2)]) (by kernel_rfl) ?_
      exact hn0 _ hS
theorem colophonlaw05_PageGets.l3_ok {Q} (w0 : World) (y15 : List Int) (A16 : Option Addr) (c17 : Nat) (y128 : List Int) (r132 : Int × (List Int) × Int) (A141 : Option Addr) (c142 : Nat) (out : Unit) (hn0 : ∀ (w : World), Sat w (rf w0) [osl 5 (r0 (.int .u8)) 1 A16 c17 y15, osl 5 (r0 (.int .u8)) 1 A141 c142 r132.2.1] → At Q (.exit 0) 73 [(5, .slice A16 y15.length c17), (7, .int .i64 r132.1), (8, .slice A141 r132.2.1.length c142), (9, .int .i64 r132.2.2)] w) :
    ∀ (k : Nat) (x6_l3 : List Int) (x42_l3 : Int) (A6_l3 : Option Addr) (c6_l3 : Nat) (w : World), Sat w (rf w0) [osl 5 (r0 (.int .u8)) 1 A16 c17 y15, osl 5 (r0 (.int .u8)) 1 A6_l3 c6_l3 x6_l3, osl 5 (r0 (.int .u8)) 1 A141 c142 r132.2.1] → colophonlaw05_PageGets.l3 y128 k x6_l3 x42_l3 = some out → WL Try.prog (cbody (cbody (cr (cl (cr (cr (cr (cr (cr (cr (cr C4))))))))))) Q 73 [(5, .slice A16 y15.length c17), (6, .slice A6_l3 x6_l3.length c6_l3), (7, .int .i64 r132.1), (8, .slice A141 r132.2.1.length c142), (9, .int .i64 r132.2.2), (41, .int .i64 (y128.length : Int)), (42, .int .i64 x42_l3)] w := by
  intro k
  induction k with
  | zero => intro x6_l3 x42_l3 A6_l3 c6_l3 w hS H; exact absurd (show none = some out from H) (by simp)
  | succ k ih =>
    intro x6_l3 x42_l3 A6_l3 c6_l3 w hS H
    unfold colophonlaw05_PageGets.l3 at H
    refine WL.round ?_
    refine WC.seq (by kernel_rfl) ?_
    refine WC.reg [0] (by kernel_rfl) (by kernel_rfl) ?_
    refine WR.runk [0] [] [5, 6, 7, 8, 9, 41, 42, 43] (L' := [(5, .slice A16 y15.length c17), (6, .slice A6_l3 x6_l3.length c6_l3), (7, .int .i64 r132.1), (8, .slice A141 r132.2.1.length c142), (9, .int .i64 r132.2.2), (41, .int .i64 (y128.length : Int)), (42, .int .i64 x42_l3), (43, .bool (decide (x42_l3 < (y128.length : Int))))]) (w' := w) (by kernel_rfl) ?_
    refine WR.nil ?_
    refine At.go ?_
    refine WC.seq (by kernel_rfl) ?_
    refine WC.cond (by kernel_rfl) (decide (x42_l3 < (y128.length : Int))) (by kernel_rfl) (by kernel_rfl) (fun hb143 => ?_) (fun hb143 => ?_)
    · replace H := ite_t H hb143
      refine WC.skip (by kernel_rfl) ?_
      refine At.go ?_
      refine WC.seq (by kernel_rfl) ?_
      refine WC.block (by kernel_rfl) ?_
      refine WC.seq (by kernel_rfl) ?_
      refine WC.reg [0, 1] (by kernel_rfl) (by kernel_rfl) ?_
      refine WR.runk [0, 1] [] [5, 6, 7, 8, 9, 10, 41, 42] (L' := [(5, .slice A16 y15.length c17), (6, .slice A6_l3 x6_l3.length c6_l3), (7, .int .i64 r132.1), (8, .slice A141 r132.2.1.length c142), (9, .int .i64 r132.2.2), (10, .int .i64 x42_l3), (41, .int .i64 (y128.length : Int)), (42, .int .i64 x42_l3)]) (w' := w) (by kernel_rfl) ?_
      refine WR.nil ?_
      refine At.go ?_
      refine WC.reg [0, 1, 2, 3, 4, 5, 6] (by kernel_rfl) (by kernel_rfl) ?_
      refine WR.runk [0, 1] [2, 3, 4, 5, 6] [5, 6, 7, 8, 9, 41, 42, 45, 46] (L' := [(5, .slice A16 y15.length c17), (6, .slice A6_l3 x6_l3.length c6_l3), (7, .int .i64 r132.1), (8, .slice A141 r132.2.1.length c142), (9, .int .i64 r132.2.2), (41, .int .i64 (y128.length : Int)), (42, .int .i64 x42_l3), (45, .slice A6_l3 x6_l3.length c6_l3), (46, .int .i64 x42_l3)]) (w' := w) (by kernel_rfl) ?_
      obtain ⟨v144, e145, H⟩ := bind_ex H
      refine WR.st (St.ofP (PSt.idx (k := .i64) (.tmp 45) (.tmp 46) (by kernel_rfl) (by kernel_rfl) E22 (by kernel_rfl) (by kernel_rfl) (Sat.rdAt 1 hS rfl) e145 ?_))
      refine WR.runk [] [3, 4, 5, 6] [5, 6, 7, 8, 9, 41, 42, 45, 46, 47] (L' := [(5, .slice A16 y15.length c17), (6, .slice A6_l3 x6_l3.length c6_l3), (7, .int .i64 r132.1), (8, .slice A141 r132.2.1.length c142), (9, .int .i64 r132.2.2), (41, .int .i64 (y128.length : Int)), (42, .int .i64 x42_l3), (45, .slice A6_l3 x6_l3.length c6_l3), (46, .int .i64 x42_l3), (47, .pointer (some (adr A6_l3 x42_l3.toNat 1)))]) (w' := w) (by kernel_rfl) ?_
      refine WR.st (St.ofR (RSt.loadInt (t := 5) (.tmp 47) (by kernel_rfl) (by kernel_rfl) (by kernel_rfl) (by kernel_rfl) (Sat.rdAt 1 hS rfl) e145 ?_))
      refine WR.runk [4] [5, 6] [5, 6, 7, 8, 9, 41, 42, 45, 46, 49] (L' := [(5, .slice A16 y15.length c17), (6, .slice A6_l3 x6_l3.length c6_l3), (7, .int .i64 r132.1), (8, .slice A141 r132.2.1.length c142), (9, .int .i64 r132.2.2), (41, .int .i64 (y128.length : Int)), (42, .int .i64 x42_l3), (45, .slice A6_l3 x6_l3.length c6_l3), (46, .int .i64 x42_l3), (49, .int .u8 (ixor .u8 v144 255))]) (w' := w) (by kernel_rfl) ?_
      refine WR.st (St.ofP (PSt.idx (k := .i64) (.tmp 45) (.tmp 46) (by kernel_rfl) (by kernel_rfl) E22 (by kernel_rfl) (by kernel_rfl) (Sat.rdAt 1 hS rfl) e145 ?_))
      refine WR.runk [] [6] [5, 6, 7, 8, 9, 41, 42, 49, 50] (L' := [(5, .slice A16 y15.length c17), (6, .slice A6_l3 x6_l3.length c6_l3), (7, .int .i64 r132.1), (8, .slice A141 r132.2.1.length c142), (9, .int .i64 r132.2.2), (41, .int .i64 (y128.length : Int)), (42, .int .i64 x42_l3), (49, .int .u8 (ixor .u8 v144 255)), (50, .pointer (some (adr A6_l3 x42_l3.toNat 1)))]) (w' := w) (by kernel_rfl) ?_
      have hS : Sat w (rf w0) [osl 5 (r0 (.int .u8)) 1 A6_l3 c6_l3 x6_l3, osl 5 (r0 (.int .u8)) 1 A16 c17 y15, osl 5 (r0 (.int .u8)) 1 A141 c142 r132.2.1] := hS.sel [1, 0, 2] (by kernel_rfl)
      obtain ⟨y146, e147, H⟩ := bind_ex H
      refine WR.st (St.storeElem' (t := 5) (.tmp 50) (.tmp 49) (by kernel_rfl) (by kernel_rfl) (by kernel_rfl) hS (by kernel_rfl) (by kernel_rfl) rfl e147 rfl (fun w148 hS => ?_))
      have hl149 := set?_len e147
      refine WR.know 6 (.slice A6_l3 y146.length c6_l3) (.slice A6_l3 x6_l3.length c6_l3) (by kernel_rfl) (by rw [hl149]) ?_
      refine WR.runk [] [] [5, 6, 7, 8, 9, 41, 42] (L' := [(5, .slice A16 y15.length c17), (6, .slice A6_l3 y146.length c6_l3), (7, .int .i64 r132.1), (8, .slice A141 r132.2.1.length c142), (9, .int .i64 r132.2.2), (41, .int .i64 (y128.length : Int)), (42, .int .i64 x42_l3)]) (w' := w148) (by kernel_rfl) ?_
      refine WR.nil ?_
      refine At.blockNormal ?_
      refine At.go ?_
      refine WC.reg [0, 1] (by kernel_rfl) (by kernel_rfl) ?_
      refine WR.runk [0, 1] [] [5, 6, 7, 8, 9, 41, 42] (L' := [(5, .slice A16 y15.length c17), (6, .slice A6_l3 y146.length c6_l3), (7, .int .i64 r132.1), (8, .slice A141 r132.2.1.length c142), (9, .int .i64 r132.2.2), (41, .int .i64 (y128.length : Int)), (42, .int .i64 (wi (x42_l3 + 1)))]) (w' := w148) (by kernel_rfl) ?_
      refine WR.nil ?_
      have hS : Sat w148 (rf w0) [osl 5 (r0 (.int .u8)) 1 A16 c17 y15, osl 5 (r0 (.int .u8)) 1 A6_l3 c6_l3 y146, osl 5 (r0 (.int .u8)) 1 A141 c142 r132.2.1] := hS.sel [1, 0, 2] (by kernel_rfl)
      refine At.again ?_
      refine WL.weaken [5, 6, 7, 8, 9, 41, 42] (L' := [(5, .slice A16 y15.length c17), (6, .slice A6_l3 y146.length c6_l3), (7, .int .i64 r132.1), (8, .slice A141 r132.2.1.length c142), (9, .int .i64 r132.2.2), (41, .int .i64 (y128.length : Int)), (42, .int .i64 (wi (x42_l3 + 1)))]) (by kernel_rfl) ?_
      exact ih y146 (wi (x42_l3 + 1)) A6_l3 c6_l3 _ hS H
    · replace H := ite_f H hb143
      refine WC.exit (by kernel_rfl) ?_
      refine At.thenExit ?_
      refine At.thenExit ?_
      obtain rfl := Option.some.inj H
      have hS : Sat w (rf w0) [osl 5 (r0 (.int .u8)) 1 A16 c17 y15, osl 5 (r0 (.int .u8)) 1 A141 c142 r132.2.1] := hS.sel [0, 2] (by kernel_rfl)
      refine At.weaken [5, 7, 8, 9] (L' := [(5, .slice A16 y15.length c17), (7, .int .i64 r132.1), (8, .slice A141 r132.2.1.length c142), (9, .int .i64 r132.2.2)]) (by kernel_rfl) ?_
      exact hn0 _ hS
theorem colophonlaw05_PageGets.calls (w0 : World) (A0 : Option Addr) (c0 : Nat) (l0 : List Int) (R0 : rdS (r0 (.int .u8)) 1 (hp w0) A0 c0 l0) (a1 : Bool) (r : Bool) (H : colophonlaw05_PageGets.f l0 a1 = some r) :
    Calls Try.prog 4 #[.slice A0 l0.length c0, .bool a1] w0 (fun e w' => ∃ v, e = .returned v ∧ colophonlaw05_PageGets.post w0 r v w') := by
  have hS : Sat w0 (rf w0) [] := Sat.start w0
  unfold colophonlaw05_PageGets.f at H
  refine calls_of_WC (vs := [.slice A0 l0.length c0, .bool a1]) Try.func4 (c := C4) (n := 73) (by kernel_rfl) (by kernel_rfl) (by kernel_rfl) ?_
  refine WC.seq (by kernel_rfl) ?_
  refine WC.reg [0] (by kernel_rfl) (by kernel_rfl) ?_
  refine WR.runk [0] [] [0, 1] (L' := [(0, .slice A0 l0.length c0), (1, .bool a1)]) (w' := w0) (by kernel_rfl) ?_
  refine WR.nil ?_
  refine At.go ?_
  refine WC.seq (by kernel_rfl) ?_
  refine WC.seq (by kernel_rfl) ?_
  refine WC.reg [0, 1] (by kernel_rfl) (by kernel_rfl) ?_
  obtain ⟨r1, e2, H⟩ := bind_ex H
  refine WR.st (St.call (by kernel_rfl) (f := 8) (args := #[]) (by kernel_rfl) (colophonlaw05_first.calls w0  r1 e2) ?_)
  rintro _ w8 ⟨rfl, hS9⟩
  have hS : Sat w8 (rf w0) [] := hS.ext hS9
  refine WR.runk [1] [] [0, 1, 15] (L' := [(0, .slice A0 l0.length c0), (1, .bool a1), (15, .bool (!r1))]) (w' := w8) (by kernel_rfl) ?_
  refine WR.nil ?_
  refine At.go ?_
  refine WC.cond (by kernel_rfl) (!r1) (by kernel_rfl) (by kernel_rfl) (fun hb10 => ?_) (fun hb10 => ?_)
  · replace H := ite_t H hb10
    refine WC.seq (by kernel_rfl) ?_
    refine WC.reg [0] (by kernel_rfl) (by kernel_rfl) ?_
    refine WR.runk [0] [] [4] (L' := [(4, .bool false)]) (w' := w8) (by kernel_rfl) ?_
    refine WR.nil ?_
    refine At.go ?_
    refine WC.ret (by kernel_rfl) ?_
    refine At.thenRet ?_
    obtain rfl := Option.some.inj H
    have hS : Sat w8 (rf w0) [] := hS.sel [] (by kernel_rfl)
    exact At.body [.bool false] (by kernel_rfl) ⟨_, rfl, rfl, hS⟩
  · replace H := ite_f H hb10
    refine WC.skip (by kernel_rfl) ?_
    refine At.go ?_
    refine WC.seq (by kernel_rfl) ?_
    refine WC.seq (by kernel_rfl) ?_
    refine WC.reg [0, 1, 2] (by kernel_rfl) (by kernel_rfl) ?_
    refine WR.runk [0, 1, 2] [] [0, 1, 18] (L' := [(0, .slice A0 l0.length c0), (1, .bool a1), (18, .bool (decide ((l0.length : Int) > 2000)))]) (w' := w8) (by kernel_rfl) ?_
    refine WR.nil ?_
    refine At.go ?_
    refine WC.cond (by kernel_rfl) (decide ((l0.length : Int) > 2000)) (by kernel_rfl) (by kernel_rfl) (fun hb11 => ?_) (fun hb11 => ?_)
    · replace H := ite_t H hb11
      refine WC.seq (by kernel_rfl) ?_
      refine WC.reg [0] (by kernel_rfl) (by kernel_rfl) ?_
      refine WR.runk [0] [] [4] (L' := [(4, .bool true)]) (w' := w8) (by kernel_rfl) ?_
      refine WR.nil ?_
      refine At.go ?_
      refine WC.ret (by kernel_rfl) ?_
      refine At.thenRet ?_
      obtain rfl := Option.some.inj H
      have hS : Sat w8 (rf w0) [] := hS.sel [] (by kernel_rfl)
      exact At.body [.bool true] (by kernel_rfl) ⟨_, rfl, rfl, hS⟩
    · replace H := ite_f H hb11
      refine WC.skip (by kernel_rfl) ?_
      refine At.go ?_
      refine WC.seq (by kernel_rfl) ?_
      refine WC.reg [0, 1, 2, 3] (by kernel_rfl) (by kernel_rfl) ?_
      refine WR.runk [] [0, 1, 2, 3] [0, 1] (L' := [(0, .slice A0 l0.length c0), (1, .bool a1)]) (w' := w8) (by kernel_rfl) ?_
      refine WR.st (St.box hS (by kernel_rfl) (.cells #[] 5) (fun b12 => .slice (some ⟨b12, 0, none⟩) 0 0) (fun _ => by kernel_rfl) (fun b12 w13 hS => ?_))
      refine WR.runk [1] [2, 3] [1, 19, 20] (L' := [(1, .bool a1), (19, .slice (some ⟨b12, 0, none⟩) 0 0), (20, .slice A0 l0.length c0)]) (w' := w13) (by kernel_rfl) ?_
      have hS : Sat w13 (rf w0) [osl 5 (r0 (.int .u8)) 1 (some ⟨b12, 0, none⟩) (([] : List Int) : List Int).length (([] : List Int) : List Int)] := Sat.toOsl' (r0 (.int .u8)) 1 (([] : List Int) : List Int) hS rfl (rdL.nil _ _)
      obtain ⟨y15, e14, H⟩ := bind_ex H
      refine WR.st (St.append' (.tmp 19) (.tmp 20) (by kernel_rfl) (by kernel_rfl) E22 (r0_one _) hS (by kernel_rfl) (by kernel_rfl) (rdS.up R0 hS.sub0) 140737488355328 (by kernel_rfl) (by kernel_rfl) e14 (fun A16 c17 w18 hS => ?_))
      refine WR.runk [3] [] [1, 5] (L' := [(1, .bool a1), (5, .slice A16 y15.length c17)]) (w' := w18) (by kernel_rfl) ?_
      refine WR.nil ?_
      refine At.go ?_
      refine WC.seq (by kernel_rfl) ?_
      refine WC.seq (by kernel_rfl) ?_
      refine WC.reg [0, 1, 2, 3, 4, 5] (by kernel_rfl) (by kernel_rfl) ?_
      refine WR.runk [0, 1] [2, 3, 4, 5] [5, 23] (L' := [(5, .slice A16 y15.length c17), (23, .bool a1)]) (w' := w18) (by kernel_rfl) ?_
      refine WR.split 23 (b := a1) (by kernel_rfl) (fun hb19 => ?_) (fun hb19 => ?_)
      · replace H := ite_t H hb19
        refine WR.runk [2, 3, 4, 5] [] [5, 27] (L' := [(5, .slice A16 y15.length c17), (27, .bool (decide ((y15.length : Int) ≥ 260)))]) (w' := w18) (by kernel_rfl) ?_
        refine WR.nil ?_
        refine At.go ?_
        refine WC.cond (by kernel_rfl) (decide ((y15.length : Int) ≥ 260)) (by kernel_rfl) (by kernel_rfl) (fun hb20 => ?_) (fun hb20 => ?_)
        · replace H := ite_t H hb20
          refine WC.reg [0, 1, 2, 3] (by kernel_rfl) (by kernel_rfl) ?_
          refine WR.runk [0] [1, 2, 3] [5, 28] (L' := [(5, .slice A16 y15.length c17), (28, .slice A16 y15.length c17)]) (w' := w18) (by kernel_rfl) ?_
          obtain ⟨y21, e22, H⟩ := bind_ex H
          refine WR.st (St.ofP (PSt.sub (A := A16) (c := c17) (.tmp 28) none (some (.const (.int .i64 260))) none (by kernel_rfl) (by kernel_rfl) E22 (by kernel_rfl) (Sat.rdAt 0 hS rfl).1 e22 rfl (Exists.intro IntKind.i64 (by kernel_rfl)) trivial (fun A23 c24 T25 => ?_)))
          refine WR.runk [] [2, 3] [5, 29] (L' := [(5, .slice A16 y15.length c17), (29, .slice A23 y21.length c24)]) (w' := w18) (by kernel_rfl) ?_
          obtain ⟨r26, e27, H⟩ := bind_ex H
          refine WR.st (St.call (by kernel_rfl) (f := 12) (args := #[.slice A23 y21.length c24]) (by kernel_rfl) (colophonref04_Put.calls w18 A23 c24 y21 (T25.rd _ _ (Sat.rdAt 0 hS rfl)) r26 e27) ?_)
          rintro _ w33 ⟨A35, c36, rfl, hS34⟩
          have hS : Sat w33 (rf w0) [osl 5 (r0 (.int .u8)) 1 A35 c36 r26, osl 5 (r0 (.int .u8)) 1 A16 c17 y15] := hS.ext hS34
          refine WR.runk [3] [] [5] (L' := [(5, .slice A35 r26.length c36)]) (w' := w33) (by kernel_rfl) ?_
          refine WR.nil ?_
          refine At.go ?_
          refine WC.seq (by kernel_rfl) ?_
          refine WC.reg [0, 1, 2, 3] (by kernel_rfl) (by kernel_rfl) ?_
          refine WR.st (St.box hS (by kernel_rfl) (.cells #[] 5) (fun b37 => .slice (some ⟨b37, 0, none⟩) 0 0) (fun _ => by kernel_rfl) (fun b37 w38 hS => ?_))
          refine WR.runk [1] [2, 3] [5, 31, 32] (L' := [(5, .slice A35 r26.length c36), (31, .slice (some ⟨b37, 0, none⟩) 0 0), (32, .slice A35 r26.length c36)]) (w' := w38) (by kernel_rfl) ?_
          have hS : Sat w38 (rf w0) [osl 5 (r0 (.int .u8)) 1 (some ⟨b37, 0, none⟩) (([] : List Int) : List Int).length (([] : List Int) : List Int), osl 5 (r0 (.int .u8)) 1 A35 c36 r26, osl 5 (r0 (.int .u8)) 1 A16 c17 y15] := Sat.toOsl' (r0 (.int .u8)) 1 (([] : List Int) : List Int) hS rfl (rdL.nil _ _)
          obtain ⟨y40, e39, H⟩ := bind_ex H
          refine WR.st (St.append' (.tmp 31) (.tmp 32) (by kernel_rfl) (by kernel_rfl) E22 (r0_one _) hS (by kernel_rfl) (by kernel_rfl) (Sat.rdAt 1 hS rfl) 140737488355328 (by kernel_rfl) (by kernel_rfl) e39 (fun A41 c42 w43 hS => ?_))
          refine WR.runk [3] [] [5, 6] (L' := [(5, .slice A35 r26.length c36), (6, .slice A41 y40.length c42)]) (w' := w43) (by kernel_rfl) ?_
          refine WR.nil ?_
          refine At.go ?_
          refine WC.seq (by kernel_rfl) ?_
          refine WC.reg [0, 1, 2, 3, 4, 5, 6, 7, 8] (by kernel_rfl) (by kernel_rfl) ?_
          refine WR.runk [0] [1, 2, 3, 4, 5, 6, 7, 8] [5, 6, 35] (L' := [(5, .slice A35 r26.length c36), (6, .slice A41 y40.length c42), (35, .slice A41 y40.length c42)]) (w' := w43) (by kernel_rfl) ?_
          obtain ⟨r44, e45, H⟩ := bind_ex H
          refine WR.st (St.call (by kernel_rfl) (f := 11) (args := #[.slice A41 y40.length c42]) (by kernel_rfl) (page_Get.calls w43 A41 c42 y40 (Sat.rdAt 0 hS rfl) r44 e45) ?_)
          rintro _ w51 ⟨A53, c54, rfl, hS52⟩
          have hS : Sat w51 (rf w0) [osl 5 (r0 (.int .u8)) 1 A53 c54 r44.2.1, osl 5 (r0 (.int .u8)) 1 A41 c42 y40, osl 5 (r0 (.int .u8)) 1 A35 c36 r26, osl 5 (r0 (.int .u8)) 1 A16 c17 y15] := hS.ext hS52
          refine WR.runk [2, 3, 4, 5, 6, 7, 8] [] [5, 6, 7, 8, 9] (L' := [(5, .slice A35 r26.length c36), (6, .slice A41 y40.length c42), (7, .int .i64 r44.1), (8, .slice A53 r44.2.1.length c54), (9, .int .i64 r44.2.2)]) (w' := w51) (by kernel_rfl) ?_
          refine WR.nil ?_
          refine At.go ?_
          refine WC.seq (by kernel_rfl) ?_
          refine WC.seq (by kernel_rfl) ?_
          refine WC.reg [0, 1, 2] (by kernel_rfl) (by kernel_rfl) ?_
          refine WR.runk [0, 1, 2] [] [5, 6, 7, 8, 9, 41, 42] (L' := [(5, .slice A35 r26.length c36), (6, .slice A41 y40.length c42), (7, .int .i64 r44.1), (8, .slice A53 r44.2.1.length c54), (9, .int .i64 r44.2.2), (41, .int .i64 (y40.length : Int)), (42, .int .i64 0)]) (w' := w51) (by kernel_rfl) ?_
          refine WR.nil ?_
          refine At.go ?_
          refine WC.block (by kernel_rfl) ?_
          have hS : Sat w51 (rf w0) [osl 5 (r0 (.int .u8)) 1 A35 c36 r26, osl 5 (r0 (.int .u8)) 1 A41 c42 y40, osl 5 (r0 (.int .u8)) 1 A53 c54 r44.2.1] := hS.sel [2, 1, 0] (by kernel_rfl)
          obtain ⟨o62, e63, H⟩ := bind_ex H
          refine WC.loop (by kernel_rfl) ?_
          refine WL.weaken [5, 6, 7, 8, 9, 41, 42] (L' := [(5, .slice A35 r26.length c36), (6, .slice A41 y40.length c42), (7, .int .i64 r44.1), (8, .slice A53 r44.2.1.length c54), (9, .int .i64 r44.2.2), (41, .int .i64 (y40.length : Int)), (42, .int .i64 0)]) (by kernel_rfl) ?_
          refine colophonlaw05_PageGets.l1_ok w0 r26 A35 c36 y40 r44 A53 c54 o62 (fun w65 hS => ?_) FU y40 0 A41 c42 _ hS e63
          refine At.hit ?_
          refine At.go ?_
          refine WC.seq (by kernel_rfl) ?_
          refine WC.reg [0, 1, 2, 3, 4, 5, 6, 7, 8] (by kernel_rfl) (by kernel_rfl) ?_
          refine WR.runk [0] [1, 2, 3, 4, 5, 6, 7, 8] [7, 8, 9, 53] (L' := [(7, .int .i64 r44.1), (8, .slice A53 r44.2.1.length c54), (9, .int .i64 r44.2.2), (53, .slice A35 r26.length c36)]) (w' := w65) (by kernel_rfl) ?_
          obtain ⟨r67, e68, H⟩ := bind_ex H
          refine WR.st (St.call (by kernel_rfl) (f := 13) (args := #[.slice A35 r26.length c36]) (by kernel_rfl) (colophonref05_Get.calls w65 A35 c36 r26 (Sat.rdAt 0 hS rfl) r67 e68) ?_)
          rintro _ w74 ⟨A76, c77, rfl, T78, hS75⟩
          have hS : Sat w74 (rf w0) [osl 5 (r0 (.int .u8)) 1 A35 c36 r26, osl 5 (r0 (.int .u8)) 1 A53 c54 r44.2.1] := hS.ext hS75
          refine WR.runk [2, 3, 4, 5, 6, 7, 8] [] [7, 8, 9, 11, 12, 13] (L' := [(7, .int .i64 r44.1), (8, .slice A53 r44.2.1.length c54), (9, .int .i64 r44.2.2), (11, .int .i64 r67.1), (12, .slice A76 r67.2.1.length c77), (13, .int .i64 r67.2.2)]) (w' := w74) (by kernel_rfl) ?_
          refine WR.nil ?_
          refine At.go ?_
          refine WC.seq (by kernel_rfl) ?_
          refine WC.reg [0, 1, 2, 3, 4, 5, 6, 7, 8, 9, 10, 11, 12, 13, 14, 15] (by kernel_rfl) (by kernel_rfl) ?_
          refine WR.runk [0, 1, 2, 3] [4, 5, 6, 7, 8, 9, 10, 11, 12, 13, 14, 15] [7, 8, 11, 12, 61] (L' := [(7, .int .i64 r44.1), (8, .slice A53 r44.2.1.length c54), (11, .int .i64 r67.1), (12, .slice A76 r67.2.1.length c77), (61, .bool (r44.2.2 == r67.2.2))]) (w' := w74) (by kernel_rfl) ?_
          refine WR.split 61 (b := (r44.2.2 == r67.2.2)) (by kernel_rfl) (fun hb79 => ?_) (fun hb79 => ?_)
          · replace H := ite_t H hb79
            refine WR.runk [4, 5, 6, 7, 8] [9, 10, 11, 12, 13, 14, 15] [8, 12, 66] (L' := [(8, .slice A53 r44.2.1.length c54), (12, .slice A76 r67.2.1.length c77), (66, .bool (r44.1 == r67.1))]) (w' := w74) (by kernel_rfl) ?_
            refine WR.split 66 (b := (r44.1 == r67.1)) (by kernel_rfl) (fun hb80 => ?_) (fun hb80 => ?_)
            · replace H := ite_t H hb80
              refine WR.runk [9] [10, 11, 12, 13, 14, 15] [12, 66, 67] (L' := [(12, .slice A76 r67.2.1.length c77), (66, .bool true), (67, .slice A53 r44.2.1.length c54)]) (w' := w74) (by kernel_rfl) ?_
              refine WR.st (St.ofR (RSt.toStr (src := 22) (dst := 9) (e := 5) (.tmp 67) (by kernel_rfl) (by kernel_rfl) (by kernel_rfl) (by kernel_rfl) (by kernel_rfl) (by kernel_rfl) (Sat.rdAt 1 hS rfl) ?_))
              refine WR.runk [11] [12, 13, 14, 15] [66, 68, 69] (L' := [(66, .bool true), (68, .string (bs r44.2.1)), (69, .slice A76 r67.2.1.length c77)]) (w' := w74) (by kernel_rfl) ?_
              refine WR.st (St.ofR (RSt.toStr (src := 22) (dst := 9) (e := 5) (.tmp 69) (by kernel_rfl) (by kernel_rfl) (by kernel_rfl) (by kernel_rfl) (by kernel_rfl) (by kernel_rfl) (T78.rd _ _ (Sat.rdAt 0 hS rfl)) ?_))
              refine WR.runk [13, 14, 15] [] [4] (L' := [(4, .bool ((bs r44.2.1).toList == (bs r67.2.1).toList))]) (w' := w74) (by kernel_rfl) ?_
              refine WR.nil ?_
              refine At.go ?_
              refine WC.ret (by kernel_rfl) ?_
              obtain rfl := Option.some.inj H
              have hS : Sat w74 (rf w0) [] := hS.sel [] (by kernel_rfl)
              exact At.body [.bool ((bs r44.2.1).toList == (bs r67.2.1).toList)] (by kernel_rfl) ⟨_, rfl, rfl, hS⟩
            · replace H := ite_f H hb80
              refine WR.runk [9, 10, 11, 12, 13, 14, 15] [] [4] (L' := [(4, .bool false)]) (w' := w74) (by kernel_rfl) ?_
              refine WR.nil ?_
              refine At.go ?_
              refine WC.ret (by kernel_rfl) ?_
              obtain rfl := Option.some.inj H
              have hS : Sat w74 (rf w0) [] := hS.sel [] (by kernel_rfl)
              exact At.body [.bool false] (by kernel_rfl) ⟨_, rfl, rfl, hS⟩
          · replace H := ite_f H hb79
            refine WR.runk [4, 5, 6, 7, 8, 9, 10, 11, 12, 13, 14, 15] [] [4] (L' := [(4, .bool false)]) (w' := w74) (by kernel_rfl) ?_
            refine WR.nil ?_
            refine At.go ?_
            refine WC.ret (by kernel_rfl) ?_
            obtain rfl := Option.some.inj H
            have hS : Sat w74 (rf w0) [] := hS.sel [] (by kernel_rfl)
            exact At.body [.bool false] (by kernel_rfl) ⟨_, rfl, rfl, hS⟩
        · replace H := ite_f H hb20
          refine WC.skip (by kernel_rfl) ?_
          refine At.go ?_
          refine WC.seq (by kernel_rfl) ?_
          refine WC.reg [0, 1, 2, 3] (by kernel_rfl) (by kernel_rfl) ?_
          refine WR.runk [] [0, 1, 2, 3] [5] (L' := [(5, .slice A16 y15.length c17)]) (w' := w18) (by kernel_rfl) ?_
          refine WR.st (St.box hS (by kernel_rfl) (.cells #[] 5) (fun b81 => .slice (some ⟨b81, 0, none⟩) 0 0) (fun _ => by kernel_rfl) (fun b81 w82 hS => ?_))
          refine WR.runk [1] [2, 3] [5, 31, 32] (L' := [(5, .slice A16 y15.length c17), (31, .slice (some ⟨b81, 0, none⟩) 0 0), (32, .slice A16 y15.length c17)]) (w' := w82) (by kernel_rfl) ?_
          have hS : Sat w82 (rf w0) [osl 5 (r0 (.int .u8)) 1 (some ⟨b81, 0, none⟩) (([] : List Int) : List Int).length (([] : List Int) : List Int), osl 5 (r0 (.int .u8)) 1 A16 c17 y15] := Sat.toOsl' (r0 (.int .u8)) 1 (([] : List Int) : List Int) hS rfl (rdL.nil _ _)
          obtain ⟨y84, e83, H⟩ := bind_ex H
          refine WR.st (St.append' (.tmp 31) (.tmp 32) (by kernel_rfl) (by kernel_rfl) E22 (r0_one _) hS (by kernel_rfl) (by kernel_rfl) (Sat.rdAt 1 hS rfl) 140737488355328 (by kernel_rfl) (by kernel_rfl) e83 (fun A85 c86 w87 hS => ?_))
          refine WR.runk [3] [] [5, 6] (L' := [(5, .slice A16 y15.length c17), (6, .slice A85 y84.length c86)]) (w' := w87) (by kernel_rfl) ?_
          refine WR.nil ?_
          refine At.go ?_
          refine WC.seq (by kernel_rfl) ?_
          refine WC.reg [0, 1, 2, 3, 4, 5, 6, 7, 8] (by kernel_rfl) (by kernel_rfl) ?_
          refine WR.runk [0] [1, 2, 3, 4, 5, 6, 7, 8] [5, 6, 35] (L' := [(5, .slice A16 y15.length c17), (6, .slice A85 y84.length c86), (35, .slice A85 y84.length c86)]) (w' := w87) (by kernel_rfl) ?_
          obtain ⟨r88, e89, H⟩ := bind_ex H
          refine WR.st (St.call (by kernel_rfl) (f := 11) (args := #[.slice A85 y84.length c86]) (by kernel_rfl) (page_Get.calls w87 A85 c86 y84 (Sat.rdAt 0 hS rfl) r88 e89) ?_)
          rintro _ w95 ⟨A97, c98, rfl, hS96⟩
          have hS : Sat w95 (rf w0) [osl 5 (r0 (.int .u8)) 1 A97 c98 r88.2.1, osl 5 (r0 (.int .u8)) 1 A85 c86 y84, osl 5 (r0 (.int .u8)) 1 A16 c17 y15] := hS.ext hS96
          refine WR.runk [2, 3, 4, 5, 6, 7, 8] [] [5, 6, 7, 8, 9] (L' := [(5, .slice A16 y15.length c17), (6, .slice A85 y84.length c86), (7, .int .i64 r88.1), (8, .slice A97 r88.2.1.length c98), (9, .int .i64 r88.2.2)]) (w' := w95) (by kernel_rfl) ?_
          refine WR.nil ?_
          refine At.go ?_
          refine WC.seq (by kernel_rfl) ?_
          refine WC.seq (by kernel_rfl) ?_
          refine WC.reg [0, 1, 2] (by kernel_rfl) (by kernel_rfl) ?_
          refine WR.runk [0, 1, 2] [] [5, 6, 7, 8, 9, 41, 42] (L' := [(5, .slice A16 y15.length c17), (6, .slice A85 y84.length c86), (7, .int .i64 r88.1), (8, .slice A97 r88.2.1.length c98), (9, .int .i64 r88.2.2), (41, .int .i64 (y84.length : Int)), (42, .int .i64 0)]) (w' := w95) (by kernel_rfl) ?_
          refine WR.nil ?_
          refine At.go ?_
          refine WC.block (by kernel_rfl) ?_
          have hS : Sat w95 (rf w0) [osl 5 (r0 (.int .u8)) 1 A16 c17 y15, osl 5 (r0 (.int .u8)) 1 A85 c86 y84, osl 5 (r0 (.int .u8)) 1 A97 c98 r88.2.1] := hS.sel [2, 1, 0] (by kernel_rfl)
          obtain ⟨o106, e107, H⟩ := bind_ex H
          refine WC.loop (by kernel_rfl) ?_
          refine WL.weaken [5, 6, 7, 8, 9, 41, 42] (L' := [(5, .slice A16 y15.length c17), (6, .slice A85 y84.length c86), (7, .int .i64 r88.1), (8, .slice A97 r88.2.1.length c98), (9, .int .i64 r88.2.2), (41, .int .i64 (y84.length : Int)), (42, .int .i64 0)]) (by kernel_rfl) ?_
          refine colophonlaw05_PageGets.l2_ok w0 y15 A16 c17 y84 r88 A97 c98 o106 (fun w109 hS => ?_) FU y84 0 A85 c86 _ hS e107
          refine At.hit ?_
          refine At.go ?_
          refine WC.seq (by kernel_rfl) ?_
          refine WC.reg [0, 1, 2, 3, 4, 5, 6, 7, 8] (by kernel_rfl) (by kernel_rfl) ?_
          refine WR.runk [0] [1, 2, 3, 4, 5, 6, 7, 8] [7, 8, 9, 53] (L' := [(7, .int .i64 r88.1), (8, .slice A97 r88.2.1.length c98), (9, .int .i64 r88.2.2), (53, .slice A16 y15.length c17)]) (w' := w109) (by kernel_rfl) ?_
          obtain ⟨r111, e112, H⟩ := bind_ex H
          refine WR.st (St.call (by kernel_rfl) (f := 13) (args := #[.slice A16 y15.length c17]) (by kernel_rfl) (colophonref05_Get.calls w109 A16 c17 y15 (Sat.rdAt 0 hS rfl) r111 e112) ?_)
          rintro _ w118 ⟨A120, c121, rfl, T122, hS119⟩
          have hS : Sat w118 (rf w0) [osl 5 (r0 (.int .u8)) 1 A16 c17 y15, osl 5 (r0 (.int .u8)) 1 A97 c98 r88.2.1] := hS.ext hS119
          refine WR.runk [2, 3, 4, 5, 6, 7, 8] [] [7, 8, 9, 11, 12, 13] (L' := [(7, .int .i64 r88.1), (8, .slice A97 r88.2.1.length c98), (9, .int .i64 r88.2.2), (11, .int .i64 r111.1), (12, .slice A120 r111.2.1.length c121), (13, .int .i64 r111.2.2)]) (w' := w118) (by kernel_rfl) ?_
          refine WR.nil ?_
          refine At.go ?_
          refine WC.seq (by kernel_rfl) ?_
          refine WC.reg [0, 1, 2, 3, 4, 5, 6, 7, 8, 9, 10, 11, 12, 13, 14, 15] (by kernel_rfl) (by kernel_rfl) ?_
          refine WR.runk [0, 1, 2, 3] [4, 5, 6, 7, 8, 9, 10, 11, 12, 13, 14, 15] [7, 8, 11, 12, 61] (L' := [(7, .int .i64 r88.1), (8, .slice A97 r88.2.1.length c98), (11, .int .i64 r111.1), (12, .slice A120 r111.2.1.length c121), (61, .bool (r88.2.2 == r111.2.2))]) (w' := w118) (by kernel_rfl) ?_
          refine WR.split 61 (b := (r88.2.2 == r111.2.2)) (by kernel_rfl) (fun hb123 => ?_) (fun hb123 => ?_)
          · replace H := ite_t H hb123
            refine WR.runk [4, 5, 6, 7, 8] [9, 10, 11, 12, 13, 14, 15] [8, 12, 66] (L' := [(8, .slice A97 r88.2.1.length c98), (12, .slice A120 r111.2.1.length c121), (66, .bool (r88.1 == r111.1))]) (w' := w118) (by kernel_rfl) ?_
            refine WR.split 66 (b := (r88.1 == r111.1)) (by kernel_rfl) (fun hb124 => ?_) (fun hb124 => ?_)
            · replace H := ite_t H hb124
              refine WR.runk [9] [10, 11, 12, 13, 14, 15] [12, 66, 67] (L' := [(12, .slice A120 r111.2.1.length c121), (66, .bool true), (67, .slice A97 r88.2.1.length c98)]) (w' := w118) (by kernel_rfl) ?_
              refine WR.st (St.ofR (RSt.toStr (src := 22) (dst := 9) (e := 5) (.tmp 67) (by kernel_rfl) (by kernel_rfl) (by kernel_rfl) (by kernel_rfl) (by kernel_rfl) (by kernel_rfl) (Sat.rdAt 1 hS rfl) ?_))
              refine WR.runk [11] [12, 13, 14, 15] [66, 68, 69] (L' := [(66, .bool true), (68, .string (bs r88.2.1)), (69, .slice A120 r111.2.1.length c121)]) (w' := w118) (by kernel_rfl) ?_
              refine WR.st (St.ofR (RSt.toStr (src := 22) (dst := 9) (e := 5) (.tmp 69) (by kernel_rfl) (by kernel_rfl) (by kernel_rfl) (by kernel_rfl) (by kernel_rfl) (by kernel_rfl) (T122.rd _ _ (Sat.rdAt 0 hS rfl)) ?_))
              refine WR.runk [13, 14, 15] [] [4] (L' := [(4, .bool ((bs r88.2.1).toList == (bs r111.2.1).toList))]) (w' := w118) (by kernel_rfl) ?_
              refine WR.nil ?_
              refine At.go ?_
              refine WC.ret (by kernel_rfl) ?_
              obtain rfl := Option.some.inj H
              have hS : Sat w118 (rf w0) [] := hS.sel [] (by kernel_rfl)
              exact At.body [.bool ((bs r88.2.1).toList == (bs r111.2.1).toList)] (by kernel_rfl) ⟨_, rfl, rfl, hS⟩
            · replace H := ite_f H hb124
              refine WR.runk [9, 10, 11, 12, 13, 14, 15] [] [4] (L' := [(4, .bool false)]) (w' := w118) (by kernel_rfl) ?_
              refine WR.nil ?_
              refine At.go ?_
              refine WC.ret (by kernel_rfl) ?_
              obtain rfl := Option.some.inj H
              have hS : Sat w118 (rf w0) [] := hS.sel [] (by kernel_rfl)
              exact At.body [.bool false] (by kernel_rfl) ⟨_, rfl, rfl, hS⟩
          · replace H := ite_f H hb123
            refine WR.runk [4, 5, 6, 7, 8, 9, 10, 11, 12, 13, 14, 15] [] [4] (L' := [(4, .bool false)]) (w' := w118) (by kernel_rfl) ?_
            refine WR.nil ?_
            refine At.go ?_
            refine WC.ret (by kernel_rfl) ?_
            obtain rfl := Option.some.inj H
            have hS : Sat w118 (rf w0) [] := hS.sel [] (by kernel_rfl)
            exact At.body [.bool false] (by kernel_rfl) ⟨_, rfl, rfl, hS⟩
      · replace H := ite_f H hb19
        refine WR.runk [2, 3, 4, 5] [] [5, 27] (L' := [(5, .slice A16 y15.length c17), (27, .bool false)]) (w' := w18) (by kernel_rfl) ?_
        refine WR.nil ?_
        refine At.go ?_
        refine WC.condF (by kernel_rfl) (by kernel_rfl) (by kernel_rfl) ?_
        refine WC.skip (by kernel_rfl) ?_
        refine At.go ?_
        refine WC.seq (by kernel_rfl) ?_
        refine WC.reg [0, 1, 2, 3] (by kernel_rfl) (by kernel_rfl) ?_
        refine WR.st (St.box hS (by kernel_rfl) (.cells #[] 5) (fun b125 => .slice (some ⟨b125, 0, none⟩) 0 0) (fun _ => by kernel_rfl) (fun b125 w126 hS => ?_))
        refine WR.runk [1] [2, 3] [5, 31, 32] (L' := [(5, .slice A16 y15.length c17), (31, .slice (some ⟨b125, 0, none⟩) 0 0), (32, .slice A16 y15.length c17)]) (w' := w126) (by kernel_rfl) ?_
        have hS : Sat w126 (rf w0) [osl 5 (r0 (.int .u8)) 1 (some ⟨b125, 0, none⟩) (([] : List Int) : List Int).length (([] : List Int) : List Int), osl 5 (r0 (.int .u8)) 1 A16 c17 y15] := Sat.toOsl' (r0 (.int .u8)) 1 (([] : List Int) : List Int) hS rfl (rdL.nil _ _)
        obtain ⟨y128, e127, H⟩ := bind_ex H
        refine WR.st (St.append' (.tmp 31) (.tmp 32) (by kernel_rfl) (by kernel_rfl) E22 (r0_one _) hS (by kernel_rfl) (by kernel_rfl) (Sat.rdAt 1 hS rfl) 140737488355328 (by kernel_rfl) (by kernel_rfl) e127 (fun A129 c130 w131 hS => ?_))
        refine WR.runk [3] [] [5, 6] (L' := [(5, .slice A16 y15.length c17), (6, .slice A129 y128.length c130)]) (w' := w131) (by kernel_rfl) ?_
        refine WR.nil ?_
        refine At.go ?_
        refine WC.seq (by kernel_rfl) ?_
        refine WC.reg [0, 1, 2, 3, 4, 5, 6, 7, 8] (by kernel_rfl) (by kernel_rfl) ?_
        refine WR.runk [0] [1, 2, 3, 4, 5, 6, 7, 8] [5, 6, 35] (L' := [(5, .slice A16 y15.length c17), (6, .slice A129 y128.length c130), (35, .slice A129 y128.length c130)]) (w' := w131) (by kernel_rfl) ?_
        obtain ⟨r132, e133, H⟩ := bind_ex H
        refine WR.st (St.call (by kernel_rfl) (f := 11) (args := #[.slice A129 y128.length c130]) (by kernel_rfl) (page_Get.calls w131 A129 c130 y128 (Sat.rdAt 0 hS rfl) r132 e133) ?_)
        rintro _ w139 ⟨A141, c142, rfl, hS140⟩
        have hS : Sat w139 (rf w0) [osl 5 (r0 (.int .u8)) 1 A141 c142 r132.2.1, osl 5 (r0 (.int .u8)) 1 A129 c130 y128, osl 5 (r0 (.int .u8)) 1 A16 c17 y15] := hS.ext hS140
        refine WR.runk [2, 3, 4, 5, 6, 7, 8] [] [5, 6, 7, 8, 9] (L' := [(5, .slice A16 y15.length c17), (6, .slice A129 y128.length c130), (7, .int .i64 r132.1), (8, .slice A141 r132.2.1.length c142), (9, .int .i64 r132.2.2)]) (w' := w139) (by kernel_rfl) ?_
        refine WR.nil ?_
        refine At.go ?_
        refine WC.seq (by kernel_rfl) ?_
        refine WC.seq (by kernel_rfl) ?_
        refine WC.reg [0, 1, 2] (by kernel_rfl) (by kernel_rfl) ?_
        refine WR.runk [0, 1, 2] [] [5, 6, 7, 8, 9, 41, 42] (L' := [(5, .slice A16 y15.length c17), (6, .slice A129 y128.length c130), (7, .int .i64 r132.1), (8, .slice A141 r132.2.1.length c142), (9, .int .i64 r132.2.2), (41, .int .i64 (y128.length : Int)), (42, .int .i64 0)]) (w' := w139) (by kernel_rfl) ?_
        refine WR.nil ?_
        refine At.go ?_
        refine WC.block (by kernel_rfl) ?_
        have hS : Sat w139 (rf w0) [osl 5 (r0 (.int .u8)) 1 A16 c17 y15, osl 5 (r0 (.int .u8)) 1 A129 c130 y128, osl 5 (r0 (.int .u8)) 1 A141 c142 r132.2.1] := hS.sel [2, 1, 0] (by kernel_rfl)
        obtain ⟨o150, e151, H⟩ := bind_ex H
        refine WC.loop (by kernel_rfl) ?_
        refine WL.weaken [5, 6, 7, 8, 9, 41, 42] (L' := [(5, .slice A16 y15.length c17), (6, .slice A129 y128.length c130), (7, .int .i64 r132.1), (8, .slice A141 r132.2.1.length c142), (9, .int .i64 r132.2.2), (41, .int .i64 (y128.length : Int)), (42, .int .i64 0)]) (by kernel_rfl) ?_
        refine colophonlaw05_PageGets.l3_ok w0 y15 A16 c17 y128 r132 A141 c142 o150 (fun w153 hS => ?_) FU y128 0 A129 c130 _ hS e151
        refine At.hit ?_
        refine At.go ?_
        refine WC.seq (by kernel_rfl) ?_
        refine WC.reg [0, 1, 2, 3, 4, 5, 6, 7, 8] (by kernel_rfl) (by kernel_rfl) ?_
        refine WR.runk [0] [1, 2, 3, 4, 5, 6, 7, 8] [7, 8, 9, 53] (L' := [(7, .int .i64 r132.1), (8, .slice A141 r132.2.1.length c142), (9, .int .i64 r132.2.2), (53, .slice A16 y15.length c17)]) (w' := w153) (by kernel_rfl) ?_
        obtain ⟨r155, e156, H⟩ := bind_ex H
        refine WR.st (St.call (by kernel_rfl) (f := 13) (args := #[.slice A16 y15.length c17]) (by kernel_rfl) (colophonref05_Get.calls w153 A16 c17 y15 (Sat.rdAt 0 hS rfl) r155 e156) ?_)
        rintro _ w162 ⟨A164, c165, rfl, T166, hS163⟩
        have hS : Sat w162 (rf w0) [osl 5 (r0 (.int .u8)) 1 A16 c17 y15, osl 5 (r0 (.int .u8)) 1 A141 c142 r132.2.1] := hS.ext hS163
        refine WR.runk [2, 3, 4, 5, 6, 7, 8] [] [7, 8, 9, 11, 12, 13] (L' := [(7, .int .i64 r132.1), (8, .slice A141 r132.2.1.length c142), (9, .int .i64 r132.2.2), (11, .int .i64 r155.1), (12, .slice A164 r155.2.1.length c165), (13, .int .i64 r155.2.2)]) (w' := w162) (by kernel_rfl) ?_
        refine WR.nil ?_
        refine At.go ?_
        refine WC.seq (by kernel_rfl) ?_
        refine WC.reg [0, 1, 2, 3, 4, 5, 6, 7, 8, 9, 10, 11, 12, 13, 14, 15] (by kernel_rfl) (by kernel_rfl) ?_
        refine WR.runk [0, 1, 2, 3] [4, 5, 6, 7, 8, 9, 10, 11, 12, 13, 14, 15] [7, 8, 11, 12, 61] (L' := [(7, .int .i64 r132.1), (8, .slice A141 r132.2.1.length c142), (11, .int .i64 r155.1), (12, .slice A164 r155.2.1.length c165), (61, .bool (r132.2.2 == r155.2.2))]) (w' := w162) (by kernel_rfl) ?_
        refine WR.split 61 (b := (r132.2.2 == r155.2.2)) (by kernel_rfl) (fun hb167 => ?_) (fun hb167 => ?_)
        · replace H := ite_t H hb167
          refine WR.runk [4, 5, 6, 7, 8] [9, 10, 11, 12, 13, 14, 15] [8, 12, 66] (L' := [(8, .slice A141 r132.2.1.length c142), (12, .slice A164 r155.2.1.length c165), (66, .bool (r132.1 == r155.1))]) (w' := w162) (by kernel_rfl) ?_
          refine WR.split 66 (b := (r132.1 == r155.1)) (by kernel_rfl) (fun hb168 => ?_) (fun hb168 => ?_)
          · replace H := ite_t H hb168
            refine WR.runk [9] [10, 11, 12, 13, 14, 15] [12, 66, 67] (L' := [(12, .slice A164 r155.2.1.length c165), (66, .bool true), (67, .slice A141 r132.2.1.length c142)]) (w' := w162) (by kernel_rfl) ?_
            refine WR.st (St.ofR (RSt.toStr (src := 22) (dst := 9) (e := 5) (.tmp 67) (by kernel_rfl) (by kernel_rfl) (by kernel_rfl) (by kernel_rfl) (by kernel_rfl) (by kernel_rfl) (Sat.rdAt 1 hS rfl) ?_))
            refine WR.runk [11] [12, 13, 14, 15] [66, 68, 69] (L' := [(66, .bool true), (68, .string (bs r132.2.1)), (69, .slice A164 r155.2.1.length c165)]) (w' := w162) (by kernel_rfl) ?_
            refine WR.st (St.ofR (RSt.toStr (src := 22) (dst := 9) (e := 5) (.tmp 69) (by kernel_rfl) (by kernel_rfl) (by kernel_rfl) (by kernel_rfl) (by kernel_rfl) (by kernel_rfl) (T166.rd _ _ (Sat.rdAt 0 hS rfl)) ?_))
            refine WR.runk [13, 14, 15] [] [4] (L' := [(4, .bool ((bs r132.2.1).toList == (bs r155.2.1).toList))]) (w' := w162) (by kernel_rfl) ?_
            refine WR.nil ?_
            refine At.go ?_
            refine WC.ret (by kernel_rfl) ?_
            obtain rfl := Option.some.inj H
            have hS : Sat w162 (rf w0) [] := hS.sel [] (by kernel_rfl)
            exact At.body [.bool ((bs r132.2.1).toList == (bs r155.2.1).toList)] (by kernel_rfl) ⟨_, rfl, rfl, hS⟩
          · replace H := ite_f H hb168
            refine WR.runk [9, 10, 11, 12, 13, 14, 15] [] [4] (L' := [(4, .bool false)]) (w' := w162) (by kernel_rfl) ?_
            refine WR.nil ?_
            refine At.go ?_
            refine WC.ret (by kernel_rfl) ?_
            obtain rfl := Option.some.inj H
            have hS : Sat w162 (rf w0) [] := hS.sel [] (by kernel_rfl)
            exact At.body [.bool false] (by kernel_rfl) ⟨_, rfl, rfl, hS⟩
        · replace H := ite_f H hb167
          refine WR.runk [4, 5, 6, 7, 8, 9, 10, 11, 12, 13, 14, 15] [] [4] (L' := [(4, .bool false)]) (w' := w162) (by kernel_rfl) ?_
          refine WR.nil ?_
          refine At.go ?_
          refine WC.ret (by kernel_rfl) ?_
          obtain rfl := Option.some.inj H
          have hS : Sat w162 (rf w0) [] := hS.sel [] (by kernel_rfl)
          exact At.body [.bool false] (by kernel_rfl) ⟨_, rfl, rfl, hS⟩
end Go.Proofs.Ytdfoalfnpgeilaa
