/-
  Printed by gen.py (my own tool): for each Go function a plain Lean function and the proof that a call of it does what that function says.
-/
import Derived.Test.YtomeiphaohjeoaaGP1b
set_option linter.unusedVariables false
set_option linter.unusedSimpArgs false
set_option maxRecDepth 100000
namespace Go.Proofs.Ytomeiphaohjeoaa
open Go Go.Gol
/-! ### 29 colophon/colophonref01.Words -/
def colophonref01_Words.l1 (l0 : List Int) : Nat → (List Int) → Int → Option (List Int)
  | 0, _, _ => none
  | k + 1, x3_l1, x8_l1 => (if decide (x8_l1 < (l0.length : Int)) then ((at? l0 x8_l1).bind fun v2 => (if ((Int.tmod x8_l1 64) == 0) then ((app? 17592186044416 x3_l1 ([0] : List Int)).bind fun y8 => ((at? y8 (wi (Int.tdiv x8_l1 64))).bind fun v12 => ((set? y8 (wi (Int.tdiv x8_l1 64)) (IntKind.wrap .u64 (v12 + (ishl .u64 (IntKind.wrap .u64 v2) (IntKind.wrap .u64 (Int.tmod x8_l1 64)))))).bind fun y14 => colophonref01_Words.l1 l0 k y14 (wi (x8_l1 + 1))))) else ((at? x3_l1 (wi (Int.tdiv x8_l1 64))).bind fun v18 => ((set? x3_l1 (wi (Int.tdiv x8_l1 64)) (IntKind.wrap .u64 (v18 + (ishl .u64 (IntKind.wrap .u64 v2) (IntKind.wrap .u64 (Int.tmod x8_l1 64)))))).bind fun y20 => colophonref01_Words.l1 l0 k y20 (wi (x8_l1 + 1)))))) else some x3_l1)
def colophonref01_Words.f (l0 : List Int) : Option (List Int) := ((colophonref01_Words.l1 l0 FU ([] : List Int) 0).bind fun o24 => some o24)
def colophonref01_Words.post (w : World) (r : (List Int)) (v : Value) (w' : World) : Prop := ∃ (A0' : Option Addr) (c0' : Nat), v = (.slice A0' r.length c0' : Value) ∧ Sat w' (rf w) [osl 43 (r0 (.int .u64)) 1 A0' c0' r]
theorem colophonref01_Words.l1_ok {Q} (w0 : World) (A0 : Option Addr) (c0 : Nat) (l0 : List Int) (R0 : rdS (r0 (.int .u8)) 1 (hp w0) A0 c0 l0) (out : (List Int)) (hn0 : ∀ (A3_q : Option Addr) (c3_q : Nat) (w : World), Sat w (rf w0) [osl 43 (r0 (.int .u64)) 1 A3_q c3_q out] → At Q (.exit 0) 34 [(3, .slice A3_q out.length c3_q)] w) :
    ∀ (k : Nat) (x3_l1 : List Int) (x8_l1 : Int) (A3_l1 : Option Addr) (c3_l1 : Nat) (w : World), Sat w (rf w0) [osl 43 (r0 (.int .u64)) 1 A3_l1 c3_l1 x3_l1] → colophonref01_Words.l1 l0 k x3_l1 x8_l1 = some out → WL Try.prog (cbody (cbody (cr (cl (cr (cr C29)))))) Q 34 [(3, .slice A3_l1 x3_l1.length c3_l1), (6, .slice A0 l0.length c0), (7, .int .i64 (l0.length : Int)), (8, .int .i64 x8_l1)] w := by
  intro k
  induction k with
  | zero => intro x3_l1 x8_l1 A3_l1 c3_l1 w hS H; exact absurd (show none = some out from H) (by simp)
  | succ k ih =>
    intro x3_l1 x8_l1 A3_l1 c3_l1 w hS H
    unfold colophonref01_Words.l1 at H
    refine WL.round ?_
    refine WC.seq (by kernel_rfl) ?_
    refine WC.reg [0] (by kernel_rfl) (by kernel_rfl) ?_
    refine WR.runk [0] [] [3, 6, 7, 8, 9] (L' := [(3, .slice A3_l1 x3_l1.length c3_l1), (6, .slice A0 l0.length c0), (7, .int .i64 (l0.length : Int)), (8, .int .i64 x8_l1), (9, .bool (decide (x8_l1 < (l0.length : Int))))]) (w' := w) (by kernel_rfl) ?_
    refine WR.nil ?_
    refine At.go ?_
    refine WC.seq (by kernel_rfl) ?_
    refine WC.cond (by kernel_rfl) (decide (x8_l1 < (l0.length : Int))) (by kernel_rfl) (by kernel_rfl) (fun hb1 => ?_) (fun hb1 => ?_)
    · replace H := ite_t H hb1
      refine WC.skip (by kernel_rfl) ?_
      refine At.go ?_
      refine WC.seq (by kernel_rfl) ?_
      refine WC.block (by kernel_rfl) ?_
      refine WC.seq (by kernel_rfl) ?_
      refine WC.reg [0, 1, 2, 3, 4] (by kernel_rfl) (by kernel_rfl) ?_
      refine WR.runk [0] [1, 2, 3, 4] [3, 6, 7, 8, 10] (L' := [(3, .slice A3_l1 x3_l1.length c3_l1), (6, .slice A0 l0.length c0), (7, .int .i64 (l0.length : Int)), (8, .int .i64 x8_l1), (10, .int .i64 x8_l1)]) (w' := w) (by kernel_rfl) ?_
      obtain ⟨v2, e3, H⟩ := bind_ex H
      refine WR.st (St.ofP (PSt.idx (k := .i64) (.tmp 6) (.tmp 8) (by kernel_rfl) (by kernel_rfl) E60 (by kernel_rfl) (by kernel_rfl) (rdS.up R0 hS.sub0) e3 ?_))
      refine WR.runk [] [2, 3, 4] [3, 6, 7, 8, 10, 11] (L' := [(3, .slice A3_l1 x3_l1.length c3_l1), (6, .slice A0 l0.length c0), (7, .int .i64 (l0.length : Int)), (8, .int .i64 x8_l1), (10, .int .i64 x8_l1), (11, .pointer (some (adr A0 x8_l1.toNat 1)))]) (w' := w) (by kernel_rfl) ?_
      refine WR.st (St.ofR (RSt.loadInt (t := 5) (.tmp 11) (by kernel_rfl) (by kernel_rfl) (by kernel_rfl) (by kernel_rfl) (rdS.up R0 hS.sub0) e3 ?_))
      refine WR.runk [3, 4] [] [3, 4, 5, 6, 7, 8] (L' := [(3, .slice A3_l1 x3_l1.length c3_l1), (4, .int .i64 x8_l1), (5, .int .u8 v2), (6, .slice A0 l0.length c0), (7, .int .i64 (l0.length : Int)), (8, .int .i64 x8_l1)]) (w' := w) (by kernel_rfl) ?_
      refine WR.nil ?_
      refine At.go ?_
      refine WC.seq (by kernel_rfl) ?_
      refine WC.seq (by kernel_rfl) ?_
      refine WC.reg [0, 1, 2] (by kernel_rfl) (by kernel_rfl) ?_
      refine WR.runk [0, 1, 2] [] [3, 4, 5, 6, 7, 8, 15] (L' := [(3, .slice A3_l1 x3_l1.length c3_l1), (4, .int .i64 x8_l1), (5, .int .u8 v2), (6, .slice A0 l0.length c0), (7, .int .i64 (l0.length : Int)), (8, .int .i64 x8_l1), (15, .bool ((Int.tmod x8_l1 64) == 0))]) (w' := w) (by kernel_rfl) ?_
      refine WR.nil ?_
      refine At.go ?_
      refine WC.cond (by kernel_rfl) ((Int.tmod x8_l1 64) == 0) (by kernel_rfl) (by kernel_rfl) (fun hb4 => ?_) (fun hb4 => ?_)
      · replace H := ite_t H hb4
        refine WC.reg [0, 1, 2, 3] (by kernel_rfl) (by kernel_rfl) ?_
        refine WR.runk [0] [1, 2, 3] [3, 4, 5, 6, 7, 8, 16] (L' := [(3, .slice A3_l1 x3_l1.length c3_l1), (4, .int .i64 x8_l1), (5, .int .u8 v2), (6, .slice A0 l0.length c0), (7, .int .i64 (l0.length : Int)), (8, .int .i64 x8_l1), (16, .slice A3_l1 x3_l1.length c3_l1)]) (w' := w) (by kernel_rfl) ?_
        refine WR.st (St.box hS (by kernel_rfl) (.cells #[.int .u64 0] 43) (fun b5 => .slice (some ⟨b5, 0, none⟩) 1 1) (fun _ => by kernel_rfl) (fun b5 w6 hS => ?_))
        refine WR.runk [] [2, 3] [3, 4, 5, 6, 7, 8, 16, 17] (L' := [(3, .slice A3_l1 x3_l1.length c3_l1), (4, .int .i64 x8_l1), (5, .int .u8 v2), (6, .slice A0 l0.length c0), (7, .int .i64 (l0.length : Int)), (8, .int .i64 x8_l1), (16, .slice A3_l1 x3_l1.length c3_l1), (17, .slice (some ⟨b5, 0, none⟩) 1 1)]) (w' := w6) (by kernel_rfl) ?_
        have hS : Sat w6 (rf w0) [osl 43 (r0 (.int .u64)) 1 A3_l1 c3_l1 x3_l1, pts b5 (.cells #[.int .u64 0] 43 (0, 0))] := hS.sel [1, 0] (by kernel_rfl)
        obtain ⟨y8, e7, H⟩ := bind_ex H
        refine WR.st (St.append' (.tmp 16) (.tmp 17) (by kernel_rfl) (by kernel_rfl) E35 (r0_one _) hS (by kernel_rfl) (by kernel_rfl) (Sat.ptsAt 1 (r0 (.int .u64)) 1 ([0] : List Int) hS rfl rfl (rdL.cons1 rfl (rdL.nil _ _))) 17592186044416 (by kernel_rfl) (by kernel_rfl) e7 (fun A9 c10 w11 hS => ?_))
        refine WR.runk [3] [] [3, 4, 5, 6, 7, 8] (L' := [(3, .slice A9 y8.length c10), (4, .int .i64 x8_l1), (5, .int .u8 v2), (6, .slice A0 l0.length c0), (7, .int .i64 (l0.length : Int)), (8, .int .i64 x8_l1)]) (w' := w11) (by kernel_rfl) ?_
        refine WR.nil ?_
        refine At.go ?_
        refine WC.reg [0, 1, 2, 3, 4, 5, 6, 7, 8, 9, 10, 11, 12, 13] (by kernel_rfl) (by kernel_rfl) ?_
        refine WR.runk [0, 1, 2] [3, 4, 5, 6, 7, 8, 9, 10, 11, 12, 13] [3, 4, 5, 6, 7, 8, 19, 21] (L' := [(3, .slice A9 y8.length c10), (4, .int .i64 x8_l1), (5, .int .u8 v2), (6, .slice A0 l0.length c0), (7, .int .i64 (l0.length : Int)), (8, .int .i64 x8_l1), (19, .slice A9 y8.length c10), (21, .int .i64 (wi (Int.tdiv x8_l1 64)))]) (w' := w11) (by kernel_rfl) ?_
        obtain ⟨v12, e13, H⟩ := bind_ex H
        refine WR.st (St.ofP (PSt.idx (k := .i64) (.tmp 19) (.tmp 21) (by kernel_rfl) (by kernel_rfl) E35 (by kernel_rfl) (by kernel_rfl) (Sat.rdAt 0 hS rfl) e13 ?_))
        refine WR.runk [] [4, 5, 6, 7, 8, 9, 10, 11, 12, 13] [3, 4, 5, 6, 7, 8, 19, 21, 22] (L' := [(3, .slice A9 y8.length c10), (4, .int .i64 x8_l1), (5, .int .u8 v2), (6, .slice A0 l0.length c0), (7, .int .i64 (l0.length : Int)), (8, .int .i64 x8_l1), (19, .slice A9 y8.length c10), (21, .int .i64 (wi (Int.tdiv x8_l1 64))), (22, .pointer (some (adr A9 (wi (Int.tdiv x8_l1 64)).toNat 1)))]) (w' := w11) (by kernel_rfl) ?_
        refine WR.st (St.ofR (RSt.loadInt (t := 43) (.tmp 22) (by kernel_rfl) (by kernel_rfl) (by kernel_rfl) (by kernel_rfl) (Sat.rdAt 0 hS rfl) e13 ?_))
        refine WR.runk [5, 6, 7, 8, 9] [10, 11, 12, 13] [3, 6, 7, 8, 19, 21, 23, 25, 28] (L' := [(3, .slice A9 y8.length c10), (6, .slice A0 l0.length c0), (7, .int .i64 (l0.length : Int)), (8, .int .i64 x8_l1), (19, .slice A9 y8.length c10), (21, .int .i64 (wi (Int.tdiv x8_l1 64))), (23, .int .u64 v12), (25, .int .u64 (IntKind.wrap .u64 v2)), (28, .int .u64 (IntKind.wrap .u64 (Int.tmod x8_l1 64)))]) (w' := w11) (by kernel_rfl) ?_
        refine WR.st (St.ofP (PSt.shift (k := .u64) (k2 := .u64) (t := 43) (t2 := 42) (a := (IntKind.wrap .u64 v2)) (b := (IntKind.wrap .u64 (Int.tmod x8_l1 64))) .shl (by decide) (.tmp 25) (.tmp 28) (by kernel_rfl) (by kernel_rfl) (by kernel_rfl) (by kernel_rfl) (wrap_u64_nonneg _) ?_))
        refine WR.runk [11] [12, 13] [3, 6, 7, 8, 19, 21, 30] (L' := [(3, .slice A9 y8.length c10), (6, .slice A0 l0.length c0), (7, .int .i64 (l0.length : Int)), (8, .int .i64 x8_l1), (19, .slice A9 y8.length c10), (21, .int .i64 (wi (Int.tdiv x8_l1 64))), (30, .int .u64 (IntKind.wrap .u64 (v12 + (ishl .u64 (IntKind.wrap .u64 v2) (IntKind.wrap .u64 (Int.tmod x8_l1 64))))))]) (w' := w11) (by kernel_rfl) ?_
        refine WR.st (St.ofP (PSt.idx (k := .i64) (.tmp 19) (.tmp 21) (by kernel_rfl) (by kernel_rfl) E35 (by kernel_rfl) (by kernel_rfl) (Sat.rdAt 0 hS rfl) e13 ?_))
        refine WR.runk [] [13] [3, 6, 7, 8, 30, 31] (L' := [(3, .slice A9 y8.length c10), (6, .slice A0 l0.length c0), (7, .int .i64 (l0.length : Int)), (8, .int .i64 x8_l1), (30, .int .u64 (IntKind.wrap .u64 (v12 + (ishl .u64 (IntKind.wrap .u64 v2) (IntKind.wrap .u64 (Int.tmod x8_l1 64)))))), (31, .pointer (some (adr A9 (wi (Int.tdiv x8_l1 64)).toNat 1)))]) (w' := w11) (by kernel_rfl) ?_
        obtain ⟨y14, e15, H⟩ := bind_ex H
        refine WR.st (St.storeElem' (t := 43) (.tmp 31) (.tmp 30) (by kernel_rfl) (by kernel_rfl) (by kernel_rfl) hS (by kernel_rfl) (by kernel_rfl) rfl e15 rfl (fun w16 hS => ?_))
        have hl17 := set?_len e15
        refine WR.know 3 (.slice A9 y14.length c10) (.slice A9 y8.length c10) (by kernel_rfl) (by rw [hl17]) ?_
        refine WR.runk [] [] [3, 6, 7, 8] (L' := [(3, .slice A9 y14.length c10), (6, .slice A0 l0.length c0), (7, .int .i64 (l0.length : Int)), (8, .int .i64 x8_l1)]) (w' := w16) (by kernel_rfl) ?_
        refine WR.nil ?_
        refine At.blockNormal ?_
        refine At.go ?_
        refine WC.reg [0, 1] (by kernel_rfl) (by kernel_rfl) ?_
        refine WR.runk [0, 1] [] [3, 6, 7, 8] (L' := [(3, .slice A9 y14.length c10), (6, .slice A0 l0.length c0), (7, .int .i64 (l0.length : Int)), (8, .int .i64 (wi (x8_l1 + 1)))]) (w' := w16) (by kernel_rfl) ?_
        refine WR.nil ?_
        have hS : Sat w16 (rf w0) [osl 43 (r0 (.int .u64)) 1 A9 c10 y14] := hS.sel [0] (by kernel_rfl)
        refine At.again ?_
        refine WL.weaken [3, 6, 7, 8] (L' := [(3, .slice A9 y14.length c10), (6, .slice A0 l0.length c0), (7, .int .i64 (l0.length : Int)), (8, .int .i64 (wi (x8_l1 + 1)))]) (by kernel_rfl) ?_
        exact ih y14 (wi (x8_l1 + 1)) A9 c10 _ hS H
      · replace H := ite_f H hb4
        refine WC.skip (by kernel_rfl) ?_
        refine At.go ?_
        refine WC.reg [0, 1, 2, 3, 4, 5, 6, 7, 8, 9, 10, 11, 12, 13] (by kernel_rfl) (by kernel_rfl) ?_
        refine WR.runk [0, 1, 2] [3, 4, 5, 6, 7, 8, 9, 10, 11, 12, 13] [3, 4, 5, 6, 7, 8, 19, 21] (L' := [(3, .slice A3_l1 x3_l1.length c3_l1), (4, .int .i64 x8_l1), (5, .int .u8 v2), (6, .slice A0 l0.length c0), (7, .int .i64 (l0.length : Int)), (8, .int .i64 x8_l1), (19, .slice A3_l1 x3_l1.length c3_l1), (21, .int .i64 (wi (Int.tdiv x8_l1 64)))]) (w' := w) (by kernel_rfl) ?_
        obtain ⟨v18, e19, H⟩ := bind_ex H
        refine WR.st (St.ofP (PSt.idx (k := .i64) (.tmp 19) (.tmp 21) (by kernel_rfl) (by kernel_rfl) E35 (by kernel_rfl) (by kernel_rfl) (Sat.rdAt 0 hS rfl) e19 ?_))
        refine WR.runk [] [4, 5, 6, 7, 8, 9, 10, 11, 12, 13] [3, 4, 5, 6, 7, 8, 19, 21, 22] (L' := [(3, .slice A3_l1 x3_l1.length c3_l1), (4, .int .i64 x8_l1), (5, .int .u8 v2), (6, .slice A0 l0.length c0), (7, .int .i64 (l0.length : Int)), (8, .int .i64 x8_l1), (19, .slice A3_l1 x3_l1.length c3_l1), (21, .int .i64 (wi (Int.tdiv x8_l1 64))), (22, .pointer (some (adr A3_l1 (wi (Int.tdiv x8_l1 64)).toNat 1)))]) (w' := w) (by kernel_rfl) ?_
        refine WR.st (St.ofR (RSt.loadInt (t := 43) (.tmp 22) (by kernel_rfl) (by kernel_rfl) (by kernel_rfl) (by kernel_rfl) (Sat.rdAt 0 hS rfl) e19 ?_))
        refine WR.runk [5, 6, 7, 8, 9] [10, 11, 12, 13] [3, 6, 7, 8, 19, 21, 23, 25, 28] (L' := [(3, .slice A3_l1 x3_l1.length c3_l1), (6, .slice A0 l0.length c0), (7, .int .i64 (l0.length : Int)), (8, .int .i64 x8_l1), (19, .slice A3_l1 x3_l1.length c3_l1), (21, .int .i64 (wi (Int.tdiv x8_l1 64))), (23, .int .u64 v18), (25, .int .u64 (IntKind.wrap .u64 v2)), (28, .int .u64 (IntKind.wrap .u64 (Int.tmod x8_l1 64)))]) (w' := w) (by kernel_rfl) ?_
        refine WR.st (St.ofP (PSt.shift (k := .u64) (k2 := .u64) (t := 43) (t2 := 42) (a := (IntKind.wrap .u64 v2)) (b := (IntKind.wrap .u64 (Int.tmod x8_l1 64))) .shl (by decide) (.tmp 25) (.tmp 28) (by kernel_rfl) (by kernel_rfl) (by kernel_rfl) (by kernel_rfl) (wrap_u64_nonneg _) ?_))
        refine WR.runk [11] [12, 13] [3, 6, 7, 8, 19, 21, 30] (L' := [(3, .slice A3_l1 x3_l1.length c3_l1), (6, .slice A0 l0.length c0), (7, .int .i64 (l0.length : Int)), (8, .int .i64 x8_l1), (19, .slice A3_l1 x3_l1.length c3_l1), (21, .int .i64 (wi (Int.tdiv x8_l1 64))), (30, .int .u64 (IntKind.wrap .u64 (v18 + (ishl .u64 (IntKind.wrap .u64 v2) (IntKind.wrap .u64 (Int.tmod x8_l1 64))))))]) (w' := w) (by kernel_rfl) ?_
        refine WR.st (St.ofP (PSt.idx (k := .i64) (.tmp 19) (.tmp 21) (by kernel_rfl) (by kernel_rfl) E35 (by kernel_rfl) (by kernel_rfl) (Sat.rdAt 0 hS rfl) e19 ?_))
        refine WR.runk [] [13] [3, 6, 7, 8, 30, 31] (L' := [(3, .slice A3_l1 x3_l1.length c3_l1), (6, .slice A0 l0.length c0), (7, .int .i64 (l0.length : Int)), (8, .int .i64 x8_l1), (30, .int .u64 (IntKind.wrap .u64 (v18 + (ishl .u64 (IntKind.wrap .u64 v2) (IntKind.wrap .u64 (Int.tmod x8_l1 64)))))), (31, .pointer (some (adr A3_l1 (wi (Int.tdiv x8_l1 64)).toNat 1)))]) (w' := w) (by kernel_rfl) ?_
        obtain ⟨y20, e21, H⟩ := bind_ex H
        refine WR.st (St.storeElem' (t := 43) (.tmp 31) (.tmp 30) (by kernel_rfl) (by kernel_rfl) (by kernel_rfl) hS (by kernel_rfl) (by kernel_rfl) rfl e21 rfl (fun w22 hS => ?_))
        have hl23 := set?_len e21
        refine WR.know 3 (.slice A3_l1 y20.length c3_l1) (.slice A3_l1 x3_l1.length c3_l1) (by kernel_rfl) (by rw [hl23]) ?_
        refine WR.runk [] [] [3, 6, 7, 8] (L' := [(3, .slice A3_l1 y20.length c3_l1), (6, .slice A0 l0.length c0), (7, .int .i64 (l0.length : Int)), (8, .int .i64 x8_l1)]) (w' := w22) (by kernel_rfl) ?_
        refine WR.nil ?_
        refine At.blockNormal ?_
        refine At.go ?_
        refine WC.reg [0, 1] (by kernel_rfl) (by kernel_rfl) ?_
        refine WR.runk [0, 1] [] [3, 6, 7, 8] (L' := [(3, .slice A3_l1 y20.length c3_l1), (6, .slice A0 l0.length c0), (7, .int .i64 (l0.length : Int)), (8, .int .i64 (wi (x8_l1 + 1)))]) (w' := w22) (by kernel_rfl) ?_
        refine WR.nil ?_
        have hS : Sat w22 (rf w0) [osl 43 (r0 (.int .u64)) 1 A3_l1 c3_l1 y20] := hS.sel [0] (by kernel_rfl)
        refine At.again ?_
        refine WL.weaken [3, 6, 7, 8] (L' := [(3, .slice A3_l1 y20.length c3_l1), (6, .slice A0 l0.length c0), (7, .int .i64 (l0.length : Int)), (8, .int .i64 (wi (x8_l1 + 1)))]) (by kernel_rfl) ?_
        exact ih y20 (wi (x8_l1 + 1)) A3_l1 c3_l1 _ hS H
    · replace H := ite_f H hb1
      refine WC.exit (by kernel_rfl) ?_
      refine At.thenExit ?_
      refine At.thenExit ?_
      obtain rfl := Option.some.inj H
      have hS : Sat w (rf w0) [osl 43 (r0 (.int .u64)) 1 A3_l1 c3_l1 x3_l1] := hS.sel [0] (by kernel_rfl)
      refine At.weaken [3] (L' := [(3, .slice A3_l1 x3_l1.length c3_l1)]) (by kernel_rfl) ?_
      exact hn0 A3_l1 c3_l1 _ hS
theorem colophonref01_Words.calls (w0 : World) (A0 : Option Addr) (c0 : Nat) (l0 : List Int) (R0 : rdS (r0 (.int .u8)) 1 (hp w0) A0 c0 l0) (r : (List Int)) (H : colophonref01_Words.f l0 = some r) :
    Calls Try.prog 29 #[.slice A0 l0.length c0] w0 (fun e w' => ∃ v, e = .returned v ∧ colophonref01_Words.post w0 r v w') := by
  have hS : Sat w0 (rf w0) [] := Sat.start w0
  unfold colophonref01_Words.f at H
  refine calls_of_WC (vs := [.slice A0 l0.length c0]) Try.func29 (c := C29) (n := 34) (by kernel_rfl) (by kernel_rfl) (by kernel_rfl) ?_
  refine WC.seq (by kernel_rfl) ?_
  refine WC.reg [0] (by kernel_rfl) (by kernel_rfl) ?_
  refine WR.runk [0] [] [0] (L' := [(0, .slice A0 l0.length c0)]) (w' := w0) (by kernel_rfl) ?_
  refine WR.nil ?_
  refine At.go ?_
  refine WC.seq (by kernel_rfl) ?_
  refine WC.reg [0] (by kernel_rfl) (by kernel_rfl) ?_
  refine WR.runk [0] [] [0, 3] (L' := [(0, .slice A0 l0.length c0), (3, .slice none 0 0)]) (w' := w0) (by kernel_rfl) ?_
  refine WR.nil ?_
  refine At.go ?_
  refine WC.seq (by kernel_rfl) ?_
  refine WC.seq (by kernel_rfl) ?_
  refine WC.reg [0, 1, 2] (by kernel_rfl) (by kernel_rfl) ?_
  refine WR.runk [0, 1, 2] [] [3, 6, 7, 8] (L' := [(3, .slice none 0 0), (6, .slice A0 l0.length c0), (7, .int .i64 (l0.length : Int)), (8, .int .i64 0)]) (w' := w0) (by kernel_rfl) ?_
  refine WR.nil ?_
  refine At.go ?_
  refine WC.block (by kernel_rfl) ?_
  have hS := hS.addNil (α := Int) 43 (r0 (.int .u64)) 1
  have hS : Sat w0 (rf w0) [osl 43 (r0 (.int .u64)) 1 none 0 ([] : List Int)] := hS.sel [0] (by kernel_rfl)
  obtain ⟨o24, e25, H⟩ := bind_ex H
  refine WC.loop (by kernel_rfl) ?_
  refine WL.weaken [3, 6, 7, 8] (L' := [(3, .slice none 0 0), (6, .slice A0 l0.length c0), (7, .int .i64 (l0.length : Int)), (8, .int .i64 0)]) (by kernel_rfl) ?_
  refine colophonref01_Words.l1_ok w0 A0 c0 l0 R0 o24 (fun A3_q26 c3_q26 w27 hS => ?_) FU ([] : List Int) 0 none 0 _ hS e25
  refine At.hit ?_
  refine At.go ?_
  refine WC.seq (by kernel_rfl) ?_
  refine WC.reg [0, 1] (by kernel_rfl) (by kernel_rfl) ?_
  refine WR.runk [0, 1] [] [2] (L' := [(2, .slice A3_q26 o24.length c3_q26)]) (w' := w27) (by kernel_rfl) ?_
  refine WR.nil ?_
  refine At.go ?_
  refine WC.ret (by kernel_rfl) ?_
  obtain rfl := Option.some.inj H
  have hS : Sat w27 (rf w0) [osl 43 (r0 (.int .u64)) 1 A3_q26 c3_q26 o24] := hS.sel [0] (by kernel_rfl)
  exact At.body [.slice A3_q26 o24.length c3_q26] (by kernel_rfl) ⟨_, rfl, _, _, rfl, hS⟩
/-! ### 30 colophon/colophonref01.Bits -/
def colophonref01_Bits.l2 (a0 : Int) (v2 : Int) : Nat → (List Int) → Int → Option (List Int)
  | 0, _, _ => none
  | k + 1, x5_l2, x8_l2 => (if decide (x8_l2 < a0) then ((app? 140737488355328 x5_l2 ([iand .u8 (IntKind.wrap .u8 (ishr .u64 v2 (IntKind.wrap .u64 x8_l2))) 1] : List Int)).bind fun y8 => colophonref01_Bits.l2 a0 v2 k y8 (wi (x8_l2 + 1))) else some x5_l2)
def colophonref01_Bits.l1 (a0 : Int) (l1 : List Int) : Nat → (List Int) → Int → Option (List Int)
  | 0, _, _ => none
  | k + 1, x5_l1, x11_l1 => (if decide (x11_l1 < (l1.length : Int)) then ((at? l1 x11_l1).bind fun v2 => ((colophonref01_Bits.l2 a0 v2 FU x5_l1 0).bind fun o12 => colophonref01_Bits.l1 a0 l1 k o12 (wi (x11_l1 + 1)))) else some x5_l1)
def colophonref01_Bits.f (a0 : Int) (l1 : List Int) : Option (List Int) := ((colophonref01_Bits.l1 a0 l1 FU ([] : List Int) 0).bind fun o17 => some o17)
def colophonref01_Bits.post (w : World) (r : (List Int)) (v : Value) (w' : World) : Prop := ∃ (A0' : Option Addr) (c0' : Nat), v = (.slice A0' r.length c0' : Value) ∧ Sat w' (rf w) [osl 5 (r0 (.int .u8)) 1 A0' c0' r]
theorem colophonref01_Bits.l2_ok {Q} (w0 : World) (a0 : Int) (A1 : Option Addr) (c1 : Nat) (l1 : List Int) (x11_l1 : Int) (v2 : Int) (out : (List Int)) (hn0 : ∀ (A5_q : Option Addr) (c5_q : Nat) (w : World), Sat w (rf w0) [osl 5 (r0 (.int .u8)) 1 A5_q c5_q out] → At Q (.exit 2) 31 [(0, .int .i64 a0), (5, .slice A5_q out.length c5_q), (9, .slice A1 l1.length c1), (10, .int .i64 (l1.length : Int)), (11, .int .i64 x11_l1)] w) :
    ∀ (k : Nat) (x5_l2 : List Int) (x8_l2 : Int) (A5_l2 : Option Addr) (c5_l2 : Nat) (w : World), Sat w (rf w0) [osl 5 (r0 (.int .u8)) 1 A5_l2 c5_l2 x5_l2] → colophonref01_Bits.l2 a0 v2 k x5_l2 x8_l2 = some out → WL Try.prog (cbody (cbody (cr (cr (cbody (cl (cr (cr (cbody (cbody (cr (cl (cr (cr C30)))))))))))))) Q 31 [(0, .int .i64 a0), (5, .slice A5_l2 x5_l2.length c5_l2), (7, .int .u64 v2), (8, .int .i64 x8_l2), (9, .slice A1 l1.length c1), (10, .int .i64 (l1.length : Int)), (11, .int .i64 x11_l1)] w := by
  intro k
  induction k with
  | zero => intro x5_l2 x8_l2 A5_l2 c5_l2 w hS H; exact absurd (show none = some out from H) (by simp)
  | succ k ih =>
    intro x5_l2 x8_l2 A5_l2 c5_l2 w hS H
    unfold colophonref01_Bits.l2 at H
    refine WL.round ?_
    refine WC.seq (by kernel_rfl) ?_
    refine WC.seq (by kernel_rfl) ?_
    refine WC.reg [0, 1, 2] (by kernel_rfl) (by kernel_rfl) ?_
    refine WR.runk [0, 1, 2] [] [0, 5, 7, 8, 9, 10, 11, 17] (L' := [(0, .int .i64 a0), (5, .slice A5_l2 x5_l2.length c5_l2), (7, .int .u64 v2), (8, .int .i64 x8_l2), (9, .slice A1 l1.length c1), (10, .int .i64 (l1.length : Int)), (11, .int .i64 x11_l1), (17, .bool (decide (x8_l2 < a0)))]) (w' := w) (by kernel_rfl) ?_
    refine WR.nil ?_
    refine At.go ?_
    refine WC.cond (by kernel_rfl) (decide (x8_l2 < a0)) (by kernel_rfl) (by kernel_rfl) (fun hb4 => ?_) (fun hb4 => ?_)
    · replace H := ite_t H hb4
      refine WC.skip (by kernel_rfl) ?_
      refine At.go ?_
      refine WC.seq (by kernel_rfl) ?_
      refine WC.block (by kernel_rfl) ?_
      refine WC.reg [0, 1, 2, 3, 4, 5, 6, 7, 8, 9] (by kernel_rfl) (by kernel_rfl) ?_
      refine WR.runk [0, 1, 2, 3] [4, 5, 6, 7, 8, 9] [0, 5, 7, 8, 9, 10, 11, 20, 21, 23] (L' := [(0, .int .i64 a0), (5, .slice A5_l2 x5_l2.length c5_l2), (7, .int .u64 v2), (8, .int .i64 x8_l2), (9, .slice A1 l1.length c1), (10, .int .i64 (l1.length : Int)), (11, .int .i64 x11_l1), (20, .slice A5_l2 x5_l2.length c5_l2), (21, .int .u64 v2), (23, .int .u64 (IntKind.wrap .u64 x8_l2))]) (w' := w) (by kernel_rfl) ?_
      refine WR.st (St.ofP (PSt.shift (k := .u64) (k2 := .u64) (t := 43) (t2 := 42) (a := v2) (b := (IntKind.wrap .u64 x8_l2)) .shr (by decide) (.tmp 21) (.tmp 23) (by kernel_rfl) (by kernel_rfl) (by kernel_rfl) (by kernel_rfl) (wrap_u64_nonneg _) ?_))
      refine WR.runk [5, 6] [7, 8, 9] [0, 5, 7, 8, 9, 10, 11, 20, 26] (L' := [(0, .int .i64 a0), (5, .slice A5_l2 x5_l2.length c5_l2), (7, .int .u64 v2), (8, .int .i64 x8_l2), (9, .slice A1 l1.length c1), (10, .int .i64 (l1.length : Int)), (11, .int .i64 x11_l1), (20, .slice A5_l2 x5_l2.length c5_l2), (26, .int .u8 (iand .u8 (IntKind.wrap .u8 (ishr .u64 v2 (IntKind.wrap .u64 x8_l2))) 1))]) (w' := w) (by kernel_rfl) ?_
      refine WR.st (St.box hS (by kernel_rfl) (.cells #[.int .u8 (iand .u8 (IntKind.wrap .u8 (ishr .u64 v2 (IntKind.wrap .u64 x8_l2))) 1)] 5) (fun b5 => .slice (some ⟨b5, 0, none⟩) 1 1) (fun _ => by kernel_rfl) (fun b5 w6 hS => ?_))
      refine WR.runk [] [8, 9] [0, 5, 7, 8, 9, 10, 11, 20, 27] (L' := [(0, .int .i64 a0), (5, .slice A5_l2 x5_l2.length c5_l2), (7, .int .u64 v2), (8, .int .i64 x8_l2), (9, .slice A1 l1.length c1), (10, .int .i64 (l1.length : Int)), (11, .int .i64 x11_l1), (20, .slice A5_l2 x5_l2.length c5_l2), (27, .slice (some ⟨b5, 0, none⟩) 1 1)]) (w' := w6) (by kernel_rfl) ?_
      have hS : Sat w6 (rf w0) [osl 5 (r0 (.int .u8)) 1 A5_l2 c5_l2 x5_l2, pts b5 (.cells #[.int .u8 (iand .u8 (IntKind.wrap .u8 (ishr .u64 v2 (IntKind.wrap .u64 x8_l2))) 1)] 5 (0, 0))] := hS.sel [1, 0] (by kernel_rfl)
      obtain ⟨y8, e7, H⟩ := bind_ex H
      refine WR.st (St.append' (.tmp 20) (.tmp 27) (by kernel_rfl) (by kernel_rfl) E60 (r0_one _) hS (by kernel_rfl) (by kernel_rfl) (Sat.ptsAt 1 (r0 (.int .u8)) 1 ([iand .u8 (IntKind.wrap .u8 (ishr .u64 v2 (IntKind.wrap .u64 x8_l2))) 1] : List Int) hS rfl rfl (rdL.cons1 rfl (rdL.nil _ _))) 140737488355328 (by kernel_rfl) (by kernel_rfl) e7 (fun A9 c10 w11 hS => ?_))
      refine WR.runk [9] [] [0, 5, 7, 8, 9, 10, 11] (L' := [(0, .int .i64 a0), (5, .slice A9 y8.length c10), (7, .int .u64 v2), (8, .int .i64 x8_l2), (9, .slice A1 l1.length c1), (10, .int .i64 (l1.length : Int)), (11, .int .i64 x11_l1)]) (w' := w11) (by kernel_rfl) ?_
      refine WR.nil ?_
      refine At.blockNormal ?_
      refine At.go ?_
      refine WC.reg [0, 1, 2] (by kernel_rfl) (by kernel_rfl) ?_
      refine WR.runk [0, 1, 2] [] [0, 5, 7, 8, 9, 10, 11] (L' := [(0, .int .i64 a0), (5, .slice A9 y8.length c10), (7, .int .u64 v2), (8, .int .i64 (wi (x8_l2 + 1))), (9, .slice A1 l1.length c1), (10, .int .i64 (l1.length : Int)), (11, .int .i64 x11_l1)]) (w' := w11) (by kernel_rfl) ?_
      refine WR.nil ?_
      have hS : Sat w11 (rf w0) [osl 5 (r0 (.int .u8)) 1 A9 c10 y8] := hS.sel [0] (by kernel_rfl)
      refine At.again ?_
      refine WL.weaken [0, 5, 7, 8, 9, 10, 11] (L' := [(0, .int .i64 a0), (5, .slice A9 y8.length c10), (7, .int .u64 v2), (8, .int .i64 (wi (x8_l2 + 1))), (9, .slice A1 l1.length c1), (10, .int .i64 (l1.length : Int)), (11, .int .i64 x11_l1)]) (by kernel_rfl) ?_
      exact ih y8 (wi (x8_l2 + 1)) A9 c10 _ hS H
    · replace H := ite_f H hb4
      refine WC.exit (by kernel_rfl) ?_
      refine At.thenExit ?_
      refine At.thenExit ?_
      obtain rfl := Option.some.inj H
      have hS : Sat w (rf w0) [osl 5 (r0 (.int .u8)) 1 A5_l2 c5_l2 x5_l2] := hS.sel [0] (by kernel_rfl)
      refine At.weaken [0, 5, 9, 10, 11] (L' := [(0, .int .i64 a0), (5, .slice A5_l2 x5_l2.length c5_l2), (9, .slice A1 l1.length c1), (10, .int .i64 (l1.length : Int)), (11, .int .i64 x11_l1)]) (by kernel_rfl) ?_
      exact hn0 A5_l2 c5_l2 _ hS
theorem colophonref01_Bits.l1_ok {Q} (w0 : World) (a0 : Int) (A1 : Option Addr) (c1 : Nat) (l1 : List Int) (R1 : rdS (r0 (.int .u64)) 1 (hp w0) A1 c1 l1) (out : (List Int)) (hn0 : ∀ (A5_q : Option Addr) (c5_q : Nat) (w : World), Sat w (rf w0) [osl 5 (r0 (.int .u8)) 1 A5_q c5_q out] → At Q (.exit 0) 31 [(5, .slice A5_q out.length c5_q)] w) :
    ∀ (k : Nat) (x5_l1 : List Int) (x11_l1 : Int) (A5_l1 : Option Addr) (c5_l1 : Nat) (w : World), Sat w (rf w0) [osl 5 (r0 (.int .u8)) 1 A5_l1 c5_l1 x5_l1] → colophonref01_Bits.l1 a0 l1 k x5_l1 x11_l1 = some out → WL Try.prog (cbody (cbody (cr (cl (cr (cr C30)))))) Q 31 [(0, .int .i64 a0), (5, .slice A5_l1 x5_l1.length c5_l1), (9, .slice A1 l1.length c1), (10, .int .i64 (l1.length : Int)), (11, .int .i64 x11_l1)] w := by
  intro k
  induction k with
  | zero => intro x5_l1 x11_l1 A5_l1 c5_l1 w hS H; exact absurd (show none = some out from H) (by simp)
  | succ k ih =>
    intro x5_l1 x11_l1 A5_l1 c5_l1 w hS H
    unfold colophonref01_Bits.l1 at H
    refine WL.round ?_
    refine WC.seq (by kernel_rfl) ?_
    refine WC.reg [0] (by kernel_rfl) (by kernel_rfl) ?_
    refine WR.runk [0] [] [0, 5, 9, 10, 11, 12] (L' := [(0, .int .i64 a0), (5, .slice A5_l1 x5_l1.length c5_l1), (9, .slice A1 l1.length c1), (10, .int .i64 (l1.length : Int)), (11, .int .i64 x11_l1), (12, .bool (decide (x11_l1 < (l1.length : Int))))]) (w' := w) (by kernel_rfl) ?_
    refine WR.nil ?_
    refine At.go ?_
    refine WC.seq (by kernel_rfl) ?_
    refine WC.cond (by kernel_rfl) (decide (x11_l1 < (l1.length : Int))) (by kernel_rfl) (by kernel_rfl) (fun hb1 => ?_) (fun hb1 => ?_)
    · replace H := ite_t H hb1
      refine WC.skip (by kernel_rfl) ?_
      refine At.go ?_
      refine WC.seq (by kernel_rfl) ?_
      refine WC.block (by kernel_rfl) ?_
      refine WC.seq (by kernel_rfl) ?_
      refine WC.reg [0, 1, 2] (by kernel_rfl) (by kernel_rfl) ?_
      refine WR.runk [] [0, 1, 2] [0, 5, 9, 10, 11] (L' := [(0, .int .i64 a0), (5, .slice A5_l1 x5_l1.length c5_l1), (9, .slice A1 l1.length c1), (10, .int .i64 (l1.length : Int)), (11, .int .i64 x11_l1)]) (w' := w) (by kernel_rfl) ?_
      obtain ⟨v2, e3, H⟩ := bind_ex H
      refine WR.st (St.ofP (PSt.idx (k := .i64) (.tmp 9) (.tmp 11) (by kernel_rfl) (by kernel_rfl) E35 (by kernel_rfl) (by kernel_rfl) (rdS.up R1 hS.sub0) e3 ?_))
      refine WR.runk [] [1, 2] [0, 5, 9, 10, 11, 13] (L' := [(0, .int .i64 a0), (5, .slice A5_l1 x5_l1.length c5_l1), (9, .slice A1 l1.length c1), (10, .int .i64 (l1.length : Int)), (11, .int .i64 x11_l1), (13, .pointer (some (adr A1 x11_l1.toNat 1)))]) (w' := w) (by kernel_rfl) ?_
      refine WR.st (St.ofR (RSt.loadInt (t := 43) (.tmp 13) (by kernel_rfl) (by kernel_rfl) (by kernel_rfl) (by kernel_rfl) (rdS.up R1 hS.sub0) e3 ?_))
      refine WR.runk [2] [] [0, 5, 7, 9, 10, 11] (L' := [(0, .int .i64 a0), (5, .slice A5_l1 x5_l1.length c5_l1), (7, .int .u64 v2), (9, .slice A1 l1.length c1), (10, .int .i64 (l1.length : Int)), (11, .int .i64 x11_l1)]) (w' := w) (by kernel_rfl) ?_
      refine WR.nil ?_
      refine At.go ?_
      refine WC.seq (by kernel_rfl) ?_
      refine WC.reg [0] (by kernel_rfl) (by kernel_rfl) ?_
      refine WR.runk [0] [] [0, 5, 7, 8, 9, 10, 11] (L' := [(0, .int .i64 a0), (5, .slice A5_l1 x5_l1.length c5_l1), (7, .int .u64 v2), (8, .int .i64 0), (9, .slice A1 l1.length c1), (10, .int .i64 (l1.length : Int)), (11, .int .i64 x11_l1)]) (w' := w) (by kernel_rfl) ?_
      refine WR.nil ?_
      refine At.go ?_
      refine WC.block (by kernel_rfl) ?_
      have hS : Sat w (rf w0) [osl 5 (r0 (.int .u8)) 1 A5_l1 c5_l1 x5_l1] := hS.sel [0] (by kernel_rfl)
      obtain ⟨o12, e13, H⟩ := bind_ex H
      refine WC.loop (by kernel_rfl) ?_
      refine WL.weaken [0, 5, 7, 8, 9, 10, 11] (L' := [(0, .int .i64 a0), (5, .slice A5_l1 x5_l1.length c5_l1), (7, .int .u64 v2), (8, .int .i64 0), (9, .slice A1 l1.length c1), (10, .int .i64 (l1.length : Int)), (11, .int .i64 x11_l1)]) (by kernel_rfl) ?_
      refine colophonref01_Bits.l2_ok w0 a0 A1 c1 l1 x11_l1 v2 o12 (fun A5_q14 c5_q14 w15 hS => ?_) FU x5_l1 0 A5_l1 c5_l1 _ hS e13
      refine At.hit ?_
      refine At.blockNormal ?_
      refine At.go ?_
      refine WC.reg [0, 1] (by kernel_rfl) (by kernel_rfl) ?_
      refine WR.runk [0, 1] [] [0, 5, 9, 10, 11] (L' := [(0, .int .i64 a0), (5, .slice A5_q14 o12.length c5_q14), (9, .slice A1 l1.length c1), (10, .int .i64 (l1.length : Int)), (11, .int .i64 (wi (x11_l1 + 1)))]) (w' := w15) (by kernel_rfl) ?_
      refine WR.nil ?_
      have hS : Sat w15 (rf w0) [osl 5 (r0 (.int .u8)) 1 A5_q14 c5_q14 o12] := hS.sel [0] (by kernel_rfl)
      refine At.again ?_
      refine WL.weaken [0, 5, 9, 10, 11] (L' := [(0, .int .i64 a0), (5, .slice A5_q14 o12.length c5_q14), (9, .slice A1 l1.length c1), (10, .int .i64 (l1.length : Int)), (11, .int .i64 (wi (x11_l1 + 1)))]) (by kernel_rfl) ?_
      exact ih o12 (wi (x11_l1 + 1)) A5_q14 c5_q14 _ hS H
    · replace H := ite_f H hb1
      refine WC.exit (by kernel_rfl) ?_
      refine At.thenExit ?_
      refine At.thenExit ?_
      obtain rfl := Option.some.inj H
      have hS : Sat w (rf w0) [osl 5 (r0 (.int .u8)) 1 A5_l1 c5_l1 x5_l1] := hS.sel [0] (by kernel_rfl)
      refine At.weaken [5] (L' := [(5, .slice A5_l1 x5_l1.length c5_l1)]) (by kernel_rfl) ?_
      exact hn0 A5_l1 c5_l1 _ hS
theorem colophonref01_Bits.calls (w0 : World) (a0 : Int) (A1 : Option Addr) (c1 : Nat) (l1 : List Int) (R1 : rdS (r0 (.int .u64)) 1 (hp w0) A1 c1 l1) (r : (List Int)) (H : colophonref01_Bits.f a0 l1 = some r) :
    Calls Try.prog 30 #[.int .i64 a0, .slice A1 l1.length c1] w0 (fun e w' => ∃ v, e = .returned v ∧ colophonref01_Bits.post w0 r v w') := by
  have hS : Sat w0 (rf w0) [] := Sat.start w0
  unfold colophonref01_Bits.f at H
  refine calls_of_WC (vs := [.int .i64 a0, .slice A1 l1.length c1]) Try.func30 (c := C30) (n := 31) (by kernel_rfl) (by kernel_rfl) (by kernel_rfl) ?_
  refine WC.seq (by kernel_rfl) ?_
  refine WC.reg [0] (by kernel_rfl) (by kernel_rfl) ?_
  refine WR.runk [0] [] [0, 1] (L' := [(0, .int .i64 a0), (1, .slice A1 l1.length c1)]) (w' := w0) (by kernel_rfl) ?_
  refine WR.nil ?_
  refine At.go ?_
  refine WC.seq (by kernel_rfl) ?_
  refine WC.reg [0] (by kernel_rfl) (by kernel_rfl) ?_
  refine WR.runk [0] [] [0, 1, 5] (L' := [(0, .int .i64 a0), (1, .slice A1 l1.length c1), (5, .slice none 0 0)]) (w' := w0) (by kernel_rfl) ?_
  refine WR.nil ?_
  refine At.go ?_
  refine WC.seq (by kernel_rfl) ?_
  refine WC.seq (by kernel_rfl) ?_
  refine WC.reg [0, 1, 2] (by kernel_rfl) (by kernel_rfl) ?_
  refine WR.runk [0, 1, 2] [] [0, 5, 9, 10, 11] (L' := [(0, .int .i64 a0), (5, .slice none 0 0), (9, .slice A1 l1.length c1), (10, .int .i64 (l1.length : Int)), (11, .int .i64 0)]) (w' := w0) (by kernel_rfl) ?_
  refine WR.nil ?_
  refine At.go ?_
  refine WC.block (by kernel_rfl) ?_
  have hS := hS.addNil (α := Int) 5 (r0 (.int .u8)) 1
  have hS : Sat w0 (rf w0) [osl 5 (r0 (.int .u8)) 1 none 0 ([] : List Int)] := hS.sel [0] (by kernel_rfl)
  obtain ⟨o17, e18, H⟩ := bind_ex H
  refine WC.loop (by kernel_rfl) ?_
  refine WL.weaken [0, 5, 9, 10, 11] (L' := [(0, .int .i64 a0), (5, .slice none 0 0), (9, .slice A1 l1.length c1), (10, .int .i64 (l1.length : Int)), (11, .int .i64 0)]) (by kernel_rfl) ?_
  refine colophonref01_Bits.l1_ok w0 a0 A1 c1 l1 R1 o17 (fun A5_q19 c5_q19 w20 hS => ?_) FU ([] : List Int) 0 none 0 _ hS e18
  refine At.hit ?_
  refine At.go ?_
  refine WC.seq (by kernel_rfl) ?_
  refine WC.reg [0, 1] (by kernel_rfl) (by kernel_rfl) ?_
  refine WR.runk [0, 1] [] [4] (L' := [(4, .slice A5_q19 o17.length c5_q19)]) (w' := w20) (by kernel_rfl) ?_
  refine WR.nil ?_
  refine At.go ?_
  refine WC.ret (by kernel_rfl) ?_
  obtain rfl := Option.some.inj H
  have hS : Sat w20 (rf w0) [osl 5 (r0 (.int .u8)) 1 A5_q19 c5_q19 o17] := hS.sel [0] (by kernel_rfl)
  exact At.body [.slice A5_q19 o17.length c5_q19] (by kernel_rfl) ⟨_, rfl, _, _, rfl, hS⟩
/-! ### 18 colophon/colophonref03.Words -/
def colophonref03_Words.l1 (l1 : List Int) (r2 : Int) : Nat → Int → Int → Option Int
  | 0, _, _ => none
  | k + 1, x8_l1, x9_l1 => (if decide (x9_l1 < r2) then colophonref03_Words.l1 l1 r2 k (wi (2 * x8_l1)) (wi (x9_l1 + 1)) else some x8_l1)
def colophonref03_Words.l2 (l1 : List Int) (o12 : Int) : Nat → (List Int) → (List Int) → Int → Option ((List Int) × (List Int))
  | 0, _, _, _ => none
  | k + 1, x10_l2, x11_l2, x38_l2 => (if decide (x38_l2 < (l1.length : Int)) then ((at? l1 x38_l2).bind fun v24 => ((chk? (decide (o12 ≠ 0))).bind fun _ => ((at? x10_l2 (wi ((wi (Int.tdiv v24 o12)) + x38_l2))).bind fun v27 => ((set? x10_l2 (wi ((wi (Int.tdiv v24 o12)) + x38_l2)) 1).bind fun y29 => ((chk? (decide (o12 ≠ 0))).bind fun _ => ((app? 17592186044416 x11_l2 ([IntKind.wrap .u64 (Int.tmod v24 o12)] : List Int)).bind fun y37 => colophonref03_Words.l2 l1 o12 k y29 y37 (wi (x38_l2 + 1)))))))) else some (x10_l2, x11_l2))
def colophonref03_Words.f (a0 : Int) (l1 : List Int) : Option ((List Int) × (List Int)) := (if ((l1.length : Int) == 0) then some (([] : List Int), ([] : List Int)) else ((colophonref03_Width.f a0 (l1.length : Int)).bind fun r2 => ((colophonref03_Words.l1 l1 r2 FU 1 0).bind fun o12 => ((chk? (decide (o12 ≠ 0))).bind fun _ => ((make? 140737488355328 0 (wi ((wi ((l1.length : Int) + (wi (Int.tdiv (wi (a0 - 1)) o12)))) + 1))).bind fun y18 => ((colophonref03_Words.l2 l1 o12 FU y18 ([] : List Int) 0).bind fun o41 => ((colophonref01_Words.f o41.1).bind fun r46 => ((colophonref01_Bits.f (imax r2 1) o41.2).bind fun r57 => ((colophonref01_Words.f r57).bind fun r68 => some (r46, r68))))))))))
def colophonref03_Words.post (w : World) (r : (List Int) × (List Int)) (v : Value) (w' : World) : Prop := ∃ (A0' : Option Addr) (c0' : Nat), ∃ (A1' : Option Addr) (c1' : Nat), v = .tuple #[.slice A0' r.1.length c0', .slice A1' r.2.length c1'] ∧ Sat w' (rf w) [osl 43 (r0 (.int .u64)) 1 A0' c0' r.1, osl 43 (r0 (.int .u64)) 1 A1' c1' r.2]
theorem colophonref03_Words.l1_ok {Q} (w0 : World) (a0 : Int) (A1 : Option Addr) (c1 : Nat) (l1 : List Int) (r2 : Int) (out : Int) (hn0 : ∀ (w : World), Sat w (rf w0) [] → At Q (.exit 0) 65 [(0, .int .i64 a0), (1, .slice A1 l1.length c1), (6, .int .i64 (l1.length : Int)), (7, .int .i64 r2), (8, .int .i64 out)] w) :
    ∀ (k : Nat) (x8_l1 : Int) (x9_l1 : Int) (w : World), Sat w (rf w0) [] → colophonref03_Words.l1 l1 r2 k x8_l1 x9_l1 = some out → WL Try.prog (cbody (cbody (cr (cl (cr (cr (cr (cr (cr C18))))))))) Q 65 [(0, .int .i64 a0), (1, .slice A1 l1.length c1), (6, .int .i64 (l1.length : Int)), (7, .int .i64 r2), (8, .int .i64 x8_l1), (9, .int .i64 x9_l1)] w := by
  intro k
  induction k with
  | zero => intro x8_l1 x9_l1 w hS H; exact absurd (show none = some out from H) (by simp)
  | succ k ih =>
    intro x8_l1 x9_l1 w hS H
    unfold colophonref03_Words.l1 at H
    refine WL.round ?_
    refine WC.seq (by kernel_rfl) ?_
    refine WC.seq (by kernel_rfl) ?_
    refine WC.reg [0, 1, 2] (by kernel_rfl) (by kernel_rfl) ?_
    refine WR.runk [0, 1, 2] [] [0, 1, 6, 7, 8, 9, 23] (L' := [(0, .int .i64 a0), (1, .slice A1 l1.length c1), (6, .int .i64 (l1.length : Int)), (7, .int .i64 r2), (8, .int .i64 x8_l1), (9, .int .i64 x9_l1), (23, .bool (decide (x9_l1 < r2)))]) (w' := w) (by kernel_rfl) ?_
    refine WR.nil ?_
    refine At.go ?_
    refine WC.cond (by kernel_rfl) (decide (x9_l1 < r2)) (by kernel_rfl) (by kernel_rfl) (fun hb11 => ?_) (fun hb11 => ?_)
    · replace H := ite_t H hb11
      refine WC.skip (by kernel_rfl) ?_
      refine At.go ?_
      refine WC.seq (by kernel_rfl) ?_
      refine WC.block (by kernel_rfl) ?_
      refine WC.reg [0, 1, 2] (by kernel_rfl) (by kernel_rfl) ?_
      refine WR.runk [0, 1, 2] [] [0, 1, 6, 7, 8, 9] (L' := [(0, .int .i64 a0), (1, .slice A1 l1.length c1), (6, .int .i64 (l1.length : Int)), (7, .int .i64 r2), (8, .int .i64 (wi (2 * x8_l1))), (9, .int .i64 x9_l1)]) (w' := w) (by kernel_rfl) ?_
      refine WR.nil ?_
      refine At.blockNormal ?_
      refine At.go ?_
      refine WC.reg [0, 1, 2] (by kernel_rfl) (by kernel_rfl) ?_
      refine WR.runk [0, 1, 2] [] [0, 1, 6, 7, 8, 9] (L' := [(0, .int .i64 a0), (1, .slice A1 l1.length c1), (6, .int .i64 (l1.length : Int)), (7, .int .i64 r2), (8, .int .i64 (wi (2 * x8_l1))), (9, .int .i64 (wi (x9_l1 + 1)))]) (w' := w) (by kernel_rfl) ?_
      refine WR.nil ?_
      have hS : Sat w (rf w0) [] := hS.sel [] (by kernel_rfl)
      refine At.again ?_
      refine WL.weaken [0, 1, 6, 7, 8, 9] (L' := [(0, .int .i64 a0), (1, .slice A1 l1.length c1), (6, .int .i64 (l1.length : Int)), (7, .int .i64 r2), (8, .int .i64 (wi (2 * x8_l1))), (9, .int .i64 (wi (x9_l1 + 1)))]) (by kernel_rfl) ?_
      exact ih (wi (2 * x8_l1)) (wi (x9_l1 + 1)) _ hS H
    · replace H := ite_f H hb11
      refine WC.exit (by kernel_rfl) ?_
      refine At.thenExit ?_
      refine At.thenExit ?_
      obtain rfl := Option.some.inj H
      have hS : Sat w (rf w0) [] := hS.sel [] (by kernel_rfl)
      refine At.weaken [0, 1, 6, 7, 8] (L' := [(0, .int .i64 a0), (1, .slice A1 l1.length c1), (6, .int .i64 (l1.length : Int)), (7, .int .i64 r2), (8, .int .i64 x8_l1)]) (by kernel_rfl) ?_
      exact hn0 _ hS
theorem colophonref03_Words.l2_ok {Q} (w0 : World) (A1 : Option Addr) (c1 : Nat) (l1 : List Int) (r2 : Int) (o12 : Int) (R1 : rdS (r0 (.int .i64)) 1 (hp w0) A1 c1 l1) (out : (List Int) × (List Int)) (hn0 : ∀ (A10_q : Option Addr) (c10_q : Nat) (A11_q : Option Addr) (c11_q : Nat) (w : World), Sat w (rf w0) [osl 5 (r0 (.int .u8)) 1 A10_q c10_q out.1, osl 43 (r0 (.int .u64)) 1 A11_q c11_q out.2] → At Q (.exit 2) 65 [(7, .int .i64 r2), (10, .slice A10_q out.1.length c10_q), (11, .slice A11_q out.2.length c11_q)] w) :
    ∀ (k : Nat) (x10_l2 : List Int) (x11_l2 : List Int) (x38_l2 : Int) (A10_l2 : Option Addr) (c10_l2 : Nat) (A11_l2 : Option Addr) (c11_l2 : Nat) (w : World), Sat w (rf w0) [osl 5 (r0 (.int .u8)) 1 A10_l2 c10_l2 x10_l2, osl 43 (r0 (.int .u64)) 1 A11_l2 c11_l2 x11_l2] → colophonref03_Words.l2 l1 o12 k x10_l2 x11_l2 x38_l2 = some out → WL Try.prog (cbody (cbody (cr (cl (cr (cr (cr (cr (cr (cr (cr (cr C18)))))))))))) Q 65 [(7, .int .i64 r2), (8, .int .i64 o12), (10, .slice A10_l2 x10_l2.length c10_l2), (11, .slice A11_l2 x11_l2.length c11_l2), (36, .slice A1 l1.length c1), (37, .int .i64 (l1.length : Int)), (38, .int .i64 x38_l2)] w := by
  intro k
  induction k with
  | zero => intro x10_l2 x11_l2 x38_l2 A10_l2 c10_l2 A11_l2 c11_l2 w hS H; exact absurd (show none = some out from H) (by simp)
  | succ k ih =>
    intro x10_l2 x11_l2 x38_l2 A10_l2 c10_l2 A11_l2 c11_l2 w hS H
    unfold colophonref03_Words.l2 at H
    refine WL.round ?_
    refine WC.seq (by kernel_rfl) ?_
    refine WC.reg [0] (by kernel_rfl) (by kernel_rfl) ?_
    refine WR.runk [0] [] [7, 8, 10, 11, 36, 37, 38, 39] (L' := [(7, .int .i64 r2), (8, .int .i64 o12), (10, .slice A10_l2 x10_l2.length c10_l2), (11, .slice A11_l2 x11_l2.length c11_l2), (36, .slice A1 l1.length c1), (37, .int .i64 (l1.length : Int)), (38, .int .i64 x38_l2), (39, .bool (decide (x38_l2 < (l1.length : Int))))]) (w' := w) (by kernel_rfl) ?_
    refine WR.nil ?_
    refine At.go ?_
    refine WC.seq (by kernel_rfl) ?_
    refine WC.cond (by kernel_rfl) (decide (x38_l2 < (l1.length : Int))) (by kernel_rfl) (by kernel_rfl) (fun hb23 => ?_) (fun hb23 => ?_)
    · replace H := ite_t H hb23
      refine WC.skip (by kernel_rfl) ?_
      refine At.go ?_
      refine WC.seq (by kernel_rfl) ?_
      refine WC.block (by kernel_rfl) ?_
      refine WC.seq (by kernel_rfl) ?_
      refine WC.reg [0, 1, 2, 3, 4] (by kernel_rfl) (by kernel_rfl) ?_
      refine WR.runk [0] [1, 2, 3, 4] [7, 8, 10, 11, 36, 37, 38, 40] (L' := [(7, .int .i64 r2), (8, .int .i64 o12), (10, .slice A10_l2 x10_l2.length c10_l2), (11, .slice A11_l2 x11_l2.length c11_l2), (36, .slice A1 l1.length c1), (37, .int .i64 (l1.length : Int)), (38, .int .i64 x38_l2), (40, .int .i64 x38_l2)]) (w' := w) (by kernel_rfl) ?_
      obtain ⟨v24, e25, H⟩ := bind_ex H
      refine WR.st (St.ofP (PSt.idx (k := .i64) (.tmp 36) (.tmp 38) (by kernel_rfl) (by kernel_rfl) E22 (by kernel_rfl) (by kernel_rfl) (rdS.up R1 hS.sub0) e25 ?_))
      refine WR.runk [] [2, 3, 4] [7, 8, 10, 11, 36, 37, 38, 40, 41] (L' := [(7, .int .i64 r2), (8, .int .i64 o12), (10, .slice A10_l2 x10_l2.length c10_l2), (11, .slice A11_l2 x11_l2.length c11_l2), (36, .slice A1 l1.length c1), (37, .int .i64 (l1.length : Int)), (38, .int .i64 x38_l2), (40, .int .i64 x38_l2), (41, .pointer (some (adr A1 x38_l2.toNat 1)))]) (w' := w) (by kernel_rfl) ?_
      refine WR.st (St.ofR (RSt.loadInt (t := 3) (.tmp 41) (by kernel_rfl) (by kernel_rfl) (by kernel_rfl) (by kernel_rfl) (rdS.up R1 hS.sub0) e25 ?_))
      refine WR.runk [3, 4] [] [7, 8, 10, 11, 12, 13, 36, 37, 38] (L' := [(7, .int .i64 r2), (8, .int .i64 o12), (10, .slice A10_l2 x10_l2.length c10_l2), (11, .slice A11_l2 x11_l2.length c11_l2), (12, .int .i64 x38_l2), (13, .int .i64 v24), (36, .slice A1 l1.length c1), (37, .int .i64 (l1.length : Int)), (38, .int .i64 x38_l2)]) (w' := w) (by kernel_rfl) ?_
      refine WR.nil ?_
      refine At.go ?_
      refine WC.seq (by kernel_rfl) ?_
      refine WC.reg [0, 1, 2, 3, 4, 5, 6, 7] (by kernel_rfl) (by kernel_rfl) ?_
      refine WR.runk [0, 1, 2] [3, 4, 5, 6, 7] [7, 8, 10, 11, 12, 13, 36, 37, 38, 43, 44, 45] (L' := [(7, .int .i64 r2), (8, .int .i64 o12), (10, .slice A10_l2 x10_l2.length c10_l2), (11, .slice A11_l2 x11_l2.length c11_l2), (12, .int .i64 x38_l2), (13, .int .i64 v24), (36, .slice A1 l1.length c1), (37, .int .i64 (l1.length : Int)), (38, .int .i64 x38_l2), (43, .slice A10_l2 x10_l2.length c10_l2), (44, .int .i64 v24), (45, .int .i64 o12)]) (w' := w) (by kernel_rfl) ?_
      obtain ⟨_, e26, H⟩ := bind_ex H
      refine WR.st (St.ofP (PSt.div (k := .i64) (t := 3) (t2 := 3) (a := v24) (b := o12) .quo (by decide) (.tmp 44) (.tmp 45) (by kernel_rfl) (by kernel_rfl) (by kernel_rfl) (by kernel_rfl) (of_decide_eq_true (chk?_some e26)) ?_))
      refine WR.runk [4, 5] [6, 7] [7, 8, 10, 11, 13, 36, 37, 38, 43, 48] (L' := [(7, .int .i64 r2), (8, .int .i64 o12), (10, .slice A10_l2 x10_l2.length c10_l2), (11, .slice A11_l2 x11_l2.length c11_l2), (13, .int .i64 v24), (36, .slice A1 l1.length c1), (37, .int .i64 (l1.length : Int)), (38, .int .i64 x38_l2), (43, .slice A10_l2 x10_l2.length c10_l2), (48, .int .i64 (wi ((wi (Int.tdiv v24 o12)) + x38_l2)))]) (w' := w) (by kernel_rfl) ?_
      obtain ⟨v27, e28, H⟩ := bind_ex H
      refine WR.st (St.ofP (PSt.idx (k := .i64) (.tmp 43) (.tmp 48) (by kernel_rfl) (by kernel_rfl) E60 (by kernel_rfl) (by kernel_rfl) (Sat.rdAt 0 hS rfl) e28 ?_))
      refine WR.runk [] [7] [7, 8, 10, 11, 13, 36, 37, 38, 49] (L' := [(7, .int .i64 r2), (8, .int .i64 o12), (10, .slice A10_l2 x10_l2.length c10_l2), (11, .slice A11_l2 x11_l2.length c11_l2), (13, .int .i64 v24), (36, .slice A1 l1.length c1), (37, .int .i64 (l1.length : Int)), (38, .int .i64 x38_l2), (49, .pointer (some (adr A10_l2 (wi ((wi (Int.tdiv v24 o12)) + x38_l2)).toNat 1)))]) (w' := w) (by kernel_rfl) ?_
      obtain ⟨y29, e30, H⟩ := bind_ex H
      refine WR.st (St.storeElem' (t := 5) (.tmp 49) (.const (.int .u8 1)) (by kernel_rfl) (by kernel_rfl) (by kernel_rfl) hS (by kernel_rfl) (by kernel_rfl) rfl e30 rfl (fun w31 hS => ?_))
      have hl32 := set?_len e30
      refine WR.know 10 (.slice A10_l2 y29.length c10_l2) (.slice A10_l2 x10_l2.length c10_l2) (by kernel_rfl) (by rw [hl32]) ?_
      refine WR.runk [] [] [7, 8, 10, 11, 13, 36, 37, 38] (L' := [(7, .int .i64 r2), (8, .int .i64 o12), (10, .slice A10_l2 y29.length c10_l2), (11, .slice A11_l2 x11_l2.length c11_l2), (13, .int .i64 v24), (36, .slice A1 l1.length c1), (37, .int .i64 (l1.length : Int)), (38, .int .i64 x38_l2)]) (w' := w31) (by kernel_rfl) ?_
      refine WR.nil ?_
      refine At.go ?_
      refine WC.reg [0, 1, 2, 3, 4, 5, 6, 7] (by kernel_rfl) (by kernel_rfl) ?_
      refine WR.runk [0, 1, 2] [3, 4, 5, 6, 7] [7, 8, 10, 11, 36, 37, 38, 50, 51, 52] (L' := [(7, .int .i64 r2), (8, .int .i64 o12), (10, .slice A10_l2 y29.length c10_l2), (11, .slice A11_l2 x11_l2.length c11_l2), (36, .slice A1 l1.length c1), (37, .int .i64 (l1.length : Int)), (38, .int .i64 x38_l2), (50, .slice A11_l2 x11_l2.length c11_l2), (51, .int .i64 v24), (52, .int .i64 o12)]) (w' := w31) (by kernel_rfl) ?_
      obtain ⟨_, e33, H⟩ := bind_ex H
      refine WR.st (St.ofP (PSt.div (k := .i64) (t := 3) (t2 := 3) (a := v24) (b := o12) .rem (by decide) (.tmp 51) (.tmp 52) (by kernel_rfl) (by kernel_rfl) (by kernel_rfl) (by kernel_rfl) (of_decide_eq_true (chk?_some e33)) ?_))
      refine WR.runk [4] [5, 6, 7] [7, 8, 10, 11, 36, 37, 38, 50, 54] (L' := [(7, .int .i64 r2), (8, .int .i64 o12), (10, .slice A10_l2 y29.length c10_l2), (11, .slice A11_l2 x11_l2.length c11_l2), (36, .slice A1 l1.length c1), (37, .int .i64 (l1.length : Int)), (38, .int .i64 x38_l2), (50, .slice A11_l2 x11_l2.length c11_l2), (54, .int .u64 (IntKind.wrap .u64 (Int.tmod v24 o12)))]) (w' := w31) (by kernel_rfl) ?_
      refine WR.st (St.box hS (by kernel_rfl) (.cells #[.int .u64 (IntKind.wrap .u64 (Int.tmod v24 o12))] 43) (fun b34 => .slice (some ⟨b34, 0, none⟩) 1 1) (fun _ => by kernel_rfl) (fun b34 w35 hS => ?_))
      refine WR.runk [] [6, 7] [7, 8, 10, 11, 36, 37, 38, 50, 55] (L' := [(7, .int .i64 r2), (8, .int .i64 o12), (10, .slice A10_l2 y29.length c10_l2), (11, .slice A11_l2 x11_l2.length c11_l2), (36, .slice A1 l1.length c1), (37, .int .i64 (l1.length : Int)), (38, .int .i64 x38_l2), (50, .slice A11_l2 x11_l2.length c11_l2), (55, .slice (some ⟨b34, 0, none⟩) 1 1)]) (w' := w35) (by kernel_rfl) ?_
      have hS : Sat w35 (rf w0) [osl 43 (r0 (.int .u64)) 1 A11_l2 c11_l2 x11_l2, pts b34 (.cells #[.int .u64 (IntKind.wrap .u64 (Int.tmod v24 o12))] 43 (0, 0)), osl 5 (r0 (.int .u8)) 1 A10_l2 c10_l2 y29] := hS.sel [2, 0, 1] (by kernel_rfl)
      obtain ⟨y37, e36, H⟩ := bind_ex H
      refine WR.st (St.append' (.tmp 50) (.tmp 55) (by kernel_rfl) (by kernel_rfl) E35 (r0_one _) hS (by kernel_rfl) (by kernel_rfl) (Sat.ptsAt 1 (r0 (.int .u64)) 1 ([IntKind.wrap .u64 (Int.tmod v24 o12)] : List Int) hS rfl rfl (rdL.cons1 rfl (rdL.nil _ _))) 17592186044416 (by kernel_rfl) (by kernel_rfl) e36 (fun A38 c39 w40 hS => ?_))
      refine WR.runk [7] [] [7, 8, 10, 11, 36, 37, 38] (L' := [(7, .int .i64 r2), (8, .int .i64 o12), (10, .slice A10_l2 y29.length c10_l2), (11, .slice A38 y37.length c39), (36, .slice A1 l1.length c1), (37, .int .i64 (l1.length : Int)), (38, .int .i64 x38_l2)]) (w' := w40) (by kernel_rfl) ?_
      refine WR.nil ?_
      refine At.blockNormal ?_
      refine At.go ?_
      refine WC.reg [0, 1] (by kernel_rfl) (by kernel_rfl) ?_
      refine WR.runk [0, 1] [] [7, 8, 10, 11, 36, 37, 38] (L' := [(7, .int .i64 r2), (8, .int .i64 o12), (10, .slice A10_l2 y29.length c10_l2), (11, .slice A38 y37.length c39), (36, .slice A1 l1.length c1), (37, .int .i64 (l1.length : Int)), (38, .int .i64 (wi (x38_l2 + 1)))]) (w' := w40) (by kernel_rfl) ?_
      refine WR.nil ?_
      have hS : Sat w40 (rf w0) [osl 5 (r0 (.int .u8)) 1 A10_l2 c10_l2 y29, osl 43 (r0 (.int .u64)) 1 A38 c39 y37] := hS.sel [2, 0] (by kernel_rfl)
      refine At.again ?_
      refine WL.weaken [7, 8, 10, 11, 36, 37, 38] (L' := [(7, .int .i64 r2), (8, .int .i64 o12), (10, .slice A10_l2 y29.length c10_l2), (11, .slice A38 y37.length c39), (36, .slice A1 l1.length c1), (37, .int .i64 (l1.length : Int)), (38, .int .i64 (wi (x38_l2 + 1)))]) (by kernel_rfl) ?_
      exact ih y29 y37 (wi (x38_l2 + 1)) A10_l2 c10_l2 A38 c39 _ hS H
    · replace H := ite_f H hb23
      refine WC.exit (by kernel_rfl) ?_
      refine At.thenExit ?_
      refine At.thenExit ?_
      obtain rfl := Option.some.inj H
      have hS : Sat w (rf w0) [osl 5 (r0 (.int .u8)) 1 A10_l2 c10_l2 x10_l2, osl 43 (r0 (.int .u64)) 1 A11_l2 c11_l2 x11_l2] := hS.sel [0, 1] (by kernel_rfl)
      refine At.weaken [7, 10, 11] (L' := [(7, .int .i64 r2), (10, .slice A10_l2 x10_l2.length c10_l2), (11, .slice A11_l2 x11_l2.length c11_l2)]) (by kernel_rfl) ?_
      exact hn0 A10_l2 c10_l2 A11_l2 c11_l2 _ hS
theorem colophonref03_Words.calls (w0 : World) (a0 : Int) (A1 : Option Addr) (c1 : Nat) (l1 : List Int) (R1 : rdS (r0 (.int .i64)) 1 (hp w0) A1 c1 l1) (r : (List Int) × (List Int)) (H : colophonref03_Words.f a0 l1 = some r) :
    Calls Try.prog 18 #[.int .i64 a0, .slice A1 l1.length c1] w0 (fun e w' => ∃ v, e = .returned v ∧ colophonref03_Words.post w0 r v w') := by
  have hS : Sat w0 (rf w0) [] := Sat.start w0
  unfold colophonref03_Words.f at H
  refine calls_of_WC (vs := [.int .i64 a0, .slice A1 l1.length c1]) Try.func18 (c := C18) (n := 65) (by kernel_rfl) (by kernel_rfl) (by kernel_rfl) ?_
  refine WC.seq (by kernel_rfl) ?_
  refine WC.reg [0, 1] (by kernel_rfl) (by kernel_rfl) ?_
  refine WR.runk [0, 1] [] [0, 1] (L' := [(0, .int .i64 a0), (1, .slice A1 l1.length c1)]) (w' := w0) (by kernel_rfl) ?_
  refine WR.nil ?_
  refine At.go ?_
  refine WC.seq (by kernel_rfl) ?_
  refine WC.reg [0, 1, 2] (by kernel_rfl) (by kernel_rfl) ?_
  refine WR.runk [0, 1, 2] [] [0, 1, 6] (L' := [(0, .int .i64 a0), (1, .slice A1 l1.length c1), (6, .int .i64 (l1.length : Int))]) (w' := w0) (by kernel_rfl) ?_
  refine WR.nil ?_
  refine At.go ?_
  refine WC.seq (by kernel_rfl) ?_
  refine WC.seq (by kernel_rfl) ?_
  refine WC.reg [0, 1] (by kernel_rfl) (by kernel_rfl) ?_
  refine WR.runk [0, 1] [] [0, 1, 6, 17] (L' := [(0, .int .i64 a0), (1, .slice A1 l1.length c1), (6, .int .i64 (l1.length : Int)), (17, .bool ((l1.length : Int) == 0))]) (w' := w0) (by kernel_rfl) ?_
  refine WR.nil ?_
  refine At.go ?_
  refine WC.cond (by kernel_rfl) ((l1.length : Int) == 0) (by kernel_rfl) (by kernel_rfl) (fun hb1 => ?_) (fun hb1 => ?_)
  · replace H := ite_t H hb1
    refine WC.seq (by kernel_rfl) ?_
    refine WC.reg [0, 1] (by kernel_rfl) (by kernel_rfl) ?_
    refine WR.runk [0, 1] [] [4, 5] (L' := [(4, .slice none 0 0), (5, .slice none 0 0)]) (w' := w0) (by kernel_rfl) ?_
    refine WR.nil ?_
    refine At.go ?_
    refine WC.ret (by kernel_rfl) ?_
    refine At.thenRet ?_
    obtain rfl := Option.some.inj H
    have hS := hS.addNil (α := Int) 43 (r0 (.int .u64)) 1
    have hS := hS.addNil (α := Int) 43 (r0 (.int .u64)) 1
    have hS : Sat w0 (rf w0) [osl 43 (r0 (.int .u64)) 1 none 0 ([] : List Int), osl 43 (r0 (.int .u64)) 1 none 0 ([] : List Int)] := hS.sel [1, 0] (by kernel_rfl)
    exact At.body [.slice none 0 0, .slice none 0 0] (by kernel_rfl) ⟨_, rfl, _, _, _, _, rfl, hS⟩
  · replace H := ite_f H hb1
    refine WC.skip (by kernel_rfl) ?_
    refine At.go ?_
    refine WC.seq (by kernel_rfl) ?_
    refine WC.reg [0, 1, 2, 3] (by kernel_rfl) (by kernel_rfl) ?_
    refine WR.runk [0, 1] [2, 3] [0, 1, 6, 18, 19] (L' := [(0, .int .i64 a0), (1, .slice A1 l1.length c1), (6, .int .i64 (l1.length : Int)), (18, .int .i64 a0), (19, .int .i64 (l1.length : Int))]) (w' := w0) (by kernel_rfl) ?_
    obtain ⟨r2, e3, H⟩ := bind_ex H
    refine WR.st (St.call (by kernel_rfl) (f := 28) (args := #[.int .i64 a0, .int .i64 (l1.length : Int)]) (by kernel_rfl) (colophonref03_Width.calls w0 a0 (l1.length : Int) r2 e3) ?_)
    rintro _ w9 ⟨rfl, hS10⟩
    have hS : Sat w9 (rf w0) [] := hS.ext hS10
    refine WR.runk [3] [] [0, 1, 6, 7] (L' := [(0, .int .i64 a0), (1, .slice A1 l1.length c1), (6, .int .i64 (l1.length : Int)), (7, .int .i64 r2)]) (w' := w9) (by kernel_rfl) ?_
    refine WR.nil ?_
    refine At.go ?_
    refine WC.seq (by kernel_rfl) ?_
    refine WC.reg [0] (by kernel_rfl) (by kernel_rfl) ?_
    refine WR.runk [0] [] [0, 1, 6, 7, 8] (L' := [(0, .int .i64 a0), (1, .slice A1 l1.length c1), (6, .int .i64 (l1.length : Int)), (7, .int .i64 r2), (8, .int .i64 1)]) (w' := w9) (by kernel_rfl) ?_
    refine WR.nil ?_
    refine At.go ?_
    refine WC.seq (by kernel_rfl) ?_
    refine WC.seq (by kernel_rfl) ?_
    refine WC.reg [0] (by kernel_rfl) (by kernel_rfl) ?_
    refine WR.runk [0] [] [0, 1, 6, 7, 8, 9] (L' := [(0, .int .i64 a0), (1, .slice A1 l1.length c1), (6, .int .i64 (l1.length : Int)), (7, .int .i64 r2), (8, .int .i64 1), (9, .int .i64 0)]) (w' := w9) (by kernel_rfl) ?_
    refine WR.nil ?_
    refine At.go ?_
    refine WC.block (by kernel_rfl) ?_
    have hS : Sat w9 (rf w0) [] := hS.sel [] (by kernel_rfl)
    obtain ⟨o12, e13, H⟩ := bind_ex H
    refine WC.loop (by kernel_rfl) ?_
    refine WL.weaken [0, 1, 6, 7, 8, 9] (L' := [(0, .int .i64 a0), (1, .slice A1 l1.length c1), (6, .int .i64 (l1.length : Int)), (7, .int .i64 r2), (8, .int .i64 1), (9, .int .i64 0)]) (by kernel_rfl) ?_
    refine colophonref03_Words.l1_ok w0 a0 A1 c1 l1 r2 o12 (fun w15 hS => ?_) FU 1 0 _ hS e13
    refine At.hit ?_
    refine At.go ?_
    refine WC.seq (by kernel_rfl) ?_
    refine WC.reg [0, 1, 2, 3, 4, 5, 6, 7, 8] (by kernel_rfl) (by kernel_rfl) ?_
    refine WR.runk [0, 1, 2, 3] [4, 5, 6, 7, 8] [1, 7, 8, 28, 30, 31] (L' := [(1, .slice A1 l1.length c1), (7, .int .i64 r2), (8, .int .i64 o12), (28, .int .i64 (l1.length : Int)), (30, .int .i64 (wi (a0 - 1))), (31, .int .i64 o12)]) (w' := w15) (by kernel_rfl) ?_
    obtain ⟨_, e17, H⟩ := bind_ex H
    refine WR.st (St.ofP (PSt.div (k := .i64) (t := 3) (t2 := 3) (a := (wi (a0 - 1))) (b := o12) .quo (by decide) (.tmp 30) (.tmp 31) (by kernel_rfl) (by kernel_rfl) (by kernel_rfl) (by kernel_rfl) (of_decide_eq_true (chk?_some e17)) ?_))
    refine WR.runk [5, 6] [7, 8] [1, 7, 8, 34] (L' := [(1, .slice A1 l1.length c1), (7, .int .i64 r2), (8, .int .i64 o12), (34, .int .i64 (wi ((wi ((l1.length : Int) + (wi (Int.tdiv (wi (a0 - 1)) o12)))) + 1)))]) (w' := w15) (by kernel_rfl) ?_
    obtain ⟨y18, e19, H⟩ := bind_ex H
    refine WR.st (St.make' (t := 60) (e := 5) (sz := 1) (bytes := 1) (k1 := .i64) (k2 := .i64) (R := (r0 (.int .u8))) (.tmp 34) (.tmp 34) (by kernel_rfl) (by kernel_rfl) (.int .u8 0) (by kernel_rfl) (by kernel_rfl) rfl (by kernel_rfl) hS (by kernel_rfl) (by kernel_rfl) 140737488355328 (by kernel_rfl) (by kernel_rfl) e19 (fun A20 c21 w22 hS => ?_))
    refine WR.runk [8] [] [1, 7, 8, 10] (L' := [(1, .slice A1 l1.length c1), (7, .int .i64 r2), (8, .int .i64 o12), (10, .slice A20 y18.length c21)]) (w' := w22) (by kernel_rfl) ?_
    refine WR.nil ?_
    refine At.go ?_
    refine WC.seq (by kernel_rfl) ?_
    refine WC.reg [0] (by kernel_rfl) (by kernel_rfl) ?_
    refine WR.runk [0] [] [1, 7, 8, 10, 11] (L' := [(1, .slice A1 l1.length c1), (7, .int .i64 r2), (8, .int .i64 o12), (10, .slice A20 y18.length c21), (11, .slice none 0 0)]) (w' := w22) (by kernel_rfl) ?_
    refine WR.nil ?_
    refine At.go ?_
    refine WC.seq (by kernel_rfl) ?_
    refine WC.seq (by kernel_rfl) ?_
    refine WC.reg [0, 1, 2] (by kernel_rfl) (by kernel_rfl) ?_
    refine WR.runk [0, 1, 2] [] [7, 8, 10, 11, 36, 37, 38] (L' := [(7, .int .i64 r2), (8, .int .i64 o12), (10, .slice A20 y18.length c21), (11, .slice none 0 0), (36, .slice A1 l1.length c1), (37, .int .i64 (l1.length : Int)), (38, .int .i64 0)]) (w' := w22) (by kernel_rfl) ?_
    refine WR.nil ?_
    refine At.go ?_
    refine WC.block (by kernel_rfl) ?_
    have hS := hS.addNil (α := Int) 43 (r0 (.int .u64)) 1
    have hS : Sat w22 (rf w0) [osl 5 (r0 (.int .u8)) 1 A20 c21 y18, osl 43 (r0 (.int .u64)) 1 none 0 ([] : List Int)] := hS.sel [1, 0] (by kernel_rfl)
    obtain ⟨o41, e42, H⟩ := bind_ex H
    refine WC.loop (by kernel_rfl) ?_
    refine WL.weaken [7, 8, 10, 11, 36, 37, 38] (L' := [(7, .int .i64 r2), (8, .int .i64 o12), (10, .slice A20 y18.length c21), (11, .slice none 0 0), (36, .slice A1 l1.length c1), (37, .int .i64 (l1.length : Int)), (38, .int .i64 0)]) (by kernel_rfl) ?_
    refine colophonref03_Words.l2_ok w0 A1 c1 l1 r2 o12 R1 o41 (fun A10_q43 c10_q43 A11_q43 c11_q43 w44 hS => ?_) FU y18 ([] : List Int) 0 A20 c21 none 0 _ hS e42
    refine At.hit ?_
    refine At.go ?_
    refine WC.seq (by kernel_rfl) ?_
    refine WC.reg [0, 1, 2, 3, 4, 5, 6, 7, 8] (by kernel_rfl) (by kernel_rfl) ?_
    refine WR.runk [0] [1, 2, 3, 4, 5, 6, 7, 8] [7, 11, 58] (L' := [(7, .int .i64 r2), (11, .slice A11_q43 o41.2.length c11_q43), (58, .slice A10_q43 o41.1.length c10_q43)]) (w' := w44) (by kernel_rfl) ?_
    obtain ⟨r46, e47, H⟩ := bind_ex H
    refine WR.st (St.call (by kernel_rfl) (f := 29) (args := #[.slice A10_q43 o41.1.length c10_q43]) (by kernel_rfl) (colophonref01_Words.calls w44 A10_q43 c10_q43 o41.1 (Sat.rdAt 0 hS rfl) r46 e47) ?_)
    rintro _ w53 ⟨A55, c56, rfl, hS54⟩
    have hS : Sat w53 (rf w0) [osl 43 (r0 (.int .u64)) 1 A55 c56 r46, osl 5 (r0 (.int .u8)) 1 A10_q43 c10_q43 o41.1, osl 43 (r0 (.int .u64)) 1 A11_q43 c11_q43 o41.2] := hS.ext hS54
    refine WR.runk [2, 3, 4] [5, 6, 7, 8] [59, 61, 62] (L' := [(59, .slice A55 r46.length c56), (61, .int .i64 (imax r2 1)), (62, .slice A11_q43 o41.2.length c11_q43)]) (w' := w53) (by kernel_rfl) ?_
    obtain ⟨r57, e58, H⟩ := bind_ex H
    refine WR.st (St.call (by kernel_rfl) (f := 30) (args := #[.int .i64 (imax r2 1), .slice A11_q43 o41.2.length c11_q43]) (by kernel_rfl) (colophonref01_Bits.calls w53 (imax r2 1) A11_q43 c11_q43 o41.2 (Sat.rdAt 2 hS rfl) r57 e58) ?_)
    rintro _ w64 ⟨A66, c67, rfl, hS65⟩
    have hS : Sat w64 (rf w0) [osl 5 (r0 (.int .u8)) 1 A66 c67 r57, osl 43 (r0 (.int .u64)) 1 A55 c56 r46, osl 5 (r0 (.int .u8)) 1 A10_q43 c10_q43 o41.1, osl 43 (r0 (.int .u64)) 1 A11_q43 c11_q43 o41.2] := hS.ext hS65
    refine WR.runk [] [6, 7, 8] [59, 63] (L' := [(59, .slice A55 r46.length c56), (63, .slice A66 r57.length c67)]) (w' := w64) (by kernel_rfl) ?_
    obtain ⟨r68, e69, H⟩ := bind_ex H
    refine WR.st (St.call (by kernel_rfl) (f := 29) (args := #[.slice A66 r57.length c67]) (by kernel_rfl) (colophonref01_Words.calls w64 A66 c67 r57 (Sat.rdAt 0 hS rfl) r68 e69) ?_)
    rintro _ w75 ⟨A77, c78, rfl, hS76⟩
    have hS : Sat w75 (rf w0) [osl 43 (r0 (.int .u64)) 1 A77 c78 r68, osl 5 (r0 (.int .u8)) 1 A66 c67 r57, osl 43 (r0 (.int .u64)) 1 A55 c56 r46, osl 5 (r0 (.int .u8)) 1 A10_q43 c10_q43 o41.1, osl 43 (r0 (.int .u64)) 1 A11_q43 c11_q43 o41.2] := hS.ext hS76
    refine WR.runk [7, 8] [] [4, 5] (L' := [(4, .slice A55 r46.length c56), (5, .slice A77 r68.length c78)]) (w' := w75) (by kernel_rfl) ?_
    refine WR.nil ?_
    refine At.go ?_
    refine WC.ret (by kernel_rfl) ?_
    obtain rfl := Option.some.inj H
    have hS : Sat w75 (rf w0) [osl 43 (r0 (.int .u64)) 1 A55 c56 r46, osl 43 (r0 (.int .u64)) 1 A77 c78 r68] := hS.sel [2, 0] (by kernel_rfl)
    exact At.body [.slice A55 r46.length c56, .slice A77 r68.length c78] (by kernel_rfl) ⟨_, rfl, _, _, _, _, rfl, hS⟩
/-! ### 19 colophon/colophonref01.Same -/
def colophonref01_Same.l1 (l0 : List Int) (l1 : List Int) : Nat → Int → Option (Sum Bool Unit)
  | 0, _ => none
  | k + 1, x13_l1 => (if decide (x13_l1 < (l0.length : Int)) then ((at? l0 x13_l1).bind fun v5 => ((at? l1 x13_l1).bind fun v7 => (if (v5 != v7) then some (.inl false) else colophonref01_Same.l1 l0 l1 k (wi (x13_l1 + 1))))) else some (.inr ()))
def colophonref01_Same.f (l0 : List Int) (l1 : List Int) : Option Bool := (if ((l0.length : Int) != (l1.length : Int)) then some false else ((colophonref01_Same.l1 l0 l1 FU 0).bind fun o10 => (match o10 with | .inl o12 => some o12 | .inr o16 => some true)))
def colophonref01_Same.post (w : World) (r : Bool) (v : Value) (w' : World) : Prop := v = (.bool r : Value) ∧ Sat w' (rf w) []
theorem colophonref01_Same.l1_ok {Q} (w0 : World) (A0 : Option Addr) (c0 : Nat) (l0 : List Int) (A1 : Option Addr) (c1 : Nat) (l1 : List Int) (R0 : rdS (r0 (.int .u64)) 1 (hp w0) A0 c0 l0) (R1 : rdS (r0 (.int .u64)) 1 (hp w0) A1 c1 l1) (out : Sum Bool Unit) (hn0 : ∀ (o0 : Bool) (w : World), out = (.inl o0) → Sat w (rf w0) [] → At Q .ret 26 [(4, .bool o0)] w) (hn1 : ∀ (o1 : Unit) (w : World), out = (.inr o1) → Sat w (rf w0) [] → At Q (.exit 0) 26 [] w) :
    ∀ (k : Nat) (x13_l1 : Int) (w : World), Sat w (rf w0) [] → colophonref01_Same.l1 l0 l1 k x13_l1 = some out → WL Try.prog (cbody (cbody (cr (cl (cr (cr C19)))))) Q 26 [(0, .slice A0 l0.length c0), (1, .slice A1 l1.length c1), (12, .int .i64 (l0.length : Int)), (13, .int .i64 x13_l1)] w := by
  intro k
  induction k with
  | zero => intro x13_l1 w hS H; exact absurd (show none = some out from H) (by simp)
  | succ k ih =>
    intro x13_l1 w hS H
    unfold colophonref01_Same.l1 at H
    refine WL.round ?_
    refine WC.seq (by kernel_rfl) ?_
    refine WC.reg [0] (by kernel_rfl) (by kernel_rfl) ?_
    refine WR.runk [0] [] [0, 1, 12, 13, 14] (L' := [(0, .slice A0 l0.length c0), (1, .slice A1 l1.length c1), (12, .int .i64 (l0.length : Int)), (13, .int .i64 x13_l1), (14, .bool (decide (x13_l1 < (l0.length : Int))))]) (w' := w) (by kernel_rfl) ?_
    refine WR.nil ?_
    refine At.go ?_
    refine WC.seq (by kernel_rfl) ?_
    refine WC.cond (by kernel_rfl) (decide (x13_l1 < (l0.length : Int))) (by kernel_rfl) (by kernel_rfl) (fun hb2 => ?_) (fun hb2 => ?_)
    · replace H := ite_t H hb2
      refine WC.skip (by kernel_rfl) ?_
      refine At.go ?_
      refine WC.seq (by kernel_rfl) ?_
      refine WC.block (by kernel_rfl) ?_
      refine WC.seq (by kernel_rfl) ?_
      refine WC.reg [0, 1] (by kernel_rfl) (by kernel_rfl) ?_
      refine WR.runk [0, 1] [] [0, 1, 5, 12, 13] (L' := [(0, .slice A0 l0.length c0), (1, .slice A1 l1.length c1), (5, .int .i64 x13_l1), (12, .int .i64 (l0.length : Int)), (13, .int .i64 x13_l1)]) (w' := w) (by kernel_rfl) ?_
      refine WR.nil ?_
      refine At.go ?_
      refine WC.seq (by kernel_rfl) ?_
      refine WC.drawn (by kernel_rfl) (by kernel_rfl) 9 (by kernel_rfl) (fun w3 hw4 => ?_)
      have hS := hS.heap hw4.1 hw4.2
      refine WD.weaken [0, 1, 5, 12, 13] (L' := [(0, .slice A0 l0.length c0), (1, .slice A1 l1.length c1), (5, .int .i64 x13_l1), (12, .int .i64 (l0.length : Int)), (13, .int .i64 x13_l1)]) (by kernel_rfl) ?_
      refine WD.pure (i := 0) (v := .slice A0 l0.length c0) (by kernel_rfl) (by kernel_rfl) (fun _ => by kernel_rfl) ?_
      refine WD.weaken [0, 1, 5, 12, 13, 16] (L' := [(0, .slice A0 l0.length c0), (1, .slice A1 l1.length c1), (5, .int .i64 x13_l1), (12, .int .i64 (l0.length : Int)), (13, .int .i64 x13_l1), (16, .slice A0 l0.length c0)]) (by kernel_rfl) ?_
      refine WD.pure (i := 1) (v := .int .i64 x13_l1) (by kernel_rfl) (by kernel_rfl) (fun _ => by kernel_rfl) ?_
      refine WD.weaken [0, 1, 5, 12, 13, 16, 17] (L' := [(0, .slice A0 l0.length c0), (1, .slice A1 l1.length c1), (5, .int .i64 x13_l1), (12, .int .i64 (l0.length : Int)), (13, .int .i64 x13_l1), (16, .slice A0 l0.length c0), (17, .int .i64 x13_l1)]) (by kernel_rfl) ?_
      obtain ⟨v5, e6, H⟩ := bind_ex H
      refine WD.ofP (i := 2) (by kernel_rfl) (PSt.idx (k := .i64) (.tmp 16) (.tmp 17) (by kernel_rfl) (by kernel_rfl) E35 (by kernel_rfl) (by kernel_rfl) (rdS.up R0 hS.sub0) e6 ?_)
      refine WD.weaken [0, 1, 5, 12, 13, 18] (L' := [(0, .slice A0 l0.length c0), (1, .slice A1 l1.length c1), (5, .int .i64 x13_l1), (12, .int .i64 (l0.length : Int)), (13, .int .i64 x13_l1), (18, .pointer (some (adr A0 x13_l1.toNat 1)))]) (by kernel_rfl) ?_
      refine WD.ofR (i := 3) (by kernel_rfl) (RSt.loadInt (t := 43) (.tmp 18) (by kernel_rfl) (by kernel_rfl) (by kernel_rfl) (by kernel_rfl) (rdS.up R0 hS.sub0) e6 ?_)
      refine WD.weaken [0, 1, 5, 12, 13, 19] (L' := [(0, .slice A0 l0.length c0), (1, .slice A1 l1.length c1), (5, .int .i64 x13_l1), (12, .int .i64 (l0.length : Int)), (13, .int .i64 x13_l1), (19, .int .u64 v5)]) (by kernel_rfl) ?_
      refine WD.pure (i := 4) (v := .slice A1 l1.length c1) (by kernel_rfl) (by kernel_rfl) (fun _ => by kernel_rfl) ?_
      refine WD.weaken [0, 1, 5, 12, 13, 19, 20] (L' := [(0, .slice A0 l0.length c0), (1, .slice A1 l1.length c1), (5, .int .i64 x13_l1), (12, .int .i64 (l0.length : Int)), (13, .int .i64 x13_l1), (19, .int .u64 v5), (20, .slice A1 l1.length c1)]) (by kernel_rfl) ?_
      refine WD.pure (i := 5) (v := .int .i64 x13_l1) (by kernel_rfl) (by kernel_rfl) (fun _ => by kernel_rfl) ?_
      refine WD.weaken [0, 1, 12, 13, 19, 20, 21] (L' := [(0, .slice A0 l0.length c0), (1, .slice A1 l1.length c1), (12, .int .i64 (l0.length : Int)), (13, .int .i64 x13_l1), (19, .int .u64 v5), (20, .slice A1 l1.length c1), (21, .int .i64 x13_l1)]) (by kernel_rfl) ?_
      obtain ⟨v7, e8, H⟩ := bind_ex H
      refine WD.ofP (i := 6) (by kernel_rfl) (PSt.idx (k := .i64) (.tmp 20) (.tmp 21) (by kernel_rfl) (by kernel_rfl) E35 (by kernel_rfl) (by kernel_rfl) (rdS.up R1 hS.sub0) e8 ?_)
      refine WD.weaken [0, 1, 12, 13, 19, 22] (L' := [(0, .slice A0 l0.length c0), (1, .slice A1 l1.length c1), (12, .int .i64 (l0.length : Int)), (13, .int .i64 x13_l1), (19, .int .u64 v5), (22, .pointer (some (adr A1 x13_l1.toNat 1)))]) (by kernel_rfl) ?_
      refine WD.ofR (i := 7) (by kernel_rfl) (RSt.loadInt (t := 43) (.tmp 22) (by kernel_rfl) (by kernel_rfl) (by kernel_rfl) (by kernel_rfl) (rdS.up R1 hS.sub0) e8 ?_)
      refine WD.weaken [0, 1, 12, 13, 19, 23] (L' := [(0, .slice A0 l0.length c0), (1, .slice A1 l1.length c1), (12, .int .i64 (l0.length : Int)), (13, .int .i64 x13_l1), (19, .int .u64 v5), (23, .int .u64 v7)]) (by kernel_rfl) ?_
      refine WD.pure (i := 8) (v := .bool (v5 != v7)) (by kernel_rfl) (by kernel_rfl) (fun _ => by kernel_rfl) ?_
      refine WD.weaken [0, 1, 12, 13, 24] (L' := [(0, .slice A0 l0.length c0), (1, .slice A1 l1.length c1), (12, .int .i64 (l0.length : Int)), (13, .int .i64 x13_l1), (24, .bool (v5 != v7))]) (by kernel_rfl) ?_
      refine WD.nil (by kernel_rfl) ?_
      refine At.go ?_
      refine WC.cond (by kernel_rfl) (v5 != v7) (by kernel_rfl) (by kernel_rfl) (fun hb9 => ?_) (fun hb9 => ?_)
      · replace H := ite_t H hb9
        refine WC.seq (by kernel_rfl) ?_
        refine WC.reg [0] (by kernel_rfl) (by kernel_rfl) ?_
        refine WR.runk [0] [] [4] (L' := [(4, .bool false)]) (w' := w3) (by kernel_rfl) ?_
        refine WR.nil ?_
        refine At.go ?_
        refine WC.ret (by kernel_rfl) ?_
        refine At.blockRet ?_
        refine At.thenRet ?_
        refine At.thenRet ?_
        obtain rfl := Option.some.inj H
        have hS : Sat w3 (rf w0) [] := hS.sel [] (by kernel_rfl)
        refine At.weaken [4] (L' := [(4, .bool false)]) (by kernel_rfl) ?_
        exact hn0 false _ rfl hS
      · replace H := ite_f H hb9
        refine WC.skip (by kernel_rfl) ?_
        refine At.blockNormal ?_
        refine At.go ?_
        refine WC.reg [0, 1] (by kernel_rfl) (by kernel_rfl) ?_
        refine WR.runk [0, 1] [] [0, 1, 12, 13] (L' := [(0, .slice A0 l0.length c0), (1, .slice A1 l1.length c1), (12, .int .i64 (l0.length : Int)), (13, .int .i64 (wi (x13_l1 + 1)))]) (w' := w3) (by kernel_rfl) ?_
        refine WR.nil ?_
        have hS : Sat w3 (rf w0) [] := hS.sel [] (by kernel_rfl)
        refine At.again ?_
        refine WL.weaken [0, 1, 12, 13] (L' := [(0, .slice A0 l0.length c0), (1, .slice A1 l1.length c1), (12, .int .i64 (l0.length : Int)), (13, .int .i64 (wi (x13_l1 + 1)))]) (by kernel_rfl) ?_
        exact ih (wi (x13_l1 + 1)) _ hS H
    · replace H := ite_f H hb2
      refine WC.exit (by kernel_rfl) ?_
      refine At.thenExit ?_
      refine At.thenExit ?_
      obtain rfl := Option.some.inj H
      have hS : Sat w (rf w0) [] := hS.sel [] (by kernel_rfl)
      refine At.weaken [] (L' := []) (by kernel_rfl) ?_
      exact hn1 () _ rfl hS
theorem colophonref01_Same.calls (w0 : World) (A0 : Option Addr) (c0 : Nat) (l0 : List Int) (R0 : rdS (r0 (.int .u64)) 1 (hp w0) A0 c0 l0) (A1 : Option Addr) (c1 : Nat) (l1 : List Int) (R1 : rdS (r0 (.int .u64)) 1 (hp w0) A1 c1 l1) (r : Bool) (H : colophonref01_Same.f l0 l1 = some r) :
    Calls Try.prog 19 #[.slice A0 l0.length c0, .slice A1 l1.length c1] w0 (fun e w' => ∃ v, e = .returned v ∧ colophonref01_Same.post w0 r v w') := by
  have hS : Sat w0 (rf w0) [] := Sat.start w0
  unfold colophonref01_Same.f at H
  refine calls_of_WC (vs := [.slice A0 l0.length c0, .slice A1 l1.length c1]) Try.func19 (c := C19) (n := 26) (by kernel_rfl) (by kernel_rfl) (by kernel_rfl) ?_
  refine WC.seq (by kernel_rfl) ?_
  refine WC.reg [0] (by kernel_rfl) (by kernel_rfl) ?_
  refine WR.runk [0] [] [0, 1] (L' := [(0, .slice A0 l0.length c0), (1, .slice A1 l1.length c1)]) (w' := w0) (by kernel_rfl) ?_
  refine WR.nil ?_
  refine At.go ?_
  refine WC.seq (by kernel_rfl) ?_
  refine WC.seq (by kernel_rfl) ?_
  refine WC.reg [0, 1, 2, 3, 4] (by kernel_rfl) (by kernel_rfl) ?_
  refine WR.runk [0, 1, 2, 3, 4] [] [0, 1, 10] (L' := [(0, .slice A0 l0.length c0), (1, .slice A1 l1.length c1), (10, .bool ((l0.length : Int) != (l1.length : Int)))]) (w' := w0) (by kernel_rfl) ?_
  refine WR.nil ?_
  refine At.go ?_
  refine WC.cond (by kernel_rfl) ((l0.length : Int) != (l1.length : Int)) (by kernel_rfl) (by kernel_rfl) (fun hb1 => ?_) (fun hb1 => ?_)
  · replace H := ite_t H hb1
    refine WC.seq (by kernel_rfl) ?_
    refine WC.reg [0] (by kernel_rfl) (by kernel_rfl) ?_
    refine WR.runk [0] [] [4] (L' := [(4, .bool false)]) (w' := w0) (by kernel_rfl) ?_
    refine WR.nil ?_
    refine At.go ?_
    refine WC.ret (by kernel_rfl) ?_
    refine At.thenRet ?_
    obtain rfl := Option.some.inj H
    have hS : Sat w0 (rf w0) [] := hS.sel [] (by kernel_rfl)
    exact At.body [.bool false] (by kernel_rfl) ⟨_, rfl, rfl, hS⟩
  · replace H := ite_f H hb1
    refine WC.skip (by kernel_rfl) ?_
    refine At.go ?_
    refine WC.seq (by kernel_rfl) ?_
    refine WC.seq (by kernel_rfl) ?_
    refine WC.reg [0, 1, 2] (by kernel_rfl) (by kernel_rfl) ?_
    refine WR.runk [0, 1, 2] [] [0, 1, 12, 13] (L' := [(0, .slice A0 l0.length c0), (1, .slice A1 l1.length c1), (12, .int .i64 (l0.length : Int)), (13, .int .i64 0)]) (w' := w0) (by kernel_rfl) ?_
    refine WR.nil ?_
    refine At.go ?_
    refine WC.block (by kernel_rfl) ?_
    have hS : Sat w0 (rf w0) [] := hS.sel [] (by kernel_rfl)
    obtain ⟨o10, e11, H⟩ := bind_ex H
    refine WC.loop (by kernel_rfl) ?_
    refine WL.weaken [0, 1, 12, 13] (L' := [(0, .slice A0 l0.length c0), (1, .slice A1 l1.length c1), (12, .int .i64 (l0.length : Int)), (13, .int .i64 0)]) (by kernel_rfl) ?_
    refine colophonref01_Same.l1_ok w0 A0 c0 l0 A1 c1 l1 R0 R1 o10 (fun o12 w14 ho15 hS => ?_) (fun o16 w18 ho19 hS => ?_) FU 0 _ hS e11
    · subst ho15
      dsimp only at H
      refine At.blockRet ?_
      refine At.thenRet ?_
      obtain rfl := Option.some.inj H
      have hS : Sat w14 (rf w0) [] := hS.sel [] (by kernel_rfl)
      exact At.body [.bool o12] (by kernel_rfl) ⟨_, rfl, rfl, hS⟩
    · subst ho19
      dsimp only at H
      refine At.hit ?_
      refine At.go ?_
      refine WC.seq (by kernel_rfl) ?_
      refine WC.reg [0] (by kernel_rfl) (by kernel_rfl) ?_
      refine WR.runk [0] [] [4] (L' := [(4, .bool true)]) (w' := w18) (by kernel_rfl) ?_
      refine WR.nil ?_
      refine At.go ?_
      refine WC.ret (by kernel_rfl) ?_
      obtain rfl := Option.some.inj H
      have hS : Sat w18 (rf w0) [] := hS.sel [] (by kernel_rfl)
      exact At.body [.bool true] (by kernel_rfl) ⟨_, rfl, rfl, hS⟩
/-! ### 31 colophon/pack.From -/
def pack_From.f (a0 : Int) (a1 : Int) (l2 : List Int) : Option ((Option (Int × Int × (List Int))) × Int) := ((pack_New.f a0 a1).bind fun r1 => (if (r1.2 != 0) then some (none, r1.2) else (r1.1.bind fun y12 => (if ((l2.length : Int) != (y12.2.2.length : Int)) then some (none, 10) else (if decide (Int.tmod (wi (a0 * a1)) 64 > 0) then ((at? l2 (wi ((l2.length : Int) - 1))).bind fun v21 => ((chk? (decide (0 ≤ (Int.tmod (wi (a0 * a1)) 64)))).bind fun _ => (if ((ishr .u64 v21 (Int.tmod (wi (a0 * a1)) 64)) != 0) then some (none, 10) else some (some (y12.1, y12.2.1, (cpy y12.2.2 l2)), 0)))) else some (some (y12.1, y12.2.1, (cpy y12.2.2 l2)), 0))))))
def pack_From.post (w : World) (r : (Option (Int × Int × (List Int))) × Int) (v : Value) (w' : World) : Prop := ∃ (v0 : Value), v = .tuple #[v0, .int .i64 r.2] ∧ Sat w' (rf w) [optP O66 v0 r.1]
theorem pack_From.calls (w0 : World) (a0 : Int) (a1 : Int) (A2 : Option Addr) (c2 : Nat) (l2 : List Int) (R2 : rdS (r0 (.int .u64)) 1 (hp w0) A2 c2 l2) (r : (Option (Int × Int × (List Int))) × Int) (H : pack_From.f a0 a1 l2 = some r) :
    Calls Try.prog 31 #[.int .i64 a0, .int .i64 a1, .slice A2 l2.length c2] w0 (fun e w' => ∃ v, e = .returned v ∧ pack_From.post w0 r v w') := by
  have hS : Sat w0 (rf w0) [] := Sat.start w0
  unfold pack_From.f at H
  refine calls_of_WC (vs := [.int .i64 a0, .int .i64 a1, .slice A2 l2.length c2]) Try.func31 (c := C31) (n := 52) (by kernel_rfl) (by kernel_rfl) (by kernel_rfl) ?_
  refine WC.seq (by kernel_rfl) ?_
  refine WC.reg [0, 1] (by kernel_rfl) (by kernel_rfl) ?_
  refine WR.runk [0, 1] [] [0, 1, 2] (L' := [(0, .int .i64 a0), (1, .int .i64 a1), (2, .slice A2 l2.length c2)]) (w' := w0) (by kernel_rfl) ?_
  refine WR.nil ?_
  refine At.go ?_
  refine WC.seq (by kernel_rfl) ?_
  refine WC.reg [0, 1, 2, 3, 4, 5, 6, 7] (by kernel_rfl) (by kernel_rfl) ?_
  refine WR.runk [0, 1] [2, 3, 4, 5, 6, 7] [0, 1, 2, 12, 13] (L' := [(0, .int .i64 a0), (1, .int .i64 a1), (2, .slice A2 l2.length c2), (12, .int .i64 a0), (13, .int .i64 a1)]) (w' := w0) (by kernel_rfl) ?_
  obtain ⟨r1, e2, H⟩ := bind_ex H
  refine WR.st (St.call (by kernel_rfl) (f := 22) (args := #[.int .i64 a0, .int .i64 a1]) (by kernel_rfl) (pack_New.calls w0 a0 a1 r1 e2) ?_)
  rintro _ w8 ⟨pv10, rfl, hS9⟩
  have hS : Sat w8 (rf w0) [optP O66 pv10 r1.1] := hS.ext hS9
  refine WR.runk [3, 4, 5, 6, 7] [] [0, 1, 2, 8, 9] (L' := [(0, .int .i64 a0), (1, .int .i64 a1), (2, .slice A2 l2.length c2), (8, pv10), (9, .int .i64 r1.2)]) (w' := w8) (by kernel_rfl) ?_
  refine WR.nil ?_
  refine At.go ?_
  refine WC.seq (by kernel_rfl) ?_
  refine WC.seq (by kernel_rfl) ?_
  refine WC.reg [0, 1] (by kernel_rfl) (by kernel_rfl) ?_
  refine WR.runk [0, 1] [] [0, 1, 2, 8, 9, 18] (L' := [(0, .int .i64 a0), (1, .int .i64 a1), (2, .slice A2 l2.length c2), (8, pv10), (9, .int .i64 r1.2), (18, .bool (r1.2 != 0))]) (w' := w8) (by kernel_rfl) ?_
  refine WR.nil ?_
  refine At.go ?_
  refine WC.cond (by kernel_rfl) (r1.2 != 0) (by kernel_rfl) (by kernel_rfl) (fun hb11 => ?_) (fun hb11 => ?_)
  · replace H := ite_t H hb11
    refine WC.seq (by kernel_rfl) ?_
    refine WC.reg [0, 1, 2] (by kernel_rfl) (by kernel_rfl) ?_
    refine WR.runk [0, 1, 2] [] [6, 7] (L' := [(6, .pointer none), (7, .int .i64 r1.2)]) (w' := w8) (by kernel_rfl) ?_
    refine WR.nil ?_
    refine At.go ?_
    refine WC.ret (by kernel_rfl) ?_
    refine At.thenRet ?_
    obtain rfl := Option.some.inj H
    have hS := optP.nil (O := O66) hS
    have hS : Sat w8 (rf w0) [optP O66 (.pointer none) none] := hS.sel [0] (by kernel_rfl)
    exact At.body [.pointer none, .int .i64 r1.2] (by kernel_rfl) ⟨_, rfl, _, rfl, hS⟩
  · replace H := ite_f H hb11
    refine WC.skip (by kernel_rfl) ?_
    refine At.go ?_
    refine WC.seq (by kernel_rfl) ?_
    refine WC.seq (by kernel_rfl) ?_
    refine WC.reg [0, 1, 2, 3, 4, 5, 6, 7] (by kernel_rfl) (by kernel_rfl) ?_
    refine WR.runk [0, 1, 2] [3, 4, 5, 6, 7] [0, 1, 2, 8, 21, 22] (L' := [(0, .int .i64 a0), (1, .int .i64 a1), (2, .slice A2 l2.length c2), (8, pv10), (21, .int .i64 (l2.length : Int)), (22, pv10)]) (w' := w8) (by kernel_rfl) ?_
    obtain ⟨y12, hr13, H⟩ := bind_ex H
    obtain ⟨b15, hv14, hN29⟩ := optP.some hS hr13
    subst hv14
    have hS : Sat w8 (rf w0) [O66 b15 y12] := hN29
    refine WR.runk [3, 4] [5, 6, 7] [0, 1, 2, 8, 21, 24] (L' := [(0, .int .i64 a0), (1, .int .i64 a1), (2, .slice A2 l2.length c2), (8, .pointer (some ⟨b15, 0, none⟩)), (21, .int .i64 (l2.length : Int)), (24, .pointer (some ⟨b15, 2, none⟩))]) (w' := w8) (by kernel_rfl) ?_
    obtain ⟨A17, c18, hS⟩ := O66.open hS
    have hS : Sat w8 (rf w0) [pts b15 (.cells #[.int .i64 y12.1, .int .i64 y12.2.1, .slice A17 y12.2.2.length c18] 66 (0, 0)), osl 43 (r0 (.int .u64)) 1 A17 c18 y12.2.2] := hS
    refine WR.st (St.ofR (RSt.loadObj (t := 35) (k := 2) (v := .slice A17 y12.2.2.length c18) (.tmp 24) (by kernel_rfl) (by kernel_rfl) (by kernel_rfl) 0 hS rfl (by kernel_rfl) rfl ?_))
    refine WR.runk [6, 7] [] [0, 1, 2, 8, 27] (L' := [(0, .int .i64 a0), (1, .int .i64 a1), (2, .slice A2 l2.length c2), (8, .pointer (some ⟨b15, 0, none⟩)), (27, .bool ((l2.length : Int) != (y12.2.2.length : Int)))]) (w' := w8) (by kernel_rfl) ?_
    refine WR.nil ?_
    refine At.go ?_
    refine WC.cond (by kernel_rfl) ((l2.length : Int) != (y12.2.2.length : Int)) (by kernel_rfl) (by kernel_rfl) (fun hb19 => ?_) (fun hb19 => ?_)
    · replace H := ite_t H hb19
      refine WC.seq (by kernel_rfl) ?_
      refine WC.reg [0, 1] (by kernel_rfl) (by kernel_rfl) ?_
      refine WR.runk [0, 1] [] [6, 7] (L' := [(6, .pointer none), (7, .int .i64 10)]) (w' := w8) (by kernel_rfl) ?_
      refine WR.nil ?_
      refine At.go ?_
      refine WC.ret (by kernel_rfl) ?_
      refine At.thenRet ?_
      obtain rfl := Option.some.inj H
      have hS := optP.nil (O := O66) hS
      have hS : Sat w8 (rf w0) [optP O66 (.pointer none) none] := hS.sel [0] (by kernel_rfl)
      exact At.body [.pointer none, .int .i64 10] (by kernel_rfl) ⟨_, rfl, _, rfl, hS⟩
    · replace H := ite_f H hb19
      refine WC.skip (by kernel_rfl) ?_
      refine At.go ?_
      refine WC.seq (by kernel_rfl) ?_
      refine WC.seq (by kernel_rfl) ?_
      refine WC.reg [0, 1, 2, 3, 4] (by kernel_rfl) (by kernel_rfl) ?_
      refine WR.runk [0, 1, 2, 3, 4] [] [2, 8, 10] (L' := [(2, .slice A2 l2.length c2), (8, .pointer (some ⟨b15, 0, none⟩)), (10, .int .i64 (Int.tmod (wi (a0 * a1)) 64))]) (w' := w8) (by kernel_rfl) ?_
      refine WR.nil ?_
      refine At.go ?_
      refine WC.seq (by kernel_rfl) ?_
      refine WC.reg [0, 1, 2, 3, 4, 5, 6, 7, 8, 9, 10, 11, 12] (by kernel_rfl) (by kernel_rfl) ?_
      refine WR.runk [0, 1, 2] [3, 4, 5, 6, 7, 8, 9, 10, 11, 12] [2, 8, 10, 34] (L' := [(2, .slice A2 l2.length c2), (8, .pointer (some ⟨b15, 0, none⟩)), (10, .int .i64 (Int.tmod (wi (a0 * a1)) 64)), (34, .bool (decide (Int.tmod (wi (a0 * a1)) 64 > 0)))]) (w' := w8) (by kernel_rfl) ?_
      refine WR.split 34 (b := decide (Int.tmod (wi (a0 * a1)) 64 > 0)) (by kernel_rfl) (fun hb20 => ?_) (fun hb20 => ?_)
      · replace H := ite_t H hb20
        refine WR.runk [3, 4, 5, 6] [7, 8, 9, 10, 11, 12] [2, 8, 10, 34, 35, 38] (L' := [(2, .slice A2 l2.length c2), (8, .pointer (some ⟨b15, 0, none⟩)), (10, .int .i64 (Int.tmod (wi (a0 * a1)) 64)), (34, .bool true), (35, .slice A2 l2.length c2), (38, .int .i64 (wi ((l2.length : Int) - 1)))]) (w' := w8) (by kernel_rfl) ?_
        obtain ⟨v21, e22, H⟩ := bind_ex H
        refine WR.st (St.ofP (PSt.idx (k := .i64) (.tmp 35) (.tmp 38) (by kernel_rfl) (by kernel_rfl) E35 (by kernel_rfl) (by kernel_rfl) (rdS.up R2 hS.sub0) e22 ?_))
        refine WR.runk [] [8, 9, 10, 11, 12] [2, 8, 10, 34, 39] (L' := [(2, .slice A2 l2.length c2), (8, .pointer (some ⟨b15, 0, none⟩)), (10, .int .i64 (Int.tmod (wi (a0 * a1)) 64)), (34, .bool true), (39, .pointer (some (adr A2 (wi ((l2.length : Int) - 1)).toNat 1)))]) (w' := w8) (by kernel_rfl) ?_
        refine WR.st (St.ofR (RSt.loadInt (t := 43) (.tmp 39) (by kernel_rfl) (by kernel_rfl) (by kernel_rfl) (by kernel_rfl) (rdS.up R2 hS.sub0) e22 ?_))
        refine WR.runk [9] [10, 11, 12] [2, 8, 34, 40, 41] (L' := [(2, .slice A2 l2.length c2), (8, .pointer (some ⟨b15, 0, none⟩)), (34, .bool true), (40, .int .u64 v21), (41, .int .i64 (Int.tmod (wi (a0 * a1)) 64))]) (w' := w8) (by kernel_rfl) ?_
        obtain ⟨_, e23, H⟩ := bind_ex H
        refine WR.st (St.ofP (PSt.shift (k := .u64) (k2 := .i64) (t := 43) (t2 := 3) (a := v21) (b := (Int.tmod (wi (a0 * a1)) 64)) .shr (by decide) (.tmp 40) (.tmp 41) (by kernel_rfl) (by kernel_rfl) (by kernel_rfl) (by kernel_rfl) (of_decide_eq_true (chk?_some e23)) ?_))
        refine WR.runk [11, 12] [] [2, 8, 44] (L' := [(2, .slice A2 l2.length c2), (8, .pointer (some ⟨b15, 0, none⟩)), (44, .bool ((ishr .u64 v21 (Int.tmod (wi (a0 * a1)) 64)) != 0))]) (w' := w8) (by kernel_rfl) ?_
        refine WR.nil ?_
        refine At.go ?_
        refine WC.cond (by kernel_rfl) ((ishr .u64 v21 (Int.tmod (wi (a0 * a1)) 64)) != 0) (by kernel_rfl) (by kernel_rfl) (fun hb24 => ?_) (fun hb24 => ?_)
        · replace H := ite_t H hb24
          refine WC.seq (by kernel_rfl) ?_
          refine WC.reg [0, 1] (by kernel_rfl) (by kernel_rfl) ?_
          refine WR.runk [0, 1] [] [6, 7] (L' := [(6, .pointer none), (7, .int .i64 10)]) (w' := w8) (by kernel_rfl) ?_
          refine WR.nil ?_
          refine At.go ?_
          refine WC.ret (by kernel_rfl) ?_
          refine At.thenRet ?_
          obtain rfl := Option.some.inj H
          have hS := optP.nil (O := O66) hS
          have hS : Sat w8 (rf w0) [optP O66 (.pointer none) none] := hS.sel [0] (by kernel_rfl)
          exact At.body [.pointer none, .int .i64 10] (by kernel_rfl) ⟨_, rfl, _, rfl, hS⟩
        · replace H := ite_f H hb24
          refine WC.skip (by kernel_rfl) ?_
          refine At.go ?_
          refine WC.seq (by kernel_rfl) ?_
          refine WC.reg [0, 1, 2, 3, 4, 5] (by kernel_rfl) (by kernel_rfl) ?_
          refine WR.runk [0, 1, 2] [3, 4, 5] [2, 8, 47] (L' := [(2, .slice A2 l2.length c2), (8, .pointer (some ⟨b15, 0, none⟩)), (47, .pointer (some ⟨b15, 2, none⟩))]) (w' := w8) (by kernel_rfl) ?_
          refine WR.st (St.ofR (RSt.loadObj (t := 35) (k := 2) (v := .slice A17 y12.2.2.length c18) (.tmp 47) (by kernel_rfl) (by kernel_rfl) (by kernel_rfl) 0 hS rfl (by kernel_rfl) rfl ?_))
          refine WR.runk [4] [5] [8, 48, 49] (L' := [(8, .pointer (some ⟨b15, 0, none⟩)), (48, .slice A17 y12.2.2.length c18), (49, .slice A2 l2.length c2)]) (w' := w8) (by kernel_rfl) ?_
          have hS : Sat w8 (rf w0) [osl 43 (r0 (.int .u64)) 1 A17 c18 y12.2.2, pts b15 (.cells #[.int .i64 y12.1, .int .i64 y12.2.1, .slice A17 y12.2.2.length c18] 66 (0, 0))] := hS.sel [1, 0] (by kernel_rfl)
          refine WR.st (St.copy (t := 35) (t2 := 35) (e := 43) (.tmp 48) (.tmp 49) (by kernel_rfl) (by kernel_rfl) (by kernel_rfl) (by kernel_rfl) (r0_one _) hS (by kernel_rfl) (by kernel_rfl) (rdS.up R2 hS.sub0) (fun w25 hS => ?_))
          have hl26 := cpy_len y12.2.2 l2
          have hS : Sat w25 (rf w0) [osl 43 (r0 (.int .u64)) 1 A17 c18 (cpy y12.2.2 l2), pts b15 (.cells #[.int .i64 y12.1, .int .i64 y12.2.1, .slice A17 (cpy y12.2.2 l2).length c18] 66 (0, 0))] := by simpa only [hl26] using hS
          refine WR.runk [] [] [8] (L' := [(8, .pointer (some ⟨b15, 0, none⟩))]) (w' := w25) (by kernel_rfl) ?_
          refine WR.nil ?_
          refine At.go ?_
          refine WC.seq (by kernel_rfl) ?_
          refine WC.reg [0, 1, 2] (by kernel_rfl) (by kernel_rfl) ?_
          refine WR.runk [0, 1, 2] [] [6, 7] (L' := [(6, .pointer (some ⟨b15, 0, none⟩)), (7, .int .i64 0)]) (w' := w25) (by kernel_rfl) ?_
          refine WR.nil ?_
          refine At.go ?_
          refine WC.ret (by kernel_rfl) ?_
          obtain rfl := Option.some.inj H
          have hS : Sat w25 (rf w0) [pts b15 (.cells #[.int .i64 y12.1, .int .i64 y12.2.1, .slice A17 (cpy y12.2.2 l2).length c18] 66 (0, 0)), osl 43 (r0 (.int .u64)) 1 A17 c18 (cpy y12.2.2 l2)] := hS.sel [1, 0] (by kernel_rfl)
          have hS : Sat w25 (rf w0) [O66 b15 (y12.1, y12.2.1, (cpy y12.2.2 l2))] := O66.close (y12.1, y12.2.1, (cpy y12.2.2 l2)) A17 c18 hS
          have hS : Sat w25 (rf w0) [optP O66 (.pointer (some ⟨b15, 0, none⟩)) (some (y12.1, y12.2.1, (cpy y12.2.2 l2)))] := optP.mk hS
          have hS : Sat w25 (rf w0) [optP O66 (.pointer (some ⟨b15, 0, none⟩)) (some (y12.1, y12.2.1, (cpy y12.2.2 l2)))] := hS.sel [0] (by kernel_rfl)
          exact At.body [.pointer (some ⟨b15, 0, none⟩), .int .i64 0] (by kernel_rfl) ⟨_, rfl, _, rfl, hS⟩
      · replace H := ite_f H hb20
        refine WR.runk [3, 4, 5, 6, 7, 8, 9, 10, 11, 12] [] [2, 8, 44] (L' := [(2, .slice A2 l2.length c2), (8, .pointer (some ⟨b15, 0, none⟩)), (44, .bool false)]) (w' := w8) (by kernel_rfl) ?_
        refine WR.nil ?_
        refine At.go ?_
        refine WC.condF (by kernel_rfl) (by kernel_rfl) (by kernel_rfl) ?_
        refine WC.skip (by kernel_rfl) ?_
        refine At.go ?_
        refine WC.seq (by kernel_rfl) ?_
        refine WC.reg [0, 1, 2, 3, 4, 5] (by kernel_rfl) (by kernel_rfl) ?_
        refine WR.runk [0, 1, 2] [3, 4, 5] [2, 8, 47] (L' := [(2, .slice A2 l2.length c2), (8, .pointer (some ⟨b15, 0, none⟩)), (47, .pointer (some ⟨b15, 2, none⟩))]) (w' := w8) (by kernel_rfl) ?_
        refine WR.st (St.ofR (RSt.loadObj (t := 35) (k := 2) (v := .slice A17 y12.2.2.length c18) (.tmp 47) (by kernel_rfl) (by kernel_rfl) (by kernel_rfl) 0 hS rfl (by kernel_rfl) rfl ?_))
        refine WR.runk [4] [5] [8, 48, 49] (L' := [(8, .pointer (some ⟨b15, 0, none⟩)), (48, .slice A17 y12.2.2.length c18), (49, .slice A2 l2.length c2)]) (w' := w8) (by kernel_rfl) ?_
        have hS : Sat w8 (rf w0) [osl 43 (r0 (.int .u64)) 1 A17 c18 y12.2.2, pts b15 (.cells #[.int .i64 y12.1, .int .i64 y12.2.1, .slice A17 y12.2.2.length c18] 66 (0, 0))] := hS.sel [1, 0] (by kernel_rfl)
        refine WR.st (St.copy (t := 35) (t2 := 35) (e := 43) (.tmp 48) (.tmp 49) (by kernel_rfl) (by kernel_rfl) (by kernel_rfl) (by kernel_rfl) (r0_one _) hS (by kernel_rfl) (by kernel_rfl) (rdS.up R2 hS.sub0) (fun w27 hS => ?_))
        have hl28 := cpy_len y12.2.2 l2
        have hS : Sat w27 (rf w0) [osl 43 (r0 (.int .u64)) 1 A17 c18 (cpy y12.2.2 l2), pts b15 (.cells #[.int .i64 y12.1, .int .i64 y12.2.1, .slice A17 (cpy y12.2.2 l2).length c18] 66 (0, 0))] := by simpa only [hl28] using hS
        refine WR.runk [] [] [8] (L' := [(8, .pointer (some ⟨b15, 0, none⟩))]) (w' := w27) (by kernel_rfl) ?_
        refine WR.nil ?_
        refine At.go ?_
        refine WC.seq (by kernel_rfl) ?_
        refine WC.reg [0, 1, 2] (by kernel_rfl) (by kernel_rfl) ?_
        refine WR.runk [0, 1, 2] [] [6, 7] (L' := [(6, .pointer (some ⟨b15, 0, none⟩)), (7, .int .i64 0)]) (w' := w27) (by kernel_rfl) ?_
        refine WR.nil ?_
        refine At.go ?_
        refine WC.ret (by kernel_rfl) ?_
        obtain rfl := Option.some.inj H
        have hS : Sat w27 (rf w0) [pts b15 (.cells #[.int .i64 y12.1, .int .i64 y12.2.1, .slice A17 (cpy y12.2.2 l2).length c18] 66 (0, 0)), osl 43 (r0 (.int .u64)) 1 A17 c18 (cpy y12.2.2 l2)] := hS.sel [1, 0] (by kernel_rfl)
        have hS : Sat w27 (rf w0) [O66 b15 (y12.1, y12.2.1, (cpy y12.2.2 l2))] := O66.close (y12.1, y12.2.1, (cpy y12.2.2 l2)) A17 c18 hS
        have hS : Sat w27 (rf w0) [optP O66 (.pointer (some ⟨b15, 0, none⟩)) (some (y12.1, y12.2.1, (cpy y12.2.2 l2)))] := optP.mk hS
        have hS : Sat w27 (rf w0) [optP O66 (.pointer (some ⟨b15, 0, none⟩)) (some (y12.1, y12.2.1, (cpy y12.2.2 l2)))] := hS.sel [0] (by kernel_rfl)
        exact At.body [.pointer (some ⟨b15, 0, none⟩), .int .i64 0] (by kernel_rfl) ⟨_, rfl, _, rfl, hS⟩
/-! ### 32 slices.Equal[[]uint64,uint64] -/
def slices_Equal.l1 (l0 : List Int) (l1 : List Int) : Nat → Int → Option (Sum Bool Unit)
  | 0, _ => none
  | k + 1, x13_l1 => (if decide (x13_l1 < (l0.length : Int)) then ((at? l0 x13_l1).bind fun v5 => ((at? l1 x13_l1).bind fun v7 => (if (v5 != v7) then some (.inl false) else slices_Equal.l1 l0 l1 k (wi (x13_l1 + 1))))) else some (.inr ()))
def slices_Equal.f (l0 : List Int) (l1 : List Int) : Option Bool := (if ((l0.length : Int) != (l1.length : Int)) then some false else ((slices_Equal.l1 l0 l1 FU 0).bind fun o10 => (match o10 with | .inl o12 => some o12 | .inr o16 => some true)))
def slices_Equal.post (w : World) (r : Bool) (v : Value) (w' : World) : Prop := v = (.bool r : Value) ∧ Sat w' (rf w) []
theorem slices_Equal.l1_ok {Q} (w0 : World) (A0 : Option Addr) (c0 : Nat) (l0 : List Int) (A1 : Option Addr) (c1 : Nat) (l1 : List Int) (R0 : rdS (r0 (.int .u64)) 1 (hp w0) A0 c0 l0) (R1 : rdS (r0 (.int .u64)) 1 (hp w0) A1 c1 l1) (out : Sum Bool Unit) (hn0 : ∀ (o0 : Bool) (w : World), out = (.inl o0) → Sat w (rf w0) [] → At Q .ret 26 [(4, .bool o0)] w) (hn1 : ∀ (o1 : Unit) (w : World), out = (.inr o1) → Sat w (rf w0) [] → At Q (.exit 0) 26 [] w) :
    ∀ (k : Nat) (x13_l1 : Int) (w : World), Sat w (rf w0) [] → slices_Equal.l1 l0 l1 k x13_l1 = some out → WL Try.prog (cbody (cbody (cr (cl (cr (cr C32)))))) Q 26 [(0, .slice A0 l0.length c0), (1, .slice A1 l1.length c1), (12, .int .i64 (l0.length : Int)), (13, .int .i64 x13_l1)] w := by
  intro k
  induction k with
  | zero => intro x13_l1 w hS H; exact absurd (show none = some out from H) (by simp)
  | succ k ih =>
    intro x13_l1 w hS H
    unfold slices_Equal.l1 at H
    refine WL.round ?_
    refine WC.seq (by kernel_rfl) ?_
    refine WC.reg [0] (by kernel_rfl) (by kernel_rfl) ?_
    refine WR.runk [0] [] [0, 1, 12, 13, 14] (L' := [(0, .slice A0 l0.length c0), (1, .slice A1 l1.length c1), (12, .int .i64 (l0.length : Int)), (13, .int .i64 x13_l1), (14, .bool (decide (x13_l1 < (l0.length : Int))))]) (w' := w) (by kernel_rfl) ?_
    refine WR.nil ?_
    refine At.go ?_
    refine WC.seq (by kernel_rfl) ?_
    refine WC.cond (by kernel_rfl) (decide (x13_l1 < (l0.length : Int))) (by kernel_rfl) (by kernel_rfl) (fun hb2 => ?_) (fun hb2 => ?_)
    · replace H := ite_t H hb2
      refine WC.skip (by kernel_rfl) ?_
      refine At.go ?_
      refine WC.seq (by kernel_rfl) ?_
      refine WC.block (by kernel_rfl) ?_
      refine WC.seq (by kernel_rfl) ?_
      refine WC.reg [0, 1] (by kernel_rfl) (by kernel_rfl) ?_
      refine WR.runk [0, 1] [] [0, 1, 5, 12, 13] (L' := [(0, .slice A0 l0.length c0), (1, .slice A1 l1.length c1), (5, .int .i64 x13_l1), (12, .int .i64 (l0.length : Int)), (13, .int .i64 x13_l1)]) (w' := w) (by kernel_rfl) ?_
      refine WR.nil ?_
      refine At.go ?_
      refine WC.seq (by kernel_rfl) ?_
      refine WC.drawn (by kernel_rfl) (by kernel_rfl) 9 (by kernel_rfl) (fun w3 hw4 => ?_)
      have hS := hS.heap hw4.1 hw4.2
      refine WD.weaken [0, 1, 5, 12, 13] (L' := [(0, .slice A0 l0.length c0), (1, .slice A1 l1.length c1), (5, .int .i64 x13_l1), (12, .int .i64 (l0.length : Int)), (13, .int .i64 x13_l1)]) (by kernel_rfl) ?_
      refine WD.pure (i := 0) (v := .slice A0 l0.length c0) (by kernel_rfl) (by kernel_rfl) (fun _ => by kernel_rfl) ?_
      refine WD.weaken [0, 1, 5, 12, 13, 16] (L' := [(0, .slice A0 l0.length c0), (1, .slice A1 l1.length c1), (5, .int .i64 x13_l1), (12, .int .i64 (l0.length : Int)), (13, .int .i64 x13_l1), (16, .slice A0 l0.length c0)]) (by kernel_rfl) ?_
      refine WD.pure (i := 1) (v := .int .i64 x13_l1) (by kernel_rfl) (by kernel_rfl) (fun _ => by kernel_rfl) ?_
      refine WD.weaken [0, 1, 5, 12, 13, 16, 17] (L' := [(0, .slice A0 l0.length c0), (1, .slice A1 l1.length c1), (5, .int .i64 x13_l1), (12, .int .i64 (l0.length : Int)), (13, .int .i64 x13_l1), (16, .slice A0 l0.length c0), (17, .int .i64 x13_l1)]) (by kernel_rfl) ?_
      obtain ⟨v5, e6, H⟩ := bind_ex H
      refine WD.ofP (i := 2) (by kernel_rfl) (PSt.idx (k := .i64) (.tmp 16) (.tmp 17) (by kernel_rfl) (by kernel_rfl) E35 (by kernel_rfl) (by kernel_rfl) (rdS.up R0 hS.sub0) e6 ?_)
      refine WD.weaken [0, 1, 5, 12, 13, 18] (L' := [(0, .slice A0 l0.length c0), (1, .slice A1 l1.length c1), (5, .int .i64 x13_l1), (12, .int .i64 (l0.length : Int)), (13, .int .i64 x13_l1), (18, .pointer (some (adr A0 x13_l1.toNat 1)))]) (by kernel_rfl) ?_
      refine WD.ofR (i := 3) (by kernel_rfl) (RSt.loadInt (t := 43) (.tmp 18) (by kernel_rfl) (by kernel_rfl) (by kernel_rfl) (by kernel_rfl) (rdS.up R0 hS.sub0) e6 ?_)
      refine WD.weaken [0, 1, 5, 12, 13, 19] (L' := [(0, .slice A0 l0.length c0), (1, .slice A1 l1.length c1), (5, .int .i64 x13_l1), (12, .int .i64 (l0.length : Int)), (13, .int .i64 x13_l1), (19, .int .u64 v5)]) (by kernel_rfl) ?_
      refine WD.pure (i := 4) (v := .slice A1 l1.length c1) (by kernel_rfl) (by kernel_rfl) (fun _ => by kernel_rfl) ?_
      refine WD.weaken [0, 1, 5, 12, 13, 19, 20] (L' := [(0, .slice A0 l0.length c0), (1, .slice A1 l1.length c1), (5, .int .i64 x13_l1), (12, .int .i64 (l0.length : Int)), (13, .int .i64 x13_l1), (19, .int .u64 v5), (20, .slice A1 l1.length c1)]) (by kernel_rfl) ?_
      refine WD.pure (i := 5) (v := .int .i64 x13_l1) (by kernel_rfl) (by kernel_rfl) (fun _ => by kernel_rfl) ?_
      refine WD.weaken [0, 1, 12, 13, 19, 20, 21] (L' := [(0, .slice A0 l0.length c0), (1, .slice A1 l1.length c1), (12, .int .i64 (l0.length : Int)), (13, .int .i64 x13_l1), (19, .int .u64 v5), (20, .slice A1 l1.length c1), (21, .int .i64 x13_l1)]) (by kernel_rfl) ?_
      obtain ⟨v7, e8, H⟩ := bind_ex H
      refine WD.ofP (i := 6) (by kernel_rfl) (PSt.idx (k := .i64) (.tmp 20) (.tmp 21) (by kernel_rfl) (by kernel_rfl) E35 (by kernel_rfl) (by kernel_rfl) (rdS.up R1 hS.sub0) e8 ?_)
      refine WD.weaken [0, 1, 12, 13, 19, 22] (L' := [(0, .slice A0 l0.length c0), (1, .slice A1 l1.length c1), (12, .int .i64 (l0.length : Int)), (13, .int .i64 x13_l1), (19, .int .u64 v5), (22, .pointer (some (adr A1 x13_l1.toNat 1)))]) (by kernel_rfl) ?_
      refine WD.ofR (i := 7) (by kernel_rfl) (RSt.loadInt (t := 43) (.tmp 22) (by kernel_rfl) (by kernel_rfl) (by kernel_rfl) (by kernel_rfl) (rdS.up R1 hS.sub0) e8 ?_)
      refine WD.weaken [0, 1, 12, 13, 19, 23] (L' := [(0, .slice A0 l0.length c0), (1, .slice A1 l1.length c1), (12, .int .i64 (l0.length : Int)), (13, .int .i64 x13_l1), (19, .int .u64 v5), (23, .int .u64 v7)]) (by kernel_rfl) ?_
      refine WD.pure (i := 8) (v := .bool (v5 != v7)) (by kernel_rfl) (by kernel_rfl) (fun _ => by kernel_rfl) ?_
      refine WD.weaken [0, 1, 12, 13, 24] (L' := [(0, .slice A0 l0.length c0), (1, .slice A1 l1.length c1), (12, .int .i64 (l0.length : Int)), (13, .int .i64 x13_l1), (24, .bool (v5 != v7))]) (by kernel_rfl) ?_
      refine WD.nil (by kernel_rfl) ?_
      refine At.go ?_
      refine WC.cond (by kernel_rfl) (v5 != v7) (by kernel_rfl) (by kernel_rfl) (fun hb9 => ?_) (fun hb9 => ?_)
      · replace H := ite_t H hb9
        refine WC.seq (by kernel_rfl) ?_
        refine WC.reg [0] (by kernel_rfl) (by kernel_rfl) ?_
        refine WR.runk [0] [] [4] (L' := [(4, .bool false)]) (w' := w3) (by kernel_rfl) ?_
        refine WR.nil ?_
        refine At.go ?_
        refine WC.ret (by kernel_rfl) ?_
        refine At.blockRet ?_
        refine At.thenRet ?_
        refine At.thenRet ?_
        obtain rfl := Option.some.inj H
        have hS : Sat w3 (rf w0) [] := hS.sel [] (by kernel_rfl)
        refine At.weaken [4] (L' := [(4, .bool false)]) (by kernel_rfl) ?_
        exact hn0 false _ rfl hS
      · replace H := ite_f H hb9
        refine WC.skip (by kernel_rfl) ?_
        refine At.blockNormal ?_
        refine At.go ?_
        refine WC.reg [0, 1] (by kernel_rfl) (by kernel_rfl) ?_
        refine WR.runk [0, 1] [] [0, 1, 12, 13] (L' := [(0, .slice A0 l0.length c0), (1, .slice A1 l1.length c1), (12, .int .i64 (l0.length : Int)), (13, .int .i64 (wi (x13_l1 + 1)))]) (w' := w3) (by kernel_rfl) ?_
        refine WR.nil ?_
        have hS : Sat w3 (rf w0) [] := hS.sel [] (by kernel_rfl)
        refine At.again ?_
        refine WL.weaken [0, 1, 12, 13] (L' := [(0, .slice A0 l0.length c0), (1, .slice A1 l1.length c1), (12, .int .i64 (l0.length : Int)), (13, .int .i64 (wi (x13_l1 + 1)))]) (by kernel_rfl) ?_
        exact ih (wi (x13_l1 + 1)) _ hS H
    · replace H := ite_f H hb2
      refine WC.exit (by kernel_rfl) ?_
      refine At.thenExit ?_
      refine At.thenExit ?_
      obtain rfl := Option.some.inj H
      have hS : Sat w (rf w0) [] := hS.sel [] (by kernel_rfl)
      refine At.weaken [] (L' := []) (by kernel_rfl) ?_
      exact hn1 () _ rfl hS
theorem slices_Equal.calls (w0 : World) (A0 : Option Addr) (c0 : Nat) (l0 : List Int) (R0 : rdS (r0 (.int .u64)) 1 (hp w0) A0 c0 l0) (A1 : Option Addr) (c1 : Nat) (l1 : List Int) (R1 : rdS (r0 (.int .u64)) 1 (hp w0) A1 c1 l1) (r : Bool) (H : slices_Equal.f l0 l1 = some r) :
    Calls Try.prog 32 #[.slice A0 l0.length c0, .slice A1 l1.length c1] w0 (fun e w' => ∃ v, e = .returned v ∧ slices_Equal.post w0 r v w') := by
  have hS : Sat w0 (rf w0) [] := Sat.start w0
  unfold slices_Equal.f at H
  refine calls_of_WC (vs := [.slice A0 l0.length c0, .slice A1 l1.length c1]) Try.func32 (c := C32) (n := 26) (by kernel_rfl) (by kernel_rfl) (by kernel_rfl) ?_
  refine WC.seq (by kernel_rfl) ?_
  refine WC.reg [0] (by kernel_rfl) (by kernel_rfl) ?_
  refine WR.runk [0] [] [0, 1] (L' := [(0, .slice A0 l0.length c0), (1, .slice A1 l1.length c1)]) (w' := w0) (by kernel_rfl) ?_
  refine WR.nil ?_
  refine At.go ?_
  refine WC.seq (by kernel_rfl) ?_
  refine WC.seq (by kernel_rfl) ?_
  refine WC.reg [0, 1, 2, 3, 4] (by kernel_rfl) (by kernel_rfl) ?_
  refine WR.runk [0, 1, 2, 3, 4] [] [0, 1, 10] (L' := [(0, .slice A0 l0.length c0), (1, .slice A1 l1.length c1), (10, .bool ((l0.length : Int) != (l1.length : Int)))]) (w' := w0) (by kernel_rfl) ?_
  refine WR.nil ?_
  refine At.go ?_
  refine WC.cond (by kernel_rfl) ((l0.length : Int) != (l1.length : Int)) (by kernel_rfl) (by kernel_rfl) (fun hb1 => ?_) (fun hb1 => ?_)
  · replace H := ite_t H hb1
    refine WC.seq (by kernel_rfl) ?_
    refine WC.reg [0] (by kernel_rfl) (by kernel_rfl) ?_
    refine WR.runk [0] [] [4] (L' := [(4, .bool false)]) (w' := w0) (by kernel_rfl) ?_
    refine WR.nil ?_
    refine At.go ?_
    refine WC.ret (by kernel_rfl) ?_
    refine At.thenRet ?_
    obtain rfl := Option.some.inj H
    have hS : Sat w0 (rf w0) [] := hS.sel [] (by kernel_rfl)
    exact At.body [.bool false] (by kernel_rfl) ⟨_, rfl, rfl, hS⟩
  · replace H := ite_f H hb1
    refine WC.skip (by kernel_rfl) ?_
    refine At.go ?_
    refine WC.seq (by kernel_rfl) ?_
    refine WC.seq (by kernel_rfl) ?_
    refine WC.reg [0, 1, 2] (by kernel_rfl) (by kernel_rfl) ?_
    refine WR.runk [0, 1, 2] [] [0, 1, 12, 13] (L' := [(0, .slice A0 l0.length c0), (1, .slice A1 l1.length c1), (12, .int .i64 (l0.length : Int)), (13, .int .i64 0)]) (w' := w0) (by kernel_rfl) ?_
    refine WR.nil ?_
    refine At.go ?_
    refine WC.block (by kernel_rfl) ?_
    have hS : Sat w0 (rf w0) [] := hS.sel [] (by kernel_rfl)
    obtain ⟨o10, e11, H⟩ := bind_ex H
    refine WC.loop (by kernel_rfl) ?_
    refine WL.weaken [0, 1, 12, 13] (L' := [(0, .slice A0 l0.length c0), (1, .slice A1 l1.length c1), (12, .int .i64 (l0.length : Int)), (13, .int .i64 0)]) (by kernel_rfl) ?_
    refine slices_Equal.l1_ok w0 A0 c0 l0 A1 c1 l1 R0 R1 o10 (fun o12 w14 ho15 hS => ?_) (fun o16 w18 ho19 hS => ?_) FU 0 _ hS e11
    · subst ho15
      dsimp only at H
      refine At.blockRet ?_
      refine At.thenRet ?_
      obtain rfl := Option.some.inj H
      have hS : Sat w14 (rf w0) [] := hS.sel [] (by kernel_rfl)
      exact At.body [.bool o12] (by kernel_rfl) ⟨_, rfl, rfl, hS⟩
    · subst ho19
      dsimp only at H
      refine At.hit ?_
      refine At.go ?_
      refine WC.seq (by kernel_rfl) ?_
      refine WC.reg [0] (by kernel_rfl) (by kernel_rfl) ?_
      refine WR.runk [0] [] [4] (L' := [(4, .bool true)]) (w' := w18) (by kernel_rfl) ?_
      refine WR.nil ?_
      refine At.go ?_
      refine WC.ret (by kernel_rfl) ?_
      obtain rfl := Option.some.inj H
      have hS : Sat w18 (rf w0) [] := hS.sel [] (by kernel_rfl)
      exact At.body [.bool true] (by kernel_rfl) ⟨_, rfl, rfl, hS⟩
/-! ### 20 colophon/sparse.From -/
def sparse_From.l1 (a1 : Int) (r5 : Int × Int) (y46 : Int × Int × (List Int)) (y51 : Int × (List Int) × (List Int) × Int) : Nat → (List Int) → Int → Option (Sum Int (List Int))
  | 0, _, _ => none
  | k + 1, x18_l1, x69_l1 => (if decide (x69_l1 < a1) then ((rank_Vec_Select.f (some y51) x69_l1).bind fun r57 => (if decide (r57 < 0) then some (.inl 10) else ((chk? (decide (0 ≤ r5.1))).bind fun _ => ((pack_Ints_Get.f (some y46) x69_l1).bind fun r70 => ((app? 17592186044416 x18_l1 ([ior .i64 (ishl .i64 (wi (r57 - x69_l1)) r5.1) (wi r70)] : List Int)).bind fun y82 => sparse_From.l1 a1 r5 y46 y51 k y82 (wi (x69_l1 + 1))))))) else some (.inr x18_l1))
def sparse_From.f (a0 : Int) (a1 : Int) (l2 : List Int) (l3 : List Int) : Option ((Option (Int × Int × Int × (Option (Int × (List Int) × (List Int) × Int)) × (Option (Int × Int × (List Int))) × (Option (Int × Int × (List Int))))) × Int) := (if decide (a0 < 0) then some (none, 2) else (if decide (a0 > 4194304) then some (none, 2) else (if decide (a1 < 0) then some (none, 2) else (if decide (a1 > a0) then some (none, 2) else ((sparse_shape.f a0 a1).bind fun r5 => ((pack_From.f 1 r5.2 l2).bind fun r14 => ((pack_From.f (imax 1 r5.1) a1 l3).bind fun r24 => (if (r14.2 != 0) then some (none, 10) else (if (r24.2 != 0) then some (none, 10) else ((rank_New.f r14.1).bind fun r36 => (r24.1.bind fun y46 => (r36.1.bind fun y51 => ((sparse_From.l1 a1 r5 y46 y51 FU ([] : List Int) 0).bind fun o86 => (match o86 with | .inl o88 => some (none, o88) | .inr o92 => ((sparse_New.f a0 o92).bind fun r96 => (if (r96.2 != 0) then some (none, 10) else (r96.1.bind fun y107 => ((pack_Ints_Words.f y107.2.2.2.2.1).bind fun r115 => ((slices_Equal.f r115 l2).bind fun r126 => (if (!r126) then some (none, 10) else ((pack_Ints_Words.f y107.2.2.2.2.2).bind fun r136 => ((slices_Equal.f r136 l3).bind fun r147 => (if (!r147) then some (none, 10) else some (some y107, 0))))))))))))))))))))))))
def sparse_From.post (w : World) (r : (Option (Int × Int × Int × (Option (Int × (List Int) × (List Int) × Int)) × (Option (Int × Int × (List Int))) × (Option (Int × Int × (List Int))))) × Int) (v : Value) (w' : World) : Prop := ∃ (v0 : Value), v = .tuple #[v0, .int .i64 r.2] ∧ Sat w' (rf w) [optP O49 v0 r.1]
theorem sparse_From.l1_ok {Q} (w0 : World) (a0 : Int) (a1 : Int) (A2 : Option Addr) (c2 : Nat) (l2 : List Int) (A3 : Option Addr) (c3 : Nat) (l3 : List Int) (r5 : Int × Int) (y46 : Int × Int × (List Int)) (b49 : Nat) (y51 : Int × (List Int) × (List Int) × Int) (b54 : Nat) (out : Sum Int (List Int)) (hn0 : ∀ (o0 : Int) (w : World), out = (.inl o0) → Sat w (rf w0) [O66 b49 y46, O68 b54 y51] → At Q .ret 120 [(8, .pointer none), (9, .int .i64 o0)] w) (hn1 : ∀ (o1 : (List Int)) (A18_q : Option Addr) (c18_q : Nat) (w : World), out = (.inr o1) → Sat w (rf w0) [osl 3 (r0 (.int .i64)) 1 A18_q c18_q o1, O66 b49 y46, O68 b54 y51] → At Q (.exit 0) 120 [(0, .int .i64 a0), (2, .slice A2 l2.length c2), (3, .slice A3 l3.length c3), (18, .slice A18_q o1.length c18_q)] w) :
    ∀ (k : Nat) (x18_l1 : List Int) (x69_l1 : Int) (A18_l1 : Option Addr) (c18_l1 : Nat) (w : World), Sat w (rf w0) [osl 3 (r0 (.int .i64)) 1 A18_l1 c18_l1 x18_l1, O66 b49 y46, O68 b54 y51] → sparse_From.l1 a1 r5 y46 y51 k x18_l1 x69_l1 = some out → WL Try.prog (cbody (cbody (cr (cl (cr (cr (cr (cr (cr (cr (cr (cr C20)))))))))))) Q 120 [(0, .int .i64 a0), (2, .slice A2 l2.length c2), (3, .slice A3 l3.length c3), (10, .int .i64 r5.1), (14, .pointer (some ⟨b49, 0, none⟩)), (16, .pointer (some ⟨b54, 0, none⟩)), (18, .slice A18_l1 x18_l1.length c18_l1), (68, .int .i64 a1), (69, .int .i64 x69_l1)] w := by
  intro k
  induction k with
  | zero => intro x18_l1 x69_l1 A18_l1 c18_l1 w hS H; exact absurd (show none = some out from H) (by simp)
  | succ k ih =>
    intro x18_l1 x69_l1 A18_l1 c18_l1 w hS H
    unfold sparse_From.l1 at H
    refine WL.round ?_
    refine WC.seq (by kernel_rfl) ?_
    refine WC.reg [0] (by kernel_rfl) (by kernel_rfl) ?_
    refine WR.runk [0] [] [0, 2, 3, 10, 14, 16, 18, 68, 69, 70] (L' := [(0, .int .i64 a0), (2, .slice A2 l2.length c2), (3, .slice A3 l3.length c3), (10, .int .i64 r5.1), (14, .pointer (some ⟨b49, 0, none⟩)), (16, .pointer (some ⟨b54, 0, none⟩)), (18, .slice A18_l1 x18_l1.length c18_l1), (68, .int .i64 a1), (69, .int .i64 x69_l1), (70, .bool (decide (x69_l1 < a1)))]) (w' := w) (by kernel_rfl) ?_
    refine WR.nil ?_
    refine At.go ?_
    refine WC.seq (by kernel_rfl) ?_
    refine WC.cond (by kernel_rfl) (decide (x69_l1 < a1)) (by kernel_rfl) (by kernel_rfl) (fun hb56 => ?_) (fun hb56 => ?_)
    · replace H := ite_t H hb56
      refine WC.skip (by kernel_rfl) ?_
      refine At.go ?_
      refine WC.seq (by kernel_rfl) ?_
      refine WC.block (by kernel_rfl) ?_
      refine WC.seq (by kernel_rfl) ?_
      refine WC.reg [0, 1] (by kernel_rfl) (by kernel_rfl) ?_
      refine WR.runk [0, 1] [] [0, 2, 3, 10, 14, 16, 18, 19, 68, 69] (L' := [(0, .int .i64 a0), (2, .slice A2 l2.length c2), (3, .slice A3 l3.length c3), (10, .int .i64 r5.1), (14, .pointer (some ⟨b49, 0, none⟩)), (16, .pointer (some ⟨b54, 0, none⟩)), (18, .slice A18_l1 x18_l1.length c18_l1), (19, .int .i64 x69_l1), (68, .int .i64 a1), (69, .int .i64 x69_l1)]) (w' := w) (by kernel_rfl) ?_
      refine WR.nil ?_
      refine At.go ?_
      refine WC.seq (by kernel_rfl) ?_
      refine WC.reg [0, 1, 2, 3] (by kernel_rfl) (by kernel_rfl) ?_
      refine WR.runk [0, 1] [2, 3] [0, 2, 3, 10, 14, 16, 18, 19, 68, 69, 72, 73] (L' := [(0, .int .i64 a0), (2, .slice A2 l2.length c2), (3, .slice A3 l3.length c3), (10, .int .i64 r5.1), (14, .pointer (some ⟨b49, 0, none⟩)), (16, .pointer (some ⟨b54, 0, none⟩)), (18, .slice A18_l1 x18_l1.length c18_l1), (19, .int .i64 x69_l1), (68, .int .i64 a1), (69, .int .i64 x69_l1), (72, .pointer (some ⟨b54, 0, none⟩)), (73, .int .i64 x69_l1)]) (w' := w) (by kernel_rfl) ?_
      obtain ⟨r57, e58, H⟩ := bind_ex H
      refine WR.st (St.call (by kernel_rfl) (f := 25) (args := #[.pointer (some ⟨b54, 0, none⟩), .int .i64 x69_l1]) (by kernel_rfl) (rank_Vec_Select.calls w (.pointer (some ⟨b54, 0, none⟩)) (some y51) (Sat.rdAny 2 hS rfl (fun _ h => O68.rd _ _ _ h)) x69_l1 r57 e58) ?_)
      rintro _ w64 ⟨rfl, hS65⟩
      have hS : Sat w64 (rf w0) [osl 3 (r0 (.int .i64)) 1 A18_l1 c18_l1 x18_l1, O66 b49 y46, O68 b54 y51] := hS.ext hS65
      refine WR.runk [3] [] [0, 2, 3, 10, 14, 16, 18, 19, 20, 68, 69] (L' := [(0, .int .i64 a0), (2, .slice A2 l2.length c2), (3, .slice A3 l3.length c3), (10, .int .i64 r5.1), (14, .pointer (some ⟨b49, 0, none⟩)), (16, .pointer (some ⟨b54, 0, none⟩)), (18, .slice A18_l1 x18_l1.length c18_l1), (19, .int .i64 x69_l1), (20, .int .i64 r57), (68, .int .i64 a1), (69, .int .i64 x69_l1)]) (w' := w64) (by kernel_rfl) ?_
      refine WR.nil ?_
      refine At.go ?_
      refine WC.seq (by kernel_rfl) ?_
      refine WC.seq (by kernel_rfl) ?_
      refine WC.reg [0, 1] (by kernel_rfl) (by kernel_rfl) ?_
      refine WR.runk [0, 1] [] [0, 2, 3, 10, 14, 16, 18, 19, 20, 68, 69, 76] (L' := [(0, .int .i64 a0), (2, .slice A2 l2.length c2), (3, .slice A3 l3.length c3), (10, .int .i64 r5.1), (14, .pointer (some ⟨b49, 0, none⟩)), (16, .pointer (some ⟨b54, 0, none⟩)), (18, .slice A18_l1 x18_l1.length c18_l1), (19, .int .i64 x69_l1), (20, .int .i64 r57), (68, .int .i64 a1), (69, .int .i64 x69_l1), (76, .bool (decide (r57 < 0)))]) (w' := w64) (by kernel_rfl) ?_
      refine WR.nil ?_
      refine At.go ?_
      refine WC.cond (by kernel_rfl) (decide (r57 < 0)) (by kernel_rfl) (by kernel_rfl) (fun hb66 => ?_) (fun hb66 => ?_)
      · replace H := ite_t H hb66
        refine WC.seq (by kernel_rfl) ?_
        refine WC.reg [0, 1] (by kernel_rfl) (by kernel_rfl) ?_
        refine WR.runk [0, 1] [] [8, 9] (L' := [(8, .pointer none), (9, .int .i64 10)]) (w' := w64) (by kernel_rfl) ?_
        refine WR.nil ?_
        refine At.go ?_
        refine WC.ret (by kernel_rfl) ?_
        refine At.thenRet ?_
        refine At.blockRet ?_
        refine At.thenRet ?_
        refine At.thenRet ?_
        obtain rfl := Option.some.inj H
        have hS : Sat w64 (rf w0) [O66 b49 y46, O68 b54 y51] := hS.sel [1, 2] (by kernel_rfl)
        refine At.weaken [8, 9] (L' := [(8, .pointer none), (9, .int .i64 10)]) (by kernel_rfl) ?_
        exact hn0 10 _ rfl hS
      · replace H := ite_f H hb66
        refine WC.skip (by kernel_rfl) ?_
        refine At.go ?_
        refine WC.drawn (by kernel_rfl) (by kernel_rfl) 14 (by kernel_rfl) (fun w67 hw68 => ?_)
        have hS := hS.heap hw68.1 hw68.2
        refine WD.weaken [0, 2, 3, 10, 14, 16, 18, 19, 20, 68, 69] (L' := [(0, .int .i64 a0), (2, .slice A2 l2.length c2), (3, .slice A3 l3.length c3), (10, .int .i64 r5.1), (14, .pointer (some ⟨b49, 0, none⟩)), (16, .pointer (some ⟨b54, 0, none⟩)), (18, .slice A18_l1 x18_l1.length c18_l1), (19, .int .i64 x69_l1), (20, .int .i64 r57), (68, .int .i64 a1), (69, .int .i64 x69_l1)]) (by kernel_rfl) ?_
        refine WD.pure (i := 0) (v := .slice A18_l1 x18_l1.length c18_l1) (by kernel_rfl) (by kernel_rfl) (fun _ => by kernel_rfl) ?_
        refine WD.weaken [0, 2, 3, 10, 14, 16, 18, 19, 20, 68, 69, 77] (L' := [(0, .int .i64 a0), (2, .slice A2 l2.length c2), (3, .slice A3 l3.length c3), (10, .int .i64 r5.1), (14, .pointer (some ⟨b49, 0, none⟩)), (16, .pointer (some ⟨b54, 0, none⟩)), (18, .slice A18_l1 x18_l1.length c18_l1), (19, .int .i64 x69_l1), (20, .int .i64 r57), (68, .int .i64 a1), (69, .int .i64 x69_l1), (77, .slice A18_l1 x18_l1.length c18_l1)]) (by kernel_rfl) ?_
        refine WD.pure (i := 1) (v := .int .i64 r57) (by kernel_rfl) (by kernel_rfl) (fun _ => by kernel_rfl) ?_
        refine WD.weaken [0, 2, 3, 10, 14, 16, 18, 19, 68, 69, 77, 78] (L' := [(0, .int .i64 a0), (2, .slice A2 l2.length c2), (3, .slice A3 l3.length c3), (10, .int .i64 r5.1), (14, .pointer (some ⟨b49, 0, none⟩)), (16, .pointer (some ⟨b54, 0, none⟩)), (18, .slice A18_l1 x18_l1.length c18_l1), (19, .int .i64 x69_l1), (68, .int .i64 a1), (69, .int .i64 x69_l1), (77, .slice A18_l1 x18_l1.length c18_l1), (78, .int .i64 r57)]) (by kernel_rfl) ?_
        refine WD.pure (i := 2) (v := .int .i64 x69_l1) (by kernel_rfl) (by kernel_rfl) (fun _ => by kernel_rfl) ?_
        refine WD.weaken [0, 2, 3, 10, 14, 16, 18, 19, 68, 69, 77, 78, 79] (L' := [(0, .int .i64 a0), (2, .slice A2 l2.length c2), (3, .slice A3 l3.length c3), (10, .int .i64 r5.1), (14, .pointer (some ⟨b49, 0, none⟩)), (16, .pointer (some ⟨b54, 0, none⟩)), (18, .slice A18_l1 x18_l1.length c18_l1), (19, .int .i64 x69_l1), (68, .int .i64 a1), (69, .int .i64 x69_l1), (77, .slice A18_l1 x18_l1.length c18_l1), (78, .int .i64 r57), (79, .int .i64 x69_l1)]) (by kernel_rfl) ?_
        refine WD.pure (i := 3) (v := .int .i64 (wi (r57 - x69_l1))) (by kernel_rfl) (by kernel_rfl) (fun _ => by kernel_rfl) ?_
        refine WD.weaken [0, 2, 3, 10, 14, 16, 18, 19, 68, 69, 77, 80] (L' := [(0, .int .i64 a0), (2, .slice A2 l2.length c2), (3, .slice A3 l3.length c3), (10, .int .i64 r5.1), (14, .pointer (some ⟨b49, 0, none⟩)), (16, .pointer (some ⟨b54, 0, none⟩)), (18, .slice A18_l1 x18_l1.length c18_l1), (19, .int .i64 x69_l1), (68, .int .i64 a1), (69, .int .i64 x69_l1), (77, .slice A18_l1 x18_l1.length c18_l1), (80, .int .i64 (wi (r57 - x69_l1)))]) (by kernel_rfl) ?_
        refine WD.pure (i := 4) (v := .int .i64 r5.1) (by kernel_rfl) (by kernel_rfl) (fun _ => by kernel_rfl) ?_
        refine WD.weaken [0, 2, 3, 10, 14, 16, 18, 19, 68, 69, 77, 80, 81] (L' := [(0, .int .i64 a0), (2, .slice A2 l2.length c2), (3, .slice A3 l3.length c3), (10, .int .i64 r5.1), (14, .pointer (some ⟨b49, 0, none⟩)), (16, .pointer (some ⟨b54, 0, none⟩)), (18, .slice A18_l1 x18_l1.length c18_l1), (19, .int .i64 x69_l1), (68, .int .i64 a1), (69, .int .i64 x69_l1), (77, .slice A18_l1 x18_l1.length c18_l1), (80, .int .i64 (wi (r57 - x69_l1))), (81, .int .i64 r5.1)]) (by kernel_rfl) ?_
        obtain ⟨_, e69, H⟩ := bind_ex H
        refine WD.ofP (i := 5) (by kernel_rfl) (PSt.shift (k := .i64) (k2 := .i64) (t := 3) (t2 := 3) (a := (wi (r57 - x69_l1))) (b := r5.1) .shl (by decide) (.tmp 80) (.tmp 81) (by kernel_rfl) (by kernel_rfl) (by kernel_rfl) (by kernel_rfl) (of_decide_eq_true (chk?_some e69)) ?_)
        refine WD.weaken [0, 2, 3, 10, 14, 16, 18, 19, 68, 69, 77, 82] (L' := [(0, .int .i64 a0), (2, .slice A2 l2.length c2), (3, .slice A3 l3.length c3), (10, .int .i64 r5.1), (14, .pointer (some ⟨b49, 0, none⟩)), (16, .pointer (some ⟨b54, 0, none⟩)), (18, .slice A18_l1 x18_l1.length c18_l1), (19, .int .i64 x69_l1), (68, .int .i64 a1), (69, .int .i64 x69_l1), (77, .slice A18_l1 x18_l1.length c18_l1), (82, .int .i64 (ishl .i64 (wi (r57 - x69_l1)) r5.1))]) (by kernel_rfl) ?_
        refine WD.pure (i := 6) (v := .pointer (some ⟨b49, 0, none⟩)) (by kernel_rfl) (by kernel_rfl) (fun _ => by kernel_rfl) ?_
        refine WD.weaken [0, 2, 3, 10, 14, 16, 18, 19, 68, 69, 77, 82, 83] (L' := [(0, .int .i64 a0), (2, .slice A2 l2.length c2), (3, .slice A3 l3.length c3), (10, .int .i64 r5.1), (14, .pointer (some ⟨b49, 0, none⟩)), (16, .pointer (some ⟨b54, 0, none⟩)), (18, .slice A18_l1 x18_l1.length c18_l1), (19, .int .i64 x69_l1), (68, .int .i64 a1), (69, .int .i64 x69_l1), (77, .slice A18_l1 x18_l1.length c18_l1), (82, .int .i64 (ishl .i64 (wi (r57 - x69_l1)) r5.1)), (83, .pointer (some ⟨b49, 0, none⟩))]) (by kernel_rfl) ?_
        refine WD.pure (i := 7) (v := .int .i64 x69_l1) (by kernel_rfl) (by kernel_rfl) (fun _ => by kernel_rfl) ?_
        refine WD.weaken [0, 2, 3, 10, 14, 16, 18, 68, 69, 77, 82, 83, 84] (L' := [(0, .int .i64 a0), (2, .slice A2 l2.length c2), (3, .slice A3 l3.length c3), (10, .int .i64 r5.1), (14, .pointer (some ⟨b49, 0, none⟩)), (16, .pointer (some ⟨b54, 0, none⟩)), (18, .slice A18_l1 x18_l1.length c18_l1), (68, .int .i64 a1), (69, .int .i64 x69_l1), (77, .slice A18_l1 x18_l1.length c18_l1), (82, .int .i64 (ishl .i64 (wi (r57 - x69_l1)) r5.1)), (83, .pointer (some ⟨b49, 0, none⟩)), (84, .int .i64 x69_l1)]) (by kernel_rfl) ?_
        obtain ⟨r70, e71, H⟩ := bind_ex H
        refine WD.act (i := 8) (by kernel_rfl) (St.call (by kernel_rfl) (f := 26) (args := #[.pointer (some ⟨b49, 0, none⟩), .int .i64 x69_l1]) (by kernel_rfl) (pack_Ints_Get.calls w67 (.pointer (some ⟨b49, 0, none⟩)) (some y46) (Sat.rdAny 1 hS rfl (fun _ h => O66.rd _ _ _ h)) x69_l1 r70 e71) ?_)
        rintro _ w77 ⟨rfl, hS78⟩
        have hS : Sat w77 (rf w0) [osl 3 (r0 (.int .i64)) 1 A18_l1 c18_l1 x18_l1, O66 b49 y46, O68 b54 y51] := hS.ext hS78
        refine ⟨(asked.nil _ _), ?_⟩
        refine WD.weaken [0, 2, 3, 10, 14, 16, 18, 68, 69, 77, 82, 85] (L' := [(0, .int .i64 a0), (2, .slice A2 l2.length c2), (3, .slice A3 l3.length c3), (10, .int .i64 r5.1), (14, .pointer (some ⟨b49, 0, none⟩)), (16, .pointer (some ⟨b54, 0, none⟩)), (18, .slice A18_l1 x18_l1.length c18_l1), (68, .int .i64 a1), (69, .int .i64 x69_l1), (77, .slice A18_l1 x18_l1.length c18_l1), (82, .int .i64 (ishl .i64 (wi (r57 - x69_l1)) r5.1)), (85, .int .u64 r70)]) (by kernel_rfl) ?_
        refine WD.pure (i := 9) (v := .int .i64 (wi r70)) (by kernel_rfl) (by kernel_rfl) (fun _ => by kernel_rfl) ?_
        refine WD.weaken [0, 2, 3, 10, 14, 16, 18, 68, 69, 77, 82, 86] (L' := [(0, .int .i64 a0), (2, .slice A2 l2.length c2), (3, .slice A3 l3.length c3), (10, .int .i64 r5.1), (14, .pointer (some ⟨b49, 0, none⟩)), (16, .pointer (some ⟨b54, 0, none⟩)), (18, .slice A18_l1 x18_l1.length c18_l1), (68, .int .i64 a1), (69, .int .i64 x69_l1), (77, .slice A18_l1 x18_l1.length c18_l1), (82, .int .i64 (ishl .i64 (wi (r57 - x69_l1)) r5.1)), (86, .int .i64 (wi r70))]) (by kernel_rfl) ?_
        refine WD.pure (i := 10) (v := .int .i64 (ior .i64 (ishl .i64 (wi (r57 - x69_l1)) r5.1) (wi r70))) (by kernel_rfl) (by kernel_rfl) (fun _ => by kernel_rfl) ?_
        refine WD.weaken [0, 2, 3, 10, 14, 16, 18, 68, 69, 77, 87] (L' := [(0, .int .i64 a0), (2, .slice A2 l2.length c2), (3, .slice A3 l3.length c3), (10, .int .i64 r5.1), (14, .pointer (some ⟨b49, 0, none⟩)), (16, .pointer (some ⟨b54, 0, none⟩)), (18, .slice A18_l1 x18_l1.length c18_l1), (68, .int .i64 a1), (69, .int .i64 x69_l1), (77, .slice A18_l1 x18_l1.length c18_l1), (87, .int .i64 (ior .i64 (ishl .i64 (wi (r57 - x69_l1)) r5.1) (wi r70)))]) (by kernel_rfl) ?_
        refine WD.act (i := 11) (by kernel_rfl) (St.box hS (by kernel_rfl) (.cells #[.int .i64 (ior .i64 (ishl .i64 (wi (r57 - x69_l1)) r5.1) (wi r70))] 3) (fun b79 => .slice (some ⟨b79, 0, none⟩) 1 1) (fun _ => by kernel_rfl) (fun b79 w80 hS => ?_))
        refine ⟨(asked.nil _ _), ?_⟩
        refine WD.weaken [0, 2, 3, 10, 14, 16, 18, 68, 69, 77, 88] (L' := [(0, .int .i64 a0), (2, .slice A2 l2.length c2), (3, .slice A3 l3.length c3), (10, .int .i64 r5.1), (14, .pointer (some ⟨b49, 0, none⟩)), (16, .pointer (some ⟨b54, 0, none⟩)), (18, .slice A18_l1 x18_l1.length c18_l1), (68, .int .i64 a1), (69, .int .i64 x69_l1), (77, .slice A18_l1 x18_l1.length c18_l1), (88, .slice (some ⟨b79, 0, none⟩) 1 1)]) (by kernel_rfl) ?_
        have hS : Sat w80 (rf w0) [osl 3 (r0 (.int .i64)) 1 A18_l1 c18_l1 x18_l1, pts b79 (.cells #[.int .i64 (ior .i64 (ishl .i64 (wi (r57 - x69_l1)) r5.1) (wi r70))] 3 (0, 0)), O66 b49 y46, O68 b54 y51] := hS.sel [1, 0, 2, 3] (by kernel_rfl)
        obtain ⟨y82, e81, H⟩ := bind_ex H
        refine WD.act (i := 12) (by kernel_rfl) (St.append' (.tmp 77) (.tmp 88) (by kernel_rfl) (by kernel_rfl) E22 (r0_one _) hS (by kernel_rfl) (by kernel_rfl) (Sat.ptsAt 1 (r0 (.int .i64)) 1 ([ior .i64 (ishl .i64 (wi (r57 - x69_l1)) r5.1) (wi r70)] : List Int) hS rfl rfl (rdL.cons1 rfl (rdL.nil _ _))) 17592186044416 (by kernel_rfl) (by kernel_rfl) e81 (fun A83 c84 w85 hS => ?_))
        refine ⟨(asked.nil _ _), ?_⟩
        refine WD.weaken [0, 2, 3, 10, 14, 16, 68, 69, 89] (L' := [(0, .int .i64 a0), (2, .slice A2 l2.length c2), (3, .slice A3 l3.length c3), (10, .int .i64 r5.1), (14, .pointer (some ⟨b49, 0, none⟩)), (16, .pointer (some ⟨b54, 0, none⟩)), (68, .int .i64 a1), (69, .int .i64 x69_l1), (89, .slice A83 y82.length c84)]) (by kernel_rfl) ?_
        refine WD.pure (i := 13) (v := .slice A83 y82.length c84) (by kernel_rfl) (by kernel_rfl) (fun _ => by kernel_rfl) ?_
        refine WD.weaken [0, 2, 3, 10, 14, 16, 18, 68, 69] (L' := [(0, .int .i64 a0), (2, .slice A2 l2.length c2), (3, .slice A3 l3.length c3), (10, .int .i64 r5.1), (14, .pointer (some ⟨b49, 0, none⟩)), (16, .pointer (some ⟨b54, 0, none⟩)), (18, .slice A83 y82.length c84), (68, .int .i64 a1), (69, .int .i64 x69_l1)]) (by kernel_rfl) ?_
        refine WD.nil (by kernel_rfl) ?_
        refine At.blockNormal ?_
        refine At.go ?_
        refine WC.reg [0, 1] (by kernel_rfl) (by kernel_rfl) ?_
        refine WR.runk [0, 1] [] [0, 2, 3, 10, 14, 16, 18, 68, 69] (L' := [(0, .int .i64 a0), (2, .slice A2 l2.length c2), (3, .slice A3 l3.length c3), (10, .int .i64 r5.1), (14, .pointer (some ⟨b49, 0, none⟩)), (16, .pointer (some ⟨b54, 0, none⟩)), (18, .slice A83 y82.length c84), (68, .int .i64 a1), (69, .int .i64 (wi (x69_l1 + 1)))]) (w' := w85) (by kernel_rfl) ?_
        refine WR.nil ?_
        have hS : Sat w85 (rf w0) [osl 3 (r0 (.int .i64)) 1 A83 c84 y82, O66 b49 y46, O68 b54 y51] := hS.sel [0, 2, 3] (by kernel_rfl)
        refine At.again ?_
        refine WL.weaken [0, 2, 3, 10, 14, 16, 18, 68, 69] (L' := [(0, .int .i64 a0), (2, .slice A2 l2.length c2), (3, .slice A3 l3.length c3), (10, .int .i64 r5.1), (14, .pointer (some ⟨b49, 0, none⟩)), (16, .pointer (some ⟨b54, 0, none⟩)), (18, .slice A83 y82.length c84), (68, .int .i64 a1), (69, .int .i64 (wi (x69_l1 + 1)))]) (by kernel_rfl) ?_
        exact ih y82 (wi (x69_l1 + 1)) A83 c84 _ hS H
    · replace H := ite_f H hb56
      refine WC.exit (by kernel_rfl) ?_
      refine At.thenExit ?_
      refine At.thenExit ?_
      obtain rfl := Option.some.inj H
      have hS : Sat w (rf w0) [osl 3 (r0 (.int .i64)) 1 A18_l1 c18_l1 x18_l1, O66 b49 y46, O68 b54 y51] := hS.sel [0, 1, 2] (by kernel_rfl)
      refine At.weaken [0, 2, 3, 18] (L' := [(0, .int .i64 a0), (2, .slice A2 l2.length c2), (3, .slice A3 l3.length c3), (18, .slice A18_l1 x18_l1.length c18_l1)]) (by kernel_rfl) ?_
      exact hn1 x18_l1 A18_l1 c18_l1 _ rfl hS
theorem sparse_From.calls (w0 : World) (a0 : Int) (a1 : Int) (A2 : Option Addr) (c2 : Nat) (l2 : List Int) (R2 : rdS (r0 (.int .u64)) 1 (hp w0) A2 c2 l2) (A3 : Option Addr) (c3 : Nat) (l3 : List Int) (R3 : rdS (r0 (.int .u64)) 1 (hp w0) A3 c3 l3) (r : (Option (Int × Int × Int × (Option (Int × (List Int) × (List Int) × Int)) × (Option (Int × Int × (List Int))) × (Option (Int × Int × (List Int))))) × Int) (H : sparse_From.f a0 a1 l2 l3 = some r) :
    Calls Try.prog 20 #[.int .i64 a0, .int .i64 a1, .slice A2 l2.length c2, .slice A3 l3.length c3] w0 (fun e w' => ∃ v, e = .returned v ∧ sparse_From.post w0 r v w') := by
  have hS : Sat w0 (rf w0) [] := Sat.start w0
  unfold sparse_From.f at H
  refine calls_of_WC (vs := [.int .i64 a0, .int .i64 a1, .slice A2 l2.length c2, .slice A3 l3.length c3]) Try.func20 (c := C20) (n := 120) (by kernel_rfl) (by kernel_rfl) (by kernel_rfl) ?_
  refine WC.seq (by kernel_rfl) ?_
  refine WC.reg [0, 1] (by kernel_rfl) (by kernel_rfl) ?_
  refine WR.runk [0, 1] [] [0, 1, 2, 3] (L' := [(0, .int .i64 a0), (1, .int .i64 a1), (2, .slice A2 l2.length c2), (3, .slice A3 l3.length c3)]) (w' := w0) (by kernel_rfl) ?_
  refine WR.nil ?_
  refine At.go ?_
  refine WC.seq (by kernel_rfl) ?_
  refine WC.seq (by kernel_rfl) ?_
  refine WC.reg [0, 1, 2, 3, 4, 5, 6, 7, 8, 9, 10, 11, 12, 13, 14] (by kernel_rfl) (by kernel_rfl) ?_
  refine WR.runk [0, 1, 2] [3, 4, 5, 6, 7, 8, 9, 10, 11, 12, 13, 14] [0, 1, 2, 3, 24] (L' := [(0, .int .i64 a0), (1, .int .i64 a1), (2, .slice A2 l2.length c2), (3, .slice A3 l3.length c3), (24, .bool (decide (a0 < 0)))]) (w' := w0) (by kernel_rfl) ?_
  refine WR.split 24 (b := decide (a0 < 0)) (by kernel_rfl) (fun hb1 => ?_) (fun hb1 => ?_)
  · replace H := ite_t H hb1
    refine WR.runk [3, 4, 5, 6, 7, 8, 9, 10, 11, 12, 13, 14] [] [0, 1, 2, 3, 36] (L' := [(0, .int .i64 a0), (1, .int .i64 a1), (2, .slice A2 l2.length c2), (3, .slice A3 l3.length c3), (36, .bool true)]) (w' := w0) (by kernel_rfl) ?_
    refine WR.nil ?_
    refine At.go ?_
    refine WC.condT (by kernel_rfl) (by kernel_rfl) (by kernel_rfl) ?_
    refine WC.seq (by kernel_rfl) ?_
    refine WC.reg [0, 1] (by kernel_rfl) (by kernel_rfl) ?_
    refine WR.runk [0, 1] [] [8, 9] (L' := [(8, .pointer none), (9, .int .i64 2)]) (w' := w0) (by kernel_rfl) ?_
    refine WR.nil ?_
    refine At.go ?_
    refine WC.ret (by kernel_rfl) ?_
    refine At.thenRet ?_
    obtain rfl := Option.some.inj H
    have hS := optP.nil (O := O49) hS
    have hS : Sat w0 (rf w0) [optP O49 (.pointer none) none] := hS.sel [0] (by kernel_rfl)
    exact At.body [.pointer none, .int .i64 2] (by kernel_rfl) ⟨_, rfl, _, rfl, hS⟩
  · replace H := ite_f H hb1
    refine WR.runk [3, 4, 5, 6] [7, 8, 9, 10, 11, 12, 13, 14] [0, 1, 2, 3, 28] (L' := [(0, .int .i64 a0), (1, .int .i64 a1), (2, .slice A2 l2.length c2), (3, .slice A3 l3.length c3), (28, .bool (decide (a0 > 4194304)))]) (w' := w0) (by kernel_rfl) ?_
    refine WR.split 28 (b := decide (a0 > 4194304)) (by kernel_rfl) (fun hb2 => ?_) (fun hb2 => ?_)
    · replace H := ite_t H hb2
      refine WR.runk [7, 8, 9, 10, 11, 12, 13, 14] [] [0, 1, 2, 3, 36] (L' := [(0, .int .i64 a0), (1, .int .i64 a1), (2, .slice A2 l2.length c2), (3, .slice A3 l3.length c3), (36, .bool true)]) (w' := w0) (by kernel_rfl) ?_
      refine WR.nil ?_
      refine At.go ?_
      refine WC.condT (by kernel_rfl) (by kernel_rfl) (by kernel_rfl) ?_
      refine WC.seq (by kernel_rfl) ?_
      refine WC.reg [0, 1] (by kernel_rfl) (by kernel_rfl) ?_
      refine WR.runk [0, 1] [] [8, 9] (L' := [(8, .pointer none), (9, .int .i64 2)]) (w' := w0) (by kernel_rfl) ?_
      refine WR.nil ?_
      refine At.go ?_
      refine WC.ret (by kernel_rfl) ?_
      refine At.thenRet ?_
      obtain rfl := Option.some.inj H
      have hS := optP.nil (O := O49) hS
      have hS : Sat w0 (rf w0) [optP O49 (.pointer none) none] := hS.sel [0] (by kernel_rfl)
      exact At.body [.pointer none, .int .i64 2] (by kernel_rfl) ⟨_, rfl, _, rfl, hS⟩
    · replace H := ite_f H hb2
      refine WR.runk [7, 8, 9, 10] [11, 12, 13, 14] [0, 1, 2, 3, 32] (L' := [(0, .int .i64 a0), (1, .int .i64 a1), (2, .slice A2 l2.length c2), (3, .slice A3 l3.length c3), (32, .bool (decide (a1 < 0)))]) (w' := w0) (by kernel_rfl) ?_
      refine WR.split 32 (b := decide (a1 < 0)) (by kernel_rfl) (fun hb3 => ?_) (fun hb3 => ?_)
      · replace H := ite_t H hb3
        refine WR.runk [11, 12, 13, 14] [] [0, 1, 2, 3, 36] (L' := [(0, .int .i64 a0), (1, .int .i64 a1), (2, .slice A2 l2.length c2), (3, .slice A3 l3.length c3), (36, .bool true)]) (w' := w0) (by kernel_rfl) ?_
        refine WR.nil ?_
        refine At.go ?_
        refine WC.condT (by kernel_rfl) (by kernel_rfl) (by kernel_rfl) ?_
        refine WC.seq (by kernel_rfl) ?_
        refine WC.reg [0, 1] (by kernel_rfl) (by kernel_rfl) ?_
        refine WR.runk [0, 1] [] [8, 9] (L' := [(8, .pointer none), (9, .int .i64 2)]) (w' := w0) (by kernel_rfl) ?_
        refine WR.nil ?_
        refine At.go ?_
        refine WC.ret (by kernel_rfl) ?_
        refine At.thenRet ?_
        obtain rfl := Option.some.inj H
        have hS := optP.nil (O := O49) hS
        have hS : Sat w0 (rf w0) [optP O49 (.pointer none) none] := hS.sel [0] (by kernel_rfl)
        exact At.body [.pointer none, .int .i64 2] (by kernel_rfl) ⟨_, rfl, _, rfl, hS⟩
      · replace H := ite_f H hb3
        refine WR.runk [11, 12, 13, 14] [] [0, 1, 2, 3, 36] (L' := [(0, .int .i64 a0), (1, .int .i64 a1), (2, .slice A2 l2.length c2), (3, .slice A3 l3.length c3), (36, .bool (decide (a1 > a0)))]) (w' := w0) (by kernel_rfl) ?_
        refine WR.nil ?_
        refine At.go ?_
        refine WC.cond (by kernel_rfl) (decide (a1 > a0)) (by kernel_rfl) (by kernel_rfl) (fun hb4 => ?_) (fun hb4 => ?_)
        · replace H := ite_t H hb4
          refine WC.seq (by kernel_rfl) ?_
          refine WC.reg [0, 1] (by kernel_rfl) (by kernel_rfl) ?_
          refine WR.runk [0, 1] [] [8, 9] (L' := [(8, .pointer none), (9, .int .i64 2)]) (w' := w0) (by kernel_rfl) ?_
          refine WR.nil ?_
          refine At.go ?_
          refine WC.ret (by kernel_rfl) ?_
          refine At.thenRet ?_
          obtain rfl := Option.some.inj H
          have hS := optP.nil (O := O49) hS
          have hS : Sat w0 (rf w0) [optP O49 (.pointer none) none] := hS.sel [0] (by kernel_rfl)
          exact At.body [.pointer none, .int .i64 2] (by kernel_rfl) ⟨_, rfl, _, rfl, hS⟩
        · replace H := ite_f H hb4
          refine WC.skip (by kernel_rfl) ?_
          refine At.go ?_
          refine WC.seq (by kernel_rfl) ?_
          refine WC.reg [0, 1, 2, 3, 4, 5, 6, 7] (by kernel_rfl) (by kernel_rfl) ?_
          refine WR.runk [0, 1] [2, 3, 4, 5, 6, 7] [0, 1, 2, 3, 38, 39] (L' := [(0, .int .i64 a0), (1, .int .i64 a1), (2, .slice A2 l2.length c2), (3, .slice A3 l3.length c3), (38, .int .i64 a0), (39, .int .i64 a1)]) (w' := w0) (by kernel_rfl) ?_
          obtain ⟨r5, e6, H⟩ := bind_ex H
          refine WR.st (St.call (by kernel_rfl) (f := 21) (args := #[.int .i64 a0, .int .i64 a1]) (by kernel_rfl) (sparse_shape.calls w0 a0 a1 r5 e6) ?_)
          rintro _ w12 ⟨rfl, hS13⟩
          have hS : Sat w12 (rf w0) [] := hS.ext hS13
          refine WR.runk [3, 4, 5, 6, 7] [] [0, 1, 2, 3, 10, 11] (L' := [(0, .int .i64 a0), (1, .int .i64 a1), (2, .slice A2 l2.length c2), (3, .slice A3 l3.length c3), (10, .int .i64 r5.1), (11, .int .i64 r5.2)]) (w' := w12) (by kernel_rfl) ?_
          refine WR.nil ?_
          refine At.go ?_
          refine WC.seq (by kernel_rfl) ?_
          refine WC.reg [0, 1, 2, 3, 4, 5, 6, 7] (by kernel_rfl) (by kernel_rfl) ?_
          refine WR.runk [0, 1] [2, 3, 4, 5, 6, 7] [0, 1, 2, 3, 10, 44, 45] (L' := [(0, .int .i64 a0), (1, .int .i64 a1), (2, .slice A2 l2.length c2), (3, .slice A3 l3.length c3), (10, .int .i64 r5.1), (44, .int .i64 r5.2), (45, .slice A2 l2.length c2)]) (w' := w12) (by kernel_rfl) ?_
          obtain ⟨r14, e15, H⟩ := bind_ex H
          refine WR.st (St.call (by kernel_rfl) (f := 31) (args := #[.int .i64 1, .int .i64 r5.2, .slice A2 l2.length c2]) (by kernel_rfl) (pack_From.calls w12 1 r5.2 A2 c2 l2 (rdS.up R2 hS.sub0) r14 e15) ?_)
          rintro _ w21 ⟨pv23, rfl, hS22⟩
          have hS : Sat w21 (rf w0) [optP O66 pv23 r14.1] := hS.ext hS22
          refine WR.runk [3, 4, 5, 6, 7] [] [0, 1, 2, 3, 10, 12, 13] (L' := [(0, .int .i64 a0), (1, .int .i64 a1), (2, .slice A2 l2.length c2), (3, .slice A3 l3.length c3), (10, .int .i64 r5.1), (12, pv23), (13, .int .i64 r14.2)]) (w' := w21) (by kernel_rfl) ?_
          refine WR.nil ?_
          refine At.go ?_
          refine WC.seq (by kernel_rfl) ?_
          refine WC.reg [0, 1, 2, 3, 4, 5, 6, 7, 8, 9] (by kernel_rfl) (by kernel_rfl) ?_
          refine WR.runk [0, 1, 2, 3] [4, 5, 6, 7, 8, 9] [0, 1, 2, 3, 10, 12, 13, 51, 52, 53] (L' := [(0, .int .i64 a0), (1, .int .i64 a1), (2, .slice A2 l2.length c2), (3, .slice A3 l3.length c3), (10, .int .i64 r5.1), (12, pv23), (13, .int .i64 r14.2), (51, .int .i64 (imax 1 r5.1)), (52, .int .i64 a1), (53, .slice A3 l3.length c3)]) (w' := w21) (by kernel_rfl) ?_
          obtain ⟨r24, e25, H⟩ := bind_ex H
          refine WR.st (St.call (by kernel_rfl) (f := 31) (args := #[.int .i64 (imax 1 r5.1), .int .i64 a1, .slice A3 l3.length c3]) (by kernel_rfl) (pack_From.calls w21 (imax 1 r5.1) a1 A3 c3 l3 (rdS.up R3 hS.sub0) r24 e25) ?_)
          rintro _ w31 ⟨pv33, rfl, hS32⟩
          have hS : Sat w31 (rf w0) [optP O66 pv33 r24.1, optP O66 pv23 r14.1] := hS.ext hS32
          refine WR.runk [5, 6, 7, 8, 9] [] [0, 1, 2, 3, 10, 12, 13, 14, 15] (L' := [(0, .int .i64 a0), (1, .int .i64 a1), (2, .slice A2 l2.length c2), (3, .slice A3 l3.length c3), (10, .int .i64 r5.1), (12, pv23), (13, .int .i64 r14.2), (14, pv33), (15, .int .i64 r24.2)]) (w' := w31) (by kernel_rfl) ?_
          refine WR.nil ?_
          refine At.go ?_
          refine WC.seq (by kernel_rfl) ?_
          refine WC.seq (by kernel_rfl) ?_
          refine WC.reg [0, 1, 2, 3, 4, 5] (by kernel_rfl) (by kernel_rfl) ?_
          refine WR.runk [0, 1, 2] [3, 4, 5] [0, 1, 2, 3, 10, 12, 14, 15, 59] (L' := [(0, .int .i64 a0), (1, .int .i64 a1), (2, .slice A2 l2.length c2), (3, .slice A3 l3.length c3), (10, .int .i64 r5.1), (12, pv23), (14, pv33), (15, .int .i64 r24.2), (59, .bool (r14.2 != 0))]) (w' := w31) (by kernel_rfl) ?_
          refine WR.split 59 (b := (r14.2 != 0)) (by kernel_rfl) (fun hb34 => ?_) (fun hb34 => ?_)
          · replace H := ite_t H hb34
            refine WR.runk [3, 4, 5] [] [0, 1, 2, 3, 10, 12, 14, 62] (L' := [(0, .int .i64 a0), (1, .int .i64 a1), (2, .slice A2 l2.length c2), (3, .slice A3 l3.length c3), (10, .int .i64 r5.1), (12, pv23), (14, pv33), (62, .bool true)]) (w' := w31) (by kernel_rfl) ?_
            refine WR.nil ?_
            refine At.go ?_
            refine WC.condT (by kernel_rfl) (by kernel_rfl) (by kernel_rfl) ?_
            refine WC.seq (by kernel_rfl) ?_
            refine WC.reg [0, 1] (by kernel_rfl) (by kernel_rfl) ?_
            refine WR.runk [0, 1] [] [8, 9] (L' := [(8, .pointer none), (9, .int .i64 10)]) (w' := w31) (by kernel_rfl) ?_
            refine WR.nil ?_
            refine At.go ?_
            refine WC.ret (by kernel_rfl) ?_
            refine At.thenRet ?_
            obtain rfl := Option.some.inj H
            have hS := optP.nil (O := O49) hS
            have hS : Sat w31 (rf w0) [optP O49 (.pointer none) none] := hS.sel [0] (by kernel_rfl)
            exact At.body [.pointer none, .int .i64 10] (by kernel_rfl) ⟨_, rfl, _, rfl, hS⟩
          · replace H := ite_f H hb34
            refine WR.runk [3, 4, 5] [] [0, 1, 2, 3, 10, 12, 14, 62] (L' := [(0, .int .i64 a0), (1, .int .i64 a1), (2, .slice A2 l2.length c2), (3, .slice A3 l3.length c3), (10, .int .i64 r5.1), (12, pv23), (14, pv33), (62, .bool (r24.2 != 0))]) (w' := w31) (by kernel_rfl) ?_
            refine WR.nil ?_
            refine At.go ?_
            refine WC.cond (by kernel_rfl) (r24.2 != 0) (by kernel_rfl) (by kernel_rfl) (fun hb35 => ?_) (fun hb35 => ?_)
            · replace H := ite_t H hb35
              refine WC.seq (by kernel_rfl) ?_
              refine WC.reg [0, 1] (by kernel_rfl) (by kernel_rfl) ?_
              refine WR.runk [0, 1] [] [8, 9] (L' := [(8, .pointer none), (9, .int .i64 10)]) (w' := w31) (by kernel_rfl) ?_
              refine WR.nil ?_
              refine At.go ?_
              refine WC.ret (by kernel_rfl) ?_
              refine At.thenRet ?_
              obtain rfl := Option.some.inj H
              have hS := optP.nil (O := O49) hS
              have hS : Sat w31 (rf w0) [optP O49 (.pointer none) none] := hS.sel [0] (by kernel_rfl)
              exact At.body [.pointer none, .int .i64 10] (by kernel_rfl) ⟨_, rfl, _, rfl, hS⟩
            · replace H := ite_f H hb35
              refine WC.skip (by kernel_rfl) ?_
              refine At.go ?_
              refine WC.seq (by kernel_rfl) ?_
              refine WC.reg [0, 1, 2, 3, 4, 5, 6] (by kernel_rfl) (by kernel_rfl) ?_
              refine WR.runk [0] [1, 2, 3, 4, 5, 6] [0, 1, 2, 3, 10, 14, 64] (L' := [(0, .int .i64 a0), (1, .int .i64 a1), (2, .slice A2 l2.length c2), (3, .slice A3 l3.length c3), (10, .int .i64 r5.1), (14, pv33), (64, pv23)]) (w' := w31) (by kernel_rfl) ?_
              obtain ⟨r36, e37, H⟩ := bind_ex H
              refine WR.st (St.call (by kernel_rfl) (f := 24) (args := #[pv23]) (by kernel_rfl) (rank_New.calls w31 (pv23) r14.1 (Sat.rdAny 1 hS rfl (fun _ h => optP.rdd (t := 66) (κ := (.pair (.int .i64) (.pair (.int .i64) (.slice 43 (.int .u64))))) (O := O66) O66.rd h)) r36 e37) ?_)
              rintro _ w43 ⟨pv45, rfl, hS44⟩
              have hS : Sat w43 (rf w0) [optP O68 pv45 r36.1, optP O66 pv33 r24.1, optP O66 pv23 r14.1] := hS.ext hS44
              refine WR.runk [2, 3, 4, 5, 6] [] [0, 1, 2, 3, 10, 14, 16] (L' := [(0, .int .i64 a0), (1, .int .i64 a1), (2, .slice A2 l2.length c2), (3, .slice A3 l3.length c3), (10, .int .i64 r5.1), (14, pv33), (16, pv45)]) (w' := w43) (by kernel_rfl) ?_
              refine WR.nil ?_
              refine At.go ?_
              refine WC.seq (by kernel_rfl) ?_
              refine WC.reg [0] (by kernel_rfl) (by kernel_rfl) ?_
              refine WR.runk [0] [] [0, 1, 2, 3, 10, 14, 16, 18] (L' := [(0, .int .i64 a0), (1, .int .i64 a1), (2, .slice A2 l2.length c2), (3, .slice A3 l3.length c3), (10, .int .i64 r5.1), (14, pv33), (16, pv45), (18, .slice none 0 0)]) (w' := w43) (by kernel_rfl) ?_
              refine WR.nil ?_
              refine At.go ?_
              refine WC.seq (by kernel_rfl) ?_
              refine WC.seq (by kernel_rfl) ?_
              refine WC.reg [0, 1] (by kernel_rfl) (by kernel_rfl) ?_
              refine WR.runk [0, 1] [] [0, 2, 3, 10, 14, 16, 18, 68, 69] (L' := [(0, .int .i64 a0), (2, .slice A2 l2.length c2), (3, .slice A3 l3.length c3), (10, .int .i64 r5.1), (14, pv33), (16, pv45), (18, .slice none 0 0), (68, .int .i64 a1), (69, .int .i64 0)]) (w' := w43) (by kernel_rfl) ?_
              refine WR.nil ?_
              refine At.go ?_
              refine WC.block (by kernel_rfl) ?_
              have hS : Sat w43 (rf w0) [optP O66 pv33 r24.1, optP O68 pv45 r36.1, optP O66 pv23 r14.1] := hS.sel [1, 0, 2] (by kernel_rfl)
              obtain ⟨y46, hr47, H⟩ := bind_ex H
              obtain ⟨b49, hv48, hN159⟩ := optP.some hS hr47
              subst hv48
              have hS : Sat w43 (rf w0) [O66 b49 y46, optP O68 pv45 r36.1, optP O66 pv23 r14.1] := hN159
              have hS : Sat w43 (rf w0) [optP O68 pv45 r36.1, O66 b49 y46, optP O66 pv23 r14.1] := hS.sel [1, 0, 2] (by kernel_rfl)
              obtain ⟨y51, hr52, H⟩ := bind_ex H
              obtain ⟨b54, hv53, hN158⟩ := optP.some hS hr52
              subst hv53
              have hS : Sat w43 (rf w0) [O68 b54 y51, O66 b49 y46, optP O66 pv23 r14.1] := hN158
              have hS := hS.addNil (α := Int) 3 (r0 (.int .i64)) 1
              have hS : Sat w43 (rf w0) [osl 3 (r0 (.int .i64)) 1 none 0 ([] : List Int), O66 b49 y46, O68 b54 y51] := hS.sel [0, 2, 1] (by kernel_rfl)
              obtain ⟨o86, e87, H⟩ := bind_ex H
              refine WC.loop (by kernel_rfl) ?_
              refine WL.weaken [0, 2, 3, 10, 14, 16, 18, 68, 69] (L' := [(0, .int .i64 a0), (2, .slice A2 l2.length c2), (3, .slice A3 l3.length c3), (10, .int .i64 r5.1), (14, .pointer (some ⟨b49, 0, none⟩)), (16, .pointer (some ⟨b54, 0, none⟩)), (18, .slice none 0 0), (68, .int .i64 a1), (69, .int .i64 0)]) (by kernel_rfl) ?_
              refine sparse_From.l1_ok w0 a0 a1 A2 c2 l2 A3 c3 l3 r5 y46 b49 y51 b54 o86 (fun o88 w90 ho91 hS => ?_) (fun o92 A18_q93 c18_q93 w94 ho95 hS => ?_) FU ([] : List Int) 0 none 0 _ hS e87
              · subst ho91
                dsimp only at H
                refine At.blockRet ?_
                refine At.thenRet ?_
                obtain rfl := Option.some.inj H
                have hS := optP.nil (O := O49) hS
                have hS : Sat w90 (rf w0) [optP O49 (.pointer none) none] := hS.sel [0] (by kernel_rfl)
                exact At.body [.pointer none, .int .i64 o88] (by kernel_rfl) ⟨_, rfl, _, rfl, hS⟩
              · subst ho95
                dsimp only at H
                refine At.hit ?_
                refine At.go ?_
                refine WC.seq (by kernel_rfl) ?_
                refine WC.reg [0, 1, 2, 3, 4, 5, 6, 7] (by kernel_rfl) (by kernel_rfl) ?_
                refine WR.runk [0, 1] [2, 3, 4, 5, 6, 7] [2, 3, 92, 93] (L' := [(2, .slice A2 l2.length c2), (3, .slice A3 l3.length c3), (92, .int .i64 a0), (93, .slice A18_q93 o92.length c18_q93)]) (w' := w94) (by kernel_rfl) ?_
                obtain ⟨r96, e97, H⟩ := bind_ex H
                refine WR.st (St.call (by kernel_rfl) (f := 10) (args := #[.int .i64 a0, .slice A18_q93 o92.length c18_q93]) (by kernel_rfl) (sparse_New.calls w94 a0 A18_q93 c18_q93 o92 (Sat.rdAt 0 hS rfl) r96 e97) ?_)
                rintro _ w103 ⟨pv105, rfl, hS104⟩
                have hS : Sat w103 (rf w0) [optP O49 pv105 r96.1, osl 3 (r0 (.int .i64)) 1 A18_q93 c18_q93 o92, O66 b49 y46, O68 b54 y51] := hS.ext hS104
                refine WR.runk [3, 4, 5, 6, 7] [] [2, 3, 13, 21] (L' := [(2, .slice A2 l2.length c2), (3, .slice A3 l3.length c3), (13, .int .i64 r96.2), (21, pv105)]) (w' := w103) (by kernel_rfl) ?_
                refine WR.nil ?_
                refine At.go ?_
                refine WC.seq (by kernel_rfl) ?_
                refine WC.seq (by kernel_rfl) ?_
                refine WC.reg [0, 1, 2, 3, 4, 5, 6, 7, 8, 9, 10, 11, 12, 13, 14, 15, 16, 17, 18, 19, 20, 21] (by kernel_rfl) (by kernel_rfl) ?_
                refine WR.runk [0, 1, 2] [3, 4, 5, 6, 7, 8, 9, 10, 11, 12, 13, 14, 15, 16, 17, 18, 19, 20, 21] [2, 3, 21, 99] (L' := [(2, .slice A2 l2.length c2), (3, .slice A3 l3.length c3), (21, pv105), (99, .bool (r96.2 != 0))]) (w' := w103) (by kernel_rfl) ?_
                refine WR.split 99 (b := (r96.2 != 0)) (by kernel_rfl) (fun hb106 => ?_) (fun hb106 => ?_)
                · replace H := ite_t H hb106
                  refine WR.runk [3, 4, 5, 6, 7, 8, 9, 10, 11, 12, 13, 14, 15, 16, 17, 18, 19, 20, 21] [] [21, 118] (L' := [(21, pv105), (118, .bool true)]) (w' := w103) (by kernel_rfl) ?_
                  refine WR.nil ?_
                  refine At.go ?_
                  refine WC.condT (by kernel_rfl) (by kernel_rfl) (by kernel_rfl) ?_
                  refine WC.seq (by kernel_rfl) ?_
                  refine WC.reg [0, 1] (by kernel_rfl) (by kernel_rfl) ?_
                  refine WR.runk [0, 1] [] [8, 9] (L' := [(8, .pointer none), (9, .int .i64 10)]) (w' := w103) (by kernel_rfl) ?_
                  refine WR.nil ?_
                  refine At.go ?_
                  refine WC.ret (by kernel_rfl) ?_
                  refine At.thenRet ?_
                  obtain rfl := Option.some.inj H
                  have hS := optP.nil (O := O49) hS
                  have hS : Sat w103 (rf w0) [optP O49 (.pointer none) none] := hS.sel [0] (by kernel_rfl)
                  exact At.body [.pointer none, .int .i64 10] (by kernel_rfl) ⟨_, rfl, _, rfl, hS⟩
                · replace H := ite_f H hb106
                  refine WR.runk [3] [4, 5, 6, 7, 8, 9, 10, 11, 12, 13, 14, 15, 16, 17, 18, 19, 20, 21] [2, 3, 21, 99, 100] (L' := [(2, .slice A2 l2.length c2), (3, .slice A3 l3.length c3), (21, pv105), (99, .bool false), (100, pv105)]) (w' := w103) (by kernel_rfl) ?_
                  obtain ⟨y107, hr108, H⟩ := bind_ex H
                  obtain ⟨b110, hv109, hN157⟩ := optP.some hS hr108
                  subst hv109
                  have hS : Sat w103 (rf w0) [O49 b110 y107, osl 3 (r0 (.int .i64)) 1 A18_q93 c18_q93 o92, O66 b49 y46, O68 b54 y51] := hN157
                  refine WR.runk [4, 5] [6, 7, 8, 9, 10, 11, 12, 13, 14, 15, 16, 17, 18, 19, 20, 21] [2, 3, 21, 99, 102] (L' := [(2, .slice A2 l2.length c2), (3, .slice A3 l3.length c3), (21, .pointer (some ⟨b110, 0, none⟩)), (99, .bool false), (102, .pointer (some ⟨b110, 4, none⟩))]) (w' := w103) (by kernel_rfl) ?_
                  obtain ⟨pv112, pv113, pv114, hS⟩ := O49.open hS
                  have hS : Sat w103 (rf w0) [pts b110 (.cells #[.int .i64 y107.1, .int .i64 y107.2.1, .int .i64 y107.2.2.1, pv112, pv113, pv114] 49 (0, 0)), optP O68 pv112 y107.2.2.2.1, optP O66 pv113 y107.2.2.2.2.1, optP O66 pv114 y107.2.2.2.2.2, osl 3 (r0 (.int .i64)) 1 A18_q93 c18_q93 o92, O66 b49 y46, O68 b54 y51] := hS
                  refine WR.st (St.ofR (RSt.loadObj (t := 47) (k := 4) (v := pv113) (.tmp 102) (by kernel_rfl) (by kernel_rfl) (by kernel_rfl) 0 hS rfl (by kernel_rfl) rfl ?_))
                  refine WR.runk [] [7, 8, 9, 10, 11, 12, 13, 14, 15, 16, 17, 18, 19, 20, 21] [2, 3, 21, 99, 103] (L' := [(2, .slice A2 l2.length c2), (3, .slice A3 l3.length c3), (21, .pointer (some ⟨b110, 0, none⟩)), (99, .bool false), (103, pv113)]) (w' := w103) (by kernel_rfl) ?_
                  obtain ⟨r115, e116, H⟩ := bind_ex H
                  refine WR.st (St.call (by kernel_rfl) (f := 27) (args := #[pv113]) (by kernel_rfl) (pack_Ints_Words.calls w103 (pv113) y107.2.2.2.2.1 (Sat.rdAny 2 hS rfl (fun _ h => optP.rdd (t := 66) (κ := (.pair (.int .i64) (.pair (.int .i64) (.slice 43 (.int .u64))))) (O := O66) O66.rd h)) r115 e116) ?_)
                  rintro _ w122 ⟨A124, c125, rfl, hS123⟩
                  have hS : Sat w122 (rf w0) [osl 43 (r0 (.int .u64)) 1 A124 c125 r115, pts b110 (.cells #[.int .i64 y107.1, .int .i64 y107.2.1, .int .i64 y107.2.2.1, pv112, pv113, pv114] 49 (0, 0)), optP O68 pv112 y107.2.2.2.1, optP O66 pv113 y107.2.2.2.2.1, optP O66 pv114 y107.2.2.2.2.2, osl 3 (r0 (.int .i64)) 1 A18_q93 c18_q93 o92, O66 b49 y46, O68 b54 y51] := hS.ext hS123
                  refine WR.runk [8] [9, 10, 11, 12, 13, 14, 15, 16, 17, 18, 19, 20, 21] [3, 21, 99, 104, 105] (L' := [(3, .slice A3 l3.length c3), (21, .pointer (some ⟨b110, 0, none⟩)), (99, .bool false), (104, .slice A124 r115.length c125), (105, .slice A2 l2.length c2)]) (w' := w122) (by kernel_rfl) ?_
                  obtain ⟨r126, e127, H⟩ := bind_ex H
                  refine WR.st (St.call (by kernel_rfl) (f := 32) (args := #[.slice A124 r115.length c125, .slice A2 l2.length c2]) (by kernel_rfl) (slices_Equal.calls w122 A124 c125 r115 (Sat.rdAt 0 hS rfl) A2 c2 l2 (rdS.up R2 hS.sub0) r126 e127) ?_)
                  rintro _ w133 ⟨rfl, hS134⟩
                  have hS : Sat w133 (rf w0) [osl 43 (r0 (.int .u64)) 1 A124 c125 r115, pts b110 (.cells #[.int .i64 y107.1, .int .i64 y107.2.1, .int .i64 y107.2.2.1, pv112, pv113, pv114] 49 (0, 0)), optP O68 pv112 y107.2.2.2.1, optP O66 pv113 y107.2.2.2.2.1, optP O66 pv114 y107.2.2.2.2.2, osl 3 (r0 (.int .i64)) 1 A18_q93 c18_q93 o92, O66 b49 y46, O68 b54 y51] := hS.ext hS134
                  refine WR.runk [10, 11, 12] [13, 14, 15, 16, 17, 18, 19, 20, 21] [3, 21, 109] (L' := [(3, .slice A3 l3.length c3), (21, .pointer (some ⟨b110, 0, none⟩)), (109, .bool (!r126))]) (w' := w133) (by kernel_rfl) ?_
                  refine WR.split 109 (b := (!r126)) (by kernel_rfl) (fun hb135 => ?_) (fun hb135 => ?_)
                  · replace H := ite_t H hb135
                    refine WR.runk [13, 14, 15, 16, 17, 18, 19, 20, 21] [] [21, 118] (L' := [(21, .pointer (some ⟨b110, 0, none⟩)), (118, .bool true)]) (w' := w133) (by kernel_rfl) ?_
                    refine WR.nil ?_
                    refine At.go ?_
                    refine WC.condT (by kernel_rfl) (by kernel_rfl) (by kernel_rfl) ?_
                    refine WC.seq (by kernel_rfl) ?_
                    refine WC.reg [0, 1] (by kernel_rfl) (by kernel_rfl) ?_
                    refine WR.runk [0, 1] [] [8, 9] (L' := [(8, .pointer none), (9, .int .i64 10)]) (w' := w133) (by kernel_rfl) ?_
                    refine WR.nil ?_
                    refine At.go ?_
                    refine WC.ret (by kernel_rfl) ?_
                    refine At.thenRet ?_
                    obtain rfl := Option.some.inj H
                    have hS := optP.nil (O := O49) hS
                    have hS : Sat w133 (rf w0) [optP O49 (.pointer none) none] := hS.sel [0] (by kernel_rfl)
                    exact At.body [.pointer none, .int .i64 10] (by kernel_rfl) ⟨_, rfl, _, rfl, hS⟩
                  · replace H := ite_f H hb135
                    refine WR.runk [13, 14, 15] [16, 17, 18, 19, 20, 21] [3, 21, 109, 112] (L' := [(3, .slice A3 l3.length c3), (21, .pointer (some ⟨b110, 0, none⟩)), (109, .bool false), (112, .pointer (some ⟨b110, 5, none⟩))]) (w' := w133) (by kernel_rfl) ?_
                    refine WR.st (St.ofR (RSt.loadObj (t := 47) (k := 5) (v := pv114) (.tmp 112) (by kernel_rfl) (by kernel_rfl) (by kernel_rfl) 1 hS rfl (by kernel_rfl) rfl ?_))
                    refine WR.runk [] [17, 18, 19, 20, 21] [3, 21, 109, 113] (L' := [(3, .slice A3 l3.length c3), (21, .pointer (some ⟨b110, 0, none⟩)), (109, .bool false), (113, pv114)]) (w' := w133) (by kernel_rfl) ?_
                    obtain ⟨r136, e137, H⟩ := bind_ex H
                    refine WR.st (St.call (by kernel_rfl) (f := 27) (args := #[pv114]) (by kernel_rfl) (pack_Ints_Words.calls w133 (pv114) y107.2.2.2.2.2 (Sat.rdAny 4 hS rfl (fun _ h => optP.rdd (t := 66) (κ := (.pair (.int .i64) (.pair (.int .i64) (.slice 43 (.int .u64))))) (O := O66) O66.rd h)) r136 e137) ?_)
                    rintro _ w143 ⟨A145, c146, rfl, hS144⟩
                    have hS : Sat w143 (rf w0) [osl 43 (r0 (.int .u64)) 1 A145 c146 r136, osl 43 (r0 (.int .u64)) 1 A124 c125 r115, pts b110 (.cells #[.int .i64 y107.1, .int .i64 y107.2.1, .int .i64 y107.2.2.1, pv112, pv113, pv114] 49 (0, 0)), optP O68 pv112 y107.2.2.2.1, optP O66 pv113 y107.2.2.2.2.1, optP O66 pv114 y107.2.2.2.2.2, osl 3 (r0 (.int .i64)) 1 A18_q93 c18_q93 o92, O66 b49 y46, O68 b54 y51] := hS.ext hS144
                    refine WR.runk [18] [19, 20, 21] [21, 109, 114, 115] (L' := [(21, .pointer (some ⟨b110, 0, none⟩)), (109, .bool false), (114, .slice A145 r136.length c146), (115, .slice A3 l3.length c3)]) (w' := w143) (by kernel_rfl) ?_
                    obtain ⟨r147, e148, H⟩ := bind_ex H
                    refine WR.st (St.call (by kernel_rfl) (f := 32) (args := #[.slice A145 r136.length c146, .slice A3 l3.length c3]) (by kernel_rfl) (slices_Equal.calls w143 A145 c146 r136 (Sat.rdAt 0 hS rfl) A3 c3 l3 (rdS.up R3 hS.sub0) r147 e148) ?_)
                    rintro _ w154 ⟨rfl, hS155⟩
                    have hS : Sat w154 (rf w0) [osl 43 (r0 (.int .u64)) 1 A145 c146 r136, osl 43 (r0 (.int .u64)) 1 A124 c125 r115, pts b110 (.cells #[.int .i64 y107.1, .int .i64 y107.2.1, .int .i64 y107.2.2.1, pv112, pv113, pv114] 49 (0, 0)), optP O68 pv112 y107.2.2.2.1, optP O66 pv113 y107.2.2.2.2.1, optP O66 pv114 y107.2.2.2.2.2, osl 3 (r0 (.int .i64)) 1 A18_q93 c18_q93 o92, O66 b49 y46, O68 b54 y51] := hS.ext hS155
                    refine WR.runk [20, 21] [] [21, 118] (L' := [(21, .pointer (some ⟨b110, 0, none⟩)), (118, .bool (!r147))]) (w' := w154) (by kernel_rfl) ?_
                    refine WR.nil ?_
                    refine At.go ?_
                    refine WC.cond (by kernel_rfl) (!r147) (by kernel_rfl) (by kernel_rfl) (fun hb156 => ?_) (fun hb156 => ?_)
                    · replace H := ite_t H hb156
                      refine WC.seq (by kernel_rfl) ?_
                      refine WC.reg [0, 1] (by kernel_rfl) (by kernel_rfl) ?_
                      refine WR.runk [0, 1] [] [8, 9] (L' := [(8, .pointer none), (9, .int .i64 10)]) (w' := w154) (by kernel_rfl) ?_
                      refine WR.nil ?_
                      refine At.go ?_
                      refine WC.ret (by kernel_rfl) ?_
                      refine At.thenRet ?_
                      obtain rfl := Option.some.inj H
                      have hS := optP.nil (O := O49) hS
                      have hS : Sat w154 (rf w0) [optP O49 (.pointer none) none] := hS.sel [0] (by kernel_rfl)
                      exact At.body [.pointer none, .int .i64 10] (by kernel_rfl) ⟨_, rfl, _, rfl, hS⟩
                    · replace H := ite_f H hb156
                      refine WC.skip (by kernel_rfl) ?_
                      refine At.go ?_
                      refine WC.seq (by kernel_rfl) ?_
                      refine WC.reg [0, 1, 2] (by kernel_rfl) (by kernel_rfl) ?_
                      refine WR.runk [0, 1, 2] [] [8, 9] (L' := [(8, .pointer (some ⟨b110, 0, none⟩)), (9, .int .i64 0)]) (w' := w154) (by kernel_rfl) ?_
                      refine WR.nil ?_
                      refine At.go ?_
                      refine WC.ret (by kernel_rfl) ?_
                      obtain rfl := Option.some.inj H
                      have hS : Sat w154 (rf w0) [pts b110 (.cells #[.int .i64 y107.1, .int .i64 y107.2.1, .int .i64 y107.2.2.1, pv112, pv113, pv114] 49 (0, 0)), optP O68 pv112 y107.2.2.2.1, optP O66 pv113 y107.2.2.2.2.1, optP O66 pv114 y107.2.2.2.2.2, osl 43 (r0 (.int .u64)) 1 A145 c146 r136, osl 43 (r0 (.int .u64)) 1 A124 c125 r115, osl 3 (r0 (.int .i64)) 1 A18_q93 c18_q93 o92, O66 b49 y46, O68 b54 y51] := hS.sel [2, 3, 4, 5, 0, 1, 6, 7, 8] (by kernel_rfl)
                      have hS : Sat w154 (rf w0) [O49 b110 y107, osl 43 (r0 (.int .u64)) 1 A145 c146 r136, osl 43 (r0 (.int .u64)) 1 A124 c125 r115, osl 3 (r0 (.int .i64)) 1 A18_q93 c18_q93 o92, O66 b49 y46, O68 b54 y51] := O49.close y107 pv112 pv113 pv114 hS
                      have hS : Sat w154 (rf w0) [optP O49 (.pointer (some ⟨b110, 0, none⟩)) (some y107), osl 43 (r0 (.int .u64)) 1 A145 c146 r136, osl 43 (r0 (.int .u64)) 1 A124 c125 r115, osl 3 (r0 (.int .i64)) 1 A18_q93 c18_q93 o92, O66 b49 y46, O68 b54 y51] := optP.mk hS
                      have hS : Sat w154 (rf w0) [optP O49 (.pointer (some ⟨b110, 0, none⟩)) (some y107)] := hS.sel [0] (by kernel_rfl)
                      exact At.body [.pointer (some ⟨b110, 0, none⟩), .int .i64 0] (by kernel_rfl) ⟨_, rfl, _, rfl, hS⟩
end Go.Proofs.Ytomeiphaohjeoaa
