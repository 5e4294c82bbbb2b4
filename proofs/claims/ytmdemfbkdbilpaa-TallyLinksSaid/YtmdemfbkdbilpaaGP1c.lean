/-
  Printed by gen.py (my own tool): for each Go function a plain Lean function and the proof that a call of it does what that function says.
-/
import Derived.Test.YtmdemfbkdbilpaaGP1b
set_option linter.unusedVariables false
set_option linter.unusedSimpArgs false
set_option maxRecDepth 100000
namespace Go.Proofs.Ytmdemfbkdbilpaa
open Go Go.Gol
/-! ### 9 colophon/colophonref16.Doubles -/
def colophonref16_Doubles.l2 (l0 : List Int) (v7 : Int) : Nat → Int → Option Int
  | 0, _ => none
  | k + 1, x8_l2 => (if decide (x8_l2 ≥ 0) then ((at? l0 x8_l2).bind fun v10 => (if (v10 != v7) then colophonref16_Doubles.l2 l0 v7 k (wi (x8_l2 - 1)) else some x8_l2)) else some x8_l2)
def colophonref16_Doubles.l3 (l1 : List Int) (x16_l1 : Int) : Nat → Int → Int → Option Int
  | 0, _, _ => none
  | k + 1, x9_l3, x10_l3 => (if decide (x10_l3 ≤ x16_l1) then ((at? l1 x10_l3).bind fun v22 => ((at? l1 x9_l3).bind fun v24 => (if decide (v22 < v24) then colophonref16_Doubles.l3 l1 x16_l1 k x10_l3 (wi (x10_l3 + 1)) else colophonref16_Doubles.l3 l1 x16_l1 k x9_l3 (wi (x10_l3 + 1))))) else some x9_l3)
def colophonref16_Doubles.l1 (l0 : List Int) (l1 : List Int) : Nat → (List Int) → Int → Option (List Int)
  | 0, _, _ => none
  | k + 1, x5_l1, x16_l1 => (if decide (x16_l1 < (l0.length : Int)) then ((at? l0 x16_l1).bind fun v7 => ((colophonref16_Doubles.l2 l0 v7 FU (wi (x16_l1 - 1))).bind fun o13 => (if decide (o13 < 0) then colophonref16_Doubles.l1 l0 l1 k x5_l1 (wi (x16_l1 + 1)) else ((colophonref16_Doubles.l3 l1 x16_l1 FU (wi (o13 + 1)) (wi (o13 + 1))).bind fun o27 => ((at? x5_l1 o27).bind fun v32 => ((set? x5_l1 o27 (wi (v32 + 1))).bind fun y34 => colophonref16_Doubles.l1 l0 l1 k y34 (wi (x16_l1 + 1)))))))) else some x5_l1)
def colophonref16_Doubles.f (l0 : List Int) (l1 : List Int) : Option (List Int) := ((make? 17592186044416 0 (l0.length : Int)).bind fun y1 => ((colophonref16_Doubles.l1 l0 l1 FU y1 0).bind fun o38 => some o38))
def colophonref16_Doubles.post (w : World) (r : (List Int)) (v : Value) (w' : World) : Prop := ∃ (A0' : Option Addr) (c0' : Nat), v = (.slice A0' r.length c0' : Value) ∧ Sat w' (rf w) [osl 3 (r0 (.int .i64)) 1 A0' c0' r]
theorem colophonref16_Doubles.l2_ok {Q} (w0 : World) (A0 : Option Addr) (c0 : Nat) (l0 : List Int) (A1 : Option Addr) (c1 : Nat) (l1 : List Int) (A5_l1 : Option Addr) (c5_l1 : Nat) (x5_l1 : List Int) (x16_l1 : Int) (v7 : Int) (R0 : rdS (r0 (.int .i64)) 1 (hp w0) A0 c0 l0) (out : Int) (hn0 : ∀ (w : World), Sat w (rf w0) [osl 3 (r0 (.int .i64)) 1 A5_l1 c5_l1 x5_l1] → At Q (.exit 2) 64 [(0, .slice A0 l0.length c0), (1, .slice A1 l1.length c1), (5, .slice A5_l1 x5_l1.length c5_l1), (6, .int .i64 x16_l1), (8, .int .i64 out), (14, .slice A0 l0.length c0), (15, .int .i64 (l0.length : Int)), (16, .int .i64 x16_l1)] w) :
    ∀ (k : Nat) (x8_l2 : Int) (w : World), Sat w (rf w0) [osl 3 (r0 (.int .i64)) 1 A5_l1 c5_l1 x5_l1] → colophonref16_Doubles.l2 l0 v7 k x8_l2 = some out → WL Try.prog (cbody (cbody (cl (cr (cr (cbody (cl (cr (cr (cbody (cbody (cr (cl (cr (cr C9))))))))))))))) Q 64 [(0, .slice A0 l0.length c0), (1, .slice A1 l1.length c1), (5, .slice A5_l1 x5_l1.length c5_l1), (6, .int .i64 x16_l1), (7, .int .i64 v7), (8, .int .i64 x8_l2), (14, .slice A0 l0.length c0), (15, .int .i64 (l0.length : Int)), (16, .int .i64 x16_l1)] w := by
  intro k
  induction k with
  | zero => intro x8_l2 w hS H; exact absurd (show none = some out from H) (by simp)
  | succ k ih =>
    intro x8_l2 w hS H
    unfold colophonref16_Doubles.l2 at H
    refine WL.round ?_
    refine WC.seq (by kernel_rfl) ?_
    refine WC.seq (by kernel_rfl) ?_
    refine WC.reg [0, 1, 2, 3, 4, 5, 6, 7, 8, 9] (by kernel_rfl) (by kernel_rfl) ?_
    refine WR.runk [0, 1, 2] [3, 4, 5, 6, 7, 8, 9] [0, 1, 5, 6, 7, 8, 14, 15, 16, 25] (L' := [(0, .slice A0 l0.length c0), (1, .slice A1 l1.length c1), (5, .slice A5_l1 x5_l1.length c5_l1), (6, .int .i64 x16_l1), (7, .int .i64 v7), (8, .int .i64 x8_l2), (14, .slice A0 l0.length c0), (15, .int .i64 (l0.length : Int)), (16, .int .i64 x16_l1), (25, .bool (decide (x8_l2 ≥ 0)))]) (w' := w) (by kernel_rfl) ?_
    refine WR.split 25 (b := decide (x8_l2 ≥ 0)) (by kernel_rfl) (fun hb9 => ?_) (fun hb9 => ?_)
    · replace H := ite_t H hb9
      refine WR.runk [3, 4] [5, 6, 7, 8, 9] [0, 1, 5, 6, 7, 8, 14, 15, 16, 25, 26, 27] (L' := [(0, .slice A0 l0.length c0), (1, .slice A1 l1.length c1), (5, .slice A5_l1 x5_l1.length c5_l1), (6, .int .i64 x16_l1), (7, .int .i64 v7), (8, .int .i64 x8_l2), (14, .slice A0 l0.length c0), (15, .int .i64 (l0.length : Int)), (16, .int .i64 x16_l1), (25, .bool true), (26, .slice A0 l0.length c0), (27, .int .i64 x8_l2)]) (w' := w) (by kernel_rfl) ?_
      obtain ⟨v10, e11, H⟩ := bind_ex H
      refine WR.st (St.ofP (PSt.idx (k := .i64) (.tmp 26) (.tmp 27) (by kernel_rfl) (by kernel_rfl) E22 (by kernel_rfl) (by kernel_rfl) (rdS.up R0 hS.sub0) e11 ?_))
      refine WR.runk [] [6, 7, 8, 9] [0, 1, 5, 6, 7, 8, 14, 15, 16, 25, 26, 27, 28] (L' := [(0, .slice A0 l0.length c0), (1, .slice A1 l1.length c1), (5, .slice A5_l1 x5_l1.length c5_l1), (6, .int .i64 x16_l1), (7, .int .i64 v7), (8, .int .i64 x8_l2), (14, .slice A0 l0.length c0), (15, .int .i64 (l0.length : Int)), (16, .int .i64 x16_l1), (25, .bool true), (26, .slice A0 l0.length c0), (27, .int .i64 x8_l2), (28, .pointer (some (adr A0 x8_l2.toNat 1)))]) (w' := w) (by kernel_rfl) ?_
      refine WR.st (St.ofR (RSt.loadInt (t := 3) (.tmp 28) (by kernel_rfl) (by kernel_rfl) (by kernel_rfl) (by kernel_rfl) (rdS.up R0 hS.sub0) e11 ?_))
      refine WR.runk [7, 8, 9] [] [0, 1, 5, 6, 7, 8, 14, 15, 16, 26, 27, 28, 29, 30, 31, 32] (L' := [(0, .slice A0 l0.length c0), (1, .slice A1 l1.length c1), (5, .slice A5_l1 x5_l1.length c5_l1), (6, .int .i64 x16_l1), (7, .int .i64 v7), (8, .int .i64 x8_l2), (14, .slice A0 l0.length c0), (15, .int .i64 (l0.length : Int)), (16, .int .i64 x16_l1), (26, .slice A0 l0.length c0), (27, .int .i64 x8_l2), (28, .pointer (some (adr A0 x8_l2.toNat 1))), (29, .int .i64 v10), (30, .int .i64 v7), (31, .bool (v10 != v7)), (32, .bool (v10 != v7))]) (w' := w) (by kernel_rfl) ?_
      refine WR.nil ?_
      refine At.go ?_
      refine WC.cond (by kernel_rfl) (v10 != v7) (by kernel_rfl) (by kernel_rfl) (fun hb12 => ?_) (fun hb12 => ?_)
      · replace H := ite_t H hb12
        refine WC.skip (by kernel_rfl) ?_
        refine At.go ?_
        refine WC.block (by kernel_rfl) ?_
        refine WC.reg [0, 1, 2] (by kernel_rfl) (by kernel_rfl) ?_
        refine WR.runk [0, 1, 2] [] [0, 1, 5, 6, 7, 8, 14, 15, 16, 26, 27, 28, 29, 30] (L' := [(0, .slice A0 l0.length c0), (1, .slice A1 l1.length c1), (5, .slice A5_l1 x5_l1.length c5_l1), (6, .int .i64 x16_l1), (7, .int .i64 v7), (8, .int .i64 (wi (x8_l2 - 1))), (14, .slice A0 l0.length c0), (15, .int .i64 (l0.length : Int)), (16, .int .i64 x16_l1), (26, .slice A0 l0.length c0), (27, .int .i64 x8_l2), (28, .pointer (some (adr A0 x8_l2.toNat 1))), (29, .int .i64 v10), (30, .int .i64 v7)]) (w' := w) (by kernel_rfl) ?_
        refine WR.nil ?_
        refine At.blockNormal ?_
        have hS : Sat w (rf w0) [osl 3 (r0 (.int .i64)) 1 A5_l1 c5_l1 x5_l1] := hS.sel [0] (by kernel_rfl)
        refine At.again ?_
        refine WL.weaken [0, 1, 5, 6, 7, 8, 14, 15, 16] (L' := [(0, .slice A0 l0.length c0), (1, .slice A1 l1.length c1), (5, .slice A5_l1 x5_l1.length c5_l1), (6, .int .i64 x16_l1), (7, .int .i64 v7), (8, .int .i64 (wi (x8_l2 - 1))), (14, .slice A0 l0.length c0), (15, .int .i64 (l0.length : Int)), (16, .int .i64 x16_l1)]) (by kernel_rfl) ?_
        exact ih (wi (x8_l2 - 1)) _ hS H
      · replace H := ite_f H hb12
        refine WC.exit (by kernel_rfl) ?_
        refine At.thenExit ?_
        refine At.thenExit ?_
        obtain rfl := Option.some.inj H
        have hS : Sat w (rf w0) [osl 3 (r0 (.int .i64)) 1 A5_l1 c5_l1 x5_l1] := hS.sel [0] (by kernel_rfl)
        refine At.weaken [0, 1, 5, 6, 8, 14, 15, 16] (L' := [(0, .slice A0 l0.length c0), (1, .slice A1 l1.length c1), (5, .slice A5_l1 x5_l1.length c5_l1), (6, .int .i64 x16_l1), (8, .int .i64 x8_l2), (14, .slice A0 l0.length c0), (15, .int .i64 (l0.length : Int)), (16, .int .i64 x16_l1)]) (by kernel_rfl) ?_
        exact hn0 _ hS
    · replace H := ite_f H hb9
      refine WR.runk [3, 4, 5, 6, 7, 8, 9] [] [0, 1, 5, 6, 7, 8, 14, 15, 16, 26, 27, 28, 29, 30, 31, 32] (L' := [(0, .slice A0 l0.length c0), (1, .slice A1 l1.length c1), (5, .slice A5_l1 x5_l1.length c5_l1), (6, .int .i64 x16_l1), (7, .int .i64 v7), (8, .int .i64 x8_l2), (14, .slice A0 l0.length c0), (15, .int .i64 (l0.length : Int)), (16, .int .i64 x16_l1), (26, undef), (27, undef), (28, undef), (29, undef), (30, undef), (31, undef), (32, .bool false)]) (w' := w) (by kernel_rfl) ?_
      refine WR.nil ?_
      refine At.go ?_
      refine WC.condF (by kernel_rfl) (by kernel_rfl) (by kernel_rfl) ?_
      refine WC.exit (by kernel_rfl) ?_
      refine At.thenExit ?_
      refine At.thenExit ?_
      obtain rfl := Option.some.inj H
      have hS : Sat w (rf w0) [osl 3 (r0 (.int .i64)) 1 A5_l1 c5_l1 x5_l1] := hS.sel [0] (by kernel_rfl)
      refine At.weaken [0, 1, 5, 6, 8, 14, 15, 16] (L' := [(0, .slice A0 l0.length c0), (1, .slice A1 l1.length c1), (5, .slice A5_l1 x5_l1.length c5_l1), (6, .int .i64 x16_l1), (8, .int .i64 x8_l2), (14, .slice A0 l0.length c0), (15, .int .i64 (l0.length : Int)), (16, .int .i64 x16_l1)]) (by kernel_rfl) ?_
      exact hn0 _ hS
theorem colophonref16_Doubles.l3_ok {Q} (w0 : World) (A0 : Option Addr) (c0 : Nat) (l0 : List Int) (A1 : Option Addr) (c1 : Nat) (l1 : List Int) (A5_l1 : Option Addr) (c5_l1 : Nat) (x5_l1 : List Int) (x16_l1 : Int) (R1 : rdS (r0 (.int .i64)) 1 (hp w0) A1 c1 l1) (out : Int) (hn0 : ∀ (w : World), Sat w (rf w0) [osl 3 (r0 (.int .i64)) 1 A5_l1 c5_l1 x5_l1] → At Q (.exit 4) 64 [(0, .slice A0 l0.length c0), (1, .slice A1 l1.length c1), (5, .slice A5_l1 x5_l1.length c5_l1), (9, .int .i64 out), (14, .slice A0 l0.length c0), (15, .int .i64 (l0.length : Int)), (16, .int .i64 x16_l1)] w) :
    ∀ (k : Nat) (x9_l3 : Int) (x10_l3 : Int) (w : World), Sat w (rf w0) [osl 3 (r0 (.int .i64)) 1 A5_l1 c5_l1 x5_l1] → colophonref16_Doubles.l3 l1 x16_l1 k x9_l3 x10_l3 = some out → WL Try.prog (cbody (cbody (cr (cl (cr (cr (cr (cr (cr (cbody (cl (cr (cr (cbody (cbody (cr (cl (cr (cr C9))))))))))))))))))) Q 64 [(0, .slice A0 l0.length c0), (1, .slice A1 l1.length c1), (5, .slice A5_l1 x5_l1.length c5_l1), (6, .int .i64 x16_l1), (9, .int .i64 x9_l3), (10, .int .i64 x10_l3), (14, .slice A0 l0.length c0), (15, .int .i64 (l0.length : Int)), (16, .int .i64 x16_l1)] w := by
  intro k
  induction k with
  | zero => intro x9_l3 x10_l3 w hS H; exact absurd (show none = some out from H) (by simp)
  | succ k ih =>
    intro x9_l3 x10_l3 w hS H
    unfold colophonref16_Doubles.l3 at H
    refine WL.round ?_
    refine WC.seq (by kernel_rfl) ?_
    refine WC.seq (by kernel_rfl) ?_
    refine WC.reg [0, 1, 2] (by kernel_rfl) (by kernel_rfl) ?_
    refine WR.runk [0, 1, 2] [] [0, 1, 5, 6, 9, 10, 14, 15, 16, 43] (L' := [(0, .slice A0 l0.length c0), (1, .slice A1 l1.length c1), (5, .slice A5_l1 x5_l1.length c5_l1), (6, .int .i64 x16_l1), (9, .int .i64 x9_l3), (10, .int .i64 x10_l3), (14, .slice A0 l0.length c0), (15, .int .i64 (l0.length : Int)), (16, .int .i64 x16_l1), (43, .bool (decide (x10_l3 ≤ x16_l1)))]) (w' := w) (by kernel_rfl) ?_
    refine WR.nil ?_
    refine At.go ?_
    refine WC.cond (by kernel_rfl) (decide (x10_l3 ≤ x16_l1)) (by kernel_rfl) (by kernel_rfl) (fun hb19 => ?_) (fun hb19 => ?_)
    · replace H := ite_t H hb19
      refine WC.skip (by kernel_rfl) ?_
      refine At.go ?_
      refine WC.seq (by kernel_rfl) ?_
      refine WC.block (by kernel_rfl) ?_
      refine WC.seq (by kernel_rfl) ?_
      refine WC.drawn (by kernel_rfl) (by kernel_rfl) 9 (by kernel_rfl) (fun w20 hw21 => ?_)
      have hS := hS.heap hw21.1 hw21.2
      refine WD.weaken [0, 1, 5, 6, 9, 10, 14, 15, 16] (L' := [(0, .slice A0 l0.length c0), (1, .slice A1 l1.length c1), (5, .slice A5_l1 x5_l1.length c5_l1), (6, .int .i64 x16_l1), (9, .int .i64 x9_l3), (10, .int .i64 x10_l3), (14, .slice A0 l0.length c0), (15, .int .i64 (l0.length : Int)), (16, .int .i64 x16_l1)]) (by kernel_rfl) ?_
      refine WD.pure (i := 0) (v := .slice A1 l1.length c1) (by kernel_rfl) (by kernel_rfl) (fun _ => by kernel_rfl) ?_
      refine WD.weaken [0, 1, 5, 6, 9, 10, 14, 15, 16, 46] (L' := [(0, .slice A0 l0.length c0), (1, .slice A1 l1.length c1), (5, .slice A5_l1 x5_l1.length c5_l1), (6, .int .i64 x16_l1), (9, .int .i64 x9_l3), (10, .int .i64 x10_l3), (14, .slice A0 l0.length c0), (15, .int .i64 (l0.length : Int)), (16, .int .i64 x16_l1), (46, .slice A1 l1.length c1)]) (by kernel_rfl) ?_
      refine WD.pure (i := 1) (v := .int .i64 x10_l3) (by kernel_rfl) (by kernel_rfl) (fun _ => by kernel_rfl) ?_
      refine WD.weaken [0, 1, 5, 6, 9, 10, 14, 15, 16, 46, 47] (L' := [(0, .slice A0 l0.length c0), (1, .slice A1 l1.length c1), (5, .slice A5_l1 x5_l1.length c5_l1), (6, .int .i64 x16_l1), (9, .int .i64 x9_l3), (10, .int .i64 x10_l3), (14, .slice A0 l0.length c0), (15, .int .i64 (l0.length : Int)), (16, .int .i64 x16_l1), (46, .slice A1 l1.length c1), (47, .int .i64 x10_l3)]) (by kernel_rfl) ?_
      obtain ⟨v22, e23, H⟩ := bind_ex H
      refine WD.ofP (i := 2) (by kernel_rfl) (PSt.idx (k := .i64) (.tmp 46) (.tmp 47) (by kernel_rfl) (by kernel_rfl) E22 (by kernel_rfl) (by kernel_rfl) (rdS.up R1 hS.sub0) e23 ?_)
      refine WD.weaken [0, 1, 5, 6, 9, 10, 14, 15, 16, 48] (L' := [(0, .slice A0 l0.length c0), (1, .slice A1 l1.length c1), (5, .slice A5_l1 x5_l1.length c5_l1), (6, .int .i64 x16_l1), (9, .int .i64 x9_l3), (10, .int .i64 x10_l3), (14, .slice A0 l0.length c0), (15, .int .i64 (l0.length : Int)), (16, .int .i64 x16_l1), (48, .pointer (some (adr A1 x10_l3.toNat 1)))]) (by kernel_rfl) ?_
      refine WD.ofR (i := 3) (by kernel_rfl) (RSt.loadInt (t := 3) (.tmp 48) (by kernel_rfl) (by kernel_rfl) (by kernel_rfl) (by kernel_rfl) (rdS.up R1 hS.sub0) e23 ?_)
      refine WD.weaken [0, 1, 5, 6, 9, 10, 14, 15, 16, 49] (L' := [(0, .slice A0 l0.length c0), (1, .slice A1 l1.length c1), (5, .slice A5_l1 x5_l1.length c5_l1), (6, .int .i64 x16_l1), (9, .int .i64 x9_l3), (10, .int .i64 x10_l3), (14, .slice A0 l0.length c0), (15, .int .i64 (l0.length : Int)), (16, .int .i64 x16_l1), (49, .int .i64 v22)]) (by kernel_rfl) ?_
      refine WD.pure (i := 4) (v := .slice A1 l1.length c1) (by kernel_rfl) (by kernel_rfl) (fun _ => by kernel_rfl) ?_
      refine WD.weaken [0, 1, 5, 6, 9, 10, 14, 15, 16, 49, 50] (L' := [(0, .slice A0 l0.length c0), (1, .slice A1 l1.length c1), (5, .slice A5_l1 x5_l1.length c5_l1), (6, .int .i64 x16_l1), (9, .int .i64 x9_l3), (10, .int .i64 x10_l3), (14, .slice A0 l0.length c0), (15, .int .i64 (l0.length : Int)), (16, .int .i64 x16_l1), (49, .int .i64 v22), (50, .slice A1 l1.length c1)]) (by kernel_rfl) ?_
      refine WD.pure (i := 5) (v := .int .i64 x9_l3) (by kernel_rfl) (by kernel_rfl) (fun _ => by kernel_rfl) ?_
      refine WD.weaken [0, 1, 5, 6, 9, 10, 14, 15, 16, 49, 50, 51] (L' := [(0, .slice A0 l0.length c0), (1, .slice A1 l1.length c1), (5, .slice A5_l1 x5_l1.length c5_l1), (6, .int .i64 x16_l1), (9, .int .i64 x9_l3), (10, .int .i64 x10_l3), (14, .slice A0 l0.length c0), (15, .int .i64 (l0.length : Int)), (16, .int .i64 x16_l1), (49, .int .i64 v22), (50, .slice A1 l1.length c1), (51, .int .i64 x9_l3)]) (by kernel_rfl) ?_
      obtain ⟨v24, e25, H⟩ := bind_ex H
      refine WD.ofP (i := 6) (by kernel_rfl) (PSt.idx (k := .i64) (.tmp 50) (.tmp 51) (by kernel_rfl) (by kernel_rfl) E22 (by kernel_rfl) (by kernel_rfl) (rdS.up R1 hS.sub0) e25 ?_)
      refine WD.weaken [0, 1, 5, 6, 9, 10, 14, 15, 16, 49, 52] (L' := [(0, .slice A0 l0.length c0), (1, .slice A1 l1.length c1), (5, .slice A5_l1 x5_l1.length c5_l1), (6, .int .i64 x16_l1), (9, .int .i64 x9_l3), (10, .int .i64 x10_l3), (14, .slice A0 l0.length c0), (15, .int .i64 (l0.length : Int)), (16, .int .i64 x16_l1), (49, .int .i64 v22), (52, .pointer (some (adr A1 x9_l3.toNat 1)))]) (by kernel_rfl) ?_
      refine WD.ofR (i := 7) (by kernel_rfl) (RSt.loadInt (t := 3) (.tmp 52) (by kernel_rfl) (by kernel_rfl) (by kernel_rfl) (by kernel_rfl) (rdS.up R1 hS.sub0) e25 ?_)
      refine WD.weaken [0, 1, 5, 6, 9, 10, 14, 15, 16, 49, 53] (L' := [(0, .slice A0 l0.length c0), (1, .slice A1 l1.length c1), (5, .slice A5_l1 x5_l1.length c5_l1), (6, .int .i64 x16_l1), (9, .int .i64 x9_l3), (10, .int .i64 x10_l3), (14, .slice A0 l0.length c0), (15, .int .i64 (l0.length : Int)), (16, .int .i64 x16_l1), (49, .int .i64 v22), (53, .int .i64 v24)]) (by kernel_rfl) ?_
      refine WD.pure (i := 8) (v := .bool (decide (v22 < v24))) (by kernel_rfl) (by kernel_rfl) (fun _ => by kernel_rfl) ?_
      refine WD.weaken [0, 1, 5, 6, 9, 10, 14, 15, 16, 54] (L' := [(0, .slice A0 l0.length c0), (1, .slice A1 l1.length c1), (5, .slice A5_l1 x5_l1.length c5_l1), (6, .int .i64 x16_l1), (9, .int .i64 x9_l3), (10, .int .i64 x10_l3), (14, .slice A0 l0.length c0), (15, .int .i64 (l0.length : Int)), (16, .int .i64 x16_l1), (54, .bool (decide (v22 < v24)))]) (by kernel_rfl) ?_
      refine WD.nil (by kernel_rfl) ?_
      refine At.go ?_
      refine WC.cond (by kernel_rfl) (decide (v22 < v24)) (by kernel_rfl) (by kernel_rfl) (fun hb26 => ?_) (fun hb26 => ?_)
      · replace H := ite_t H hb26
        refine WC.reg [0, 1] (by kernel_rfl) (by kernel_rfl) ?_
        refine WR.runk [0, 1] [] [0, 1, 5, 6, 9, 10, 14, 15, 16] (L' := [(0, .slice A0 l0.length c0), (1, .slice A1 l1.length c1), (5, .slice A5_l1 x5_l1.length c5_l1), (6, .int .i64 x16_l1), (9, .int .i64 x10_l3), (10, .int .i64 x10_l3), (14, .slice A0 l0.length c0), (15, .int .i64 (l0.length : Int)), (16, .int .i64 x16_l1)]) (w' := w20) (by kernel_rfl) ?_
        refine WR.nil ?_
        refine At.blockNormal ?_
        refine At.go ?_
        refine WC.reg [0, 1, 2] (by kernel_rfl) (by kernel_rfl) ?_
        refine WR.runk [0, 1, 2] [] [0, 1, 5, 6, 9, 10, 14, 15, 16] (L' := [(0, .slice A0 l0.length c0), (1, .slice A1 l1.length c1), (5, .slice A5_l1 x5_l1.length c5_l1), (6, .int .i64 x16_l1), (9, .int .i64 x10_l3), (10, .int .i64 (wi (x10_l3 + 1))), (14, .slice A0 l0.length c0), (15, .int .i64 (l0.length : Int)), (16, .int .i64 x16_l1)]) (w' := w20) (by kernel_rfl) ?_
        refine WR.nil ?_
        have hS : Sat w20 (rf w0) [osl 3 (r0 (.int .i64)) 1 A5_l1 c5_l1 x5_l1] := hS.sel [0] (by kernel_rfl)
        refine At.again ?_
        refine WL.weaken [0, 1, 5, 6, 9, 10, 14, 15, 16] (L' := [(0, .slice A0 l0.length c0), (1, .slice A1 l1.length c1), (5, .slice A5_l1 x5_l1.length c5_l1), (6, .int .i64 x16_l1), (9, .int .i64 x10_l3), (10, .int .i64 (wi (x10_l3 + 1))), (14, .slice A0 l0.length c0), (15, .int .i64 (l0.length : Int)), (16, .int .i64 x16_l1)]) (by kernel_rfl) ?_
        exact ih x10_l3 (wi (x10_l3 + 1)) _ hS H
      · replace H := ite_f H hb26
        refine WC.skip (by kernel_rfl) ?_
        refine At.blockNormal ?_
        refine At.go ?_
        refine WC.reg [0, 1, 2] (by kernel_rfl) (by kernel_rfl) ?_
        refine WR.runk [0, 1, 2] [] [0, 1, 5, 6, 9, 10, 14, 15, 16] (L' := [(0, .slice A0 l0.length c0), (1, .slice A1 l1.length c1), (5, .slice A5_l1 x5_l1.length c5_l1), (6, .int .i64 x16_l1), (9, .int .i64 x9_l3), (10, .int .i64 (wi (x10_l3 + 1))), (14, .slice A0 l0.length c0), (15, .int .i64 (l0.length : Int)), (16, .int .i64 x16_l1)]) (w' := w20) (by kernel_rfl) ?_
        refine WR.nil ?_
        have hS : Sat w20 (rf w0) [osl 3 (r0 (.int .i64)) 1 A5_l1 c5_l1 x5_l1] := hS.sel [0] (by kernel_rfl)
        refine At.again ?_
        refine WL.weaken [0, 1, 5, 6, 9, 10, 14, 15, 16] (L' := [(0, .slice A0 l0.length c0), (1, .slice A1 l1.length c1), (5, .slice A5_l1 x5_l1.length c5_l1), (6, .int .i64 x16_l1), (9, .int .i64 x9_l3), (10, .int .i64 (wi (x10_l3 + 1))), (14, .slice A0 l0.length c0), (15, .int .i64 (l0.length : Int)), (16, .int .i64 x16_l1)]) (by kernel_rfl) ?_
        exact ih x9_l3 (wi (x10_l3 + 1)) _ hS H
    · replace H := ite_f H hb19
      refine WC.exit (by kernel_rfl) ?_
      refine At.thenExit ?_
      refine At.thenExit ?_
      obtain rfl := Option.some.inj H
      have hS : Sat w (rf w0) [osl 3 (r0 (.int .i64)) 1 A5_l1 c5_l1 x5_l1] := hS.sel [0] (by kernel_rfl)
      refine At.weaken [0, 1, 5, 9, 14, 15, 16] (L' := [(0, .slice A0 l0.length c0), (1, .slice A1 l1.length c1), (5, .slice A5_l1 x5_l1.length c5_l1), (9, .int .i64 x9_l3), (14, .slice A0 l0.length c0), (15, .int .i64 (l0.length : Int)), (16, .int .i64 x16_l1)]) (by kernel_rfl) ?_
      exact hn0 _ hS
theorem colophonref16_Doubles.l1_ok {Q} (w0 : World) (A0 : Option Addr) (c0 : Nat) (l0 : List Int) (A1 : Option Addr) (c1 : Nat) (l1 : List Int) (R0 : rdS (r0 (.int .i64)) 1 (hp w0) A0 c0 l0) (R1 : rdS (r0 (.int .i64)) 1 (hp w0) A1 c1 l1) (out : (List Int)) (hn0 : ∀ (A5_q : Option Addr) (c5_q : Nat) (w : World), Sat w (rf w0) [osl 3 (r0 (.int .i64)) 1 A5_q c5_q out] → At Q (.exit 0) 64 [(5, .slice A5_q out.length c5_q)] w) :
    ∀ (k : Nat) (x5_l1 : List Int) (x16_l1 : Int) (A5_l1 : Option Addr) (c5_l1 : Nat) (w : World), Sat w (rf w0) [osl 3 (r0 (.int .i64)) 1 A5_l1 c5_l1 x5_l1] → colophonref16_Doubles.l1 l0 l1 k x5_l1 x16_l1 = some out → WL Try.prog (cbody (cbody (cr (cl (cr (cr C9)))))) Q 64 [(0, .slice A0 l0.length c0), (1, .slice A1 l1.length c1), (5, .slice A5_l1 x5_l1.length c5_l1), (14, .slice A0 l0.length c0), (15, .int .i64 (l0.length : Int)), (16, .int .i64 x16_l1)] w := by
  intro k
  induction k with
  | zero => intro x5_l1 x16_l1 A5_l1 c5_l1 w hS H; exact absurd (show none = some out from H) (by simp)
  | succ k ih =>
    intro x5_l1 x16_l1 A5_l1 c5_l1 w hS H
    unfold colophonref16_Doubles.l1 at H
    refine WL.round ?_
    refine WC.seq (by kernel_rfl) ?_
    refine WC.reg [0] (by kernel_rfl) (by kernel_rfl) ?_
    refine WR.runk [0] [] [0, 1, 5, 14, 15, 16, 17] (L' := [(0, .slice A0 l0.length c0), (1, .slice A1 l1.length c1), (5, .slice A5_l1 x5_l1.length c5_l1), (14, .slice A0 l0.length c0), (15, .int .i64 (l0.length : Int)), (16, .int .i64 x16_l1), (17, .bool (decide (x16_l1 < (l0.length : Int))))]) (w' := w) (by kernel_rfl) ?_
    refine WR.nil ?_
    refine At.go ?_
    refine WC.seq (by kernel_rfl) ?_
    refine WC.cond (by kernel_rfl) (decide (x16_l1 < (l0.length : Int))) (by kernel_rfl) (by kernel_rfl) (fun hb6 => ?_) (fun hb6 => ?_)
    · replace H := ite_t H hb6
      refine WC.skip (by kernel_rfl) ?_
      refine At.go ?_
      refine WC.seq (by kernel_rfl) ?_
      refine WC.block (by kernel_rfl) ?_
      refine WC.seq (by kernel_rfl) ?_
      refine WC.reg [0, 1, 2, 3, 4] (by kernel_rfl) (by kernel_rfl) ?_
      refine WR.runk [0] [1, 2, 3, 4] [0, 1, 5, 14, 15, 16, 18] (L' := [(0, .slice A0 l0.length c0), (1, .slice A1 l1.length c1), (5, .slice A5_l1 x5_l1.length c5_l1), (14, .slice A0 l0.length c0), (15, .int .i64 (l0.length : Int)), (16, .int .i64 x16_l1), (18, .int .i64 x16_l1)]) (w' := w) (by kernel_rfl) ?_
      obtain ⟨v7, e8, H⟩ := bind_ex H
      refine WR.st (St.ofP (PSt.idx (k := .i64) (.tmp 14) (.tmp 16) (by kernel_rfl) (by kernel_rfl) E22 (by kernel_rfl) (by kernel_rfl) (rdS.up R0 hS.sub0) e8 ?_))
      refine WR.runk [] [2, 3, 4] [0, 1, 5, 14, 15, 16, 18, 19] (L' := [(0, .slice A0 l0.length c0), (1, .slice A1 l1.length c1), (5, .slice A5_l1 x5_l1.length c5_l1), (14, .slice A0 l0.length c0), (15, .int .i64 (l0.length : Int)), (16, .int .i64 x16_l1), (18, .int .i64 x16_l1), (19, .pointer (some (adr A0 x16_l1.toNat 1)))]) (w' := w) (by kernel_rfl) ?_
      refine WR.st (St.ofR (RSt.loadInt (t := 3) (.tmp 19) (by kernel_rfl) (by kernel_rfl) (by kernel_rfl) (by kernel_rfl) (rdS.up R0 hS.sub0) e8 ?_))
      refine WR.runk [3, 4] [] [0, 1, 5, 6, 7, 14, 15, 16] (L' := [(0, .slice A0 l0.length c0), (1, .slice A1 l1.length c1), (5, .slice A5_l1 x5_l1.length c5_l1), (6, .int .i64 x16_l1), (7, .int .i64 v7), (14, .slice A0 l0.length c0), (15, .int .i64 (l0.length : Int)), (16, .int .i64 x16_l1)]) (w' := w) (by kernel_rfl) ?_
      refine WR.nil ?_
      refine At.go ?_
      refine WC.seq (by kernel_rfl) ?_
      refine WC.reg [0, 1, 2] (by kernel_rfl) (by kernel_rfl) ?_
      refine WR.runk [0, 1, 2] [] [0, 1, 5, 6, 7, 8, 14, 15, 16] (L' := [(0, .slice A0 l0.length c0), (1, .slice A1 l1.length c1), (5, .slice A5_l1 x5_l1.length c5_l1), (6, .int .i64 x16_l1), (7, .int .i64 v7), (8, .int .i64 (wi (x16_l1 - 1))), (14, .slice A0 l0.length c0), (15, .int .i64 (l0.length : Int)), (16, .int .i64 x16_l1)]) (w' := w) (by kernel_rfl) ?_
      refine WR.nil ?_
      refine At.go ?_
      refine WC.seq (by kernel_rfl) ?_
      refine WC.block (by kernel_rfl) ?_
      have hS : Sat w (rf w0) [osl 3 (r0 (.int .i64)) 1 A5_l1 c5_l1 x5_l1] := hS.sel [0] (by kernel_rfl)
      obtain ⟨o13, e14, H⟩ := bind_ex H
      refine WC.loop (by kernel_rfl) ?_
      refine WL.weaken [0, 1, 5, 6, 7, 8, 14, 15, 16] (L' := [(0, .slice A0 l0.length c0), (1, .slice A1 l1.length c1), (5, .slice A5_l1 x5_l1.length c5_l1), (6, .int .i64 x16_l1), (7, .int .i64 v7), (8, .int .i64 (wi (x16_l1 - 1))), (14, .slice A0 l0.length c0), (15, .int .i64 (l0.length : Int)), (16, .int .i64 x16_l1)]) (by kernel_rfl) ?_
      refine colophonref16_Doubles.l2_ok w0 A0 c0 l0 A1 c1 l1 A5_l1 c5_l1 x5_l1 x16_l1 v7 R0 o13 (fun w16 hS => ?_) FU (wi (x16_l1 - 1)) _ hS e14
      refine At.hit ?_
      refine At.go ?_
      refine WC.seq (by kernel_rfl) ?_
      refine WC.seq (by kernel_rfl) ?_
      refine WC.reg [0, 1] (by kernel_rfl) (by kernel_rfl) ?_
      refine WR.runk [0, 1] [] [0, 1, 5, 6, 8, 14, 15, 16, 36] (L' := [(0, .slice A0 l0.length c0), (1, .slice A1 l1.length c1), (5, .slice A5_l1 x5_l1.length c5_l1), (6, .int .i64 x16_l1), (8, .int .i64 o13), (14, .slice A0 l0.length c0), (15, .int .i64 (l0.length : Int)), (16, .int .i64 x16_l1), (36, .bool (decide (o13 < 0)))]) (w' := w16) (by kernel_rfl) ?_
      refine WR.nil ?_
      refine At.go ?_
      refine WC.cond (by kernel_rfl) (decide (o13 < 0)) (by kernel_rfl) (by kernel_rfl) (fun hb18 => ?_) (fun hb18 => ?_)
      · replace H := ite_t H hb18
        refine WC.exit (by kernel_rfl) ?_
        refine At.thenExit ?_
        refine At.hit ?_
        refine At.go ?_
        refine WC.reg [0, 1] (by kernel_rfl) (by kernel_rfl) ?_
        refine WR.runk [0, 1] [] [0, 1, 5, 14, 15, 16] (L' := [(0, .slice A0 l0.length c0), (1, .slice A1 l1.length c1), (5, .slice A5_l1 x5_l1.length c5_l1), (14, .slice A0 l0.length c0), (15, .int .i64 (l0.length : Int)), (16, .int .i64 (wi (x16_l1 + 1)))]) (w' := w16) (by kernel_rfl) ?_
        refine WR.nil ?_
        have hS : Sat w16 (rf w0) [osl 3 (r0 (.int .i64)) 1 A5_l1 c5_l1 x5_l1] := hS.sel [0] (by kernel_rfl)
        refine At.again ?_
        refine WL.weaken [0, 1, 5, 14, 15, 16] (L' := [(0, .slice A0 l0.length c0), (1, .slice A1 l1.length c1), (5, .slice A5_l1 x5_l1.length c5_l1), (14, .slice A0 l0.length c0), (15, .int .i64 (l0.length : Int)), (16, .int .i64 (wi (x16_l1 + 1)))]) (by kernel_rfl) ?_
        exact ih x5_l1 (wi (x16_l1 + 1)) A5_l1 c5_l1 _ hS H
      · replace H := ite_f H hb18
        refine WC.skip (by kernel_rfl) ?_
        refine At.go ?_
        refine WC.seq (by kernel_rfl) ?_
        refine WC.reg [0, 1, 2] (by kernel_rfl) (by kernel_rfl) ?_
        refine WR.runk [0, 1, 2] [] [0, 1, 5, 6, 8, 9, 14, 15, 16] (L' := [(0, .slice A0 l0.length c0), (1, .slice A1 l1.length c1), (5, .slice A5_l1 x5_l1.length c5_l1), (6, .int .i64 x16_l1), (8, .int .i64 o13), (9, .int .i64 (wi (o13 + 1))), (14, .slice A0 l0.length c0), (15, .int .i64 (l0.length : Int)), (16, .int .i64 x16_l1)]) (w' := w16) (by kernel_rfl) ?_
        refine WR.nil ?_
        refine At.go ?_
        refine WC.seq (by kernel_rfl) ?_
        refine WC.seq (by kernel_rfl) ?_
        refine WC.reg [0, 1, 2] (by kernel_rfl) (by kernel_rfl) ?_
        refine WR.runk [0, 1, 2] [] [0, 1, 5, 6, 9, 10, 14, 15, 16] (L' := [(0, .slice A0 l0.length c0), (1, .slice A1 l1.length c1), (5, .slice A5_l1 x5_l1.length c5_l1), (6, .int .i64 x16_l1), (9, .int .i64 (wi (o13 + 1))), (10, .int .i64 (wi (o13 + 1))), (14, .slice A0 l0.length c0), (15, .int .i64 (l0.length : Int)), (16, .int .i64 x16_l1)]) (w' := w16) (by kernel_rfl) ?_
        refine WR.nil ?_
        refine At.go ?_
        refine WC.block (by kernel_rfl) ?_
        have hS : Sat w16 (rf w0) [osl 3 (r0 (.int .i64)) 1 A5_l1 c5_l1 x5_l1] := hS.sel [0] (by kernel_rfl)
        obtain ⟨o27, e28, H⟩ := bind_ex H
        refine WC.loop (by kernel_rfl) ?_
        refine WL.weaken [0, 1, 5, 6, 9, 10, 14, 15, 16] (L' := [(0, .slice A0 l0.length c0), (1, .slice A1 l1.length c1), (5, .slice A5_l1 x5_l1.length c5_l1), (6, .int .i64 x16_l1), (9, .int .i64 (wi (o13 + 1))), (10, .int .i64 (wi (o13 + 1))), (14, .slice A0 l0.length c0), (15, .int .i64 (l0.length : Int)), (16, .int .i64 x16_l1)]) (by kernel_rfl) ?_
        refine colophonref16_Doubles.l3_ok w0 A0 c0 l0 A1 c1 l1 A5_l1 c5_l1 x5_l1 x16_l1 R1 o27 (fun w30 hS => ?_) FU (wi (o13 + 1)) (wi (o13 + 1)) _ hS e28
        refine At.hit ?_
        refine At.go ?_
        refine WC.reg [0, 1, 2, 3, 4, 5, 6] (by kernel_rfl) (by kernel_rfl) ?_
        refine WR.runk [0, 1] [2, 3, 4, 5, 6] [0, 1, 5, 14, 15, 16, 56, 57] (L' := [(0, .slice A0 l0.length c0), (1, .slice A1 l1.length c1), (5, .slice A5_l1 x5_l1.length c5_l1), (14, .slice A0 l0.length c0), (15, .int .i64 (l0.length : Int)), (16, .int .i64 x16_l1), (56, .slice A5_l1 x5_l1.length c5_l1), (57, .int .i64 o27)]) (w' := w30) (by kernel_rfl) ?_
        obtain ⟨v32, e33, H⟩ := bind_ex H
        refine WR.st (St.ofP (PSt.idx (k := .i64) (.tmp 56) (.tmp 57) (by kernel_rfl) (by kernel_rfl) E22 (by kernel_rfl) (by kernel_rfl) (Sat.rdAt 0 hS rfl) e33 ?_))
        refine WR.runk [] [3, 4, 5, 6] [0, 1, 5, 14, 15, 16, 56, 57, 58] (L' := [(0, .slice A0 l0.length c0), (1, .slice A1 l1.length c1), (5, .slice A5_l1 x5_l1.length c5_l1), (14, .slice A0 l0.length c0), (15, .int .i64 (l0.length : Int)), (16, .int .i64 x16_l1), (56, .slice A5_l1 x5_l1.length c5_l1), (57, .int .i64 o27), (58, .pointer (some (adr A5_l1 o27.toNat 1)))]) (w' := w30) (by kernel_rfl) ?_
        refine WR.st (St.ofR (RSt.loadInt (t := 3) (.tmp 58) (by kernel_rfl) (by kernel_rfl) (by kernel_rfl) (by kernel_rfl) (Sat.rdAt 0 hS rfl) e33 ?_))
        refine WR.runk [4] [5, 6] [0, 1, 5, 14, 15, 16, 56, 57, 60] (L' := [(0, .slice A0 l0.length c0), (1, .slice A1 l1.length c1), (5, .slice A5_l1 x5_l1.length c5_l1), (14, .slice A0 l0.length c0), (15, .int .i64 (l0.length : Int)), (16, .int .i64 x16_l1), (56, .slice A5_l1 x5_l1.length c5_l1), (57, .int .i64 o27), (60, .int .i64 (wi (v32 + 1)))]) (w' := w30) (by kernel_rfl) ?_
        refine WR.st (St.ofP (PSt.idx (k := .i64) (.tmp 56) (.tmp 57) (by kernel_rfl) (by kernel_rfl) E22 (by kernel_rfl) (by kernel_rfl) (Sat.rdAt 0 hS rfl) e33 ?_))
        refine WR.runk [] [6] [0, 1, 5, 14, 15, 16, 60, 61] (L' := [(0, .slice A0 l0.length c0), (1, .slice A1 l1.length c1), (5, .slice A5_l1 x5_l1.length c5_l1), (14, .slice A0 l0.length c0), (15, .int .i64 (l0.length : Int)), (16, .int .i64 x16_l1), (60, .int .i64 (wi (v32 + 1))), (61, .pointer (some (adr A5_l1 o27.toNat 1)))]) (w' := w30) (by kernel_rfl) ?_
        obtain ⟨y34, e35, H⟩ := bind_ex H
        refine WR.st (St.storeElem' (t := 3) (.tmp 61) (.tmp 60) (by kernel_rfl) (by kernel_rfl) (by kernel_rfl) hS (by kernel_rfl) (by kernel_rfl) rfl e35 rfl (fun w36 hS => ?_))
        have hl37 := set?_len e35
        refine WR.know 5 (.slice A5_l1 y34.length c5_l1) (.slice A5_l1 x5_l1.length c5_l1) (by kernel_rfl) (by rw [hl37]) ?_
        refine WR.runk [] [] [0, 1, 5, 14, 15, 16] (L' := [(0, .slice A0 l0.length c0), (1, .slice A1 l1.length c1), (5, .slice A5_l1 y34.length c5_l1), (14, .slice A0 l0.length c0), (15, .int .i64 (l0.length : Int)), (16, .int .i64 x16_l1)]) (w' := w36) (by kernel_rfl) ?_
        refine WR.nil ?_
        refine At.blockNormal ?_
        refine At.go ?_
        refine WC.reg [0, 1] (by kernel_rfl) (by kernel_rfl) ?_
        refine WR.runk [0, 1] [] [0, 1, 5, 14, 15, 16] (L' := [(0, .slice A0 l0.length c0), (1, .slice A1 l1.length c1), (5, .slice A5_l1 y34.length c5_l1), (14, .slice A0 l0.length c0), (15, .int .i64 (l0.length : Int)), (16, .int .i64 (wi (x16_l1 + 1)))]) (w' := w36) (by kernel_rfl) ?_
        refine WR.nil ?_
        have hS : Sat w36 (rf w0) [osl 3 (r0 (.int .i64)) 1 A5_l1 c5_l1 y34] := hS.sel [0] (by kernel_rfl)
        refine At.again ?_
        refine WL.weaken [0, 1, 5, 14, 15, 16] (L' := [(0, .slice A0 l0.length c0), (1, .slice A1 l1.length c1), (5, .slice A5_l1 y34.length c5_l1), (14, .slice A0 l0.length c0), (15, .int .i64 (l0.length : Int)), (16, .int .i64 (wi (x16_l1 + 1)))]) (by kernel_rfl) ?_
        exact ih y34 (wi (x16_l1 + 1)) A5_l1 c5_l1 _ hS H
    · replace H := ite_f H hb6
      refine WC.exit (by kernel_rfl) ?_
      refine At.thenExit ?_
      refine At.thenExit ?_
      obtain rfl := Option.some.inj H
      have hS : Sat w (rf w0) [osl 3 (r0 (.int .i64)) 1 A5_l1 c5_l1 x5_l1] := hS.sel [0] (by kernel_rfl)
      refine At.weaken [5] (L' := [(5, .slice A5_l1 x5_l1.length c5_l1)]) (by kernel_rfl) ?_
      exact hn0 A5_l1 c5_l1 _ hS
theorem colophonref16_Doubles.calls (w0 : World) (A0 : Option Addr) (c0 : Nat) (l0 : List Int) (R0 : rdS (r0 (.int .i64)) 1 (hp w0) A0 c0 l0) (A1 : Option Addr) (c1 : Nat) (l1 : List Int) (R1 : rdS (r0 (.int .i64)) 1 (hp w0) A1 c1 l1) (r : (List Int)) (H : colophonref16_Doubles.f l0 l1 = some r) :
    Calls Try.prog 9 #[.slice A0 l0.length c0, .slice A1 l1.length c1] w0 (fun e w' => ∃ v, e = .returned v ∧ colophonref16_Doubles.post w0 r v w') := by
  have hS : Sat w0 (rf w0) [] := Sat.start w0
  unfold colophonref16_Doubles.f at H
  refine calls_of_WC (vs := [.slice A0 l0.length c0, .slice A1 l1.length c1]) Try.func9 (c := C9) (n := 64) (by kernel_rfl) (by kernel_rfl) (by kernel_rfl) ?_
  refine WC.seq (by kernel_rfl) ?_
  refine WC.reg [0] (by kernel_rfl) (by kernel_rfl) ?_
  refine WR.runk [0] [] [0, 1] (L' := [(0, .slice A0 l0.length c0), (1, .slice A1 l1.length c1)]) (w' := w0) (by kernel_rfl) ?_
  refine WR.nil ?_
  refine At.go ?_
  refine WC.seq (by kernel_rfl) ?_
  refine WC.reg [0, 1, 2, 3] (by kernel_rfl) (by kernel_rfl) ?_
  refine WR.runk [0, 1] [2, 3] [0, 1, 12] (L' := [(0, .slice A0 l0.length c0), (1, .slice A1 l1.length c1), (12, .int .i64 (l0.length : Int))]) (w' := w0) (by kernel_rfl) ?_
  obtain ⟨y1, e2, H⟩ := bind_ex H
  refine WR.st (St.make' (t := 22) (e := 3) (sz := 1) (bytes := 8) (k1 := .i64) (k2 := .i64) (R := (r0 (.int .i64))) (.tmp 12) (.tmp 12) (by kernel_rfl) (by kernel_rfl) (.int .i64 0) (by kernel_rfl) (by kernel_rfl) rfl (by kernel_rfl) hS (by kernel_rfl) (by kernel_rfl) 17592186044416 (by kernel_rfl) (by kernel_rfl) e2 (fun A3 c4 w5 hS => ?_))
  refine WR.runk [3] [] [0, 1, 5] (L' := [(0, .slice A0 l0.length c0), (1, .slice A1 l1.length c1), (5, .slice A3 y1.length c4)]) (w' := w5) (by kernel_rfl) ?_
  refine WR.nil ?_
  refine At.go ?_
  refine WC.seq (by kernel_rfl) ?_
  refine WC.seq (by kernel_rfl) ?_
  refine WC.reg [0, 1, 2] (by kernel_rfl) (by kernel_rfl) ?_
  refine WR.runk [0, 1, 2] [] [0, 1, 5, 14, 15, 16] (L' := [(0, .slice A0 l0.length c0), (1, .slice A1 l1.length c1), (5, .slice A3 y1.length c4), (14, .slice A0 l0.length c0), (15, .int .i64 (l0.length : Int)), (16, .int .i64 0)]) (w' := w5) (by kernel_rfl) ?_
  refine WR.nil ?_
  refine At.go ?_
  refine WC.block (by kernel_rfl) ?_
  have hS : Sat w5 (rf w0) [osl 3 (r0 (.int .i64)) 1 A3 c4 y1] := hS.sel [0] (by kernel_rfl)
  obtain ⟨o38, e39, H⟩ := bind_ex H
  refine WC.loop (by kernel_rfl) ?_
  refine WL.weaken [0, 1, 5, 14, 15, 16] (L' := [(0, .slice A0 l0.length c0), (1, .slice A1 l1.length c1), (5, .slice A3 y1.length c4), (14, .slice A0 l0.length c0), (15, .int .i64 (l0.length : Int)), (16, .int .i64 0)]) (by kernel_rfl) ?_
  refine colophonref16_Doubles.l1_ok w0 A0 c0 l0 A1 c1 l1 R0 R1 o38 (fun A5_q40 c5_q40 w41 hS => ?_) FU y1 0 A3 c4 _ hS e39
  refine At.hit ?_
  refine At.go ?_
  refine WC.seq (by kernel_rfl) ?_
  refine WC.reg [0, 1] (by kernel_rfl) (by kernel_rfl) ?_
  refine WR.runk [0, 1] [] [4] (L' := [(4, .slice A5_q40 o38.length c5_q40)]) (w' := w41) (by kernel_rfl) ?_
  refine WR.nil ?_
  refine At.go ?_
  refine WC.ret (by kernel_rfl) ?_
  obtain rfl := Option.some.inj H
  have hS : Sat w41 (rf w0) [osl 3 (r0 (.int .i64)) 1 A5_q40 c5_q40 o38] := hS.sel [0] (by kernel_rfl)
  exact At.body [.slice A5_q40 o38.length c5_q40] (by kernel_rfl) ⟨_, rfl, _, _, rfl, hS⟩
/-! ### 12 colophon/colophonref08.Small -/
def colophonref08_Small.l1 (l0 : List (List Int)) : Nat → Int → Int → Option (Sum Bool Unit)
  | 0, _, _ => none
  | k + 1, x1_l1, x15_l1 => (if decide (x15_l1 < (l0.length : Int)) then ((at? l0 x15_l1).bind fun v3 => (if decide ((v3.length : Int) > x1_l1) then some (.inl false) else colophonref08_Small.l1 l0 k (wi (x1_l1 - (v3.length : Int))) (wi (x15_l1 + 1)))) else some (.inr ()))
def colophonref08_Small.f (l0 : List (List Int)) (a1 : Int) (a2 : Int) : Option Bool := (if decide ((l0.length : Int) > a2) then some false else ((colophonref08_Small.l1 l0 FU a1 0).bind fun o9 => (match o9 with | .inl o11 => some o11 | .inr o15 => some true)))
def colophonref08_Small.post (w : World) (r : Bool) (v : Value) (w' : World) : Prop := v = (.bool r : Value) ∧ Sat w' (rf w) []
theorem colophonref08_Small.l1_ok {Q} (w0 : World) (A0 : Option Addr) (c0 : Nat) (l0 : List (List Int)) (R0 : rdS (rd (hp w0) (.slice 5 (.int .u8))) 1 (hp w0) A0 c0 l0) (out : Sum Bool Unit) (hn0 : ∀ (o0 : Bool) (w : World), out = (.inl o0) → Sat w (rf w0) [] → At Q .ret 28 [(6, .bool o0)] w) (hn1 : ∀ (o1 : Unit) (w : World), out = (.inr o1) → Sat w (rf w0) [] → At Q (.exit 0) 28 [] w) :
    ∀ (k : Nat) (x1_l1 : Int) (x15_l1 : Int) (w : World), Sat w (rf w0) [] → colophonref08_Small.l1 l0 k x1_l1 x15_l1 = some out → WL Try.prog (cbody (cbody (cr (cl (cr (cr C12)))))) Q 28 [(1, .int .i64 x1_l1), (13, .slice A0 l0.length c0), (14, .int .i64 (l0.length : Int)), (15, .int .i64 x15_l1)] w := by
  intro k
  induction k with
  | zero => intro x1_l1 x15_l1 w hS H; exact absurd (show none = some out from H) (by simp)
  | succ k ih =>
    intro x1_l1 x15_l1 w hS H
    unfold colophonref08_Small.l1 at H
    refine WL.round ?_
    refine WC.seq (by kernel_rfl) ?_
    refine WC.reg [0] (by kernel_rfl) (by kernel_rfl) ?_
    refine WR.runk [0] [] [1, 13, 14, 15, 16] (L' := [(1, .int .i64 x1_l1), (13, .slice A0 l0.length c0), (14, .int .i64 (l0.length : Int)), (15, .int .i64 x15_l1), (16, .bool (decide (x15_l1 < (l0.length : Int))))]) (w' := w) (by kernel_rfl) ?_
    refine WR.nil ?_
    refine At.go ?_
    refine WC.seq (by kernel_rfl) ?_
    refine WC.cond (by kernel_rfl) (decide (x15_l1 < (l0.length : Int))) (by kernel_rfl) (by kernel_rfl) (fun hb2 => ?_) (fun hb2 => ?_)
    · replace H := ite_t H hb2
      refine WC.skip (by kernel_rfl) ?_
      refine At.go ?_
      refine WC.seq (by kernel_rfl) ?_
      refine WC.block (by kernel_rfl) ?_
      refine WC.seq (by kernel_rfl) ?_
      refine WC.reg [0, 1, 2] (by kernel_rfl) (by kernel_rfl) ?_
      refine WR.runk [] [0, 1, 2] [1, 13, 14, 15] (L' := [(1, .int .i64 x1_l1), (13, .slice A0 l0.length c0), (14, .int .i64 (l0.length : Int)), (15, .int .i64 x15_l1)]) (w' := w) (by kernel_rfl) ?_
      obtain ⟨v3, e4, H⟩ := bind_ex H
      refine WR.st (St.ofP (PSt.idx (k := .i64) (.tmp 13) (.tmp 15) (by kernel_rfl) (by kernel_rfl) E33 (by kernel_rfl) (by kernel_rfl) (rdS.up R0 hS.sub0) e4 ?_))
      refine WR.runk [] [1, 2] [1, 13, 14, 15, 17] (L' := [(1, .int .i64 x1_l1), (13, .slice A0 l0.length c0), (14, .int .i64 (l0.length : Int)), (15, .int .i64 x15_l1), (17, .pointer (some (adr A0 x15_l1.toNat 1)))]) (w' := w) (by kernel_rfl) ?_
      refine WR.st (St.ofR (RSt.loadSl (t := 34) (.tmp 17) (by kernel_rfl) (by kernel_rfl) (by kernel_rfl) (by kernel_rfl) R0 e4 hS.sub0 (fun A5 c6 R7 => ?_)))
      replace R7 : rdS (r0 (.int .u8)) 1 (hp w0) A5 c6 v3 := R7
      refine WR.runk [2] [] [1, 8, 13, 14, 15] (L' := [(1, .int .i64 x1_l1), (8, .slice A5 v3.length c6), (13, .slice A0 l0.length c0), (14, .int .i64 (l0.length : Int)), (15, .int .i64 x15_l1)]) (w' := w) (by kernel_rfl) ?_
      refine WR.nil ?_
      refine At.go ?_
      refine WC.seq (by kernel_rfl) ?_
      refine WC.seq (by kernel_rfl) ?_
      refine WC.reg [0, 1, 2, 3] (by kernel_rfl) (by kernel_rfl) ?_
      refine WR.runk [0, 1, 2, 3] [] [1, 8, 13, 14, 15, 22] (L' := [(1, .int .i64 x1_l1), (8, .slice A5 v3.length c6), (13, .slice A0 l0.length c0), (14, .int .i64 (l0.length : Int)), (15, .int .i64 x15_l1), (22, .bool (decide ((v3.length : Int) > x1_l1)))]) (w' := w) (by kernel_rfl) ?_
      refine WR.nil ?_
      refine At.go ?_
      refine WC.cond (by kernel_rfl) (decide ((v3.length : Int) > x1_l1)) (by kernel_rfl) (by kernel_rfl) (fun hb8 => ?_) (fun hb8 => ?_)
      · replace H := ite_t H hb8
        refine WC.seq (by kernel_rfl) ?_
        refine WC.reg [0] (by kernel_rfl) (by kernel_rfl) ?_
        refine WR.runk [0] [] [6] (L' := [(6, .bool false)]) (w' := w) (by kernel_rfl) ?_
        refine WR.nil ?_
        refine At.go ?_
        refine WC.ret (by kernel_rfl) ?_
        refine At.thenRet ?_
        refine At.blockRet ?_
        refine At.thenRet ?_
        refine At.thenRet ?_
        obtain rfl := Option.some.inj H
        have hS : Sat w (rf w0) [] := hS.sel [] (by kernel_rfl)
        refine At.weaken [6] (L' := [(6, .bool false)]) (by kernel_rfl) ?_
        exact hn0 false _ rfl hS
      · replace H := ite_f H hb8
        refine WC.skip (by kernel_rfl) ?_
        refine At.go ?_
        refine WC.reg [0, 1, 2, 3, 4] (by kernel_rfl) (by kernel_rfl) ?_
        refine WR.runk [0, 1, 2, 3, 4] [] [1, 13, 14, 15] (L' := [(1, .int .i64 (wi (x1_l1 - (v3.length : Int)))), (13, .slice A0 l0.length c0), (14, .int .i64 (l0.length : Int)), (15, .int .i64 x15_l1)]) (w' := w) (by kernel_rfl) ?_
        refine WR.nil ?_
        refine At.blockNormal ?_
        refine At.go ?_
        refine WC.reg [0, 1] (by kernel_rfl) (by kernel_rfl) ?_
        refine WR.runk [0, 1] [] [1, 13, 14, 15] (L' := [(1, .int .i64 (wi (x1_l1 - (v3.length : Int)))), (13, .slice A0 l0.length c0), (14, .int .i64 (l0.length : Int)), (15, .int .i64 (wi (x15_l1 + 1)))]) (w' := w) (by kernel_rfl) ?_
        refine WR.nil ?_
        have hS : Sat w (rf w0) [] := hS.sel [] (by kernel_rfl)
        refine At.again ?_
        refine WL.weaken [1, 13, 14, 15] (L' := [(1, .int .i64 (wi (x1_l1 - (v3.length : Int)))), (13, .slice A0 l0.length c0), (14, .int .i64 (l0.length : Int)), (15, .int .i64 (wi (x15_l1 + 1)))]) (by kernel_rfl) ?_
        exact ih (wi (x1_l1 - (v3.length : Int))) (wi (x15_l1 + 1)) _ hS H
    · replace H := ite_f H hb2
      refine WC.exit (by kernel_rfl) ?_
      refine At.thenExit ?_
      refine At.thenExit ?_
      obtain rfl := Option.some.inj H
      have hS : Sat w (rf w0) [] := hS.sel [] (by kernel_rfl)
      refine At.weaken [] (L' := []) (by kernel_rfl) ?_
      exact hn1 () _ rfl hS
theorem colophonref08_Small.calls (w0 : World) (A0 : Option Addr) (c0 : Nat) (l0 : List (List Int)) (R0 : rdS (rd (hp w0) (.slice 5 (.int .u8))) 1 (hp w0) A0 c0 l0) (a1 : Int) (a2 : Int) (r : Bool) (H : colophonref08_Small.f l0 a1 a2 = some r) :
    Calls Try.prog 12 #[.slice A0 l0.length c0, .int .i64 a1, .int .i64 a2] w0 (fun e w' => ∃ v, e = .returned v ∧ colophonref08_Small.post w0 r v w') := by
  have hS : Sat w0 (rf w0) [] := Sat.start w0
  unfold colophonref08_Small.f at H
  refine calls_of_WC (vs := [.slice A0 l0.length c0, .int .i64 a1, .int .i64 a2]) Try.func12 (c := C12) (n := 28) (by kernel_rfl) (by kernel_rfl) (by kernel_rfl) ?_
  refine WC.seq (by kernel_rfl) ?_
  refine WC.reg [0] (by kernel_rfl) (by kernel_rfl) ?_
  refine WR.runk [0] [] [0, 1, 2] (L' := [(0, .slice A0 l0.length c0), (1, .int .i64 a1), (2, .int .i64 a2)]) (w' := w0) (by kernel_rfl) ?_
  refine WR.nil ?_
  refine At.go ?_
  refine WC.seq (by kernel_rfl) ?_
  refine WC.seq (by kernel_rfl) ?_
  refine WC.reg [0, 1, 2, 3] (by kernel_rfl) (by kernel_rfl) ?_
  refine WR.runk [0, 1, 2, 3] [] [0, 1, 12] (L' := [(0, .slice A0 l0.length c0), (1, .int .i64 a1), (12, .bool (decide ((l0.length : Int) > a2)))]) (w' := w0) (by kernel_rfl) ?_
  refine WR.nil ?_
  refine At.go ?_
  refine WC.cond (by kernel_rfl) (decide ((l0.length : Int) > a2)) (by kernel_rfl) (by kernel_rfl) (fun hb1 => ?_) (fun hb1 => ?_)
  · replace H := ite_t H hb1
    refine WC.seq (by kernel_rfl) ?_
    refine WC.reg [0] (by kernel_rfl) (by kernel_rfl) ?_
    refine WR.runk [0] [] [6] (L' := [(6, .bool false)]) (w' := w0) (by kernel_rfl) ?_
    refine WR.nil ?_
    refine At.go ?_
    refine WC.ret (by kernel_rfl) ?_
    refine At.thenRet ?_
    obtain rfl := Option.some.inj H
    have hS : Sat w0 (rf w0) [] := hS.sel [] (by kernel_rfl)
    exact At.body [.bool false] (by kernel_rfl) ⟨_, rfl, rfl, hS⟩
  · replace H := ite_f H hb1
    refine WC.skip (by kernel_rfl) ?_
    refine At.go ?_
    refine WC.seq (by kernel_rfl) ?_
    refine WC.seq (by kernel_rfl) ?_
    refine WC.reg [0, 1, 2] (by kernel_rfl) (by kernel_rfl) ?_
    refine WR.runk [0, 1, 2] [] [1, 13, 14, 15] (L' := [(1, .int .i64 a1), (13, .slice A0 l0.length c0), (14, .int .i64 (l0.length : Int)), (15, .int .i64 0)]) (w' := w0) (by kernel_rfl) ?_
    refine WR.nil ?_
    refine At.go ?_
    refine WC.block (by kernel_rfl) ?_
    have hS : Sat w0 (rf w0) [] := hS.sel [] (by kernel_rfl)
    obtain ⟨o9, e10, H⟩ := bind_ex H
    refine WC.loop (by kernel_rfl) ?_
    refine WL.weaken [1, 13, 14, 15] (L' := [(1, .int .i64 a1), (13, .slice A0 l0.length c0), (14, .int .i64 (l0.length : Int)), (15, .int .i64 0)]) (by kernel_rfl) ?_
    refine colophonref08_Small.l1_ok w0 A0 c0 l0 R0 o9 (fun o11 w13 ho14 hS => ?_) (fun o15 w17 ho18 hS => ?_) FU a1 0 _ hS e10
    · subst ho14
      dsimp only at H
      refine At.blockRet ?_
      refine At.thenRet ?_
      obtain rfl := Option.some.inj H
      have hS : Sat w13 (rf w0) [] := hS.sel [] (by kernel_rfl)
      exact At.body [.bool o11] (by kernel_rfl) ⟨_, rfl, rfl, hS⟩
    · subst ho18
      dsimp only at H
      refine At.hit ?_
      refine At.go ?_
      refine WC.seq (by kernel_rfl) ?_
      refine WC.reg [0] (by kernel_rfl) (by kernel_rfl) ?_
      refine WR.runk [0] [] [6] (L' := [(6, .bool true)]) (w' := w17) (by kernel_rfl) ?_
      refine WR.nil ?_
      refine At.go ?_
      refine WC.ret (by kernel_rfl) ?_
      obtain rfl := Option.some.inj H
      have hS : Sat w17 (rf w0) [] := hS.sel [] (by kernel_rfl)
      exact At.body [.bool true] (by kernel_rfl) ⟨_, rfl, rfl, hS⟩
/-! ### 15 colophon/colophonref08.Symbols -/
def colophonref08_Symbols.l2 (l0 : List (List Int)) (v2 : List Int) : Nat → (List Int) → Int → Option (List Int)
  | 0, _, _ => none
  | k + 1, x3_l2, x17_l2 => (if decide (x17_l2 < (v2.length : Int)) then ((at? v2 x17_l2).bind fun v8 => ((app? 17592186044416 x3_l2 ([wi ((wi v8) + (l0.length : Int))] : List Int)).bind fun y13 => colophonref08_Symbols.l2 l0 v2 k y13 (wi (x17_l2 + 1)))) else some x3_l2)
def colophonref08_Symbols.l1 (l0 : List (List Int)) : Nat → (List Int) → Int → Option (List Int)
  | 0, _, _ => none
  | k + 1, x3_l1, x10_l1 => (if decide (x10_l1 < (l0.length : Int)) then ((at? l0 x10_l1).bind fun v2 => ((colophonref08_Symbols.l2 l0 v2 FU x3_l1 0).bind fun o17 => ((app? 17592186044416 o17 ([x10_l1] : List Int)).bind fun y25 => colophonref08_Symbols.l1 l0 k y25 (wi (x10_l1 + 1))))) else some x3_l1)
def colophonref08_Symbols.f (l0 : List (List Int)) : Option (List Int) := ((colophonref08_Symbols.l1 l0 FU ([] : List Int) 0).bind fun o29 => some o29)
def colophonref08_Symbols.post (w : World) (r : (List Int)) (v : Value) (w' : World) : Prop := ∃ (A0' : Option Addr) (c0' : Nat), v = (.slice A0' r.length c0' : Value) ∧ Sat w' (rf w) [osl 3 (r0 (.int .i64)) 1 A0' c0' r]
theorem colophonref08_Symbols.l2_ok {Q} (w0 : World) (A0 : Option Addr) (c0 : Nat) (l0 : List (List Int)) (x10_l1 : Int) (v2 : List Int) (A4 : Option Addr) (c5 : Nat) (R6 : rdS (r0 (.int .u8)) 1 (hp w0) A4 c5 v2) (out : (List Int)) (hn0 : ∀ (A3_q : Option Addr) (c3_q : Nat) (w : World), Sat w (rf w0) [osl 3 (r0 (.int .i64)) 1 A3_q c3_q out] → At Q (.exit 2) 36 [(0, .slice A0 l0.length c0), (3, .slice A3_q out.length c3_q), (4, .int .i64 x10_l1), (8, .slice A0 l0.length c0), (9, .int .i64 (l0.length : Int)), (10, .int .i64 x10_l1)] w) :
    ∀ (k : Nat) (x3_l2 : List Int) (x17_l2 : Int) (A3_l2 : Option Addr) (c3_l2 : Nat) (w : World), Sat w (rf w0) [osl 3 (r0 (.int .i64)) 1 A3_l2 c3_l2 x3_l2] → colophonref08_Symbols.l2 l0 v2 k x3_l2 x17_l2 = some out → WL Try.prog (cbody (cbody (cr (cl (cr (cbody (cl (cr (cr (cbody (cbody (cr (cl (cr (cr C15))))))))))))))) Q 36 [(0, .slice A0 l0.length c0), (3, .slice A3_l2 x3_l2.length c3_l2), (4, .int .i64 x10_l1), (8, .slice A0 l0.length c0), (9, .int .i64 (l0.length : Int)), (10, .int .i64 x10_l1), (15, .slice A4 v2.length c5), (16, .int .i64 (v2.length : Int)), (17, .int .i64 x17_l2)] w := by
  intro k
  induction k with
  | zero => intro x3_l2 x17_l2 A3_l2 c3_l2 w hS H; exact absurd (show none = some out from H) (by simp)
  | succ k ih =>
    intro x3_l2 x17_l2 A3_l2 c3_l2 w hS H
    unfold colophonref08_Symbols.l2 at H
    refine WL.round ?_
    refine WC.seq (by kernel_rfl) ?_
    refine WC.reg [0] (by kernel_rfl) (by kernel_rfl) ?_
    refine WR.runk [0] [] [0, 3, 4, 8, 9, 10, 15, 16, 17, 18] (L' := [(0, .slice A0 l0.length c0), (3, .slice A3_l2 x3_l2.length c3_l2), (4, .int .i64 x10_l1), (8, .slice A0 l0.length c0), (9, .int .i64 (l0.length : Int)), (10, .int .i64 x10_l1), (15, .slice A4 v2.length c5), (16, .int .i64 (v2.length : Int)), (17, .int .i64 x17_l2), (18, .bool (decide (x17_l2 < (v2.length : Int))))]) (w' := w) (by kernel_rfl) ?_
    refine WR.nil ?_
    refine At.go ?_
    refine WC.seq (by kernel_rfl) ?_
    refine WC.cond (by kernel_rfl) (decide (x17_l2 < (v2.length : Int))) (by kernel_rfl) (by kernel_rfl) (fun hb7 => ?_) (fun hb7 => ?_)
    · replace H := ite_t H hb7
      refine WC.skip (by kernel_rfl) ?_
      refine At.go ?_
      refine WC.seq (by kernel_rfl) ?_
      refine WC.block (by kernel_rfl) ?_
      refine WC.seq (by kernel_rfl) ?_
      refine WC.reg [0, 1, 2] (by kernel_rfl) (by kernel_rfl) ?_
      refine WR.runk [] [0, 1, 2] [0, 3, 4, 8, 9, 10, 15, 16, 17] (L' := [(0, .slice A0 l0.length c0), (3, .slice A3_l2 x3_l2.length c3_l2), (4, .int .i64 x10_l1), (8, .slice A0 l0.length c0), (9, .int .i64 (l0.length : Int)), (10, .int .i64 x10_l1), (15, .slice A4 v2.length c5), (16, .int .i64 (v2.length : Int)), (17, .int .i64 x17_l2)]) (w' := w) (by kernel_rfl) ?_
      obtain ⟨v8, e9, H⟩ := bind_ex H
      refine WR.st (St.ofP (PSt.idx (k := .i64) (.tmp 15) (.tmp 17) (by kernel_rfl) (by kernel_rfl) E34 (by kernel_rfl) (by kernel_rfl) (rdS.up R6 hS.sub0) e9 ?_))
      refine WR.runk [] [1, 2] [0, 3, 4, 8, 9, 10, 15, 16, 17, 19] (L' := [(0, .slice A0 l0.length c0), (3, .slice A3_l2 x3_l2.length c3_l2), (4, .int .i64 x10_l1), (8, .slice A0 l0.length c0), (9, .int .i64 (l0.length : Int)), (10, .int .i64 x10_l1), (15, .slice A4 v2.length c5), (16, .int .i64 (v2.length : Int)), (17, .int .i64 x17_l2), (19, .pointer (some (adr A4 x17_l2.toNat 1)))]) (w' := w) (by kernel_rfl) ?_
      refine WR.st (St.ofR (RSt.loadInt (t := 5) (.tmp 19) (by kernel_rfl) (by kernel_rfl) (by kernel_rfl) (by kernel_rfl) (rdS.up R6 hS.sub0) e9 ?_))
      refine WR.runk [2] [] [0, 3, 4, 7, 8, 9, 10, 15, 16, 17] (L' := [(0, .slice A0 l0.length c0), (3, .slice A3_l2 x3_l2.length c3_l2), (4, .int .i64 x10_l1), (7, .int .u8 v8), (8, .slice A0 l0.length c0), (9, .int .i64 (l0.length : Int)), (10, .int .i64 x10_l1), (15, .slice A4 v2.length c5), (16, .int .i64 (v2.length : Int)), (17, .int .i64 x17_l2)]) (w' := w) (by kernel_rfl) ?_
      refine WR.nil ?_
      refine At.go ?_
      refine WC.reg [0, 1, 2, 3, 4, 5, 6, 7, 8] (by kernel_rfl) (by kernel_rfl) ?_
      refine WR.runk [0, 1, 2, 3, 4, 5] [6, 7, 8] [0, 3, 4, 8, 9, 10, 15, 16, 17, 21, 26] (L' := [(0, .slice A0 l0.length c0), (3, .slice A3_l2 x3_l2.length c3_l2), (4, .int .i64 x10_l1), (8, .slice A0 l0.length c0), (9, .int .i64 (l0.length : Int)), (10, .int .i64 x10_l1), (15, .slice A4 v2.length c5), (16, .int .i64 (v2.length : Int)), (17, .int .i64 x17_l2), (21, .slice A3_l2 x3_l2.length c3_l2), (26, .int .i64 (wi ((wi v8) + (l0.length : Int))))]) (w' := w) (by kernel_rfl) ?_
      refine WR.st (St.box hS (by kernel_rfl) (.cells #[.int .i64 (wi ((wi v8) + (l0.length : Int)))] 3) (fun b10 => .slice (some ⟨b10, 0, none⟩) 1 1) (fun _ => by kernel_rfl) (fun b10 w11 hS => ?_))
      refine WR.runk [] [7, 8] [0, 3, 4, 8, 9, 10, 15, 16, 17, 21, 27] (L' := [(0, .slice A0 l0.length c0), (3, .slice A3_l2 x3_l2.length c3_l2), (4, .int .i64 x10_l1), (8, .slice A0 l0.length c0), (9, .int .i64 (l0.length : Int)), (10, .int .i64 x10_l1), (15, .slice A4 v2.length c5), (16, .int .i64 (v2.length : Int)), (17, .int .i64 x17_l2), (21, .slice A3_l2 x3_l2.length c3_l2), (27, .slice (some ⟨b10, 0, none⟩) 1 1)]) (w' := w11) (by kernel_rfl) ?_
      have hS : Sat w11 (rf w0) [osl 3 (r0 (.int .i64)) 1 A3_l2 c3_l2 x3_l2, pts b10 (.cells #[.int .i64 (wi ((wi v8) + (l0.length : Int)))] 3 (0, 0))] := hS.sel [1, 0] (by kernel_rfl)
      obtain ⟨y13, e12, H⟩ := bind_ex H
      refine WR.st (St.append' (.tmp 21) (.tmp 27) (by kernel_rfl) (by kernel_rfl) E22 (r0_one _) hS (by kernel_rfl) (by kernel_rfl) (Sat.ptsAt 1 (r0 (.int .i64)) 1 ([wi ((wi v8) + (l0.length : Int))] : List Int) hS rfl rfl (rdL.cons1 rfl (rdL.nil _ _))) 17592186044416 (by kernel_rfl) (by kernel_rfl) e12 (fun A14 c15 w16 hS => ?_))
      refine WR.runk [8] [] [0, 3, 4, 8, 9, 10, 15, 16, 17] (L' := [(0, .slice A0 l0.length c0), (3, .slice A14 y13.length c15), (4, .int .i64 x10_l1), (8, .slice A0 l0.length c0), (9, .int .i64 (l0.length : Int)), (10, .int .i64 x10_l1), (15, .slice A4 v2.length c5), (16, .int .i64 (v2.length : Int)), (17, .int .i64 x17_l2)]) (w' := w16) (by kernel_rfl) ?_
      refine WR.nil ?_
      refine At.blockNormal ?_
      refine At.go ?_
      refine WC.reg [0, 1] (by kernel_rfl) (by kernel_rfl) ?_
      refine WR.runk [0, 1] [] [0, 3, 4, 8, 9, 10, 15, 16, 17] (L' := [(0, .slice A0 l0.length c0), (3, .slice A14 y13.length c15), (4, .int .i64 x10_l1), (8, .slice A0 l0.length c0), (9, .int .i64 (l0.length : Int)), (10, .int .i64 x10_l1), (15, .slice A4 v2.length c5), (16, .int .i64 (v2.length : Int)), (17, .int .i64 (wi (x17_l2 + 1)))]) (w' := w16) (by kernel_rfl) ?_
      refine WR.nil ?_
      have hS : Sat w16 (rf w0) [osl 3 (r0 (.int .i64)) 1 A14 c15 y13] := hS.sel [0] (by kernel_rfl)
      refine At.again ?_
      refine WL.weaken [0, 3, 4, 8, 9, 10, 15, 16, 17] (L' := [(0, .slice A0 l0.length c0), (3, .slice A14 y13.length c15), (4, .int .i64 x10_l1), (8, .slice A0 l0.length c0), (9, .int .i64 (l0.length : Int)), (10, .int .i64 x10_l1), (15, .slice A4 v2.length c5), (16, .int .i64 (v2.length : Int)), (17, .int .i64 (wi (x17_l2 + 1)))]) (by kernel_rfl) ?_
      exact ih y13 (wi (x17_l2 + 1)) A14 c15 _ hS H
    · replace H := ite_f H hb7
      refine WC.exit (by kernel_rfl) ?_
      refine At.thenExit ?_
      refine At.thenExit ?_
      obtain rfl := Option.some.inj H
      have hS : Sat w (rf w0) [osl 3 (r0 (.int .i64)) 1 A3_l2 c3_l2 x3_l2] := hS.sel [0] (by kernel_rfl)
      refine At.weaken [0, 3, 4, 8, 9, 10] (L' := [(0, .slice A0 l0.length c0), (3, .slice A3_l2 x3_l2.length c3_l2), (4, .int .i64 x10_l1), (8, .slice A0 l0.length c0), (9, .int .i64 (l0.length : Int)), (10, .int .i64 x10_l1)]) (by kernel_rfl) ?_
      exact hn0 A3_l2 c3_l2 _ hS
theorem colophonref08_Symbols.l1_ok {Q} (w0 : World) (A0 : Option Addr) (c0 : Nat) (l0 : List (List Int)) (R0 : rdS (rd (hp w0) (.slice 5 (.int .u8))) 1 (hp w0) A0 c0 l0) (out : (List Int)) (hn0 : ∀ (A3_q : Option Addr) (c3_q : Nat) (w : World), Sat w (rf w0) [osl 3 (r0 (.int .i64)) 1 A3_q c3_q out] → At Q (.exit 0) 36 [(3, .slice A3_q out.length c3_q)] w) :
    ∀ (k : Nat) (x3_l1 : List Int) (x10_l1 : Int) (A3_l1 : Option Addr) (c3_l1 : Nat) (w : World), Sat w (rf w0) [osl 3 (r0 (.int .i64)) 1 A3_l1 c3_l1 x3_l1] → colophonref08_Symbols.l1 l0 k x3_l1 x10_l1 = some out → WL Try.prog (cbody (cbody (cr (cl (cr (cr C15)))))) Q 36 [(0, .slice A0 l0.length c0), (3, .slice A3_l1 x3_l1.length c3_l1), (8, .slice A0 l0.length c0), (9, .int .i64 (l0.length : Int)), (10, .int .i64 x10_l1)] w := by
  intro k
  induction k with
  | zero => intro x3_l1 x10_l1 A3_l1 c3_l1 w hS H; exact absurd (show none = some out from H) (by simp)
  | succ k ih =>
    intro x3_l1 x10_l1 A3_l1 c3_l1 w hS H
    unfold colophonref08_Symbols.l1 at H
    refine WL.round ?_
    refine WC.seq (by kernel_rfl) ?_
    refine WC.reg [0] (by kernel_rfl) (by kernel_rfl) ?_
    refine WR.runk [0] [] [0, 3, 8, 9, 10, 11] (L' := [(0, .slice A0 l0.length c0), (3, .slice A3_l1 x3_l1.length c3_l1), (8, .slice A0 l0.length c0), (9, .int .i64 (l0.length : Int)), (10, .int .i64 x10_l1), (11, .bool (decide (x10_l1 < (l0.length : Int))))]) (w' := w) (by kernel_rfl) ?_
    refine WR.nil ?_
    refine At.go ?_
    refine WC.seq (by kernel_rfl) ?_
    refine WC.cond (by kernel_rfl) (decide (x10_l1 < (l0.length : Int))) (by kernel_rfl) (by kernel_rfl) (fun hb1 => ?_) (fun hb1 => ?_)
    · replace H := ite_t H hb1
      refine WC.skip (by kernel_rfl) ?_
      refine At.go ?_
      refine WC.seq (by kernel_rfl) ?_
      refine WC.block (by kernel_rfl) ?_
      refine WC.seq (by kernel_rfl) ?_
      refine WC.reg [0, 1, 2, 3, 4] (by kernel_rfl) (by kernel_rfl) ?_
      refine WR.runk [0] [1, 2, 3, 4] [0, 3, 8, 9, 10, 12] (L' := [(0, .slice A0 l0.length c0), (3, .slice A3_l1 x3_l1.length c3_l1), (8, .slice A0 l0.length c0), (9, .int .i64 (l0.length : Int)), (10, .int .i64 x10_l1), (12, .int .i64 x10_l1)]) (w' := w) (by kernel_rfl) ?_
      obtain ⟨v2, e3, H⟩ := bind_ex H
      refine WR.st (St.ofP (PSt.idx (k := .i64) (.tmp 8) (.tmp 10) (by kernel_rfl) (by kernel_rfl) E33 (by kernel_rfl) (by kernel_rfl) (rdS.up R0 hS.sub0) e3 ?_))
      refine WR.runk [] [2, 3, 4] [0, 3, 8, 9, 10, 12, 13] (L' := [(0, .slice A0 l0.length c0), (3, .slice A3_l1 x3_l1.length c3_l1), (8, .slice A0 l0.length c0), (9, .int .i64 (l0.length : Int)), (10, .int .i64 x10_l1), (12, .int .i64 x10_l1), (13, .pointer (some (adr A0 x10_l1.toNat 1)))]) (w' := w) (by kernel_rfl) ?_
      refine WR.st (St.ofR (RSt.loadSl (t := 34) (.tmp 13) (by kernel_rfl) (by kernel_rfl) (by kernel_rfl) (by kernel_rfl) R0 e3 hS.sub0 (fun A4 c5 R6 => ?_)))
      replace R6 : rdS (r0 (.int .u8)) 1 (hp w0) A4 c5 v2 := R6
      refine WR.runk [3, 4] [] [0, 3, 4, 5, 8, 9, 10] (L' := [(0, .slice A0 l0.length c0), (3, .slice A3_l1 x3_l1.length c3_l1), (4, .int .i64 x10_l1), (5, .slice A4 v2.length c5), (8, .slice A0 l0.length c0), (9, .int .i64 (l0.length : Int)), (10, .int .i64 x10_l1)]) (w' := w) (by kernel_rfl) ?_
      refine WR.nil ?_
      refine At.go ?_
      refine WC.seq (by kernel_rfl) ?_
      refine WC.seq (by kernel_rfl) ?_
      refine WC.reg [0, 1, 2] (by kernel_rfl) (by kernel_rfl) ?_
      refine WR.runk [0, 1, 2] [] [0, 3, 4, 8, 9, 10, 15, 16, 17] (L' := [(0, .slice A0 l0.length c0), (3, .slice A3_l1 x3_l1.length c3_l1), (4, .int .i64 x10_l1), (8, .slice A0 l0.length c0), (9, .int .i64 (l0.length : Int)), (10, .int .i64 x10_l1), (15, .slice A4 v2.length c5), (16, .int .i64 (v2.length : Int)), (17, .int .i64 0)]) (w' := w) (by kernel_rfl) ?_
      refine WR.nil ?_
      refine At.go ?_
      refine WC.block (by kernel_rfl) ?_
      have hS : Sat w (rf w0) [osl 3 (r0 (.int .i64)) 1 A3_l1 c3_l1 x3_l1] := hS.sel [0] (by kernel_rfl)
      obtain ⟨o17, e18, H⟩ := bind_ex H
      refine WC.loop (by kernel_rfl) ?_
      refine WL.weaken [0, 3, 4, 8, 9, 10, 15, 16, 17] (L' := [(0, .slice A0 l0.length c0), (3, .slice A3_l1 x3_l1.length c3_l1), (4, .int .i64 x10_l1), (8, .slice A0 l0.length c0), (9, .int .i64 (l0.length : Int)), (10, .int .i64 x10_l1), (15, .slice A4 v2.length c5), (16, .int .i64 (v2.length : Int)), (17, .int .i64 0)]) (by kernel_rfl) ?_
      refine colophonref08_Symbols.l2_ok w0 A0 c0 l0 x10_l1 v2 A4 c5 R6 o17 (fun A3_q19 c3_q19 w20 hS => ?_) FU x3_l1 0 A3_l1 c3_l1 _ hS e18
      refine At.hit ?_
      refine At.go ?_
      refine WC.reg [0, 1, 2, 3, 4] (by kernel_rfl) (by kernel_rfl) ?_
      refine WR.runk [0, 1] [2, 3, 4] [0, 3, 8, 9, 10, 30, 31] (L' := [(0, .slice A0 l0.length c0), (3, .slice A3_q19 o17.length c3_q19), (8, .slice A0 l0.length c0), (9, .int .i64 (l0.length : Int)), (10, .int .i64 x10_l1), (30, .slice A3_q19 o17.length c3_q19), (31, .int .i64 x10_l1)]) (w' := w20) (by kernel_rfl) ?_
      refine WR.st (St.box hS (by kernel_rfl) (.cells #[.int .i64 x10_l1] 3) (fun b22 => .slice (some ⟨b22, 0, none⟩) 1 1) (fun _ => by kernel_rfl) (fun b22 w23 hS => ?_))
      refine WR.runk [] [3, 4] [0, 3, 8, 9, 10, 30, 32] (L' := [(0, .slice A0 l0.length c0), (3, .slice A3_q19 o17.length c3_q19), (8, .slice A0 l0.length c0), (9, .int .i64 (l0.length : Int)), (10, .int .i64 x10_l1), (30, .slice A3_q19 o17.length c3_q19), (32, .slice (some ⟨b22, 0, none⟩) 1 1)]) (w' := w23) (by kernel_rfl) ?_
      have hS : Sat w23 (rf w0) [osl 3 (r0 (.int .i64)) 1 A3_q19 c3_q19 o17, pts b22 (.cells #[.int .i64 x10_l1] 3 (0, 0))] := hS.sel [1, 0] (by kernel_rfl)
      obtain ⟨y25, e24, H⟩ := bind_ex H
      refine WR.st (St.append' (.tmp 30) (.tmp 32) (by kernel_rfl) (by kernel_rfl) E22 (r0_one _) hS (by kernel_rfl) (by kernel_rfl) (Sat.ptsAt 1 (r0 (.int .i64)) 1 ([x10_l1] : List Int) hS rfl rfl (rdL.cons1 rfl (rdL.nil _ _))) 17592186044416 (by kernel_rfl) (by kernel_rfl) e24 (fun A26 c27 w28 hS => ?_))
      refine WR.runk [4] [] [0, 3, 8, 9, 10] (L' := [(0, .slice A0 l0.length c0), (3, .slice A26 y25.length c27), (8, .slice A0 l0.length c0), (9, .int .i64 (l0.length : Int)), (10, .int .i64 x10_l1)]) (w' := w28) (by kernel_rfl) ?_
      refine WR.nil ?_
      refine At.blockNormal ?_
      refine At.go ?_
      refine WC.reg [0, 1] (by kernel_rfl) (by kernel_rfl) ?_
      refine WR.runk [0, 1] [] [0, 3, 8, 9, 10] (L' := [(0, .slice A0 l0.length c0), (3, .slice A26 y25.length c27), (8, .slice A0 l0.length c0), (9, .int .i64 (l0.length : Int)), (10, .int .i64 (wi (x10_l1 + 1)))]) (w' := w28) (by kernel_rfl) ?_
      refine WR.nil ?_
      have hS : Sat w28 (rf w0) [osl 3 (r0 (.int .i64)) 1 A26 c27 y25] := hS.sel [0] (by kernel_rfl)
      refine At.again ?_
      refine WL.weaken [0, 3, 8, 9, 10] (L' := [(0, .slice A0 l0.length c0), (3, .slice A26 y25.length c27), (8, .slice A0 l0.length c0), (9, .int .i64 (l0.length : Int)), (10, .int .i64 (wi (x10_l1 + 1)))]) (by kernel_rfl) ?_
      exact ih y25 (wi (x10_l1 + 1)) A26 c27 _ hS H
    · replace H := ite_f H hb1
      refine WC.exit (by kernel_rfl) ?_
      refine At.thenExit ?_
      refine At.thenExit ?_
      obtain rfl := Option.some.inj H
      have hS : Sat w (rf w0) [osl 3 (r0 (.int .i64)) 1 A3_l1 c3_l1 x3_l1] := hS.sel [0] (by kernel_rfl)
      refine At.weaken [3] (L' := [(3, .slice A3_l1 x3_l1.length c3_l1)]) (by kernel_rfl) ?_
      exact hn0 A3_l1 c3_l1 _ hS
theorem colophonref08_Symbols.calls (w0 : World) (A0 : Option Addr) (c0 : Nat) (l0 : List (List Int)) (R0 : rdS (rd (hp w0) (.slice 5 (.int .u8))) 1 (hp w0) A0 c0 l0) (r : (List Int)) (H : colophonref08_Symbols.f l0 = some r) :
    Calls Try.prog 15 #[.slice A0 l0.length c0] w0 (fun e w' => ∃ v, e = .returned v ∧ colophonref08_Symbols.post w0 r v w') := by
  have hS : Sat w0 (rf w0) [] := Sat.start w0
  unfold colophonref08_Symbols.f at H
  refine calls_of_WC (vs := [.slice A0 l0.length c0]) Try.func15 (c := C15) (n := 36) (by kernel_rfl) (by kernel_rfl) (by kernel_rfl) ?_
  refine WC.seq (by kernel_rfl) ?_
  refine WC.reg [0] (by kernel_rfl) (by kernel_rfl) ?_
  refine WR.runk [0] [] [0] (L' := [(0, .slice A0 l0.length c0)]) (w' := w0) (by kernel_rfl) ?_
  refine WR.nil ?_
  refine At.go ?_
  refine WC.seq (by kernel_rfl) ?_
  refine WC.reg [0] (by kernel_rfl) (by kernel_rfl) ?_
  refine WR.runk [0] [] [0, 3] (L' := [(0, .slice A0 l0.length c0), (3, .slice none 0 0)]) (w' := w0) (by kernel_rfl) ?_
  refine WR.nil ?_
  refine At.go ?_
  refine WC.seq (by kernel_rfl) ?_
  refine WC.seq (by kernel_rfl) ?_
  refine WC.reg [0, 1, 2] (by kernel_rfl) (by kernel_rfl) ?_
  refine WR.runk [0, 1, 2] [] [0, 3, 8, 9, 10] (L' := [(0, .slice A0 l0.length c0), (3, .slice none 0 0), (8, .slice A0 l0.length c0), (9, .int .i64 (l0.length : Int)), (10, .int .i64 0)]) (w' := w0) (by kernel_rfl) ?_
  refine WR.nil ?_
  refine At.go ?_
  refine WC.block (by kernel_rfl) ?_
  have hS := hS.addNil (α := Int) 3 (r0 (.int .i64)) 1
  have hS : Sat w0 (rf w0) [osl 3 (r0 (.int .i64)) 1 none 0 ([] : List Int)] := hS.sel [0] (by kernel_rfl)
  obtain ⟨o29, e30, H⟩ := bind_ex H
  refine WC.loop (by kernel_rfl) ?_
  refine WL.weaken [0, 3, 8, 9, 10] (L' := [(0, .slice A0 l0.length c0), (3, .slice none 0 0), (8, .slice A0 l0.length c0), (9, .int .i64 (l0.length : Int)), (10, .int .i64 0)]) (by kernel_rfl) ?_
  refine colophonref08_Symbols.l1_ok w0 A0 c0 l0 R0 o29 (fun A3_q31 c3_q31 w32 hS => ?_) FU ([] : List Int) 0 none 0 _ hS e30
  refine At.hit ?_
  refine At.go ?_
  refine WC.seq (by kernel_rfl) ?_
  refine WC.reg [0, 1] (by kernel_rfl) (by kernel_rfl) ?_
  refine WR.runk [0, 1] [] [2] (L' := [(2, .slice A3_q31 o29.length c3_q31)]) (w' := w32) (by kernel_rfl) ?_
  refine WR.nil ?_
  refine At.go ?_
  refine WC.ret (by kernel_rfl) ?_
  obtain rfl := Option.some.inj H
  have hS : Sat w32 (rf w0) [osl 3 (r0 (.int .i64)) 1 A3_q31 c3_q31 o29] := hS.sel [0] (by kernel_rfl)
  exact At.body [.slice A3_q31 o29.length c3_q31] (by kernel_rfl) ⟨_, rfl, _, _, rfl, hS⟩
/-! ### 40 colophon/colophonref09.Less -/
def colophonref09_Less.l1 (l0 : List Int) : Nat → Int → Int → Option (Sum Bool (Int × Int))
  | 0, _, _ => none
  | k + 1, x1_l1, x2_l1 => (if decide (x1_l1 < (l0.length : Int)) then (if decide (x2_l1 < (l0.length : Int)) then ((at? l0 x1_l1).bind fun v5 => ((at? l0 x2_l1).bind fun v7 => (if (v5 != v7) then some (.inl (decide (v5 < v7))) else colophonref09_Less.l1 l0 k (wi (x1_l1 + 1)) (wi (x2_l1 + 1))))) else some (.inr (x1_l1, x2_l1))) else some (.inr (x1_l1, x2_l1)))
def colophonref09_Less.f (l0 : List Int) (a1 : Int) (a2 : Int) : Option Bool := ((colophonref09_Less.l1 l0 FU a1 a2).bind fun o12 => (match o12 with | .inl o14 => some o14 | .inr o18 => (if (o18.1 == (l0.length : Int)) then some (decide (o18.2 < (l0.length : Int))) else some false)))
def colophonref09_Less.post (w : World) (r : Bool) (v : Value) (w' : World) : Prop := v = (.bool r : Value) ∧ Sat w' (rf w) []
theorem colophonref09_Less.l1_ok {Q} (w0 : World) (A0 : Option Addr) (c0 : Nat) (l0 : List Int) (R0 : rdS (r0 (.int .i64)) 1 (hp w0) A0 c0 l0) (out : Sum Bool (Int × Int)) (hn0 : ∀ (o0 : Bool) (w : World), out = (.inl o0) → Sat w (rf w0) [] → At Q .ret 49 [(6, .bool o0)] w) (hn1 : ∀ (o1 : Int × Int) (w : World), out = (.inr o1) → Sat w (rf w0) [] → At Q (.exit 0) 49 [(0, .slice A0 l0.length c0), (1, .int .i64 o1.1), (2, .int .i64 o1.2)] w) :
    ∀ (k : Nat) (x1_l1 : Int) (x2_l1 : Int) (w : World), Sat w (rf w0) [] → colophonref09_Less.l1 l0 k x1_l1 x2_l1 = some out → WL Try.prog (cbody (cbody (cl (cr C40)))) Q 49 [(0, .slice A0 l0.length c0), (1, .int .i64 x1_l1), (2, .int .i64 x2_l1)] w := by
  intro k
  induction k with
  | zero => intro x1_l1 x2_l1 w hS H; exact absurd (show none = some out from H) (by simp)
  | succ k ih =>
    intro x1_l1 x2_l1 w hS H
    unfold colophonref09_Less.l1 at H
    refine WL.round ?_
    refine WC.seq (by kernel_rfl) ?_
    refine WC.seq (by kernel_rfl) ?_
    refine WC.reg [0, 1, 2, 3, 4, 5, 6, 7, 8, 9] (by kernel_rfl) (by kernel_rfl) ?_
    refine WR.runk [0, 1, 2, 3, 4] [5, 6, 7, 8, 9] [0, 1, 2, 11] (L' := [(0, .slice A0 l0.length c0), (1, .int .i64 x1_l1), (2, .int .i64 x2_l1), (11, .bool (decide (x1_l1 < (l0.length : Int))))]) (w' := w) (by kernel_rfl) ?_
    refine WR.split 11 (b := decide (x1_l1 < (l0.length : Int))) (by kernel_rfl) (fun hb1 => ?_) (fun hb1 => ?_)
    · replace H := ite_t H hb1
      refine WR.runk [5, 6, 7, 8, 9] [] [0, 1, 2, 12, 13, 14, 15, 16] (L' := [(0, .slice A0 l0.length c0), (1, .int .i64 x1_l1), (2, .int .i64 x2_l1), (12, .int .i64 x2_l1), (13, .slice A0 l0.length c0), (14, .int .i64 (l0.length : Int)), (15, .bool (decide (x2_l1 < (l0.length : Int)))), (16, .bool (decide (x2_l1 < (l0.length : Int))))]) (w' := w) (by kernel_rfl) ?_
      refine WR.nil ?_
      refine At.go ?_
      refine WC.cond (by kernel_rfl) (decide (x2_l1 < (l0.length : Int))) (by kernel_rfl) (by kernel_rfl) (fun hb2 => ?_) (fun hb2 => ?_)
      · replace H := ite_t H hb2
        refine WC.skip (by kernel_rfl) ?_
        refine At.go ?_
        refine WC.block (by kernel_rfl) ?_
        refine WC.seq (by kernel_rfl) ?_
        refine WC.seq (by kernel_rfl) ?_
        refine WC.drawn (by kernel_rfl) (by kernel_rfl) 9 (by kernel_rfl) (fun w3 hw4 => ?_)
        have hS := hS.heap hw4.1 hw4.2
        refine WD.weaken [0, 1, 2, 12, 13, 14] (L' := [(0, .slice A0 l0.length c0), (1, .int .i64 x1_l1), (2, .int .i64 x2_l1), (12, .int .i64 x2_l1), (13, .slice A0 l0.length c0), (14, .int .i64 (l0.length : Int))]) (by kernel_rfl) ?_
        refine WD.pure (i := 0) (v := .slice A0 l0.length c0) (by kernel_rfl) (by kernel_rfl) (fun _ => by kernel_rfl) ?_
        refine WD.weaken [0, 1, 2, 12, 13, 14, 17] (L' := [(0, .slice A0 l0.length c0), (1, .int .i64 x1_l1), (2, .int .i64 x2_l1), (12, .int .i64 x2_l1), (13, .slice A0 l0.length c0), (14, .int .i64 (l0.length : Int)), (17, .slice A0 l0.length c0)]) (by kernel_rfl) ?_
        refine WD.pure (i := 1) (v := .int .i64 x1_l1) (by kernel_rfl) (by kernel_rfl) (fun _ => by kernel_rfl) ?_
        refine WD.weaken [0, 1, 2, 12, 13, 14, 17, 18] (L' := [(0, .slice A0 l0.length c0), (1, .int .i64 x1_l1), (2, .int .i64 x2_l1), (12, .int .i64 x2_l1), (13, .slice A0 l0.length c0), (14, .int .i64 (l0.length : Int)), (17, .slice A0 l0.length c0), (18, .int .i64 x1_l1)]) (by kernel_rfl) ?_
        obtain ⟨v5, e6, H⟩ := bind_ex H
        refine WD.ofP (i := 2) (by kernel_rfl) (PSt.idx (k := .i64) (.tmp 17) (.tmp 18) (by kernel_rfl) (by kernel_rfl) E22 (by kernel_rfl) (by kernel_rfl) (rdS.up R0 hS.sub0) e6 ?_)
        refine WD.weaken [0, 1, 2, 12, 13, 14, 19] (L' := [(0, .slice A0 l0.length c0), (1, .int .i64 x1_l1), (2, .int .i64 x2_l1), (12, .int .i64 x2_l1), (13, .slice A0 l0.length c0), (14, .int .i64 (l0.length : Int)), (19, .pointer (some (adr A0 x1_l1.toNat 1)))]) (by kernel_rfl) ?_
        refine WD.ofR (i := 3) (by kernel_rfl) (RSt.loadInt (t := 3) (.tmp 19) (by kernel_rfl) (by kernel_rfl) (by kernel_rfl) (by kernel_rfl) (rdS.up R0 hS.sub0) e6 ?_)
        refine WD.weaken [0, 1, 2, 12, 13, 14, 20] (L' := [(0, .slice A0 l0.length c0), (1, .int .i64 x1_l1), (2, .int .i64 x2_l1), (12, .int .i64 x2_l1), (13, .slice A0 l0.length c0), (14, .int .i64 (l0.length : Int)), (20, .int .i64 v5)]) (by kernel_rfl) ?_
        refine WD.pure (i := 4) (v := .slice A0 l0.length c0) (by kernel_rfl) (by kernel_rfl) (fun _ => by kernel_rfl) ?_
        refine WD.weaken [0, 1, 2, 12, 13, 14, 20, 21] (L' := [(0, .slice A0 l0.length c0), (1, .int .i64 x1_l1), (2, .int .i64 x2_l1), (12, .int .i64 x2_l1), (13, .slice A0 l0.length c0), (14, .int .i64 (l0.length : Int)), (20, .int .i64 v5), (21, .slice A0 l0.length c0)]) (by kernel_rfl) ?_
        refine WD.pure (i := 5) (v := .int .i64 x2_l1) (by kernel_rfl) (by kernel_rfl) (fun _ => by kernel_rfl) ?_
        refine WD.weaken [0, 1, 2, 12, 13, 14, 20, 21, 22] (L' := [(0, .slice A0 l0.length c0), (1, .int .i64 x1_l1), (2, .int .i64 x2_l1), (12, .int .i64 x2_l1), (13, .slice A0 l0.length c0), (14, .int .i64 (l0.length : Int)), (20, .int .i64 v5), (21, .slice A0 l0.length c0), (22, .int .i64 x2_l1)]) (by kernel_rfl) ?_
        obtain ⟨v7, e8, H⟩ := bind_ex H
        refine WD.ofP (i := 6) (by kernel_rfl) (PSt.idx (k := .i64) (.tmp 21) (.tmp 22) (by kernel_rfl) (by kernel_rfl) E22 (by kernel_rfl) (by kernel_rfl) (rdS.up R0 hS.sub0) e8 ?_)
        refine WD.weaken [0, 1, 2, 12, 13, 14, 20, 23] (L' := [(0, .slice A0 l0.length c0), (1, .int .i64 x1_l1), (2, .int .i64 x2_l1), (12, .int .i64 x2_l1), (13, .slice A0 l0.length c0), (14, .int .i64 (l0.length : Int)), (20, .int .i64 v5), (23, .pointer (some (adr A0 x2_l1.toNat 1)))]) (by kernel_rfl) ?_
        refine WD.ofR (i := 7) (by kernel_rfl) (RSt.loadInt (t := 3) (.tmp 23) (by kernel_rfl) (by kernel_rfl) (by kernel_rfl) (by kernel_rfl) (rdS.up R0 hS.sub0) e8 ?_)
        refine WD.weaken [0, 1, 2, 12, 13, 14, 20, 24] (L' := [(0, .slice A0 l0.length c0), (1, .int .i64 x1_l1), (2, .int .i64 x2_l1), (12, .int .i64 x2_l1), (13, .slice A0 l0.length c0), (14, .int .i64 (l0.length : Int)), (20, .int .i64 v5), (24, .int .i64 v7)]) (by kernel_rfl) ?_
        refine WD.pure (i := 8) (v := .bool (v5 != v7)) (by kernel_rfl) (by kernel_rfl) (fun _ => by kernel_rfl) ?_
        refine WD.weaken [0, 1, 2, 12, 13, 14, 25] (L' := [(0, .slice A0 l0.length c0), (1, .int .i64 x1_l1), (2, .int .i64 x2_l1), (12, .int .i64 x2_l1), (13, .slice A0 l0.length c0), (14, .int .i64 (l0.length : Int)), (25, .bool (v5 != v7))]) (by kernel_rfl) ?_
        refine WD.nil (by kernel_rfl) ?_
        refine At.go ?_
        refine WC.cond (by kernel_rfl) (v5 != v7) (by kernel_rfl) (by kernel_rfl) (fun hb9 => ?_) (fun hb9 => ?_)
        · replace H := ite_t H hb9
          refine WC.seq (by kernel_rfl) ?_
          refine WC.drawn (by kernel_rfl) (by kernel_rfl) 10 (by kernel_rfl) (fun w10 hw11 => ?_)
          have hS := hS.heap hw11.1 hw11.2
          refine WD.weaken [0, 1, 2] (L' := [(0, .slice A0 l0.length c0), (1, .int .i64 x1_l1), (2, .int .i64 x2_l1)]) (by kernel_rfl) ?_
          refine WD.pure (i := 0) (v := .slice A0 l0.length c0) (by kernel_rfl) (by kernel_rfl) (fun _ => by kernel_rfl) ?_
          refine WD.weaken [0, 1, 2, 26] (L' := [(0, .slice A0 l0.length c0), (1, .int .i64 x1_l1), (2, .int .i64 x2_l1), (26, .slice A0 l0.length c0)]) (by kernel_rfl) ?_
          refine WD.pure (i := 1) (v := .int .i64 x1_l1) (by kernel_rfl) (by kernel_rfl) (fun _ => by kernel_rfl) ?_
          refine WD.weaken [0, 2, 26, 27] (L' := [(0, .slice A0 l0.length c0), (2, .int .i64 x2_l1), (26, .slice A0 l0.length c0), (27, .int .i64 x1_l1)]) (by kernel_rfl) ?_
          refine WD.ofP (i := 2) (by kernel_rfl) (PSt.idx (k := .i64) (.tmp 26) (.tmp 27) (by kernel_rfl) (by kernel_rfl) E22 (by kernel_rfl) (by kernel_rfl) (rdS.up R0 hS.sub0) e6 ?_)
          refine WD.weaken [0, 2, 28] (L' := [(0, .slice A0 l0.length c0), (2, .int .i64 x2_l1), (28, .pointer (some (adr A0 x1_l1.toNat 1)))]) (by kernel_rfl) ?_
          refine WD.ofR (i := 3) (by kernel_rfl) (RSt.loadInt (t := 3) (.tmp 28) (by kernel_rfl) (by kernel_rfl) (by kernel_rfl) (by kernel_rfl) (rdS.up R0 hS.sub0) e6 ?_)
          refine WD.weaken [0, 2, 29] (L' := [(0, .slice A0 l0.length c0), (2, .int .i64 x2_l1), (29, .int .i64 v5)]) (by kernel_rfl) ?_
          refine WD.pure (i := 4) (v := .slice A0 l0.length c0) (by kernel_rfl) (by kernel_rfl) (fun _ => by kernel_rfl) ?_
          refine WD.weaken [2, 29, 30] (L' := [(2, .int .i64 x2_l1), (29, .int .i64 v5), (30, .slice A0 l0.length c0)]) (by kernel_rfl) ?_
          refine WD.pure (i := 5) (v := .int .i64 x2_l1) (by kernel_rfl) (by kernel_rfl) (fun _ => by kernel_rfl) ?_
          refine WD.weaken [29, 30, 31] (L' := [(29, .int .i64 v5), (30, .slice A0 l0.length c0), (31, .int .i64 x2_l1)]) (by kernel_rfl) ?_
          refine WD.ofP (i := 6) (by kernel_rfl) (PSt.idx (k := .i64) (.tmp 30) (.tmp 31) (by kernel_rfl) (by kernel_rfl) E22 (by kernel_rfl) (by kernel_rfl) (rdS.up R0 hS.sub0) e8 ?_)
          refine WD.weaken [29, 32] (L' := [(29, .int .i64 v5), (32, .pointer (some (adr A0 x2_l1.toNat 1)))]) (by kernel_rfl) ?_
          refine WD.ofR (i := 7) (by kernel_rfl) (RSt.loadInt (t := 3) (.tmp 32) (by kernel_rfl) (by kernel_rfl) (by kernel_rfl) (by kernel_rfl) (rdS.up R0 hS.sub0) e8 ?_)
          refine WD.weaken [29, 33] (L' := [(29, .int .i64 v5), (33, .int .i64 v7)]) (by kernel_rfl) ?_
          refine WD.pure (i := 8) (v := .bool (decide (v5 < v7))) (by kernel_rfl) (by kernel_rfl) (fun _ => by kernel_rfl) ?_
          refine WD.weaken [34] (L' := [(34, .bool (decide (v5 < v7)))]) (by kernel_rfl) ?_
          refine WD.pure (i := 9) (v := .bool (decide (v5 < v7))) (by kernel_rfl) (by kernel_rfl) (fun _ => by kernel_rfl) ?_
          refine WD.weaken [6] (L' := [(6, .bool (decide (v5 < v7)))]) (by kernel_rfl) ?_
          refine WD.nil (by kernel_rfl) ?_
          refine At.go ?_
          refine WC.ret (by kernel_rfl) ?_
          refine At.thenRet ?_
          refine At.blockRet ?_
          refine At.thenRet ?_
          obtain rfl := Option.some.inj H
          have hS : Sat w10 (rf w0) [] := hS.sel [] (by kernel_rfl)
          refine At.weaken [6] (L' := [(6, .bool (decide (v5 < v7)))]) (by kernel_rfl) ?_
          exact hn0 (decide (v5 < v7)) _ rfl hS
        · replace H := ite_f H hb9
          refine WC.skip (by kernel_rfl) ?_
          refine At.go ?_
          refine WC.seq (by kernel_rfl) ?_
          refine WC.reg [0, 1, 2] (by kernel_rfl) (by kernel_rfl) ?_
          refine WR.runk [0, 1, 2] [] [0, 1, 2, 12, 13, 14] (L' := [(0, .slice A0 l0.length c0), (1, .int .i64 (wi (x1_l1 + 1))), (2, .int .i64 x2_l1), (12, .int .i64 x2_l1), (13, .slice A0 l0.length c0), (14, .int .i64 (l0.length : Int))]) (w' := w3) (by kernel_rfl) ?_
          refine WR.nil ?_
          refine At.go ?_
          refine WC.reg [0, 1, 2] (by kernel_rfl) (by kernel_rfl) ?_
          refine WR.runk [0, 1, 2] [] [0, 1, 2, 12, 13, 14] (L' := [(0, .slice A0 l0.length c0), (1, .int .i64 (wi (x1_l1 + 1))), (2, .int .i64 (wi (x2_l1 + 1))), (12, .int .i64 x2_l1), (13, .slice A0 l0.length c0), (14, .int .i64 (l0.length : Int))]) (w' := w3) (by kernel_rfl) ?_
          refine WR.nil ?_
          refine At.blockNormal ?_
          have hS : Sat w3 (rf w0) [] := hS.sel [] (by kernel_rfl)
          refine At.again ?_
          refine WL.weaken [0, 1, 2] (L' := [(0, .slice A0 l0.length c0), (1, .int .i64 (wi (x1_l1 + 1))), (2, .int .i64 (wi (x2_l1 + 1)))]) (by kernel_rfl) ?_
          exact ih (wi (x1_l1 + 1)) (wi (x2_l1 + 1)) _ hS H
      · replace H := ite_f H hb2
        refine WC.exit (by kernel_rfl) ?_
        refine At.thenExit ?_
        refine At.thenExit ?_
        obtain rfl := Option.some.inj H
        have hS : Sat w (rf w0) [] := hS.sel [] (by kernel_rfl)
        refine At.weaken [0, 1, 2] (L' := [(0, .slice A0 l0.length c0), (1, .int .i64 x1_l1), (2, .int .i64 x2_l1)]) (by kernel_rfl) ?_
        exact hn1 (x1_l1, x2_l1) _ rfl hS
    · replace H := ite_f H hb1
      refine WR.runk [5, 6, 7, 8, 9] [] [0, 1, 2, 12, 13, 14, 15, 16] (L' := [(0, .slice A0 l0.length c0), (1, .int .i64 x1_l1), (2, .int .i64 x2_l1), (12, undef), (13, undef), (14, undef), (15, undef), (16, .bool false)]) (w' := w) (by kernel_rfl) ?_
      refine WR.nil ?_
      refine At.go ?_
      refine WC.condF (by kernel_rfl) (by kernel_rfl) (by kernel_rfl) ?_
      refine WC.exit (by kernel_rfl) ?_
      refine At.thenExit ?_
      refine At.thenExit ?_
      obtain rfl := Option.some.inj H
      have hS : Sat w (rf w0) [] := hS.sel [] (by kernel_rfl)
      refine At.weaken [0, 1, 2] (L' := [(0, .slice A0 l0.length c0), (1, .int .i64 x1_l1), (2, .int .i64 x2_l1)]) (by kernel_rfl) ?_
      exact hn1 (x1_l1, x2_l1) _ rfl hS
theorem colophonref09_Less.calls (w0 : World) (A0 : Option Addr) (c0 : Nat) (l0 : List Int) (R0 : rdS (r0 (.int .i64)) 1 (hp w0) A0 c0 l0) (a1 : Int) (a2 : Int) (r : Bool) (H : colophonref09_Less.f l0 a1 a2 = some r) :
    Calls Try.prog 40 #[.slice A0 l0.length c0, .int .i64 a1, .int .i64 a2] w0 (fun e w' => ∃ v, e = .returned v ∧ colophonref09_Less.post w0 r v w') := by
  have hS : Sat w0 (rf w0) [] := Sat.start w0
  unfold colophonref09_Less.f at H
  refine calls_of_WC (vs := [.slice A0 l0.length c0, .int .i64 a1, .int .i64 a2]) Try.func40 (c := C40) (n := 49) (by kernel_rfl) (by kernel_rfl) (by kernel_rfl) ?_
  refine WC.seq (by kernel_rfl) ?_
  refine WC.reg [0] (by kernel_rfl) (by kernel_rfl) ?_
  refine WR.runk [0] [] [0, 1, 2] (L' := [(0, .slice A0 l0.length c0), (1, .int .i64 a1), (2, .int .i64 a2)]) (w' := w0) (by kernel_rfl) ?_
  refine WR.nil ?_
  refine At.go ?_
  refine WC.seq (by kernel_rfl) ?_
  refine WC.block (by kernel_rfl) ?_
  have hS : Sat w0 (rf w0) [] := hS.sel [] (by kernel_rfl)
  obtain ⟨o12, e13, H⟩ := bind_ex H
  refine WC.loop (by kernel_rfl) ?_
  refine WL.weaken [0, 1, 2] (L' := [(0, .slice A0 l0.length c0), (1, .int .i64 a1), (2, .int .i64 a2)]) (by kernel_rfl) ?_
  refine colophonref09_Less.l1_ok w0 A0 c0 l0 R0 o12 (fun o14 w16 ho17 hS => ?_) (fun o18 w20 ho21 hS => ?_) FU a1 a2 _ hS e13
  · subst ho17
    dsimp only at H
    refine At.blockRet ?_
    refine At.thenRet ?_
    obtain rfl := Option.some.inj H
    have hS : Sat w16 (rf w0) [] := hS.sel [] (by kernel_rfl)
    exact At.body [.bool o14] (by kernel_rfl) ⟨_, rfl, rfl, hS⟩
  · subst ho21
    dsimp only at H
    refine At.hit ?_
    refine At.go ?_
    refine WC.seq (by kernel_rfl) ?_
    refine WC.reg [0, 1, 2, 3, 4, 5, 6, 7, 8, 9, 10] (by kernel_rfl) (by kernel_rfl) ?_
    refine WR.runk [0, 1, 2, 3, 4] [5, 6, 7, 8, 9, 10] [0, 2, 43] (L' := [(0, .slice A0 l0.length c0), (2, .int .i64 o18.2), (43, .bool (o18.1 == (l0.length : Int)))]) (w' := w20) (by kernel_rfl) ?_
    refine WR.split 43 (b := (o18.1 == (l0.length : Int))) (by kernel_rfl) (fun hb22 => ?_) (fun hb22 => ?_)
    · replace H := ite_t H hb22
      refine WR.runk [5, 6, 7, 8, 9, 10] [] [6] (L' := [(6, .bool (decide (o18.2 < (l0.length : Int))))]) (w' := w20) (by kernel_rfl) ?_
      refine WR.nil ?_
      refine At.go ?_
      refine WC.ret (by kernel_rfl) ?_
      obtain rfl := Option.some.inj H
      have hS : Sat w20 (rf w0) [] := hS.sel [] (by kernel_rfl)
      exact At.body [.bool (decide (o18.2 < (l0.length : Int)))] (by kernel_rfl) ⟨_, rfl, rfl, hS⟩
    · replace H := ite_f H hb22
      refine WR.runk [5, 6, 7, 8, 9, 10] [] [6] (L' := [(6, .bool false)]) (w' := w20) (by kernel_rfl) ?_
      refine WR.nil ?_
      refine At.go ?_
      refine WC.ret (by kernel_rfl) ?_
      obtain rfl := Option.some.inj H
      have hS : Sat w20 (rf w0) [] := hS.sel [] (by kernel_rfl)
      exact At.body [.bool false] (by kernel_rfl) ⟨_, rfl, rfl, hS⟩
/-! ### 24 colophon/colophonref09.Array -/
def colophonref09_Array.l2 (l0 : List Int) (x3_l1 : List Int) (x9_l1 : Int) : Nat → Int → Option Int
  | 0, _ => none
  | k + 1, x5_l2 => (if decide (x5_l2 < (x3_l1.length : Int)) then ((at? x3_l1 x5_l2).bind fun v3 => ((colophonref09_Less.f l0 v3 x9_l1).bind fun r5 => (if r5 then colophonref09_Array.l2 l0 x3_l1 x9_l1 k (wi (x5_l2 + 1)) else some x5_l2))) else some x5_l2)
def colophonref09_Array.l3 (o15 : Int) : Nat → (List Int) → Int → Option (List Int)
  | 0, _, _ => none
  | k + 1, x3_l3, x6_l3 => (if decide (x6_l3 > o15) then ((at? x3_l3 (wi (x6_l3 - 1))).bind fun v28 => ((at? x3_l3 x6_l3).bind fun v30 => ((set? x3_l3 x6_l3 v28).bind fun y32 => colophonref09_Array.l3 o15 k y32 (wi (x6_l3 - 1))))) else some x3_l3)
def colophonref09_Array.l1 (l0 : List Int) : Nat → (List Int) → Int → Option (List Int)
  | 0, _, _ => none
  | k + 1, x3_l1, x9_l1 => (if decide (x9_l1 < (l0.length : Int)) then ((colophonref09_Array.l2 l0 x3_l1 x9_l1 FU 0).bind fun o15 => ((app? 17592186044416 x3_l1 ([0] : List Int)).bind fun y23 => ((colophonref09_Array.l3 o15 FU y23 (wi ((y23.length : Int) - 1))).bind fun o36 => ((at? o36 o15).bind fun v41 => ((set? o36 o15 x9_l1).bind fun y43 => colophonref09_Array.l1 l0 k y43 (wi (x9_l1 + 1))))))) else some x3_l1)
def colophonref09_Array.f (l0 : List Int) : Option (List Int) := ((colophonref09_Array.l1 l0 FU ([] : List Int) 0).bind fun o47 => some o47)
def colophonref09_Array.post (w : World) (r : (List Int)) (v : Value) (w' : World) : Prop := ∃ (A0' : Option Addr) (c0' : Nat), v = (.slice A0' r.length c0' : Value) ∧ Sat w' (rf w) [osl 3 (r0 (.int .i64)) 1 A0' c0' r]
theorem colophonref09_Array.l2_ok {Q} (w0 : World) (A0 : Option Addr) (c0 : Nat) (l0 : List Int) (A3_l1 : Option Addr) (c3_l1 : Nat) (x3_l1 : List Int) (x9_l1 : Int) (R0 : rdS (r0 (.int .i64)) 1 (hp w0) A0 c0 l0) (out : Int) (hn0 : ∀ (w : World), Sat w (rf w0) [osl 3 (r0 (.int .i64)) 1 A3_l1 c3_l1 x3_l1] → At Q (.exit 2) 52 [(0, .slice A0 l0.length c0), (3, .slice A3_l1 x3_l1.length c3_l1), (4, .int .i64 x9_l1), (5, .int .i64 out), (8, .int .i64 (l0.length : Int)), (9, .int .i64 x9_l1)] w) :
    ∀ (k : Nat) (x5_l2 : Int) (w : World), Sat w (rf w0) [osl 3 (r0 (.int .i64)) 1 A3_l1 c3_l1 x3_l1] → colophonref09_Array.l2 l0 x3_l1 x9_l1 k x5_l2 = some out → WL Try.prog (cbody (cbody (cl (cr (cr (cbody (cl (cr (cr (cbody (cbody (cr (cl (cr (cr C24))))))))))))))) Q 52 [(0, .slice A0 l0.length c0), (3, .slice A3_l1 x3_l1.length c3_l1), (4, .int .i64 x9_l1), (5, .int .i64 x5_l2), (8, .int .i64 (l0.length : Int)), (9, .int .i64 x9_l1)] w := by
  intro k
  induction k with
  | zero => intro x5_l2 w hS H; exact absurd (show none = some out from H) (by simp)
  | succ k ih =>
    intro x5_l2 w hS H
    unfold colophonref09_Array.l2 at H
    refine WL.round ?_
    refine WC.seq (by kernel_rfl) ?_
    refine WC.seq (by kernel_rfl) ?_
    refine WC.reg [0, 1, 2, 3, 4, 5, 6, 7, 8, 9, 10, 11, 12] (by kernel_rfl) (by kernel_rfl) ?_
    refine WR.runk [0, 1, 2, 3, 4] [5, 6, 7, 8, 9, 10, 11, 12] [0, 3, 4, 5, 8, 9, 16] (L' := [(0, .slice A0 l0.length c0), (3, .slice A3_l1 x3_l1.length c3_l1), (4, .int .i64 x9_l1), (5, .int .i64 x5_l2), (8, .int .i64 (l0.length : Int)), (9, .int .i64 x9_l1), (16, .bool (decide (x5_l2 < (x3_l1.length : Int))))]) (w' := w) (by kernel_rfl) ?_
    refine WR.split 16 (b := decide (x5_l2 < (x3_l1.length : Int))) (by kernel_rfl) (fun hb2 => ?_) (fun hb2 => ?_)
    · replace H := ite_t H hb2
      refine WR.runk [5, 6, 7] [8, 9, 10, 11, 12] [0, 3, 4, 5, 8, 9, 16, 17, 18, 19] (L' := [(0, .slice A0 l0.length c0), (3, .slice A3_l1 x3_l1.length c3_l1), (4, .int .i64 x9_l1), (5, .int .i64 x5_l2), (8, .int .i64 (l0.length : Int)), (9, .int .i64 x9_l1), (16, .bool true), (17, .slice A0 l0.length c0), (18, .slice A3_l1 x3_l1.length c3_l1), (19, .int .i64 x5_l2)]) (w' := w) (by kernel_rfl) ?_
      obtain ⟨v3, e4, H⟩ := bind_ex H
      refine WR.st (St.ofP (PSt.idx (k := .i64) (.tmp 18) (.tmp 19) (by kernel_rfl) (by kernel_rfl) E22 (by kernel_rfl) (by kernel_rfl) (Sat.rdAt 0 hS rfl) e4 ?_))
      refine WR.runk [] [9, 10, 11, 12] [0, 3, 4, 5, 8, 9, 16, 17, 18, 19, 20] (L' := [(0, .slice A0 l0.length c0), (3, .slice A3_l1 x3_l1.length c3_l1), (4, .int .i64 x9_l1), (5, .int .i64 x5_l2), (8, .int .i64 (l0.length : Int)), (9, .int .i64 x9_l1), (16, .bool true), (17, .slice A0 l0.length c0), (18, .slice A3_l1 x3_l1.length c3_l1), (19, .int .i64 x5_l2), (20, .pointer (some (adr A3_l1 x5_l2.toNat 1)))]) (w' := w) (by kernel_rfl) ?_
      refine WR.st (St.ofR (RSt.loadInt (t := 3) (.tmp 20) (by kernel_rfl) (by kernel_rfl) (by kernel_rfl) (by kernel_rfl) (Sat.rdAt 0 hS rfl) e4 ?_))
      refine WR.runk [10] [11, 12] [0, 3, 4, 5, 8, 9, 16, 17, 18, 19, 20, 21, 22] (L' := [(0, .slice A0 l0.length c0), (3, .slice A3_l1 x3_l1.length c3_l1), (4, .int .i64 x9_l1), (5, .int .i64 x5_l2), (8, .int .i64 (l0.length : Int)), (9, .int .i64 x9_l1), (16, .bool true), (17, .slice A0 l0.length c0), (18, .slice A3_l1 x3_l1.length c3_l1), (19, .int .i64 x5_l2), (20, .pointer (some (adr A3_l1 x5_l2.toNat 1))), (21, .int .i64 v3), (22, .int .i64 x9_l1)]) (w' := w) (by kernel_rfl) ?_
      obtain ⟨r5, e6, H⟩ := bind_ex H
      refine WR.st (St.call (by kernel_rfl) (f := 40) (args := #[.slice A0 l0.length c0, .int .i64 v3, .int .i64 x9_l1]) (by kernel_rfl) (colophonref09_Less.calls w A0 c0 l0 (rdS.up R0 hS.sub0) v3 x9_l1 r5 e6) ?_)
      rintro _ w12 ⟨rfl, hS13⟩
      have hS : Sat w12 (rf w0) [osl 3 (r0 (.int .i64)) 1 A3_l1 c3_l1 x3_l1] := hS.ext hS13
      refine WR.runk [12] [] [0, 3, 4, 5, 8, 9, 17, 18, 19, 20, 21, 22, 23, 24] (L' := [(0, .slice A0 l0.length c0), (3, .slice A3_l1 x3_l1.length c3_l1), (4, .int .i64 x9_l1), (5, .int .i64 x5_l2), (8, .int .i64 (l0.length : Int)), (9, .int .i64 x9_l1), (17, .slice A0 l0.length c0), (18, .slice A3_l1 x3_l1.length c3_l1), (19, .int .i64 x5_l2), (20, .pointer (some (adr A3_l1 x5_l2.toNat 1))), (21, .int .i64 v3), (22, .int .i64 x9_l1), (23, .bool r5), (24, .bool r5)]) (w' := w12) (by kernel_rfl) ?_
      refine WR.nil ?_
      refine At.go ?_
      refine WC.cond (by kernel_rfl) r5 (by kernel_rfl) (by kernel_rfl) (fun hb14 => ?_) (fun hb14 => ?_)
      · replace H := ite_t H hb14
        refine WC.skip (by kernel_rfl) ?_
        refine At.go ?_
        refine WC.block (by kernel_rfl) ?_
        refine WC.reg [0, 1, 2] (by kernel_rfl) (by kernel_rfl) ?_
        refine WR.runk [0, 1, 2] [] [0, 3, 4, 5, 8, 9, 17, 18, 19, 20, 21, 22] (L' := [(0, .slice A0 l0.length c0), (3, .slice A3_l1 x3_l1.length c3_l1), (4, .int .i64 x9_l1), (5, .int .i64 (wi (x5_l2 + 1))), (8, .int .i64 (l0.length : Int)), (9, .int .i64 x9_l1), (17, .slice A0 l0.length c0), (18, .slice A3_l1 x3_l1.length c3_l1), (19, .int .i64 x5_l2), (20, .pointer (some (adr A3_l1 x5_l2.toNat 1))), (21, .int .i64 v3), (22, .int .i64 x9_l1)]) (w' := w12) (by kernel_rfl) ?_
        refine WR.nil ?_
        refine At.blockNormal ?_
        have hS : Sat w12 (rf w0) [osl 3 (r0 (.int .i64)) 1 A3_l1 c3_l1 x3_l1] := hS.sel [0] (by kernel_rfl)
        refine At.again ?_
        refine WL.weaken [0, 3, 4, 5, 8, 9] (L' := [(0, .slice A0 l0.length c0), (3, .slice A3_l1 x3_l1.length c3_l1), (4, .int .i64 x9_l1), (5, .int .i64 (wi (x5_l2 + 1))), (8, .int .i64 (l0.length : Int)), (9, .int .i64 x9_l1)]) (by kernel_rfl) ?_
        exact ih (wi (x5_l2 + 1)) _ hS H
      · replace H := ite_f H hb14
        refine WC.exit (by kernel_rfl) ?_
        refine At.thenExit ?_
        refine At.thenExit ?_
        obtain rfl := Option.some.inj H
        have hS : Sat w12 (rf w0) [osl 3 (r0 (.int .i64)) 1 A3_l1 c3_l1 x3_l1] := hS.sel [0] (by kernel_rfl)
        refine At.weaken [0, 3, 4, 5, 8, 9] (L' := [(0, .slice A0 l0.length c0), (3, .slice A3_l1 x3_l1.length c3_l1), (4, .int .i64 x9_l1), (5, .int .i64 x5_l2), (8, .int .i64 (l0.length : Int)), (9, .int .i64 x9_l1)]) (by kernel_rfl) ?_
        exact hn0 _ hS
    · replace H := ite_f H hb2
      refine WR.runk [5, 6, 7, 8, 9, 10, 11, 12] [] [0, 3, 4, 5, 8, 9, 17, 18, 19, 20, 21, 22, 23, 24] (L' := [(0, .slice A0 l0.length c0), (3, .slice A3_l1 x3_l1.length c3_l1), (4, .int .i64 x9_l1), (5, .int .i64 x5_l2), (8, .int .i64 (l0.length : Int)), (9, .int .i64 x9_l1), (17, undef), (18, undef), (19, undef), (20, undef), (21, undef), (22, undef), (23, undef), (24, .bool false)]) (w' := w) (by kernel_rfl) ?_
      refine WR.nil ?_
      refine At.go ?_
      refine WC.condF (by kernel_rfl) (by kernel_rfl) (by kernel_rfl) ?_
      refine WC.exit (by kernel_rfl) ?_
      refine At.thenExit ?_
      refine At.thenExit ?_
      obtain rfl := Option.some.inj H
      have hS : Sat w (rf w0) [osl 3 (r0 (.int .i64)) 1 A3_l1 c3_l1 x3_l1] := hS.sel [0] (by kernel_rfl)
      refine At.weaken [0, 3, 4, 5, 8, 9] (L' := [(0, .slice A0 l0.length c0), (3, .slice A3_l1 x3_l1.length c3_l1), (4, .int .i64 x9_l1), (5, .int .i64 x5_l2), (8, .int .i64 (l0.length : Int)), (9, .int .i64 x9_l1)]) (by kernel_rfl) ?_
      exact hn0 _ hS
theorem colophonref09_Array.l3_ok {Q} (w0 : World) (A0 : Option Addr) (c0 : Nat) (l0 : List Int) (x9_l1 : Int) (o15 : Int) (out : (List Int)) (hn0 : ∀ (A3_q : Option Addr) (c3_q : Nat) (w : World), Sat w (rf w0) [osl 3 (r0 (.int .i64)) 1 A3_q c3_q out] → At Q (.exit 4) 52 [(0, .slice A0 l0.length c0), (3, .slice A3_q out.length c3_q), (4, .int .i64 x9_l1), (5, .int .i64 o15), (8, .int .i64 (l0.length : Int)), (9, .int .i64 x9_l1)] w) :
    ∀ (k : Nat) (x3_l3 : List Int) (x6_l3 : Int) (A3_l3 : Option Addr) (c3_l3 : Nat) (w : World), Sat w (rf w0) [osl 3 (r0 (.int .i64)) 1 A3_l3 c3_l3 x3_l3] → colophonref09_Array.l3 o15 k x3_l3 x6_l3 = some out → WL Try.prog (cbody (cbody (cr (cl (cr (cr (cr (cr (cbody (cl (cr (cr (cbody (cbody (cr (cl (cr (cr C24)))))))))))))))))) Q 52 [(0, .slice A0 l0.length c0), (3, .slice A3_l3 x3_l3.length c3_l3), (4, .int .i64 x9_l1), (5, .int .i64 o15), (6, .int .i64 x6_l3), (8, .int .i64 (l0.length : Int)), (9, .int .i64 x9_l1)] w := by
  intro k
  induction k with
  | zero => intro x3_l3 x6_l3 A3_l3 c3_l3 w hS H; exact absurd (show none = some out from H) (by simp)
  | succ k ih =>
    intro x3_l3 x6_l3 A3_l3 c3_l3 w hS H
    unfold colophonref09_Array.l3 at H
    refine WL.round ?_
    refine WC.seq (by kernel_rfl) ?_
    refine WC.seq (by kernel_rfl) ?_
    refine WC.reg [0, 1, 2] (by kernel_rfl) (by kernel_rfl) ?_
    refine WR.runk [0, 1, 2] [] [0, 3, 4, 5, 6, 8, 9, 35] (L' := [(0, .slice A0 l0.length c0), (3, .slice A3_l3 x3_l3.length c3_l3), (4, .int .i64 x9_l1), (5, .int .i64 o15), (6, .int .i64 x6_l3), (8, .int .i64 (l0.length : Int)), (9, .int .i64 x9_l1), (35, .bool (decide (x6_l3 > o15)))]) (w' := w) (by kernel_rfl) ?_
    refine WR.nil ?_
    refine At.go ?_
    refine WC.cond (by kernel_rfl) (decide (x6_l3 > o15)) (by kernel_rfl) (by kernel_rfl) (fun hb27 => ?_) (fun hb27 => ?_)
    · replace H := ite_t H hb27
      refine WC.skip (by kernel_rfl) ?_
      refine At.go ?_
      refine WC.seq (by kernel_rfl) ?_
      refine WC.block (by kernel_rfl) ?_
      refine WC.reg [0, 1, 2, 3, 4, 5, 6, 7, 8] (by kernel_rfl) (by kernel_rfl) ?_
      refine WR.runk [0, 1, 2, 3, 4] [5, 6, 7, 8] [0, 3, 4, 5, 6, 8, 9, 38, 39, 40, 42] (L' := [(0, .slice A0 l0.length c0), (3, .slice A3_l3 x3_l3.length c3_l3), (4, .int .i64 x9_l1), (5, .int .i64 o15), (6, .int .i64 x6_l3), (8, .int .i64 (l0.length : Int)), (9, .int .i64 x9_l1), (38, .slice A3_l3 x3_l3.length c3_l3), (39, .int .i64 x6_l3), (40, .slice A3_l3 x3_l3.length c3_l3), (42, .int .i64 (wi (x6_l3 - 1)))]) (w' := w) (by kernel_rfl) ?_
      obtain ⟨v28, e29, H⟩ := bind_ex H
      refine WR.st (St.ofP (PSt.idx (k := .i64) (.tmp 40) (.tmp 42) (by kernel_rfl) (by kernel_rfl) E22 (by kernel_rfl) (by kernel_rfl) (Sat.rdAt 0 hS rfl) e29 ?_))
      refine WR.runk [] [6, 7, 8] [0, 3, 4, 5, 6, 8, 9, 38, 39, 43] (L' := [(0, .slice A0 l0.length c0), (3, .slice A3_l3 x3_l3.length c3_l3), (4, .int .i64 x9_l1), (5, .int .i64 o15), (6, .int .i64 x6_l3), (8, .int .i64 (l0.length : Int)), (9, .int .i64 x9_l1), (38, .slice A3_l3 x3_l3.length c3_l3), (39, .int .i64 x6_l3), (43, .pointer (some (adr A3_l3 (wi (x6_l3 - 1)).toNat 1)))]) (w' := w) (by kernel_rfl) ?_
      refine WR.st (St.ofR (RSt.loadInt (t := 3) (.tmp 43) (by kernel_rfl) (by kernel_rfl) (by kernel_rfl) (by kernel_rfl) (Sat.rdAt 0 hS rfl) e29 ?_))
      refine WR.runk [] [7, 8] [0, 3, 4, 5, 6, 8, 9, 38, 39, 44] (L' := [(0, .slice A0 l0.length c0), (3, .slice A3_l3 x3_l3.length c3_l3), (4, .int .i64 x9_l1), (5, .int .i64 o15), (6, .int .i64 x6_l3), (8, .int .i64 (l0.length : Int)), (9, .int .i64 x9_l1), (38, .slice A3_l3 x3_l3.length c3_l3), (39, .int .i64 x6_l3), (44, .int .i64 v28)]) (w' := w) (by kernel_rfl) ?_
      obtain ⟨v30, e31, H⟩ := bind_ex H
      refine WR.st (St.ofP (PSt.idx (k := .i64) (.tmp 38) (.tmp 39) (by kernel_rfl) (by kernel_rfl) E22 (by kernel_rfl) (by kernel_rfl) (Sat.rdAt 0 hS rfl) e31 ?_))
      refine WR.runk [] [8] [0, 3, 4, 5, 6, 8, 9, 44, 45] (L' := [(0, .slice A0 l0.length c0), (3, .slice A3_l3 x3_l3.length c3_l3), (4, .int .i64 x9_l1), (5, .int .i64 o15), (6, .int .i64 x6_l3), (8, .int .i64 (l0.length : Int)), (9, .int .i64 x9_l1), (44, .int .i64 v28), (45, .pointer (some (adr A3_l3 x6_l3.toNat 1)))]) (w' := w) (by kernel_rfl) ?_
      obtain ⟨y32, e33, H⟩ := bind_ex H
      refine WR.st (St.storeElem' (t := 3) (.tmp 45) (.tmp 44) (by kernel_rfl) (by kernel_rfl) (by kernel_rfl) hS (by kernel_rfl) (by kernel_rfl) rfl e33 rfl (fun w34 hS => ?_))
      have hl35 := set?_len e33
      refine WR.know 3 (.slice A3_l3 y32.length c3_l3) (.slice A3_l3 x3_l3.length c3_l3) (by kernel_rfl) (by rw [hl35]) ?_
      refine WR.runk [] [] [0, 3, 4, 5, 6, 8, 9] (L' := [(0, .slice A0 l0.length c0), (3, .slice A3_l3 y32.length c3_l3), (4, .int .i64 x9_l1), (5, .int .i64 o15), (6, .int .i64 x6_l3), (8, .int .i64 (l0.length : Int)), (9, .int .i64 x9_l1)]) (w' := w34) (by kernel_rfl) ?_
      refine WR.nil ?_
      refine At.blockNormal ?_
      refine At.go ?_
      refine WC.reg [0, 1, 2] (by kernel_rfl) (by kernel_rfl) ?_
      refine WR.runk [0, 1, 2] [] [0, 3, 4, 5, 6, 8, 9] (L' := [(0, .slice A0 l0.length c0), (3, .slice A3_l3 y32.length c3_l3), (4, .int .i64 x9_l1), (5, .int .i64 o15), (6, .int .i64 (wi (x6_l3 - 1))), (8, .int .i64 (l0.length : Int)), (9, .int .i64 x9_l1)]) (w' := w34) (by kernel_rfl) ?_
      refine WR.nil ?_
      have hS : Sat w34 (rf w0) [osl 3 (r0 (.int .i64)) 1 A3_l3 c3_l3 y32] := hS.sel [0] (by kernel_rfl)
      refine At.again ?_
      refine WL.weaken [0, 3, 4, 5, 6, 8, 9] (L' := [(0, .slice A0 l0.length c0), (3, .slice A3_l3 y32.length c3_l3), (4, .int .i64 x9_l1), (5, .int .i64 o15), (6, .int .i64 (wi (x6_l3 - 1))), (8, .int .i64 (l0.length : Int)), (9, .int .i64 x9_l1)]) (by kernel_rfl) ?_
      exact ih y32 (wi (x6_l3 - 1)) A3_l3 c3_l3 _ hS H
    · replace H := ite_f H hb27
      refine WC.exit (by kernel_rfl) ?_
      refine At.thenExit ?_
      refine At.thenExit ?_
      obtain rfl := Option.some.inj H
      have hS : Sat w (rf w0) [osl 3 (r0 (.int .i64)) 1 A3_l3 c3_l3 x3_l3] := hS.sel [0] (by kernel_rfl)
      refine At.weaken [0, 3, 4, 5, 8, 9] (L' := [(0, .slice A0 l0.length c0), (3, .slice A3_l3 x3_l3.length c3_l3), (4, .int .i64 x9_l1), (5, .int .i64 o15), (8, .int .i64 (l0.length : Int)), (9, .int .i64 x9_l1)]) (by kernel_rfl) ?_
      exact hn0 A3_l3 c3_l3 _ hS
theorem colophonref09_Array.l1_ok {Q} (w0 : World) (A0 : Option Addr) (c0 : Nat) (l0 : List Int) (R0 : rdS (r0 (.int .i64)) 1 (hp w0) A0 c0 l0) (out : (List Int)) (hn0 : ∀ (A3_q : Option Addr) (c3_q : Nat) (w : World), Sat w (rf w0) [osl 3 (r0 (.int .i64)) 1 A3_q c3_q out] → At Q (.exit 0) 52 [(3, .slice A3_q out.length c3_q)] w) :
    ∀ (k : Nat) (x3_l1 : List Int) (x9_l1 : Int) (A3_l1 : Option Addr) (c3_l1 : Nat) (w : World), Sat w (rf w0) [osl 3 (r0 (.int .i64)) 1 A3_l1 c3_l1 x3_l1] → colophonref09_Array.l1 l0 k x3_l1 x9_l1 = some out → WL Try.prog (cbody (cbody (cr (cl (cr (cr C24)))))) Q 52 [(0, .slice A0 l0.length c0), (3, .slice A3_l1 x3_l1.length c3_l1), (8, .int .i64 (l0.length : Int)), (9, .int .i64 x9_l1)] w := by
  intro k
  induction k with
  | zero => intro x3_l1 x9_l1 A3_l1 c3_l1 w hS H; exact absurd (show none = some out from H) (by simp)
  | succ k ih =>
    intro x3_l1 x9_l1 A3_l1 c3_l1 w hS H
    unfold colophonref09_Array.l1 at H
    refine WL.round ?_
    refine WC.seq (by kernel_rfl) ?_
    refine WC.reg [0] (by kernel_rfl) (by kernel_rfl) ?_
    refine WR.runk [0] [] [0, 3, 8, 9, 10] (L' := [(0, .slice A0 l0.length c0), (3, .slice A3_l1 x3_l1.length c3_l1), (8, .int .i64 (l0.length : Int)), (9, .int .i64 x9_l1), (10, .bool (decide (x9_l1 < (l0.length : Int))))]) (w' := w) (by kernel_rfl) ?_
    refine WR.nil ?_
    refine At.go ?_
    refine WC.seq (by kernel_rfl) ?_
    refine WC.cond (by kernel_rfl) (decide (x9_l1 < (l0.length : Int))) (by kernel_rfl) (by kernel_rfl) (fun hb1 => ?_) (fun hb1 => ?_)
    · replace H := ite_t H hb1
      refine WC.skip (by kernel_rfl) ?_
      refine At.go ?_
      refine WC.seq (by kernel_rfl) ?_
      refine WC.block (by kernel_rfl) ?_
      refine WC.seq (by kernel_rfl) ?_
      refine WC.reg [0, 1] (by kernel_rfl) (by kernel_rfl) ?_
      refine WR.runk [0, 1] [] [0, 3, 4, 8, 9] (L' := [(0, .slice A0 l0.length c0), (3, .slice A3_l1 x3_l1.length c3_l1), (4, .int .i64 x9_l1), (8, .int .i64 (l0.length : Int)), (9, .int .i64 x9_l1)]) (w' := w) (by kernel_rfl) ?_
      refine WR.nil ?_
      refine At.go ?_
      refine WC.seq (by kernel_rfl) ?_
      refine WC.reg [0] (by kernel_rfl) (by kernel_rfl) ?_
      refine WR.runk [0] [] [0, 3, 4, 5, 8, 9] (L' := [(0, .slice A0 l0.length c0), (3, .slice A3_l1 x3_l1.length c3_l1), (4, .int .i64 x9_l1), (5, .int .i64 0), (8, .int .i64 (l0.length : Int)), (9, .int .i64 x9_l1)]) (w' := w) (by kernel_rfl) ?_
      refine WR.nil ?_
      refine At.go ?_
      refine WC.seq (by kernel_rfl) ?_
      refine WC.block (by kernel_rfl) ?_
      have hS : Sat w (rf w0) [osl 3 (r0 (.int .i64)) 1 A3_l1 c3_l1 x3_l1] := hS.sel [0] (by kernel_rfl)
      obtain ⟨o15, e16, H⟩ := bind_ex H
      refine WC.loop (by kernel_rfl) ?_
      refine WL.weaken [0, 3, 4, 5, 8, 9] (L' := [(0, .slice A0 l0.length c0), (3, .slice A3_l1 x3_l1.length c3_l1), (4, .int .i64 x9_l1), (5, .int .i64 0), (8, .int .i64 (l0.length : Int)), (9, .int .i64 x9_l1)]) (by kernel_rfl) ?_
      refine colophonref09_Array.l2_ok w0 A0 c0 l0 A3_l1 c3_l1 x3_l1 x9_l1 R0 o15 (fun w18 hS => ?_) FU 0 _ hS e16
      refine At.hit ?_
      refine At.go ?_
      refine WC.seq (by kernel_rfl) ?_
      refine WC.reg [0, 1, 2, 3] (by kernel_rfl) (by kernel_rfl) ?_
      refine WR.runk [0] [1, 2, 3] [0, 3, 4, 5, 8, 9, 27] (L' := [(0, .slice A0 l0.length c0), (3, .slice A3_l1 x3_l1.length c3_l1), (4, .int .i64 x9_l1), (5, .int .i64 o15), (8, .int .i64 (l0.length : Int)), (9, .int .i64 x9_l1), (27, .slice A3_l1 x3_l1.length c3_l1)]) (w' := w18) (by kernel_rfl) ?_
      refine WR.st (St.box hS (by kernel_rfl) (.cells #[.int .i64 0] 3) (fun b20 => .slice (some ⟨b20, 0, none⟩) 1 1) (fun _ => by kernel_rfl) (fun b20 w21 hS => ?_))
      refine WR.runk [] [2, 3] [0, 3, 4, 5, 8, 9, 27, 28] (L' := [(0, .slice A0 l0.length c0), (3, .slice A3_l1 x3_l1.length c3_l1), (4, .int .i64 x9_l1), (5, .int .i64 o15), (8, .int .i64 (l0.length : Int)), (9, .int .i64 x9_l1), (27, .slice A3_l1 x3_l1.length c3_l1), (28, .slice (some ⟨b20, 0, none⟩) 1 1)]) (w' := w21) (by kernel_rfl) ?_
      have hS : Sat w21 (rf w0) [osl 3 (r0 (.int .i64)) 1 A3_l1 c3_l1 x3_l1, pts b20 (.cells #[.int .i64 0] 3 (0, 0))] := hS.sel [1, 0] (by kernel_rfl)
      obtain ⟨y23, e22, H⟩ := bind_ex H
      refine WR.st (St.append' (.tmp 27) (.tmp 28) (by kernel_rfl) (by kernel_rfl) E22 (r0_one _) hS (by kernel_rfl) (by kernel_rfl) (Sat.ptsAt 1 (r0 (.int .i64)) 1 ([0] : List Int) hS rfl rfl (rdL.cons1 rfl (rdL.nil _ _))) 17592186044416 (by kernel_rfl) (by kernel_rfl) e22 (fun A24 c25 w26 hS => ?_))
      refine WR.runk [3] [] [0, 3, 4, 5, 8, 9] (L' := [(0, .slice A0 l0.length c0), (3, .slice A24 y23.length c25), (4, .int .i64 x9_l1), (5, .int .i64 o15), (8, .int .i64 (l0.length : Int)), (9, .int .i64 x9_l1)]) (w' := w26) (by kernel_rfl) ?_
      refine WR.nil ?_
      refine At.go ?_
      refine WC.seq (by kernel_rfl) ?_
      refine WC.seq (by kernel_rfl) ?_
      refine WC.reg [0, 1, 2, 3] (by kernel_rfl) (by kernel_rfl) ?_
      refine WR.runk [0, 1, 2, 3] [] [0, 3, 4, 5, 6, 8, 9] (L' := [(0, .slice A0 l0.length c0), (3, .slice A24 y23.length c25), (4, .int .i64 x9_l1), (5, .int .i64 o15), (6, .int .i64 (wi ((y23.length : Int) - 1))), (8, .int .i64 (l0.length : Int)), (9, .int .i64 x9_l1)]) (w' := w26) (by kernel_rfl) ?_
      refine WR.nil ?_
      refine At.go ?_
      refine WC.block (by kernel_rfl) ?_
      have hS : Sat w26 (rf w0) [osl 3 (r0 (.int .i64)) 1 A24 c25 y23] := hS.sel [0] (by kernel_rfl)
      obtain ⟨o36, e37, H⟩ := bind_ex H
      refine WC.loop (by kernel_rfl) ?_
      refine WL.weaken [0, 3, 4, 5, 6, 8, 9] (L' := [(0, .slice A0 l0.length c0), (3, .slice A24 y23.length c25), (4, .int .i64 x9_l1), (5, .int .i64 o15), (6, .int .i64 (wi ((y23.length : Int) - 1))), (8, .int .i64 (l0.length : Int)), (9, .int .i64 x9_l1)]) (by kernel_rfl) ?_
      refine colophonref09_Array.l3_ok w0 A0 c0 l0 x9_l1 o15 o36 (fun A3_q38 c3_q38 w39 hS => ?_) FU y23 (wi ((y23.length : Int) - 1)) A24 c25 _ hS e37
      refine At.hit ?_
      refine At.go ?_
      refine WC.reg [0, 1, 2, 3, 4] (by kernel_rfl) (by kernel_rfl) ?_
      refine WR.runk [0, 1, 2] [3, 4] [0, 3, 8, 9, 46, 47, 48] (L' := [(0, .slice A0 l0.length c0), (3, .slice A3_q38 o36.length c3_q38), (8, .int .i64 (l0.length : Int)), (9, .int .i64 x9_l1), (46, .slice A3_q38 o36.length c3_q38), (47, .int .i64 o15), (48, .int .i64 x9_l1)]) (w' := w39) (by kernel_rfl) ?_
      obtain ⟨v41, e42, H⟩ := bind_ex H
      refine WR.st (St.ofP (PSt.idx (k := .i64) (.tmp 46) (.tmp 47) (by kernel_rfl) (by kernel_rfl) E22 (by kernel_rfl) (by kernel_rfl) (Sat.rdAt 0 hS rfl) e42 ?_))
      refine WR.runk [] [4] [0, 3, 8, 9, 48, 49] (L' := [(0, .slice A0 l0.length c0), (3, .slice A3_q38 o36.length c3_q38), (8, .int .i64 (l0.length : Int)), (9, .int .i64 x9_l1), (48, .int .i64 x9_l1), (49, .pointer (some (adr A3_q38 o15.toNat 1)))]) (w' := w39) (by kernel_rfl) ?_
      obtain ⟨y43, e44, H⟩ := bind_ex H
      refine WR.st (St.storeElem' (t := 3) (.tmp 49) (.tmp 48) (by kernel_rfl) (by kernel_rfl) (by kernel_rfl) hS (by kernel_rfl) (by kernel_rfl) rfl e44 rfl (fun w45 hS => ?_))
      have hl46 := set?_len e44
      refine WR.know 3 (.slice A3_q38 y43.length c3_q38) (.slice A3_q38 o36.length c3_q38) (by kernel_rfl) (by rw [hl46]) ?_
      refine WR.runk [] [] [0, 3, 8, 9] (L' := [(0, .slice A0 l0.length c0), (3, .slice A3_q38 y43.length c3_q38), (8, .int .i64 (l0.length : Int)), (9, .int .i64 x9_l1)]) (w' := w45) (by kernel_rfl) ?_
      refine WR.nil ?_
      refine At.blockNormal ?_
      refine At.go ?_
      refine WC.reg [0, 1] (by kernel_rfl) (by kernel_rfl) ?_
      refine WR.runk [0, 1] [] [0, 3, 8, 9] (L' := [(0, .slice A0 l0.length c0), (3, .slice A3_q38 y43.length c3_q38), (8, .int .i64 (l0.length : Int)), (9, .int .i64 (wi (x9_l1 + 1)))]) (w' := w45) (by kernel_rfl) ?_
      refine WR.nil ?_
      have hS : Sat w45 (rf w0) [osl 3 (r0 (.int .i64)) 1 A3_q38 c3_q38 y43] := hS.sel [0] (by kernel_rfl)
      refine At.again ?_
      refine WL.weaken [0, 3, 8, 9] (L' := [(0, .slice A0 l0.length c0), (3, .slice A3_q38 y43.length c3_q38), (8, .int .i64 (l0.length : Int)), (9, .int .i64 (wi (x9_l1 + 1)))]) (by kernel_rfl) ?_
      exact ih y43 (wi (x9_l1 + 1)) A3_q38 c3_q38 _ hS H
    · replace H := ite_f H hb1
      refine WC.exit (by kernel_rfl) ?_
      refine At.thenExit ?_
      refine At.thenExit ?_
      obtain rfl := Option.some.inj H
      have hS : Sat w (rf w0) [osl 3 (r0 (.int .i64)) 1 A3_l1 c3_l1 x3_l1] := hS.sel [0] (by kernel_rfl)
      refine At.weaken [3] (L' := [(3, .slice A3_l1 x3_l1.length c3_l1)]) (by kernel_rfl) ?_
      exact hn0 A3_l1 c3_l1 _ hS
theorem colophonref09_Array.calls (w0 : World) (A0 : Option Addr) (c0 : Nat) (l0 : List Int) (R0 : rdS (r0 (.int .i64)) 1 (hp w0) A0 c0 l0) (r : (List Int)) (H : colophonref09_Array.f l0 = some r) :
    Calls Try.prog 24 #[.slice A0 l0.length c0] w0 (fun e w' => ∃ v, e = .returned v ∧ colophonref09_Array.post w0 r v w') := by
  have hS : Sat w0 (rf w0) [] := Sat.start w0
  unfold colophonref09_Array.f at H
  refine calls_of_WC (vs := [.slice A0 l0.length c0]) Try.func24 (c := C24) (n := 52) (by kernel_rfl) (by kernel_rfl) (by kernel_rfl) ?_
  refine WC.seq (by kernel_rfl) ?_
  refine WC.reg [0] (by kernel_rfl) (by kernel_rfl) ?_
  refine WR.runk [0] [] [0] (L' := [(0, .slice A0 l0.length c0)]) (w' := w0) (by kernel_rfl) ?_
  refine WR.nil ?_
  refine At.go ?_
  refine WC.seq (by kernel_rfl) ?_
  refine WC.reg [0] (by kernel_rfl) (by kernel_rfl) ?_
  refine WR.runk [0] [] [0, 3] (L' := [(0, .slice A0 l0.length c0), (3, .slice none 0 0)]) (w' := w0) (by kernel_rfl) ?_
  refine WR.nil ?_
  refine At.go ?_
  refine WC.seq (by kernel_rfl) ?_
  refine WC.seq (by kernel_rfl) ?_
  refine WC.reg [0, 1, 2] (by kernel_rfl) (by kernel_rfl) ?_
  refine WR.runk [0, 1, 2] [] [0, 3, 8, 9] (L' := [(0, .slice A0 l0.length c0), (3, .slice none 0 0), (8, .int .i64 (l0.length : Int)), (9, .int .i64 0)]) (w' := w0) (by kernel_rfl) ?_
  refine WR.nil ?_
  refine At.go ?_
  refine WC.block (by kernel_rfl) ?_
  have hS := hS.addNil (α := Int) 3 (r0 (.int .i64)) 1
  have hS : Sat w0 (rf w0) [osl 3 (r0 (.int .i64)) 1 none 0 ([] : List Int)] := hS.sel [0] (by kernel_rfl)
  obtain ⟨o47, e48, H⟩ := bind_ex H
  refine WC.loop (by kernel_rfl) ?_
  refine WL.weaken [0, 3, 8, 9] (L' := [(0, .slice A0 l0.length c0), (3, .slice none 0 0), (8, .int .i64 (l0.length : Int)), (9, .int .i64 0)]) (by kernel_rfl) ?_
  refine colophonref09_Array.l1_ok w0 A0 c0 l0 R0 o47 (fun A3_q49 c3_q49 w50 hS => ?_) FU ([] : List Int) 0 none 0 _ hS e48
  refine At.hit ?_
  refine At.go ?_
  refine WC.seq (by kernel_rfl) ?_
  refine WC.reg [0, 1] (by kernel_rfl) (by kernel_rfl) ?_
  refine WR.runk [0, 1] [] [2] (L' := [(2, .slice A3_q49 o47.length c3_q49)]) (w' := w50) (by kernel_rfl) ?_
  refine WR.nil ?_
  refine At.go ?_
  refine WC.ret (by kernel_rfl) ?_
  obtain rfl := Option.some.inj H
  have hS : Sat w50 (rf w0) [osl 3 (r0 (.int .i64)) 1 A3_q49 c3_q49 o47] := hS.sel [0] (by kernel_rfl)
  exact At.body [.slice A3_q49 o47.length c3_q49] (by kernel_rfl) ⟨_, rfl, _, _, rfl, hS⟩
/-! ### 25 colophon/colophonref08.Doc -/
def colophonref08_Doc.l1 (l0 : List (List Int)) : Nat → Int → Int → Option (Sum (Int × Int) Unit)
  | 0, _, _ => none
  | k + 1, x1_l1, x12_l1 => (if decide (x12_l1 < (l0.length : Int)) then ((at? l0 x12_l1).bind fun v3 => (if decide (x1_l1 ≤ (v3.length : Int)) then some (.inl (x12_l1, x1_l1)) else colophonref08_Doc.l1 l0 k (wi (x1_l1 - (wi ((v3.length : Int) + 1)))) (wi (x12_l1 + 1)))) else some (.inr ()))
def colophonref08_Doc.f (l0 : List (List Int)) (a1 : Int) : Option (Int × Int) := (if decide (a1 < 0) then some ((-1), (-1)) else ((colophonref08_Doc.l1 l0 FU a1 0).bind fun o9 => (match o9 with | .inl o11 => some (o11.1, o11.2) | .inr o15 => some ((-1), (-1)))))
def colophonref08_Doc.post (w : World) (r : Int × Int) (v : Value) (w' : World) : Prop := v = .tuple #[.int .i64 r.1, .int .i64 r.2] ∧ Sat w' (rf w) []
theorem colophonref08_Doc.l1_ok {Q} (w0 : World) (A0 : Option Addr) (c0 : Nat) (l0 : List (List Int)) (R0 : rdS (rd (hp w0) (.slice 5 (.int .u8))) 1 (hp w0) A0 c0 l0) (out : Sum (Int × Int) Unit) (hn0 : ∀ (o0 : Int × Int) (w : World), out = (.inl o0) → Sat w (rf w0) [] → At Q .ret 29 [(4, .int .i64 o0.1), (5, .int .i64 o0.2)] w) (hn1 : ∀ (o1 : Unit) (w : World), out = (.inr o1) → Sat w (rf w0) [] → At Q (.exit 0) 29 [] w) :
    ∀ (k : Nat) (x1_l1 : Int) (x12_l1 : Int) (w : World), Sat w (rf w0) [] → colophonref08_Doc.l1 l0 k x1_l1 x12_l1 = some out → WL Try.prog (cbody (cbody (cr (cl (cr (cr C25)))))) Q 29 [(1, .int .i64 x1_l1), (10, .slice A0 l0.length c0), (11, .int .i64 (l0.length : Int)), (12, .int .i64 x12_l1)] w := by
  intro k
  induction k with
  | zero => intro x1_l1 x12_l1 w hS H; exact absurd (show none = some out from H) (by simp)
  | succ k ih =>
    intro x1_l1 x12_l1 w hS H
    unfold colophonref08_Doc.l1 at H
    refine WL.round ?_
    refine WC.seq (by kernel_rfl) ?_
    refine WC.reg [0] (by kernel_rfl) (by kernel_rfl) ?_
    refine WR.runk [0] [] [1, 10, 11, 12, 13] (L' := [(1, .int .i64 x1_l1), (10, .slice A0 l0.length c0), (11, .int .i64 (l0.length : Int)), (12, .int .i64 x12_l1), (13, .bool (decide (x12_l1 < (l0.length : Int))))]) (w' := w) (by kernel_rfl) ?_
    refine WR.nil ?_
    refine At.go ?_
    refine WC.seq (by kernel_rfl) ?_
    refine WC.cond (by kernel_rfl) (decide (x12_l1 < (l0.length : Int))) (by kernel_rfl) (by kernel_rfl) (fun hb2 => ?_) (fun hb2 => ?_)
    · replace H := ite_t H hb2
      refine WC.skip (by kernel_rfl) ?_
      refine At.go ?_
      refine WC.seq (by kernel_rfl) ?_
      refine WC.block (by kernel_rfl) ?_
      refine WC.seq (by kernel_rfl) ?_
      refine WC.reg [0, 1, 2, 3, 4] (by kernel_rfl) (by kernel_rfl) ?_
      refine WR.runk [0] [1, 2, 3, 4] [1, 10, 11, 12, 14] (L' := [(1, .int .i64 x1_l1), (10, .slice A0 l0.length c0), (11, .int .i64 (l0.length : Int)), (12, .int .i64 x12_l1), (14, .int .i64 x12_l1)]) (w' := w) (by kernel_rfl) ?_
      obtain ⟨v3, e4, H⟩ := bind_ex H
      refine WR.st (St.ofP (PSt.idx (k := .i64) (.tmp 10) (.tmp 12) (by kernel_rfl) (by kernel_rfl) E33 (by kernel_rfl) (by kernel_rfl) (rdS.up R0 hS.sub0) e4 ?_))
      refine WR.runk [] [2, 3, 4] [1, 10, 11, 12, 14, 15] (L' := [(1, .int .i64 x1_l1), (10, .slice A0 l0.length c0), (11, .int .i64 (l0.length : Int)), (12, .int .i64 x12_l1), (14, .int .i64 x12_l1), (15, .pointer (some (adr A0 x12_l1.toNat 1)))]) (w' := w) (by kernel_rfl) ?_
      refine WR.st (St.ofR (RSt.loadSl (t := 34) (.tmp 15) (by kernel_rfl) (by kernel_rfl) (by kernel_rfl) (by kernel_rfl) R0 e4 hS.sub0 (fun A5 c6 R7 => ?_)))
      replace R7 : rdS (r0 (.int .u8)) 1 (hp w0) A5 c6 v3 := R7
      refine WR.runk [3, 4] [] [1, 6, 7, 10, 11, 12] (L' := [(1, .int .i64 x1_l1), (6, .int .i64 x12_l1), (7, .slice A5 v3.length c6), (10, .slice A0 l0.length c0), (11, .int .i64 (l0.length : Int)), (12, .int .i64 x12_l1)]) (w' := w) (by kernel_rfl) ?_
      refine WR.nil ?_
      refine At.go ?_
      refine WC.seq (by kernel_rfl) ?_
      refine WC.seq (by kernel_rfl) ?_
      refine WC.reg [0, 1, 2, 3] (by kernel_rfl) (by kernel_rfl) ?_
      refine WR.runk [0, 1, 2, 3] [] [1, 6, 7, 10, 11, 12, 20] (L' := [(1, .int .i64 x1_l1), (6, .int .i64 x12_l1), (7, .slice A5 v3.length c6), (10, .slice A0 l0.length c0), (11, .int .i64 (l0.length : Int)), (12, .int .i64 x12_l1), (20, .bool (decide (x1_l1 ≤ (v3.length : Int))))]) (w' := w) (by kernel_rfl) ?_
      refine WR.nil ?_
      refine At.go ?_
      refine WC.cond (by kernel_rfl) (decide (x1_l1 ≤ (v3.length : Int))) (by kernel_rfl) (by kernel_rfl) (fun hb8 => ?_) (fun hb8 => ?_)
      · replace H := ite_t H hb8
        refine WC.seq (by kernel_rfl) ?_
        refine WC.reg [0, 1, 2, 3] (by kernel_rfl) (by kernel_rfl) ?_
        refine WR.runk [0, 1, 2, 3] [] [4, 5] (L' := [(4, .int .i64 x12_l1), (5, .int .i64 x1_l1)]) (w' := w) (by kernel_rfl) ?_
        refine WR.nil ?_
        refine At.go ?_
        refine WC.ret (by kernel_rfl) ?_
        refine At.thenRet ?_
        refine At.blockRet ?_
        refine At.thenRet ?_
        refine At.thenRet ?_
        obtain rfl := Option.some.inj H
        have hS : Sat w (rf w0) [] := hS.sel [] (by kernel_rfl)
        refine At.weaken [4, 5] (L' := [(4, .int .i64 x12_l1), (5, .int .i64 x1_l1)]) (by kernel_rfl) ?_
        exact hn0 (x12_l1, x1_l1) _ rfl hS
      · replace H := ite_f H hb8
        refine WC.skip (by kernel_rfl) ?_
        refine At.go ?_
        refine WC.reg [0, 1, 2, 3, 4, 5] (by kernel_rfl) (by kernel_rfl) ?_
        refine WR.runk [0, 1, 2, 3, 4, 5] [] [1, 10, 11, 12] (L' := [(1, .int .i64 (wi (x1_l1 - (wi ((v3.length : Int) + 1))))), (10, .slice A0 l0.length c0), (11, .int .i64 (l0.length : Int)), (12, .int .i64 x12_l1)]) (w' := w) (by kernel_rfl) ?_
        refine WR.nil ?_
        refine At.blockNormal ?_
        refine At.go ?_
        refine WC.reg [0, 1] (by kernel_rfl) (by kernel_rfl) ?_
        refine WR.runk [0, 1] [] [1, 10, 11, 12] (L' := [(1, .int .i64 (wi (x1_l1 - (wi ((v3.length : Int) + 1))))), (10, .slice A0 l0.length c0), (11, .int .i64 (l0.length : Int)), (12, .int .i64 (wi (x12_l1 + 1)))]) (w' := w) (by kernel_rfl) ?_
        refine WR.nil ?_
        have hS : Sat w (rf w0) [] := hS.sel [] (by kernel_rfl)
        refine At.again ?_
        refine WL.weaken [1, 10, 11, 12] (L' := [(1, .int .i64 (wi (x1_l1 - (wi ((v3.length : Int) + 1))))), (10, .slice A0 l0.length c0), (11, .int .i64 (l0.length : Int)), (12, .int .i64 (wi (x12_l1 + 1)))]) (by kernel_rfl) ?_
        exact ih (wi (x1_l1 - (wi ((v3.length : Int) + 1)))) (wi (x12_l1 + 1)) _ hS H
    · replace H := ite_f H hb2
      refine WC.exit (by kernel_rfl) ?_
      refine At.thenExit ?_
      refine At.thenExit ?_
      obtain rfl := Option.some.inj H
      have hS : Sat w (rf w0) [] := hS.sel [] (by kernel_rfl)
      refine At.weaken [] (L' := []) (by kernel_rfl) ?_
      exact hn1 () _ rfl hS
theorem colophonref08_Doc.calls (w0 : World) (A0 : Option Addr) (c0 : Nat) (l0 : List (List Int)) (R0 : rdS (rd (hp w0) (.slice 5 (.int .u8))) 1 (hp w0) A0 c0 l0) (a1 : Int) (r : Int × Int) (H : colophonref08_Doc.f l0 a1 = some r) :
    Calls Try.prog 25 #[.slice A0 l0.length c0, .int .i64 a1] w0 (fun e w' => ∃ v, e = .returned v ∧ colophonref08_Doc.post w0 r v w') := by
  have hS : Sat w0 (rf w0) [] := Sat.start w0
  unfold colophonref08_Doc.f at H
  refine calls_of_WC (vs := [.slice A0 l0.length c0, .int .i64 a1]) Try.func25 (c := C25) (n := 29) (by kernel_rfl) (by kernel_rfl) (by kernel_rfl) ?_
  refine WC.seq (by kernel_rfl) ?_
  refine WC.reg [0, 1] (by kernel_rfl) (by kernel_rfl) ?_
  refine WR.runk [0, 1] [] [0, 1] (L' := [(0, .slice A0 l0.length c0), (1, .int .i64 a1)]) (w' := w0) (by kernel_rfl) ?_
  refine WR.nil ?_
  refine At.go ?_
  refine WC.seq (by kernel_rfl) ?_
  refine WC.seq (by kernel_rfl) ?_
  refine WC.reg [0, 1] (by kernel_rfl) (by kernel_rfl) ?_
  refine WR.runk [0, 1] [] [0, 1, 9] (L' := [(0, .slice A0 l0.length c0), (1, .int .i64 a1), (9, .bool (decide (a1 < 0)))]) (w' := w0) (by kernel_rfl) ?_
  refine WR.nil ?_
  refine At.go ?_
  refine WC.cond (by kernel_rfl) (decide (a1 < 0)) (by kernel_rfl) (by kernel_rfl) (fun hb1 => ?_) (fun hb1 => ?_)
  · replace H := ite_t H hb1
    refine WC.seq (by kernel_rfl) ?_
    refine WC.reg [0, 1] (by kernel_rfl) (by kernel_rfl) ?_
    refine WR.runk [0, 1] [] [4, 5] (L' := [(4, .int .i64 (-1)), (5, .int .i64 (-1))]) (w' := w0) (by kernel_rfl) ?_
    refine WR.nil ?_
    refine At.go ?_
    refine WC.ret (by kernel_rfl) ?_
    refine At.thenRet ?_
    obtain rfl := Option.some.inj H
    have hS : Sat w0 (rf w0) [] := hS.sel [] (by kernel_rfl)
    exact At.body [.int .i64 (-1), .int .i64 (-1)] (by kernel_rfl) ⟨_, rfl, rfl, hS⟩
  · replace H := ite_f H hb1
    refine WC.skip (by kernel_rfl) ?_
    refine At.go ?_
    refine WC.seq (by kernel_rfl) ?_
    refine WC.seq (by kernel_rfl) ?_
    refine WC.reg [0, 1, 2] (by kernel_rfl) (by kernel_rfl) ?_
    refine WR.runk [0, 1, 2] [] [1, 10, 11, 12] (L' := [(1, .int .i64 a1), (10, .slice A0 l0.length c0), (11, .int .i64 (l0.length : Int)), (12, .int .i64 0)]) (w' := w0) (by kernel_rfl) ?_
    refine WR.nil ?_
    refine At.go ?_
    refine WC.block (by kernel_rfl) ?_
    have hS : Sat w0 (rf w0) [] := hS.sel [] (by kernel_rfl)
    obtain ⟨o9, e10, H⟩ := bind_ex H
    refine WC.loop (by kernel_rfl) ?_
    refine WL.weaken [1, 10, 11, 12] (L' := [(1, .int .i64 a1), (10, .slice A0 l0.length c0), (11, .int .i64 (l0.length : Int)), (12, .int .i64 0)]) (by kernel_rfl) ?_
    refine colophonref08_Doc.l1_ok w0 A0 c0 l0 R0 o9 (fun o11 w13 ho14 hS => ?_) (fun o15 w17 ho18 hS => ?_) FU a1 0 _ hS e10
    · subst ho14
      dsimp only at H
      refine At.blockRet ?_
      refine At.thenRet ?_
      obtain rfl := Option.some.inj H
      have hS : Sat w13 (rf w0) [] := hS.sel [] (by kernel_rfl)
      exact At.body [.int .i64 o11.1, .int .i64 o11.2] (by kernel_rfl) ⟨_, rfl, rfl, hS⟩
    · subst ho18
      dsimp only at H
      refine At.hit ?_
      refine At.go ?_
      refine WC.seq (by kernel_rfl) ?_
      refine WC.reg [0, 1] (by kernel_rfl) (by kernel_rfl) ?_
      refine WR.runk [0, 1] [] [4, 5] (L' := [(4, .int .i64 (-1)), (5, .int .i64 (-1))]) (w' := w17) (by kernel_rfl) ?_
      refine WR.nil ?_
      refine At.go ?_
      refine WC.ret (by kernel_rfl) ?_
      obtain rfl := Option.some.inj H
      have hS : Sat w17 (rf w0) [] := hS.sel [] (by kernel_rfl)
      exact At.body [.int .i64 (-1), .int .i64 (-1)] (by kernel_rfl) ⟨_, rfl, rfl, hS⟩
/-! ### 41 colophon/colophonref10.Common -/
def colophonref10_Common.l1 (l0 : List Int) (a2 : Int) : Nat → Int → Int → Option Int
  | 0, _, _ => none
  | k + 1, x7_l1, x8_l1 => (if decide (x8_l1 < (l0.length : Int)) then (if decide (wi (a2 + x7_l1) < (l0.length : Int)) then ((at? l0 x8_l1).bind fun v16 => ((at? l0 (wi (a2 + x7_l1))).bind fun v18 => (if (v16 != v18) then some x7_l1 else colophonref10_Common.l1 l0 a2 k (wi (x7_l1 + 1)) (wi (x8_l1 + 1))))) else some x7_l1) else some x7_l1)
def colophonref10_Common.f (l0 : List Int) (a1 : Int) (a2 : Int) : Option Int := (if decide (a1 < 0) then some 0 else (if decide (a2 < 0) then some 0 else (if decide (a1 ≥ (l0.length : Int)) then some 0 else (if decide (a2 ≥ (l0.length : Int)) then some 0 else ((at? l0 a1).bind fun v7 => ((at? l0 a2).bind fun v9 => (if (v7 != v9) then some 0 else ((colophonref10_Common.l1 l0 a2 FU 1 (wi (a1 + 1))).bind fun o21 => some o21))))))))
def colophonref10_Common.post (w : World) (r : Int) (v : Value) (w' : World) : Prop := v = (.int .i64 r : Value) ∧ Sat w' (rf w) []
theorem colophonref10_Common.l1_ok {Q} (w0 : World) (A0 : Option Addr) (c0 : Nat) (l0 : List Int) (a2 : Int) (R0 : rdS (r0 (.int .i64)) 1 (hp w0) A0 c0 l0) (out : Int) (hn0 : ∀ (w : World), Sat w (rf w0) [] → At Q (.exit 0) 66 [(7, .int .i64 out)] w) :
    ∀ (k : Nat) (x7_l1 : Int) (x8_l1 : Int) (w : World), Sat w (rf w0) [] → colophonref10_Common.l1 l0 a2 k x7_l1 x8_l1 = some out → WL Try.prog (cbody (cbody (cr (cl (cr (cr (cr (cr C41)))))))) Q 66 [(0, .slice A0 l0.length c0), (2, .int .i64 a2), (7, .int .i64 x7_l1), (8, .int .i64 x8_l1)] w := by
  intro k
  induction k with
  | zero => intro x7_l1 x8_l1 w hS H; exact absurd (show none = some out from H) (by simp)
  | succ k ih =>
    intro x7_l1 x8_l1 w hS H
    unfold colophonref10_Common.l1 at H
    refine WL.round ?_
    refine WC.seq (by kernel_rfl) ?_
    refine WC.seq (by kernel_rfl) ?_
    refine WC.reg [0, 1, 2, 3, 4, 5, 6, 7, 8, 9, 10, 11] (by kernel_rfl) (by kernel_rfl) ?_
    refine WR.runk [0, 1, 2, 3, 4] [5, 6, 7, 8, 9, 10, 11] [0, 2, 7, 8, 42] (L' := [(0, .slice A0 l0.length c0), (2, .int .i64 a2), (7, .int .i64 x7_l1), (8, .int .i64 x8_l1), (42, .bool (decide (x8_l1 < (l0.length : Int))))]) (w' := w) (by kernel_rfl) ?_
    refine WR.split 42 (b := decide (x8_l1 < (l0.length : Int))) (by kernel_rfl) (fun hb12 => ?_) (fun hb12 => ?_)
    · replace H := ite_t H hb12
      refine WR.runk [5, 6, 7, 8, 9, 10, 11] [] [0, 2, 7, 8, 43, 44, 45, 46, 47, 48, 49] (L' := [(0, .slice A0 l0.length c0), (2, .int .i64 a2), (7, .int .i64 x7_l1), (8, .int .i64 x8_l1), (43, .int .i64 a2), (44, .int .i64 x7_l1), (45, .int .i64 (wi (a2 + x7_l1))), (46, .slice A0 l0.length c0), (47, .int .i64 (l0.length : Int)), (48, .bool (decide (wi (a2 + x7_l1) < (l0.length : Int)))), (49, .bool (decide (wi (a2 + x7_l1) < (l0.length : Int))))]) (w' := w) (by kernel_rfl) ?_
      refine WR.nil ?_
      refine At.go ?_
      refine WC.cond (by kernel_rfl) (decide (wi (a2 + x7_l1) < (l0.length : Int))) (by kernel_rfl) (by kernel_rfl) (fun hb13 => ?_) (fun hb13 => ?_)
      · replace H := ite_t H hb13
        refine WC.skip (by kernel_rfl) ?_
        refine At.go ?_
        refine WC.seq (by kernel_rfl) ?_
        refine WC.block (by kernel_rfl) ?_
        refine WC.seq (by kernel_rfl) ?_
        refine WC.seq (by kernel_rfl) ?_
        refine WC.drawn (by kernel_rfl) (by kernel_rfl) 11 (by kernel_rfl) (fun w14 hw15 => ?_)
        have hS := hS.heap hw15.1 hw15.2
        refine WD.weaken [0, 2, 7, 8, 43, 44, 45, 46, 47] (L' := [(0, .slice A0 l0.length c0), (2, .int .i64 a2), (7, .int .i64 x7_l1), (8, .int .i64 x8_l1), (43, .int .i64 a2), (44, .int .i64 x7_l1), (45, .int .i64 (wi (a2 + x7_l1))), (46, .slice A0 l0.length c0), (47, .int .i64 (l0.length : Int))]) (by kernel_rfl) ?_
        refine WD.pure (i := 0) (v := .slice A0 l0.length c0) (by kernel_rfl) (by kernel_rfl) (fun _ => by kernel_rfl) ?_
        refine WD.weaken [0, 2, 7, 8, 43, 44, 45, 46, 47, 52] (L' := [(0, .slice A0 l0.length c0), (2, .int .i64 a2), (7, .int .i64 x7_l1), (8, .int .i64 x8_l1), (43, .int .i64 a2), (44, .int .i64 x7_l1), (45, .int .i64 (wi (a2 + x7_l1))), (46, .slice A0 l0.length c0), (47, .int .i64 (l0.length : Int)), (52, .slice A0 l0.length c0)]) (by kernel_rfl) ?_
        refine WD.pure (i := 1) (v := .int .i64 x8_l1) (by kernel_rfl) (by kernel_rfl) (fun _ => by kernel_rfl) ?_
        refine WD.weaken [0, 2, 7, 8, 43, 44, 45, 46, 47, 52, 53] (L' := [(0, .slice A0 l0.length c0), (2, .int .i64 a2), (7, .int .i64 x7_l1), (8, .int .i64 x8_l1), (43, .int .i64 a2), (44, .int .i64 x7_l1), (45, .int .i64 (wi (a2 + x7_l1))), (46, .slice A0 l0.length c0), (47, .int .i64 (l0.length : Int)), (52, .slice A0 l0.length c0), (53, .int .i64 x8_l1)]) (by kernel_rfl) ?_
        obtain ⟨v16, e17, H⟩ := bind_ex H
        refine WD.ofP (i := 2) (by kernel_rfl) (PSt.idx (k := .i64) (.tmp 52) (.tmp 53) (by kernel_rfl) (by kernel_rfl) E22 (by kernel_rfl) (by kernel_rfl) (rdS.up R0 hS.sub0) e17 ?_)
        refine WD.weaken [0, 2, 7, 8, 43, 44, 45, 46, 47, 54] (L' := [(0, .slice A0 l0.length c0), (2, .int .i64 a2), (7, .int .i64 x7_l1), (8, .int .i64 x8_l1), (43, .int .i64 a2), (44, .int .i64 x7_l1), (45, .int .i64 (wi (a2 + x7_l1))), (46, .slice A0 l0.length c0), (47, .int .i64 (l0.length : Int)), (54, .pointer (some (adr A0 x8_l1.toNat 1)))]) (by kernel_rfl) ?_
        refine WD.ofR (i := 3) (by kernel_rfl) (RSt.loadInt (t := 3) (.tmp 54) (by kernel_rfl) (by kernel_rfl) (by kernel_rfl) (by kernel_rfl) (rdS.up R0 hS.sub0) e17 ?_)
        refine WD.weaken [0, 2, 7, 8, 43, 44, 45, 46, 47, 55] (L' := [(0, .slice A0 l0.length c0), (2, .int .i64 a2), (7, .int .i64 x7_l1), (8, .int .i64 x8_l1), (43, .int .i64 a2), (44, .int .i64 x7_l1), (45, .int .i64 (wi (a2 + x7_l1))), (46, .slice A0 l0.length c0), (47, .int .i64 (l0.length : Int)), (55, .int .i64 v16)]) (by kernel_rfl) ?_
        refine WD.pure (i := 4) (v := .slice A0 l0.length c0) (by kernel_rfl) (by kernel_rfl) (fun _ => by kernel_rfl) ?_
        refine WD.weaken [0, 2, 7, 8, 43, 44, 45, 46, 47, 55, 56] (L' := [(0, .slice A0 l0.length c0), (2, .int .i64 a2), (7, .int .i64 x7_l1), (8, .int .i64 x8_l1), (43, .int .i64 a2), (44, .int .i64 x7_l1), (45, .int .i64 (wi (a2 + x7_l1))), (46, .slice A0 l0.length c0), (47, .int .i64 (l0.length : Int)), (55, .int .i64 v16), (56, .slice A0 l0.length c0)]) (by kernel_rfl) ?_
        refine WD.pure (i := 5) (v := .int .i64 a2) (by kernel_rfl) (by kernel_rfl) (fun _ => by kernel_rfl) ?_
        refine WD.weaken [0, 2, 7, 8, 43, 44, 45, 46, 47, 55, 56, 57] (L' := [(0, .slice A0 l0.length c0), (2, .int .i64 a2), (7, .int .i64 x7_l1), (8, .int .i64 x8_l1), (43, .int .i64 a2), (44, .int .i64 x7_l1), (45, .int .i64 (wi (a2 + x7_l1))), (46, .slice A0 l0.length c0), (47, .int .i64 (l0.length : Int)), (55, .int .i64 v16), (56, .slice A0 l0.length c0), (57, .int .i64 a2)]) (by kernel_rfl) ?_
        refine WD.pure (i := 6) (v := .int .i64 x7_l1) (by kernel_rfl) (by kernel_rfl) (fun _ => by kernel_rfl) ?_
        refine WD.weaken [0, 2, 7, 8, 43, 44, 45, 46, 47, 55, 56, 57, 58] (L' := [(0, .slice A0 l0.length c0), (2, .int .i64 a2), (7, .int .i64 x7_l1), (8, .int .i64 x8_l1), (43, .int .i64 a2), (44, .int .i64 x7_l1), (45, .int .i64 (wi (a2 + x7_l1))), (46, .slice A0 l0.length c0), (47, .int .i64 (l0.length : Int)), (55, .int .i64 v16), (56, .slice A0 l0.length c0), (57, .int .i64 a2), (58, .int .i64 x7_l1)]) (by kernel_rfl) ?_
        refine WD.pure (i := 7) (v := .int .i64 (wi (a2 + x7_l1))) (by kernel_rfl) (by kernel_rfl) (fun _ => by kernel_rfl) ?_
        refine WD.weaken [0, 2, 7, 8, 43, 44, 45, 46, 47, 55, 56, 59] (L' := [(0, .slice A0 l0.length c0), (2, .int .i64 a2), (7, .int .i64 x7_l1), (8, .int .i64 x8_l1), (43, .int .i64 a2), (44, .int .i64 x7_l1), (45, .int .i64 (wi (a2 + x7_l1))), (46, .slice A0 l0.length c0), (47, .int .i64 (l0.length : Int)), (55, .int .i64 v16), (56, .slice A0 l0.length c0), (59, .int .i64 (wi (a2 + x7_l1)))]) (by kernel_rfl) ?_
        obtain ⟨v18, e19, H⟩ := bind_ex H
        refine WD.ofP (i := 8) (by kernel_rfl) (PSt.idx (k := .i64) (.tmp 56) (.tmp 59) (by kernel_rfl) (by kernel_rfl) E22 (by kernel_rfl) (by kernel_rfl) (rdS.up R0 hS.sub0) e19 ?_)
        refine WD.weaken [0, 2, 7, 8, 43, 44, 45, 46, 47, 55, 60] (L' := [(0, .slice A0 l0.length c0), (2, .int .i64 a2), (7, .int .i64 x7_l1), (8, .int .i64 x8_l1), (43, .int .i64 a2), (44, .int .i64 x7_l1), (45, .int .i64 (wi (a2 + x7_l1))), (46, .slice A0 l0.length c0), (47, .int .i64 (l0.length : Int)), (55, .int .i64 v16), (60, .pointer (some (adr A0 (wi (a2 + x7_l1)).toNat 1)))]) (by kernel_rfl) ?_
        refine WD.ofR (i := 9) (by kernel_rfl) (RSt.loadInt (t := 3) (.tmp 60) (by kernel_rfl) (by kernel_rfl) (by kernel_rfl) (by kernel_rfl) (rdS.up R0 hS.sub0) e19 ?_)
        refine WD.weaken [0, 2, 7, 8, 43, 44, 45, 46, 47, 55, 61] (L' := [(0, .slice A0 l0.length c0), (2, .int .i64 a2), (7, .int .i64 x7_l1), (8, .int .i64 x8_l1), (43, .int .i64 a2), (44, .int .i64 x7_l1), (45, .int .i64 (wi (a2 + x7_l1))), (46, .slice A0 l0.length c0), (47, .int .i64 (l0.length : Int)), (55, .int .i64 v16), (61, .int .i64 v18)]) (by kernel_rfl) ?_
        refine WD.pure (i := 10) (v := .bool (v16 != v18)) (by kernel_rfl) (by kernel_rfl) (fun _ => by kernel_rfl) ?_
        refine WD.weaken [0, 2, 7, 8, 43, 44, 45, 46, 47, 62] (L' := [(0, .slice A0 l0.length c0), (2, .int .i64 a2), (7, .int .i64 x7_l1), (8, .int .i64 x8_l1), (43, .int .i64 a2), (44, .int .i64 x7_l1), (45, .int .i64 (wi (a2 + x7_l1))), (46, .slice A0 l0.length c0), (47, .int .i64 (l0.length : Int)), (62, .bool (v16 != v18))]) (by kernel_rfl) ?_
        refine WD.nil (by kernel_rfl) ?_
        refine At.go ?_
        refine WC.cond (by kernel_rfl) (v16 != v18) (by kernel_rfl) (by kernel_rfl) (fun hb20 => ?_) (fun hb20 => ?_)
        · replace H := ite_t H hb20
          refine WC.exit (by kernel_rfl) ?_
          refine At.thenExit ?_
          refine At.miss (by kernel_rfl) ?_
          refine At.thenExit ?_
          refine At.thenExit ?_
          obtain rfl := Option.some.inj H
          have hS : Sat w14 (rf w0) [] := hS.sel [] (by kernel_rfl)
          refine At.weaken [7] (L' := [(7, .int .i64 x7_l1)]) (by kernel_rfl) ?_
          exact hn0 _ hS
        · replace H := ite_f H hb20
          refine WC.skip (by kernel_rfl) ?_
          refine At.go ?_
          refine WC.reg [0, 1, 2] (by kernel_rfl) (by kernel_rfl) ?_
          refine WR.runk [0, 1, 2] [] [0, 2, 7, 8, 43, 44, 45, 46, 47] (L' := [(0, .slice A0 l0.length c0), (2, .int .i64 a2), (7, .int .i64 (wi (x7_l1 + 1))), (8, .int .i64 x8_l1), (43, .int .i64 a2), (44, .int .i64 x7_l1), (45, .int .i64 (wi (a2 + x7_l1))), (46, .slice A0 l0.length c0), (47, .int .i64 (l0.length : Int))]) (w' := w14) (by kernel_rfl) ?_
          refine WR.nil ?_
          refine At.blockNormal ?_
          refine At.go ?_
          refine WC.reg [0, 1, 2] (by kernel_rfl) (by kernel_rfl) ?_
          refine WR.runk [0, 1, 2] [] [0, 2, 7, 8, 43, 44, 45, 46, 47] (L' := [(0, .slice A0 l0.length c0), (2, .int .i64 a2), (7, .int .i64 (wi (x7_l1 + 1))), (8, .int .i64 (wi (x8_l1 + 1))), (43, .int .i64 a2), (44, .int .i64 x7_l1), (45, .int .i64 (wi (a2 + x7_l1))), (46, .slice A0 l0.length c0), (47, .int .i64 (l0.length : Int))]) (w' := w14) (by kernel_rfl) ?_
          refine WR.nil ?_
          have hS : Sat w14 (rf w0) [] := hS.sel [] (by kernel_rfl)
          refine At.again ?_
          refine WL.weaken [0, 2, 7, 8] (L' := [(0, .slice A0 l0.length c0), (2, .int .i64 a2), (7, .int .i64 (wi (x7_l1 + 1))), (8, .int .i64 (wi (x8_l1 + 1)))]) (by kernel_rfl) ?_
          exact ih (wi (x7_l1 + 1)) (wi (x8_l1 + 1)) _ hS H
      · replace H := ite_f H hb13
        refine WC.exit (by kernel_rfl) ?_
        refine At.thenExit ?_
        refine At.thenExit ?_
        obtain rfl := Option.some.inj H
        have hS : Sat w (rf w0) [] := hS.sel [] (by kernel_rfl)
        refine At.weaken [7] (L' := [(7, .int .i64 x7_l1)]) (by kernel_rfl) ?_
        exact hn0 _ hS
    · replace H := ite_f H hb12
      refine WR.runk [5, 6, 7, 8, 9, 10, 11] [] [0, 2, 7, 8, 43, 44, 45, 46, 47, 48, 49] (L' := [(0, .slice A0 l0.length c0), (2, .int .i64 a2), (7, .int .i64 x7_l1), (8, .int .i64 x8_l1), (43, undef), (44, undef), (45, undef), (46, undef), (47, undef), (48, undef), (49, .bool false)]) (w' := w) (by kernel_rfl) ?_
      refine WR.nil ?_
      refine At.go ?_
      refine WC.condF (by kernel_rfl) (by kernel_rfl) (by kernel_rfl) ?_
      refine WC.exit (by kernel_rfl) ?_
      refine At.thenExit ?_
      refine At.thenExit ?_
      obtain rfl := Option.some.inj H
      have hS : Sat w (rf w0) [] := hS.sel [] (by kernel_rfl)
      refine At.weaken [7] (L' := [(7, .int .i64 x7_l1)]) (by kernel_rfl) ?_
      exact hn0 _ hS
theorem colophonref10_Common.calls (w0 : World) (A0 : Option Addr) (c0 : Nat) (l0 : List Int) (R0 : rdS (r0 (.int .i64)) 1 (hp w0) A0 c0 l0) (a1 : Int) (a2 : Int) (r : Int) (H : colophonref10_Common.f l0 a1 a2 = some r) :
    Calls Try.prog 41 #[.slice A0 l0.length c0, .int .i64 a1, .int .i64 a2] w0 (fun e w' => ∃ v, e = .returned v ∧ colophonref10_Common.post w0 r v w') := by
  have hS : Sat w0 (rf w0) [] := Sat.start w0
  unfold colophonref10_Common.f at H
  refine calls_of_WC (vs := [.slice A0 l0.length c0, .int .i64 a1, .int .i64 a2]) Try.func41 (c := C41) (n := 66) (by kernel_rfl) (by kernel_rfl) (by kernel_rfl) ?_
  refine WC.seq (by kernel_rfl) ?_
  refine WC.reg [0] (by kernel_rfl) (by kernel_rfl) ?_
  refine WR.runk [0] [] [0, 1, 2] (L' := [(0, .slice A0 l0.length c0), (1, .int .i64 a1), (2, .int .i64 a2)]) (w' := w0) (by kernel_rfl) ?_
  refine WR.nil ?_
  refine At.go ?_
  refine WC.seq (by kernel_rfl) ?_
  refine WC.seq (by kernel_rfl) ?_
  refine WC.reg [0, 1, 2, 3, 4, 5, 6, 7, 8, 9, 10, 11, 12, 13, 14, 15, 16, 17] (by kernel_rfl) (by kernel_rfl) ?_
  refine WR.runk [0, 1, 2] [3, 4, 5, 6, 7, 8, 9, 10, 11, 12, 13, 14, 15, 16, 17] [0, 1, 2, 11] (L' := [(0, .slice A0 l0.length c0), (1, .int .i64 a1), (2, .int .i64 a2), (11, .bool (decide (a1 < 0)))]) (w' := w0) (by kernel_rfl) ?_
  refine WR.split 11 (b := decide (a1 < 0)) (by kernel_rfl) (fun hb1 => ?_) (fun hb1 => ?_)
  · replace H := ite_t H hb1
    refine WR.runk [3, 4, 5, 6, 7, 8, 9, 10, 11, 12, 13, 14, 15, 16, 17] [] [0, 1, 2, 26] (L' := [(0, .slice A0 l0.length c0), (1, .int .i64 a1), (2, .int .i64 a2), (26, .bool true)]) (w' := w0) (by kernel_rfl) ?_
    refine WR.nil ?_
    refine At.go ?_
    refine WC.condT (by kernel_rfl) (by kernel_rfl) (by kernel_rfl) ?_
    refine WC.seq (by kernel_rfl) ?_
    refine WC.reg [0] (by kernel_rfl) (by kernel_rfl) ?_
    refine WR.runk [0] [] [6] (L' := [(6, .int .i64 0)]) (w' := w0) (by kernel_rfl) ?_
    refine WR.nil ?_
    refine At.go ?_
    refine WC.ret (by kernel_rfl) ?_
    refine At.thenRet ?_
    obtain rfl := Option.some.inj H
    have hS : Sat w0 (rf w0) [] := hS.sel [] (by kernel_rfl)
    exact At.body [.int .i64 0] (by kernel_rfl) ⟨_, rfl, rfl, hS⟩
  · replace H := ite_f H hb1
    refine WR.runk [3, 4, 5, 6] [7, 8, 9, 10, 11, 12, 13, 14, 15, 16, 17] [0, 1, 2, 15] (L' := [(0, .slice A0 l0.length c0), (1, .int .i64 a1), (2, .int .i64 a2), (15, .bool (decide (a2 < 0)))]) (w' := w0) (by kernel_rfl) ?_
    refine WR.split 15 (b := decide (a2 < 0)) (by kernel_rfl) (fun hb2 => ?_) (fun hb2 => ?_)
    · replace H := ite_t H hb2
      refine WR.runk [7, 8, 9, 10, 11, 12, 13, 14, 15, 16, 17] [] [0, 1, 2, 26] (L' := [(0, .slice A0 l0.length c0), (1, .int .i64 a1), (2, .int .i64 a2), (26, .bool true)]) (w' := w0) (by kernel_rfl) ?_
      refine WR.nil ?_
      refine At.go ?_
      refine WC.condT (by kernel_rfl) (by kernel_rfl) (by kernel_rfl) ?_
      refine WC.seq (by kernel_rfl) ?_
      refine WC.reg [0] (by kernel_rfl) (by kernel_rfl) ?_
      refine WR.runk [0] [] [6] (L' := [(6, .int .i64 0)]) (w' := w0) (by kernel_rfl) ?_
      refine WR.nil ?_
      refine At.go ?_
      refine WC.ret (by kernel_rfl) ?_
      refine At.thenRet ?_
      obtain rfl := Option.some.inj H
      have hS : Sat w0 (rf w0) [] := hS.sel [] (by kernel_rfl)
      exact At.body [.int .i64 0] (by kernel_rfl) ⟨_, rfl, rfl, hS⟩
    · replace H := ite_f H hb2
      refine WR.runk [7, 8, 9, 10, 11, 12] [13, 14, 15, 16, 17] [0, 1, 2, 21] (L' := [(0, .slice A0 l0.length c0), (1, .int .i64 a1), (2, .int .i64 a2), (21, .bool (decide (a1 ≥ (l0.length : Int))))]) (w' := w0) (by kernel_rfl) ?_
      refine WR.split 21 (b := decide (a1 ≥ (l0.length : Int))) (by kernel_rfl) (fun hb3 => ?_) (fun hb3 => ?_)
      · replace H := ite_t H hb3
        refine WR.runk [13, 14, 15, 16, 17] [] [0, 1, 2, 26] (L' := [(0, .slice A0 l0.length c0), (1, .int .i64 a1), (2, .int .i64 a2), (26, .bool true)]) (w' := w0) (by kernel_rfl) ?_
        refine WR.nil ?_
        refine At.go ?_
        refine WC.condT (by kernel_rfl) (by kernel_rfl) (by kernel_rfl) ?_
        refine WC.seq (by kernel_rfl) ?_
        refine WC.reg [0] (by kernel_rfl) (by kernel_rfl) ?_
        refine WR.runk [0] [] [6] (L' := [(6, .int .i64 0)]) (w' := w0) (by kernel_rfl) ?_
        refine WR.nil ?_
        refine At.go ?_
        refine WC.ret (by kernel_rfl) ?_
        refine At.thenRet ?_
        obtain rfl := Option.some.inj H
        have hS : Sat w0 (rf w0) [] := hS.sel [] (by kernel_rfl)
        exact At.body [.int .i64 0] (by kernel_rfl) ⟨_, rfl, rfl, hS⟩
      · replace H := ite_f H hb3
        refine WR.runk [13, 14, 15, 16, 17] [] [0, 1, 2, 26] (L' := [(0, .slice A0 l0.length c0), (1, .int .i64 a1), (2, .int .i64 a2), (26, .bool (decide (a2 ≥ (l0.length : Int))))]) (w' := w0) (by kernel_rfl) ?_
        refine WR.nil ?_
        refine At.go ?_
        refine WC.cond (by kernel_rfl) (decide (a2 ≥ (l0.length : Int))) (by kernel_rfl) (by kernel_rfl) (fun hb4 => ?_) (fun hb4 => ?_)
        · replace H := ite_t H hb4
          refine WC.seq (by kernel_rfl) ?_
          refine WC.reg [0] (by kernel_rfl) (by kernel_rfl) ?_
          refine WR.runk [0] [] [6] (L' := [(6, .int .i64 0)]) (w' := w0) (by kernel_rfl) ?_
          refine WR.nil ?_
          refine At.go ?_
          refine WC.ret (by kernel_rfl) ?_
          refine At.thenRet ?_
          obtain rfl := Option.some.inj H
          have hS : Sat w0 (rf w0) [] := hS.sel [] (by kernel_rfl)
          exact At.body [.int .i64 0] (by kernel_rfl) ⟨_, rfl, rfl, hS⟩
        · replace H := ite_f H hb4
          refine WC.skip (by kernel_rfl) ?_
          refine At.go ?_
          refine WC.seq (by kernel_rfl) ?_
          refine WC.seq (by kernel_rfl) ?_
          refine WC.drawn (by kernel_rfl) (by kernel_rfl) 9 (by kernel_rfl) (fun w5 hw6 => ?_)
          have hS := hS.heap hw6.1 hw6.2
          refine WD.weaken [0, 1, 2] (L' := [(0, .slice A0 l0.length c0), (1, .int .i64 a1), (2, .int .i64 a2)]) (by kernel_rfl) ?_
          refine WD.pure (i := 0) (v := .slice A0 l0.length c0) (by kernel_rfl) (by kernel_rfl) (fun _ => by kernel_rfl) ?_
          refine WD.weaken [0, 1, 2, 27] (L' := [(0, .slice A0 l0.length c0), (1, .int .i64 a1), (2, .int .i64 a2), (27, .slice A0 l0.length c0)]) (by kernel_rfl) ?_
          refine WD.pure (i := 1) (v := .int .i64 a1) (by kernel_rfl) (by kernel_rfl) (fun _ => by kernel_rfl) ?_
          refine WD.weaken [0, 1, 2, 27, 28] (L' := [(0, .slice A0 l0.length c0), (1, .int .i64 a1), (2, .int .i64 a2), (27, .slice A0 l0.length c0), (28, .int .i64 a1)]) (by kernel_rfl) ?_
          obtain ⟨v7, e8, H⟩ := bind_ex H
          refine WD.ofP (i := 2) (by kernel_rfl) (PSt.idx (k := .i64) (.tmp 27) (.tmp 28) (by kernel_rfl) (by kernel_rfl) E22 (by kernel_rfl) (by kernel_rfl) (rdS.up R0 hS.sub0) e8 ?_)
          refine WD.weaken [0, 1, 2, 29] (L' := [(0, .slice A0 l0.length c0), (1, .int .i64 a1), (2, .int .i64 a2), (29, .pointer (some (adr A0 a1.toNat 1)))]) (by kernel_rfl) ?_
          refine WD.ofR (i := 3) (by kernel_rfl) (RSt.loadInt (t := 3) (.tmp 29) (by kernel_rfl) (by kernel_rfl) (by kernel_rfl) (by kernel_rfl) (rdS.up R0 hS.sub0) e8 ?_)
          refine WD.weaken [0, 1, 2, 30] (L' := [(0, .slice A0 l0.length c0), (1, .int .i64 a1), (2, .int .i64 a2), (30, .int .i64 v7)]) (by kernel_rfl) ?_
          refine WD.pure (i := 4) (v := .slice A0 l0.length c0) (by kernel_rfl) (by kernel_rfl) (fun _ => by kernel_rfl) ?_
          refine WD.weaken [0, 1, 2, 30, 31] (L' := [(0, .slice A0 l0.length c0), (1, .int .i64 a1), (2, .int .i64 a2), (30, .int .i64 v7), (31, .slice A0 l0.length c0)]) (by kernel_rfl) ?_
          refine WD.pure (i := 5) (v := .int .i64 a2) (by kernel_rfl) (by kernel_rfl) (fun _ => by kernel_rfl) ?_
          refine WD.weaken [0, 1, 2, 30, 31, 32] (L' := [(0, .slice A0 l0.length c0), (1, .int .i64 a1), (2, .int .i64 a2), (30, .int .i64 v7), (31, .slice A0 l0.length c0), (32, .int .i64 a2)]) (by kernel_rfl) ?_
          obtain ⟨v9, e10, H⟩ := bind_ex H
          refine WD.ofP (i := 6) (by kernel_rfl) (PSt.idx (k := .i64) (.tmp 31) (.tmp 32) (by kernel_rfl) (by kernel_rfl) E22 (by kernel_rfl) (by kernel_rfl) (rdS.up R0 hS.sub0) e10 ?_)
          refine WD.weaken [0, 1, 2, 30, 33] (L' := [(0, .slice A0 l0.length c0), (1, .int .i64 a1), (2, .int .i64 a2), (30, .int .i64 v7), (33, .pointer (some (adr A0 a2.toNat 1)))]) (by kernel_rfl) ?_
          refine WD.ofR (i := 7) (by kernel_rfl) (RSt.loadInt (t := 3) (.tmp 33) (by kernel_rfl) (by kernel_rfl) (by kernel_rfl) (by kernel_rfl) (rdS.up R0 hS.sub0) e10 ?_)
          refine WD.weaken [0, 1, 2, 30, 34] (L' := [(0, .slice A0 l0.length c0), (1, .int .i64 a1), (2, .int .i64 a2), (30, .int .i64 v7), (34, .int .i64 v9)]) (by kernel_rfl) ?_
          refine WD.pure (i := 8) (v := .bool (v7 != v9)) (by kernel_rfl) (by kernel_rfl) (fun _ => by kernel_rfl) ?_
          refine WD.weaken [0, 1, 2, 35] (L' := [(0, .slice A0 l0.length c0), (1, .int .i64 a1), (2, .int .i64 a2), (35, .bool (v7 != v9))]) (by kernel_rfl) ?_
          refine WD.nil (by kernel_rfl) ?_
          refine At.go ?_
          refine WC.cond (by kernel_rfl) (v7 != v9) (by kernel_rfl) (by kernel_rfl) (fun hb11 => ?_) (fun hb11 => ?_)
          · replace H := ite_t H hb11
            refine WC.seq (by kernel_rfl) ?_
            refine WC.reg [0] (by kernel_rfl) (by kernel_rfl) ?_
            refine WR.runk [0] [] [6] (L' := [(6, .int .i64 0)]) (w' := w5) (by kernel_rfl) ?_
            refine WR.nil ?_
            refine At.go ?_
            refine WC.ret (by kernel_rfl) ?_
            refine At.thenRet ?_
            obtain rfl := Option.some.inj H
            have hS : Sat w5 (rf w0) [] := hS.sel [] (by kernel_rfl)
            exact At.body [.int .i64 0] (by kernel_rfl) ⟨_, rfl, rfl, hS⟩
          · replace H := ite_f H hb11
            refine WC.skip (by kernel_rfl) ?_
            refine At.go ?_
            refine WC.seq (by kernel_rfl) ?_
            refine WC.reg [0] (by kernel_rfl) (by kernel_rfl) ?_
            refine WR.runk [0] [] [0, 1, 2, 7] (L' := [(0, .slice A0 l0.length c0), (1, .int .i64 a1), (2, .int .i64 a2), (7, .int .i64 1)]) (w' := w5) (by kernel_rfl) ?_
            refine WR.nil ?_
            refine At.go ?_
            refine WC.seq (by kernel_rfl) ?_
            refine WC.seq (by kernel_rfl) ?_
            refine WC.reg [0, 1, 2] (by kernel_rfl) (by kernel_rfl) ?_
            refine WR.runk [0, 1, 2] [] [0, 2, 7, 8] (L' := [(0, .slice A0 l0.length c0), (2, .int .i64 a2), (7, .int .i64 1), (8, .int .i64 (wi (a1 + 1)))]) (w' := w5) (by kernel_rfl) ?_
            refine WR.nil ?_
            refine At.go ?_
            refine WC.block (by kernel_rfl) ?_
            have hS : Sat w5 (rf w0) [] := hS.sel [] (by kernel_rfl)
            obtain ⟨o21, e22, H⟩ := bind_ex H
            refine WC.loop (by kernel_rfl) ?_
            refine WL.weaken [0, 2, 7, 8] (L' := [(0, .slice A0 l0.length c0), (2, .int .i64 a2), (7, .int .i64 1), (8, .int .i64 (wi (a1 + 1)))]) (by kernel_rfl) ?_
            refine colophonref10_Common.l1_ok w0 A0 c0 l0 a2 R0 o21 (fun w24 hS => ?_) FU 1 (wi (a1 + 1)) _ hS e22
            refine At.hit ?_
            refine At.go ?_
            refine WC.seq (by kernel_rfl) ?_
            refine WC.reg [0, 1] (by kernel_rfl) (by kernel_rfl) ?_
            refine WR.runk [0, 1] [] [6] (L' := [(6, .int .i64 o21)]) (w' := w24) (by kernel_rfl) ?_
            refine WR.nil ?_
            refine At.go ?_
            refine WC.ret (by kernel_rfl) ?_
            obtain rfl := Option.some.inj H
            have hS : Sat w24 (rf w0) [] := hS.sel [] (by kernel_rfl)
            exact At.body [.int .i64 o21] (by kernel_rfl) ⟨_, rfl, rfl, hS⟩
/-! ### 26 colophon/colophonref10.Array -/
def colophonref10_Array.l1 (l0 : List Int) (l1 : List Int) : Nat → (List Int) → Int → Option (List Int)
  | 0, _, _ => none
  | k + 1, x5_l1, x10_l1 => (if decide (x10_l1 < (l1.length : Int)) then ((at? l1 x10_l1).bind fun v2 => (if (x10_l1 == 0) then ((app? 17592186044416 x5_l1 ([0] : List Int)).bind fun y8 => colophonref10_Array.l1 l0 l1 k y8 (wi (x10_l1 + 1))) else ((at? l1 (wi (x10_l1 - 1))).bind fun v12 => ((colophonref10_Common.f l0 v12 v2).bind fun r14 => ((app? 17592186044416 x5_l1 ([r14] : List Int)).bind fun y26 => colophonref10_Array.l1 l0 l1 k y26 (wi (x10_l1 + 1))))))) else some x5_l1)
def colophonref10_Array.f (l0 : List Int) (l1 : List Int) : Option (List Int) := ((colophonref10_Array.l1 l0 l1 FU ([] : List Int) 0).bind fun o30 => some o30)
def colophonref10_Array.post (w : World) (r : (List Int)) (v : Value) (w' : World) : Prop := ∃ (A0' : Option Addr) (c0' : Nat), v = (.slice A0' r.length c0' : Value) ∧ Sat w' (rf w) [osl 3 (r0 (.int .i64)) 1 A0' c0' r]
theorem colophonref10_Array.l1_ok {Q} (w0 : World) (A0 : Option Addr) (c0 : Nat) (l0 : List Int) (A1 : Option Addr) (c1 : Nat) (l1 : List Int) (R0 : rdS (r0 (.int .i64)) 1 (hp w0) A0 c0 l0) (R1 : rdS (r0 (.int .i64)) 1 (hp w0) A1 c1 l1) (out : (List Int)) (hn0 : ∀ (A5_q : Option Addr) (c5_q : Nat) (w : World), Sat w (rf w0) [osl 3 (r0 (.int .i64)) 1 A5_q c5_q out] → At Q (.exit 0) 33 [(5, .slice A5_q out.length c5_q)] w) :
    ∀ (k : Nat) (x5_l1 : List Int) (x10_l1 : Int) (A5_l1 : Option Addr) (c5_l1 : Nat) (w : World), Sat w (rf w0) [osl 3 (r0 (.int .i64)) 1 A5_l1 c5_l1 x5_l1] → colophonref10_Array.l1 l0 l1 k x5_l1 x10_l1 = some out → WL Try.prog (cbody (cbody (cr (cl (cr (cr C26)))))) Q 33 [(0, .slice A0 l0.length c0), (1, .slice A1 l1.length c1), (5, .slice A5_l1 x5_l1.length c5_l1), (8, .slice A1 l1.length c1), (9, .int .i64 (l1.length : Int)), (10, .int .i64 x10_l1)] w := by
  intro k
  induction k with
  | zero => intro x5_l1 x10_l1 A5_l1 c5_l1 w hS H; exact absurd (show none = some out from H) (by simp)
  | succ k ih =>
    intro x5_l1 x10_l1 A5_l1 c5_l1 w hS H
    unfold colophonref10_Array.l1 at H
    refine WL.round ?_
    refine WC.seq (by kernel_rfl) ?_
    refine WC.reg [0] (by kernel_rfl) (by kernel_rfl) ?_
    refine WR.runk [0] [] [0, 1, 5, 8, 9, 10, 11] (L' := [(0, .slice A0 l0.length c0), (1, .slice A1 l1.length c1), (5, .slice A5_l1 x5_l1.length c5_l1), (8, .slice A1 l1.length c1), (9, .int .i64 (l1.length : Int)), (10, .int .i64 x10_l1), (11, .bool (decide (x10_l1 < (l1.length : Int))))]) (w' := w) (by kernel_rfl) ?_
    refine WR.nil ?_
    refine At.go ?_
    refine WC.seq (by kernel_rfl) ?_
    refine WC.cond (by kernel_rfl) (decide (x10_l1 < (l1.length : Int))) (by kernel_rfl) (by kernel_rfl) (fun hb1 => ?_) (fun hb1 => ?_)
    · replace H := ite_t H hb1
      refine WC.skip (by kernel_rfl) ?_
      refine At.go ?_
      refine WC.seq (by kernel_rfl) ?_
      refine WC.block (by kernel_rfl) ?_
      refine WC.seq (by kernel_rfl) ?_
      refine WC.reg [0, 1, 2, 3, 4] (by kernel_rfl) (by kernel_rfl) ?_
      refine WR.runk [0] [1, 2, 3, 4] [0, 1, 5, 8, 9, 10, 12] (L' := [(0, .slice A0 l0.length c0), (1, .slice A1 l1.length c1), (5, .slice A5_l1 x5_l1.length c5_l1), (8, .slice A1 l1.length c1), (9, .int .i64 (l1.length : Int)), (10, .int .i64 x10_l1), (12, .int .i64 x10_l1)]) (w' := w) (by kernel_rfl) ?_
      obtain ⟨v2, e3, H⟩ := bind_ex H
      refine WR.st (St.ofP (PSt.idx (k := .i64) (.tmp 8) (.tmp 10) (by kernel_rfl) (by kernel_rfl) E22 (by kernel_rfl) (by kernel_rfl) (rdS.up R1 hS.sub0) e3 ?_))
      refine WR.runk [] [2, 3, 4] [0, 1, 5, 8, 9, 10, 12, 13] (L' := [(0, .slice A0 l0.length c0), (1, .slice A1 l1.length c1), (5, .slice A5_l1 x5_l1.length c5_l1), (8, .slice A1 l1.length c1), (9, .int .i64 (l1.length : Int)), (10, .int .i64 x10_l1), (12, .int .i64 x10_l1), (13, .pointer (some (adr A1 x10_l1.toNat 1)))]) (w' := w) (by kernel_rfl) ?_
      refine WR.st (St.ofR (RSt.loadInt (t := 3) (.tmp 13) (by kernel_rfl) (by kernel_rfl) (by kernel_rfl) (by kernel_rfl) (rdS.up R1 hS.sub0) e3 ?_))
      refine WR.runk [3, 4] [] [0, 1, 5, 6, 7, 8, 9, 10] (L' := [(0, .slice A0 l0.length c0), (1, .slice A1 l1.length c1), (5, .slice A5_l1 x5_l1.length c5_l1), (6, .int .i64 x10_l1), (7, .int .i64 v2), (8, .slice A1 l1.length c1), (9, .int .i64 (l1.length : Int)), (10, .int .i64 x10_l1)]) (w' := w) (by kernel_rfl) ?_
      refine WR.nil ?_
      refine At.go ?_
      refine WC.seq (by kernel_rfl) ?_
      refine WC.reg [0, 1] (by kernel_rfl) (by kernel_rfl) ?_
      refine WR.runk [0, 1] [] [0, 1, 5, 6, 7, 8, 9, 10, 16] (L' := [(0, .slice A0 l0.length c0), (1, .slice A1 l1.length c1), (5, .slice A5_l1 x5_l1.length c5_l1), (6, .int .i64 x10_l1), (7, .int .i64 v2), (8, .slice A1 l1.length c1), (9, .int .i64 (l1.length : Int)), (10, .int .i64 x10_l1), (16, .bool (x10_l1 == 0))]) (w' := w) (by kernel_rfl) ?_
      refine WR.nil ?_
      refine At.go ?_
      refine WC.cond (by kernel_rfl) (x10_l1 == 0) (by kernel_rfl) (by kernel_rfl) (fun hb4 => ?_) (fun hb4 => ?_)
      · replace H := ite_t H hb4
        refine WC.reg [0, 1, 2, 3] (by kernel_rfl) (by kernel_rfl) ?_
        refine WR.runk [0] [1, 2, 3] [0, 1, 5, 8, 9, 10, 17] (L' := [(0, .slice A0 l0.length c0), (1, .slice A1 l1.length c1), (5, .slice A5_l1 x5_l1.length c5_l1), (8, .slice A1 l1.length c1), (9, .int .i64 (l1.length : Int)), (10, .int .i64 x10_l1), (17, .slice A5_l1 x5_l1.length c5_l1)]) (w' := w) (by kernel_rfl) ?_
        refine WR.st (St.box hS (by kernel_rfl) (.cells #[.int .i64 0] 3) (fun b5 => .slice (some ⟨b5, 0, none⟩) 1 1) (fun _ => by kernel_rfl) (fun b5 w6 hS => ?_))
        refine WR.runk [] [2, 3] [0, 1, 5, 8, 9, 10, 17, 18] (L' := [(0, .slice A0 l0.length c0), (1, .slice A1 l1.length c1), (5, .slice A5_l1 x5_l1.length c5_l1), (8, .slice A1 l1.length c1), (9, .int .i64 (l1.length : Int)), (10, .int .i64 x10_l1), (17, .slice A5_l1 x5_l1.length c5_l1), (18, .slice (some ⟨b5, 0, none⟩) 1 1)]) (w' := w6) (by kernel_rfl) ?_
        have hS : Sat w6 (rf w0) [osl 3 (r0 (.int .i64)) 1 A5_l1 c5_l1 x5_l1, pts b5 (.cells #[.int .i64 0] 3 (0, 0))] := hS.sel [1, 0] (by kernel_rfl)
        obtain ⟨y8, e7, H⟩ := bind_ex H
        refine WR.st (St.append' (.tmp 17) (.tmp 18) (by kernel_rfl) (by kernel_rfl) E22 (r0_one _) hS (by kernel_rfl) (by kernel_rfl) (Sat.ptsAt 1 (r0 (.int .i64)) 1 ([0] : List Int) hS rfl rfl (rdL.cons1 rfl (rdL.nil _ _))) 17592186044416 (by kernel_rfl) (by kernel_rfl) e7 (fun A9 c10 w11 hS => ?_))
        refine WR.runk [3] [] [0, 1, 5, 8, 9, 10] (L' := [(0, .slice A0 l0.length c0), (1, .slice A1 l1.length c1), (5, .slice A9 y8.length c10), (8, .slice A1 l1.length c1), (9, .int .i64 (l1.length : Int)), (10, .int .i64 x10_l1)]) (w' := w11) (by kernel_rfl) ?_
        refine WR.nil ?_
        refine At.blockNormal ?_
        refine At.go ?_
        refine WC.reg [0, 1] (by kernel_rfl) (by kernel_rfl) ?_
        refine WR.runk [0, 1] [] [0, 1, 5, 8, 9, 10] (L' := [(0, .slice A0 l0.length c0), (1, .slice A1 l1.length c1), (5, .slice A9 y8.length c10), (8, .slice A1 l1.length c1), (9, .int .i64 (l1.length : Int)), (10, .int .i64 (wi (x10_l1 + 1)))]) (w' := w11) (by kernel_rfl) ?_
        refine WR.nil ?_
        have hS : Sat w11 (rf w0) [osl 3 (r0 (.int .i64)) 1 A9 c10 y8] := hS.sel [0] (by kernel_rfl)
        refine At.again ?_
        refine WL.weaken [0, 1, 5, 8, 9, 10] (L' := [(0, .slice A0 l0.length c0), (1, .slice A1 l1.length c1), (5, .slice A9 y8.length c10), (8, .slice A1 l1.length c1), (9, .int .i64 (l1.length : Int)), (10, .int .i64 (wi (x10_l1 + 1)))]) (by kernel_rfl) ?_
        exact ih y8 (wi (x10_l1 + 1)) A9 c10 _ hS H
      · replace H := ite_f H hb4
        refine WC.reg [0, 1, 2, 3, 4, 5, 6, 7, 8, 9, 10, 11] (by kernel_rfl) (by kernel_rfl) ?_
        refine WR.runk [0, 1, 2, 3, 4] [5, 6, 7, 8, 9, 10, 11] [0, 1, 5, 7, 8, 9, 10, 20, 21, 22, 24] (L' := [(0, .slice A0 l0.length c0), (1, .slice A1 l1.length c1), (5, .slice A5_l1 x5_l1.length c5_l1), (7, .int .i64 v2), (8, .slice A1 l1.length c1), (9, .int .i64 (l1.length : Int)), (10, .int .i64 x10_l1), (20, .slice A5_l1 x5_l1.length c5_l1), (21, .slice A0 l0.length c0), (22, .slice A1 l1.length c1), (24, .int .i64 (wi (x10_l1 - 1)))]) (w' := w) (by kernel_rfl) ?_
        obtain ⟨v12, e13, H⟩ := bind_ex H
        refine WR.st (St.ofP (PSt.idx (k := .i64) (.tmp 22) (.tmp 24) (by kernel_rfl) (by kernel_rfl) E22 (by kernel_rfl) (by kernel_rfl) (rdS.up R1 hS.sub0) e13 ?_))
        refine WR.runk [] [6, 7, 8, 9, 10, 11] [0, 1, 5, 7, 8, 9, 10, 20, 21, 25] (L' := [(0, .slice A0 l0.length c0), (1, .slice A1 l1.length c1), (5, .slice A5_l1 x5_l1.length c5_l1), (7, .int .i64 v2), (8, .slice A1 l1.length c1), (9, .int .i64 (l1.length : Int)), (10, .int .i64 x10_l1), (20, .slice A5_l1 x5_l1.length c5_l1), (21, .slice A0 l0.length c0), (25, .pointer (some (adr A1 (wi (x10_l1 - 1)).toNat 1)))]) (w' := w) (by kernel_rfl) ?_
        refine WR.st (St.ofR (RSt.loadInt (t := 3) (.tmp 25) (by kernel_rfl) (by kernel_rfl) (by kernel_rfl) (by kernel_rfl) (rdS.up R1 hS.sub0) e13 ?_))
        refine WR.runk [7] [8, 9, 10, 11] [0, 1, 5, 8, 9, 10, 20, 21, 26, 27] (L' := [(0, .slice A0 l0.length c0), (1, .slice A1 l1.length c1), (5, .slice A5_l1 x5_l1.length c5_l1), (8, .slice A1 l1.length c1), (9, .int .i64 (l1.length : Int)), (10, .int .i64 x10_l1), (20, .slice A5_l1 x5_l1.length c5_l1), (21, .slice A0 l0.length c0), (26, .int .i64 v12), (27, .int .i64 v2)]) (w' := w) (by kernel_rfl) ?_
        obtain ⟨r14, e15, H⟩ := bind_ex H
        refine WR.st (St.call (by kernel_rfl) (f := 41) (args := #[.slice A0 l0.length c0, .int .i64 v12, .int .i64 v2]) (by kernel_rfl) (colophonref10_Common.calls w A0 c0 l0 (rdS.up R0 hS.sub0) v12 v2 r14 e15) ?_)
        rintro _ w21 ⟨rfl, hS22⟩
        have hS : Sat w21 (rf w0) [osl 3 (r0 (.int .i64)) 1 A5_l1 c5_l1 x5_l1] := hS.ext hS22
        refine WR.runk [] [9, 10, 11] [0, 1, 5, 8, 9, 10, 20, 28] (L' := [(0, .slice A0 l0.length c0), (1, .slice A1 l1.length c1), (5, .slice A5_l1 x5_l1.length c5_l1), (8, .slice A1 l1.length c1), (9, .int .i64 (l1.length : Int)), (10, .int .i64 x10_l1), (20, .slice A5_l1 x5_l1.length c5_l1), (28, .int .i64 r14)]) (w' := w21) (by kernel_rfl) ?_
        refine WR.st (St.box hS (by kernel_rfl) (.cells #[.int .i64 r14] 3) (fun b23 => .slice (some ⟨b23, 0, none⟩) 1 1) (fun _ => by kernel_rfl) (fun b23 w24 hS => ?_))
        refine WR.runk [] [10, 11] [0, 1, 5, 8, 9, 10, 20, 29] (L' := [(0, .slice A0 l0.length c0), (1, .slice A1 l1.length c1), (5, .slice A5_l1 x5_l1.length c5_l1), (8, .slice A1 l1.length c1), (9, .int .i64 (l1.length : Int)), (10, .int .i64 x10_l1), (20, .slice A5_l1 x5_l1.length c5_l1), (29, .slice (some ⟨b23, 0, none⟩) 1 1)]) (w' := w24) (by kernel_rfl) ?_
        have hS : Sat w24 (rf w0) [osl 3 (r0 (.int .i64)) 1 A5_l1 c5_l1 x5_l1, pts b23 (.cells #[.int .i64 r14] 3 (0, 0))] := hS.sel [1, 0] (by kernel_rfl)
        obtain ⟨y26, e25, H⟩ := bind_ex H
        refine WR.st (St.append' (.tmp 20) (.tmp 29) (by kernel_rfl) (by kernel_rfl) E22 (r0_one _) hS (by kernel_rfl) (by kernel_rfl) (Sat.ptsAt 1 (r0 (.int .i64)) 1 ([r14] : List Int) hS rfl rfl (rdL.cons1 rfl (rdL.nil _ _))) 17592186044416 (by kernel_rfl) (by kernel_rfl) e25 (fun A27 c28 w29 hS => ?_))
        refine WR.runk [11] [] [0, 1, 5, 8, 9, 10] (L' := [(0, .slice A0 l0.length c0), (1, .slice A1 l1.length c1), (5, .slice A27 y26.length c28), (8, .slice A1 l1.length c1), (9, .int .i64 (l1.length : Int)), (10, .int .i64 x10_l1)]) (w' := w29) (by kernel_rfl) ?_
        refine WR.nil ?_
        refine At.blockNormal ?_
        refine At.go ?_
        refine WC.reg [0, 1] (by kernel_rfl) (by kernel_rfl) ?_
        refine WR.runk [0, 1] [] [0, 1, 5, 8, 9, 10] (L' := [(0, .slice A0 l0.length c0), (1, .slice A1 l1.length c1), (5, .slice A27 y26.length c28), (8, .slice A1 l1.length c1), (9, .int .i64 (l1.length : Int)), (10, .int .i64 (wi (x10_l1 + 1)))]) (w' := w29) (by kernel_rfl) ?_
        refine WR.nil ?_
        have hS : Sat w29 (rf w0) [osl 3 (r0 (.int .i64)) 1 A27 c28 y26] := hS.sel [0] (by kernel_rfl)
        refine At.again ?_
        refine WL.weaken [0, 1, 5, 8, 9, 10] (L' := [(0, .slice A0 l0.length c0), (1, .slice A1 l1.length c1), (5, .slice A27 y26.length c28), (8, .slice A1 l1.length c1), (9, .int .i64 (l1.length : Int)), (10, .int .i64 (wi (x10_l1 + 1)))]) (by kernel_rfl) ?_
        exact ih y26 (wi (x10_l1 + 1)) A27 c28 _ hS H
    · replace H := ite_f H hb1
      refine WC.exit (by kernel_rfl) ?_
      refine At.thenExit ?_
      refine At.thenExit ?_
      obtain rfl := Option.some.inj H
      have hS : Sat w (rf w0) [osl 3 (r0 (.int .i64)) 1 A5_l1 c5_l1 x5_l1] := hS.sel [0] (by kernel_rfl)
      refine At.weaken [5] (L' := [(5, .slice A5_l1 x5_l1.length c5_l1)]) (by kernel_rfl) ?_
      exact hn0 A5_l1 c5_l1 _ hS
theorem colophonref10_Array.calls (w0 : World) (A0 : Option Addr) (c0 : Nat) (l0 : List Int) (R0 : rdS (r0 (.int .i64)) 1 (hp w0) A0 c0 l0) (A1 : Option Addr) (c1 : Nat) (l1 : List Int) (R1 : rdS (r0 (.int .i64)) 1 (hp w0) A1 c1 l1) (r : (List Int)) (H : colophonref10_Array.f l0 l1 = some r) :
    Calls Try.prog 26 #[.slice A0 l0.length c0, .slice A1 l1.length c1] w0 (fun e w' => ∃ v, e = .returned v ∧ colophonref10_Array.post w0 r v w') := by
  have hS : Sat w0 (rf w0) [] := Sat.start w0
  unfold colophonref10_Array.f at H
  refine calls_of_WC (vs := [.slice A0 l0.length c0, .slice A1 l1.length c1]) Try.func26 (c := C26) (n := 33) (by kernel_rfl) (by kernel_rfl) (by kernel_rfl) ?_
  refine WC.seq (by kernel_rfl) ?_
  refine WC.reg [0] (by kernel_rfl) (by kernel_rfl) ?_
  refine WR.runk [0] [] [0, 1] (L' := [(0, .slice A0 l0.length c0), (1, .slice A1 l1.length c1)]) (w' := w0) (by kernel_rfl) ?_
  refine WR.nil ?_
  refine At.go ?_
  refine WC.seq (by kernel_rfl) ?_
  refine WC.reg [0] (by kernel_rfl) (by kernel_rfl) ?_
  refine WR.runk [0] [] [0, 1, 5] (L' := [(0, .slice A0 l0.length c0), (1, .slice A1 l1.length c1), (5, .slice none 0 0)]) (w' := w0) (by kernel_rfl) ?_
  refine WR.nil ?_
  refine At.go ?_
  refine WC.seq (by kernel_rfl) ?_
  refine WC.seq (by kernel_rfl) ?_
  refine WC.reg [0, 1, 2] (by kernel_rfl) (by kernel_rfl) ?_
  refine WR.runk [0, 1, 2] [] [0, 1, 5, 8, 9, 10] (L' := [(0, .slice A0 l0.length c0), (1, .slice A1 l1.length c1), (5, .slice none 0 0), (8, .slice A1 l1.length c1), (9, .int .i64 (l1.length : Int)), (10, .int .i64 0)]) (w' := w0) (by kernel_rfl) ?_
  refine WR.nil ?_
  refine At.go ?_
  refine WC.block (by kernel_rfl) ?_
  have hS := hS.addNil (α := Int) 3 (r0 (.int .i64)) 1
  have hS : Sat w0 (rf w0) [osl 3 (r0 (.int .i64)) 1 none 0 ([] : List Int)] := hS.sel [0] (by kernel_rfl)
  obtain ⟨o30, e31, H⟩ := bind_ex H
  refine WC.loop (by kernel_rfl) ?_
  refine WL.weaken [0, 1, 5, 8, 9, 10] (L' := [(0, .slice A0 l0.length c0), (1, .slice A1 l1.length c1), (5, .slice none 0 0), (8, .slice A1 l1.length c1), (9, .int .i64 (l1.length : Int)), (10, .int .i64 0)]) (by kernel_rfl) ?_
  refine colophonref10_Array.l1_ok w0 A0 c0 l0 A1 c1 l1 R0 R1 o30 (fun A5_q32 c5_q32 w33 hS => ?_) FU ([] : List Int) 0 none 0 _ hS e31
  refine At.hit ?_
  refine At.go ?_
  refine WC.seq (by kernel_rfl) ?_
  refine WC.reg [0, 1] (by kernel_rfl) (by kernel_rfl) ?_
  refine WR.runk [0, 1] [] [4] (L' := [(4, .slice A5_q32 o30.length c5_q32)]) (w' := w33) (by kernel_rfl) ?_
  refine WR.nil ?_
  refine At.go ?_
  refine WC.ret (by kernel_rfl) ?_
  obtain rfl := Option.some.inj H
  have hS : Sat w33 (rf w0) [osl 3 (r0 (.int .i64)) 1 A5_q32 c5_q32 o30] := hS.sel [0] (by kernel_rfl)
  exact At.body [.slice A5_q32 o30.length c5_q32] (by kernel_rfl) ⟨_, rfl, _, _, rfl, hS⟩
/-! ### 13 colophon/colophonlaw16.Parts -/
def colophonlaw16_Parts.l1 (l0 : List (List Int)) (r12 : (List Int)) : Nat → (List Int) → Int → Option (List Int)
  | 0, _, _ => none
  | k + 1, x7_l1, x18_l1 => (if decide (x18_l1 < (r12.length : Int)) then ((at? r12 x18_l1).bind fun v24 => ((colophonref08_Doc.f l0 v24).bind fun r26 => ((app? 17592186044416 x7_l1 ([r26.1] : List Int)).bind fun y38 => colophonlaw16_Parts.l1 l0 r12 k y38 (wi (x18_l1 + 1))))) else some x7_l1)
def colophonlaw16_Parts.f (l0 : List (List Int)) : Option ((List Int) × (List Int) × (List Int)) := ((colophonref08_Symbols.f l0).bind fun r1 => ((colophonref09_Array.f r1).bind fun r12 => ((colophonlaw16_Parts.l1 l0 r12 FU ([] : List Int) 0).bind fun o42 => ((colophonref10_Array.f r1 r12).bind fun r47 => some (o42, r47, r12)))))
def colophonlaw16_Parts.post (w : World) (r : (List Int) × (List Int) × (List Int)) (v : Value) (w' : World) : Prop := ∃ (A0' : Option Addr) (c0' : Nat), ∃ (A1' : Option Addr) (c1' : Nat), ∃ (A2' : Option Addr) (c2' : Nat), v = .tuple #[.slice A0' r.1.length c0', .slice A1' r.2.1.length c1', .slice A2' r.2.2.length c2'] ∧ Sat w' (rf w) [osl 3 (r0 (.int .i64)) 1 A0' c0' r.1, osl 3 (r0 (.int .i64)) 1 A1' c1' r.2.1, osl 3 (r0 (.int .i64)) 1 A2' c2' r.2.2]
theorem colophonlaw16_Parts.l1_ok {Q} (w0 : World) (A0 : Option Addr) (c0 : Nat) (l0 : List (List Int)) (r1 : (List Int)) (A10 : Option Addr) (c11 : Nat) (r12 : (List Int)) (A21 : Option Addr) (c22 : Nat) (R0 : rdS (rd (hp w0) (.slice 5 (.int .u8))) 1 (hp w0) A0 c0 l0) (out : (List Int)) (hn0 : ∀ (A7_q : Option Addr) (c7_q : Nat) (w : World), Sat w (rf w0) [osl 3 (r0 (.int .i64)) 1 A10 c11 r1, osl 3 (r0 (.int .i64)) 1 A21 c22 r12, osl 3 (r0 (.int .i64)) 1 A7_q c7_q out] → At Q (.exit 0) 38 [(5, .slice A10 r1.length c11), (6, .slice A21 r12.length c22), (7, .slice A7_q out.length c7_q)] w) :
    ∀ (k : Nat) (x7_l1 : List Int) (x18_l1 : Int) (A7_l1 : Option Addr) (c7_l1 : Nat) (w : World), Sat w (rf w0) [osl 3 (r0 (.int .i64)) 1 A10 c11 r1, osl 3 (r0 (.int .i64)) 1 A21 c22 r12, osl 3 (r0 (.int .i64)) 1 A7_l1 c7_l1 x7_l1] → colophonlaw16_Parts.l1 l0 r12 k x7_l1 x18_l1 = some out → WL Try.prog (cbody (cbody (cr (cl (cr (cr (cr (cr C13)))))))) Q 38 [(0, .slice A0 l0.length c0), (5, .slice A10 r1.length c11), (6, .slice A21 r12.length c22), (7, .slice A7_l1 x7_l1.length c7_l1), (16, .slice A21 r12.length c22), (17, .int .i64 (r12.length : Int)), (18, .int .i64 x18_l1)] w := by
  intro k
  induction k with
  | zero => intro x7_l1 x18_l1 A7_l1 c7_l1 w hS H; exact absurd (show none = some out from H) (by simp)
  | succ k ih =>
    intro x7_l1 x18_l1 A7_l1 c7_l1 w hS H
    unfold colophonlaw16_Parts.l1 at H
    refine WL.round ?_
    refine WC.seq (by kernel_rfl) ?_
    refine WC.reg [0] (by kernel_rfl) (by kernel_rfl) ?_
    refine WR.runk [0] [] [0, 5, 6, 7, 16, 17, 18, 19] (L' := [(0, .slice A0 l0.length c0), (5, .slice A10 r1.length c11), (6, .slice A21 r12.length c22), (7, .slice A7_l1 x7_l1.length c7_l1), (16, .slice A21 r12.length c22), (17, .int .i64 (r12.length : Int)), (18, .int .i64 x18_l1), (19, .bool (decide (x18_l1 < (r12.length : Int))))]) (w' := w) (by kernel_rfl) ?_
    refine WR.nil ?_
    refine At.go ?_
    refine WC.seq (by kernel_rfl) ?_
    refine WC.cond (by kernel_rfl) (decide (x18_l1 < (r12.length : Int))) (by kernel_rfl) (by kernel_rfl) (fun hb23 => ?_) (fun hb23 => ?_)
    · replace H := ite_t H hb23
      refine WC.skip (by kernel_rfl) ?_
      refine At.go ?_
      refine WC.seq (by kernel_rfl) ?_
      refine WC.block (by kernel_rfl) ?_
      refine WC.seq (by kernel_rfl) ?_
      refine WC.reg [0, 1, 2] (by kernel_rfl) (by kernel_rfl) ?_
      refine WR.runk [] [0, 1, 2] [0, 5, 6, 7, 16, 17, 18] (L' := [(0, .slice A0 l0.length c0), (5, .slice A10 r1.length c11), (6, .slice A21 r12.length c22), (7, .slice A7_l1 x7_l1.length c7_l1), (16, .slice A21 r12.length c22), (17, .int .i64 (r12.length : Int)), (18, .int .i64 x18_l1)]) (w' := w) (by kernel_rfl) ?_
      obtain ⟨v24, e25, H⟩ := bind_ex H
      refine WR.st (St.ofP (PSt.idx (k := .i64) (.tmp 16) (.tmp 18) (by kernel_rfl) (by kernel_rfl) E22 (by kernel_rfl) (by kernel_rfl) (Sat.rdAt 1 hS rfl) e25 ?_))
      refine WR.runk [] [1, 2] [0, 5, 6, 7, 16, 17, 18, 20] (L' := [(0, .slice A0 l0.length c0), (5, .slice A10 r1.length c11), (6, .slice A21 r12.length c22), (7, .slice A7_l1 x7_l1.length c7_l1), (16, .slice A21 r12.length c22), (17, .int .i64 (r12.length : Int)), (18, .int .i64 x18_l1), (20, .pointer (some (adr A21 x18_l1.toNat 1)))]) (w' := w) (by kernel_rfl) ?_
      refine WR.st (St.ofR (RSt.loadInt (t := 3) (.tmp 20) (by kernel_rfl) (by kernel_rfl) (by kernel_rfl) (by kernel_rfl) (Sat.rdAt 1 hS rfl) e25 ?_))
      refine WR.runk [2] [] [0, 5, 6, 7, 9, 16, 17, 18] (L' := [(0, .slice A0 l0.length c0), (5, .slice A10 r1.length c11), (6, .slice A21 r12.length c22), (7, .slice A7_l1 x7_l1.length c7_l1), (9, .int .i64 v24), (16, .slice A21 r12.length c22), (17, .int .i64 (r12.length : Int)), (18, .int .i64 x18_l1)]) (w' := w) (by kernel_rfl) ?_
      refine WR.nil ?_
      refine At.go ?_
      refine WC.seq (by kernel_rfl) ?_
      refine WC.reg [0, 1, 2, 3, 4, 5, 6, 7] (by kernel_rfl) (by kernel_rfl) ?_
      refine WR.runk [0, 1] [2, 3, 4, 5, 6, 7] [0, 5, 6, 7, 16, 17, 18, 23, 24] (L' := [(0, .slice A0 l0.length c0), (5, .slice A10 r1.length c11), (6, .slice A21 r12.length c22), (7, .slice A7_l1 x7_l1.length c7_l1), (16, .slice A21 r12.length c22), (17, .int .i64 (r12.length : Int)), (18, .int .i64 x18_l1), (23, .slice A0 l0.length c0), (24, .int .i64 v24)]) (w' := w) (by kernel_rfl) ?_
      obtain ⟨r26, e27, H⟩ := bind_ex H
      refine WR.st (St.call (by kernel_rfl) (f := 25) (args := #[.slice A0 l0.length c0, .int .i64 v24]) (by kernel_rfl) (colophonref08_Doc.calls w A0 c0 l0 (rdS.upd R0 hS.sub0) v24 r26 e27) ?_)
      rintro _ w33 ⟨rfl, hS34⟩
      have hS : Sat w33 (rf w0) [osl 3 (r0 (.int .i64)) 1 A10 c11 r1, osl 3 (r0 (.int .i64)) 1 A21 c22 r12, osl 3 (r0 (.int .i64)) 1 A7_l1 c7_l1 x7_l1] := hS.ext hS34
      refine WR.runk [3, 4, 5, 6, 7] [] [0, 5, 6, 7, 10, 16, 17, 18] (L' := [(0, .slice A0 l0.length c0), (5, .slice A10 r1.length c11), (6, .slice A21 r12.length c22), (7, .slice A7_l1 x7_l1.length c7_l1), (10, .int .i64 r26.1), (16, .slice A21 r12.length c22), (17, .int .i64 (r12.length : Int)), (18, .int .i64 x18_l1)]) (w' := w33) (by kernel_rfl) ?_
      refine WR.nil ?_
      refine At.go ?_
      refine WC.reg [0, 1, 2, 3, 4] (by kernel_rfl) (by kernel_rfl) ?_
      refine WR.runk [0, 1] [2, 3, 4] [0, 5, 6, 7, 16, 17, 18, 28, 29] (L' := [(0, .slice A0 l0.length c0), (5, .slice A10 r1.length c11), (6, .slice A21 r12.length c22), (7, .slice A7_l1 x7_l1.length c7_l1), (16, .slice A21 r12.length c22), (17, .int .i64 (r12.length : Int)), (18, .int .i64 x18_l1), (28, .slice A7_l1 x7_l1.length c7_l1), (29, .int .i64 r26.1)]) (w' := w33) (by kernel_rfl) ?_
      refine WR.st (St.box hS (by kernel_rfl) (.cells #[.int .i64 r26.1] 3) (fun b35 => .slice (some ⟨b35, 0, none⟩) 1 1) (fun _ => by kernel_rfl) (fun b35 w36 hS => ?_))
      refine WR.runk [] [3, 4] [0, 5, 6, 7, 16, 17, 18, 28, 30] (L' := [(0, .slice A0 l0.length c0), (5, .slice A10 r1.length c11), (6, .slice A21 r12.length c22), (7, .slice A7_l1 x7_l1.length c7_l1), (16, .slice A21 r12.length c22), (17, .int .i64 (r12.length : Int)), (18, .int .i64 x18_l1), (28, .slice A7_l1 x7_l1.length c7_l1), (30, .slice (some ⟨b35, 0, none⟩) 1 1)]) (w' := w36) (by kernel_rfl) ?_
      have hS : Sat w36 (rf w0) [osl 3 (r0 (.int .i64)) 1 A7_l1 c7_l1 x7_l1, pts b35 (.cells #[.int .i64 r26.1] 3 (0, 0)), osl 3 (r0 (.int .i64)) 1 A10 c11 r1, osl 3 (r0 (.int .i64)) 1 A21 c22 r12] := hS.sel [3, 0, 1, 2] (by kernel_rfl)
      obtain ⟨y38, e37, H⟩ := bind_ex H
      refine WR.st (St.append' (.tmp 28) (.tmp 30) (by kernel_rfl) (by kernel_rfl) E22 (r0_one _) hS (by kernel_rfl) (by kernel_rfl) (Sat.ptsAt 1 (r0 (.int .i64)) 1 ([r26.1] : List Int) hS rfl rfl (rdL.cons1 rfl (rdL.nil _ _))) 17592186044416 (by kernel_rfl) (by kernel_rfl) e37 (fun A39 c40 w41 hS => ?_))
      refine WR.runk [4] [] [0, 5, 6, 7, 16, 17, 18] (L' := [(0, .slice A0 l0.length c0), (5, .slice A10 r1.length c11), (6, .slice A21 r12.length c22), (7, .slice A39 y38.length c40), (16, .slice A21 r12.length c22), (17, .int .i64 (r12.length : Int)), (18, .int .i64 x18_l1)]) (w' := w41) (by kernel_rfl) ?_
      refine WR.nil ?_
      refine At.blockNormal ?_
      refine At.go ?_
      refine WC.reg [0, 1] (by kernel_rfl) (by kernel_rfl) ?_
      refine WR.runk [0, 1] [] [0, 5, 6, 7, 16, 17, 18] (L' := [(0, .slice A0 l0.length c0), (5, .slice A10 r1.length c11), (6, .slice A21 r12.length c22), (7, .slice A39 y38.length c40), (16, .slice A21 r12.length c22), (17, .int .i64 (r12.length : Int)), (18, .int .i64 (wi (x18_l1 + 1)))]) (w' := w41) (by kernel_rfl) ?_
      refine WR.nil ?_
      have hS : Sat w41 (rf w0) [osl 3 (r0 (.int .i64)) 1 A10 c11 r1, osl 3 (r0 (.int .i64)) 1 A21 c22 r12, osl 3 (r0 (.int .i64)) 1 A39 c40 y38] := hS.sel [2, 3, 0] (by kernel_rfl)
      refine At.again ?_
      refine WL.weaken [0, 5, 6, 7, 16, 17, 18] (L' := [(0, .slice A0 l0.length c0), (5, .slice A10 r1.length c11), (6, .slice A21 r12.length c22), (7, .slice A39 y38.length c40), (16, .slice A21 r12.length c22), (17, .int .i64 (r12.length : Int)), (18, .int .i64 (wi (x18_l1 + 1)))]) (by kernel_rfl) ?_
      exact ih y38 (wi (x18_l1 + 1)) A39 c40 _ hS H
    · replace H := ite_f H hb23
      refine WC.exit (by kernel_rfl) ?_
      refine At.thenExit ?_
      refine At.thenExit ?_
      obtain rfl := Option.some.inj H
      have hS : Sat w (rf w0) [osl 3 (r0 (.int .i64)) 1 A10 c11 r1, osl 3 (r0 (.int .i64)) 1 A21 c22 r12, osl 3 (r0 (.int .i64)) 1 A7_l1 c7_l1 x7_l1] := hS.sel [0, 1, 2] (by kernel_rfl)
      refine At.weaken [5, 6, 7] (L' := [(5, .slice A10 r1.length c11), (6, .slice A21 r12.length c22), (7, .slice A7_l1 x7_l1.length c7_l1)]) (by kernel_rfl) ?_
      exact hn0 A7_l1 c7_l1 _ hS
theorem colophonlaw16_Parts.calls (w0 : World) (A0 : Option Addr) (c0 : Nat) (l0 : List (List Int)) (R0 : rdS (rd (hp w0) (.slice 5 (.int .u8))) 1 (hp w0) A0 c0 l0) (r : (List Int) × (List Int) × (List Int)) (H : colophonlaw16_Parts.f l0 = some r) :
    Calls Try.prog 13 #[.slice A0 l0.length c0] w0 (fun e w' => ∃ v, e = .returned v ∧ colophonlaw16_Parts.post w0 r v w') := by
  have hS : Sat w0 (rf w0) [] := Sat.start w0
  unfold colophonlaw16_Parts.f at H
  refine calls_of_WC (vs := [.slice A0 l0.length c0]) Try.func13 (c := C13) (n := 38) (by kernel_rfl) (by kernel_rfl) (by kernel_rfl) ?_
  refine WC.seq (by kernel_rfl) ?_
  refine WC.reg [0, 1, 2] (by kernel_rfl) (by kernel_rfl) ?_
  refine WR.runk [0, 1, 2] [] [0] (L' := [(0, .slice A0 l0.length c0)]) (w' := w0) (by kernel_rfl) ?_
  refine WR.nil ?_
  refine At.go ?_
  refine WC.seq (by kernel_rfl) ?_
  refine WC.reg [0, 1, 2] (by kernel_rfl) (by kernel_rfl) ?_
  refine WR.runk [0] [1, 2] [0, 12] (L' := [(0, .slice A0 l0.length c0), (12, .slice A0 l0.length c0)]) (w' := w0) (by kernel_rfl) ?_
  obtain ⟨r1, e2, H⟩ := bind_ex H
  refine WR.st (St.call (by kernel_rfl) (f := 15) (args := #[.slice A0 l0.length c0]) (by kernel_rfl) (colophonref08_Symbols.calls w0 A0 c0 l0 (rdS.upd R0 hS.sub0) r1 e2) ?_)
  rintro _ w8 ⟨A10, c11, rfl, hS9⟩
  have hS : Sat w8 (rf w0) [osl 3 (r0 (.int .i64)) 1 A10 c11 r1] := hS.ext hS9
  refine WR.runk [2] [] [0, 5] (L' := [(0, .slice A0 l0.length c0), (5, .slice A10 r1.length c11)]) (w' := w8) (by kernel_rfl) ?_
  refine WR.nil ?_
  refine At.go ?_
  refine WC.seq (by kernel_rfl) ?_
  refine WC.reg [0, 1, 2] (by kernel_rfl) (by kernel_rfl) ?_
  refine WR.runk [0] [1, 2] [0, 5, 14] (L' := [(0, .slice A0 l0.length c0), (5, .slice A10 r1.length c11), (14, .slice A10 r1.length c11)]) (w' := w8) (by kernel_rfl) ?_
  obtain ⟨r12, e13, H⟩ := bind_ex H
  refine WR.st (St.call (by kernel_rfl) (f := 24) (args := #[.slice A10 r1.length c11]) (by kernel_rfl) (colophonref09_Array.calls w8 A10 c11 r1 (Sat.rdAt 0 hS rfl) r12 e13) ?_)
  rintro _ w19 ⟨A21, c22, rfl, hS20⟩
  have hS : Sat w19 (rf w0) [osl 3 (r0 (.int .i64)) 1 A21 c22 r12, osl 3 (r0 (.int .i64)) 1 A10 c11 r1] := hS.ext hS20
  refine WR.runk [2] [] [0, 5, 6] (L' := [(0, .slice A0 l0.length c0), (5, .slice A10 r1.length c11), (6, .slice A21 r12.length c22)]) (w' := w19) (by kernel_rfl) ?_
  refine WR.nil ?_
  refine At.go ?_
  refine WC.seq (by kernel_rfl) ?_
  refine WC.reg [0] (by kernel_rfl) (by kernel_rfl) ?_
  refine WR.runk [0] [] [0, 5, 6, 7] (L' := [(0, .slice A0 l0.length c0), (5, .slice A10 r1.length c11), (6, .slice A21 r12.length c22), (7, .slice none 0 0)]) (w' := w19) (by kernel_rfl) ?_
  refine WR.nil ?_
  refine At.go ?_
  refine WC.seq (by kernel_rfl) ?_
  refine WC.seq (by kernel_rfl) ?_
  refine WC.reg [0, 1, 2] (by kernel_rfl) (by kernel_rfl) ?_
  refine WR.runk [0, 1, 2] [] [0, 5, 6, 7, 16, 17, 18] (L' := [(0, .slice A0 l0.length c0), (5, .slice A10 r1.length c11), (6, .slice A21 r12.length c22), (7, .slice none 0 0), (16, .slice A21 r12.length c22), (17, .int .i64 (r12.length : Int)), (18, .int .i64 0)]) (w' := w19) (by kernel_rfl) ?_
  refine WR.nil ?_
  refine At.go ?_
  refine WC.block (by kernel_rfl) ?_
  have hS := hS.addNil (α := Int) 3 (r0 (.int .i64)) 1
  have hS : Sat w19 (rf w0) [osl 3 (r0 (.int .i64)) 1 A10 c11 r1, osl 3 (r0 (.int .i64)) 1 A21 c22 r12, osl 3 (r0 (.int .i64)) 1 none 0 ([] : List Int)] := hS.sel [2, 1, 0] (by kernel_rfl)
  obtain ⟨o42, e43, H⟩ := bind_ex H
  refine WC.loop (by kernel_rfl) ?_
  refine WL.weaken [0, 5, 6, 7, 16, 17, 18] (L' := [(0, .slice A0 l0.length c0), (5, .slice A10 r1.length c11), (6, .slice A21 r12.length c22), (7, .slice none 0 0), (16, .slice A21 r12.length c22), (17, .int .i64 (r12.length : Int)), (18, .int .i64 0)]) (by kernel_rfl) ?_
  refine colophonlaw16_Parts.l1_ok w0 A0 c0 l0 r1 A10 c11 r12 A21 c22 R0 o42 (fun A7_q44 c7_q44 w45 hS => ?_) FU ([] : List Int) 0 none 0 _ hS e43
  refine At.hit ?_
  refine At.go ?_
  refine WC.seq (by kernel_rfl) ?_
  refine WC.reg [0, 1, 2, 3, 4, 5, 6, 7] (by kernel_rfl) (by kernel_rfl) ?_
  refine WR.runk [0, 1, 2] [3, 4, 5, 6, 7] [6, 33, 34, 35] (L' := [(6, .slice A21 r12.length c22), (33, .slice A7_q44 o42.length c7_q44), (34, .slice A10 r1.length c11), (35, .slice A21 r12.length c22)]) (w' := w45) (by kernel_rfl) ?_
  obtain ⟨r47, e48, H⟩ := bind_ex H
  refine WR.st (St.call (by kernel_rfl) (f := 26) (args := #[.slice A10 r1.length c11, .slice A21 r12.length c22]) (by kernel_rfl) (colophonref10_Array.calls w45 A10 c11 r1 (Sat.rdAt 0 hS rfl) A21 c22 r12 (Sat.rdAt 1 hS rfl) r47 e48) ?_)
  rintro _ w54 ⟨A56, c57, rfl, hS55⟩
  have hS : Sat w54 (rf w0) [osl 3 (r0 (.int .i64)) 1 A56 c57 r47, osl 3 (r0 (.int .i64)) 1 A10 c11 r1, osl 3 (r0 (.int .i64)) 1 A21 c22 r12, osl 3 (r0 (.int .i64)) 1 A7_q44 c7_q44 o42] := hS.ext hS55
  refine WR.runk [4, 5, 6, 7] [] [2, 3, 4] (L' := [(2, .slice A7_q44 o42.length c7_q44), (3, .slice A56 r47.length c57), (4, .slice A21 r12.length c22)]) (w' := w54) (by kernel_rfl) ?_
  refine WR.nil ?_
  refine At.go ?_
  refine WC.ret (by kernel_rfl) ?_
  obtain rfl := Option.some.inj H
  have hS : Sat w54 (rf w0) [osl 3 (r0 (.int .i64)) 1 A7_q44 c7_q44 o42, osl 3 (r0 (.int .i64)) 1 A56 c57 r47, osl 3 (r0 (.int .i64)) 1 A21 c22 r12] := hS.sel [3, 0, 2] (by kernel_rfl)
  exact At.body [.slice A7_q44 o42.length c7_q44, .slice A56 r47.length c57, .slice A21 r12.length c22] (by kernel_rfl) ⟨_, rfl, _, _, _, _, _, _, rfl, hS⟩
/-! ### 27 colophon/colophonref15.Stands -/
def colophonref15_Stands.l1 (l0 : List Int) (l1 : List Int) (a2 : Int) : Nat → Int → Option (Sum Bool Unit)
  | 0, _ => none
  | k + 1, x17_l1 => (if decide (x17_l1 < (l1.length : Int)) then ((at? l0 (wi (a2 + x17_l1))).bind fun v5 => ((at? l1 x17_l1).bind fun v7 => (if (v5 != v7) then some (.inl false) else colophonref15_Stands.l1 l0 l1 a2 k (wi (x17_l1 + 1))))) else some (.inr ()))
def colophonref15_Stands.f (l0 : List Int) (l1 : List Int) (a2 : Int) : Option Bool := (if decide (wi ((l0.length : Int) - a2) < (l1.length : Int)) then some false else ((colophonref15_Stands.l1 l0 l1 a2 FU 0).bind fun o10 => (match o10 with | .inl o12 => some o12 | .inr o16 => some true)))
def colophonref15_Stands.post (w : World) (r : Bool) (v : Value) (w' : World) : Prop := v = (.bool r : Value) ∧ Sat w' (rf w) []
theorem colophonref15_Stands.l1_ok {Q} (w0 : World) (A0 : Option Addr) (c0 : Nat) (l0 : List Int) (A1 : Option Addr) (c1 : Nat) (l1 : List Int) (a2 : Int) (R0 : rdS (r0 (.int .i64)) 1 (hp w0) A0 c0 l0) (R1 : rdS (r0 (.int .i64)) 1 (hp w0) A1 c1 l1) (out : Sum Bool Unit) (hn0 : ∀ (o0 : Bool) (w : World), out = (.inl o0) → Sat w (rf w0) [] → At Q .ret 32 [(6, .bool o0)] w) (hn1 : ∀ (o1 : Unit) (w : World), out = (.inr o1) → Sat w (rf w0) [] → At Q (.exit 0) 32 [] w) :
    ∀ (k : Nat) (x17_l1 : Int) (w : World), Sat w (rf w0) [] → colophonref15_Stands.l1 l0 l1 a2 k x17_l1 = some out → WL Try.prog (cbody (cbody (cr (cl (cr (cr C27)))))) Q 32 [(0, .slice A0 l0.length c0), (1, .slice A1 l1.length c1), (2, .int .i64 a2), (16, .int .i64 (l1.length : Int)), (17, .int .i64 x17_l1)] w := by
  intro k
  induction k with
  | zero => intro x17_l1 w hS H; exact absurd (show none = some out from H) (by simp)
  | succ k ih =>
    intro x17_l1 w hS H
    unfold colophonref15_Stands.l1 at H
    refine WL.round ?_
    refine WC.seq (by kernel_rfl) ?_
    refine WC.reg [0] (by kernel_rfl) (by kernel_rfl) ?_
    refine WR.runk [0] [] [0, 1, 2, 16, 17, 18] (L' := [(0, .slice A0 l0.length c0), (1, .slice A1 l1.length c1), (2, .int .i64 a2), (16, .int .i64 (l1.length : Int)), (17, .int .i64 x17_l1), (18, .bool (decide (x17_l1 < (l1.length : Int))))]) (w' := w) (by kernel_rfl) ?_
    refine WR.nil ?_
    refine At.go ?_
    refine WC.seq (by kernel_rfl) ?_
    refine WC.cond (by kernel_rfl) (decide (x17_l1 < (l1.length : Int))) (by kernel_rfl) (by kernel_rfl) (fun hb2 => ?_) (fun hb2 => ?_)
    · replace H := ite_t H hb2
      refine WC.skip (by kernel_rfl) ?_
      refine At.go ?_
      refine WC.seq (by kernel_rfl) ?_
      refine WC.block (by kernel_rfl) ?_
      refine WC.seq (by kernel_rfl) ?_
      refine WC.reg [0, 1] (by kernel_rfl) (by kernel_rfl) ?_
      refine WR.runk [0, 1] [] [0, 1, 2, 7, 16, 17] (L' := [(0, .slice A0 l0.length c0), (1, .slice A1 l1.length c1), (2, .int .i64 a2), (7, .int .i64 x17_l1), (16, .int .i64 (l1.length : Int)), (17, .int .i64 x17_l1)]) (w' := w) (by kernel_rfl) ?_
      refine WR.nil ?_
      refine At.go ?_
      refine WC.seq (by kernel_rfl) ?_
      refine WC.drawn (by kernel_rfl) (by kernel_rfl) 11 (by kernel_rfl) (fun w3 hw4 => ?_)
      have hS := hS.heap hw4.1 hw4.2
      refine WD.weaken [0, 1, 2, 7, 16, 17] (L' := [(0, .slice A0 l0.length c0), (1, .slice A1 l1.length c1), (2, .int .i64 a2), (7, .int .i64 x17_l1), (16, .int .i64 (l1.length : Int)), (17, .int .i64 x17_l1)]) (by kernel_rfl) ?_
      refine WD.pure (i := 0) (v := .slice A0 l0.length c0) (by kernel_rfl) (by kernel_rfl) (fun _ => by kernel_rfl) ?_
      refine WD.weaken [0, 1, 2, 7, 16, 17, 20] (L' := [(0, .slice A0 l0.length c0), (1, .slice A1 l1.length c1), (2, .int .i64 a2), (7, .int .i64 x17_l1), (16, .int .i64 (l1.length : Int)), (17, .int .i64 x17_l1), (20, .slice A0 l0.length c0)]) (by kernel_rfl) ?_
      refine WD.pure (i := 1) (v := .int .i64 a2) (by kernel_rfl) (by kernel_rfl) (fun _ => by kernel_rfl) ?_
      refine WD.weaken [0, 1, 2, 7, 16, 17, 20, 21] (L' := [(0, .slice A0 l0.length c0), (1, .slice A1 l1.length c1), (2, .int .i64 a2), (7, .int .i64 x17_l1), (16, .int .i64 (l1.length : Int)), (17, .int .i64 x17_l1), (20, .slice A0 l0.length c0), (21, .int .i64 a2)]) (by kernel_rfl) ?_
      refine WD.pure (i := 2) (v := .int .i64 x17_l1) (by kernel_rfl) (by kernel_rfl) (fun _ => by kernel_rfl) ?_
      refine WD.weaken [0, 1, 2, 7, 16, 17, 20, 21, 22] (L' := [(0, .slice A0 l0.length c0), (1, .slice A1 l1.length c1), (2, .int .i64 a2), (7, .int .i64 x17_l1), (16, .int .i64 (l1.length : Int)), (17, .int .i64 x17_l1), (20, .slice A0 l0.length c0), (21, .int .i64 a2), (22, .int .i64 x17_l1)]) (by kernel_rfl) ?_
      refine WD.pure (i := 3) (v := .int .i64 (wi (a2 + x17_l1))) (by kernel_rfl) (by kernel_rfl) (fun _ => by kernel_rfl) ?_
      refine WD.weaken [0, 1, 2, 7, 16, 17, 20, 23] (L' := [(0, .slice A0 l0.length c0), (1, .slice A1 l1.length c1), (2, .int .i64 a2), (7, .int .i64 x17_l1), (16, .int .i64 (l1.length : Int)), (17, .int .i64 x17_l1), (20, .slice A0 l0.length c0), (23, .int .i64 (wi (a2 + x17_l1)))]) (by kernel_rfl) ?_
      obtain ⟨v5, e6, H⟩ := bind_ex H
      refine WD.ofP (i := 4) (by kernel_rfl) (PSt.idx (k := .i64) (.tmp 20) (.tmp 23) (by kernel_rfl) (by kernel_rfl) E22 (by kernel_rfl) (by kernel_rfl) (rdS.up R0 hS.sub0) e6 ?_)
      refine WD.weaken [0, 1, 2, 7, 16, 17, 24] (L' := [(0, .slice A0 l0.length c0), (1, .slice A1 l1.length c1), (2, .int .i64 a2), (7, .int .i64 x17_l1), (16, .int .i64 (l1.length : Int)), (17, .int .i64 x17_l1), (24, .pointer (some (adr A0 (wi (a2 + x17_l1)).toNat 1)))]) (by kernel_rfl) ?_
      refine WD.ofR (i := 5) (by kernel_rfl) (RSt.loadInt (t := 3) (.tmp 24) (by kernel_rfl) (by kernel_rfl) (by kernel_rfl) (by kernel_rfl) (rdS.up R0 hS.sub0) e6 ?_)
      refine WD.weaken [0, 1, 2, 7, 16, 17, 25] (L' := [(0, .slice A0 l0.length c0), (1, .slice A1 l1.length c1), (2, .int .i64 a2), (7, .int .i64 x17_l1), (16, .int .i64 (l1.length : Int)), (17, .int .i64 x17_l1), (25, .int .i64 v5)]) (by kernel_rfl) ?_
      refine WD.pure (i := 6) (v := .slice A1 l1.length c1) (by kernel_rfl) (by kernel_rfl) (fun _ => by kernel_rfl) ?_
      refine WD.weaken [0, 1, 2, 7, 16, 17, 25, 26] (L' := [(0, .slice A0 l0.length c0), (1, .slice A1 l1.length c1), (2, .int .i64 a2), (7, .int .i64 x17_l1), (16, .int .i64 (l1.length : Int)), (17, .int .i64 x17_l1), (25, .int .i64 v5), (26, .slice A1 l1.length c1)]) (by kernel_rfl) ?_
      refine WD.pure (i := 7) (v := .int .i64 x17_l1) (by kernel_rfl) (by kernel_rfl) (fun _ => by kernel_rfl) ?_
      refine WD.weaken [0, 1, 2, 16, 17, 25, 26, 27] (L' := [(0, .slice A0 l0.length c0), (1, .slice A1 l1.length c1), (2, .int .i64 a2), (16, .int .i64 (l1.length : Int)), (17, .int .i64 x17_l1), (25, .int .i64 v5), (26, .slice A1 l1.length c1), (27, .int .i64 x17_l1)]) (by kernel_rfl) ?_
      obtain ⟨v7, e8, H⟩ := bind_ex H
      refine WD.ofP (i := 8) (by kernel_rfl) (PSt.idx (k := .i64) (.tmp 26) (.tmp 27) (by kernel_rfl) (by kernel_rfl) E22 (by kernel_rfl) (by kernel_rfl) (rdS.up R1 hS.sub0) e8 ?_)
      refine WD.weaken [0, 1, 2, 16, 17, 25, 28] (L' := [(0, .slice A0 l0.length c0), (1, .slice A1 l1.length c1), (2, .int .i64 a2), (16, .int .i64 (l1.length : Int)), (17, .int .i64 x17_l1), (25, .int .i64 v5), (28, .pointer (some (adr A1 x17_l1.toNat 1)))]) (by kernel_rfl) ?_
      refine WD.ofR (i := 9) (by kernel_rfl) (RSt.loadInt (t := 3) (.tmp 28) (by kernel_rfl) (by kernel_rfl) (by kernel_rfl) (by kernel_rfl) (rdS.up R1 hS.sub0) e8 ?_)
      refine WD.weaken [0, 1, 2, 16, 17, 25, 29] (L' := [(0, .slice A0 l0.length c0), (1, .slice A1 l1.length c1), (2, .int .i64 a2), (16, .int .i64 (l1.length : Int)), (17, .int .i64 x17_l1), (25, .int .i64 v5), (29, .int .i64 v7)]) (by kernel_rfl) ?_
      refine WD.pure (i := 10) (v := .bool (v5 != v7)) (by kernel_rfl) (by kernel_rfl) (fun _ => by kernel_rfl) ?_
      refine WD.weaken [0, 1, 2, 16, 17, 30] (L' := [(0, .slice A0 l0.length c0), (1, .slice A1 l1.length c1), (2, .int .i64 a2), (16, .int .i64 (l1.length : Int)), (17, .int .i64 x17_l1), (30, .bool (v5 != v7))]) (by kernel_rfl) ?_
      refine WD.nil (by kernel_rfl) ?_
      refine At.go ?_
      refine WC.cond (by kernel_rfl) (v5 != v7) (by kernel_rfl) (by kernel_rfl) (fun hb9 => ?_) (fun hb9 => ?_)
      · replace H := ite_t H hb9
        refine WC.seq (by kernel_rfl) ?_
        refine WC.reg [0] (by kernel_rfl) (by kernel_rfl) ?_
        refine WR.runk [0] [] [6] (L' := [(6, .bool false)]) (w' := w3) (by kernel_rfl) ?_
        refine WR.nil ?_
        refine At.go ?_
        refine WC.ret (by kernel_rfl) ?_
        refine At.blockRet ?_
        refine At.thenRet ?_
        refine At.thenRet ?_
        obtain rfl := Option.some.inj H
        have hS : Sat w3 (rf w0) [] := hS.sel [] (by kernel_rfl)
        refine At.weaken [6] (L' := [(6, .bool false)]) (by kernel_rfl) ?_
        exact hn0 false _ rfl hS
      · replace H := ite_f H hb9
        refine WC.skip (by kernel_rfl) ?_
        refine At.blockNormal ?_
        refine At.go ?_
        refine WC.reg [0, 1] (by kernel_rfl) (by kernel_rfl) ?_
        refine WR.runk [0, 1] [] [0, 1, 2, 16, 17] (L' := [(0, .slice A0 l0.length c0), (1, .slice A1 l1.length c1), (2, .int .i64 a2), (16, .int .i64 (l1.length : Int)), (17, .int .i64 (wi (x17_l1 + 1)))]) (w' := w3) (by kernel_rfl) ?_
        refine WR.nil ?_
        have hS : Sat w3 (rf w0) [] := hS.sel [] (by kernel_rfl)
        refine At.again ?_
        refine WL.weaken [0, 1, 2, 16, 17] (L' := [(0, .slice A0 l0.length c0), (1, .slice A1 l1.length c1), (2, .int .i64 a2), (16, .int .i64 (l1.length : Int)), (17, .int .i64 (wi (x17_l1 + 1)))]) (by kernel_rfl) ?_
        exact ih (wi (x17_l1 + 1)) _ hS H
    · replace H := ite_f H hb2
      refine WC.exit (by kernel_rfl) ?_
      refine At.thenExit ?_
      refine At.thenExit ?_
      obtain rfl := Option.some.inj H
      have hS : Sat w (rf w0) [] := hS.sel [] (by kernel_rfl)
      refine At.weaken [] (L' := []) (by kernel_rfl) ?_
      exact hn1 () _ rfl hS
theorem colophonref15_Stands.calls (w0 : World) (A0 : Option Addr) (c0 : Nat) (l0 : List Int) (R0 : rdS (r0 (.int .i64)) 1 (hp w0) A0 c0 l0) (A1 : Option Addr) (c1 : Nat) (l1 : List Int) (R1 : rdS (r0 (.int .i64)) 1 (hp w0) A1 c1 l1) (a2 : Int) (r : Bool) (H : colophonref15_Stands.f l0 l1 a2 = some r) :
    Calls Try.prog 27 #[.slice A0 l0.length c0, .slice A1 l1.length c1, .int .i64 a2] w0 (fun e w' => ∃ v, e = .returned v ∧ colophonref15_Stands.post w0 r v w') := by
  have hS : Sat w0 (rf w0) [] := Sat.start w0
  unfold colophonref15_Stands.f at H
  refine calls_of_WC (vs := [.slice A0 l0.length c0, .slice A1 l1.length c1, .int .i64 a2]) Try.func27 (c := C27) (n := 32) (by kernel_rfl) (by kernel_rfl) (by kernel_rfl) ?_
  refine WC.seq (by kernel_rfl) ?_
  refine WC.reg [0] (by kernel_rfl) (by kernel_rfl) ?_
  refine WR.runk [0] [] [0, 1, 2] (L' := [(0, .slice A0 l0.length c0), (1, .slice A1 l1.length c1), (2, .int .i64 a2)]) (w' := w0) (by kernel_rfl) ?_
  refine WR.nil ?_
  refine At.go ?_
  refine WC.seq (by kernel_rfl) ?_
  refine WC.seq (by kernel_rfl) ?_
  refine WC.reg [0, 1, 2, 3, 4, 5, 6] (by kernel_rfl) (by kernel_rfl) ?_
  refine WR.runk [0, 1, 2, 3, 4, 5, 6] [] [0, 1, 2, 14] (L' := [(0, .slice A0 l0.length c0), (1, .slice A1 l1.length c1), (2, .int .i64 a2), (14, .bool (decide (wi ((l0.length : Int) - a2) < (l1.length : Int))))]) (w' := w0) (by kernel_rfl) ?_
  refine WR.nil ?_
  refine At.go ?_
  refine WC.cond (by kernel_rfl) (decide (wi ((l0.length : Int) - a2) < (l1.length : Int))) (by kernel_rfl) (by kernel_rfl) (fun hb1 => ?_) (fun hb1 => ?_)
  · replace H := ite_t H hb1
    refine WC.seq (by kernel_rfl) ?_
    refine WC.reg [0] (by kernel_rfl) (by kernel_rfl) ?_
    refine WR.runk [0] [] [6] (L' := [(6, .bool false)]) (w' := w0) (by kernel_rfl) ?_
    refine WR.nil ?_
    refine At.go ?_
    refine WC.ret (by kernel_rfl) ?_
    refine At.thenRet ?_
    obtain rfl := Option.some.inj H
    have hS : Sat w0 (rf w0) [] := hS.sel [] (by kernel_rfl)
    exact At.body [.bool false] (by kernel_rfl) ⟨_, rfl, rfl, hS⟩
  · replace H := ite_f H hb1
    refine WC.skip (by kernel_rfl) ?_
    refine At.go ?_
    refine WC.seq (by kernel_rfl) ?_
    refine WC.seq (by kernel_rfl) ?_
    refine WC.reg [0, 1, 2] (by kernel_rfl) (by kernel_rfl) ?_
    refine WR.runk [0, 1, 2] [] [0, 1, 2, 16, 17] (L' := [(0, .slice A0 l0.length c0), (1, .slice A1 l1.length c1), (2, .int .i64 a2), (16, .int .i64 (l1.length : Int)), (17, .int .i64 0)]) (w' := w0) (by kernel_rfl) ?_
    refine WR.nil ?_
    refine At.go ?_
    refine WC.block (by kernel_rfl) ?_
    have hS : Sat w0 (rf w0) [] := hS.sel [] (by kernel_rfl)
    obtain ⟨o10, e11, H⟩ := bind_ex H
    refine WC.loop (by kernel_rfl) ?_
    refine WL.weaken [0, 1, 2, 16, 17] (L' := [(0, .slice A0 l0.length c0), (1, .slice A1 l1.length c1), (2, .int .i64 a2), (16, .int .i64 (l1.length : Int)), (17, .int .i64 0)]) (by kernel_rfl) ?_
    refine colophonref15_Stands.l1_ok w0 A0 c0 l0 A1 c1 l1 a2 R0 R1 o10 (fun o12 w14 ho15 hS => ?_) (fun o16 w18 ho19 hS => ?_) FU 0 _ hS e11
    · subst ho15
      dsimp only at H
      refine At.blockRet ?_
      refine At.thenRet ?_
      obtain rfl := Option.some.inj H
      have hS : Sat w14 (rf w0) [] := hS.sel [] (by kernel_rfl)
      exact At.body [.bool o12] (by kernel_rfl) ⟨_, rfl, rfl, hS⟩
    · subst ho19
      dsimp only at H
      refine At.hit ?_
      refine At.go ?_
      refine WC.seq (by kernel_rfl) ?_
      refine WC.reg [0] (by kernel_rfl) (by kernel_rfl) ?_
      refine WR.runk [0] [] [6] (L' := [(6, .bool true)]) (w' := w18) (by kernel_rfl) ?_
      refine WR.nil ?_
      refine At.go ?_
      refine WC.ret (by kernel_rfl) ?_
      obtain rfl := Option.some.inj H
      have hS : Sat w18 (rf w0) [] := hS.sel [] (by kernel_rfl)
      exact At.body [.bool true] (by kernel_rfl) ⟨_, rfl, rfl, hS⟩
/-! ### 14 colophon/colophonref15.Range -/
def colophonref15_Range.l1 (l0 : List Int) (l1 : List Int) (l2 : List Int) : Nat → Int → Int → Int → Option (Int × Int)
  | 0, _, _, _ => none
  | k + 1, x8_l1, x9_l1, x14_l1 => (if decide (x14_l1 < (l1.length : Int)) then ((at? l1 x14_l1).bind fun v2 => ((colophonref15_Stands.f l0 l2 v2).bind fun r4 => (if r4 then (if (x9_l1 == 0) then colophonref15_Range.l1 l0 l1 l2 k x14_l1 (wi (x14_l1 + 1)) (wi (x14_l1 + 1)) else colophonref15_Range.l1 l0 l1 l2 k x8_l1 (wi (x14_l1 + 1)) (wi (x14_l1 + 1))) else colophonref15_Range.l1 l0 l1 l2 k x8_l1 x9_l1 (wi (x14_l1 + 1))))) else some (x8_l1, x9_l1))
def colophonref15_Range.f (l0 : List Int) (l1 : List Int) (l2 : List Int) : Option (Int × Int) := ((colophonref15_Range.l1 l0 l1 l2 FU 0 0 0).bind fun o15 => some (o15.1, o15.2))
def colophonref15_Range.post (w : World) (r : Int × Int) (v : Value) (w' : World) : Prop := v = .tuple #[.int .i64 r.1, .int .i64 r.2] ∧ Sat w' (rf w) []
theorem colophonref15_Range.l1_ok {Q} (w0 : World) (A0 : Option Addr) (c0 : Nat) (l0 : List Int) (A1 : Option Addr) (c1 : Nat) (l1 : List Int) (A2 : Option Addr) (c2 : Nat) (l2 : List Int) (R0 : rdS (r0 (.int .i64)) 1 (hp w0) A0 c0 l0) (R1 : rdS (r0 (.int .i64)) 1 (hp w0) A1 c1 l1) (R2 : rdS (r0 (.int .i64)) 1 (hp w0) A2 c2 l2) (out : Int × Int) (hn0 : ∀ (w : World), Sat w (rf w0) [] → At Q (.exit 0) 31 [(8, .int .i64 out.1), (9, .int .i64 out.2)] w) :
    ∀ (k : Nat) (x8_l1 : Int) (x9_l1 : Int) (x14_l1 : Int) (w : World), Sat w (rf w0) [] → colophonref15_Range.l1 l0 l1 l2 k x8_l1 x9_l1 x14_l1 = some out → WL Try.prog (cbody (cbody (cr (cl (cr (cr C14)))))) Q 31 [(0, .slice A0 l0.length c0), (2, .slice A2 l2.length c2), (8, .int .i64 x8_l1), (9, .int .i64 x9_l1), (12, .slice A1 l1.length c1), (13, .int .i64 (l1.length : Int)), (14, .int .i64 x14_l1)] w := by
  intro k
  induction k with
  | zero => intro x8_l1 x9_l1 x14_l1 w hS H; exact absurd (show none = some out from H) (by simp)
  | succ k ih =>
    intro x8_l1 x9_l1 x14_l1 w hS H
    unfold colophonref15_Range.l1 at H
    refine WL.round ?_
    refine WC.seq (by kernel_rfl) ?_
    refine WC.reg [0] (by kernel_rfl) (by kernel_rfl) ?_
    refine WR.runk [0] [] [0, 2, 8, 9, 12, 13, 14, 15] (L' := [(0, .slice A0 l0.length c0), (2, .slice A2 l2.length c2), (8, .int .i64 x8_l1), (9, .int .i64 x9_l1), (12, .slice A1 l1.length c1), (13, .int .i64 (l1.length : Int)), (14, .int .i64 x14_l1), (15, .bool (decide (x14_l1 < (l1.length : Int))))]) (w' := w) (by kernel_rfl) ?_
    refine WR.nil ?_
    refine At.go ?_
    refine WC.seq (by kernel_rfl) ?_
    refine WC.cond (by kernel_rfl) (decide (x14_l1 < (l1.length : Int))) (by kernel_rfl) (by kernel_rfl) (fun hb1 => ?_) (fun hb1 => ?_)
    · replace H := ite_t H hb1
      refine WC.skip (by kernel_rfl) ?_
      refine At.go ?_
      refine WC.seq (by kernel_rfl) ?_
      refine WC.block (by kernel_rfl) ?_
      refine WC.seq (by kernel_rfl) ?_
      refine WC.reg [0, 1, 2, 3, 4] (by kernel_rfl) (by kernel_rfl) ?_
      refine WR.runk [0] [1, 2, 3, 4] [0, 2, 8, 9, 12, 13, 14, 16] (L' := [(0, .slice A0 l0.length c0), (2, .slice A2 l2.length c2), (8, .int .i64 x8_l1), (9, .int .i64 x9_l1), (12, .slice A1 l1.length c1), (13, .int .i64 (l1.length : Int)), (14, .int .i64 x14_l1), (16, .int .i64 x14_l1)]) (w' := w) (by kernel_rfl) ?_
      obtain ⟨v2, e3, H⟩ := bind_ex H
      refine WR.st (St.ofP (PSt.idx (k := .i64) (.tmp 12) (.tmp 14) (by kernel_rfl) (by kernel_rfl) E22 (by kernel_rfl) (by kernel_rfl) (rdS.up R1 hS.sub0) e3 ?_))
      refine WR.runk [] [2, 3, 4] [0, 2, 8, 9, 12, 13, 14, 16, 17] (L' := [(0, .slice A0 l0.length c0), (2, .slice A2 l2.length c2), (8, .int .i64 x8_l1), (9, .int .i64 x9_l1), (12, .slice A1 l1.length c1), (13, .int .i64 (l1.length : Int)), (14, .int .i64 x14_l1), (16, .int .i64 x14_l1), (17, .pointer (some (adr A1 x14_l1.toNat 1)))]) (w' := w) (by kernel_rfl) ?_
      refine WR.st (St.ofR (RSt.loadInt (t := 3) (.tmp 17) (by kernel_rfl) (by kernel_rfl) (by kernel_rfl) (by kernel_rfl) (rdS.up R1 hS.sub0) e3 ?_))
      refine WR.runk [3, 4] [] [0, 2, 8, 9, 10, 11, 12, 13, 14] (L' := [(0, .slice A0 l0.length c0), (2, .slice A2 l2.length c2), (8, .int .i64 x8_l1), (9, .int .i64 x9_l1), (10, .int .i64 x14_l1), (11, .int .i64 v2), (12, .slice A1 l1.length c1), (13, .int .i64 (l1.length : Int)), (14, .int .i64 x14_l1)]) (w' := w) (by kernel_rfl) ?_
      refine WR.nil ?_
      refine At.go ?_
      refine WC.seq (by kernel_rfl) ?_
      refine WC.reg [0, 1, 2, 3] (by kernel_rfl) (by kernel_rfl) ?_
      refine WR.runk [0, 1, 2] [3] [0, 2, 8, 9, 10, 12, 13, 14, 19, 20, 21] (L' := [(0, .slice A0 l0.length c0), (2, .slice A2 l2.length c2), (8, .int .i64 x8_l1), (9, .int .i64 x9_l1), (10, .int .i64 x14_l1), (12, .slice A1 l1.length c1), (13, .int .i64 (l1.length : Int)), (14, .int .i64 x14_l1), (19, .slice A0 l0.length c0), (20, .slice A2 l2.length c2), (21, .int .i64 v2)]) (w' := w) (by kernel_rfl) ?_
      obtain ⟨r4, e5, H⟩ := bind_ex H
      refine WR.st (St.call (by kernel_rfl) (f := 27) (args := #[.slice A0 l0.length c0, .slice A2 l2.length c2, .int .i64 v2]) (by kernel_rfl) (colophonref15_Stands.calls w A0 c0 l0 (rdS.up R0 hS.sub0) A2 c2 l2 (rdS.up R2 hS.sub0) v2 r4 e5) ?_)
      rintro _ w11 ⟨rfl, hS12⟩
      have hS : Sat w11 (rf w0) [] := hS.ext hS12
      refine WR.runk [] [] [0, 2, 8, 9, 10, 12, 13, 14, 22] (L' := [(0, .slice A0 l0.length c0), (2, .slice A2 l2.length c2), (8, .int .i64 x8_l1), (9, .int .i64 x9_l1), (10, .int .i64 x14_l1), (12, .slice A1 l1.length c1), (13, .int .i64 (l1.length : Int)), (14, .int .i64 x14_l1), (22, .bool r4)]) (w' := w11) (by kernel_rfl) ?_
      refine WR.nil ?_
      refine At.go ?_
      refine WC.cond (by kernel_rfl) r4 (by kernel_rfl) (by kernel_rfl) (fun hb13 => ?_) (fun hb13 => ?_)
      · replace H := ite_t H hb13
        refine WC.seq (by kernel_rfl) ?_
        refine WC.seq (by kernel_rfl) ?_
        refine WC.reg [0, 1] (by kernel_rfl) (by kernel_rfl) ?_
        refine WR.runk [0, 1] [] [0, 2, 8, 10, 12, 13, 14, 24] (L' := [(0, .slice A0 l0.length c0), (2, .slice A2 l2.length c2), (8, .int .i64 x8_l1), (10, .int .i64 x14_l1), (12, .slice A1 l1.length c1), (13, .int .i64 (l1.length : Int)), (14, .int .i64 x14_l1), (24, .bool (x9_l1 == 0))]) (w' := w11) (by kernel_rfl) ?_
        refine WR.nil ?_
        refine At.go ?_
        refine WC.cond (by kernel_rfl) (x9_l1 == 0) (by kernel_rfl) (by kernel_rfl) (fun hb14 => ?_) (fun hb14 => ?_)
        · replace H := ite_t H hb14
          refine WC.reg [0, 1] (by kernel_rfl) (by kernel_rfl) ?_
          refine WR.runk [0, 1] [] [0, 2, 8, 10, 12, 13, 14] (L' := [(0, .slice A0 l0.length c0), (2, .slice A2 l2.length c2), (8, .int .i64 x14_l1), (10, .int .i64 x14_l1), (12, .slice A1 l1.length c1), (13, .int .i64 (l1.length : Int)), (14, .int .i64 x14_l1)]) (w' := w11) (by kernel_rfl) ?_
          refine WR.nil ?_
          refine At.go ?_
          refine WC.reg [0, 1, 2] (by kernel_rfl) (by kernel_rfl) ?_
          refine WR.runk [0, 1, 2] [] [0, 2, 8, 9, 12, 13, 14] (L' := [(0, .slice A0 l0.length c0), (2, .slice A2 l2.length c2), (8, .int .i64 x14_l1), (9, .int .i64 (wi (x14_l1 + 1))), (12, .slice A1 l1.length c1), (13, .int .i64 (l1.length : Int)), (14, .int .i64 x14_l1)]) (w' := w11) (by kernel_rfl) ?_
          refine WR.nil ?_
          refine At.blockNormal ?_
          refine At.go ?_
          refine WC.reg [0, 1] (by kernel_rfl) (by kernel_rfl) ?_
          refine WR.runk [0, 1] [] [0, 2, 8, 9, 12, 13, 14] (L' := [(0, .slice A0 l0.length c0), (2, .slice A2 l2.length c2), (8, .int .i64 x14_l1), (9, .int .i64 (wi (x14_l1 + 1))), (12, .slice A1 l1.length c1), (13, .int .i64 (l1.length : Int)), (14, .int .i64 (wi (x14_l1 + 1)))]) (w' := w11) (by kernel_rfl) ?_
          refine WR.nil ?_
          have hS : Sat w11 (rf w0) [] := hS.sel [] (by kernel_rfl)
          refine At.again ?_
          refine WL.weaken [0, 2, 8, 9, 12, 13, 14] (L' := [(0, .slice A0 l0.length c0), (2, .slice A2 l2.length c2), (8, .int .i64 x14_l1), (9, .int .i64 (wi (x14_l1 + 1))), (12, .slice A1 l1.length c1), (13, .int .i64 (l1.length : Int)), (14, .int .i64 (wi (x14_l1 + 1)))]) (by kernel_rfl) ?_
          exact ih x14_l1 (wi (x14_l1 + 1)) (wi (x14_l1 + 1)) _ hS H
        · replace H := ite_f H hb14
          refine WC.skip (by kernel_rfl) ?_
          refine At.go ?_
          refine WC.reg [0, 1, 2] (by kernel_rfl) (by kernel_rfl) ?_
          refine WR.runk [0, 1, 2] [] [0, 2, 8, 9, 12, 13, 14] (L' := [(0, .slice A0 l0.length c0), (2, .slice A2 l2.length c2), (8, .int .i64 x8_l1), (9, .int .i64 (wi (x14_l1 + 1))), (12, .slice A1 l1.length c1), (13, .int .i64 (l1.length : Int)), (14, .int .i64 x14_l1)]) (w' := w11) (by kernel_rfl) ?_
          refine WR.nil ?_
          refine At.blockNormal ?_
          refine At.go ?_
          refine WC.reg [0, 1] (by kernel_rfl) (by kernel_rfl) ?_
          refine WR.runk [0, 1] [] [0, 2, 8, 9, 12, 13, 14] (L' := [(0, .slice A0 l0.length c0), (2, .slice A2 l2.length c2), (8, .int .i64 x8_l1), (9, .int .i64 (wi (x14_l1 + 1))), (12, .slice A1 l1.length c1), (13, .int .i64 (l1.length : Int)), (14, .int .i64 (wi (x14_l1 + 1)))]) (w' := w11) (by kernel_rfl) ?_
          refine WR.nil ?_
          have hS : Sat w11 (rf w0) [] := hS.sel [] (by kernel_rfl)
          refine At.again ?_
          refine WL.weaken [0, 2, 8, 9, 12, 13, 14] (L' := [(0, .slice A0 l0.length c0), (2, .slice A2 l2.length c2), (8, .int .i64 x8_l1), (9, .int .i64 (wi (x14_l1 + 1))), (12, .slice A1 l1.length c1), (13, .int .i64 (l1.length : Int)), (14, .int .i64 (wi (x14_l1 + 1)))]) (by kernel_rfl) ?_
          exact ih x8_l1 (wi (x14_l1 + 1)) (wi (x14_l1 + 1)) _ hS H
      · replace H := ite_f H hb13
        refine WC.skip (by kernel_rfl) ?_
        refine At.blockNormal ?_
        refine At.go ?_
        refine WC.reg [0, 1] (by kernel_rfl) (by kernel_rfl) ?_
        refine WR.runk [0, 1] [] [0, 2, 8, 9, 12, 13, 14] (L' := [(0, .slice A0 l0.length c0), (2, .slice A2 l2.length c2), (8, .int .i64 x8_l1), (9, .int .i64 x9_l1), (12, .slice A1 l1.length c1), (13, .int .i64 (l1.length : Int)), (14, .int .i64 (wi (x14_l1 + 1)))]) (w' := w11) (by kernel_rfl) ?_
        refine WR.nil ?_
        have hS : Sat w11 (rf w0) [] := hS.sel [] (by kernel_rfl)
        refine At.again ?_
        refine WL.weaken [0, 2, 8, 9, 12, 13, 14] (L' := [(0, .slice A0 l0.length c0), (2, .slice A2 l2.length c2), (8, .int .i64 x8_l1), (9, .int .i64 x9_l1), (12, .slice A1 l1.length c1), (13, .int .i64 (l1.length : Int)), (14, .int .i64 (wi (x14_l1 + 1)))]) (by kernel_rfl) ?_
        exact ih x8_l1 x9_l1 (wi (x14_l1 + 1)) _ hS H
    · replace H := ite_f H hb1
      refine WC.exit (by kernel_rfl) ?_
      refine At.thenExit ?_
      refine At.thenExit ?_
      obtain rfl := Option.some.inj H
      have hS : Sat w (rf w0) [] := hS.sel [] (by kernel_rfl)
      refine At.weaken [8, 9] (L' := [(8, .int .i64 x8_l1), (9, .int .i64 x9_l1)]) (by kernel_rfl) ?_
      exact hn0 _ hS
theorem colophonref15_Range.calls (w0 : World) (A0 : Option Addr) (c0 : Nat) (l0 : List Int) (R0 : rdS (r0 (.int .i64)) 1 (hp w0) A0 c0 l0) (A1 : Option Addr) (c1 : Nat) (l1 : List Int) (R1 : rdS (r0 (.int .i64)) 1 (hp w0) A1 c1 l1) (A2 : Option Addr) (c2 : Nat) (l2 : List Int) (R2 : rdS (r0 (.int .i64)) 1 (hp w0) A2 c2 l2) (r : Int × Int) (H : colophonref15_Range.f l0 l1 l2 = some r) :
    Calls Try.prog 14 #[.slice A0 l0.length c0, .slice A1 l1.length c1, .slice A2 l2.length c2] w0 (fun e w' => ∃ v, e = .returned v ∧ colophonref15_Range.post w0 r v w') := by
  have hS : Sat w0 (rf w0) [] := Sat.start w0
  unfold colophonref15_Range.f at H
  refine calls_of_WC (vs := [.slice A0 l0.length c0, .slice A1 l1.length c1, .slice A2 l2.length c2]) Try.func14 (c := C14) (n := 31) (by kernel_rfl) (by kernel_rfl) (by kernel_rfl) ?_
  refine WC.seq (by kernel_rfl) ?_
  refine WC.reg [0, 1] (by kernel_rfl) (by kernel_rfl) ?_
  refine WR.runk [0, 1] [] [0, 1, 2] (L' := [(0, .slice A0 l0.length c0), (1, .slice A1 l1.length c1), (2, .slice A2 l2.length c2)]) (w' := w0) (by kernel_rfl) ?_
  refine WR.nil ?_
  refine At.go ?_
  refine WC.seq (by kernel_rfl) ?_
  refine WC.reg [0, 1] (by kernel_rfl) (by kernel_rfl) ?_
  refine WR.runk [0, 1] [] [0, 1, 2, 8, 9] (L' := [(0, .slice A0 l0.length c0), (1, .slice A1 l1.length c1), (2, .slice A2 l2.length c2), (8, .int .i64 0), (9, .int .i64 0)]) (w' := w0) (by kernel_rfl) ?_
  refine WR.nil ?_
  refine At.go ?_
  refine WC.seq (by kernel_rfl) ?_
  refine WC.seq (by kernel_rfl) ?_
  refine WC.reg [0, 1, 2] (by kernel_rfl) (by kernel_rfl) ?_
  refine WR.runk [0, 1, 2] [] [0, 2, 8, 9, 12, 13, 14] (L' := [(0, .slice A0 l0.length c0), (2, .slice A2 l2.length c2), (8, .int .i64 0), (9, .int .i64 0), (12, .slice A1 l1.length c1), (13, .int .i64 (l1.length : Int)), (14, .int .i64 0)]) (w' := w0) (by kernel_rfl) ?_
  refine WR.nil ?_
  refine At.go ?_
  refine WC.block (by kernel_rfl) ?_
  have hS : Sat w0 (rf w0) [] := hS.sel [] (by kernel_rfl)
  obtain ⟨o15, e16, H⟩ := bind_ex H
  refine WC.loop (by kernel_rfl) ?_
  refine WL.weaken [0, 2, 8, 9, 12, 13, 14] (L' := [(0, .slice A0 l0.length c0), (2, .slice A2 l2.length c2), (8, .int .i64 0), (9, .int .i64 0), (12, .slice A1 l1.length c1), (13, .int .i64 (l1.length : Int)), (14, .int .i64 0)]) (by kernel_rfl) ?_
  refine colophonref15_Range.l1_ok w0 A0 c0 l0 A1 c1 l1 A2 c2 l2 R0 R1 R2 o15 (fun w18 hS => ?_) FU 0 0 0 _ hS e16
  refine At.hit ?_
  refine At.go ?_
  refine WC.seq (by kernel_rfl) ?_
  refine WC.reg [0, 1, 2, 3] (by kernel_rfl) (by kernel_rfl) ?_
  refine WR.runk [0, 1, 2, 3] [] [6, 7] (L' := [(6, .int .i64 o15.1), (7, .int .i64 o15.2)]) (w' := w18) (by kernel_rfl) ?_
  refine WR.nil ?_
  refine At.go ?_
  refine WC.ret (by kernel_rfl) ?_
  obtain rfl := Option.some.inj H
  have hS : Sat w18 (rf w0) [] := hS.sel [] (by kernel_rfl)
  exact At.body [.int .i64 o15.1, .int .i64 o15.2] (by kernel_rfl) ⟨_, rfl, rfl, hS⟩
/-! ### 16 colophon/colophonref16.Unlike -/
def colophonref16_Unlike.l2 (l0 : List Int) (x8_l1 : Int) : Nat → Bool → Int → Option Bool
  | 0, _, _ => none
  | k + 1, x9_l2, x10_l2 => (if decide (x10_l2 < x8_l1) then (if x9_l2 then colophonref16_Unlike.l2 l0 x8_l1 k true (wi (x10_l2 + 1)) else ((at? l0 x10_l2).bind fun v6 => ((at? l0 x8_l1).bind fun v8 => colophonref16_Unlike.l2 l0 x8_l1 k (v6 == v8) (wi (x10_l2 + 1))))) else some x9_l2)
def colophonref16_Unlike.l1 (l0 : List Int) (a1 : Int) (a2 : Int) : Nat → Int → Int → Option Int
  | 0, _, _ => none
  | k + 1, x7_l1, x8_l1 => (if decide (x8_l1 < a2) then ((colophonref16_Unlike.l2 l0 x8_l1 FU false a1).bind fun o10 => (if (!o10) then colophonref16_Unlike.l1 l0 a1 a2 k (wi (x7_l1 + 1)) (wi (x8_l1 + 1)) else colophonref16_Unlike.l1 l0 a1 a2 k x7_l1 (wi (x8_l1 + 1)))) else some x7_l1)
def colophonref16_Unlike.f (l0 : List Int) (a1 : Int) (a2 : Int) : Option Int := ((colophonref16_Unlike.l1 l0 a1 a2 FU 0 a1).bind fun o16 => some o16)
def colophonref16_Unlike.post (w : World) (r : Int) (v : Value) (w' : World) : Prop := v = (.int .i64 r : Value) ∧ Sat w' (rf w) []
theorem colophonref16_Unlike.l2_ok {Q} (w0 : World) (A0 : Option Addr) (c0 : Nat) (l0 : List Int) (a1 : Int) (a2 : Int) (x7_l1 : Int) (x8_l1 : Int) (R0 : rdS (r0 (.int .i64)) 1 (hp w0) A0 c0 l0) (out : Bool) (hn0 : ∀ (w : World), Sat w (rf w0) [] → At Q (.exit 2) 40 [(0, .slice A0 l0.length c0), (1, .int .i64 a1), (2, .int .i64 a2), (7, .int .i64 x7_l1), (8, .int .i64 x8_l1), (9, .bool out)] w) :
    ∀ (k : Nat) (x9_l2 : Bool) (x10_l2 : Int) (w : World), Sat w (rf w0) [] → colophonref16_Unlike.l2 l0 x8_l1 k x9_l2 x10_l2 = some out → WL Try.prog (cbody (cbody (cr (cl (cr (cbody (cl (cr (cbody (cbody (cr (cl (cr (cr C16)))))))))))))) Q 40 [(0, .slice A0 l0.length c0), (1, .int .i64 a1), (2, .int .i64 a2), (7, .int .i64 x7_l1), (8, .int .i64 x8_l1), (9, .bool x9_l2), (10, .int .i64 x10_l2)] w := by
  intro k
  induction k with
  | zero => intro x9_l2 x10_l2 w hS H; exact absurd (show none = some out from H) (by simp)
  | succ k ih =>
    intro x9_l2 x10_l2 w hS H
    unfold colophonref16_Unlike.l2 at H
    refine WL.round ?_
    refine WC.seq (by kernel_rfl) ?_
    refine WC.seq (by kernel_rfl) ?_
    refine WC.reg [0, 1, 2] (by kernel_rfl) (by kernel_rfl) ?_
    refine WR.runk [0, 1, 2] [] [0, 1, 2, 7, 8, 9, 10, 20] (L' := [(0, .slice A0 l0.length c0), (1, .int .i64 a1), (2, .int .i64 a2), (7, .int .i64 x7_l1), (8, .int .i64 x8_l1), (9, .bool x9_l2), (10, .int .i64 x10_l2), (20, .bool (decide (x10_l2 < x8_l1)))]) (w' := w) (by kernel_rfl) ?_
    refine WR.nil ?_
    refine At.go ?_
    refine WC.cond (by kernel_rfl) (decide (x10_l2 < x8_l1)) (by kernel_rfl) (by kernel_rfl) (fun hb2 => ?_) (fun hb2 => ?_)
    · replace H := ite_t H hb2
      refine WC.skip (by kernel_rfl) ?_
      refine At.go ?_
      refine WC.seq (by kernel_rfl) ?_
      refine WC.block (by kernel_rfl) ?_
      refine WC.drawn (by kernel_rfl) (by kernel_rfl) 13 (by kernel_rfl) (fun w3 hw4 => ?_)
      have hS := hS.heap hw4.1 hw4.2
      refine WD.weaken [0, 1, 2, 7, 8, 9, 10] (L' := [(0, .slice A0 l0.length c0), (1, .int .i64 a1), (2, .int .i64 a2), (7, .int .i64 x7_l1), (8, .int .i64 x8_l1), (9, .bool x9_l2), (10, .int .i64 x10_l2)]) (by kernel_rfl) ?_
      refine WD.pure (i := 0) (v := .bool x9_l2) (by kernel_rfl) (by kernel_rfl) (fun _ => by kernel_rfl) ?_
      refine WD.weaken [0, 1, 2, 7, 8, 9, 10, 23] (L' := [(0, .slice A0 l0.length c0), (1, .int .i64 a1), (2, .int .i64 a2), (7, .int .i64 x7_l1), (8, .int .i64 x8_l1), (9, .bool x9_l2), (10, .int .i64 x10_l2), (23, .bool x9_l2)]) (by kernel_rfl) ?_
      refine WD.pure (i := 1) (v := .bool x9_l2) (by kernel_rfl) (by kernel_rfl) (fun _ => by kernel_rfl) ?_
      refine WD.weaken [0, 1, 2, 7, 8, 9, 10, 24] (L' := [(0, .slice A0 l0.length c0), (1, .int .i64 a1), (2, .int .i64 a2), (7, .int .i64 x7_l1), (8, .int .i64 x8_l1), (9, .bool x9_l2), (10, .int .i64 x10_l2), (24, .bool x9_l2)]) (by kernel_rfl) ?_
      refine WD.split 24 (b := x9_l2) (by kernel_rfl) (fun hb5 => ?_) (fun hb5 => ?_)
      · replace H := ite_t H hb5
        refine WD.weaken [0, 1, 2, 7, 8, 9, 10, 24] (L' := [(0, .slice A0 l0.length c0), (1, .int .i64 a1), (2, .int .i64 a2), (7, .int .i64 x7_l1), (8, .int .i64 x8_l1), (9, .bool x9_l2), (10, .int .i64 x10_l2), (24, .bool true)]) (by kernel_rfl) ?_
        refine WD.skip (i := 2) (by kernel_rfl) (by kernel_rfl) ?_
        refine WD.weaken [0, 1, 2, 7, 8, 9, 10, 24, 25] (L' := [(0, .slice A0 l0.length c0), (1, .int .i64 a1), (2, .int .i64 a2), (7, .int .i64 x7_l1), (8, .int .i64 x8_l1), (9, .bool x9_l2), (10, .int .i64 x10_l2), (24, .bool true), (25, undef)]) (by kernel_rfl) ?_
        refine WD.skip (i := 3) (by kernel_rfl) (by kernel_rfl) ?_
        refine WD.weaken [0, 1, 2, 7, 8, 9, 10, 24, 25, 26] (L' := [(0, .slice A0 l0.length c0), (1, .int .i64 a1), (2, .int .i64 a2), (7, .int .i64 x7_l1), (8, .int .i64 x8_l1), (9, .bool x9_l2), (10, .int .i64 x10_l2), (24, .bool true), (25, undef), (26, undef)]) (by kernel_rfl) ?_
        refine WD.skip (i := 4) (by kernel_rfl) (by kernel_rfl) ?_
        refine WD.weaken [0, 1, 2, 7, 8, 9, 10, 24, 25, 26, 27] (L' := [(0, .slice A0 l0.length c0), (1, .int .i64 a1), (2, .int .i64 a2), (7, .int .i64 x7_l1), (8, .int .i64 x8_l1), (9, .bool x9_l2), (10, .int .i64 x10_l2), (24, .bool true), (25, undef), (26, undef), (27, undef)]) (by kernel_rfl) ?_
        refine WD.skip (i := 5) (by kernel_rfl) (by kernel_rfl) ?_
        refine WD.weaken [0, 1, 2, 7, 8, 9, 10, 24, 25, 26, 27, 28] (L' := [(0, .slice A0 l0.length c0), (1, .int .i64 a1), (2, .int .i64 a2), (7, .int .i64 x7_l1), (8, .int .i64 x8_l1), (9, .bool x9_l2), (10, .int .i64 x10_l2), (24, .bool true), (25, undef), (26, undef), (27, undef), (28, undef)]) (by kernel_rfl) ?_
        refine WD.skip (i := 6) (by kernel_rfl) (by kernel_rfl) ?_
        refine WD.weaken [0, 1, 2, 7, 8, 9, 10, 24, 25, 26, 27, 28, 29] (L' := [(0, .slice A0 l0.length c0), (1, .int .i64 a1), (2, .int .i64 a2), (7, .int .i64 x7_l1), (8, .int .i64 x8_l1), (9, .bool x9_l2), (10, .int .i64 x10_l2), (24, .bool true), (25, undef), (26, undef), (27, undef), (28, undef), (29, undef)]) (by kernel_rfl) ?_
        refine WD.skip (i := 7) (by kernel_rfl) (by kernel_rfl) ?_
        refine WD.weaken [0, 1, 2, 7, 8, 9, 10, 24, 25, 26, 27, 28, 29, 30] (L' := [(0, .slice A0 l0.length c0), (1, .int .i64 a1), (2, .int .i64 a2), (7, .int .i64 x7_l1), (8, .int .i64 x8_l1), (9, .bool x9_l2), (10, .int .i64 x10_l2), (24, .bool true), (25, undef), (26, undef), (27, undef), (28, undef), (29, undef), (30, undef)]) (by kernel_rfl) ?_
        refine WD.skip (i := 8) (by kernel_rfl) (by kernel_rfl) ?_
        refine WD.weaken [0, 1, 2, 7, 8, 9, 10, 24, 25, 26, 27, 28, 29, 30, 31] (L' := [(0, .slice A0 l0.length c0), (1, .int .i64 a1), (2, .int .i64 a2), (7, .int .i64 x7_l1), (8, .int .i64 x8_l1), (9, .bool x9_l2), (10, .int .i64 x10_l2), (24, .bool true), (25, undef), (26, undef), (27, undef), (28, undef), (29, undef), (30, undef), (31, undef)]) (by kernel_rfl) ?_
        refine WD.skip (i := 9) (by kernel_rfl) (by kernel_rfl) ?_
        refine WD.weaken [0, 1, 2, 7, 8, 9, 10, 24, 25, 26, 27, 28, 29, 30, 31, 32] (L' := [(0, .slice A0 l0.length c0), (1, .int .i64 a1), (2, .int .i64 a2), (7, .int .i64 x7_l1), (8, .int .i64 x8_l1), (9, .bool x9_l2), (10, .int .i64 x10_l2), (24, .bool true), (25, undef), (26, undef), (27, undef), (28, undef), (29, undef), (30, undef), (31, undef), (32, undef)]) (by kernel_rfl) ?_
        refine WD.skip (i := 10) (by kernel_rfl) (by kernel_rfl) ?_
        refine WD.weaken [0, 1, 2, 7, 8, 9, 10, 24, 25, 26, 27, 28, 29, 30, 31, 32, 33] (L' := [(0, .slice A0 l0.length c0), (1, .int .i64 a1), (2, .int .i64 a2), (7, .int .i64 x7_l1), (8, .int .i64 x8_l1), (9, .bool x9_l2), (10, .int .i64 x10_l2), (24, .bool true), (25, undef), (26, undef), (27, undef), (28, undef), (29, undef), (30, undef), (31, undef), (32, undef), (33, undef)]) (by kernel_rfl) ?_
        refine WD.pure (i := 11) (v := .bool true) (by kernel_rfl) (by kernel_rfl) (fun _ => by kernel_rfl) ?_
        refine WD.weaken [0, 1, 2, 7, 8, 9, 10, 25, 26, 27, 28, 29, 30, 31, 32, 33, 34] (L' := [(0, .slice A0 l0.length c0), (1, .int .i64 a1), (2, .int .i64 a2), (7, .int .i64 x7_l1), (8, .int .i64 x8_l1), (9, .bool x9_l2), (10, .int .i64 x10_l2), (25, undef), (26, undef), (27, undef), (28, undef), (29, undef), (30, undef), (31, undef), (32, undef), (33, undef), (34, .bool true)]) (by kernel_rfl) ?_
        refine WD.pure (i := 12) (v := .bool true) (by kernel_rfl) (by kernel_rfl) (fun _ => by kernel_rfl) ?_
        refine WD.weaken [0, 1, 2, 7, 8, 9, 10, 25, 26, 27, 28, 29, 30, 31, 32, 33] (L' := [(0, .slice A0 l0.length c0), (1, .int .i64 a1), (2, .int .i64 a2), (7, .int .i64 x7_l1), (8, .int .i64 x8_l1), (9, .bool true), (10, .int .i64 x10_l2), (25, undef), (26, undef), (27, undef), (28, undef), (29, undef), (30, undef), (31, undef), (32, undef), (33, undef)]) (by kernel_rfl) ?_
        refine WD.nil (by kernel_rfl) ?_
        refine At.blockNormal ?_
        refine At.go ?_
        refine WC.reg [0, 1, 2] (by kernel_rfl) (by kernel_rfl) ?_
        refine WR.runk [0, 1, 2] [] [0, 1, 2, 7, 8, 9, 10, 25, 26, 27, 28, 29, 30, 31, 32, 33] (L' := [(0, .slice A0 l0.length c0), (1, .int .i64 a1), (2, .int .i64 a2), (7, .int .i64 x7_l1), (8, .int .i64 x8_l1), (9, .bool true), (10, .int .i64 (wi (x10_l2 + 1))), (25, undef), (26, undef), (27, undef), (28, undef), (29, undef), (30, undef), (31, undef), (32, undef), (33, undef)]) (w' := w3) (by kernel_rfl) ?_
        refine WR.nil ?_
        have hS : Sat w3 (rf w0) [] := hS.sel [] (by kernel_rfl)
        refine At.again ?_
        refine WL.weaken [0, 1, 2, 7, 8, 9, 10] (L' := [(0, .slice A0 l0.length c0), (1, .int .i64 a1), (2, .int .i64 a2), (7, .int .i64 x7_l1), (8, .int .i64 x8_l1), (9, .bool true), (10, .int .i64 (wi (x10_l2 + 1)))]) (by kernel_rfl) ?_
        exact ih true (wi (x10_l2 + 1)) _ hS H
      · replace H := ite_f H hb5
        refine WD.weaken [0, 1, 2, 7, 8, 9, 10, 24] (L' := [(0, .slice A0 l0.length c0), (1, .int .i64 a1), (2, .int .i64 a2), (7, .int .i64 x7_l1), (8, .int .i64 x8_l1), (9, .bool x9_l2), (10, .int .i64 x10_l2), (24, .bool false)]) (by kernel_rfl) ?_
        refine WD.pure (i := 2) (v := .slice A0 l0.length c0) (by kernel_rfl) (by kernel_rfl) (fun _ => by kernel_rfl) ?_
        refine WD.weaken [0, 1, 2, 7, 8, 9, 10, 24, 25] (L' := [(0, .slice A0 l0.length c0), (1, .int .i64 a1), (2, .int .i64 a2), (7, .int .i64 x7_l1), (8, .int .i64 x8_l1), (9, .bool x9_l2), (10, .int .i64 x10_l2), (24, .bool false), (25, .slice A0 l0.length c0)]) (by kernel_rfl) ?_
        refine WD.pure (i := 3) (v := .int .i64 x10_l2) (by kernel_rfl) (by kernel_rfl) (fun _ => by kernel_rfl) ?_
        refine WD.weaken [0, 1, 2, 7, 8, 9, 10, 24, 25, 26] (L' := [(0, .slice A0 l0.length c0), (1, .int .i64 a1), (2, .int .i64 a2), (7, .int .i64 x7_l1), (8, .int .i64 x8_l1), (9, .bool x9_l2), (10, .int .i64 x10_l2), (24, .bool false), (25, .slice A0 l0.length c0), (26, .int .i64 x10_l2)]) (by kernel_rfl) ?_
        obtain ⟨v6, e7, H⟩ := bind_ex H
        refine WD.ofP (i := 4) (by kernel_rfl) (PSt.idx (k := .i64) (.tmp 25) (.tmp 26) (by kernel_rfl) (by kernel_rfl) E22 (by kernel_rfl) (by kernel_rfl) (rdS.up R0 hS.sub0) e7 ?_)
        refine WD.weaken [0, 1, 2, 7, 8, 9, 10, 24, 25, 26, 27] (L' := [(0, .slice A0 l0.length c0), (1, .int .i64 a1), (2, .int .i64 a2), (7, .int .i64 x7_l1), (8, .int .i64 x8_l1), (9, .bool x9_l2), (10, .int .i64 x10_l2), (24, .bool false), (25, .slice A0 l0.length c0), (26, .int .i64 x10_l2), (27, .pointer (some (adr A0 x10_l2.toNat 1)))]) (by kernel_rfl) ?_
        refine WD.ofR (i := 5) (by kernel_rfl) (RSt.loadInt (t := 3) (.tmp 27) (by kernel_rfl) (by kernel_rfl) (by kernel_rfl) (by kernel_rfl) (rdS.up R0 hS.sub0) e7 ?_)
        refine WD.weaken [0, 1, 2, 7, 8, 9, 10, 24, 25, 26, 27, 28] (L' := [(0, .slice A0 l0.length c0), (1, .int .i64 a1), (2, .int .i64 a2), (7, .int .i64 x7_l1), (8, .int .i64 x8_l1), (9, .bool x9_l2), (10, .int .i64 x10_l2), (24, .bool false), (25, .slice A0 l0.length c0), (26, .int .i64 x10_l2), (27, .pointer (some (adr A0 x10_l2.toNat 1))), (28, .int .i64 v6)]) (by kernel_rfl) ?_
        refine WD.pure (i := 6) (v := .slice A0 l0.length c0) (by kernel_rfl) (by kernel_rfl) (fun _ => by kernel_rfl) ?_
        refine WD.weaken [0, 1, 2, 7, 8, 9, 10, 24, 25, 26, 27, 28, 29] (L' := [(0, .slice A0 l0.length c0), (1, .int .i64 a1), (2, .int .i64 a2), (7, .int .i64 x7_l1), (8, .int .i64 x8_l1), (9, .bool x9_l2), (10, .int .i64 x10_l2), (24, .bool false), (25, .slice A0 l0.length c0), (26, .int .i64 x10_l2), (27, .pointer (some (adr A0 x10_l2.toNat 1))), (28, .int .i64 v6), (29, .slice A0 l0.length c0)]) (by kernel_rfl) ?_
        refine WD.pure (i := 7) (v := .int .i64 x8_l1) (by kernel_rfl) (by kernel_rfl) (fun _ => by kernel_rfl) ?_
        refine WD.weaken [0, 1, 2, 7, 8, 9, 10, 24, 25, 26, 27, 28, 29, 30] (L' := [(0, .slice A0 l0.length c0), (1, .int .i64 a1), (2, .int .i64 a2), (7, .int .i64 x7_l1), (8, .int .i64 x8_l1), (9, .bool x9_l2), (10, .int .i64 x10_l2), (24, .bool false), (25, .slice A0 l0.length c0), (26, .int .i64 x10_l2), (27, .pointer (some (adr A0 x10_l2.toNat 1))), (28, .int .i64 v6), (29, .slice A0 l0.length c0), (30, .int .i64 x8_l1)]) (by kernel_rfl) ?_
        obtain ⟨v8, e9, H⟩ := bind_ex H
        refine WD.ofP (i := 8) (by kernel_rfl) (PSt.idx (k := .i64) (.tmp 29) (.tmp 30) (by kernel_rfl) (by kernel_rfl) E22 (by kernel_rfl) (by kernel_rfl) (rdS.up R0 hS.sub0) e9 ?_)
        refine WD.weaken [0, 1, 2, 7, 8, 9, 10, 24, 25, 26, 27, 28, 29, 30, 31] (L' := [(0, .slice A0 l0.length c0), (1, .int .i64 a1), (2, .int .i64 a2), (7, .int .i64 x7_l1), (8, .int .i64 x8_l1), (9, .bool x9_l2), (10, .int .i64 x10_l2), (24, .bool false), (25, .slice A0 l0.length c0), (26, .int .i64 x10_l2), (27, .pointer (some (adr A0 x10_l2.toNat 1))), (28, .int .i64 v6), (29, .slice A0 l0.length c0), (30, .int .i64 x8_l1), (31, .pointer (some (adr A0 x8_l1.toNat 1)))]) (by kernel_rfl) ?_
        refine WD.ofR (i := 9) (by kernel_rfl) (RSt.loadInt (t := 3) (.tmp 31) (by kernel_rfl) (by kernel_rfl) (by kernel_rfl) (by kernel_rfl) (rdS.up R0 hS.sub0) e9 ?_)
        refine WD.weaken [0, 1, 2, 7, 8, 9, 10, 24, 25, 26, 27, 28, 29, 30, 31, 32] (L' := [(0, .slice A0 l0.length c0), (1, .int .i64 a1), (2, .int .i64 a2), (7, .int .i64 x7_l1), (8, .int .i64 x8_l1), (9, .bool x9_l2), (10, .int .i64 x10_l2), (24, .bool false), (25, .slice A0 l0.length c0), (26, .int .i64 x10_l2), (27, .pointer (some (adr A0 x10_l2.toNat 1))), (28, .int .i64 v6), (29, .slice A0 l0.length c0), (30, .int .i64 x8_l1), (31, .pointer (some (adr A0 x8_l1.toNat 1))), (32, .int .i64 v8)]) (by kernel_rfl) ?_
        refine WD.pure (i := 10) (v := .bool (v6 == v8)) (by kernel_rfl) (by kernel_rfl) (fun _ => by kernel_rfl) ?_
        refine WD.weaken [0, 1, 2, 7, 8, 9, 10, 24, 25, 26, 27, 28, 29, 30, 31, 32, 33] (L' := [(0, .slice A0 l0.length c0), (1, .int .i64 a1), (2, .int .i64 a2), (7, .int .i64 x7_l1), (8, .int .i64 x8_l1), (9, .bool x9_l2), (10, .int .i64 x10_l2), (24, .bool false), (25, .slice A0 l0.length c0), (26, .int .i64 x10_l2), (27, .pointer (some (adr A0 x10_l2.toNat 1))), (28, .int .i64 v6), (29, .slice A0 l0.length c0), (30, .int .i64 x8_l1), (31, .pointer (some (adr A0 x8_l1.toNat 1))), (32, .int .i64 v8), (33, .bool (v6 == v8))]) (by kernel_rfl) ?_
        refine WD.pure (i := 11) (v := .bool (v6 == v8)) (by kernel_rfl) (by kernel_rfl) (fun _ => by kernel_rfl) ?_
        refine WD.weaken [0, 1, 2, 7, 8, 9, 10, 25, 26, 27, 28, 29, 30, 31, 32, 33, 34] (L' := [(0, .slice A0 l0.length c0), (1, .int .i64 a1), (2, .int .i64 a2), (7, .int .i64 x7_l1), (8, .int .i64 x8_l1), (9, .bool x9_l2), (10, .int .i64 x10_l2), (25, .slice A0 l0.length c0), (26, .int .i64 x10_l2), (27, .pointer (some (adr A0 x10_l2.toNat 1))), (28, .int .i64 v6), (29, .slice A0 l0.length c0), (30, .int .i64 x8_l1), (31, .pointer (some (adr A0 x8_l1.toNat 1))), (32, .int .i64 v8), (33, .bool (v6 == v8)), (34, .bool (v6 == v8))]) (by kernel_rfl) ?_
        refine WD.pure (i := 12) (v := .bool (v6 == v8)) (by kernel_rfl) (by kernel_rfl) (fun _ => by kernel_rfl) ?_
        refine WD.weaken [0, 1, 2, 7, 8, 9, 10, 25, 26, 27, 28, 29, 30, 31, 32, 33] (L' := [(0, .slice A0 l0.length c0), (1, .int .i64 a1), (2, .int .i64 a2), (7, .int .i64 x7_l1), (8, .int .i64 x8_l1), (9, .bool (v6 == v8)), (10, .int .i64 x10_l2), (25, .slice A0 l0.length c0), (26, .int .i64 x10_l2), (27, .pointer (some (adr A0 x10_l2.toNat 1))), (28, .int .i64 v6), (29, .slice A0 l0.length c0), (30, .int .i64 x8_l1), (31, .pointer (some (adr A0 x8_l1.toNat 1))), (32, .int .i64 v8), (33, .bool (v6 == v8))]) (by kernel_rfl) ?_
        refine WD.nil (by kernel_rfl) ?_
        refine At.blockNormal ?_
        refine At.go ?_
        refine WC.reg [0, 1, 2] (by kernel_rfl) (by kernel_rfl) ?_
        refine WR.runk [0, 1, 2] [] [0, 1, 2, 7, 8, 9, 10, 25, 26, 27, 28, 29, 30, 31, 32, 33] (L' := [(0, .slice A0 l0.length c0), (1, .int .i64 a1), (2, .int .i64 a2), (7, .int .i64 x7_l1), (8, .int .i64 x8_l1), (9, .bool (v6 == v8)), (10, .int .i64 (wi (x10_l2 + 1))), (25, .slice A0 l0.length c0), (26, .int .i64 x10_l2), (27, .pointer (some (adr A0 x10_l2.toNat 1))), (28, .int .i64 v6), (29, .slice A0 l0.length c0), (30, .int .i64 x8_l1), (31, .pointer (some (adr A0 x8_l1.toNat 1))), (32, .int .i64 v8), (33, .bool (v6 == v8))]) (w' := w3) (by kernel_rfl) ?_
        refine WR.nil ?_
        have hS : Sat w3 (rf w0) [] := hS.sel [] (by kernel_rfl)
        refine At.again ?_
        refine WL.weaken [0, 1, 2, 7, 8, 9, 10] (L' := [(0, .slice A0 l0.length c0), (1, .int .i64 a1), (2, .int .i64 a2), (7, .int .i64 x7_l1), (8, .int .i64 x8_l1), (9, .bool (v6 == v8)), (10, .int .i64 (wi (x10_l2 + 1)))]) (by kernel_rfl) ?_
        exact ih (v6 == v8) (wi (x10_l2 + 1)) _ hS H
    · replace H := ite_f H hb2
      refine WC.exit (by kernel_rfl) ?_
      refine At.thenExit ?_
      refine At.thenExit ?_
      obtain rfl := Option.some.inj H
      have hS : Sat w (rf w0) [] := hS.sel [] (by kernel_rfl)
      refine At.weaken [0, 1, 2, 7, 8, 9] (L' := [(0, .slice A0 l0.length c0), (1, .int .i64 a1), (2, .int .i64 a2), (7, .int .i64 x7_l1), (8, .int .i64 x8_l1), (9, .bool x9_l2)]) (by kernel_rfl) ?_
      exact hn0 _ hS
theorem colophonref16_Unlike.l1_ok {Q} (w0 : World) (A0 : Option Addr) (c0 : Nat) (l0 : List Int) (a1 : Int) (a2 : Int) (R0 : rdS (r0 (.int .i64)) 1 (hp w0) A0 c0 l0) (out : Int) (hn0 : ∀ (w : World), Sat w (rf w0) [] → At Q (.exit 0) 40 [(7, .int .i64 out)] w) :
    ∀ (k : Nat) (x7_l1 : Int) (x8_l1 : Int) (w : World), Sat w (rf w0) [] → colophonref16_Unlike.l1 l0 a1 a2 k x7_l1 x8_l1 = some out → WL Try.prog (cbody (cbody (cr (cl (cr (cr C16)))))) Q 40 [(0, .slice A0 l0.length c0), (1, .int .i64 a1), (2, .int .i64 a2), (7, .int .i64 x7_l1), (8, .int .i64 x8_l1)] w := by
  intro k
  induction k with
  | zero => intro x7_l1 x8_l1 w hS H; exact absurd (show none = some out from H) (by simp)
  | succ k ih =>
    intro x7_l1 x8_l1 w hS H
    unfold colophonref16_Unlike.l1 at H
    refine WL.round ?_
    refine WC.seq (by kernel_rfl) ?_
    refine WC.seq (by kernel_rfl) ?_
    refine WC.reg [0, 1, 2] (by kernel_rfl) (by kernel_rfl) ?_
    refine WR.runk [0, 1, 2] [] [0, 1, 2, 7, 8, 14] (L' := [(0, .slice A0 l0.length c0), (1, .int .i64 a1), (2, .int .i64 a2), (7, .int .i64 x7_l1), (8, .int .i64 x8_l1), (14, .bool (decide (x8_l1 < a2)))]) (w' := w) (by kernel_rfl) ?_
    refine WR.nil ?_
    refine At.go ?_
    refine WC.cond (by kernel_rfl) (decide (x8_l1 < a2)) (by kernel_rfl) (by kernel_rfl) (fun hb1 => ?_) (fun hb1 => ?_)
    · replace H := ite_t H hb1
      refine WC.skip (by kernel_rfl) ?_
      refine At.go ?_
      refine WC.seq (by kernel_rfl) ?_
      refine WC.block (by kernel_rfl) ?_
      refine WC.seq (by kernel_rfl) ?_
      refine WC.reg [0] (by kernel_rfl) (by kernel_rfl) ?_
      refine WR.runk [0] [] [0, 1, 2, 7, 8, 9] (L' := [(0, .slice A0 l0.length c0), (1, .int .i64 a1), (2, .int .i64 a2), (7, .int .i64 x7_l1), (8, .int .i64 x8_l1), (9, .bool false)]) (w' := w) (by kernel_rfl) ?_
      refine WR.nil ?_
      refine At.go ?_
      refine WC.seq (by kernel_rfl) ?_
      refine WC.seq (by kernel_rfl) ?_
      refine WC.reg [0, 1] (by kernel_rfl) (by kernel_rfl) ?_
      refine WR.runk [0, 1] [] [0, 1, 2, 7, 8, 9, 10] (L' := [(0, .slice A0 l0.length c0), (1, .int .i64 a1), (2, .int .i64 a2), (7, .int .i64 x7_l1), (8, .int .i64 x8_l1), (9, .bool false), (10, .int .i64 a1)]) (w' := w) (by kernel_rfl) ?_
      refine WR.nil ?_
      refine At.go ?_
      refine WC.block (by kernel_rfl) ?_
      have hS : Sat w (rf w0) [] := hS.sel [] (by kernel_rfl)
      obtain ⟨o10, e11, H⟩ := bind_ex H
      refine WC.loop (by kernel_rfl) ?_
      refine WL.weaken [0, 1, 2, 7, 8, 9, 10] (L' := [(0, .slice A0 l0.length c0), (1, .int .i64 a1), (2, .int .i64 a2), (7, .int .i64 x7_l1), (8, .int .i64 x8_l1), (9, .bool false), (10, .int .i64 a1)]) (by kernel_rfl) ?_
      refine colophonref16_Unlike.l2_ok w0 A0 c0 l0 a1 a2 x7_l1 x8_l1 R0 o10 (fun w13 hS => ?_) FU false a1 _ hS e11
      refine At.hit ?_
      refine At.go ?_
      refine WC.seq (by kernel_rfl) ?_
      refine WC.reg [0, 1] (by kernel_rfl) (by kernel_rfl) ?_
      refine WR.runk [0, 1] [] [0, 1, 2, 7, 8, 36] (L' := [(0, .slice A0 l0.length c0), (1, .int .i64 a1), (2, .int .i64 a2), (7, .int .i64 x7_l1), (8, .int .i64 x8_l1), (36, .bool (!o10))]) (w' := w13) (by kernel_rfl) ?_
      refine WR.nil ?_
      refine At.go ?_
      refine WC.cond (by kernel_rfl) (!o10) (by kernel_rfl) (by kernel_rfl) (fun hb15 => ?_) (fun hb15 => ?_)
      · replace H := ite_t H hb15
        refine WC.reg [0, 1, 2] (by kernel_rfl) (by kernel_rfl) ?_
        refine WR.runk [0, 1, 2] [] [0, 1, 2, 7, 8] (L' := [(0, .slice A0 l0.length c0), (1, .int .i64 a1), (2, .int .i64 a2), (7, .int .i64 (wi (x7_l1 + 1))), (8, .int .i64 x8_l1)]) (w' := w13) (by kernel_rfl) ?_
        refine WR.nil ?_
        refine At.blockNormal ?_
        refine At.go ?_
        refine WC.reg [0, 1, 2] (by kernel_rfl) (by kernel_rfl) ?_
        refine WR.runk [0, 1, 2] [] [0, 1, 2, 7, 8] (L' := [(0, .slice A0 l0.length c0), (1, .int .i64 a1), (2, .int .i64 a2), (7, .int .i64 (wi (x7_l1 + 1))), (8, .int .i64 (wi (x8_l1 + 1)))]) (w' := w13) (by kernel_rfl) ?_
        refine WR.nil ?_
        have hS : Sat w13 (rf w0) [] := hS.sel [] (by kernel_rfl)
        refine At.again ?_
        refine WL.weaken [0, 1, 2, 7, 8] (L' := [(0, .slice A0 l0.length c0), (1, .int .i64 a1), (2, .int .i64 a2), (7, .int .i64 (wi (x7_l1 + 1))), (8, .int .i64 (wi (x8_l1 + 1)))]) (by kernel_rfl) ?_
        exact ih (wi (x7_l1 + 1)) (wi (x8_l1 + 1)) _ hS H
      · replace H := ite_f H hb15
        refine WC.skip (by kernel_rfl) ?_
        refine At.blockNormal ?_
        refine At.go ?_
        refine WC.reg [0, 1, 2] (by kernel_rfl) (by kernel_rfl) ?_
        refine WR.runk [0, 1, 2] [] [0, 1, 2, 7, 8] (L' := [(0, .slice A0 l0.length c0), (1, .int .i64 a1), (2, .int .i64 a2), (7, .int .i64 x7_l1), (8, .int .i64 (wi (x8_l1 + 1)))]) (w' := w13) (by kernel_rfl) ?_
        refine WR.nil ?_
        have hS : Sat w13 (rf w0) [] := hS.sel [] (by kernel_rfl)
        refine At.again ?_
        refine WL.weaken [0, 1, 2, 7, 8] (L' := [(0, .slice A0 l0.length c0), (1, .int .i64 a1), (2, .int .i64 a2), (7, .int .i64 x7_l1), (8, .int .i64 (wi (x8_l1 + 1)))]) (by kernel_rfl) ?_
        exact ih x7_l1 (wi (x8_l1 + 1)) _ hS H
    · replace H := ite_f H hb1
      refine WC.exit (by kernel_rfl) ?_
      refine At.thenExit ?_
      refine At.thenExit ?_
      obtain rfl := Option.some.inj H
      have hS : Sat w (rf w0) [] := hS.sel [] (by kernel_rfl)
      refine At.weaken [7] (L' := [(7, .int .i64 x7_l1)]) (by kernel_rfl) ?_
      exact hn0 _ hS
theorem colophonref16_Unlike.calls (w0 : World) (A0 : Option Addr) (c0 : Nat) (l0 : List Int) (R0 : rdS (r0 (.int .i64)) 1 (hp w0) A0 c0 l0) (a1 : Int) (a2 : Int) (r : Int) (H : colophonref16_Unlike.f l0 a1 a2 = some r) :
    Calls Try.prog 16 #[.slice A0 l0.length c0, .int .i64 a1, .int .i64 a2] w0 (fun e w' => ∃ v, e = .returned v ∧ colophonref16_Unlike.post w0 r v w') := by
  have hS : Sat w0 (rf w0) [] := Sat.start w0
  unfold colophonref16_Unlike.f at H
  refine calls_of_WC (vs := [.slice A0 l0.length c0, .int .i64 a1, .int .i64 a2]) Try.func16 (c := C16) (n := 40) (by kernel_rfl) (by kernel_rfl) (by kernel_rfl) ?_
  refine WC.seq (by kernel_rfl) ?_
  refine WC.reg [0] (by kernel_rfl) (by kernel_rfl) ?_
  refine WR.runk [0] [] [0, 1, 2] (L' := [(0, .slice A0 l0.length c0), (1, .int .i64 a1), (2, .int .i64 a2)]) (w' := w0) (by kernel_rfl) ?_
  refine WR.nil ?_
  refine At.go ?_
  refine WC.seq (by kernel_rfl) ?_
  refine WC.reg [0] (by kernel_rfl) (by kernel_rfl) ?_
  refine WR.runk [0] [] [0, 1, 2, 7] (L' := [(0, .slice A0 l0.length c0), (1, .int .i64 a1), (2, .int .i64 a2), (7, .int .i64 0)]) (w' := w0) (by kernel_rfl) ?_
  refine WR.nil ?_
  refine At.go ?_
  refine WC.seq (by kernel_rfl) ?_
  refine WC.seq (by kernel_rfl) ?_
  refine WC.reg [0, 1] (by kernel_rfl) (by kernel_rfl) ?_
  refine WR.runk [0, 1] [] [0, 1, 2, 7, 8] (L' := [(0, .slice A0 l0.length c0), (1, .int .i64 a1), (2, .int .i64 a2), (7, .int .i64 0), (8, .int .i64 a1)]) (w' := w0) (by kernel_rfl) ?_
  refine WR.nil ?_
  refine At.go ?_
  refine WC.block (by kernel_rfl) ?_
  have hS : Sat w0 (rf w0) [] := hS.sel [] (by kernel_rfl)
  obtain ⟨o16, e17, H⟩ := bind_ex H
  refine WC.loop (by kernel_rfl) ?_
  refine WL.weaken [0, 1, 2, 7, 8] (L' := [(0, .slice A0 l0.length c0), (1, .int .i64 a1), (2, .int .i64 a2), (7, .int .i64 0), (8, .int .i64 a1)]) (by kernel_rfl) ?_
  refine colophonref16_Unlike.l1_ok w0 A0 c0 l0 a1 a2 R0 o16 (fun w19 hS => ?_) FU 0 a1 _ hS e17
  refine At.hit ?_
  refine At.go ?_
  refine WC.seq (by kernel_rfl) ?_
  refine WC.reg [0, 1] (by kernel_rfl) (by kernel_rfl) ?_
  refine WR.runk [0, 1] [] [6] (L' := [(6, .int .i64 o16)]) (w' := w19) (by kernel_rfl) ?_
  refine WR.nil ?_
  refine At.go ?_
  refine WC.ret (by kernel_rfl) ?_
  obtain rfl := Option.some.inj H
  have hS : Sat w19 (rf w0) [] := hS.sel [] (by kernel_rfl)
  exact At.body [.int .i64 o16] (by kernel_rfl) ⟨_, rfl, rfl, hS⟩
end Go.Proofs.Ytmdemfbkdbilpaa
