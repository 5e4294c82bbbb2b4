/-
  Printed by gen.py (my own tool): for each Go function a plain Lean function and the proof that a call of it does what that function says.
-/
import Derived.Test.YtejjdfnelalnoaaGP1c
set_option linter.unusedVariables false
set_option linter.unusedSimpArgs false
set_option maxRecDepth 100000
namespace Go.Proofs.Ytejjdfnelalnoaa
open Go Go.Gol
/-! ### 3 colophon/colophonlaw06.ImageOpens -/
def colophonlaw06_ImageOpens.l1 (a1 : Bool) : Nat → (List Int) → Int → Option (List Int)
  | 0, _, _ => none
  | k + 1, x5_l1, x6_l1 => (if a1 then (if decide (wi (x6_l1 + 264) ≤ (x5_l1.length : Int)) then ((sub? x5_l1 x6_l1 (wi (x6_l1 + 264))).bind fun y23 => ((sub? x5_l1 x6_l1 (wi (x6_l1 + 260))).bind fun y25 => ((colophonref04_Put.f y25).bind fun r30 => colophonlaw06_ImageOpens.l1 a1 k (cpyIn x5_l1 x6_l1.toNat (wi (x6_l1 + 264)).toNat y23 r30) (wi (x6_l1 + 264))))) else some x5_l1) else some x5_l1)
def colophonlaw06_ImageOpens.l2 (y51 : List Int) : Nat → (List Int) → Int → Option Unit
  | 0, _, _ => none
  | k + 1, x7_l2, x53_l2 => (if decide (x53_l2 < (y51.length : Int)) then ((at? x7_l2 x53_l2).bind fun v71 => ((set? x7_l2 x53_l2 (ixor .u8 v71 255)).bind fun y73 => colophonlaw06_ImageOpens.l2 y51 k y73 (wi (x53_l2 + 1)))) else some ())
def colophonlaw06_ImageOpens.l3 (y51 : List Int) : Nat → (List Int) → Int → Option Unit
  | 0, _, _ => none
  | k + 1, x7_l3, x53_l3 => (if decide (x53_l3 < (y51.length : Int)) then ((at? x7_l3 x53_l3).bind fun v118 => ((set? x7_l3 x53_l3 (ixor .u8 v118 255)).bind fun y120 => colophonlaw06_ImageOpens.l3 y51 k y120 (wi (x53_l3 + 1)))) else some ())
def colophonlaw06_ImageOpens.f (l0 : List Int) (a1 : Bool) : Option Bool := (colophonlaw06_first.f.bind fun r1 => (if (!r1) then some false else (if decide ((l0.length : Int) > 100000) then some true else ((app? 140737488355328 (([] : List Int) : List Int) l0).bind fun y15 => ((colophonlaw06_ImageOpens.l1 a1 FU y15 0).bind fun o43 => ((app? 140737488355328 (([] : List Int) : List Int) o43).bind fun y51 => ((image_Open.f y51).bind fun r55 => (match r55.1 with | none => ((colophonlaw06_ImageOpens.l3 y51 FU y51 0).bind fun o124 => ((colophonref06_Open.f o43).bind fun r129 => (if (!r129.2) then (if (r55.2 == 10) then some true else some false) else (if (r55.2 == 0) then ((colophonlaw06_read.f none).bind fun r143 => ((colophonref06_Same.f r143 r129.1).bind fun r154 => some r154)) else some false)))) | some y65 => ((colophonlaw06_ImageOpens.l2 y51 FU y51 0).bind fun o77 => ((colophonref06_Open.f o43).bind fun r82 => (if (!r82.2) then (if (r55.2 == 10) then some false else some false) else (if (r55.2 == 0) then ((colophonlaw06_read.f (some y65)).bind fun r96 => ((colophonref06_Same.f r96 r82.1).bind fun r107 => some r107)) else some false))))))))))))
def colophonlaw06_ImageOpens.post (w : World) (r : Bool) (v : Value) (w' : World) : Prop := v = (.bool r : Value) ∧ Sat w' (rf w) []
theorem colophonlaw06_ImageOpens.l1_ok {Q} (w0 : World) (a1 : Bool) (out : (List Int)) (hn0 : ∀ (A5_q : Option Addr) (c5_q : Nat) (w : World), Sat w (rf w0) [osl 5 (r0 (.int .u8)) 1 A5_q c5_q out] → At Q (.exit 0) 84 [(5, .slice A5_q out.length c5_q)] w) :
    ∀ (k : Nat) (x5_l1 : List Int) (x6_l1 : Int) (A5_l1 : Option Addr) (c5_l1 : Nat) (w : World), Sat w (rf w0) [osl 5 (r0 (.int .u8)) 1 A5_l1 c5_l1 x5_l1] → colophonlaw06_ImageOpens.l1 a1 k x5_l1 x6_l1 = some out → WL Try.prog (cbody (cbody (cr (cl (cr (cr (cr (cr C3)))))))) Q 84 [(1, .bool a1), (5, .slice A5_l1 x5_l1.length c5_l1), (6, .int .i64 x6_l1)] w := by
  intro k
  induction k with
  | zero => intro x5_l1 x6_l1 A5_l1 c5_l1 w hS H; exact absurd (show none = some out from H) (by simp)
  | succ k ih =>
    intro x5_l1 x6_l1 A5_l1 c5_l1 w hS H
    unfold colophonlaw06_ImageOpens.l1 at H
    refine WL.round ?_
    refine WC.seq (by kernel_rfl) ?_
    refine WC.seq (by kernel_rfl) ?_
    refine WC.reg [0, 1, 2, 3, 4, 5, 6, 7] (by kernel_rfl) (by kernel_rfl) ?_
    refine WR.runk [0, 1] [2, 3, 4, 5, 6, 7] [1, 5, 6, 22] (L' := [(1, .bool a1), (5, .slice A5_l1 x5_l1.length c5_l1), (6, .int .i64 x6_l1), (22, .bool a1)]) (w' := w) (by kernel_rfl) ?_
    refine WR.split 22 (b := a1) (by kernel_rfl) (fun hb19 => ?_) (fun hb19 => ?_)
    · replace H := ite_t H hb19
      refine WR.runk [2, 3, 4, 5, 6, 7] [] [1, 5, 6, 23, 24, 25, 26, 27, 28] (L' := [(1, .bool a1), (5, .slice A5_l1 x5_l1.length c5_l1), (6, .int .i64 x6_l1), (23, .int .i64 x6_l1), (24, .int .i64 (wi (x6_l1 + 264))), (25, .slice A5_l1 x5_l1.length c5_l1), (26, .int .i64 (x5_l1.length : Int)), (27, .bool (decide (wi (x6_l1 + 264) ≤ (x5_l1.length : Int)))), (28, .bool (decide (wi (x6_l1 + 264) ≤ (x5_l1.length : Int))))]) (w' := w) (by kernel_rfl) ?_
      refine WR.nil ?_
      refine At.go ?_
      refine WC.cond (by kernel_rfl) (decide (wi (x6_l1 + 264) ≤ (x5_l1.length : Int))) (by kernel_rfl) (by kernel_rfl) (fun hb20 => ?_) (fun hb20 => ?_)
      · replace H := ite_t H hb20
        refine WC.skip (by kernel_rfl) ?_
        refine At.go ?_
        refine WC.seq (by kernel_rfl) ?_
        refine WC.block (by kernel_rfl) ?_
        refine WC.drawn (by kernel_rfl) (by kernel_rfl) 12 (by kernel_rfl) (fun w21 hw22 => ?_)
        have hS := hS.heap hw22.1 hw22.2
        refine WD.weaken [1, 5, 6, 23, 24, 25, 26] (L' := [(1, .bool a1), (5, .slice A5_l1 x5_l1.length c5_l1), (6, .int .i64 x6_l1), (23, .int .i64 x6_l1), (24, .int .i64 (wi (x6_l1 + 264))), (25, .slice A5_l1 x5_l1.length c5_l1), (26, .int .i64 (x5_l1.length : Int))]) (by kernel_rfl) ?_
        refine WD.pure (i := 0) (v := .slice A5_l1 x5_l1.length c5_l1) (by kernel_rfl) (by kernel_rfl) (fun _ => by kernel_rfl) ?_
        refine WD.weaken [1, 5, 6, 23, 24, 25, 26, 31] (L' := [(1, .bool a1), (5, .slice A5_l1 x5_l1.length c5_l1), (6, .int .i64 x6_l1), (23, .int .i64 x6_l1), (24, .int .i64 (wi (x6_l1 + 264))), (25, .slice A5_l1 x5_l1.length c5_l1), (26, .int .i64 (x5_l1.length : Int)), (31, .slice A5_l1 x5_l1.length c5_l1)]) (by kernel_rfl) ?_
        refine WD.pure (i := 1) (v := .int .i64 x6_l1) (by kernel_rfl) (by kernel_rfl) (fun _ => by kernel_rfl) ?_
        refine WD.weaken [1, 5, 6, 23, 24, 25, 26, 31, 32] (L' := [(1, .bool a1), (5, .slice A5_l1 x5_l1.length c5_l1), (6, .int .i64 x6_l1), (23, .int .i64 x6_l1), (24, .int .i64 (wi (x6_l1 + 264))), (25, .slice A5_l1 x5_l1.length c5_l1), (26, .int .i64 (x5_l1.length : Int)), (31, .slice A5_l1 x5_l1.length c5_l1), (32, .int .i64 x6_l1)]) (by kernel_rfl) ?_
        refine WD.pure (i := 2) (v := .int .i64 x6_l1) (by kernel_rfl) (by kernel_rfl) (fun _ => by kernel_rfl) ?_
        refine WD.weaken [1, 5, 6, 23, 24, 25, 26, 31, 32, 33] (L' := [(1, .bool a1), (5, .slice A5_l1 x5_l1.length c5_l1), (6, .int .i64 x6_l1), (23, .int .i64 x6_l1), (24, .int .i64 (wi (x6_l1 + 264))), (25, .slice A5_l1 x5_l1.length c5_l1), (26, .int .i64 (x5_l1.length : Int)), (31, .slice A5_l1 x5_l1.length c5_l1), (32, .int .i64 x6_l1), (33, .int .i64 x6_l1)]) (by kernel_rfl) ?_
        refine WD.pure (i := 3) (v := .int .i64 (wi (x6_l1 + 264))) (by kernel_rfl) (by kernel_rfl) (fun _ => by kernel_rfl) ?_
        refine WD.weaken [1, 5, 6, 23, 24, 25, 26, 31, 32, 34] (L' := [(1, .bool a1), (5, .slice A5_l1 x5_l1.length c5_l1), (6, .int .i64 x6_l1), (23, .int .i64 x6_l1), (24, .int .i64 (wi (x6_l1 + 264))), (25, .slice A5_l1 x5_l1.length c5_l1), (26, .int .i64 (x5_l1.length : Int)), (31, .slice A5_l1 x5_l1.length c5_l1), (32, .int .i64 x6_l1), (34, .int .i64 (wi (x6_l1 + 264)))]) (by kernel_rfl) ?_
        obtain ⟨y23, e24, H⟩ := bind_ex H
        refine WD.ofP (i := 4) (by kernel_rfl) (PSt.win (A := A5_l1) (c := c5_l1) (jl := x6_l1) (.tmp 31) (some (.tmp 32)) (some (.tmp 34)) (by kernel_rfl) (by kernel_rfl) E22 (by kernel_rfl) (Sat.rdAt 0 hS rfl).1 e24 (Exists.intro IntKind.i64 (by kernel_rfl)) (Exists.intro IntKind.i64 (by kernel_rfl)) ?_)
        refine WD.weaken [1, 5, 6, 23, 24, 25, 26, 35] (L' := [(1, .bool a1), (5, .slice A5_l1 x5_l1.length c5_l1), (6, .int .i64 x6_l1), (23, .int .i64 x6_l1), (24, .int .i64 (wi (x6_l1 + 264))), (25, .slice A5_l1 x5_l1.length c5_l1), (26, .int .i64 (x5_l1.length : Int)), (35, .slice (win A5_l1 c5_l1 x6_l1.toNat) y23.length (c5_l1 - x6_l1.toNat))]) (by kernel_rfl) ?_
        refine WD.pure (i := 5) (v := .slice A5_l1 x5_l1.length c5_l1) (by kernel_rfl) (by kernel_rfl) (fun _ => by kernel_rfl) ?_
        refine WD.weaken [1, 5, 6, 23, 24, 25, 26, 35, 36] (L' := [(1, .bool a1), (5, .slice A5_l1 x5_l1.length c5_l1), (6, .int .i64 x6_l1), (23, .int .i64 x6_l1), (24, .int .i64 (wi (x6_l1 + 264))), (25, .slice A5_l1 x5_l1.length c5_l1), (26, .int .i64 (x5_l1.length : Int)), (35, .slice (win A5_l1 c5_l1 x6_l1.toNat) y23.length (c5_l1 - x6_l1.toNat)), (36, .slice A5_l1 x5_l1.length c5_l1)]) (by kernel_rfl) ?_
        refine WD.pure (i := 6) (v := .int .i64 x6_l1) (by kernel_rfl) (by kernel_rfl) (fun _ => by kernel_rfl) ?_
        refine WD.weaken [1, 5, 6, 23, 24, 25, 26, 35, 36, 37] (L' := [(1, .bool a1), (5, .slice A5_l1 x5_l1.length c5_l1), (6, .int .i64 x6_l1), (23, .int .i64 x6_l1), (24, .int .i64 (wi (x6_l1 + 264))), (25, .slice A5_l1 x5_l1.length c5_l1), (26, .int .i64 (x5_l1.length : Int)), (35, .slice (win A5_l1 c5_l1 x6_l1.toNat) y23.length (c5_l1 - x6_l1.toNat)), (36, .slice A5_l1 x5_l1.length c5_l1), (37, .int .i64 x6_l1)]) (by kernel_rfl) ?_
        refine WD.pure (i := 7) (v := .int .i64 x6_l1) (by kernel_rfl) (by kernel_rfl) (fun _ => by kernel_rfl) ?_
        refine WD.weaken [1, 5, 6, 23, 24, 25, 26, 35, 36, 37, 38] (L' := [(1, .bool a1), (5, .slice A5_l1 x5_l1.length c5_l1), (6, .int .i64 x6_l1), (23, .int .i64 x6_l1), (24, .int .i64 (wi (x6_l1 + 264))), (25, .slice A5_l1 x5_l1.length c5_l1), (26, .int .i64 (x5_l1.length : Int)), (35, .slice (win A5_l1 c5_l1 x6_l1.toNat) y23.length (c5_l1 - x6_l1.toNat)), (36, .slice A5_l1 x5_l1.length c5_l1), (37, .int .i64 x6_l1), (38, .int .i64 x6_l1)]) (by kernel_rfl) ?_
        refine WD.pure (i := 8) (v := .int .i64 (wi (x6_l1 + 260))) (by kernel_rfl) (by kernel_rfl) (fun _ => by kernel_rfl) ?_
        refine WD.weaken [1, 5, 6, 23, 24, 25, 26, 35, 36, 37, 39] (L' := [(1, .bool a1), (5, .slice A5_l1 x5_l1.length c5_l1), (6, .int .i64 x6_l1), (23, .int .i64 x6_l1), (24, .int .i64 (wi (x6_l1 + 264))), (25, .slice A5_l1 x5_l1.length c5_l1), (26, .int .i64 (x5_l1.length : Int)), (35, .slice (win A5_l1 c5_l1 x6_l1.toNat) y23.length (c5_l1 - x6_l1.toNat)), (36, .slice A5_l1 x5_l1.length c5_l1), (37, .int .i64 x6_l1), (39, .int .i64 (wi (x6_l1 + 260)))]) (by kernel_rfl) ?_
        obtain ⟨y25, e26, H⟩ := bind_ex H
        refine WD.ofP (i := 9) (by kernel_rfl) (PSt.sub (A := A5_l1) (c := c5_l1) (.tmp 36) (some (.tmp 37)) (some (.tmp 39)) none (by kernel_rfl) (by kernel_rfl) E22 (by kernel_rfl) (Sat.rdAt 0 hS rfl).1 e26 (Exists.intro IntKind.i64 (by kernel_rfl)) (Exists.intro IntKind.i64 (by kernel_rfl)) trivial (fun A27 c28 T29 => ?_))
        refine WD.weaken [1, 5, 6, 23, 24, 25, 26, 35, 40] (L' := [(1, .bool a1), (5, .slice A5_l1 x5_l1.length c5_l1), (6, .int .i64 x6_l1), (23, .int .i64 x6_l1), (24, .int .i64 (wi (x6_l1 + 264))), (25, .slice A5_l1 x5_l1.length c5_l1), (26, .int .i64 (x5_l1.length : Int)), (35, .slice (win A5_l1 c5_l1 x6_l1.toNat) y23.length (c5_l1 - x6_l1.toNat)), (40, .slice A27 y25.length c28)]) (by kernel_rfl) ?_
        obtain ⟨r30, e31, H⟩ := bind_ex H
        refine WD.act (i := 10) (by kernel_rfl) (St.call (by kernel_rfl) (f := 9) (args := #[.slice A27 y25.length c28]) (by kernel_rfl) (colophonref04_Put.calls w21 A27 c28 y25 (T29.rd _ _ (Sat.rdAt 0 hS rfl)) r30 e31) ?_)
        rintro _ w37 ⟨A39, c40, rfl, hS38⟩
        have hS : Sat w37 (rf w0) [osl 5 (r0 (.int .u8)) 1 A39 c40 r30, osl 5 (r0 (.int .u8)) 1 A5_l1 c5_l1 x5_l1] := hS.ext hS38
        refine ⟨(asked.nil _ _), ?_⟩
        refine WD.weaken [1, 5, 6, 23, 24, 25, 26, 35, 41] (L' := [(1, .bool a1), (5, .slice A5_l1 x5_l1.length c5_l1), (6, .int .i64 x6_l1), (23, .int .i64 x6_l1), (24, .int .i64 (wi (x6_l1 + 264))), (25, .slice A5_l1 x5_l1.length c5_l1), (26, .int .i64 (x5_l1.length : Int)), (35, .slice (win A5_l1 c5_l1 x6_l1.toNat) y23.length (c5_l1 - x6_l1.toNat)), (41, .slice A39 r30.length c40)]) (by kernel_rfl) ?_
        have hS : Sat w37 (rf w0) [osl 5 (r0 (.int .u8)) 1 A5_l1 c5_l1 x5_l1, osl 5 (r0 (.int .u8)) 1 A39 c40 r30] := hS.sel [1, 0] (by kernel_rfl)
        refine WD.act (i := 11) (by kernel_rfl) (St.copyIn (t := 22) (t2 := 22) (e := 5) (.tmp 35) (.tmp 41) (by kernel_rfl) (by kernel_rfl) (by kernel_rfl) (by kernel_rfl) (r0_one _) hS e24 (by kernel_rfl) (by kernel_rfl) (Sat.rdAt 1 hS rfl) (fun w41 hS => ?_))
        have hl42 := cpyIn_len e24 r30
        refine ⟨(asked.nil _ _), ?_⟩
        refine WD.know 5 (.slice A5_l1 (cpyIn x5_l1 x6_l1.toNat (wi (x6_l1 + 264)).toNat y23 r30).length c5_l1) (.slice A5_l1 x5_l1.length c5_l1) (by kernel_rfl) (by rw [hl42]) ?_
        refine WD.know 25 (.slice A5_l1 (cpyIn x5_l1 x6_l1.toNat (wi (x6_l1 + 264)).toNat y23 r30).length c5_l1) (.slice A5_l1 x5_l1.length c5_l1) (by kernel_rfl) (by rw [hl42]) ?_
        refine WD.weaken [1, 5, 6, 23, 24, 25, 26] (L' := [(1, .bool a1), (5, .slice A5_l1 (cpyIn x5_l1 x6_l1.toNat (wi (x6_l1 + 264)).toNat y23 r30).length c5_l1), (6, .int .i64 x6_l1), (23, .int .i64 x6_l1), (24, .int .i64 (wi (x6_l1 + 264))), (25, .slice A5_l1 (cpyIn x5_l1 x6_l1.toNat (wi (x6_l1 + 264)).toNat y23 r30).length c5_l1), (26, .int .i64 (x5_l1.length : Int))]) (by kernel_rfl) ?_
        refine WD.nil (by kernel_rfl) ?_
        refine At.blockNormal ?_
        refine At.go ?_
        refine WC.reg [0, 1, 2] (by kernel_rfl) (by kernel_rfl) ?_
        refine WR.runk [0, 1, 2] [] [1, 5, 6, 23, 24, 25, 26] (L' := [(1, .bool a1), (5, .slice A5_l1 (cpyIn x5_l1 x6_l1.toNat (wi (x6_l1 + 264)).toNat y23 r30).length c5_l1), (6, .int .i64 (wi (x6_l1 + 264))), (23, .int .i64 x6_l1), (24, .int .i64 (wi (x6_l1 + 264))), (25, .slice A5_l1 (cpyIn x5_l1 x6_l1.toNat (wi (x6_l1 + 264)).toNat y23 r30).length c5_l1), (26, .int .i64 (x5_l1.length : Int))]) (w' := w41) (by kernel_rfl) ?_
        refine WR.nil ?_
        have hS : Sat w41 (rf w0) [osl 5 (r0 (.int .u8)) 1 A5_l1 c5_l1 (cpyIn x5_l1 x6_l1.toNat (wi (x6_l1 + 264)).toNat y23 r30)] := hS.sel [0] (by kernel_rfl)
        refine At.again ?_
        refine WL.weaken [1, 5, 6] (L' := [(1, .bool a1), (5, .slice A5_l1 (cpyIn x5_l1 x6_l1.toNat (wi (x6_l1 + 264)).toNat y23 r30).length c5_l1), (6, .int .i64 (wi (x6_l1 + 264)))]) (by kernel_rfl) ?_
        exact ih (cpyIn x5_l1 x6_l1.toNat (wi (x6_l1 + 264)).toNat y23 r30) (wi (x6_l1 + 264)) A5_l1 c5_l1 _ hS H
      · replace H := ite_f H hb20
        refine WC.exit (by kernel_rfl) ?_
        refine At.thenExit ?_
        refine At.thenExit ?_
        obtain rfl := Option.some.inj H
        have hS : Sat w (rf w0) [osl 5 (r0 (.int .u8)) 1 A5_l1 c5_l1 x5_l1] := hS.sel [0] (by kernel_rfl)
        refine At.weaken [5] (L' := [(5, .slice A5_l1 x5_l1.length c5_l1)]) (by kernel_rfl) ?_
        exact hn0 A5_l1 c5_l1 _ hS
    · replace H := ite_f H hb19
      refine WR.runk [2, 3, 4, 5, 6, 7] [] [1, 5, 6, 23, 24, 25, 26, 27, 28] (L' := [(1, .bool a1), (5, .slice A5_l1 x5_l1.length c5_l1), (6, .int .i64 x6_l1), (23, undef), (24, undef), (25, undef), (26, undef), (27, undef), (28, .bool false)]) (w' := w) (by kernel_rfl) ?_
      refine WR.nil ?_
      refine At.go ?_
      refine WC.condF (by kernel_rfl) (by kernel_rfl) (by kernel_rfl) ?_
      refine WC.exit (by kernel_rfl) ?_
      refine At.thenExit ?_
      refine At.thenExit ?_
      obtain rfl := Option.some.inj H
      have hS : Sat w (rf w0) [osl 5 (r0 (.int .u8)) 1 A5_l1 c5_l1 x5_l1] := hS.sel [0] (by kernel_rfl)
      refine At.weaken [5] (L' := [(5, .slice A5_l1 x5_l1.length c5_l1)]) (by kernel_rfl) ?_
      exact hn0 A5_l1 c5_l1 _ hS
theorem colophonlaw06_ImageOpens.l2_ok {Q} (w0 : World) (o43 : (List Int)) (A5_q45 : Option Addr) (c5_q45 : Nat) (y51 : List Int) (r55 : (Option ((List (List Int)) × (List Int) × (List Int))) × Int) (y65 : (List (List Int)) × (List Int) × (List Int)) (b68 : Nat) (out : Unit) (hn0 : ∀ (w : World), Sat w (rf w0) [osl 5 (r0 (.int .u8)) 1 A5_q45 c5_q45 o43, O52 b68 y65] → At Q (.exit 2) 84 [(5, .slice A5_q45 o43.length c5_q45), (8, .pointer (some ⟨b68, 0, none⟩)), (9, .int .i64 r55.2)] w) :
    ∀ (k : Nat) (x7_l2 : List Int) (x53_l2 : Int) (A7_l2 : Option Addr) (c7_l2 : Nat) (w : World), Sat w (rf w0) [osl 5 (r0 (.int .u8)) 1 A5_q45 c5_q45 o43, osl 5 (r0 (.int .u8)) 1 A7_l2 c7_l2 x7_l2, O52 b68 y65] → colophonlaw06_ImageOpens.l2 y51 k x7_l2 x53_l2 = some out → WL Try.prog (cbody (cbody (cr (cl (cr (cr (cr (cr (cr (cr (cr C3))))))))))) Q 84 [(5, .slice A5_q45 o43.length c5_q45), (7, .slice A7_l2 x7_l2.length c7_l2), (8, .pointer (some ⟨b68, 0, none⟩)), (9, .int .i64 r55.2), (52, .int .i64 (y51.length : Int)), (53, .int .i64 x53_l2)] w := by
  intro k
  induction k with
  | zero => intro x7_l2 x53_l2 A7_l2 c7_l2 w hS H; exact absurd (show none = some out from H) (by simp)
  | succ k ih =>
    intro x7_l2 x53_l2 A7_l2 c7_l2 w hS H
    unfold colophonlaw06_ImageOpens.l2 at H
    refine WL.round ?_
    refine WC.seq (by kernel_rfl) ?_
    refine WC.reg [0] (by kernel_rfl) (by kernel_rfl) ?_
    refine WR.runk [0] [] [5, 7, 8, 9, 52, 53, 54] (L' := [(5, .slice A5_q45 o43.length c5_q45), (7, .slice A7_l2 x7_l2.length c7_l2), (8, .pointer (some ⟨b68, 0, none⟩)), (9, .int .i64 r55.2), (52, .int .i64 (y51.length : Int)), (53, .int .i64 x53_l2), (54, .bool (decide (x53_l2 < (y51.length : Int))))]) (w' := w) (by kernel_rfl) ?_
    refine WR.nil ?_
    refine At.go ?_
    refine WC.seq (by kernel_rfl) ?_
    refine WC.cond (by kernel_rfl) (decide (x53_l2 < (y51.length : Int))) (by kernel_rfl) (by kernel_rfl) (fun hb70 => ?_) (fun hb70 => ?_)
    · replace H := ite_t H hb70
      refine WC.skip (by kernel_rfl) ?_
      refine At.go ?_
      refine WC.seq (by kernel_rfl) ?_
      refine WC.block (by kernel_rfl) ?_
      refine WC.seq (by kernel_rfl) ?_
      refine WC.reg [0, 1] (by kernel_rfl) (by kernel_rfl) ?_
      refine WR.runk [0, 1] [] [5, 7, 8, 9, 10, 52, 53] (L' := [(5, .slice A5_q45 o43.length c5_q45), (7, .slice A7_l2 x7_l2.length c7_l2), (8, .pointer (some ⟨b68, 0, none⟩)), (9, .int .i64 r55.2), (10, .int .i64 x53_l2), (52, .int .i64 (y51.length : Int)), (53, .int .i64 x53_l2)]) (w' := w) (by kernel_rfl) ?_
      refine WR.nil ?_
      refine At.go ?_
      refine WC.reg [0, 1, 2, 3, 4, 5, 6] (by kernel_rfl) (by kernel_rfl) ?_
      refine WR.runk [0, 1] [2, 3, 4, 5, 6] [5, 7, 8, 9, 52, 53, 56, 57] (L' := [(5, .slice A5_q45 o43.length c5_q45), (7, .slice A7_l2 x7_l2.length c7_l2), (8, .pointer (some ⟨b68, 0, none⟩)), (9, .int .i64 r55.2), (52, .int .i64 (y51.length : Int)), (53, .int .i64 x53_l2), (56, .slice A7_l2 x7_l2.length c7_l2), (57, .int .i64 x53_l2)]) (w' := w) (by kernel_rfl) ?_
      obtain ⟨v71, e72, H⟩ := bind_ex H
      refine WR.st (St.ofP (PSt.idx (k := .i64) (.tmp 56) (.tmp 57) (by kernel_rfl) (by kernel_rfl) E22 (by kernel_rfl) (by kernel_rfl) (Sat.rdAt 1 hS rfl) e72 ?_))
      refine WR.runk [] [3, 4, 5, 6] [5, 7, 8, 9, 52, 53, 56, 57, 58] (L' := [(5, .slice A5_q45 o43.length c5_q45), (7, .slice A7_l2 x7_l2.length c7_l2), (8, .pointer (some ⟨b68, 0, none⟩)), (9, .int .i64 r55.2), (52, .int .i64 (y51.length : Int)), (53, .int .i64 x53_l2), (56, .slice A7_l2 x7_l2.length c7_l2), (57, .int .i64 x53_l2), (58, .pointer (some (adr A7_l2 x53_l2.toNat 1)))]) (w' := w) (by kernel_rfl) ?_
      refine WR.st (St.ofR (RSt.loadInt (t := 5) (.tmp 58) (by kernel_rfl) (by kernel_rfl) (by kernel_rfl) (by kernel_rfl) (Sat.rdAt 1 hS rfl) e72 ?_))
      refine WR.runk [4] [5, 6] [5, 7, 8, 9, 52, 53, 56, 57, 60] (L' := [(5, .slice A5_q45 o43.length c5_q45), (7, .slice A7_l2 x7_l2.length c7_l2), (8, .pointer (some ⟨b68, 0, none⟩)), (9, .int .i64 r55.2), (52, .int .i64 (y51.length : Int)), (53, .int .i64 x53_l2), (56, .slice A7_l2 x7_l2.length c7_l2), (57, .int .i64 x53_l2), (60, .int .u8 (ixor .u8 v71 255))]) (w' := w) (by kernel_rfl) ?_
      refine WR.st (St.ofP (PSt.idx (k := .i64) (.tmp 56) (.tmp 57) (by kernel_rfl) (by kernel_rfl) E22 (by kernel_rfl) (by kernel_rfl) (Sat.rdAt 1 hS rfl) e72 ?_))
      refine WR.runk [] [6] [5, 7, 8, 9, 52, 53, 60, 61] (L' := [(5, .slice A5_q45 o43.length c5_q45), (7, .slice A7_l2 x7_l2.length c7_l2), (8, .pointer (some ⟨b68, 0, none⟩)), (9, .int .i64 r55.2), (52, .int .i64 (y51.length : Int)), (53, .int .i64 x53_l2), (60, .int .u8 (ixor .u8 v71 255)), (61, .pointer (some (adr A7_l2 x53_l2.toNat 1)))]) (w' := w) (by kernel_rfl) ?_
      have hS : Sat w (rf w0) [osl 5 (r0 (.int .u8)) 1 A7_l2 c7_l2 x7_l2, osl 5 (r0 (.int .u8)) 1 A5_q45 c5_q45 o43, O52 b68 y65] := hS.sel [1, 0, 2] (by kernel_rfl)
      obtain ⟨y73, e74, H⟩ := bind_ex H
      refine WR.st (St.storeElem' (t := 5) (.tmp 61) (.tmp 60) (by kernel_rfl) (by kernel_rfl) (by kernel_rfl) hS (by kernel_rfl) (by kernel_rfl) rfl e74 rfl (fun w75 hS => ?_))
      have hl76 := set?_len e74
      refine WR.know 7 (.slice A7_l2 y73.length c7_l2) (.slice A7_l2 x7_l2.length c7_l2) (by kernel_rfl) (by rw [hl76]) ?_
      refine WR.runk [] [] [5, 7, 8, 9, 52, 53] (L' := [(5, .slice A5_q45 o43.length c5_q45), (7, .slice A7_l2 y73.length c7_l2), (8, .pointer (some ⟨b68, 0, none⟩)), (9, .int .i64 r55.2), (52, .int .i64 (y51.length : Int)), (53, .int .i64 x53_l2)]) (w' := w75) (by kernel_rfl) ?_
      refine WR.nil ?_
      refine At.blockNormal ?_
      refine At.go ?_
      refine WC.reg [0, 1] (by kernel_rfl) (by kernel_rfl) ?_
      refine WR.runk [0, 1] [] [5, 7, 8, 9, 52, 53] (L' := [(5, .slice A5_q45 o43.length c5_q45), (7, .slice A7_l2 y73.length c7_l2), (8, .pointer (some ⟨b68, 0, none⟩)), (9, .int .i64 r55.2), (52, .int .i64 (y51.length : Int)), (53, .int .i64 (wi (x53_l2 + 1)))]) (w' := w75) (by kernel_rfl) ?_
      refine WR.nil ?_
      have hS : Sat w75 (rf w0) [osl 5 (r0 (.int .u8)) 1 A5_q45 c5_q45 o43, osl 5 (r0 (.int .u8)) 1 A7_l2 c7_l2 y73, O52 b68 y65] := hS.sel [1, 0, 2] (by kernel_rfl)
      refine At.again ?_
      refine WL.weaken [5, 7, 8, 9, 52, 53] (L' := [(5, .slice A5_q45 o43.length c5_q45), (7, .slice A7_l2 y73.length c7_l2), (8, .pointer (some ⟨b68, 0, none⟩)), (9, .int .i64 r55.2), (52, .int .i64 (y51.length : Int)), (53, .int .i64 (wi (x53_l2 + 1)))]) (by kernel_rfl) ?_
      exact ih y73 (wi (x53_l2 + 1)) A7_l2 c7_l2 _ hS H
    · replace H := ite_f H hb70
      refine WC.exit (by kernel_rfl) ?_
      refine At.thenExit ?_
      refine At.thenExit ?_
      obtain rfl := Option.some.inj H
      have hS : Sat w (rf w0) [osl 5 (r0 (.int .u8)) 1 A5_q45 c5_q45 o43, O52 b68 y65] := hS.sel [0, 2] (by kernel_rfl)
      refine At.weaken [5, 8, 9] (L' := [(5, .slice A5_q45 o43.length c5_q45), (8, .pointer (some ⟨b68, 0, none⟩)), (9, .int .i64 r55.2)]) (by kernel_rfl) ?_
      exact hn0 _ hS
theorem colophonlaw06_ImageOpens.l3_ok {Q} (w0 : World) (o43 : (List Int)) (A5_q45 : Option Addr) (c5_q45 : Nat) (y51 : List Int) (r55 : (Option ((List (List Int)) × (List Int) × (List Int))) × Int) (out : Unit) (hn0 : ∀ (w : World), Sat w (rf w0) [osl 5 (r0 (.int .u8)) 1 A5_q45 c5_q45 o43] → At Q (.exit 2) 84 [(5, .slice A5_q45 o43.length c5_q45), (8, .pointer none), (9, .int .i64 r55.2)] w) :
    ∀ (k : Nat) (x7_l3 : List Int) (x53_l3 : Int) (A7_l3 : Option Addr) (c7_l3 : Nat) (w : World), Sat w (rf w0) [osl 5 (r0 (.int .u8)) 1 A5_q45 c5_q45 o43, osl 5 (r0 (.int .u8)) 1 A7_l3 c7_l3 x7_l3] → colophonlaw06_ImageOpens.l3 y51 k x7_l3 x53_l3 = some out → WL Try.prog (cbody (cbody (cr (cl (cr (cr (cr (cr (cr (cr (cr C3))))))))))) Q 84 [(5, .slice A5_q45 o43.length c5_q45), (7, .slice A7_l3 x7_l3.length c7_l3), (8, .pointer none), (9, .int .i64 r55.2), (52, .int .i64 (y51.length : Int)), (53, .int .i64 x53_l3)] w := by
  intro k
  induction k with
  | zero => intro x7_l3 x53_l3 A7_l3 c7_l3 w hS H; exact absurd (show none = some out from H) (by simp)
  | succ k ih =>
    intro x7_l3 x53_l3 A7_l3 c7_l3 w hS H
    unfold colophonlaw06_ImageOpens.l3 at H
    refine WL.round ?_
    refine WC.seq (by kernel_rfl) ?_
    refine WC.reg [0] (by kernel_rfl) (by kernel_rfl) ?_
    refine WR.runk [0] [] [5, 7, 8, 9, 52, 53, 54] (L' := [(5, .slice A5_q45 o43.length c5_q45), (7, .slice A7_l3 x7_l3.length c7_l3), (8, .pointer none), (9, .int .i64 r55.2), (52, .int .i64 (y51.length : Int)), (53, .int .i64 x53_l3), (54, .bool (decide (x53_l3 < (y51.length : Int))))]) (w' := w) (by kernel_rfl) ?_
    refine WR.nil ?_
    refine At.go ?_
    refine WC.seq (by kernel_rfl) ?_
    refine WC.cond (by kernel_rfl) (decide (x53_l3 < (y51.length : Int))) (by kernel_rfl) (by kernel_rfl) (fun hb117 => ?_) (fun hb117 => ?_)
    · replace H := ite_t H hb117
      refine WC.skip (by kernel_rfl) ?_
      refine At.go ?_
      refine WC.seq (by kernel_rfl) ?_
      refine WC.block (by kernel_rfl) ?_
      refine WC.seq (by kernel_rfl) ?_
      refine WC.reg [0, 1] (by kernel_rfl) (by kernel_rfl) ?_
      refine WR.runk [0, 1] [] [5, 7, 8, 9, 10, 52, 53] (L' := [(5, .slice A5_q45 o43.length c5_q45), (7, .slice A7_l3 x7_l3.length c7_l3), (8, .pointer none), (9, .int .i64 r55.2), (10, .int .i64 x53_l3), (52, .int .i64 (y51.length : Int)), (53, .int .i64 x53_l3)]) (w' := w) (by kernel_rfl) ?_
      refine WR.nil ?_
      refine At.go ?_
      refine WC.reg [0, 1, 2, 3, 4, 5, 6] (by kernel_rfl) (by kernel_rfl) ?_
      refine WR.runk [0, 1] [2, 3, 4, 5, 6] [5, 7, 8, 9, 52, 53, 56, 57] (L' := [(5, .slice A5_q45 o43.length c5_q45), (7, .slice A7_l3 x7_l3.length c7_l3), (8, .pointer none), (9, .int .i64 r55.2), (52, .int .i64 (y51.length : Int)), (53, .int .i64 x53_l3), (56, .slice A7_l3 x7_l3.length c7_l3), (57, .int .i64 x53_l3)]) (w' := w) (by kernel_rfl) ?_
      obtain ⟨v118, e119, H⟩ := bind_ex H
      refine WR.st (St.ofP (PSt.idx (k := .i64) (.tmp 56) (.tmp 57) (by kernel_rfl) (by kernel_rfl) E22 (by kernel_rfl) (by kernel_rfl) (Sat.rdAt 1 hS rfl) e119 ?_))
      refine WR.runk [] [3, 4, 5, 6] [5, 7, 8, 9, 52, 53, 56, 57, 58] (L' := [(5, .slice A5_q45 o43.length c5_q45), (7, .slice A7_l3 x7_l3.length c7_l3), (8, .pointer none), (9, .int .i64 r55.2), (52, .int .i64 (y51.length : Int)), (53, .int .i64 x53_l3), (56, .slice A7_l3 x7_l3.length c7_l3), (57, .int .i64 x53_l3), (58, .pointer (some (adr A7_l3 x53_l3.toNat 1)))]) (w' := w) (by kernel_rfl) ?_
      refine WR.st (St.ofR (RSt.loadInt (t := 5) (.tmp 58) (by kernel_rfl) (by kernel_rfl) (by kernel_rfl) (by kernel_rfl) (Sat.rdAt 1 hS rfl) e119 ?_))
      refine WR.runk [4] [5, 6] [5, 7, 8, 9, 52, 53, 56, 57, 60] (L' := [(5, .slice A5_q45 o43.length c5_q45), (7, .slice A7_l3 x7_l3.length c7_l3), (8, .pointer none), (9, .int .i64 r55.2), (52, .int .i64 (y51.length : Int)), (53, .int .i64 x53_l3), (56, .slice A7_l3 x7_l3.length c7_l3), (57, .int .i64 x53_l3), (60, .int .u8 (ixor .u8 v118 255))]) (w' := w) (by kernel_rfl) ?_
      refine WR.st (St.ofP (PSt.idx (k := .i64) (.tmp 56) (.tmp 57) (by kernel_rfl) (by kernel_rfl) E22 (by kernel_rfl) (by kernel_rfl) (Sat.rdAt 1 hS rfl) e119 ?_))
      refine WR.runk [] [6] [5, 7, 8, 9, 52, 53, 60, 61] (L' := [(5, .slice A5_q45 o43.length c5_q45), (7, .slice A7_l3 x7_l3.length c7_l3), (8, .pointer none), (9, .int .i64 r55.2), (52, .int .i64 (y51.length : Int)), (53, .int .i64 x53_l3), (60, .int .u8 (ixor .u8 v118 255)), (61, .pointer (some (adr A7_l3 x53_l3.toNat 1)))]) (w' := w) (by kernel_rfl) ?_
      have hS : Sat w (rf w0) [osl 5 (r0 (.int .u8)) 1 A7_l3 c7_l3 x7_l3, osl 5 (r0 (.int .u8)) 1 A5_q45 c5_q45 o43] := hS.sel [1, 0] (by kernel_rfl)
      obtain ⟨y120, e121, H⟩ := bind_ex H
      refine WR.st (St.storeElem' (t := 5) (.tmp 61) (.tmp 60) (by kernel_rfl) (by kernel_rfl) (by kernel_rfl) hS (by kernel_rfl) (by kernel_rfl) rfl e121 rfl (fun w122 hS => ?_))
      have hl123 := set?_len e121
      refine WR.know 7 (.slice A7_l3 y120.length c7_l3) (.slice A7_l3 x7_l3.length c7_l3) (by kernel_rfl) (by rw [hl123]) ?_
      refine WR.runk [] [] [5, 7, 8, 9, 52, 53] (L' := [(5, .slice A5_q45 o43.length c5_q45), (7, .slice A7_l3 y120.length c7_l3), (8, .pointer none), (9, .int .i64 r55.2), (52, .int .i64 (y51.length : Int)), (53, .int .i64 x53_l3)]) (w' := w122) (by kernel_rfl) ?_
      refine WR.nil ?_
      refine At.blockNormal ?_
      refine At.go ?_
      refine WC.reg [0, 1] (by kernel_rfl) (by kernel_rfl) ?_
      refine WR.runk [0, 1] [] [5, 7, 8, 9, 52, 53] (L' := [(5, .slice A5_q45 o43.length c5_q45), (7, .slice A7_l3 y120.length c7_l3), (8, .pointer none), (9, .int .i64 r55.2), (52, .int .i64 (y51.length : Int)), (53, .int .i64 (wi (x53_l3 + 1)))]) (w' := w122) (by kernel_rfl) ?_
      refine WR.nil ?_
      have hS : Sat w122 (rf w0) [osl 5 (r0 (.int .u8)) 1 A5_q45 c5_q45 o43, osl 5 (r0 (.int .u8)) 1 A7_l3 c7_l3 y120] := hS.sel [1, 0] (by kernel_rfl)
      refine At.again ?_
      refine WL.weaken [5, 7, 8, 9, 52, 53] (L' := [(5, .slice A5_q45 o43.length c5_q45), (7, .slice A7_l3 y120.length c7_l3), (8, .pointer none), (9, .int .i64 r55.2), (52, .int .i64 (y51.length : Int)), (53, .int .i64 (wi (x53_l3 + 1)))]) (by kernel_rfl) ?_
      exact ih y120 (wi (x53_l3 + 1)) A7_l3 c7_l3 _ hS H
    · replace H := ite_f H hb117
      refine WC.exit (by kernel_rfl) ?_
      refine At.thenExit ?_
      refine At.thenExit ?_
      obtain rfl := Option.some.inj H
      have hS : Sat w (rf w0) [osl 5 (r0 (.int .u8)) 1 A5_q45 c5_q45 o43] := hS.sel [0] (by kernel_rfl)
      refine At.weaken [5, 8, 9] (L' := [(5, .slice A5_q45 o43.length c5_q45), (8, .pointer none), (9, .int .i64 r55.2)]) (by kernel_rfl) ?_
      exact hn0 _ hS
theorem colophonlaw06_ImageOpens.calls (w0 : World) (A0 : Option Addr) (c0 : Nat) (l0 : List Int) (R0 : rdS (r0 (.int .u8)) 1 (hp w0) A0 c0 l0) (a1 : Bool) (r : Bool) (H : colophonlaw06_ImageOpens.f l0 a1 = some r) :
    Calls Try.prog 3 #[.slice A0 l0.length c0, .bool a1] w0 (fun e w' => ∃ v, e = .returned v ∧ colophonlaw06_ImageOpens.post w0 r v w') := by
  have hS : Sat w0 (rf w0) [] := Sat.start w0
  unfold colophonlaw06_ImageOpens.f at H
  refine calls_of_WC (vs := [.slice A0 l0.length c0, .bool a1]) Try.func3 (c := C3) (n := 84) (by kernel_rfl) (by kernel_rfl) (by kernel_rfl) ?_
  refine WC.seq (by kernel_rfl) ?_
  refine WC.reg [0] (by kernel_rfl) (by kernel_rfl) ?_
  refine WR.runk [0] [] [0, 1] (L' := [(0, .slice A0 l0.length c0), (1, .bool a1)]) (w' := w0) (by kernel_rfl) ?_
  refine WR.nil ?_
  refine At.go ?_
  refine WC.seq (by kernel_rfl) ?_
  refine WC.seq (by kernel_rfl) ?_
  refine WC.reg [0, 1] (by kernel_rfl) (by kernel_rfl) ?_
  obtain ⟨r1, e2, H⟩ := bind_ex H
  refine WR.st (St.call (by kernel_rfl) (f := 8) (args := #[]) (by kernel_rfl) (colophonlaw06_first.calls w0  r1 e2) ?_)
  rintro _ w8 ⟨rfl, hS9⟩
  have hS : Sat w8 (rf w0) [] := hS.ext hS9
  refine WR.runk [1] [] [0, 1, 14] (L' := [(0, .slice A0 l0.length c0), (1, .bool a1), (14, .bool (!r1))]) (w' := w8) (by kernel_rfl) ?_
  refine WR.nil ?_
  refine At.go ?_
  refine WC.cond (by kernel_rfl) (!r1) (by kernel_rfl) (by kernel_rfl) (fun hb10 => ?_) (fun hb10 => ?_)
  · replace H := ite_t H hb10
    refine WC.seq (by kernel_rfl) ?_
    refine WC.reg [0] (by kernel_rfl) (by kernel_rfl) ?_
    refine WR.runk [0] [] [4] (L' := [(4, .bool false)]) (w' := w8) (by kernel_rfl) ?_
    refine WR.nil ?_
    refine At.go ?_
    refine WC.ret (by kernel_rfl) ?_
    refine At.thenRet ?_
    obtain rfl := Option.some.inj H
    have hS : Sat w8 (rf w0) [] := hS.sel [] (by kernel_rfl)
    exact At.body [.bool false] (by kernel_rfl) ⟨_, rfl, rfl, hS⟩
  · replace H := ite_f H hb10
    refine WC.skip (by kernel_rfl) ?_
    refine At.go ?_
    refine WC.seq (by kernel_rfl) ?_
    refine WC.seq (by kernel_rfl) ?_
    refine WC.reg [0, 1, 2] (by kernel_rfl) (by kernel_rfl) ?_
    refine WR.runk [0, 1, 2] [] [0, 1, 17] (L' := [(0, .slice A0 l0.length c0), (1, .bool a1), (17, .bool (decide ((l0.length : Int) > 100000)))]) (w' := w8) (by kernel_rfl) ?_
    refine WR.nil ?_
    refine At.go ?_
    refine WC.cond (by kernel_rfl) (decide ((l0.length : Int) > 100000)) (by kernel_rfl) (by kernel_rfl) (fun hb11 => ?_) (fun hb11 => ?_)
    · replace H := ite_t H hb11
      refine WC.seq (by kernel_rfl) ?_
      refine WC.reg [0] (by kernel_rfl) (by kernel_rfl) ?_
      refine WR.runk [0] [] [4] (L' := [(4, .bool true)]) (w' := w8) (by kernel_rfl) ?_
      refine WR.nil ?_
      refine At.go ?_
      refine WC.ret (by kernel_rfl) ?_
      refine At.thenRet ?_
      obtain rfl := Option.some.inj H
      have hS : Sat w8 (rf w0) [] := hS.sel [] (by kernel_rfl)
      exact At.body [.bool true] (by kernel_rfl) ⟨_, rfl, rfl, hS⟩
    · replace H := ite_f H hb11
      refine WC.skip (by kernel_rfl) ?_
      refine At.go ?_
      refine WC.seq (by kernel_rfl) ?_
      refine WC.reg [0, 1, 2, 3] (by kernel_rfl) (by kernel_rfl) ?_
      refine WR.runk [] [0, 1, 2, 3] [0, 1] (L' := [(0, .slice A0 l0.length c0), (1, .bool a1)]) (w' := w8) (by kernel_rfl) ?_
      refine WR.st (St.box hS (by kernel_rfl) (.cells #[] 5) (fun b12 => .slice (some ⟨b12, 0, none⟩) 0 0) (fun _ => by kernel_rfl) (fun b12 w13 hS => ?_))
      refine WR.runk [1] [2, 3] [1, 18, 19] (L' := [(1, .bool a1), (18, .slice (some ⟨b12, 0, none⟩) 0 0), (19, .slice A0 l0.length c0)]) (w' := w13) (by kernel_rfl) ?_
      have hS : Sat w13 (rf w0) [osl 5 (r0 (.int .u8)) 1 (some ⟨b12, 0, none⟩) (([] : List Int) : List Int).length (([] : List Int) : List Int)] := Sat.toOsl' (r0 (.int .u8)) 1 (([] : List Int) : List Int) hS rfl (rdL.nil _ _)
      obtain ⟨y15, e14, H⟩ := bind_ex H
      refine WR.st (St.append' (.tmp 18) (.tmp 19) (by kernel_rfl) (by kernel_rfl) E22 (r0_one _) hS (by kernel_rfl) (by kernel_rfl) (rdS.up R0 hS.sub0) 140737488355328 (by kernel_rfl) (by kernel_rfl) e14 (fun A16 c17 w18 hS => ?_))
      refine WR.runk [3] [] [1, 5] (L' := [(1, .bool a1), (5, .slice A16 y15.length c17)]) (w' := w18) (by kernel_rfl) ?_
      refine WR.nil ?_
      refine At.go ?_
      refine WC.seq (by kernel_rfl) ?_
      refine WC.seq (by kernel_rfl) ?_
      refine WC.reg [0] (by kernel_rfl) (by kernel_rfl) ?_
      refine WR.runk [0] [] [1, 5, 6] (L' := [(1, .bool a1), (5, .slice A16 y15.length c17), (6, .int .i64 0)]) (w' := w18) (by kernel_rfl) ?_
      refine WR.nil ?_
      refine At.go ?_
      refine WC.block (by kernel_rfl) ?_
      have hS : Sat w18 (rf w0) [osl 5 (r0 (.int .u8)) 1 A16 c17 y15] := hS.sel [0] (by kernel_rfl)
      obtain ⟨o43, e44, H⟩ := bind_ex H
      refine WC.loop (by kernel_rfl) ?_
      refine WL.weaken [1, 5, 6] (L' := [(1, .bool a1), (5, .slice A16 y15.length c17), (6, .int .i64 0)]) (by kernel_rfl) ?_
      refine colophonlaw06_ImageOpens.l1_ok w0 a1 o43 (fun A5_q45 c5_q45 w46 hS => ?_) FU y15 0 A16 c17 _ hS e44
      refine At.hit ?_
      refine At.go ?_
      refine WC.seq (by kernel_rfl) ?_
      refine WC.reg [0, 1, 2, 3] (by kernel_rfl) (by kernel_rfl) ?_
      refine WR.runk [] [0, 1, 2, 3] [5] (L' := [(5, .slice A5_q45 o43.length c5_q45)]) (w' := w46) (by kernel_rfl) ?_
      refine WR.st (St.box hS (by kernel_rfl) (.cells #[] 5) (fun b48 => .slice (some ⟨b48, 0, none⟩) 0 0) (fun _ => by kernel_rfl) (fun b48 w49 hS => ?_))
      refine WR.runk [1] [2, 3] [5, 43, 44] (L' := [(5, .slice A5_q45 o43.length c5_q45), (43, .slice (some ⟨b48, 0, none⟩) 0 0), (44, .slice A5_q45 o43.length c5_q45)]) (w' := w49) (by kernel_rfl) ?_
      have hS : Sat w49 (rf w0) [osl 5 (r0 (.int .u8)) 1 (some ⟨b48, 0, none⟩) (([] : List Int) : List Int).length (([] : List Int) : List Int), osl 5 (r0 (.int .u8)) 1 A5_q45 c5_q45 o43] := Sat.toOsl' (r0 (.int .u8)) 1 (([] : List Int) : List Int) hS rfl (rdL.nil _ _)
      obtain ⟨y51, e50, H⟩ := bind_ex H
      refine WR.st (St.append' (.tmp 43) (.tmp 44) (by kernel_rfl) (by kernel_rfl) E22 (r0_one _) hS (by kernel_rfl) (by kernel_rfl) (Sat.rdAt 1 hS rfl) 140737488355328 (by kernel_rfl) (by kernel_rfl) e50 (fun A52 c53 w54 hS => ?_))
      refine WR.runk [3] [] [5, 7] (L' := [(5, .slice A5_q45 o43.length c5_q45), (7, .slice A52 y51.length c53)]) (w' := w54) (by kernel_rfl) ?_
      refine WR.nil ?_
      refine At.go ?_
      refine WC.seq (by kernel_rfl) ?_
      refine WC.reg [0, 1, 2, 3, 4, 5, 6] (by kernel_rfl) (by kernel_rfl) ?_
      refine WR.runk [0] [1, 2, 3, 4, 5, 6] [5, 7, 47] (L' := [(5, .slice A5_q45 o43.length c5_q45), (7, .slice A52 y51.length c53), (47, .slice A52 y51.length c53)]) (w' := w54) (by kernel_rfl) ?_
      obtain ⟨r55, e56, H⟩ := bind_ex H
      refine WR.st (St.call (by kernel_rfl) (f := 10) (args := #[.slice A52 y51.length c53]) (by kernel_rfl) (image_Open.calls w54 A52 c53 y51 (Sat.rdAt 0 hS rfl) r55 e56) ?_)
      rintro _ w62 ⟨pv64, rfl, hS63⟩
      have hS : Sat w62 (rf w0) [optP O52 pv64 r55.1, osl 5 (r0 (.int .u8)) 1 A52 c53 y51, osl 5 (r0 (.int .u8)) 1 A5_q45 c5_q45 o43] := hS.ext hS63
      refine WR.runk [2, 3, 4, 5, 6] [] [5, 7, 8, 9] (L' := [(5, .slice A5_q45 o43.length c5_q45), (7, .slice A52 y51.length c53), (8, pv64), (9, .int .i64 r55.2)]) (w' := w62) (by kernel_rfl) ?_
      refine WR.nil ?_
      refine At.go ?_
      refine WC.seq (by kernel_rfl) ?_
      refine WC.seq (by kernel_rfl) ?_
      refine WC.reg [0, 1, 2] (by kernel_rfl) (by kernel_rfl) ?_
      refine WR.runk [0, 1, 2] [] [5, 7, 8, 9, 52, 53] (L' := [(5, .slice A5_q45 o43.length c5_q45), (7, .slice A52 y51.length c53), (8, pv64), (9, .int .i64 r55.2), (52, .int .i64 (y51.length : Int)), (53, .int .i64 0)]) (w' := w62) (by kernel_rfl) ?_
      refine WR.nil ?_
      refine At.go ?_
      refine WC.block (by kernel_rfl) ?_
      rcases hr66 : r55.1 with _ | y65
      · rw [hr66] at H
        dsimp only at H
        have hv67 := optP.none hS hr66
        subst hv67
        have hS : Sat w62 (rf w0) [osl 5 (r0 (.int .u8)) 1 A52 c53 y51, osl 5 (r0 (.int .u8)) 1 A5_q45 c5_q45 o43] := hS.sel [1, 2] (by kernel_rfl)
        have hS : Sat w62 (rf w0) [osl 5 (r0 (.int .u8)) 1 A5_q45 c5_q45 o43, osl 5 (r0 (.int .u8)) 1 A52 c53 y51] := hS.sel [1, 0] (by kernel_rfl)
        obtain ⟨o124, e125, H⟩ := bind_ex H
        refine WC.loop (by kernel_rfl) ?_
        refine WL.weaken [5, 7, 8, 9, 52, 53] (L' := [(5, .slice A5_q45 o43.length c5_q45), (7, .slice A52 y51.length c53), (8, .pointer none), (9, .int .i64 r55.2), (52, .int .i64 (y51.length : Int)), (53, .int .i64 0)]) (by kernel_rfl) ?_
        refine colophonlaw06_ImageOpens.l3_ok w0 o43 A5_q45 c5_q45 y51 r55 o124 (fun w127 hS => ?_) FU y51 0 A52 c53 _ hS e125
        refine At.hit ?_
        refine At.go ?_
        refine WC.seq (by kernel_rfl) ?_
        refine WC.reg [0, 1, 2, 3, 4, 5, 6] (by kernel_rfl) (by kernel_rfl) ?_
        refine WR.runk [0] [1, 2, 3, 4, 5, 6] [8, 9, 64] (L' := [(8, .pointer none), (9, .int .i64 r55.2), (64, .slice A5_q45 o43.length c5_q45)]) (w' := w127) (by kernel_rfl) ?_
        obtain ⟨r129, e130, H⟩ := bind_ex H
        refine WR.st (St.call (by kernel_rfl) (f := 11) (args := #[.slice A5_q45 o43.length c5_q45]) (by kernel_rfl) (colophonref06_Open.calls w127 A5_q45 c5_q45 o43 (Sat.rdAt 0 hS rfl) r129 e130) ?_)
        rintro _ w136 ⟨A138, c139, rfl, hS137⟩
        have hS : Sat w136 (rf w0) [orw 22 (Esl 5 (.int .u8)) 1 A138 c139 r129.1, osl 5 (r0 (.int .u8)) 1 A5_q45 c5_q45 o43] := hS.ext hS137
        refine WR.runk [2, 3, 4, 5, 6] [] [8, 9, 11, 12] (L' := [(8, .pointer none), (9, .int .i64 r55.2), (11, .slice A138 r129.1.length c139), (12, .bool r129.2)]) (w' := w136) (by kernel_rfl) ?_
        refine WR.nil ?_
        refine At.go ?_
        refine WC.seq (by kernel_rfl) ?_
        refine WC.seq (by kernel_rfl) ?_
        refine WC.reg [0, 1] (by kernel_rfl) (by kernel_rfl) ?_
        refine WR.runk [0, 1] [] [8, 9, 11, 69] (L' := [(8, .pointer none), (9, .int .i64 r55.2), (11, .slice A138 r129.1.length c139), (69, .bool (!r129.2))]) (w' := w136) (by kernel_rfl) ?_
        refine WR.nil ?_
        refine At.go ?_
        refine WC.cond (by kernel_rfl) (!r129.2) (by kernel_rfl) (by kernel_rfl) (fun hb140 => ?_) (fun hb140 => ?_)
        · replace H := ite_t H hb140
          refine WC.seq (by kernel_rfl) ?_
          refine WC.reg [0, 1, 2, 3, 4, 5, 6] (by kernel_rfl) (by kernel_rfl) ?_
          refine WR.runk [0, 1, 2] [3, 4, 5, 6] [8, 72] (L' := [(8, .pointer none), (72, .bool (r55.2 == 10))]) (w' := w136) (by kernel_rfl) ?_
          refine WR.split 72 (b := (r55.2 == 10)) (by kernel_rfl) (fun hb141 => ?_) (fun hb141 => ?_)
          · replace H := ite_t H hb141
            refine WR.runk [3, 4, 5, 6] [] [4] (L' := [(4, .bool true)]) (w' := w136) (by kernel_rfl) ?_
            refine WR.nil ?_
            refine At.go ?_
            refine WC.ret (by kernel_rfl) ?_
            refine At.thenRet ?_
            obtain rfl := Option.some.inj H
            have hS : Sat w136 (rf w0) [] := hS.sel [] (by kernel_rfl)
            exact At.body [.bool true] (by kernel_rfl) ⟨_, rfl, rfl, hS⟩
          · replace H := ite_f H hb141
            refine WR.runk [3, 4, 5, 6] [] [4] (L' := [(4, .bool false)]) (w' := w136) (by kernel_rfl) ?_
            refine WR.nil ?_
            refine At.go ?_
            refine WC.ret (by kernel_rfl) ?_
            refine At.thenRet ?_
            obtain rfl := Option.some.inj H
            have hS : Sat w136 (rf w0) [] := hS.sel [] (by kernel_rfl)
            exact At.body [.bool false] (by kernel_rfl) ⟨_, rfl, rfl, hS⟩
        · replace H := ite_f H hb140
          refine WC.skip (by kernel_rfl) ?_
          refine At.go ?_
          refine WC.seq (by kernel_rfl) ?_
          refine WC.reg [0, 1, 2, 3, 4, 5, 6, 7, 8] (by kernel_rfl) (by kernel_rfl) ?_
          refine WR.runk [0, 1, 2] [3, 4, 5, 6, 7, 8] [8, 11, 78] (L' := [(8, .pointer none), (11, .slice A138 r129.1.length c139), (78, .bool (r55.2 == 0))]) (w' := w136) (by kernel_rfl) ?_
          refine WR.split 78 (b := (r55.2 == 0)) (by kernel_rfl) (fun hb142 => ?_) (fun hb142 => ?_)
          · replace H := ite_t H hb142
            refine WR.runk [3] [4, 5, 6, 7, 8] [11, 78, 79] (L' := [(11, .slice A138 r129.1.length c139), (78, .bool true), (79, .pointer none)]) (w' := w136) (by kernel_rfl) ?_
            obtain ⟨r143, e144, H⟩ := bind_ex H
            refine WR.st (St.call (by kernel_rfl) (f := 13) (args := #[.pointer none]) (by kernel_rfl) (colophonlaw06_read.calls w136 (.pointer none) none rfl r143 e144) ?_)
            rintro _ w150 ⟨A152, c153, rfl, hS151⟩
            have hS : Sat w150 (rf w0) [orw 22 (Esl 5 (.int .u8)) 1 A152 c153 r143, orw 22 (Esl 5 (.int .u8)) 1 A138 c139 r129.1, osl 5 (r0 (.int .u8)) 1 A5_q45 c5_q45 o43] := hS.ext hS151
            refine WR.runk [5] [6, 7, 8] [78, 80, 81] (L' := [(78, .bool true), (80, .slice A152 r143.length c153), (81, .slice A138 r129.1.length c139)]) (w' := w150) (by kernel_rfl) ?_
            obtain ⟨r154, e155, H⟩ := bind_ex H
            refine WR.st (St.call (by kernel_rfl) (f := 12) (args := #[.slice A152 r143.length c153, .slice A138 r129.1.length c139]) (by kernel_rfl) (colophonref06_Same.calls w150 A152 c153 r143 (Sat.rdAnyS 0 hS rfl (fun _ h => orw.rdS (κ := (.slice 5 (.int .u8))) (Esl.rd (e := 5) (κ := (.int .u8))) h)) A138 c139 r129.1 (Sat.rdAnyS 1 hS rfl (fun _ h => orw.rdS (κ := (.slice 5 (.int .u8))) (Esl.rd (e := 5) (κ := (.int .u8))) h)) r154 e155) ?_)
            rintro _ w161 ⟨rfl, hS162⟩
            have hS : Sat w161 (rf w0) [orw 22 (Esl 5 (.int .u8)) 1 A152 c153 r143, orw 22 (Esl 5 (.int .u8)) 1 A138 c139 r129.1, osl 5 (r0 (.int .u8)) 1 A5_q45 c5_q45 o43] := hS.ext hS162
            refine WR.runk [7, 8] [] [4] (L' := [(4, .bool r154)]) (w' := w161) (by kernel_rfl) ?_
            refine WR.nil ?_
            refine At.go ?_
            refine WC.ret (by kernel_rfl) ?_
            obtain rfl := Option.some.inj H
            have hS : Sat w161 (rf w0) [] := hS.sel [] (by kernel_rfl)
            exact At.body [.bool r154] (by kernel_rfl) ⟨_, rfl, rfl, hS⟩
          · replace H := ite_f H hb142
            refine WR.runk [3, 4, 5, 6, 7, 8] [] [4] (L' := [(4, .bool false)]) (w' := w136) (by kernel_rfl) ?_
            refine WR.nil ?_
            refine At.go ?_
            refine WC.ret (by kernel_rfl) ?_
            obtain rfl := Option.some.inj H
            have hS : Sat w136 (rf w0) [] := hS.sel [] (by kernel_rfl)
            exact At.body [.bool false] (by kernel_rfl) ⟨_, rfl, rfl, hS⟩
      · rw [hr66] at H
        dsimp only at H
        obtain ⟨b68, hv67, hN116⟩ := optP.some hS hr66
        subst hv67
        have hS : Sat w62 (rf w0) [O52 b68 y65, osl 5 (r0 (.int .u8)) 1 A52 c53 y51, osl 5 (r0 (.int .u8)) 1 A5_q45 c5_q45 o43] := hN116
        have hS : Sat w62 (rf w0) [osl 5 (r0 (.int .u8)) 1 A5_q45 c5_q45 o43, osl 5 (r0 (.int .u8)) 1 A52 c53 y51, O52 b68 y65] := hS.sel [2, 1, 0] (by kernel_rfl)
        obtain ⟨o77, e78, H⟩ := bind_ex H
        refine WC.loop (by kernel_rfl) ?_
        refine WL.weaken [5, 7, 8, 9, 52, 53] (L' := [(5, .slice A5_q45 o43.length c5_q45), (7, .slice A52 y51.length c53), (8, .pointer (some ⟨b68, 0, none⟩)), (9, .int .i64 r55.2), (52, .int .i64 (y51.length : Int)), (53, .int .i64 0)]) (by kernel_rfl) ?_
        refine colophonlaw06_ImageOpens.l2_ok w0 o43 A5_q45 c5_q45 y51 r55 y65 b68 o77 (fun w80 hS => ?_) FU y51 0 A52 c53 _ hS e78
        refine At.hit ?_
        refine At.go ?_
        refine WC.seq (by kernel_rfl) ?_
        refine WC.reg [0, 1, 2, 3, 4, 5, 6] (by kernel_rfl) (by kernel_rfl) ?_
        refine WR.runk [0] [1, 2, 3, 4, 5, 6] [8, 9, 64] (L' := [(8, .pointer (some ⟨b68, 0, none⟩)), (9, .int .i64 r55.2), (64, .slice A5_q45 o43.length c5_q45)]) (w' := w80) (by kernel_rfl) ?_
        obtain ⟨r82, e83, H⟩ := bind_ex H
        refine WR.st (St.call (by kernel_rfl) (f := 11) (args := #[.slice A5_q45 o43.length c5_q45]) (by kernel_rfl) (colophonref06_Open.calls w80 A5_q45 c5_q45 o43 (Sat.rdAt 0 hS rfl) r82 e83) ?_)
        rintro _ w89 ⟨A91, c92, rfl, hS90⟩
        have hS : Sat w89 (rf w0) [orw 22 (Esl 5 (.int .u8)) 1 A91 c92 r82.1, osl 5 (r0 (.int .u8)) 1 A5_q45 c5_q45 o43, O52 b68 y65] := hS.ext hS90
        refine WR.runk [2, 3, 4, 5, 6] [] [8, 9, 11, 12] (L' := [(8, .pointer (some ⟨b68, 0, none⟩)), (9, .int .i64 r55.2), (11, .slice A91 r82.1.length c92), (12, .bool r82.2)]) (w' := w89) (by kernel_rfl) ?_
        refine WR.nil ?_
        refine At.go ?_
        refine WC.seq (by kernel_rfl) ?_
        refine WC.seq (by kernel_rfl) ?_
        refine WC.reg [0, 1] (by kernel_rfl) (by kernel_rfl) ?_
        refine WR.runk [0, 1] [] [8, 9, 11, 69] (L' := [(8, .pointer (some ⟨b68, 0, none⟩)), (9, .int .i64 r55.2), (11, .slice A91 r82.1.length c92), (69, .bool (!r82.2))]) (w' := w89) (by kernel_rfl) ?_
        refine WR.nil ?_
        refine At.go ?_
        refine WC.cond (by kernel_rfl) (!r82.2) (by kernel_rfl) (by kernel_rfl) (fun hb93 => ?_) (fun hb93 => ?_)
        · replace H := ite_t H hb93
          refine WC.seq (by kernel_rfl) ?_
          refine WC.reg [0, 1, 2, 3, 4, 5, 6] (by kernel_rfl) (by kernel_rfl) ?_
          refine WR.runk [0, 1, 2] [3, 4, 5, 6] [8, 72] (L' := [(8, .pointer (some ⟨b68, 0, none⟩)), (72, .bool (r55.2 == 10))]) (w' := w89) (by kernel_rfl) ?_
          refine WR.split 72 (b := (r55.2 == 10)) (by kernel_rfl) (fun hb94 => ?_) (fun hb94 => ?_)
          · replace H := ite_t H hb94
            refine WR.runk [3, 4, 5, 6] [] [4] (L' := [(4, .bool false)]) (w' := w89) (by kernel_rfl) ?_
            refine WR.nil ?_
            refine At.go ?_
            refine WC.ret (by kernel_rfl) ?_
            refine At.thenRet ?_
            obtain rfl := Option.some.inj H
            have hS : Sat w89 (rf w0) [] := hS.sel [] (by kernel_rfl)
            exact At.body [.bool false] (by kernel_rfl) ⟨_, rfl, rfl, hS⟩
          · replace H := ite_f H hb94
            refine WR.runk [3, 4, 5, 6] [] [4] (L' := [(4, .bool false)]) (w' := w89) (by kernel_rfl) ?_
            refine WR.nil ?_
            refine At.go ?_
            refine WC.ret (by kernel_rfl) ?_
            refine At.thenRet ?_
            obtain rfl := Option.some.inj H
            have hS : Sat w89 (rf w0) [] := hS.sel [] (by kernel_rfl)
            exact At.body [.bool false] (by kernel_rfl) ⟨_, rfl, rfl, hS⟩
        · replace H := ite_f H hb93
          refine WC.skip (by kernel_rfl) ?_
          refine At.go ?_
          refine WC.seq (by kernel_rfl) ?_
          refine WC.reg [0, 1, 2, 3, 4, 5, 6, 7, 8] (by kernel_rfl) (by kernel_rfl) ?_
          refine WR.runk [0, 1, 2] [3, 4, 5, 6, 7, 8] [8, 11, 78] (L' := [(8, .pointer (some ⟨b68, 0, none⟩)), (11, .slice A91 r82.1.length c92), (78, .bool (r55.2 == 0))]) (w' := w89) (by kernel_rfl) ?_
          refine WR.split 78 (b := (r55.2 == 0)) (by kernel_rfl) (fun hb95 => ?_) (fun hb95 => ?_)
          · replace H := ite_t H hb95
            refine WR.runk [3] [4, 5, 6, 7, 8] [11, 78, 79] (L' := [(11, .slice A91 r82.1.length c92), (78, .bool true), (79, .pointer (some ⟨b68, 0, none⟩))]) (w' := w89) (by kernel_rfl) ?_
            obtain ⟨r96, e97, H⟩ := bind_ex H
            refine WR.st (St.call (by kernel_rfl) (f := 13) (args := #[.pointer (some ⟨b68, 0, none⟩)]) (by kernel_rfl) (colophonlaw06_read.calls w89 (.pointer (some ⟨b68, 0, none⟩)) (some y65) (Sat.rdAny 2 hS rfl (fun _ h => O52.rd _ _ _ h)) r96 e97) ?_)
            rintro _ w103 ⟨A105, c106, rfl, hS104⟩
            have hS : Sat w103 (rf w0) [orw 22 (Esl 5 (.int .u8)) 1 A105 c106 r96, orw 22 (Esl 5 (.int .u8)) 1 A91 c92 r82.1, osl 5 (r0 (.int .u8)) 1 A5_q45 c5_q45 o43, O52 b68 y65] := hS.ext hS104
            refine WR.runk [5] [6, 7, 8] [78, 80, 81] (L' := [(78, .bool true), (80, .slice A105 r96.length c106), (81, .slice A91 r82.1.length c92)]) (w' := w103) (by kernel_rfl) ?_
            obtain ⟨r107, e108, H⟩ := bind_ex H
            refine WR.st (St.call (by kernel_rfl) (f := 12) (args := #[.slice A105 r96.length c106, .slice A91 r82.1.length c92]) (by kernel_rfl) (colophonref06_Same.calls w103 A105 c106 r96 (Sat.rdAnyS 0 hS rfl (fun _ h => orw.rdS (κ := (.slice 5 (.int .u8))) (Esl.rd (e := 5) (κ := (.int .u8))) h)) A91 c92 r82.1 (Sat.rdAnyS 1 hS rfl (fun _ h => orw.rdS (κ := (.slice 5 (.int .u8))) (Esl.rd (e := 5) (κ := (.int .u8))) h)) r107 e108) ?_)
            rintro _ w114 ⟨rfl, hS115⟩
            have hS : Sat w114 (rf w0) [orw 22 (Esl 5 (.int .u8)) 1 A105 c106 r96, orw 22 (Esl 5 (.int .u8)) 1 A91 c92 r82.1, osl 5 (r0 (.int .u8)) 1 A5_q45 c5_q45 o43, O52 b68 y65] := hS.ext hS115
            refine WR.runk [7, 8] [] [4] (L' := [(4, .bool r107)]) (w' := w114) (by kernel_rfl) ?_
            refine WR.nil ?_
            refine At.go ?_
            refine WC.ret (by kernel_rfl) ?_
            obtain rfl := Option.some.inj H
            have hS : Sat w114 (rf w0) [] := hS.sel [] (by kernel_rfl)
            exact At.body [.bool r107] (by kernel_rfl) ⟨_, rfl, rfl, hS⟩
          · replace H := ite_f H hb95
            refine WR.runk [3, 4, 5, 6, 7, 8] [] [4] (L' := [(4, .bool false)]) (w' := w89) (by kernel_rfl) ?_
            refine WR.nil ?_
            refine At.go ?_
            refine WC.ret (by kernel_rfl) ?_
            obtain rfl := Option.some.inj H
            have hS : Sat w89 (rf w0) [] := hS.sel [] (by kernel_rfl)
            exact At.body [.bool false] (by kernel_rfl) ⟨_, rfl, rfl, hS⟩
end Go.Proofs.Ytejjdfnelalnoaa
