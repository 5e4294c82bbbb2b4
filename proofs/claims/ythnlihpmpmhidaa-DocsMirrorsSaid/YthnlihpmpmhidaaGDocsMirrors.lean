/-
  Printed by gen.py (my own tool): for each Go function a plain Lean function and the proof that a call of it does what that function says.
-/
import Derived.Test.YthnlihpmpmhidaaGP1b
set_option linter.unusedVariables false
set_option linter.unusedSimpArgs false
set_option maxRecDepth 100000
namespace Go.Proofs.Ythnlihpmpmhidaa
open Go Go.Gol
/-! ### 6 colophon/colophonlaw12.DocsMirrors -/
def colophonlaw12_DocsMirrors.l1 (l0 : List Int) : Nat → (List Int) → Int → Option (List Int)
  | 0, _, _ => none
  | k + 1, x3_l1, x4_l1 => (if decide (x4_l1 ≥ 0) then ((at? l0 x4_l1).bind fun v13 => ((app? 17592186044416 x3_l1 ([v13] : List Int)).bind fun y18 => colophonlaw12_DocsMirrors.l1 l0 k y18 (wi (x4_l1 - 1)))) else some x3_l1)
def colophonlaw12_DocsMirrors.l2 (l0 : List Int) (r27 : (List Int)) (r38 : (List Int)) : Nat → Int → Option (Sum Bool Unit)
  | 0, _ => none
  | k + 1, x33_l2 => (if decide (x33_l2 < (l0.length : Int)) then ((at? r38 (wi ((wi ((l0.length : Int) - 1)) - x33_l2))).bind fun v52 => ((at? r27 x33_l2).bind fun v54 => (if (v52 != (wi ((wi ((l0.length : Int) - 1)) - v54))) then some (.inl false) else colophonlaw12_DocsMirrors.l2 l0 r27 r38 k (wi (x33_l2 + 1))))) else some (.inr ()))
def colophonlaw12_DocsMirrors.f (l0 : List Int) : Option Bool := (colophonlaw12_first.f.bind fun r1 => (if (!r1) then some false else (if decide ((l0.length : Int) > 1000) then some true else ((colophonlaw12_DocsMirrors.l1 l0 FU ([] : List Int) (wi ((l0.length : Int) - 1))).bind fun o22 => ((docs_Back.f l0).bind fun r27 => ((docs_Ahead.f o22).bind fun r38 => ((colophonlaw12_DocsMirrors.l2 l0 r27 r38 FU 0).bind fun o57 => (match o57 with | .inl o59 => some o59 | .inr o63 => (if ((r38.length : Int) == (l0.length : Int)) then some ((r27.length : Int) == (l0.length : Int)) else some false)))))))))
def colophonlaw12_DocsMirrors.post (w : World) (r : Bool) (v : Value) (w' : World) : Prop := v = (.bool r : Value) ∧ Sat w' (rf w) []
theorem colophonlaw12_DocsMirrors.l1_ok {Q} (w0 : World) (A0 : Option Addr) (c0 : Nat) (l0 : List Int) (R0 : rdS (r0 (.int .i64)) 1 (hp w0) A0 c0 l0) (out : (List Int)) (hn0 : ∀ (A3_q : Option Addr) (c3_q : Nat) (w : World), Sat w (rf w0) [osl 3 (r0 (.int .i64)) 1 A3_q c3_q out] → At Q (.exit 0) 66 [(0, .slice A0 l0.length c0), (3, .slice A3_q out.length c3_q)] w) :
    ∀ (k : Nat) (x3_l1 : List Int) (x4_l1 : Int) (A3_l1 : Option Addr) (c3_l1 : Nat) (w : World), Sat w (rf w0) [osl 3 (r0 (.int .i64)) 1 A3_l1 c3_l1 x3_l1] → colophonlaw12_DocsMirrors.l1 l0 k x3_l1 x4_l1 = some out → WL Try.prog (cbody (cbody (cr (cl (cr (cr (cr (cr C6)))))))) Q 66 [(0, .slice A0 l0.length c0), (3, .slice A3_l1 x3_l1.length c3_l1), (4, .int .i64 x4_l1)] w := by
  intro k
  induction k with
  | zero => intro x3_l1 x4_l1 A3_l1 c3_l1 w hS H; exact absurd (show none = some out from H) (by simp)
  | succ k ih =>
    intro x3_l1 x4_l1 A3_l1 c3_l1 w hS H
    unfold colophonlaw12_DocsMirrors.l1 at H
    refine WL.round ?_
    refine WC.seq (by kernel_rfl) ?_
    refine WC.seq (by kernel_rfl) ?_
    refine WC.reg [0, 1] (by kernel_rfl) (by kernel_rfl) ?_
    refine WR.runk [0, 1] [] [0, 3, 4, 17] (L' := [(0, .slice A0 l0.length c0), (3, .slice A3_l1 x3_l1.length c3_l1), (4, .int .i64 x4_l1), (17, .bool (decide (x4_l1 ≥ 0)))]) (w' := w) (by kernel_rfl) ?_
    refine WR.nil ?_
    refine At.go ?_
    refine WC.cond (by kernel_rfl) (decide (x4_l1 ≥ 0)) (by kernel_rfl) (by kernel_rfl) (fun hb12 => ?_) (fun hb12 => ?_)
    · replace H := ite_t H hb12
      refine WC.skip (by kernel_rfl) ?_
      refine At.go ?_
      refine WC.seq (by kernel_rfl) ?_
      refine WC.block (by kernel_rfl) ?_
      refine WC.reg [0, 1, 2, 3, 4, 5, 6, 7] (by kernel_rfl) (by kernel_rfl) ?_
      refine WR.runk [0, 1, 2] [3, 4, 5, 6, 7] [0, 3, 4, 20, 21, 22] (L' := [(0, .slice A0 l0.length c0), (3, .slice A3_l1 x3_l1.length c3_l1), (4, .int .i64 x4_l1), (20, .slice A3_l1 x3_l1.length c3_l1), (21, .slice A0 l0.length c0), (22, .int .i64 x4_l1)]) (w' := w) (by kernel_rfl) ?_
      obtain ⟨v13, e14, H⟩ := bind_ex H
      refine WR.st (St.ofP (PSt.idx (k := .i64) (.tmp 21) (.tmp 22) (by kernel_rfl) (by kernel_rfl) E23 (by kernel_rfl) (by kernel_rfl) (rdS.up R0 hS.sub0) e14 ?_))
      refine WR.runk [] [4, 5, 6, 7] [0, 3, 4, 20, 23] (L' := [(0, .slice A0 l0.length c0), (3, .slice A3_l1 x3_l1.length c3_l1), (4, .int .i64 x4_l1), (20, .slice A3_l1 x3_l1.length c3_l1), (23, .pointer (some (adr A0 x4_l1.toNat 1)))]) (w' := w) (by kernel_rfl) ?_
      refine WR.st (St.ofR (RSt.loadInt (t := 3) (.tmp 23) (by kernel_rfl) (by kernel_rfl) (by kernel_rfl) (by kernel_rfl) (rdS.up R0 hS.sub0) e14 ?_))
      refine WR.runk [] [5, 6, 7] [0, 3, 4, 20, 24] (L' := [(0, .slice A0 l0.length c0), (3, .slice A3_l1 x3_l1.length c3_l1), (4, .int .i64 x4_l1), (20, .slice A3_l1 x3_l1.length c3_l1), (24, .int .i64 v13)]) (w' := w) (by kernel_rfl) ?_
      refine WR.st (St.box hS (by kernel_rfl) (.cells #[.int .i64 v13] 3) (fun b15 => .slice (some ⟨b15, 0, none⟩) 1 1) (fun _ => by kernel_rfl) (fun b15 w16 hS => ?_))
      refine WR.runk [] [6, 7] [0, 3, 4, 20, 25] (L' := [(0, .slice A0 l0.length c0), (3, .slice A3_l1 x3_l1.length c3_l1), (4, .int .i64 x4_l1), (20, .slice A3_l1 x3_l1.length c3_l1), (25, .slice (some ⟨b15, 0, none⟩) 1 1)]) (w' := w16) (by kernel_rfl) ?_
      have hS : Sat w16 (rf w0) [osl 3 (r0 (.int .i64)) 1 A3_l1 c3_l1 x3_l1, pts b15 (.cells #[.int .i64 v13] 3 (0, 0))] := hS.sel [1, 0] (by kernel_rfl)
      obtain ⟨y18, e17, H⟩ := bind_ex H
      refine WR.st (St.append' (.tmp 20) (.tmp 25) (by kernel_rfl) (by kernel_rfl) E23 (r0_one _) hS (by kernel_rfl) (by kernel_rfl) (Sat.ptsAt 1 (r0 (.int .i64)) 1 ([v13] : List Int) hS rfl rfl (rdL.cons1 rfl (rdL.nil _ _))) 17592186044416 (by kernel_rfl) (by kernel_rfl) e17 (fun A19 c20 w21 hS => ?_))
      refine WR.runk [7] [] [0, 3, 4] (L' := [(0, .slice A0 l0.length c0), (3, .slice A19 y18.length c20), (4, .int .i64 x4_l1)]) (w' := w21) (by kernel_rfl) ?_
      refine WR.nil ?_
      refine At.blockNormal ?_
      refine At.go ?_
      refine WC.reg [0, 1, 2] (by kernel_rfl) (by kernel_rfl) ?_
      refine WR.runk [0, 1, 2] [] [0, 3, 4] (L' := [(0, .slice A0 l0.length c0), (3, .slice A19 y18.length c20), (4, .int .i64 (wi (x4_l1 - 1)))]) (w' := w21) (by kernel_rfl) ?_
      refine WR.nil ?_
      have hS : Sat w21 (rf w0) [osl 3 (r0 (.int .i64)) 1 A19 c20 y18] := hS.sel [0] (by kernel_rfl)
      refine At.again ?_
      refine WL.weaken [0, 3, 4] (L' := [(0, .slice A0 l0.length c0), (3, .slice A19 y18.length c20), (4, .int .i64 (wi (x4_l1 - 1)))]) (by kernel_rfl) ?_
      exact ih y18 (wi (x4_l1 - 1)) A19 c20 _ hS H
    · replace H := ite_f H hb12
      refine WC.exit (by kernel_rfl) ?_
      refine At.thenExit ?_
      refine At.thenExit ?_
      obtain rfl := Option.some.inj H
      have hS : Sat w (rf w0) [osl 3 (r0 (.int .i64)) 1 A3_l1 c3_l1 x3_l1] := hS.sel [0] (by kernel_rfl)
      refine At.weaken [0, 3] (L' := [(0, .slice A0 l0.length c0), (3, .slice A3_l1 x3_l1.length c3_l1)]) (by kernel_rfl) ?_
      exact hn0 A3_l1 c3_l1 _ hS
theorem colophonlaw12_DocsMirrors.l2_ok {Q} (w0 : World) (A0 : Option Addr) (c0 : Nat) (l0 : List Int) (r27 : (List Int)) (A36 : Option Addr) (c37 : Nat) (r38 : (List Int)) (A47 : Option Addr) (c48 : Nat) (out : Sum Bool Unit) (hn0 : ∀ (o0 : Bool) (w : World), out = (.inl o0) → Sat w (rf w0) [] → At Q .ret 66 [(2, .bool o0)] w) (hn1 : ∀ (o1 : Unit) (w : World), out = (.inr o1) → Sat w (rf w0) [osl 3 (r0 (.int .i64)) 1 A36 c37 r27, osl 3 (r0 (.int .i64)) 1 A47 c48 r38] → At Q (.exit 2) 66 [(0, .slice A0 l0.length c0), (5, .slice A36 r27.length c37), (6, .slice A47 r38.length c48)] w) :
    ∀ (k : Nat) (x33_l2 : Int) (w : World), Sat w (rf w0) [osl 3 (r0 (.int .i64)) 1 A36 c37 r27, osl 3 (r0 (.int .i64)) 1 A47 c48 r38] → colophonlaw12_DocsMirrors.l2 l0 r27 r38 k x33_l2 = some out → WL Try.prog (cbody (cbody (cr (cl (cr (cr (cr (cr (cr (cr C6)))))))))) Q 66 [(0, .slice A0 l0.length c0), (5, .slice A36 r27.length c37), (6, .slice A47 r38.length c48), (32, .int .i64 (l0.length : Int)), (33, .int .i64 x33_l2)] w := by
  intro k
  induction k with
  | zero => intro x33_l2 w hS H; exact absurd (show none = some out from H) (by simp)
  | succ k ih =>
    intro x33_l2 w hS H
    unfold colophonlaw12_DocsMirrors.l2 at H
    refine WL.round ?_
    refine WC.seq (by kernel_rfl) ?_
    refine WC.reg [0] (by kernel_rfl) (by kernel_rfl) ?_
    refine WR.runk [0] [] [0, 5, 6, 32, 33, 34] (L' := [(0, .slice A0 l0.length c0), (5, .slice A36 r27.length c37), (6, .slice A47 r38.length c48), (32, .int .i64 (l0.length : Int)), (33, .int .i64 x33_l2), (34, .bool (decide (x33_l2 < (l0.length : Int))))]) (w' := w) (by kernel_rfl) ?_
    refine WR.nil ?_
    refine At.go ?_
    refine WC.seq (by kernel_rfl) ?_
    refine WC.cond (by kernel_rfl) (decide (x33_l2 < (l0.length : Int))) (by kernel_rfl) (by kernel_rfl) (fun hb49 => ?_) (fun hb49 => ?_)
    · replace H := ite_t H hb49
      refine WC.skip (by kernel_rfl) ?_
      refine At.go ?_
      refine WC.seq (by kernel_rfl) ?_
      refine WC.block (by kernel_rfl) ?_
      refine WC.seq (by kernel_rfl) ?_
      refine WC.reg [0, 1] (by kernel_rfl) (by kernel_rfl) ?_
      refine WR.runk [0, 1] [] [0, 5, 6, 7, 32, 33] (L' := [(0, .slice A0 l0.length c0), (5, .slice A36 r27.length c37), (6, .slice A47 r38.length c48), (7, .int .i64 x33_l2), (32, .int .i64 (l0.length : Int)), (33, .int .i64 x33_l2)]) (w' := w) (by kernel_rfl) ?_
      refine WR.nil ?_
      refine At.go ?_
      refine WC.seq (by kernel_rfl) ?_
      refine WC.drawn (by kernel_rfl) (by kernel_rfl) 17 (by kernel_rfl) (fun w50 hw51 => ?_)
      have hS := hS.heap hw51.1 hw51.2
      refine WD.weaken [0, 5, 6, 7, 32, 33] (L' := [(0, .slice A0 l0.length c0), (5, .slice A36 r27.length c37), (6, .slice A47 r38.length c48), (7, .int .i64 x33_l2), (32, .int .i64 (l0.length : Int)), (33, .int .i64 x33_l2)]) (by kernel_rfl) ?_
      refine WD.pure (i := 0) (v := .slice A47 r38.length c48) (by kernel_rfl) (by kernel_rfl) (fun _ => by kernel_rfl) ?_
      refine WD.weaken [0, 5, 6, 7, 32, 33, 36] (L' := [(0, .slice A0 l0.length c0), (5, .slice A36 r27.length c37), (6, .slice A47 r38.length c48), (7, .int .i64 x33_l2), (32, .int .i64 (l0.length : Int)), (33, .int .i64 x33_l2), (36, .slice A47 r38.length c48)]) (by kernel_rfl) ?_
      refine WD.pure (i := 1) (v := .slice A0 l0.length c0) (by kernel_rfl) (by kernel_rfl) (fun _ => by kernel_rfl) ?_
      refine WD.weaken [0, 5, 6, 7, 32, 33, 36, 37] (L' := [(0, .slice A0 l0.length c0), (5, .slice A36 r27.length c37), (6, .slice A47 r38.length c48), (7, .int .i64 x33_l2), (32, .int .i64 (l0.length : Int)), (33, .int .i64 x33_l2), (36, .slice A47 r38.length c48), (37, .slice A0 l0.length c0)]) (by kernel_rfl) ?_
      refine WD.pure (i := 2) (v := .int .i64 (l0.length : Int)) (by kernel_rfl) (by kernel_rfl) (fun _ => by kernel_rfl) ?_
      refine WD.weaken [0, 5, 6, 7, 32, 33, 36, 38] (L' := [(0, .slice A0 l0.length c0), (5, .slice A36 r27.length c37), (6, .slice A47 r38.length c48), (7, .int .i64 x33_l2), (32, .int .i64 (l0.length : Int)), (33, .int .i64 x33_l2), (36, .slice A47 r38.length c48), (38, .int .i64 (l0.length : Int))]) (by kernel_rfl) ?_
      refine WD.pure (i := 3) (v := .int .i64 (wi ((l0.length : Int) - 1))) (by kernel_rfl) (by kernel_rfl) (fun _ => by kernel_rfl) ?_
      refine WD.weaken [0, 5, 6, 7, 32, 33, 36, 39] (L' := [(0, .slice A0 l0.length c0), (5, .slice A36 r27.length c37), (6, .slice A47 r38.length c48), (7, .int .i64 x33_l2), (32, .int .i64 (l0.length : Int)), (33, .int .i64 x33_l2), (36, .slice A47 r38.length c48), (39, .int .i64 (wi ((l0.length : Int) - 1)))]) (by kernel_rfl) ?_
      refine WD.pure (i := 4) (v := .int .i64 x33_l2) (by kernel_rfl) (by kernel_rfl) (fun _ => by kernel_rfl) ?_
      refine WD.weaken [0, 5, 6, 7, 32, 33, 36, 39, 40] (L' := [(0, .slice A0 l0.length c0), (5, .slice A36 r27.length c37), (6, .slice A47 r38.length c48), (7, .int .i64 x33_l2), (32, .int .i64 (l0.length : Int)), (33, .int .i64 x33_l2), (36, .slice A47 r38.length c48), (39, .int .i64 (wi ((l0.length : Int) - 1))), (40, .int .i64 x33_l2)]) (by kernel_rfl) ?_
      refine WD.pure (i := 5) (v := .int .i64 (wi ((wi ((l0.length : Int) - 1)) - x33_l2))) (by kernel_rfl) (by kernel_rfl) (fun _ => by kernel_rfl) ?_
      refine WD.weaken [0, 5, 6, 7, 32, 33, 36, 41] (L' := [(0, .slice A0 l0.length c0), (5, .slice A36 r27.length c37), (6, .slice A47 r38.length c48), (7, .int .i64 x33_l2), (32, .int .i64 (l0.length : Int)), (33, .int .i64 x33_l2), (36, .slice A47 r38.length c48), (41, .int .i64 (wi ((wi ((l0.length : Int) - 1)) - x33_l2)))]) (by kernel_rfl) ?_
      obtain ⟨v52, e53, H⟩ := bind_ex H
      refine WD.ofP (i := 6) (by kernel_rfl) (PSt.idx (k := .i64) (.tmp 36) (.tmp 41) (by kernel_rfl) (by kernel_rfl) E23 (by kernel_rfl) (by kernel_rfl) (Sat.rdAt 1 hS rfl) e53 ?_)
      refine WD.weaken [0, 5, 6, 7, 32, 33, 42] (L' := [(0, .slice A0 l0.length c0), (5, .slice A36 r27.length c37), (6, .slice A47 r38.length c48), (7, .int .i64 x33_l2), (32, .int .i64 (l0.length : Int)), (33, .int .i64 x33_l2), (42, .pointer (some (adr A47 (wi ((wi ((l0.length : Int) - 1)) - x33_l2)).toNat 1)))]) (by kernel_rfl) ?_
      refine WD.ofR (i := 7) (by kernel_rfl) (RSt.loadInt (t := 3) (.tmp 42) (by kernel_rfl) (by kernel_rfl) (by kernel_rfl) (by kernel_rfl) (Sat.rdAt 1 hS rfl) e53 ?_)
      refine WD.weaken [0, 5, 6, 7, 32, 33, 43] (L' := [(0, .slice A0 l0.length c0), (5, .slice A36 r27.length c37), (6, .slice A47 r38.length c48), (7, .int .i64 x33_l2), (32, .int .i64 (l0.length : Int)), (33, .int .i64 x33_l2), (43, .int .i64 v52)]) (by kernel_rfl) ?_
      refine WD.pure (i := 8) (v := .slice A0 l0.length c0) (by kernel_rfl) (by kernel_rfl) (fun _ => by kernel_rfl) ?_
      refine WD.weaken [0, 5, 6, 7, 32, 33, 43, 44] (L' := [(0, .slice A0 l0.length c0), (5, .slice A36 r27.length c37), (6, .slice A47 r38.length c48), (7, .int .i64 x33_l2), (32, .int .i64 (l0.length : Int)), (33, .int .i64 x33_l2), (43, .int .i64 v52), (44, .slice A0 l0.length c0)]) (by kernel_rfl) ?_
      refine WD.pure (i := 9) (v := .int .i64 (l0.length : Int)) (by kernel_rfl) (by kernel_rfl) (fun _ => by kernel_rfl) ?_
      refine WD.weaken [0, 5, 6, 7, 32, 33, 43, 45] (L' := [(0, .slice A0 l0.length c0), (5, .slice A36 r27.length c37), (6, .slice A47 r38.length c48), (7, .int .i64 x33_l2), (32, .int .i64 (l0.length : Int)), (33, .int .i64 x33_l2), (43, .int .i64 v52), (45, .int .i64 (l0.length : Int))]) (by kernel_rfl) ?_
      refine WD.pure (i := 10) (v := .int .i64 (wi ((l0.length : Int) - 1))) (by kernel_rfl) (by kernel_rfl) (fun _ => by kernel_rfl) ?_
      refine WD.weaken [0, 5, 6, 7, 32, 33, 43, 46] (L' := [(0, .slice A0 l0.length c0), (5, .slice A36 r27.length c37), (6, .slice A47 r38.length c48), (7, .int .i64 x33_l2), (32, .int .i64 (l0.length : Int)), (33, .int .i64 x33_l2), (43, .int .i64 v52), (46, .int .i64 (wi ((l0.length : Int) - 1)))]) (by kernel_rfl) ?_
      refine WD.pure (i := 11) (v := .slice A36 r27.length c37) (by kernel_rfl) (by kernel_rfl) (fun _ => by kernel_rfl) ?_
      refine WD.weaken [0, 5, 6, 7, 32, 33, 43, 46, 47] (L' := [(0, .slice A0 l0.length c0), (5, .slice A36 r27.length c37), (6, .slice A47 r38.length c48), (7, .int .i64 x33_l2), (32, .int .i64 (l0.length : Int)), (33, .int .i64 x33_l2), (43, .int .i64 v52), (46, .int .i64 (wi ((l0.length : Int) - 1))), (47, .slice A36 r27.length c37)]) (by kernel_rfl) ?_
      refine WD.pure (i := 12) (v := .int .i64 x33_l2) (by kernel_rfl) (by kernel_rfl) (fun _ => by kernel_rfl) ?_
      refine WD.weaken [0, 5, 6, 32, 33, 43, 46, 47, 48] (L' := [(0, .slice A0 l0.length c0), (5, .slice A36 r27.length c37), (6, .slice A47 r38.length c48), (32, .int .i64 (l0.length : Int)), (33, .int .i64 x33_l2), (43, .int .i64 v52), (46, .int .i64 (wi ((l0.length : Int) - 1))), (47, .slice A36 r27.length c37), (48, .int .i64 x33_l2)]) (by kernel_rfl) ?_
      obtain ⟨v54, e55, H⟩ := bind_ex H
      refine WD.ofP (i := 13) (by kernel_rfl) (PSt.idx (k := .i64) (.tmp 47) (.tmp 48) (by kernel_rfl) (by kernel_rfl) E23 (by kernel_rfl) (by kernel_rfl) (Sat.rdAt 0 hS rfl) e55 ?_)
      refine WD.weaken [0, 5, 6, 32, 33, 43, 46, 49] (L' := [(0, .slice A0 l0.length c0), (5, .slice A36 r27.length c37), (6, .slice A47 r38.length c48), (32, .int .i64 (l0.length : Int)), (33, .int .i64 x33_l2), (43, .int .i64 v52), (46, .int .i64 (wi ((l0.length : Int) - 1))), (49, .pointer (some (adr A36 x33_l2.toNat 1)))]) (by kernel_rfl) ?_
      refine WD.ofR (i := 14) (by kernel_rfl) (RSt.loadInt (t := 3) (.tmp 49) (by kernel_rfl) (by kernel_rfl) (by kernel_rfl) (by kernel_rfl) (Sat.rdAt 0 hS rfl) e55 ?_)
      refine WD.weaken [0, 5, 6, 32, 33, 43, 46, 50] (L' := [(0, .slice A0 l0.length c0), (5, .slice A36 r27.length c37), (6, .slice A47 r38.length c48), (32, .int .i64 (l0.length : Int)), (33, .int .i64 x33_l2), (43, .int .i64 v52), (46, .int .i64 (wi ((l0.length : Int) - 1))), (50, .int .i64 v54)]) (by kernel_rfl) ?_
      refine WD.pure (i := 15) (v := .int .i64 (wi ((wi ((l0.length : Int) - 1)) - v54))) (by kernel_rfl) (by kernel_rfl) (fun _ => by kernel_rfl) ?_
      refine WD.weaken [0, 5, 6, 32, 33, 43, 51] (L' := [(0, .slice A0 l0.length c0), (5, .slice A36 r27.length c37), (6, .slice A47 r38.length c48), (32, .int .i64 (l0.length : Int)), (33, .int .i64 x33_l2), (43, .int .i64 v52), (51, .int .i64 (wi ((wi ((l0.length : Int) - 1)) - v54)))]) (by kernel_rfl) ?_
      refine WD.pure (i := 16) (v := .bool (v52 != (wi ((wi ((l0.length : Int) - 1)) - v54)))) (by kernel_rfl) (by kernel_rfl) (fun _ => by kernel_rfl) ?_
      refine WD.weaken [0, 5, 6, 32, 33, 52] (L' := [(0, .slice A0 l0.length c0), (5, .slice A36 r27.length c37), (6, .slice A47 r38.length c48), (32, .int .i64 (l0.length : Int)), (33, .int .i64 x33_l2), (52, .bool (v52 != (wi ((wi ((l0.length : Int) - 1)) - v54))))]) (by kernel_rfl) ?_
      refine WD.nil (by kernel_rfl) ?_
      refine At.go ?_
      refine WC.cond (by kernel_rfl) (v52 != (wi ((wi ((l0.length : Int) - 1)) - v54))) (by kernel_rfl) (by kernel_rfl) (fun hb56 => ?_) (fun hb56 => ?_)
      · replace H := ite_t H hb56
        refine WC.seq (by kernel_rfl) ?_
        refine WC.reg [0] (by kernel_rfl) (by kernel_rfl) ?_
        refine WR.runk [0] [] [2] (L' := [(2, .bool false)]) (w' := w50) (by kernel_rfl) ?_
        refine WR.nil ?_
        refine At.go ?_
        refine WC.ret (by kernel_rfl) ?_
        refine At.blockRet ?_
        refine At.thenRet ?_
        refine At.thenRet ?_
        obtain rfl := Option.some.inj H
        have hS : Sat w50 (rf w0) [] := hS.sel [] (by kernel_rfl)
        refine At.weaken [2] (L' := [(2, .bool false)]) (by kernel_rfl) ?_
        exact hn0 false _ rfl hS
      · replace H := ite_f H hb56
        refine WC.skip (by kernel_rfl) ?_
        refine At.blockNormal ?_
        refine At.go ?_
        refine WC.reg [0, 1] (by kernel_rfl) (by kernel_rfl) ?_
        refine WR.runk [0, 1] [] [0, 5, 6, 32, 33] (L' := [(0, .slice A0 l0.length c0), (5, .slice A36 r27.length c37), (6, .slice A47 r38.length c48), (32, .int .i64 (l0.length : Int)), (33, .int .i64 (wi (x33_l2 + 1)))]) (w' := w50) (by kernel_rfl) ?_
        refine WR.nil ?_
        have hS : Sat w50 (rf w0) [osl 3 (r0 (.int .i64)) 1 A36 c37 r27, osl 3 (r0 (.int .i64)) 1 A47 c48 r38] := hS.sel [0, 1] (by kernel_rfl)
        refine At.again ?_
        refine WL.weaken [0, 5, 6, 32, 33] (L' := [(0, .slice A0 l0.length c0), (5, .slice A36 r27.length c37), (6, .slice A47 r38.length c48), (32, .int .i64 (l0.length : Int)), (33, .int .i64 (wi (x33_l2 + 1)))]) (by kernel_rfl) ?_
        exact ih (wi (x33_l2 + 1)) _ hS H
    · replace H := ite_f H hb49
      refine WC.exit (by kernel_rfl) ?_
      refine At.thenExit ?_
      refine At.thenExit ?_
      obtain rfl := Option.some.inj H
      have hS : Sat w (rf w0) [osl 3 (r0 (.int .i64)) 1 A36 c37 r27, osl 3 (r0 (.int .i64)) 1 A47 c48 r38] := hS.sel [0, 1] (by kernel_rfl)
      refine At.weaken [0, 5, 6] (L' := [(0, .slice A0 l0.length c0), (5, .slice A36 r27.length c37), (6, .slice A47 r38.length c48)]) (by kernel_rfl) ?_
      exact hn1 () _ rfl hS
theorem colophonlaw12_DocsMirrors.calls (w0 : World) (A0 : Option Addr) (c0 : Nat) (l0 : List Int) (R0 : rdS (r0 (.int .i64)) 1 (hp w0) A0 c0 l0) (r : Bool) (H : colophonlaw12_DocsMirrors.f l0 = some r) :
    Calls Try.prog 6 #[.slice A0 l0.length c0] w0 (fun e w' => ∃ v, e = .returned v ∧ colophonlaw12_DocsMirrors.post w0 r v w') := by
  have hS : Sat w0 (rf w0) [] := Sat.start w0
  unfold colophonlaw12_DocsMirrors.f at H
  refine calls_of_WC (vs := [.slice A0 l0.length c0]) Try.func6 (c := C6) (n := 66) (by kernel_rfl) (by kernel_rfl) (by kernel_rfl) ?_
  refine WC.seq (by kernel_rfl) ?_
  refine WC.reg [0] (by kernel_rfl) (by kernel_rfl) ?_
  refine WR.runk [0] [] [0] (L' := [(0, .slice A0 l0.length c0)]) (w' := w0) (by kernel_rfl) ?_
  refine WR.nil ?_
  refine At.go ?_
  refine WC.seq (by kernel_rfl) ?_
  refine WC.seq (by kernel_rfl) ?_
  refine WC.reg [0, 1] (by kernel_rfl) (by kernel_rfl) ?_
  obtain ⟨r1, e2, H⟩ := bind_ex H
  refine WR.st (St.call (by kernel_rfl) (f := 7) (args := #[]) (by kernel_rfl) (colophonlaw12_first.calls w0  r1 e2) ?_)
  rintro _ w8 ⟨rfl, hS9⟩
  have hS : Sat w8 (rf w0) [] := hS.ext hS9
  refine WR.runk [1] [] [0, 9] (L' := [(0, .slice A0 l0.length c0), (9, .bool (!r1))]) (w' := w8) (by kernel_rfl) ?_
  refine WR.nil ?_
  refine At.go ?_
  refine WC.cond (by kernel_rfl) (!r1) (by kernel_rfl) (by kernel_rfl) (fun hb10 => ?_) (fun hb10 => ?_)
  · replace H := ite_t H hb10
    refine WC.seq (by kernel_rfl) ?_
    refine WC.reg [0] (by kernel_rfl) (by kernel_rfl) ?_
    refine WR.runk [0] [] [2] (L' := [(2, .bool false)]) (w' := w8) (by kernel_rfl) ?_
    refine WR.nil ?_
    refine At.go ?_
    refine WC.ret (by kernel_rfl) ?_
    refine At.thenRet ?_
    obtain rfl := Option.some.inj H
    have hS : Sat w8 (rf w0) [] := hS.sel [] (by kernel_rfl)
    exact At.body [.bool false] (by kernel_rfl) ⟨_, rfl, rfl, hS⟩
  · replace H := ite_f H hb10
    refine WC.skip (by kernel_rfl) ?_
    refine At.go ?_
    refine WC.seq (by kernel_rfl) ?_
    refine WC.seq (by kernel_rfl) ?_
    refine WC.reg [0, 1, 2] (by kernel_rfl) (by kernel_rfl) ?_
    refine WR.runk [0, 1, 2] [] [0, 12] (L' := [(0, .slice A0 l0.length c0), (12, .bool (decide ((l0.length : Int) > 1000)))]) (w' := w8) (by kernel_rfl) ?_
    refine WR.nil ?_
    refine At.go ?_
    refine WC.cond (by kernel_rfl) (decide ((l0.length : Int) > 1000)) (by kernel_rfl) (by kernel_rfl) (fun hb11 => ?_) (fun hb11 => ?_)
    · replace H := ite_t H hb11
      refine WC.seq (by kernel_rfl) ?_
      refine WC.reg [0] (by kernel_rfl) (by kernel_rfl) ?_
      refine WR.runk [0] [] [2] (L' := [(2, .bool true)]) (w' := w8) (by kernel_rfl) ?_
      refine WR.nil ?_
      refine At.go ?_
      refine WC.ret (by kernel_rfl) ?_
      refine At.thenRet ?_
      obtain rfl := Option.some.inj H
      have hS : Sat w8 (rf w0) [] := hS.sel [] (by kernel_rfl)
      exact At.body [.bool true] (by kernel_rfl) ⟨_, rfl, rfl, hS⟩
    · replace H := ite_f H hb11
      refine WC.skip (by kernel_rfl) ?_
      refine At.go ?_
      refine WC.seq (by kernel_rfl) ?_
      refine WC.reg [0] (by kernel_rfl) (by kernel_rfl) ?_
      refine WR.runk [0] [] [0, 3] (L' := [(0, .slice A0 l0.length c0), (3, .slice none 0 0)]) (w' := w8) (by kernel_rfl) ?_
      refine WR.nil ?_
      refine At.go ?_
      refine WC.seq (by kernel_rfl) ?_
      refine WC.seq (by kernel_rfl) ?_
      refine WC.reg [0, 1, 2, 3] (by kernel_rfl) (by kernel_rfl) ?_
      refine WR.runk [0, 1, 2, 3] [] [0, 3, 4] (L' := [(0, .slice A0 l0.length c0), (3, .slice none 0 0), (4, .int .i64 (wi ((l0.length : Int) - 1)))]) (w' := w8) (by kernel_rfl) ?_
      refine WR.nil ?_
      refine At.go ?_
      refine WC.block (by kernel_rfl) ?_
      have hS := hS.addNil (α := Int) 3 (r0 (.int .i64)) 1
      have hS : Sat w8 (rf w0) [osl 3 (r0 (.int .i64)) 1 none 0 ([] : List Int)] := hS.sel [0] (by kernel_rfl)
      obtain ⟨o22, e23, H⟩ := bind_ex H
      refine WC.loop (by kernel_rfl) ?_
      refine WL.weaken [0, 3, 4] (L' := [(0, .slice A0 l0.length c0), (3, .slice none 0 0), (4, .int .i64 (wi ((l0.length : Int) - 1)))]) (by kernel_rfl) ?_
      refine colophonlaw12_DocsMirrors.l1_ok w0 A0 c0 l0 R0 o22 (fun A3_q24 c3_q24 w25 hS => ?_) FU ([] : List Int) (wi ((l0.length : Int) - 1)) none 0 _ hS e23
      refine At.hit ?_
      refine At.go ?_
      refine WC.seq (by kernel_rfl) ?_
      refine WC.reg [0, 1, 2, 3, 4, 5] (by kernel_rfl) (by kernel_rfl) ?_
      refine WR.runk [0] [1, 2, 3, 4, 5] [0, 3, 27] (L' := [(0, .slice A0 l0.length c0), (3, .slice A3_q24 o22.length c3_q24), (27, .slice A0 l0.length c0)]) (w' := w25) (by kernel_rfl) ?_
      obtain ⟨r27, e28, H⟩ := bind_ex H
      refine WR.st (St.call (by kernel_rfl) (f := 14) (args := #[.slice A0 l0.length c0]) (by kernel_rfl) (docs_Back.calls w25 A0 c0 l0 (rdS.up R0 hS.sub0) r27 e28) ?_)
      rintro _ w34 ⟨A36, c37, rfl, hS35⟩
      have hS : Sat w34 (rf w0) [osl 3 (r0 (.int .i64)) 1 A36 c37 r27, osl 3 (r0 (.int .i64)) 1 A3_q24 c3_q24 o22] := hS.ext hS35
      refine WR.runk [2] [3, 4, 5] [0, 28, 29] (L' := [(0, .slice A0 l0.length c0), (28, .slice A36 r27.length c37), (29, .slice A3_q24 o22.length c3_q24)]) (w' := w34) (by kernel_rfl) ?_
      obtain ⟨r38, e39, H⟩ := bind_ex H
      refine WR.st (St.call (by kernel_rfl) (f := 15) (args := #[.slice A3_q24 o22.length c3_q24]) (by kernel_rfl) (docs_Ahead.calls w34 A3_q24 c3_q24 o22 (Sat.rdAt 1 hS rfl) r38 e39) ?_)
      rintro _ w45 ⟨A47, c48, rfl, hS46⟩
      have hS : Sat w45 (rf w0) [osl 3 (r0 (.int .i64)) 1 A47 c48 r38, osl 3 (r0 (.int .i64)) 1 A36 c37 r27, osl 3 (r0 (.int .i64)) 1 A3_q24 c3_q24 o22] := hS.ext hS46
      refine WR.runk [4, 5] [] [0, 5, 6] (L' := [(0, .slice A0 l0.length c0), (5, .slice A36 r27.length c37), (6, .slice A47 r38.length c48)]) (w' := w45) (by kernel_rfl) ?_
      refine WR.nil ?_
      refine At.go ?_
      refine WC.seq (by kernel_rfl) ?_
      refine WC.seq (by kernel_rfl) ?_
      refine WC.reg [0, 1, 2] (by kernel_rfl) (by kernel_rfl) ?_
      refine WR.runk [0, 1, 2] [] [0, 5, 6, 32, 33] (L' := [(0, .slice A0 l0.length c0), (5, .slice A36 r27.length c37), (6, .slice A47 r38.length c48), (32, .int .i64 (l0.length : Int)), (33, .int .i64 0)]) (w' := w45) (by kernel_rfl) ?_
      refine WR.nil ?_
      refine At.go ?_
      refine WC.block (by kernel_rfl) ?_
      have hS : Sat w45 (rf w0) [osl 3 (r0 (.int .i64)) 1 A36 c37 r27, osl 3 (r0 (.int .i64)) 1 A47 c48 r38] := hS.sel [1, 0] (by kernel_rfl)
      obtain ⟨o57, e58, H⟩ := bind_ex H
      refine WC.loop (by kernel_rfl) ?_
      refine WL.weaken [0, 5, 6, 32, 33] (L' := [(0, .slice A0 l0.length c0), (5, .slice A36 r27.length c37), (6, .slice A47 r38.length c48), (32, .int .i64 (l0.length : Int)), (33, .int .i64 0)]) (by kernel_rfl) ?_
      refine colophonlaw12_DocsMirrors.l2_ok w0 A0 c0 l0 r27 A36 c37 r38 A47 c48 o57 (fun o59 w61 ho62 hS => ?_) (fun o63 w65 ho66 hS => ?_) FU 0 _ hS e58
      · subst ho62
        dsimp only at H
        refine At.blockRet ?_
        refine At.thenRet ?_
        obtain rfl := Option.some.inj H
        have hS : Sat w61 (rf w0) [] := hS.sel [] (by kernel_rfl)
        exact At.body [.bool o59] (by kernel_rfl) ⟨_, rfl, rfl, hS⟩
      · subst ho66
        dsimp only at H
        refine At.hit ?_
        refine At.go ?_
        refine WC.seq (by kernel_rfl) ?_
        refine WC.reg [0, 1, 2, 3, 4, 5, 6, 7, 8, 9, 10, 11, 12] (by kernel_rfl) (by kernel_rfl) ?_
        refine WR.runk [0, 1, 2, 3, 4, 5] [6, 7, 8, 9, 10, 11, 12] [0, 5, 59] (L' := [(0, .slice A0 l0.length c0), (5, .slice A36 r27.length c37), (59, .bool ((r38.length : Int) == (l0.length : Int)))]) (w' := w65) (by kernel_rfl) ?_
        refine WR.split 59 (b := ((r38.length : Int) == (l0.length : Int))) (by kernel_rfl) (fun hb67 => ?_) (fun hb67 => ?_)
        · replace H := ite_t H hb67
          refine WR.runk [6, 7, 8, 9, 10, 11, 12] [] [2] (L' := [(2, .bool ((r27.length : Int) == (l0.length : Int)))]) (w' := w65) (by kernel_rfl) ?_
          refine WR.nil ?_
          refine At.go ?_
          refine WC.ret (by kernel_rfl) ?_
          obtain rfl := Option.some.inj H
          have hS : Sat w65 (rf w0) [] := hS.sel [] (by kernel_rfl)
          exact At.body [.bool ((r27.length : Int) == (l0.length : Int))] (by kernel_rfl) ⟨_, rfl, rfl, hS⟩
        · replace H := ite_f H hb67
          refine WR.runk [6, 7, 8, 9, 10, 11, 12] [] [2] (L' := [(2, .bool false)]) (w' := w65) (by kernel_rfl) ?_
          refine WR.nil ?_
          refine At.go ?_
          refine WC.ret (by kernel_rfl) ?_
          obtain rfl := Option.some.inj H
          have hS : Sat w65 (rf w0) [] := hS.sel [] (by kernel_rfl)
          exact At.body [.bool false] (by kernel_rfl) ⟨_, rfl, rfl, hS⟩
end Go.Proofs.Ythnlihpmpmhidaa
