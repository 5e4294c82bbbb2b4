/-
  Printed by gen.py (my own tool): for each Go function a plain Lean function and the proof that a call of it does what that function says.
-/
import Derived.Test.YtomeiphaohjeoaaGP1c
set_option linter.unusedVariables false
set_option linter.unusedSimpArgs false
set_option maxRecDepth 100000
namespace Go.Proofs.Ytomeiphaohjeoaa
open Go Go.Gol
/-! ### 7 colophon/colophonlaw03.SparseFrom -/
def colophonlaw03_SparseFrom.l1 (a1 : Int) (y68 : Int × Int × Int × (Option (Int × (List Int) × (List Int) × Int)) × (Option (Int × Int × (List Int))) × (Option (Int × Int × (List Int)))) : Nat → (List Int) → Int → Option (List Int)
  | 0, _, _ => none
  | k + 1, x9_l1, x78_l1 => (if decide (x78_l1 < a1) then ((sparse_Set_At.f (some y68) x78_l1).bind fun r74 => ((app? 17592186044416 x9_l1 ([r74] : List Int)).bind fun y86 => colophonlaw03_SparseFrom.l1 a1 y68 k y86 (wi (x78_l1 + 1)))) else some x9_l1)
def colophonlaw03_SparseFrom.l2 (a1 : Int) (y241 : Int × Int × Int × (Option (Int × (List Int) × (List Int) × Int)) × (Option (Int × Int × (List Int))) × (Option (Int × Int × (List Int)))) : Nat → (List Int) → Int → Option (List Int)
  | 0, _, _ => none
  | k + 1, x9_l2, x78_l2 => (if decide (x78_l2 < a1) then ((sparse_Set_At.f (some y241) x78_l2).bind fun r247 => ((app? 17592186044416 x9_l2 ([r247] : List Int)).bind fun y259 => colophonlaw03_SparseFrom.l2 a1 y241 k y259 (wi (x78_l2 + 1)))) else some x9_l2)
def colophonlaw03_SparseFrom.l3 (a1 : Int) (y414 : Int × Int × Int × (Option (Int × (List Int) × (List Int) × Int)) × (Option (Int × Int × (List Int))) × (Option (Int × Int × (List Int)))) : Nat → (List Int) → Int → Option (List Int)
  | 0, _, _ => none
  | k + 1, x9_l3, x78_l3 => (if decide (x78_l3 < a1) then ((sparse_Set_At.f (some y414) x78_l3).bind fun r420 => ((app? 17592186044416 x9_l3 ([r420] : List Int)).bind fun y432 => colophonlaw03_SparseFrom.l3 a1 y414 k y432 (wi (x78_l3 + 1)))) else some x9_l3)
def colophonlaw03_SparseFrom.f (a0 : Int) (a1 : Int) (l2_0 : List Int) (l2_1 : List Int) : Option Bool := (colophonlaw03_first.f.bind fun r4 => (if (!r4) then some false else (if decide (imax (l2_0.length : Int) (l2_1.length : Int) > 200) then some true else (if decide (a0 > 20000) then (if decide (a0 ≤ 4194304) then (if decide (a1 ≤ a0) then some true else ((sparse_From.f a0 a1 l2_0 l2_1).bind fun r18 => (if decide (a0 < 0) then (if (r18.2 == 2) then (match r18.1 with | none => some true | some y30 => some false) else some false) else (if decide (a0 > 4194304) then (if (r18.2 == 2) then (match r18.1 with | none => some true | some y38 => some false) else some false) else (if decide (a1 < 0) then (if (r18.2 == 2) then (match r18.1 with | none => some true | some y46 => some false) else some false) else (if decide (a1 > a0) then (if (r18.2 == 2) then (match r18.1 with | none => some true | some y54 => some false) else some false) else (if (r18.2 != 0) then (if (r18.2 == 10) then (match r18.1 with | none => some true | some y62 => some false) else some false) else (r18.1.bind fun y68 => ((colophonlaw03_SparseFrom.l1 a1 y68 FU ([] : List Int) 0).bind fun o90 => ((sparse_Set_Words.f (some y68)).bind fun r95 => ((colophonref03_Words.f a0 o90).bind fun r108 => ((sparse_Set_Len.f (some y68)).bind fun r121 => (if (r121 == a1) then ((sparse_Set_Bound.f (some y68)).bind fun r131 => (if (r131 == a0) then ((colophonref03_Right.f a0 o90).bind fun r141 => (if r141 then ((colophonref01_Same.f r95.1 l2_0).bind fun r151 => (if r151 then ((colophonref01_Same.f r95.2 l2_1).bind fun r161 => (if r161 then ((colophonref01_Same.f r95.1 r108.1).bind fun r171 => (if r171 then ((colophonref01_Same.f r95.2 r108.2).bind fun r181 => some r181) else some false)) else some false)) else some false)) else some false)) else some false)) else some false))))))))))))) else ((sparse_From.f a0 a1 l2_0 l2_1).bind fun r191 => (if decide (a0 < 0) then (if (r191.2 == 2) then (match r191.1 with | none => some true | some y203 => some false) else some false) else (if decide (a0 > 4194304) then (if (r191.2 == 2) then (match r191.1 with | none => some true | some y211 => some false) else some false) else (if decide (a1 < 0) then (if (r191.2 == 2) then (match r191.1 with | none => some true | some y219 => some false) else some false) else (if decide (a1 > a0) then (if (r191.2 == 2) then (match r191.1 with | none => some true | some y227 => some false) else some false) else (if (r191.2 != 0) then (if (r191.2 == 10) then (match r191.1 with | none => some true | some y235 => some false) else some false) else (r191.1.bind fun y241 => ((colophonlaw03_SparseFrom.l2 a1 y241 FU ([] : List Int) 0).bind fun o263 => ((sparse_Set_Words.f (some y241)).bind fun r268 => ((colophonref03_Words.f a0 o263).bind fun r281 => ((sparse_Set_Len.f (some y241)).bind fun r294 => (if (r294 == a1) then ((sparse_Set_Bound.f (some y241)).bind fun r304 => (if (r304 == a0) then ((colophonref03_Right.f a0 o263).bind fun r314 => (if r314 then ((colophonref01_Same.f r268.1 l2_0).bind fun r324 => (if r324 then ((colophonref01_Same.f r268.2 l2_1).bind fun r334 => (if r334 then ((colophonref01_Same.f r268.1 r281.1).bind fun r344 => (if r344 then ((colophonref01_Same.f r268.2 r281.2).bind fun r354 => some r354) else some false)) else some false)) else some false)) else some false)) else some false)) else some false))))))))))))) else ((sparse_From.f a0 a1 l2_0 l2_1).bind fun r364 => (if decide (a0 < 0) then (if (r364.2 == 2) then (match r364.1 with | none => some true | some y376 => some false) else some false) else (if decide (a0 > 4194304) then (if (r364.2 == 2) then (match r364.1 with | none => some true | some y384 => some false) else some false) else (if decide (a1 < 0) then (if (r364.2 == 2) then (match r364.1 with | none => some true | some y392 => some false) else some false) else (if decide (a1 > a0) then (if (r364.2 == 2) then (match r364.1 with | none => some true | some y400 => some false) else some false) else (if (r364.2 != 0) then (if (r364.2 == 10) then (match r364.1 with | none => some true | some y408 => some false) else some false) else (r364.1.bind fun y414 => ((colophonlaw03_SparseFrom.l3 a1 y414 FU ([] : List Int) 0).bind fun o436 => ((sparse_Set_Words.f (some y414)).bind fun r441 => ((colophonref03_Words.f a0 o436).bind fun r454 => ((sparse_Set_Len.f (some y414)).bind fun r467 => (if (r467 == a1) then ((sparse_Set_Bound.f (some y414)).bind fun r477 => (if (r477 == a0) then ((colophonref03_Right.f a0 o436).bind fun r487 => (if r487 then ((colophonref01_Same.f r441.1 l2_0).bind fun r497 => (if r497 then ((colophonref01_Same.f r441.2 l2_1).bind fun r507 => (if r507 then ((colophonref01_Same.f r441.1 r454.1).bind fun r517 => (if r517 then ((colophonref01_Same.f r441.2 r454.2).bind fun r527 => some r527) else some false)) else some false)) else some false)) else some false)) else some false)) else some false))))))))))))))))
def colophonlaw03_SparseFrom.post (w : World) (r : Bool) (v : Value) (w' : World) : Prop := v = (.bool r : Value) ∧ Sat w' (rf w) []
theorem colophonlaw03_SparseFrom.l1_ok {Q} (w0 : World) (a0 : Int) (a1 : Int) (A2_0 : Option Addr) (c2_0 : Nat) (l2_0 : List Int) (A2_1 : Option Addr) (c2_1 : Nat) (l2_1 : List Int) (b1 : Nat) (y68 : Int × Int × Int × (Option (Int × (List Int) × (List Int) × Int)) × (Option (Int × Int × (List Int))) × (Option (Int × Int × (List Int)))) (b71 : Nat) (out : (List Int)) (hn0 : ∀ (A9_q : Option Addr) (c9_q : Nat) (w : World), Sat w (rf w0) [osl 3 (r0 (.int .i64)) 1 A9_q c9_q out, O49 b71 y68, pts b1 (.cells #[.slice A2_0 l2_0.length c2_0, .slice A2_1 l2_1.length c2_1] 44 (0, 0))] → At Q (.exit 0) 136 [(0, .int .i64 a0), (1, .int .i64 a1), (5, .pointer (some ⟨b1, 0, none⟩)), (7, .pointer (some ⟨b71, 0, none⟩)), (9, .slice A9_q out.length c9_q)] w) :
    ∀ (k : Nat) (x9_l1 : List Int) (x78_l1 : Int) (A9_l1 : Option Addr) (c9_l1 : Nat) (w : World), Sat w (rf w0) [osl 3 (r0 (.int .i64)) 1 A9_l1 c9_l1 x9_l1, O49 b71 y68, pts b1 (.cells #[.slice A2_0 l2_0.length c2_0, .slice A2_1 l2_1.length c2_1] 44 (0, 0))] → colophonlaw03_SparseFrom.l1 a1 y68 k x9_l1 x78_l1 = some out → WL Try.prog (cbody (cbody (cr (cl (cr (cr (cr (cr (cr (cr (cr C7))))))))))) Q 136 [(0, .int .i64 a0), (1, .int .i64 a1), (5, .pointer (some ⟨b1, 0, none⟩)), (7, .pointer (some ⟨b71, 0, none⟩)), (9, .slice A9_l1 x9_l1.length c9_l1), (77, .int .i64 a1), (78, .int .i64 x78_l1)] w := by
  intro k
  induction k with
  | zero => intro x9_l1 x78_l1 A9_l1 c9_l1 w hS H; exact absurd (show none = some out from H) (by simp)
  | succ k ih =>
    intro x9_l1 x78_l1 A9_l1 c9_l1 w hS H
    unfold colophonlaw03_SparseFrom.l1 at H
    refine WL.round ?_
    refine WC.seq (by kernel_rfl) ?_
    refine WC.reg [0] (by kernel_rfl) (by kernel_rfl) ?_
    refine WR.runk [0] [] [0, 1, 5, 7, 9, 77, 78, 79] (L' := [(0, .int .i64 a0), (1, .int .i64 a1), (5, .pointer (some ⟨b1, 0, none⟩)), (7, .pointer (some ⟨b71, 0, none⟩)), (9, .slice A9_l1 x9_l1.length c9_l1), (77, .int .i64 a1), (78, .int .i64 x78_l1), (79, .bool (decide (x78_l1 < a1)))]) (w' := w) (by kernel_rfl) ?_
    refine WR.nil ?_
    refine At.go ?_
    refine WC.seq (by kernel_rfl) ?_
    refine WC.cond (by kernel_rfl) (decide (x78_l1 < a1)) (by kernel_rfl) (by kernel_rfl) (fun hb73 => ?_) (fun hb73 => ?_)
    · replace H := ite_t H hb73
      refine WC.skip (by kernel_rfl) ?_
      refine At.go ?_
      refine WC.seq (by kernel_rfl) ?_
      refine WC.block (by kernel_rfl) ?_
      refine WC.seq (by kernel_rfl) ?_
      refine WC.reg [0, 1] (by kernel_rfl) (by kernel_rfl) ?_
      refine WR.runk [0, 1] [] [0, 1, 5, 7, 9, 10, 77, 78] (L' := [(0, .int .i64 a0), (1, .int .i64 a1), (5, .pointer (some ⟨b1, 0, none⟩)), (7, .pointer (some ⟨b71, 0, none⟩)), (9, .slice A9_l1 x9_l1.length c9_l1), (10, .int .i64 x78_l1), (77, .int .i64 a1), (78, .int .i64 x78_l1)]) (w' := w) (by kernel_rfl) ?_
      refine WR.nil ?_
      refine At.go ?_
      refine WC.reg [0, 1, 2, 3, 4, 5, 6] (by kernel_rfl) (by kernel_rfl) ?_
      refine WR.runk [0, 1, 2] [3, 4, 5, 6] [0, 1, 5, 7, 9, 77, 78, 81, 82, 83] (L' := [(0, .int .i64 a0), (1, .int .i64 a1), (5, .pointer (some ⟨b1, 0, none⟩)), (7, .pointer (some ⟨b71, 0, none⟩)), (9, .slice A9_l1 x9_l1.length c9_l1), (77, .int .i64 a1), (78, .int .i64 x78_l1), (81, .slice A9_l1 x9_l1.length c9_l1), (82, .pointer (some ⟨b71, 0, none⟩)), (83, .int .i64 x78_l1)]) (w' := w) (by kernel_rfl) ?_
      obtain ⟨r74, e75, H⟩ := bind_ex H
      refine WR.st (St.call (by kernel_rfl) (f := 12) (args := #[.pointer (some ⟨b71, 0, none⟩), .int .i64 x78_l1]) (by kernel_rfl) (sparse_Set_At.calls w (.pointer (some ⟨b71, 0, none⟩)) (some y68) (Sat.rdAny 1 hS rfl (fun _ h => O49.rd _ _ _ h)) x78_l1 r74 e75) ?_)
      rintro _ w81 ⟨rfl, hS82⟩
      have hS : Sat w81 (rf w0) [osl 3 (r0 (.int .i64)) 1 A9_l1 c9_l1 x9_l1, O49 b71 y68, pts b1 (.cells #[.slice A2_0 l2_0.length c2_0, .slice A2_1 l2_1.length c2_1] 44 (0, 0))] := hS.ext hS82
      refine WR.runk [] [4, 5, 6] [0, 1, 5, 7, 9, 77, 78, 81, 84] (L' := [(0, .int .i64 a0), (1, .int .i64 a1), (5, .pointer (some ⟨b1, 0, none⟩)), (7, .pointer (some ⟨b71, 0, none⟩)), (9, .slice A9_l1 x9_l1.length c9_l1), (77, .int .i64 a1), (78, .int .i64 x78_l1), (81, .slice A9_l1 x9_l1.length c9_l1), (84, .int .i64 r74)]) (w' := w81) (by kernel_rfl) ?_
      refine WR.st (St.box hS (by kernel_rfl) (.cells #[.int .i64 r74] 3) (fun b83 => .slice (some ⟨b83, 0, none⟩) 1 1) (fun _ => by kernel_rfl) (fun b83 w84 hS => ?_))
      refine WR.runk [] [5, 6] [0, 1, 5, 7, 9, 77, 78, 81, 85] (L' := [(0, .int .i64 a0), (1, .int .i64 a1), (5, .pointer (some ⟨b1, 0, none⟩)), (7, .pointer (some ⟨b71, 0, none⟩)), (9, .slice A9_l1 x9_l1.length c9_l1), (77, .int .i64 a1), (78, .int .i64 x78_l1), (81, .slice A9_l1 x9_l1.length c9_l1), (85, .slice (some ⟨b83, 0, none⟩) 1 1)]) (w' := w84) (by kernel_rfl) ?_
      have hS : Sat w84 (rf w0) [osl 3 (r0 (.int .i64)) 1 A9_l1 c9_l1 x9_l1, pts b83 (.cells #[.int .i64 r74] 3 (0, 0)), O49 b71 y68, pts b1 (.cells #[.slice A2_0 l2_0.length c2_0, .slice A2_1 l2_1.length c2_1] 44 (0, 0))] := hS.sel [1, 0, 2, 3] (by kernel_rfl)
      obtain ⟨y86, e85, H⟩ := bind_ex H
      refine WR.st (St.append' (.tmp 81) (.tmp 85) (by kernel_rfl) (by kernel_rfl) E22 (r0_one _) hS (by kernel_rfl) (by kernel_rfl) (Sat.ptsAt 1 (r0 (.int .i64)) 1 ([r74] : List Int) hS rfl rfl (rdL.cons1 rfl (rdL.nil _ _))) 17592186044416 (by kernel_rfl) (by kernel_rfl) e85 (fun A87 c88 w89 hS => ?_))
      refine WR.runk [6] [] [0, 1, 5, 7, 9, 77, 78] (L' := [(0, .int .i64 a0), (1, .int .i64 a1), (5, .pointer (some ⟨b1, 0, none⟩)), (7, .pointer (some ⟨b71, 0, none⟩)), (9, .slice A87 y86.length c88), (77, .int .i64 a1), (78, .int .i64 x78_l1)]) (w' := w89) (by kernel_rfl) ?_
      refine WR.nil ?_
      refine At.blockNormal ?_
      refine At.go ?_
      refine WC.reg [0, 1] (by kernel_rfl) (by kernel_rfl) ?_
      refine WR.runk [0, 1] [] [0, 1, 5, 7, 9, 77, 78] (L' := [(0, .int .i64 a0), (1, .int .i64 a1), (5, .pointer (some ⟨b1, 0, none⟩)), (7, .pointer (some ⟨b71, 0, none⟩)), (9, .slice A87 y86.length c88), (77, .int .i64 a1), (78, .int .i64 (wi (x78_l1 + 1)))]) (w' := w89) (by kernel_rfl) ?_
      refine WR.nil ?_
      have hS : Sat w89 (rf w0) [osl 3 (r0 (.int .i64)) 1 A87 c88 y86, O49 b71 y68, pts b1 (.cells #[.slice A2_0 l2_0.length c2_0, .slice A2_1 l2_1.length c2_1] 44 (0, 0))] := hS.sel [0, 2, 3] (by kernel_rfl)
      refine At.again ?_
      refine WL.weaken [0, 1, 5, 7, 9, 77, 78] (L' := [(0, .int .i64 a0), (1, .int .i64 a1), (5, .pointer (some ⟨b1, 0, none⟩)), (7, .pointer (some ⟨b71, 0, none⟩)), (9, .slice A87 y86.length c88), (77, .int .i64 a1), (78, .int .i64 (wi (x78_l1 + 1)))]) (by kernel_rfl) ?_
      exact ih y86 (wi (x78_l1 + 1)) A87 c88 _ hS H
    · replace H := ite_f H hb73
      refine WC.exit (by kernel_rfl) ?_
      refine At.thenExit ?_
      refine At.thenExit ?_
      obtain rfl := Option.some.inj H
      have hS : Sat w (rf w0) [osl 3 (r0 (.int .i64)) 1 A9_l1 c9_l1 x9_l1, O49 b71 y68, pts b1 (.cells #[.slice A2_0 l2_0.length c2_0, .slice A2_1 l2_1.length c2_1] 44 (0, 0))] := hS.sel [0, 1, 2] (by kernel_rfl)
      refine At.weaken [0, 1, 5, 7, 9] (L' := [(0, .int .i64 a0), (1, .int .i64 a1), (5, .pointer (some ⟨b1, 0, none⟩)), (7, .pointer (some ⟨b71, 0, none⟩)), (9, .slice A9_l1 x9_l1.length c9_l1)]) (by kernel_rfl) ?_
      exact hn0 A9_l1 c9_l1 _ hS
theorem colophonlaw03_SparseFrom.l2_ok {Q} (w0 : World) (a0 : Int) (a1 : Int) (A2_0 : Option Addr) (c2_0 : Nat) (l2_0 : List Int) (A2_1 : Option Addr) (c2_1 : Nat) (l2_1 : List Int) (b1 : Nat) (y241 : Int × Int × Int × (Option (Int × (List Int) × (List Int) × Int)) × (Option (Int × Int × (List Int))) × (Option (Int × Int × (List Int)))) (b244 : Nat) (out : (List Int)) (hn0 : ∀ (A9_q : Option Addr) (c9_q : Nat) (w : World), Sat w (rf w0) [osl 3 (r0 (.int .i64)) 1 A9_q c9_q out, O49 b244 y241, pts b1 (.cells #[.slice A2_0 l2_0.length c2_0, .slice A2_1 l2_1.length c2_1] 44 (0, 0))] → At Q (.exit 0) 136 [(0, .int .i64 a0), (1, .int .i64 a1), (5, .pointer (some ⟨b1, 0, none⟩)), (7, .pointer (some ⟨b244, 0, none⟩)), (9, .slice A9_q out.length c9_q)] w) :
    ∀ (k : Nat) (x9_l2 : List Int) (x78_l2 : Int) (A9_l2 : Option Addr) (c9_l2 : Nat) (w : World), Sat w (rf w0) [osl 3 (r0 (.int .i64)) 1 A9_l2 c9_l2 x9_l2, O49 b244 y241, pts b1 (.cells #[.slice A2_0 l2_0.length c2_0, .slice A2_1 l2_1.length c2_1] 44 (0, 0))] → colophonlaw03_SparseFrom.l2 a1 y241 k x9_l2 x78_l2 = some out → WL Try.prog (cbody (cbody (cr (cl (cr (cr (cr (cr (cr (cr (cr C7))))))))))) Q 136 [(0, .int .i64 a0), (1, .int .i64 a1), (5, .pointer (some ⟨b1, 0, none⟩)), (7, .pointer (some ⟨b244, 0, none⟩)), (9, .slice A9_l2 x9_l2.length c9_l2), (77, .int .i64 a1), (78, .int .i64 x78_l2)] w := by
  intro k
  induction k with
  | zero => intro x9_l2 x78_l2 A9_l2 c9_l2 w hS H; exact absurd (show none = some out from H) (by simp)
  | succ k ih =>
    intro x9_l2 x78_l2 A9_l2 c9_l2 w hS H
    unfold colophonlaw03_SparseFrom.l2 at H
    refine WL.round ?_
    refine WC.seq (by kernel_rfl) ?_
    refine WC.reg [0] (by kernel_rfl) (by kernel_rfl) ?_
    refine WR.runk [0] [] [0, 1, 5, 7, 9, 77, 78, 79] (L' := [(0, .int .i64 a0), (1, .int .i64 a1), (5, .pointer (some ⟨b1, 0, none⟩)), (7, .pointer (some ⟨b244, 0, none⟩)), (9, .slice A9_l2 x9_l2.length c9_l2), (77, .int .i64 a1), (78, .int .i64 x78_l2), (79, .bool (decide (x78_l2 < a1)))]) (w' := w) (by kernel_rfl) ?_
    refine WR.nil ?_
    refine At.go ?_
    refine WC.seq (by kernel_rfl) ?_
    refine WC.cond (by kernel_rfl) (decide (x78_l2 < a1)) (by kernel_rfl) (by kernel_rfl) (fun hb246 => ?_) (fun hb246 => ?_)
    · replace H := ite_t H hb246
      refine WC.skip (by kernel_rfl) ?_
      refine At.go ?_
      refine WC.seq (by kernel_rfl) ?_
      refine WC.block (by kernel_rfl) ?_
      refine WC.seq (by kernel_rfl) ?_
      refine WC.reg [0, 1] (by kernel_rfl) (by kernel_rfl) ?_
      refine WR.runk [0, 1] [] [0, 1, 5, 7, 9, 10, 77, 78] (L' := [(0, .int .i64 a0), (1, .int .i64 a1), (5, .pointer (some ⟨b1, 0, none⟩)), (7, .pointer (some ⟨b244, 0, none⟩)), (9, .slice A9_l2 x9_l2.length c9_l2), (10, .int .i64 x78_l2), (77, .int .i64 a1), (78, .int .i64 x78_l2)]) (w' := w) (by kernel_rfl) ?_
      refine WR.nil ?_
      refine At.go ?_
      refine WC.reg [0, 1, 2, 3, 4, 5, 6] (by kernel_rfl) (by kernel_rfl) ?_
      refine WR.runk [0, 1, 2] [3, 4, 5, 6] [0, 1, 5, 7, 9, 77, 78, 81, 82, 83] (L' := [(0, .int .i64 a0), (1, .int .i64 a1), (5, .pointer (some ⟨b1, 0, none⟩)), (7, .pointer (some ⟨b244, 0, none⟩)), (9, .slice A9_l2 x9_l2.length c9_l2), (77, .int .i64 a1), (78, .int .i64 x78_l2), (81, .slice A9_l2 x9_l2.length c9_l2), (82, .pointer (some ⟨b244, 0, none⟩)), (83, .int .i64 x78_l2)]) (w' := w) (by kernel_rfl) ?_
      obtain ⟨r247, e248, H⟩ := bind_ex H
      refine WR.st (St.call (by kernel_rfl) (f := 12) (args := #[.pointer (some ⟨b244, 0, none⟩), .int .i64 x78_l2]) (by kernel_rfl) (sparse_Set_At.calls w (.pointer (some ⟨b244, 0, none⟩)) (some y241) (Sat.rdAny 1 hS rfl (fun _ h => O49.rd _ _ _ h)) x78_l2 r247 e248) ?_)
      rintro _ w254 ⟨rfl, hS255⟩
      have hS : Sat w254 (rf w0) [osl 3 (r0 (.int .i64)) 1 A9_l2 c9_l2 x9_l2, O49 b244 y241, pts b1 (.cells #[.slice A2_0 l2_0.length c2_0, .slice A2_1 l2_1.length c2_1] 44 (0, 0))] := hS.ext hS255
      refine WR.runk [] [4, 5, 6] [0, 1, 5, 7, 9, 77, 78, 81, 84] (L' := [(0, .int .i64 a0), (1, .int .i64 a1), (5, .pointer (some ⟨b1, 0, none⟩)), (7, .pointer (some ⟨b244, 0, none⟩)), (9, .slice A9_l2 x9_l2.length c9_l2), (77, .int .i64 a1), (78, .int .i64 x78_l2), (81, .slice A9_l2 x9_l2.length c9_l2), (84, .int .i64 r247)]) (w' := w254) (by kernel_rfl) ?_
      refine WR.st (St.box hS (by kernel_rfl) (.cells #[.int .i64 r247] 3) (fun b256 => .slice (some ⟨b256, 0, none⟩) 1 1) (fun _ => by kernel_rfl) (fun b256 w257 hS => ?_))
      refine WR.runk [] [5, 6] [0, 1, 5, 7, 9, 77, 78, 81, 85] (L' := [(0, .int .i64 a0), (1, .int .i64 a1), (5, .pointer (some ⟨b1, 0, none⟩)), (7, .pointer (some ⟨b244, 0, none⟩)), (9, .slice A9_l2 x9_l2.length c9_l2), (77, .int .i64 a1), (78, .int .i64 x78_l2), (81, .slice A9_l2 x9_l2.length c9_l2), (85, .slice (some ⟨b256, 0, none⟩) 1 1)]) (w' := w257) (by kernel_rfl) ?_
      have hS : Sat w257 (rf w0) [osl 3 (r0 (.int .i64)) 1 A9_l2 c9_l2 x9_l2, pts b256 (.cells #[.int .i64 r247] 3 (0, 0)), O49 b244 y241, pts b1 (.cells #[.slice A2_0 l2_0.length c2_0, .slice A2_1 l2_1.length c2_1] 44 (0, 0))] := hS.sel [1, 0, 2, 3] (by kernel_rfl)
      obtain ⟨y259, e258, H⟩ := bind_ex H
      refine WR.st (St.append' (.tmp 81) (.tmp 85) (by kernel_rfl) (by kernel_rfl) E22 (r0_one _) hS (by kernel_rfl) (by kernel_rfl) (Sat.ptsAt 1 (r0 (.int .i64)) 1 ([r247] : List Int) hS rfl rfl (rdL.cons1 rfl (rdL.nil _ _))) 17592186044416 (by kernel_rfl) (by kernel_rfl) e258 (fun A260 c261 w262 hS => ?_))
      refine WR.runk [6] [] [0, 1, 5, 7, 9, 77, 78] (L' := [(0, .int .i64 a0), (1, .int .i64 a1), (5, .pointer (some ⟨b1, 0, none⟩)), (7, .pointer (some ⟨b244, 0, none⟩)), (9, .slice A260 y259.length c261), (77, .int .i64 a1), (78, .int .i64 x78_l2)]) (w' := w262) (by kernel_rfl) ?_
      refine WR.nil ?_
      refine At.blockNormal ?_
      refine At.go ?_
      refine WC.reg [0, 1] (by kernel_rfl) (by kernel_rfl) ?_
      refine WR.runk [0, 1] [] [0, 1, 5, 7, 9, 77, 78] (L' := [(0, .int .i64 a0), (1, .int .i64 a1), (5, .pointer (some ⟨b1, 0, none⟩)), (7, .pointer (some ⟨b244, 0, none⟩)), (9, .slice A260 y259.length c261), (77, .int .i64 a1), (78, .int .i64 (wi (x78_l2 + 1)))]) (w' := w262) (by kernel_rfl) ?_
      refine WR.nil ?_
      have hS : Sat w262 (rf w0) [osl 3 (r0 (.int .i64)) 1 A260 c261 y259, O49 b244 y241, pts b1 (.cells #[.slice A2_0 l2_0.length c2_0, .slice A2_1 l2_1.length c2_1] 44 (0, 0))] := hS.sel [0, 2, 3] (by kernel_rfl)
      refine At.again ?_
      refine WL.weaken [0, 1, 5, 7, 9, 77, 78] (L' := [(0, .int .i64 a0), (1, .int .i64 a1), (5, .pointer (some ⟨b1, 0, none⟩)), (7, .pointer (some ⟨b244, 0, none⟩)), (9, .slice A260 y259.length c261), (77, .int .i64 a1), (78, .int .i64 (wi (x78_l2 + 1)))]) (by kernel_rfl) ?_
      exact ih y259 (wi (x78_l2 + 1)) A260 c261 _ hS H
    · replace H := ite_f H hb246
      refine WC.exit (by kernel_rfl) ?_
      refine At.thenExit ?_
      refine At.thenExit ?_
      obtain rfl := Option.some.inj H
      have hS : Sat w (rf w0) [osl 3 (r0 (.int .i64)) 1 A9_l2 c9_l2 x9_l2, O49 b244 y241, pts b1 (.cells #[.slice A2_0 l2_0.length c2_0, .slice A2_1 l2_1.length c2_1] 44 (0, 0))] := hS.sel [0, 1, 2] (by kernel_rfl)
      refine At.weaken [0, 1, 5, 7, 9] (L' := [(0, .int .i64 a0), (1, .int .i64 a1), (5, .pointer (some ⟨b1, 0, none⟩)), (7, .pointer (some ⟨b244, 0, none⟩)), (9, .slice A9_l2 x9_l2.length c9_l2)]) (by kernel_rfl) ?_
      exact hn0 A9_l2 c9_l2 _ hS
theorem colophonlaw03_SparseFrom.l3_ok {Q} (w0 : World) (a0 : Int) (a1 : Int) (A2_0 : Option Addr) (c2_0 : Nat) (l2_0 : List Int) (A2_1 : Option Addr) (c2_1 : Nat) (l2_1 : List Int) (b1 : Nat) (y414 : Int × Int × Int × (Option (Int × (List Int) × (List Int) × Int)) × (Option (Int × Int × (List Int))) × (Option (Int × Int × (List Int)))) (b417 : Nat) (out : (List Int)) (hn0 : ∀ (A9_q : Option Addr) (c9_q : Nat) (w : World), Sat w (rf w0) [osl 3 (r0 (.int .i64)) 1 A9_q c9_q out, O49 b417 y414, pts b1 (.cells #[.slice A2_0 l2_0.length c2_0, .slice A2_1 l2_1.length c2_1] 44 (0, 0))] → At Q (.exit 0) 136 [(0, .int .i64 a0), (1, .int .i64 a1), (5, .pointer (some ⟨b1, 0, none⟩)), (7, .pointer (some ⟨b417, 0, none⟩)), (9, .slice A9_q out.length c9_q)] w) :
    ∀ (k : Nat) (x9_l3 : List Int) (x78_l3 : Int) (A9_l3 : Option Addr) (c9_l3 : Nat) (w : World), Sat w (rf w0) [osl 3 (r0 (.int .i64)) 1 A9_l3 c9_l3 x9_l3, O49 b417 y414, pts b1 (.cells #[.slice A2_0 l2_0.length c2_0, .slice A2_1 l2_1.length c2_1] 44 (0, 0))] → colophonlaw03_SparseFrom.l3 a1 y414 k x9_l3 x78_l3 = some out → WL Try.prog (cbody (cbody (cr (cl (cr (cr (cr (cr (cr (cr (cr C7))))))))))) Q 136 [(0, .int .i64 a0), (1, .int .i64 a1), (5, .pointer (some ⟨b1, 0, none⟩)), (7, .pointer (some ⟨b417, 0, none⟩)), (9, .slice A9_l3 x9_l3.length c9_l3), (77, .int .i64 a1), (78, .int .i64 x78_l3)] w := by
  intro k
  induction k with
  | zero => intro x9_l3 x78_l3 A9_l3 c9_l3 w hS H; exact absurd (show none = some out from H) (by simp)
  | succ k ih =>
    intro x9_l3 x78_l3 A9_l3 c9_l3 w hS H
    unfold colophonlaw03_SparseFrom.l3 at H
    refine WL.round ?_
    refine WC.seq (by kernel_rfl) ?_
    refine WC.reg [0] (by kernel_rfl) (by kernel_rfl) ?_
    refine WR.runk [0] [] [0, 1, 5, 7, 9, 77, 78, 79] (L' := [(0, .int .i64 a0), (1, .int .i64 a1), (5, .pointer (some ⟨b1, 0, none⟩)), (7, .pointer (some ⟨b417, 0, none⟩)), (9, .slice A9_l3 x9_l3.length c9_l3), (77, .int .i64 a1), (78, .int .i64 x78_l3), (79, .bool (decide (x78_l3 < a1)))]) (w' := w) (by kernel_rfl) ?_
    refine WR.nil ?_
    refine At.go ?_
    refine WC.seq (by kernel_rfl) ?_
    refine WC.cond (by kernel_rfl) (decide (x78_l3 < a1)) (by kernel_rfl) (by kernel_rfl) (fun hb419 => ?_) (fun hb419 => ?_)
    · replace H := ite_t H hb419
      refine WC.skip (by kernel_rfl) ?_
      refine At.go ?_
      refine WC.seq (by kernel_rfl) ?_
      refine WC.block (by kernel_rfl) ?_
      refine WC.seq (by kernel_rfl) ?_
      refine WC.reg [0, 1] (by kernel_rfl) (by kernel_rfl) ?_
      refine WR.runk [0, 1] [] [0, 1, 5, 7, 9, 10, 77, 78] (L' := [(0, .int .i64 a0), (1, .int .i64 a1), (5, .pointer (some ⟨b1, 0, none⟩)), (7, .pointer (some ⟨b417, 0, none⟩)), (9, .slice A9_l3 x9_l3.length c9_l3), (10, .int .i64 x78_l3), (77, .int .i64 a1), (78, .int .i64 x78_l3)]) (w' := w) (by kernel_rfl) ?_
      refine WR.nil ?_
      refine At.go ?_
      refine WC.reg [0, 1, 2, 3, 4, 5, 6] (by kernel_rfl) (by kernel_rfl) ?_
      refine WR.runk [0, 1, 2] [3, 4, 5, 6] [0, 1, 5, 7, 9, 77, 78, 81, 82, 83] (L' := [(0, .int .i64 a0), (1, .int .i64 a1), (5, .pointer (some ⟨b1, 0, none⟩)), (7, .pointer (some ⟨b417, 0, none⟩)), (9, .slice A9_l3 x9_l3.length c9_l3), (77, .int .i64 a1), (78, .int .i64 x78_l3), (81, .slice A9_l3 x9_l3.length c9_l3), (82, .pointer (some ⟨b417, 0, none⟩)), (83, .int .i64 x78_l3)]) (w' := w) (by kernel_rfl) ?_
      obtain ⟨r420, e421, H⟩ := bind_ex H
      refine WR.st (St.call (by kernel_rfl) (f := 12) (args := #[.pointer (some ⟨b417, 0, none⟩), .int .i64 x78_l3]) (by kernel_rfl) (sparse_Set_At.calls w (.pointer (some ⟨b417, 0, none⟩)) (some y414) (Sat.rdAny 1 hS rfl (fun _ h => O49.rd _ _ _ h)) x78_l3 r420 e421) ?_)
      rintro _ w427 ⟨rfl, hS428⟩
      have hS : Sat w427 (rf w0) [osl 3 (r0 (.int .i64)) 1 A9_l3 c9_l3 x9_l3, O49 b417 y414, pts b1 (.cells #[.slice A2_0 l2_0.length c2_0, .slice A2_1 l2_1.length c2_1] 44 (0, 0))] := hS.ext hS428
      refine WR.runk [] [4, 5, 6] [0, 1, 5, 7, 9, 77, 78, 81, 84] (L' := [(0, .int .i64 a0), (1, .int .i64 a1), (5, .pointer (some ⟨b1, 0, none⟩)), (7, .pointer (some ⟨b417, 0, none⟩)), (9, .slice A9_l3 x9_l3.length c9_l3), (77, .int .i64 a1), (78, .int .i64 x78_l3), (81, .slice A9_l3 x9_l3.length c9_l3), (84, .int .i64 r420)]) (w' := w427) (by kernel_rfl) ?_
      refine WR.st (St.box hS (by kernel_rfl) (.cells #[.int .i64 r420] 3) (fun b429 => .slice (some ⟨b429, 0, none⟩) 1 1) (fun _ => by kernel_rfl) (fun b429 w430 hS => ?_))
      refine WR.runk [] [5, 6] [0, 1, 5, 7, 9, 77, 78, 81, 85] (L' := [(0, .int .i64 a0), (1, .int .i64 a1), (5, .pointer (some ⟨b1, 0, none⟩)), (7, .pointer (some ⟨b417, 0, none⟩)), (9, .slice A9_l3 x9_l3.length c9_l3), (77, .int .i64 a1), (78, .int .i64 x78_l3), (81, .slice A9_l3 x9_l3.length c9_l3), (85, .slice (some ⟨b429, 0, none⟩) 1 1)]) (w' := w430) (by kernel_rfl) ?_
      have hS : Sat w430 (rf w0) [osl 3 (r0 (.int .i64)) 1 A9_l3 c9_l3 x9_l3, pts b429 (.cells #[.int .i64 r420] 3 (0, 0)), O49 b417 y414, pts b1 (.cells #[.slice A2_0 l2_0.length c2_0, .slice A2_1 l2_1.length c2_1] 44 (0, 0))] := hS.sel [1, 0, 2, 3] (by kernel_rfl)
      obtain ⟨y432, e431, H⟩ := bind_ex H
      refine WR.st (St.append' (.tmp 81) (.tmp 85) (by kernel_rfl) (by kernel_rfl) E22 (r0_one _) hS (by kernel_rfl) (by kernel_rfl) (Sat.ptsAt 1 (r0 (.int .i64)) 1 ([r420] : List Int) hS rfl rfl (rdL.cons1 rfl (rdL.nil _ _))) 17592186044416 (by kernel_rfl) (by kernel_rfl) e431 (fun A433 c434 w435 hS => ?_))
      refine WR.runk [6] [] [0, 1, 5, 7, 9, 77, 78] (L' := [(0, .int .i64 a0), (1, .int .i64 a1), (5, .pointer (some ⟨b1, 0, none⟩)), (7, .pointer (some ⟨b417, 0, none⟩)), (9, .slice A433 y432.length c434), (77, .int .i64 a1), (78, .int .i64 x78_l3)]) (w' := w435) (by kernel_rfl) ?_
      refine WR.nil ?_
      refine At.blockNormal ?_
      refine At.go ?_
      refine WC.reg [0, 1] (by kernel_rfl) (by kernel_rfl) ?_
      refine WR.runk [0, 1] [] [0, 1, 5, 7, 9, 77, 78] (L' := [(0, .int .i64 a0), (1, .int .i64 a1), (5, .pointer (some ⟨b1, 0, none⟩)), (7, .pointer (some ⟨b417, 0, none⟩)), (9, .slice A433 y432.length c434), (77, .int .i64 a1), (78, .int .i64 (wi (x78_l3 + 1)))]) (w' := w435) (by kernel_rfl) ?_
      refine WR.nil ?_
      have hS : Sat w435 (rf w0) [osl 3 (r0 (.int .i64)) 1 A433 c434 y432, O49 b417 y414, pts b1 (.cells #[.slice A2_0 l2_0.length c2_0, .slice A2_1 l2_1.length c2_1] 44 (0, 0))] := hS.sel [0, 2, 3] (by kernel_rfl)
      refine At.again ?_
      refine WL.weaken [0, 1, 5, 7, 9, 77, 78] (L' := [(0, .int .i64 a0), (1, .int .i64 a1), (5, .pointer (some ⟨b1, 0, none⟩)), (7, .pointer (some ⟨b417, 0, none⟩)), (9, .slice A433 y432.length c434), (77, .int .i64 a1), (78, .int .i64 (wi (x78_l3 + 1)))]) (by kernel_rfl) ?_
      exact ih y432 (wi (x78_l3 + 1)) A433 c434 _ hS H
    · replace H := ite_f H hb419
      refine WC.exit (by kernel_rfl) ?_
      refine At.thenExit ?_
      refine At.thenExit ?_
      obtain rfl := Option.some.inj H
      have hS : Sat w (rf w0) [osl 3 (r0 (.int .i64)) 1 A9_l3 c9_l3 x9_l3, O49 b417 y414, pts b1 (.cells #[.slice A2_0 l2_0.length c2_0, .slice A2_1 l2_1.length c2_1] 44 (0, 0))] := hS.sel [0, 1, 2] (by kernel_rfl)
      refine At.weaken [0, 1, 5, 7, 9] (L' := [(0, .int .i64 a0), (1, .int .i64 a1), (5, .pointer (some ⟨b1, 0, none⟩)), (7, .pointer (some ⟨b417, 0, none⟩)), (9, .slice A9_l3 x9_l3.length c9_l3)]) (by kernel_rfl) ?_
      exact hn0 A9_l3 c9_l3 _ hS
theorem colophonlaw03_SparseFrom.calls (w0 : World) (a0 : Int) (a1 : Int) (A2_0 : Option Addr) (c2_0 : Nat) (l2_0 : List Int) (R2_0 : rdS (r0 (.int .u64)) 1 (hp w0) A2_0 c2_0 l2_0) (A2_1 : Option Addr) (c2_1 : Nat) (l2_1 : List Int) (R2_1 : rdS (r0 (.int .u64)) 1 (hp w0) A2_1 c2_1 l2_1) (r : Bool) (H : colophonlaw03_SparseFrom.f a0 a1 l2_0 l2_1 = some r) :
    Calls Try.prog 7 #[.int .i64 a0, .int .i64 a1, .agg #[.slice A2_0 l2_0.length c2_0, .slice A2_1 l2_1.length c2_1]] w0 (fun e w' => ∃ v, e = .returned v ∧ colophonlaw03_SparseFrom.post w0 r v w') := by
  have hS : Sat w0 (rf w0) [] := Sat.start w0
  unfold colophonlaw03_SparseFrom.f at H
  refine calls_of_WC (vs := [.int .i64 a0, .int .i64 a1, .agg #[.slice A2_0 l2_0.length c2_0, .slice A2_1 l2_1.length c2_1]]) Try.func7 (c := C7) (n := 136) (by kernel_rfl) (by kernel_rfl) (by kernel_rfl) ?_
  refine WC.seq (by kernel_rfl) ?_
  refine WC.reg [0, 1] (by kernel_rfl) (by kernel_rfl) ?_
  refine WR.runk [] [0, 1] [0, 1, 2] (L' := [(0, .int .i64 a0), (1, .int .i64 a1), (2, .agg #[.slice A2_0 l2_0.length c2_0, .slice A2_1 l2_1.length c2_1])]) (w' := w0) (by kernel_rfl) ?_
  refine WR.st (St.box hS (by kernel_rfl) (.cells #[.slice A2_0 l2_0.length c2_0, .slice A2_1 l2_1.length c2_1] 44) (fun b1 => .pointer (some ⟨b1, 0, none⟩)) (fun _ => by kernel_rfl) (fun b1 w2 hS => ?_))
  refine WR.runk [1] [] [0, 1, 5] (L' := [(0, .int .i64 a0), (1, .int .i64 a1), (5, .pointer (some ⟨b1, 0, none⟩))]) (w' := w2) (by kernel_rfl) ?_
  refine WR.nil ?_
  refine At.go ?_
  refine WC.seq (by kernel_rfl) ?_
  refine WC.seq (by kernel_rfl) ?_
  refine WC.reg [0, 1] (by kernel_rfl) (by kernel_rfl) ?_
  obtain ⟨r4, e5, H⟩ := bind_ex H
  refine WR.st (St.call (by kernel_rfl) (f := 8) (args := #[]) (by kernel_rfl) (colophonlaw03_first.calls w2  r4 e5) ?_)
  rintro _ w11 ⟨rfl, hS12⟩
  have hS : Sat w11 (rf w0) [pts b1 (.cells #[.slice A2_0 l2_0.length c2_0, .slice A2_1 l2_1.length c2_1] 44 (0, 0))] := hS.ext hS12
  refine WR.runk [1] [] [0, 1, 5, 16] (L' := [(0, .int .i64 a0), (1, .int .i64 a1), (5, .pointer (some ⟨b1, 0, none⟩)), (16, .bool (!r4))]) (w' := w11) (by kernel_rfl) ?_
  refine WR.nil ?_
  refine At.go ?_
  refine WC.cond (by kernel_rfl) (!r4) (by kernel_rfl) (by kernel_rfl) (fun hb13 => ?_) (fun hb13 => ?_)
  · replace H := ite_t H hb13
    refine WC.seq (by kernel_rfl) ?_
    refine WC.reg [0] (by kernel_rfl) (by kernel_rfl) ?_
    refine WR.runk [0] [] [6] (L' := [(6, .bool false)]) (w' := w11) (by kernel_rfl) ?_
    refine WR.nil ?_
    refine At.go ?_
    refine WC.ret (by kernel_rfl) ?_
    refine At.thenRet ?_
    obtain rfl := Option.some.inj H
    have hS : Sat w11 (rf w0) [] := hS.sel [] (by kernel_rfl)
    exact At.body [.bool false] (by kernel_rfl) ⟨_, rfl, rfl, hS⟩
  · replace H := ite_f H hb13
    refine WC.skip (by kernel_rfl) ?_
    refine At.go ?_
    refine WC.seq (by kernel_rfl) ?_
    refine WC.seq (by kernel_rfl) ?_
    refine WC.reg [0, 1, 2, 3, 4, 5, 6, 7, 8, 9, 10, 11, 12, 13, 14, 15, 16, 17, 18, 19, 20] (by kernel_rfl) (by kernel_rfl) ?_
    refine WR.runk [0] [1, 2, 3, 4, 5, 6, 7, 8, 9, 10, 11, 12, 13, 14, 15, 16, 17, 18, 19, 20] [0, 1, 5, 17] (L' := [(0, .int .i64 a0), (1, .int .i64 a1), (5, .pointer (some ⟨b1, 0, none⟩)), (17, .pointer (some ⟨b1, 0, none⟩))]) (w' := w11) (by kernel_rfl) ?_
    refine WR.st (St.ofR (RSt.loadObj (t := 35) (k := 0) (v := .slice A2_0 l2_0.length c2_0) (.tmp 17) (by kernel_rfl) (by kernel_rfl) (by kernel_rfl) 0 hS rfl (by kernel_rfl) rfl ?_))
    refine WR.runk [2, 3] [4, 5, 6, 7, 8, 9, 10, 11, 12, 13, 14, 15, 16, 17, 18, 19, 20] [0, 1, 5, 19, 20] (L' := [(0, .int .i64 a0), (1, .int .i64 a1), (5, .pointer (some ⟨b1, 0, none⟩)), (19, .int .i64 (l2_0.length : Int)), (20, .pointer (some ⟨b1, 1, none⟩))]) (w' := w11) (by kernel_rfl) ?_
    refine WR.st (St.ofR (RSt.loadObj (t := 35) (k := 1) (v := .slice A2_1 l2_1.length c2_1) (.tmp 20) (by kernel_rfl) (by kernel_rfl) (by kernel_rfl) 0 hS rfl (by kernel_rfl) rfl ?_))
    refine WR.runk [5, 6, 7, 8] [9, 10, 11, 12, 13, 14, 15, 16, 17, 18, 19, 20] [0, 1, 5, 25] (L' := [(0, .int .i64 a0), (1, .int .i64 a1), (5, .pointer (some ⟨b1, 0, none⟩)), (25, .bool (decide (imax (l2_0.length : Int) (l2_1.length : Int) > 200)))]) (w' := w11) (by kernel_rfl) ?_
    refine WR.split 25 (b := decide (imax (l2_0.length : Int) (l2_1.length : Int) > 200)) (by kernel_rfl) (fun hb14 => ?_) (fun hb14 => ?_)
    · replace H := ite_t H hb14
      refine WR.runk [9, 10, 11, 12, 13, 14, 15, 16, 17, 18, 19, 20] [] [0, 1, 5, 37] (L' := [(0, .int .i64 a0), (1, .int .i64 a1), (5, .pointer (some ⟨b1, 0, none⟩)), (37, .bool true)]) (w' := w11) (by kernel_rfl) ?_
      refine WR.nil ?_
      refine At.go ?_
      refine WC.condT (by kernel_rfl) (by kernel_rfl) (by kernel_rfl) ?_
      refine WC.seq (by kernel_rfl) ?_
      refine WC.reg [0] (by kernel_rfl) (by kernel_rfl) ?_
      refine WR.runk [0] [] [6] (L' := [(6, .bool true)]) (w' := w11) (by kernel_rfl) ?_
      refine WR.nil ?_
      refine At.go ?_
      refine WC.ret (by kernel_rfl) ?_
      refine At.thenRet ?_
      obtain rfl := Option.some.inj H
      have hS : Sat w11 (rf w0) [] := hS.sel [] (by kernel_rfl)
      exact At.body [.bool true] (by kernel_rfl) ⟨_, rfl, rfl, hS⟩
    · replace H := ite_f H hb14
      refine WR.runk [9, 10, 11] [12, 13, 14, 15, 16, 17, 18, 19, 20] [0, 1, 5, 25, 28] (L' := [(0, .int .i64 a0), (1, .int .i64 a1), (5, .pointer (some ⟨b1, 0, none⟩)), (25, .bool false), (28, .bool (decide (a0 > 20000)))]) (w' := w11) (by kernel_rfl) ?_
      refine WR.split 28 (b := decide (a0 > 20000)) (by kernel_rfl) (fun hb15 => ?_) (fun hb15 => ?_)
      · replace H := ite_t H hb15
        refine WR.runk [12, 13, 14, 15] [16, 17, 18, 19, 20] [0, 1, 5, 25, 32] (L' := [(0, .int .i64 a0), (1, .int .i64 a1), (5, .pointer (some ⟨b1, 0, none⟩)), (25, .bool false), (32, .bool (decide (a0 ≤ 4194304)))]) (w' := w11) (by kernel_rfl) ?_
        refine WR.split 32 (b := decide (a0 ≤ 4194304)) (by kernel_rfl) (fun hb16 => ?_) (fun hb16 => ?_)
        · replace H := ite_t H hb16
          refine WR.runk [16, 17, 18, 19, 20] [] [0, 1, 5, 37] (L' := [(0, .int .i64 a0), (1, .int .i64 a1), (5, .pointer (some ⟨b1, 0, none⟩)), (37, .bool (decide (a1 ≤ a0)))]) (w' := w11) (by kernel_rfl) ?_
          refine WR.nil ?_
          refine At.go ?_
          refine WC.cond (by kernel_rfl) (decide (a1 ≤ a0)) (by kernel_rfl) (by kernel_rfl) (fun hb17 => ?_) (fun hb17 => ?_)
          · replace H := ite_t H hb17
            refine WC.seq (by kernel_rfl) ?_
            refine WC.reg [0] (by kernel_rfl) (by kernel_rfl) ?_
            refine WR.runk [0] [] [6] (L' := [(6, .bool true)]) (w' := w11) (by kernel_rfl) ?_
            refine WR.nil ?_
            refine At.go ?_
            refine WC.ret (by kernel_rfl) ?_
            refine At.thenRet ?_
            obtain rfl := Option.some.inj H
            have hS : Sat w11 (rf w0) [] := hS.sel [] (by kernel_rfl)
            exact At.body [.bool true] (by kernel_rfl) ⟨_, rfl, rfl, hS⟩
          · replace H := ite_f H hb17
            refine WC.skip (by kernel_rfl) ?_
            refine At.go ?_
            refine WC.seq (by kernel_rfl) ?_
            refine WC.reg [0, 1, 2, 3, 4, 5, 6, 7, 8, 9, 10, 11] (by kernel_rfl) (by kernel_rfl) ?_
            refine WR.runk [0, 1, 2] [3, 4, 5, 6, 7, 8, 9, 10, 11] [0, 1, 5, 39, 40, 41] (L' := [(0, .int .i64 a0), (1, .int .i64 a1), (5, .pointer (some ⟨b1, 0, none⟩)), (39, .int .i64 a0), (40, .int .i64 a1), (41, .pointer (some ⟨b1, 0, none⟩))]) (w' := w11) (by kernel_rfl) ?_
            refine WR.st (St.ofR (RSt.loadObj (t := 35) (k := 0) (v := .slice A2_0 l2_0.length c2_0) (.tmp 41) (by kernel_rfl) (by kernel_rfl) (by kernel_rfl) 0 hS rfl (by kernel_rfl) rfl ?_))
            refine WR.runk [4] [5, 6, 7, 8, 9, 10, 11] [0, 1, 5, 39, 40, 42, 43] (L' := [(0, .int .i64 a0), (1, .int .i64 a1), (5, .pointer (some ⟨b1, 0, none⟩)), (39, .int .i64 a0), (40, .int .i64 a1), (42, .slice A2_0 l2_0.length c2_0), (43, .pointer (some ⟨b1, 1, none⟩))]) (w' := w11) (by kernel_rfl) ?_
            refine WR.st (St.ofR (RSt.loadObj (t := 35) (k := 1) (v := .slice A2_1 l2_1.length c2_1) (.tmp 43) (by kernel_rfl) (by kernel_rfl) (by kernel_rfl) 0 hS rfl (by kernel_rfl) rfl ?_))
            refine WR.runk [] [6, 7, 8, 9, 10, 11] [0, 1, 5, 39, 40, 42, 44] (L' := [(0, .int .i64 a0), (1, .int .i64 a1), (5, .pointer (some ⟨b1, 0, none⟩)), (39, .int .i64 a0), (40, .int .i64 a1), (42, .slice A2_0 l2_0.length c2_0), (44, .slice A2_1 l2_1.length c2_1)]) (w' := w11) (by kernel_rfl) ?_
            obtain ⟨r18, e19, H⟩ := bind_ex H
            refine WR.st (St.call (by kernel_rfl) (f := 20) (args := #[.int .i64 a0, .int .i64 a1, .slice A2_0 l2_0.length c2_0, .slice A2_1 l2_1.length c2_1]) (by kernel_rfl) (sparse_From.calls w11 a0 a1 A2_0 c2_0 l2_0 (rdS.up R2_0 hS.sub0) A2_1 c2_1 l2_1 (rdS.up R2_1 hS.sub0) r18 e19) ?_)
            rintro _ w25 ⟨pv27, rfl, hS26⟩
            have hS : Sat w25 (rf w0) [optP O49 pv27 r18.1, pts b1 (.cells #[.slice A2_0 l2_0.length c2_0, .slice A2_1 l2_1.length c2_1] 44 (0, 0))] := hS.ext hS26
            refine WR.runk [7, 8, 9, 10, 11] [] [0, 1, 5, 7, 8] (L' := [(0, .int .i64 a0), (1, .int .i64 a1), (5, .pointer (some ⟨b1, 0, none⟩)), (7, pv27), (8, .int .i64 r18.2)]) (w' := w25) (by kernel_rfl) ?_
            refine WR.nil ?_
            refine At.go ?_
            refine WC.seq (by kernel_rfl) ?_
            refine WC.seq (by kernel_rfl) ?_
            refine WC.reg [0, 1, 2, 3, 4, 5, 6, 7, 8, 9, 10, 11, 12, 13, 14] (by kernel_rfl) (by kernel_rfl) ?_
            refine WR.runk [0, 1, 2] [3, 4, 5, 6, 7, 8, 9, 10, 11, 12, 13, 14] [0, 1, 5, 7, 8, 50] (L' := [(0, .int .i64 a0), (1, .int .i64 a1), (5, .pointer (some ⟨b1, 0, none⟩)), (7, pv27), (8, .int .i64 r18.2), (50, .bool (decide (a0 < 0)))]) (w' := w25) (by kernel_rfl) ?_
            refine WR.split 50 (b := decide (a0 < 0)) (by kernel_rfl) (fun hb28 => ?_) (fun hb28 => ?_)
            · replace H := ite_t H hb28
              refine WR.runk [3, 4, 5, 6, 7, 8, 9, 10, 11, 12, 13, 14] [] [0, 1, 5, 7, 8, 62] (L' := [(0, .int .i64 a0), (1, .int .i64 a1), (5, .pointer (some ⟨b1, 0, none⟩)), (7, pv27), (8, .int .i64 r18.2), (62, .bool true)]) (w' := w25) (by kernel_rfl) ?_
              refine WR.nil ?_
              refine At.go ?_
              refine WC.condT (by kernel_rfl) (by kernel_rfl) (by kernel_rfl) ?_
              refine WC.seq (by kernel_rfl) ?_
              refine WC.reg [0, 1, 2, 3, 4, 5, 6] (by kernel_rfl) (by kernel_rfl) ?_
              refine WR.runk [0, 1, 2] [3, 4, 5, 6] [7, 65] (L' := [(7, pv27), (65, .bool (r18.2 == 2))]) (w' := w25) (by kernel_rfl) ?_
              refine WR.split 65 (b := (r18.2 == 2)) (by kernel_rfl) (fun hb29 => ?_) (fun hb29 => ?_)
              · replace H := ite_t H hb29
                refine WR.runk [3] [4, 5, 6] [65, 66] (L' := [(65, .bool true), (66, pv27)]) (w' := w25) (by kernel_rfl) ?_
                rcases hr31 : r18.1 with _ | y30
                · rw [hr31] at H
                  dsimp only at H
                  have hv32 := optP.none hS hr31
                  subst hv32
                  have hS : Sat w25 (rf w0) [pts b1 (.cells #[.slice A2_0 l2_0.length c2_0, .slice A2_1 l2_1.length c2_1] 44 (0, 0))] := hS.sel [1] (by kernel_rfl)
                  refine WR.runk [4, 5, 6] [] [6] (L' := [(6, .bool true)]) (w' := w25) (by kernel_rfl) ?_
                  refine WR.nil ?_
                  refine At.go ?_
                  refine WC.ret (by kernel_rfl) ?_
                  refine At.thenRet ?_
                  obtain rfl := Option.some.inj H
                  have hS : Sat w25 (rf w0) [] := hS.sel [] (by kernel_rfl)
                  exact At.body [.bool true] (by kernel_rfl) ⟨_, rfl, rfl, hS⟩
                · rw [hr31] at H
                  dsimp only at H
                  obtain ⟨b33, hv32, hN35⟩ := optP.some hS hr31
                  subst hv32
                  have hS : Sat w25 (rf w0) [O49 b33 y30, pts b1 (.cells #[.slice A2_0 l2_0.length c2_0, .slice A2_1 l2_1.length c2_1] 44 (0, 0))] := hN35
                  refine WR.runk [4, 5, 6] [] [6] (L' := [(6, .bool false)]) (w' := w25) (by kernel_rfl) ?_
                  refine WR.nil ?_
                  refine At.go ?_
                  refine WC.ret (by kernel_rfl) ?_
                  refine At.thenRet ?_
                  obtain rfl := Option.some.inj H
                  have hS : Sat w25 (rf w0) [] := hS.sel [] (by kernel_rfl)
                  exact At.body [.bool false] (by kernel_rfl) ⟨_, rfl, rfl, hS⟩
              · replace H := ite_f H hb29
                refine WR.runk [3, 4, 5, 6] [] [6] (L' := [(6, .bool false)]) (w' := w25) (by kernel_rfl) ?_
                refine WR.nil ?_
                refine At.go ?_
                refine WC.ret (by kernel_rfl) ?_
                refine At.thenRet ?_
                obtain rfl := Option.some.inj H
                have hS : Sat w25 (rf w0) [] := hS.sel [] (by kernel_rfl)
                exact At.body [.bool false] (by kernel_rfl) ⟨_, rfl, rfl, hS⟩
            · replace H := ite_f H hb28
              refine WR.runk [3, 4, 5, 6] [7, 8, 9, 10, 11, 12, 13, 14] [0, 1, 5, 7, 8, 54] (L' := [(0, .int .i64 a0), (1, .int .i64 a1), (5, .pointer (some ⟨b1, 0, none⟩)), (7, pv27), (8, .int .i64 r18.2), (54, .bool (decide (a0 > 4194304)))]) (w' := w25) (by kernel_rfl) ?_
              refine WR.split 54 (b := decide (a0 > 4194304)) (by kernel_rfl) (fun hb36 => ?_) (fun hb36 => ?_)
              · replace H := ite_t H hb36
                refine WR.runk [7, 8, 9, 10, 11, 12, 13, 14] [] [0, 1, 5, 7, 8, 62] (L' := [(0, .int .i64 a0), (1, .int .i64 a1), (5, .pointer (some ⟨b1, 0, none⟩)), (7, pv27), (8, .int .i64 r18.2), (62, .bool true)]) (w' := w25) (by kernel_rfl) ?_
                refine WR.nil ?_
                refine At.go ?_
                refine WC.condT (by kernel_rfl) (by kernel_rfl) (by kernel_rfl) ?_
                refine WC.seq (by kernel_rfl) ?_
                refine WC.reg [0, 1, 2, 3, 4, 5, 6] (by kernel_rfl) (by kernel_rfl) ?_
                refine WR.runk [0, 1, 2] [3, 4, 5, 6] [7, 65] (L' := [(7, pv27), (65, .bool (r18.2 == 2))]) (w' := w25) (by kernel_rfl) ?_
                refine WR.split 65 (b := (r18.2 == 2)) (by kernel_rfl) (fun hb37 => ?_) (fun hb37 => ?_)
                · replace H := ite_t H hb37
                  refine WR.runk [3] [4, 5, 6] [65, 66] (L' := [(65, .bool true), (66, pv27)]) (w' := w25) (by kernel_rfl) ?_
                  rcases hr39 : r18.1 with _ | y38
                  · rw [hr39] at H
                    dsimp only at H
                    have hv40 := optP.none hS hr39
                    subst hv40
                    have hS : Sat w25 (rf w0) [pts b1 (.cells #[.slice A2_0 l2_0.length c2_0, .slice A2_1 l2_1.length c2_1] 44 (0, 0))] := hS.sel [1] (by kernel_rfl)
                    refine WR.runk [4, 5, 6] [] [6] (L' := [(6, .bool true)]) (w' := w25) (by kernel_rfl) ?_
                    refine WR.nil ?_
                    refine At.go ?_
                    refine WC.ret (by kernel_rfl) ?_
                    refine At.thenRet ?_
                    obtain rfl := Option.some.inj H
                    have hS : Sat w25 (rf w0) [] := hS.sel [] (by kernel_rfl)
                    exact At.body [.bool true] (by kernel_rfl) ⟨_, rfl, rfl, hS⟩
                  · rw [hr39] at H
                    dsimp only at H
                    obtain ⟨b41, hv40, hN43⟩ := optP.some hS hr39
                    subst hv40
                    have hS : Sat w25 (rf w0) [O49 b41 y38, pts b1 (.cells #[.slice A2_0 l2_0.length c2_0, .slice A2_1 l2_1.length c2_1] 44 (0, 0))] := hN43
                    refine WR.runk [4, 5, 6] [] [6] (L' := [(6, .bool false)]) (w' := w25) (by kernel_rfl) ?_
                    refine WR.nil ?_
                    refine At.go ?_
                    refine WC.ret (by kernel_rfl) ?_
                    refine At.thenRet ?_
                    obtain rfl := Option.some.inj H
                    have hS : Sat w25 (rf w0) [] := hS.sel [] (by kernel_rfl)
                    exact At.body [.bool false] (by kernel_rfl) ⟨_, rfl, rfl, hS⟩
                · replace H := ite_f H hb37
                  refine WR.runk [3, 4, 5, 6] [] [6] (L' := [(6, .bool false)]) (w' := w25) (by kernel_rfl) ?_
                  refine WR.nil ?_
                  refine At.go ?_
                  refine WC.ret (by kernel_rfl) ?_
                  refine At.thenRet ?_
                  obtain rfl := Option.some.inj H
                  have hS : Sat w25 (rf w0) [] := hS.sel [] (by kernel_rfl)
                  exact At.body [.bool false] (by kernel_rfl) ⟨_, rfl, rfl, hS⟩
              · replace H := ite_f H hb36
                refine WR.runk [7, 8, 9, 10] [11, 12, 13, 14] [0, 1, 5, 7, 8, 58] (L' := [(0, .int .i64 a0), (1, .int .i64 a1), (5, .pointer (some ⟨b1, 0, none⟩)), (7, pv27), (8, .int .i64 r18.2), (58, .bool (decide (a1 < 0)))]) (w' := w25) (by kernel_rfl) ?_
                refine WR.split 58 (b := decide (a1 < 0)) (by kernel_rfl) (fun hb44 => ?_) (fun hb44 => ?_)
                · replace H := ite_t H hb44
                  refine WR.runk [11, 12, 13, 14] [] [0, 1, 5, 7, 8, 62] (L' := [(0, .int .i64 a0), (1, .int .i64 a1), (5, .pointer (some ⟨b1, 0, none⟩)), (7, pv27), (8, .int .i64 r18.2), (62, .bool true)]) (w' := w25) (by kernel_rfl) ?_
                  refine WR.nil ?_
                  refine At.go ?_
                  refine WC.condT (by kernel_rfl) (by kernel_rfl) (by kernel_rfl) ?_
                  refine WC.seq (by kernel_rfl) ?_
                  refine WC.reg [0, 1, 2, 3, 4, 5, 6] (by kernel_rfl) (by kernel_rfl) ?_
                  refine WR.runk [0, 1, 2] [3, 4, 5, 6] [7, 65] (L' := [(7, pv27), (65, .bool (r18.2 == 2))]) (w' := w25) (by kernel_rfl) ?_
                  refine WR.split 65 (b := (r18.2 == 2)) (by kernel_rfl) (fun hb45 => ?_) (fun hb45 => ?_)
                  · replace H := ite_t H hb45
                    refine WR.runk [3] [4, 5, 6] [65, 66] (L' := [(65, .bool true), (66, pv27)]) (w' := w25) (by kernel_rfl) ?_
                    rcases hr47 : r18.1 with _ | y46
                    · rw [hr47] at H
                      dsimp only at H
                      have hv48 := optP.none hS hr47
                      subst hv48
                      have hS : Sat w25 (rf w0) [pts b1 (.cells #[.slice A2_0 l2_0.length c2_0, .slice A2_1 l2_1.length c2_1] 44 (0, 0))] := hS.sel [1] (by kernel_rfl)
                      refine WR.runk [4, 5, 6] [] [6] (L' := [(6, .bool true)]) (w' := w25) (by kernel_rfl) ?_
                      refine WR.nil ?_
                      refine At.go ?_
                      refine WC.ret (by kernel_rfl) ?_
                      refine At.thenRet ?_
                      obtain rfl := Option.some.inj H
                      have hS : Sat w25 (rf w0) [] := hS.sel [] (by kernel_rfl)
                      exact At.body [.bool true] (by kernel_rfl) ⟨_, rfl, rfl, hS⟩
                    · rw [hr47] at H
                      dsimp only at H
                      obtain ⟨b49, hv48, hN51⟩ := optP.some hS hr47
                      subst hv48
                      have hS : Sat w25 (rf w0) [O49 b49 y46, pts b1 (.cells #[.slice A2_0 l2_0.length c2_0, .slice A2_1 l2_1.length c2_1] 44 (0, 0))] := hN51
                      refine WR.runk [4, 5, 6] [] [6] (L' := [(6, .bool false)]) (w' := w25) (by kernel_rfl) ?_
                      refine WR.nil ?_
                      refine At.go ?_
                      refine WC.ret (by kernel_rfl) ?_
                      refine At.thenRet ?_
                      obtain rfl := Option.some.inj H
                      have hS : Sat w25 (rf w0) [] := hS.sel [] (by kernel_rfl)
                      exact At.body [.bool false] (by kernel_rfl) ⟨_, rfl, rfl, hS⟩
                  · replace H := ite_f H hb45
                    refine WR.runk [3, 4, 5, 6] [] [6] (L' := [(6, .bool false)]) (w' := w25) (by kernel_rfl) ?_
                    refine WR.nil ?_
                    refine At.go ?_
                    refine WC.ret (by kernel_rfl) ?_
                    refine At.thenRet ?_
                    obtain rfl := Option.some.inj H
                    have hS : Sat w25 (rf w0) [] := hS.sel [] (by kernel_rfl)
                    exact At.body [.bool false] (by kernel_rfl) ⟨_, rfl, rfl, hS⟩
                · replace H := ite_f H hb44
                  refine WR.runk [11, 12, 13, 14] [] [0, 1, 5, 7, 8, 62] (L' := [(0, .int .i64 a0), (1, .int .i64 a1), (5, .pointer (some ⟨b1, 0, none⟩)), (7, pv27), (8, .int .i64 r18.2), (62, .bool (decide (a1 > a0)))]) (w' := w25) (by kernel_rfl) ?_
                  refine WR.nil ?_
                  refine At.go ?_
                  refine WC.cond (by kernel_rfl) (decide (a1 > a0)) (by kernel_rfl) (by kernel_rfl) (fun hb52 => ?_) (fun hb52 => ?_)
                  · replace H := ite_t H hb52
                    refine WC.seq (by kernel_rfl) ?_
                    refine WC.reg [0, 1, 2, 3, 4, 5, 6] (by kernel_rfl) (by kernel_rfl) ?_
                    refine WR.runk [0, 1, 2] [3, 4, 5, 6] [7, 65] (L' := [(7, pv27), (65, .bool (r18.2 == 2))]) (w' := w25) (by kernel_rfl) ?_
                    refine WR.split 65 (b := (r18.2 == 2)) (by kernel_rfl) (fun hb53 => ?_) (fun hb53 => ?_)
                    · replace H := ite_t H hb53
                      refine WR.runk [3] [4, 5, 6] [65, 66] (L' := [(65, .bool true), (66, pv27)]) (w' := w25) (by kernel_rfl) ?_
                      rcases hr55 : r18.1 with _ | y54
                      · rw [hr55] at H
                        dsimp only at H
                        have hv56 := optP.none hS hr55
                        subst hv56
                        have hS : Sat w25 (rf w0) [pts b1 (.cells #[.slice A2_0 l2_0.length c2_0, .slice A2_1 l2_1.length c2_1] 44 (0, 0))] := hS.sel [1] (by kernel_rfl)
                        refine WR.runk [4, 5, 6] [] [6] (L' := [(6, .bool true)]) (w' := w25) (by kernel_rfl) ?_
                        refine WR.nil ?_
                        refine At.go ?_
                        refine WC.ret (by kernel_rfl) ?_
                        refine At.thenRet ?_
                        obtain rfl := Option.some.inj H
                        have hS : Sat w25 (rf w0) [] := hS.sel [] (by kernel_rfl)
                        exact At.body [.bool true] (by kernel_rfl) ⟨_, rfl, rfl, hS⟩
                      · rw [hr55] at H
                        dsimp only at H
                        obtain ⟨b57, hv56, hN59⟩ := optP.some hS hr55
                        subst hv56
                        have hS : Sat w25 (rf w0) [O49 b57 y54, pts b1 (.cells #[.slice A2_0 l2_0.length c2_0, .slice A2_1 l2_1.length c2_1] 44 (0, 0))] := hN59
                        refine WR.runk [4, 5, 6] [] [6] (L' := [(6, .bool false)]) (w' := w25) (by kernel_rfl) ?_
                        refine WR.nil ?_
                        refine At.go ?_
                        refine WC.ret (by kernel_rfl) ?_
                        refine At.thenRet ?_
                        obtain rfl := Option.some.inj H
                        have hS : Sat w25 (rf w0) [] := hS.sel [] (by kernel_rfl)
                        exact At.body [.bool false] (by kernel_rfl) ⟨_, rfl, rfl, hS⟩
                    · replace H := ite_f H hb53
                      refine WR.runk [3, 4, 5, 6] [] [6] (L' := [(6, .bool false)]) (w' := w25) (by kernel_rfl) ?_
                      refine WR.nil ?_
                      refine At.go ?_
                      refine WC.ret (by kernel_rfl) ?_
                      refine At.thenRet ?_
                      obtain rfl := Option.some.inj H
                      have hS : Sat w25 (rf w0) [] := hS.sel [] (by kernel_rfl)
                      exact At.body [.bool false] (by kernel_rfl) ⟨_, rfl, rfl, hS⟩
                  · replace H := ite_f H hb52
                    refine WC.skip (by kernel_rfl) ?_
                    refine At.go ?_
                    refine WC.seq (by kernel_rfl) ?_
                    refine WC.seq (by kernel_rfl) ?_
                    refine WC.reg [0, 1] (by kernel_rfl) (by kernel_rfl) ?_
                    refine WR.runk [0, 1] [] [0, 1, 5, 7, 8, 70] (L' := [(0, .int .i64 a0), (1, .int .i64 a1), (5, .pointer (some ⟨b1, 0, none⟩)), (7, pv27), (8, .int .i64 r18.2), (70, .bool (r18.2 != 0))]) (w' := w25) (by kernel_rfl) ?_
                    refine WR.nil ?_
                    refine At.go ?_
                    refine WC.cond (by kernel_rfl) (r18.2 != 0) (by kernel_rfl) (by kernel_rfl) (fun hb60 => ?_) (fun hb60 => ?_)
                    · replace H := ite_t H hb60
                      refine WC.seq (by kernel_rfl) ?_
                      refine WC.reg [0, 1, 2, 3, 4, 5, 6] (by kernel_rfl) (by kernel_rfl) ?_
                      refine WR.runk [0, 1, 2] [3, 4, 5, 6] [7, 73] (L' := [(7, pv27), (73, .bool (r18.2 == 10))]) (w' := w25) (by kernel_rfl) ?_
                      refine WR.split 73 (b := (r18.2 == 10)) (by kernel_rfl) (fun hb61 => ?_) (fun hb61 => ?_)
                      · replace H := ite_t H hb61
                        refine WR.runk [3] [4, 5, 6] [73, 74] (L' := [(73, .bool true), (74, pv27)]) (w' := w25) (by kernel_rfl) ?_
                        rcases hr63 : r18.1 with _ | y62
                        · rw [hr63] at H
                          dsimp only at H
                          have hv64 := optP.none hS hr63
                          subst hv64
                          have hS : Sat w25 (rf w0) [pts b1 (.cells #[.slice A2_0 l2_0.length c2_0, .slice A2_1 l2_1.length c2_1] 44 (0, 0))] := hS.sel [1] (by kernel_rfl)
                          refine WR.runk [4, 5, 6] [] [6] (L' := [(6, .bool true)]) (w' := w25) (by kernel_rfl) ?_
                          refine WR.nil ?_
                          refine At.go ?_
                          refine WC.ret (by kernel_rfl) ?_
                          refine At.thenRet ?_
                          obtain rfl := Option.some.inj H
                          have hS : Sat w25 (rf w0) [] := hS.sel [] (by kernel_rfl)
                          exact At.body [.bool true] (by kernel_rfl) ⟨_, rfl, rfl, hS⟩
                        · rw [hr63] at H
                          dsimp only at H
                          obtain ⟨b65, hv64, hN67⟩ := optP.some hS hr63
                          subst hv64
                          have hS : Sat w25 (rf w0) [O49 b65 y62, pts b1 (.cells #[.slice A2_0 l2_0.length c2_0, .slice A2_1 l2_1.length c2_1] 44 (0, 0))] := hN67
                          refine WR.runk [4, 5, 6] [] [6] (L' := [(6, .bool false)]) (w' := w25) (by kernel_rfl) ?_
                          refine WR.nil ?_
                          refine At.go ?_
                          refine WC.ret (by kernel_rfl) ?_
                          refine At.thenRet ?_
                          obtain rfl := Option.some.inj H
                          have hS : Sat w25 (rf w0) [] := hS.sel [] (by kernel_rfl)
                          exact At.body [.bool false] (by kernel_rfl) ⟨_, rfl, rfl, hS⟩
                      · replace H := ite_f H hb61
                        refine WR.runk [3, 4, 5, 6] [] [6] (L' := [(6, .bool false)]) (w' := w25) (by kernel_rfl) ?_
                        refine WR.nil ?_
                        refine At.go ?_
                        refine WC.ret (by kernel_rfl) ?_
                        refine At.thenRet ?_
                        obtain rfl := Option.some.inj H
                        have hS : Sat w25 (rf w0) [] := hS.sel [] (by kernel_rfl)
                        exact At.body [.bool false] (by kernel_rfl) ⟨_, rfl, rfl, hS⟩
                    · replace H := ite_f H hb60
                      refine WC.skip (by kernel_rfl) ?_
                      refine At.go ?_
                      refine WC.seq (by kernel_rfl) ?_
                      refine WC.reg [0] (by kernel_rfl) (by kernel_rfl) ?_
                      refine WR.runk [0] [] [0, 1, 5, 7, 9] (L' := [(0, .int .i64 a0), (1, .int .i64 a1), (5, .pointer (some ⟨b1, 0, none⟩)), (7, pv27), (9, .slice none 0 0)]) (w' := w25) (by kernel_rfl) ?_
                      refine WR.nil ?_
                      refine At.go ?_
                      refine WC.seq (by kernel_rfl) ?_
                      refine WC.seq (by kernel_rfl) ?_
                      refine WC.reg [0, 1] (by kernel_rfl) (by kernel_rfl) ?_
                      refine WR.runk [0, 1] [] [0, 1, 5, 7, 9, 77, 78] (L' := [(0, .int .i64 a0), (1, .int .i64 a1), (5, .pointer (some ⟨b1, 0, none⟩)), (7, pv27), (9, .slice none 0 0), (77, .int .i64 a1), (78, .int .i64 0)]) (w' := w25) (by kernel_rfl) ?_
                      refine WR.nil ?_
                      refine At.go ?_
                      refine WC.block (by kernel_rfl) ?_
                      obtain ⟨y68, hr69, H⟩ := bind_ex H
                      obtain ⟨b71, hv70, hN190⟩ := optP.some hS hr69
                      subst hv70
                      have hS : Sat w25 (rf w0) [O49 b71 y68, pts b1 (.cells #[.slice A2_0 l2_0.length c2_0, .slice A2_1 l2_1.length c2_1] 44 (0, 0))] := hN190
                      have hS := hS.addNil (α := Int) 3 (r0 (.int .i64)) 1
                      have hS : Sat w25 (rf w0) [osl 3 (r0 (.int .i64)) 1 none 0 ([] : List Int), O49 b71 y68, pts b1 (.cells #[.slice A2_0 l2_0.length c2_0, .slice A2_1 l2_1.length c2_1] 44 (0, 0))] := hS.sel [0, 1, 2] (by kernel_rfl)
                      obtain ⟨o90, e91, H⟩ := bind_ex H
                      refine WC.loop (by kernel_rfl) ?_
                      refine WL.weaken [0, 1, 5, 7, 9, 77, 78] (L' := [(0, .int .i64 a0), (1, .int .i64 a1), (5, .pointer (some ⟨b1, 0, none⟩)), (7, .pointer (some ⟨b71, 0, none⟩)), (9, .slice none 0 0), (77, .int .i64 a1), (78, .int .i64 0)]) (by kernel_rfl) ?_
                      refine colophonlaw03_SparseFrom.l1_ok w0 a0 a1 A2_0 c2_0 l2_0 A2_1 c2_1 l2_1 b1 y68 b71 o90 (fun A9_q92 c9_q92 w93 hS => ?_) FU ([] : List Int) 0 none 0 _ hS e91
                      refine At.hit ?_
                      refine At.go ?_
                      refine WC.seq (by kernel_rfl) ?_
                      refine WC.reg [0, 1, 2, 3, 4, 5, 6] (by kernel_rfl) (by kernel_rfl) ?_
                      refine WR.runk [0] [1, 2, 3, 4, 5, 6] [0, 1, 5, 7, 9, 89] (L' := [(0, .int .i64 a0), (1, .int .i64 a1), (5, .pointer (some ⟨b1, 0, none⟩)), (7, .pointer (some ⟨b71, 0, none⟩)), (9, .slice A9_q92 o90.length c9_q92), (89, .pointer (some ⟨b71, 0, none⟩))]) (w' := w93) (by kernel_rfl) ?_
                      obtain ⟨r95, e96, H⟩ := bind_ex H
                      refine WR.st (St.call (by kernel_rfl) (f := 17) (args := #[.pointer (some ⟨b71, 0, none⟩)]) (by kernel_rfl) (sparse_Set_Words.calls w93 (.pointer (some ⟨b71, 0, none⟩)) (some y68) (Sat.rdAny 1 hS rfl (fun _ h => O49.rd _ _ _ h)) r95 e96) ?_)
                      rintro _ w102 ⟨A104, c105, A106, c107, rfl, hS103⟩
                      have hS : Sat w102 (rf w0) [osl 43 (r0 (.int .u64)) 1 A104 c105 r95.1, osl 43 (r0 (.int .u64)) 1 A106 c107 r95.2, osl 3 (r0 (.int .i64)) 1 A9_q92 c9_q92 o90, O49 b71 y68, pts b1 (.cells #[.slice A2_0 l2_0.length c2_0, .slice A2_1 l2_1.length c2_1] 44 (0, 0))] := hS.ext hS103
                      refine WR.runk [2, 3, 4, 5, 6] [] [0, 1, 5, 7, 9, 11, 12] (L' := [(0, .int .i64 a0), (1, .int .i64 a1), (5, .pointer (some ⟨b1, 0, none⟩)), (7, .pointer (some ⟨b71, 0, none⟩)), (9, .slice A9_q92 o90.length c9_q92), (11, .slice A104 r95.1.length c105), (12, .slice A106 r95.2.length c107)]) (w' := w102) (by kernel_rfl) ?_
                      refine WR.nil ?_
                      refine At.go ?_
                      refine WC.seq (by kernel_rfl) ?_
                      refine WC.reg [0, 1, 2, 3, 4, 5, 6, 7] (by kernel_rfl) (by kernel_rfl) ?_
                      refine WR.runk [0, 1] [2, 3, 4, 5, 6, 7] [0, 1, 5, 7, 9, 11, 12, 94, 95] (L' := [(0, .int .i64 a0), (1, .int .i64 a1), (5, .pointer (some ⟨b1, 0, none⟩)), (7, .pointer (some ⟨b71, 0, none⟩)), (9, .slice A9_q92 o90.length c9_q92), (11, .slice A104 r95.1.length c105), (12, .slice A106 r95.2.length c107), (94, .int .i64 a0), (95, .slice A9_q92 o90.length c9_q92)]) (w' := w102) (by kernel_rfl) ?_
                      obtain ⟨r108, e109, H⟩ := bind_ex H
                      refine WR.st (St.call (by kernel_rfl) (f := 18) (args := #[.int .i64 a0, .slice A9_q92 o90.length c9_q92]) (by kernel_rfl) (colophonref03_Words.calls w102 a0 A9_q92 c9_q92 o90 (Sat.rdAt 2 hS rfl) r108 e109) ?_)
                      rintro _ w115 ⟨A117, c118, A119, c120, rfl, hS116⟩
                      have hS : Sat w115 (rf w0) [osl 43 (r0 (.int .u64)) 1 A117 c118 r108.1, osl 43 (r0 (.int .u64)) 1 A119 c120 r108.2, osl 43 (r0 (.int .u64)) 1 A104 c105 r95.1, osl 43 (r0 (.int .u64)) 1 A106 c107 r95.2, osl 3 (r0 (.int .i64)) 1 A9_q92 c9_q92 o90, O49 b71 y68, pts b1 (.cells #[.slice A2_0 l2_0.length c2_0, .slice A2_1 l2_1.length c2_1] 44 (0, 0))] := hS.ext hS116
                      refine WR.runk [3, 4, 5, 6, 7] [] [0, 1, 5, 7, 9, 11, 12, 13, 14] (L' := [(0, .int .i64 a0), (1, .int .i64 a1), (5, .pointer (some ⟨b1, 0, none⟩)), (7, .pointer (some ⟨b71, 0, none⟩)), (9, .slice A9_q92 o90.length c9_q92), (11, .slice A104 r95.1.length c105), (12, .slice A106 r95.2.length c107), (13, .slice A117 r108.1.length c118), (14, .slice A119 r108.2.length c120)]) (w' := w115) (by kernel_rfl) ?_
                      refine WR.nil ?_
                      refine At.go ?_
                      refine WC.seq (by kernel_rfl) ?_
                      refine WC.reg [0, 1, 2, 3, 4, 5, 6, 7, 8, 9, 10, 11, 12, 13, 14, 15, 16, 17, 18, 19, 20, 21, 22, 23, 24, 25, 26, 27, 28, 29, 30, 31, 32, 33, 34, 35, 36, 37] (by kernel_rfl) (by kernel_rfl) ?_
                      refine WR.runk [0] [1, 2, 3, 4, 5, 6, 7, 8, 9, 10, 11, 12, 13, 14, 15, 16, 17, 18, 19, 20, 21, 22, 23, 24, 25, 26, 27, 28, 29, 30, 31, 32, 33, 34, 35, 36, 37] [0, 1, 5, 7, 9, 11, 12, 13, 14, 99] (L' := [(0, .int .i64 a0), (1, .int .i64 a1), (5, .pointer (some ⟨b1, 0, none⟩)), (7, .pointer (some ⟨b71, 0, none⟩)), (9, .slice A9_q92 o90.length c9_q92), (11, .slice A104 r95.1.length c105), (12, .slice A106 r95.2.length c107), (13, .slice A117 r108.1.length c118), (14, .slice A119 r108.2.length c120), (99, .pointer (some ⟨b71, 0, none⟩))]) (w' := w115) (by kernel_rfl) ?_
                      obtain ⟨r121, e122, H⟩ := bind_ex H
                      refine WR.st (St.call (by kernel_rfl) (f := 15) (args := #[.pointer (some ⟨b71, 0, none⟩)]) (by kernel_rfl) (sparse_Set_Len.calls w115 (.pointer (some ⟨b71, 0, none⟩)) (some y68) (Sat.rdAny 5 hS rfl (fun _ h => O49.rd _ _ _ h)) r121 e122) ?_)
                      rintro _ w128 ⟨rfl, hS129⟩
                      have hS : Sat w128 (rf w0) [osl 43 (r0 (.int .u64)) 1 A117 c118 r108.1, osl 43 (r0 (.int .u64)) 1 A119 c120 r108.2, osl 43 (r0 (.int .u64)) 1 A104 c105 r95.1, osl 43 (r0 (.int .u64)) 1 A106 c107 r95.2, osl 3 (r0 (.int .i64)) 1 A9_q92 c9_q92 o90, O49 b71 y68, pts b1 (.cells #[.slice A2_0 l2_0.length c2_0, .slice A2_1 l2_1.length c2_1] 44 (0, 0))] := hS.ext hS129
                      refine WR.runk [2, 3, 4] [5, 6, 7, 8, 9, 10, 11, 12, 13, 14, 15, 16, 17, 18, 19, 20, 21, 22, 23, 24, 25, 26, 27, 28, 29, 30, 31, 32, 33, 34, 35, 36, 37] [0, 5, 7, 9, 11, 12, 13, 14, 103] (L' := [(0, .int .i64 a0), (5, .pointer (some ⟨b1, 0, none⟩)), (7, .pointer (some ⟨b71, 0, none⟩)), (9, .slice A9_q92 o90.length c9_q92), (11, .slice A104 r95.1.length c105), (12, .slice A106 r95.2.length c107), (13, .slice A117 r108.1.length c118), (14, .slice A119 r108.2.length c120), (103, .bool (r121 == a1))]) (w' := w128) (by kernel_rfl) ?_
                      refine WR.split 103 (b := (r121 == a1)) (by kernel_rfl) (fun hb130 => ?_) (fun hb130 => ?_)
                      · replace H := ite_t H hb130
                        refine WR.runk [5] [6, 7, 8, 9, 10, 11, 12, 13, 14, 15, 16, 17, 18, 19, 20, 21, 22, 23, 24, 25, 26, 27, 28, 29, 30, 31, 32, 33, 34, 35, 36, 37] [0, 5, 9, 11, 12, 13, 14, 103, 104] (L' := [(0, .int .i64 a0), (5, .pointer (some ⟨b1, 0, none⟩)), (9, .slice A9_q92 o90.length c9_q92), (11, .slice A104 r95.1.length c105), (12, .slice A106 r95.2.length c107), (13, .slice A117 r108.1.length c118), (14, .slice A119 r108.2.length c120), (103, .bool true), (104, .pointer (some ⟨b71, 0, none⟩))]) (w' := w128) (by kernel_rfl) ?_
                        obtain ⟨r131, e132, H⟩ := bind_ex H
                        refine WR.st (St.call (by kernel_rfl) (f := 11) (args := #[.pointer (some ⟨b71, 0, none⟩)]) (by kernel_rfl) (sparse_Set_Bound.calls w128 (.pointer (some ⟨b71, 0, none⟩)) (some y68) (Sat.rdAny 5 hS rfl (fun _ h => O49.rd _ _ _ h)) r131 e132) ?_)
                        rintro _ w138 ⟨rfl, hS139⟩
                        have hS : Sat w138 (rf w0) [osl 43 (r0 (.int .u64)) 1 A117 c118 r108.1, osl 43 (r0 (.int .u64)) 1 A119 c120 r108.2, osl 43 (r0 (.int .u64)) 1 A104 c105 r95.1, osl 43 (r0 (.int .u64)) 1 A106 c107 r95.2, osl 3 (r0 (.int .i64)) 1 A9_q92 c9_q92 o90, O49 b71 y68, pts b1 (.cells #[.slice A2_0 l2_0.length c2_0, .slice A2_1 l2_1.length c2_1] 44 (0, 0))] := hS.ext hS139
                        refine WR.runk [7, 8, 9, 10] [11, 12, 13, 14, 15, 16, 17, 18, 19, 20, 21, 22, 23, 24, 25, 26, 27, 28, 29, 30, 31, 32, 33, 34, 35, 36, 37] [0, 5, 9, 11, 12, 13, 14, 109] (L' := [(0, .int .i64 a0), (5, .pointer (some ⟨b1, 0, none⟩)), (9, .slice A9_q92 o90.length c9_q92), (11, .slice A104 r95.1.length c105), (12, .slice A106 r95.2.length c107), (13, .slice A117 r108.1.length c118), (14, .slice A119 r108.2.length c120), (109, .bool (r131 == a0))]) (w' := w138) (by kernel_rfl) ?_
                        refine WR.split 109 (b := (r131 == a0)) (by kernel_rfl) (fun hb140 => ?_) (fun hb140 => ?_)
                        · replace H := ite_t H hb140
                          refine WR.runk [11, 12] [13, 14, 15, 16, 17, 18, 19, 20, 21, 22, 23, 24, 25, 26, 27, 28, 29, 30, 31, 32, 33, 34, 35, 36, 37] [5, 11, 12, 13, 14, 109, 110, 111] (L' := [(5, .pointer (some ⟨b1, 0, none⟩)), (11, .slice A104 r95.1.length c105), (12, .slice A106 r95.2.length c107), (13, .slice A117 r108.1.length c118), (14, .slice A119 r108.2.length c120), (109, .bool true), (110, .int .i64 a0), (111, .slice A9_q92 o90.length c9_q92)]) (w' := w138) (by kernel_rfl) ?_
                          obtain ⟨r141, e142, H⟩ := bind_ex H
                          refine WR.st (St.call (by kernel_rfl) (f := 9) (args := #[.int .i64 a0, .slice A9_q92 o90.length c9_q92]) (by kernel_rfl) (colophonref03_Right.calls w138 a0 A9_q92 c9_q92 o90 (Sat.rdAt 4 hS rfl) r141 e142) ?_)
                          rintro _ w148 ⟨rfl, hS149⟩
                          have hS : Sat w148 (rf w0) [osl 43 (r0 (.int .u64)) 1 A117 c118 r108.1, osl 43 (r0 (.int .u64)) 1 A119 c120 r108.2, osl 43 (r0 (.int .u64)) 1 A104 c105 r95.1, osl 43 (r0 (.int .u64)) 1 A106 c107 r95.2, osl 3 (r0 (.int .i64)) 1 A9_q92 c9_q92 o90, O49 b71 y68, pts b1 (.cells #[.slice A2_0 l2_0.length c2_0, .slice A2_1 l2_1.length c2_1] 44 (0, 0))] := hS.ext hS149
                          refine WR.runk [14, 15] [16, 17, 18, 19, 20, 21, 22, 23, 24, 25, 26, 27, 28, 29, 30, 31, 32, 33, 34, 35, 36, 37] [5, 11, 12, 13, 14, 114] (L' := [(5, .pointer (some ⟨b1, 0, none⟩)), (11, .slice A104 r95.1.length c105), (12, .slice A106 r95.2.length c107), (13, .slice A117 r108.1.length c118), (14, .slice A119 r108.2.length c120), (114, .bool r141)]) (w' := w148) (by kernel_rfl) ?_
                          refine WR.split 114 (b := r141) (by kernel_rfl) (fun hb150 => ?_) (fun hb150 => ?_)
                          · replace H := ite_t H hb150
                            refine WR.runk [16, 17] [18, 19, 20, 21, 22, 23, 24, 25, 26, 27, 28, 29, 30, 31, 32, 33, 34, 35, 36, 37] [5, 11, 12, 13, 14, 114, 115, 116] (L' := [(5, .pointer (some ⟨b1, 0, none⟩)), (11, .slice A104 r95.1.length c105), (12, .slice A106 r95.2.length c107), (13, .slice A117 r108.1.length c118), (14, .slice A119 r108.2.length c120), (114, .bool true), (115, .slice A104 r95.1.length c105), (116, .pointer (some ⟨b1, 0, none⟩))]) (w' := w148) (by kernel_rfl) ?_
                            refine WR.st (St.ofR (RSt.loadObj (t := 35) (k := 0) (v := .slice A2_0 l2_0.length c2_0) (.tmp 116) (by kernel_rfl) (by kernel_rfl) (by kernel_rfl) 6 hS rfl (by kernel_rfl) rfl ?_))
                            refine WR.runk [] [19, 20, 21, 22, 23, 24, 25, 26, 27, 28, 29, 30, 31, 32, 33, 34, 35, 36, 37] [5, 11, 12, 13, 14, 114, 115, 117] (L' := [(5, .pointer (some ⟨b1, 0, none⟩)), (11, .slice A104 r95.1.length c105), (12, .slice A106 r95.2.length c107), (13, .slice A117 r108.1.length c118), (14, .slice A119 r108.2.length c120), (114, .bool true), (115, .slice A104 r95.1.length c105), (117, .slice A2_0 l2_0.length c2_0)]) (w' := w148) (by kernel_rfl) ?_
                            obtain ⟨r151, e152, H⟩ := bind_ex H
                            refine WR.st (St.call (by kernel_rfl) (f := 19) (args := #[.slice A104 r95.1.length c105, .slice A2_0 l2_0.length c2_0]) (by kernel_rfl) (colophonref01_Same.calls w148 A104 c105 r95.1 (Sat.rdAt 2 hS rfl) A2_0 c2_0 l2_0 (rdS.up R2_0 hS.sub0) r151 e152) ?_)
                            rintro _ w158 ⟨rfl, hS159⟩
                            have hS : Sat w158 (rf w0) [osl 43 (r0 (.int .u64)) 1 A117 c118 r108.1, osl 43 (r0 (.int .u64)) 1 A119 c120 r108.2, osl 43 (r0 (.int .u64)) 1 A104 c105 r95.1, osl 43 (r0 (.int .u64)) 1 A106 c107 r95.2, osl 3 (r0 (.int .i64)) 1 A9_q92 c9_q92 o90, O49 b71 y68, pts b1 (.cells #[.slice A2_0 l2_0.length c2_0, .slice A2_1 l2_1.length c2_1] 44 (0, 0))] := hS.ext hS159
                            refine WR.runk [20, 21] [22, 23, 24, 25, 26, 27, 28, 29, 30, 31, 32, 33, 34, 35, 36, 37] [5, 11, 12, 13, 14, 120] (L' := [(5, .pointer (some ⟨b1, 0, none⟩)), (11, .slice A104 r95.1.length c105), (12, .slice A106 r95.2.length c107), (13, .slice A117 r108.1.length c118), (14, .slice A119 r108.2.length c120), (120, .bool r151)]) (w' := w158) (by kernel_rfl) ?_
                            refine WR.split 120 (b := r151) (by kernel_rfl) (fun hb160 => ?_) (fun hb160 => ?_)
                            · replace H := ite_t H hb160
                              refine WR.runk [22, 23] [24, 25, 26, 27, 28, 29, 30, 31, 32, 33, 34, 35, 36, 37] [11, 12, 13, 14, 120, 121, 122] (L' := [(11, .slice A104 r95.1.length c105), (12, .slice A106 r95.2.length c107), (13, .slice A117 r108.1.length c118), (14, .slice A119 r108.2.length c120), (120, .bool true), (121, .slice A106 r95.2.length c107), (122, .pointer (some ⟨b1, 1, none⟩))]) (w' := w158) (by kernel_rfl) ?_
                              refine WR.st (St.ofR (RSt.loadObj (t := 35) (k := 1) (v := .slice A2_1 l2_1.length c2_1) (.tmp 122) (by kernel_rfl) (by kernel_rfl) (by kernel_rfl) 6 hS rfl (by kernel_rfl) rfl ?_))
                              refine WR.runk [] [25, 26, 27, 28, 29, 30, 31, 32, 33, 34, 35, 36, 37] [11, 12, 13, 14, 120, 121, 123] (L' := [(11, .slice A104 r95.1.length c105), (12, .slice A106 r95.2.length c107), (13, .slice A117 r108.1.length c118), (14, .slice A119 r108.2.length c120), (120, .bool true), (121, .slice A106 r95.2.length c107), (123, .slice A2_1 l2_1.length c2_1)]) (w' := w158) (by kernel_rfl) ?_
                              obtain ⟨r161, e162, H⟩ := bind_ex H
                              refine WR.st (St.call (by kernel_rfl) (f := 19) (args := #[.slice A106 r95.2.length c107, .slice A2_1 l2_1.length c2_1]) (by kernel_rfl) (colophonref01_Same.calls w158 A106 c107 r95.2 (Sat.rdAt 3 hS rfl) A2_1 c2_1 l2_1 (rdS.up R2_1 hS.sub0) r161 e162) ?_)
                              rintro _ w168 ⟨rfl, hS169⟩
                              have hS : Sat w168 (rf w0) [osl 43 (r0 (.int .u64)) 1 A117 c118 r108.1, osl 43 (r0 (.int .u64)) 1 A119 c120 r108.2, osl 43 (r0 (.int .u64)) 1 A104 c105 r95.1, osl 43 (r0 (.int .u64)) 1 A106 c107 r95.2, osl 3 (r0 (.int .i64)) 1 A9_q92 c9_q92 o90, O49 b71 y68, pts b1 (.cells #[.slice A2_0 l2_0.length c2_0, .slice A2_1 l2_1.length c2_1] 44 (0, 0))] := hS.ext hS169
                              refine WR.runk [26, 27] [28, 29, 30, 31, 32, 33, 34, 35, 36, 37] [11, 12, 13, 14, 126] (L' := [(11, .slice A104 r95.1.length c105), (12, .slice A106 r95.2.length c107), (13, .slice A117 r108.1.length c118), (14, .slice A119 r108.2.length c120), (126, .bool r161)]) (w' := w168) (by kernel_rfl) ?_
                              refine WR.split 126 (b := r161) (by kernel_rfl) (fun hb170 => ?_) (fun hb170 => ?_)
                              · replace H := ite_t H hb170
                                refine WR.runk [28, 29] [30, 31, 32, 33, 34, 35, 36, 37] [12, 14, 126, 127, 128] (L' := [(12, .slice A106 r95.2.length c107), (14, .slice A119 r108.2.length c120), (126, .bool true), (127, .slice A104 r95.1.length c105), (128, .slice A117 r108.1.length c118)]) (w' := w168) (by kernel_rfl) ?_
                                obtain ⟨r171, e172, H⟩ := bind_ex H
                                refine WR.st (St.call (by kernel_rfl) (f := 19) (args := #[.slice A104 r95.1.length c105, .slice A117 r108.1.length c118]) (by kernel_rfl) (colophonref01_Same.calls w168 A104 c105 r95.1 (Sat.rdAt 2 hS rfl) A117 c118 r108.1 (Sat.rdAt 0 hS rfl) r171 e172) ?_)
                                rintro _ w178 ⟨rfl, hS179⟩
                                have hS : Sat w178 (rf w0) [osl 43 (r0 (.int .u64)) 1 A117 c118 r108.1, osl 43 (r0 (.int .u64)) 1 A119 c120 r108.2, osl 43 (r0 (.int .u64)) 1 A104 c105 r95.1, osl 43 (r0 (.int .u64)) 1 A106 c107 r95.2, osl 3 (r0 (.int .i64)) 1 A9_q92 c9_q92 o90, O49 b71 y68, pts b1 (.cells #[.slice A2_0 l2_0.length c2_0, .slice A2_1 l2_1.length c2_1] 44 (0, 0))] := hS.ext hS179
                                refine WR.runk [31, 32] [33, 34, 35, 36, 37] [12, 14, 131] (L' := [(12, .slice A106 r95.2.length c107), (14, .slice A119 r108.2.length c120), (131, .bool r171)]) (w' := w178) (by kernel_rfl) ?_
                                refine WR.split 131 (b := r171) (by kernel_rfl) (fun hb180 => ?_) (fun hb180 => ?_)
                                · replace H := ite_t H hb180
                                  refine WR.runk [33, 34] [35, 36, 37] [131, 132, 133] (L' := [(131, .bool true), (132, .slice A106 r95.2.length c107), (133, .slice A119 r108.2.length c120)]) (w' := w178) (by kernel_rfl) ?_
                                  obtain ⟨r181, e182, H⟩ := bind_ex H
                                  refine WR.st (St.call (by kernel_rfl) (f := 19) (args := #[.slice A106 r95.2.length c107, .slice A119 r108.2.length c120]) (by kernel_rfl) (colophonref01_Same.calls w178 A106 c107 r95.2 (Sat.rdAt 3 hS rfl) A119 c120 r108.2 (Sat.rdAt 1 hS rfl) r181 e182) ?_)
                                  rintro _ w188 ⟨rfl, hS189⟩
                                  have hS : Sat w188 (rf w0) [osl 43 (r0 (.int .u64)) 1 A117 c118 r108.1, osl 43 (r0 (.int .u64)) 1 A119 c120 r108.2, osl 43 (r0 (.int .u64)) 1 A104 c105 r95.1, osl 43 (r0 (.int .u64)) 1 A106 c107 r95.2, osl 3 (r0 (.int .i64)) 1 A9_q92 c9_q92 o90, O49 b71 y68, pts b1 (.cells #[.slice A2_0 l2_0.length c2_0, .slice A2_1 l2_1.length c2_1] 44 (0, 0))] := hS.ext hS189
                                  refine WR.runk [36, 37] [] [6] (L' := [(6, .bool r181)]) (w' := w188) (by kernel_rfl) ?_
                                  refine WR.nil ?_
                                  refine At.go ?_
                                  refine WC.ret (by kernel_rfl) ?_
                                  obtain rfl := Option.some.inj H
                                  have hS : Sat w188 (rf w0) [] := hS.sel [] (by kernel_rfl)
                                  exact At.body [.bool r181] (by kernel_rfl) ⟨_, rfl, rfl, hS⟩
                                · replace H := ite_f H hb180
                                  refine WR.runk [33, 34, 35, 36, 37] [] [6] (L' := [(6, .bool false)]) (w' := w178) (by kernel_rfl) ?_
                                  refine WR.nil ?_
                                  refine At.go ?_
                                  refine WC.ret (by kernel_rfl) ?_
                                  obtain rfl := Option.some.inj H
                                  have hS : Sat w178 (rf w0) [] := hS.sel [] (by kernel_rfl)
                                  exact At.body [.bool false] (by kernel_rfl) ⟨_, rfl, rfl, hS⟩
                              · replace H := ite_f H hb170
                                refine WR.runk [28, 29, 30, 31, 32, 33, 34, 35, 36, 37] [] [6] (L' := [(6, .bool false)]) (w' := w168) (by kernel_rfl) ?_
                                refine WR.nil ?_
                                refine At.go ?_
                                refine WC.ret (by kernel_rfl) ?_
                                obtain rfl := Option.some.inj H
                                have hS : Sat w168 (rf w0) [] := hS.sel [] (by kernel_rfl)
                                exact At.body [.bool false] (by kernel_rfl) ⟨_, rfl, rfl, hS⟩
                            · replace H := ite_f H hb160
                              refine WR.runk [22, 23, 24, 25, 26, 27, 28, 29, 30, 31, 32, 33, 34, 35, 36, 37] [] [6] (L' := [(6, .bool false)]) (w' := w158) (by kernel_rfl) ?_
                              refine WR.nil ?_
                              refine At.go ?_
                              refine WC.ret (by kernel_rfl) ?_
                              obtain rfl := Option.some.inj H
                              have hS : Sat w158 (rf w0) [] := hS.sel [] (by kernel_rfl)
                              exact At.body [.bool false] (by kernel_rfl) ⟨_, rfl, rfl, hS⟩
                          · replace H := ite_f H hb150
                            refine WR.runk [16, 17, 18, 19, 20, 21, 22, 23, 24, 25, 26, 27, 28, 29, 30, 31, 32, 33, 34, 35, 36, 37] [] [6] (L' := [(6, .bool false)]) (w' := w148) (by kernel_rfl) ?_
                            refine WR.nil ?_
                            refine At.go ?_
                            refine WC.ret (by kernel_rfl) ?_
                            obtain rfl := Option.some.inj H
                            have hS : Sat w148 (rf w0) [] := hS.sel [] (by kernel_rfl)
                            exact At.body [.bool false] (by kernel_rfl) ⟨_, rfl, rfl, hS⟩
                        · replace H := ite_f H hb140
                          refine WR.runk [11, 12, 13, 14, 15, 16, 17, 18, 19, 20, 21, 22, 23, 24, 25, 26, 27, 28, 29, 30, 31, 32, 33, 34, 35, 36, 37] [] [6] (L' := [(6, .bool false)]) (w' := w138) (by kernel_rfl) ?_
                          refine WR.nil ?_
                          refine At.go ?_
                          refine WC.ret (by kernel_rfl) ?_
                          obtain rfl := Option.some.inj H
                          have hS : Sat w138 (rf w0) [] := hS.sel [] (by kernel_rfl)
                          exact At.body [.bool false] (by kernel_rfl) ⟨_, rfl, rfl, hS⟩
                      · replace H := ite_f H hb130
                        refine WR.runk [5, 6, 7, 8, 9, 10, 11, 12, 13, 14, 15, 16, 17, 18, 19, 20, 21, 22, 23, 24, 25, 26, 27, 28, 29, 30, 31, 32, 33, 34, 35, 36, 37] [] [6] (L' := [(6, .bool false)]) (w' := w128) (by kernel_rfl) ?_
                        refine WR.nil ?_
                        refine At.go ?_
                        refine WC.ret (by kernel_rfl) ?_
                        obtain rfl := Option.some.inj H
                        have hS : Sat w128 (rf w0) [] := hS.sel [] (by kernel_rfl)
                        exact At.body [.bool false] (by kernel_rfl) ⟨_, rfl, rfl, hS⟩
        · replace H := ite_f H hb16
          refine WR.runk [16, 17, 18, 19, 20] [] [0, 1, 5, 37] (L' := [(0, .int .i64 a0), (1, .int .i64 a1), (5, .pointer (some ⟨b1, 0, none⟩)), (37, .bool false)]) (w' := w11) (by kernel_rfl) ?_
          refine WR.nil ?_
          refine At.go ?_
          refine WC.condF (by kernel_rfl) (by kernel_rfl) (by kernel_rfl) ?_
          refine WC.skip (by kernel_rfl) ?_
          refine At.go ?_
          refine WC.seq (by kernel_rfl) ?_
          refine WC.reg [0, 1, 2, 3, 4, 5, 6, 7, 8, 9, 10, 11] (by kernel_rfl) (by kernel_rfl) ?_
          refine WR.runk [0, 1, 2] [3, 4, 5, 6, 7, 8, 9, 10, 11] [0, 1, 5, 39, 40, 41] (L' := [(0, .int .i64 a0), (1, .int .i64 a1), (5, .pointer (some ⟨b1, 0, none⟩)), (39, .int .i64 a0), (40, .int .i64 a1), (41, .pointer (some ⟨b1, 0, none⟩))]) (w' := w11) (by kernel_rfl) ?_
          refine WR.st (St.ofR (RSt.loadObj (t := 35) (k := 0) (v := .slice A2_0 l2_0.length c2_0) (.tmp 41) (by kernel_rfl) (by kernel_rfl) (by kernel_rfl) 0 hS rfl (by kernel_rfl) rfl ?_))
          refine WR.runk [4] [5, 6, 7, 8, 9, 10, 11] [0, 1, 5, 39, 40, 42, 43] (L' := [(0, .int .i64 a0), (1, .int .i64 a1), (5, .pointer (some ⟨b1, 0, none⟩)), (39, .int .i64 a0), (40, .int .i64 a1), (42, .slice A2_0 l2_0.length c2_0), (43, .pointer (some ⟨b1, 1, none⟩))]) (w' := w11) (by kernel_rfl) ?_
          refine WR.st (St.ofR (RSt.loadObj (t := 35) (k := 1) (v := .slice A2_1 l2_1.length c2_1) (.tmp 43) (by kernel_rfl) (by kernel_rfl) (by kernel_rfl) 0 hS rfl (by kernel_rfl) rfl ?_))
          refine WR.runk [] [6, 7, 8, 9, 10, 11] [0, 1, 5, 39, 40, 42, 44] (L' := [(0, .int .i64 a0), (1, .int .i64 a1), (5, .pointer (some ⟨b1, 0, none⟩)), (39, .int .i64 a0), (40, .int .i64 a1), (42, .slice A2_0 l2_0.length c2_0), (44, .slice A2_1 l2_1.length c2_1)]) (w' := w11) (by kernel_rfl) ?_
          obtain ⟨r191, e192, H⟩ := bind_ex H
          refine WR.st (St.call (by kernel_rfl) (f := 20) (args := #[.int .i64 a0, .int .i64 a1, .slice A2_0 l2_0.length c2_0, .slice A2_1 l2_1.length c2_1]) (by kernel_rfl) (sparse_From.calls w11 a0 a1 A2_0 c2_0 l2_0 (rdS.up R2_0 hS.sub0) A2_1 c2_1 l2_1 (rdS.up R2_1 hS.sub0) r191 e192) ?_)
          rintro _ w198 ⟨pv200, rfl, hS199⟩
          have hS : Sat w198 (rf w0) [optP O49 pv200 r191.1, pts b1 (.cells #[.slice A2_0 l2_0.length c2_0, .slice A2_1 l2_1.length c2_1] 44 (0, 0))] := hS.ext hS199
          refine WR.runk [7, 8, 9, 10, 11] [] [0, 1, 5, 7, 8] (L' := [(0, .int .i64 a0), (1, .int .i64 a1), (5, .pointer (some ⟨b1, 0, none⟩)), (7, pv200), (8, .int .i64 r191.2)]) (w' := w198) (by kernel_rfl) ?_
          refine WR.nil ?_
          refine At.go ?_
          refine WC.seq (by kernel_rfl) ?_
          refine WC.seq (by kernel_rfl) ?_
          refine WC.reg [0, 1, 2, 3, 4, 5, 6, 7, 8, 9, 10, 11, 12, 13, 14] (by kernel_rfl) (by kernel_rfl) ?_
          refine WR.runk [0, 1, 2] [3, 4, 5, 6, 7, 8, 9, 10, 11, 12, 13, 14] [0, 1, 5, 7, 8, 50] (L' := [(0, .int .i64 a0), (1, .int .i64 a1), (5, .pointer (some ⟨b1, 0, none⟩)), (7, pv200), (8, .int .i64 r191.2), (50, .bool (decide (a0 < 0)))]) (w' := w198) (by kernel_rfl) ?_
          refine WR.split 50 (b := decide (a0 < 0)) (by kernel_rfl) (fun hb201 => ?_) (fun hb201 => ?_)
          · replace H := ite_t H hb201
            refine WR.runk [3, 4, 5, 6, 7, 8, 9, 10, 11, 12, 13, 14] [] [0, 1, 5, 7, 8, 62] (L' := [(0, .int .i64 a0), (1, .int .i64 a1), (5, .pointer (some ⟨b1, 0, none⟩)), (7, pv200), (8, .int .i64 r191.2), (62, .bool true)]) (w' := w198) (by kernel_rfl) ?_
            refine WR.nil ?_
            refine At.go ?_
            refine WC.condT (by kernel_rfl) (by kernel_rfl) (by kernel_rfl) ?_
            refine WC.seq (by kernel_rfl) ?_
            refine WC.reg [0, 1, 2, 3, 4, 5, 6] (by kernel_rfl) (by kernel_rfl) ?_
            refine WR.runk [0, 1, 2] [3, 4, 5, 6] [7, 65] (L' := [(7, pv200), (65, .bool (r191.2 == 2))]) (w' := w198) (by kernel_rfl) ?_
            refine WR.split 65 (b := (r191.2 == 2)) (by kernel_rfl) (fun hb202 => ?_) (fun hb202 => ?_)
            · replace H := ite_t H hb202
              refine WR.runk [3] [4, 5, 6] [65, 66] (L' := [(65, .bool true), (66, pv200)]) (w' := w198) (by kernel_rfl) ?_
              rcases hr204 : r191.1 with _ | y203
              · rw [hr204] at H
                dsimp only at H
                have hv205 := optP.none hS hr204
                subst hv205
                have hS : Sat w198 (rf w0) [pts b1 (.cells #[.slice A2_0 l2_0.length c2_0, .slice A2_1 l2_1.length c2_1] 44 (0, 0))] := hS.sel [1] (by kernel_rfl)
                refine WR.runk [4, 5, 6] [] [6] (L' := [(6, .bool true)]) (w' := w198) (by kernel_rfl) ?_
                refine WR.nil ?_
                refine At.go ?_
                refine WC.ret (by kernel_rfl) ?_
                refine At.thenRet ?_
                obtain rfl := Option.some.inj H
                have hS : Sat w198 (rf w0) [] := hS.sel [] (by kernel_rfl)
                exact At.body [.bool true] (by kernel_rfl) ⟨_, rfl, rfl, hS⟩
              · rw [hr204] at H
                dsimp only at H
                obtain ⟨b206, hv205, hN208⟩ := optP.some hS hr204
                subst hv205
                have hS : Sat w198 (rf w0) [O49 b206 y203, pts b1 (.cells #[.slice A2_0 l2_0.length c2_0, .slice A2_1 l2_1.length c2_1] 44 (0, 0))] := hN208
                refine WR.runk [4, 5, 6] [] [6] (L' := [(6, .bool false)]) (w' := w198) (by kernel_rfl) ?_
                refine WR.nil ?_
                refine At.go ?_
                refine WC.ret (by kernel_rfl) ?_
                refine At.thenRet ?_
                obtain rfl := Option.some.inj H
                have hS : Sat w198 (rf w0) [] := hS.sel [] (by kernel_rfl)
                exact At.body [.bool false] (by kernel_rfl) ⟨_, rfl, rfl, hS⟩
            · replace H := ite_f H hb202
              refine WR.runk [3, 4, 5, 6] [] [6] (L' := [(6, .bool false)]) (w' := w198) (by kernel_rfl) ?_
              refine WR.nil ?_
              refine At.go ?_
              refine WC.ret (by kernel_rfl) ?_
              refine At.thenRet ?_
              obtain rfl := Option.some.inj H
              have hS : Sat w198 (rf w0) [] := hS.sel [] (by kernel_rfl)
              exact At.body [.bool false] (by kernel_rfl) ⟨_, rfl, rfl, hS⟩
          · replace H := ite_f H hb201
            refine WR.runk [3, 4, 5, 6] [7, 8, 9, 10, 11, 12, 13, 14] [0, 1, 5, 7, 8, 54] (L' := [(0, .int .i64 a0), (1, .int .i64 a1), (5, .pointer (some ⟨b1, 0, none⟩)), (7, pv200), (8, .int .i64 r191.2), (54, .bool (decide (a0 > 4194304)))]) (w' := w198) (by kernel_rfl) ?_
            refine WR.split 54 (b := decide (a0 > 4194304)) (by kernel_rfl) (fun hb209 => ?_) (fun hb209 => ?_)
            · replace H := ite_t H hb209
              refine WR.runk [7, 8, 9, 10, 11, 12, 13, 14] [] [0, 1, 5, 7, 8, 62] (L' := [(0, .int .i64 a0), (1, .int .i64 a1), (5, .pointer (some ⟨b1, 0, none⟩)), (7, pv200), (8, .int .i64 r191.2), (62, .bool true)]) (w' := w198) (by kernel_rfl) ?_
              refine WR.nil ?_
              refine At.go ?_
              refine WC.condT (by kernel_rfl) (by kernel_rfl) (by kernel_rfl) ?_
              refine WC.seq (by kernel_rfl) ?_
              refine WC.reg [0, 1, 2, 3, 4, 5, 6] (by kernel_rfl) (by kernel_rfl) ?_
              refine WR.runk [0, 1, 2] [3, 4, 5, 6] [7, 65] (L' := [(7, pv200), (65, .bool (r191.2 == 2))]) (w' := w198) (by kernel_rfl) ?_
              refine WR.split 65 (b := (r191.2 == 2)) (by kernel_rfl) (fun hb210 => ?_) (fun hb210 => ?_)
              · replace H := ite_t H hb210
                refine WR.runk [3] [4, 5, 6] [65, 66] (L' := [(65, .bool true), (66, pv200)]) (w' := w198) (by kernel_rfl) ?_
                rcases hr212 : r191.1 with _ | y211
                · rw [hr212] at H
                  dsimp only at H
                  have hv213 := optP.none hS hr212
                  subst hv213
                  have hS : Sat w198 (rf w0) [pts b1 (.cells #[.slice A2_0 l2_0.length c2_0, .slice A2_1 l2_1.length c2_1] 44 (0, 0))] := hS.sel [1] (by kernel_rfl)
                  refine WR.runk [4, 5, 6] [] [6] (L' := [(6, .bool true)]) (w' := w198) (by kernel_rfl) ?_
                  refine WR.nil ?_
                  refine At.go ?_
                  refine WC.ret (by kernel_rfl) ?_
                  refine At.thenRet ?_
                  obtain rfl := Option.some.inj H
                  have hS : Sat w198 (rf w0) [] := hS.sel [] (by kernel_rfl)
                  exact At.body [.bool true] (by kernel_rfl) ⟨_, rfl, rfl, hS⟩
                · rw [hr212] at H
                  dsimp only at H
                  obtain ⟨b214, hv213, hN216⟩ := optP.some hS hr212
                  subst hv213
                  have hS : Sat w198 (rf w0) [O49 b214 y211, pts b1 (.cells #[.slice A2_0 l2_0.length c2_0, .slice A2_1 l2_1.length c2_1] 44 (0, 0))] := hN216
                  refine WR.runk [4, 5, 6] [] [6] (L' := [(6, .bool false)]) (w' := w198) (by kernel_rfl) ?_
                  refine WR.nil ?_
                  refine At.go ?_
                  refine WC.ret (by kernel_rfl) ?_
                  refine At.thenRet ?_
                  obtain rfl := Option.some.inj H
                  have hS : Sat w198 (rf w0) [] := hS.sel [] (by kernel_rfl)
                  exact At.body [.bool false] (by kernel_rfl) ⟨_, rfl, rfl, hS⟩
              · replace H := ite_f H hb210
                refine WR.runk [3, 4, 5, 6] [] [6] (L' := [(6, .bool false)]) (w' := w198) (by kernel_rfl) ?_
                refine WR.nil ?_
                refine At.go ?_
                refine WC.ret (by kernel_rfl) ?_
                refine At.thenRet ?_
                obtain rfl := Option.some.inj H
                have hS : Sat w198 (rf w0) [] := hS.sel [] (by kernel_rfl)
                exact At.body [.bool false] (by kernel_rfl) ⟨_, rfl, rfl, hS⟩
            · replace H := ite_f H hb209
              refine WR.runk [7, 8, 9, 10] [11, 12, 13, 14] [0, 1, 5, 7, 8, 58] (L' := [(0, .int .i64 a0), (1, .int .i64 a1), (5, .pointer (some ⟨b1, 0, none⟩)), (7, pv200), (8, .int .i64 r191.2), (58, .bool (decide (a1 < 0)))]) (w' := w198) (by kernel_rfl) ?_
              refine WR.split 58 (b := decide (a1 < 0)) (by kernel_rfl) (fun hb217 => ?_) (fun hb217 => ?_)
              · replace H := ite_t H hb217
                refine WR.runk [11, 12, 13, 14] [] [0, 1, 5, 7, 8, 62] (L' := [(0, .int .i64 a0), (1, .int .i64 a1), (5, .pointer (some ⟨b1, 0, none⟩)), (7, pv200), (8, .int .i64 r191.2), (62, .bool true)]) (w' := w198) (by kernel_rfl) ?_
                refine WR.nil ?_
                refine At.go ?_
                refine WC.condT (by kernel_rfl) (by kernel_rfl) (by kernel_rfl) ?_
                refine WC.seq (by kernel_rfl) ?_
                refine WC.reg [0, 1, 2, 3, 4, 5, 6] (by kernel_rfl) (by kernel_rfl) ?_
                refine WR.runk [0, 1, 2] [3, 4, 5, 6] [7, 65] (L' := [(7, pv200), (65, .bool (r191.2 == 2))]) (w' := w198) (by kernel_rfl) ?_
                refine WR.split 65 (b := (r191.2 == 2)) (by kernel_rfl) (fun hb218 => ?_) (fun hb218 => ?_)
                · replace H := ite_t H hb218
                  refine WR.runk [3] [4, 5, 6] [65, 66] (L' := [(65, .bool true), (66, pv200)]) (w' := w198) (by kernel_rfl) ?_
                  rcases hr220 : r191.1 with _ | y219
                  · rw [hr220] at H
                    dsimp only at H
                    have hv221 := optP.none hS hr220
                    subst hv221
                    have hS : Sat w198 (rf w0) [pts b1 (.cells #[.slice A2_0 l2_0.length c2_0, .slice A2_1 l2_1.length c2_1] 44 (0, 0))] := hS.sel [1] (by kernel_rfl)
                    refine WR.runk [4, 5, 6] [] [6] (L' := [(6, .bool true)]) (w' := w198) (by kernel_rfl) ?_
                    refine WR.nil ?_
                    refine At.go ?_
                    refine WC.ret (by kernel_rfl) ?_
                    refine At.thenRet ?_
                    obtain rfl := Option.some.inj H
                    have hS : Sat w198 (rf w0) [] := hS.sel [] (by kernel_rfl)
                    exact At.body [.bool true] (by kernel_rfl) ⟨_, rfl, rfl, hS⟩
                  · rw [hr220] at H
                    dsimp only at H
                    obtain ⟨b222, hv221, hN224⟩ := optP.some hS hr220
                    subst hv221
                    have hS : Sat w198 (rf w0) [O49 b222 y219, pts b1 (.cells #[.slice A2_0 l2_0.length c2_0, .slice A2_1 l2_1.length c2_1] 44 (0, 0))] := hN224
                    refine WR.runk [4, 5, 6] [] [6] (L' := [(6, .bool false)]) (w' := w198) (by kernel_rfl) ?_
                    refine WR.nil ?_
                    refine At.go ?_
                    refine WC.ret (by kernel_rfl) ?_
                    refine At.thenRet ?_
                    obtain rfl := Option.some.inj H
                    have hS : Sat w198 (rf w0) [] := hS.sel [] (by kernel_rfl)
                    exact At.body [.bool false] (by kernel_rfl) ⟨_, rfl, rfl, hS⟩
                · replace H := ite_f H hb218
                  refine WR.runk [3, 4, 5, 6] [] [6] (L' := [(6, .bool false)]) (w' := w198) (by kernel_rfl) ?_
                  refine WR.nil ?_
                  refine At.go ?_
                  refine WC.ret (by kernel_rfl) ?_
                  refine At.thenRet ?_
                  obtain rfl := Option.some.inj H
                  have hS : Sat w198 (rf w0) [] := hS.sel [] (by kernel_rfl)
                  exact At.body [.bool false] (by kernel_rfl) ⟨_, rfl, rfl, hS⟩
              · replace H := ite_f H hb217
                refine WR.runk [11, 12, 13, 14] [] [0, 1, 5, 7, 8, 62] (L' := [(0, .int .i64 a0), (1, .int .i64 a1), (5, .pointer (some ⟨b1, 0, none⟩)), (7, pv200), (8, .int .i64 r191.2), (62, .bool (decide (a1 > a0)))]) (w' := w198) (by kernel_rfl) ?_
                refine WR.nil ?_
                refine At.go ?_
                refine WC.cond (by kernel_rfl) (decide (a1 > a0)) (by kernel_rfl) (by kernel_rfl) (fun hb225 => ?_) (fun hb225 => ?_)
                · replace H := ite_t H hb225
                  refine WC.seq (by kernel_rfl) ?_
                  refine WC.reg [0, 1, 2, 3, 4, 5, 6] (by kernel_rfl) (by kernel_rfl) ?_
                  refine WR.runk [0, 1, 2] [3, 4, 5, 6] [7, 65] (L' := [(7, pv200), (65, .bool (r191.2 == 2))]) (w' := w198) (by kernel_rfl) ?_
                  refine WR.split 65 (b := (r191.2 == 2)) (by kernel_rfl) (fun hb226 => ?_) (fun hb226 => ?_)
                  · replace H := ite_t H hb226
                    refine WR.runk [3] [4, 5, 6] [65, 66] (L' := [(65, .bool true), (66, pv200)]) (w' := w198) (by kernel_rfl) ?_
                    rcases hr228 : r191.1 with _ | y227
                    · rw [hr228] at H
                      dsimp only at H
                      have hv229 := optP.none hS hr228
                      subst hv229
                      have hS : Sat w198 (rf w0) [pts b1 (.cells #[.slice A2_0 l2_0.length c2_0, .slice A2_1 l2_1.length c2_1] 44 (0, 0))] := hS.sel [1] (by kernel_rfl)
                      refine WR.runk [4, 5, 6] [] [6] (L' := [(6, .bool true)]) (w' := w198) (by kernel_rfl) ?_
                      refine WR.nil ?_
                      refine At.go ?_
                      refine WC.ret (by kernel_rfl) ?_
                      refine At.thenRet ?_
                      obtain rfl := Option.some.inj H
                      have hS : Sat w198 (rf w0) [] := hS.sel [] (by kernel_rfl)
                      exact At.body [.bool true] (by kernel_rfl) ⟨_, rfl, rfl, hS⟩
                    · rw [hr228] at H
                      dsimp only at H
                      obtain ⟨b230, hv229, hN232⟩ := optP.some hS hr228
                      subst hv229
                      have hS : Sat w198 (rf w0) [O49 b230 y227, pts b1 (.cells #[.slice A2_0 l2_0.length c2_0, .slice A2_1 l2_1.length c2_1] 44 (0, 0))] := hN232
                      refine WR.runk [4, 5, 6] [] [6] (L' := [(6, .bool false)]) (w' := w198) (by kernel_rfl) ?_
                      refine WR.nil ?_
                      refine At.go ?_
                      refine WC.ret (by kernel_rfl) ?_
                      refine At.thenRet ?_
                      obtain rfl := Option.some.inj H
                      have hS : Sat w198 (rf w0) [] := hS.sel [] (by kernel_rfl)
                      exact At.body [.bool false] (by kernel_rfl) ⟨_, rfl, rfl, hS⟩
                  · replace H := ite_f H hb226
                    refine WR.runk [3, 4, 5, 6] [] [6] (L' := [(6, .bool false)]) (w' := w198) (by kernel_rfl) ?_
                    refine WR.nil ?_
                    refine At.go ?_
                    refine WC.ret (by kernel_rfl) ?_
                    refine At.thenRet ?_
                    obtain rfl := Option.some.inj H
                    have hS : Sat w198 (rf w0) [] := hS.sel [] (by kernel_rfl)
                    exact At.body [.bool false] (by kernel_rfl) ⟨_, rfl, rfl, hS⟩
                · replace H := ite_f H hb225
                  refine WC.skip (by kernel_rfl) ?_
                  refine At.go ?_
                  refine WC.seq (by kernel_rfl) ?_
                  refine WC.seq (by kernel_rfl) ?_
                  refine WC.reg [0, 1] (by kernel_rfl) (by kernel_rfl) ?_
                  refine WR.runk [0, 1] [] [0, 1, 5, 7, 8, 70] (L' := [(0, .int .i64 a0), (1, .int .i64 a1), (5, .pointer (some ⟨b1, 0, none⟩)), (7, pv200), (8, .int .i64 r191.2), (70, .bool (r191.2 != 0))]) (w' := w198) (by kernel_rfl) ?_
                  refine WR.nil ?_
                  refine At.go ?_
                  refine WC.cond (by kernel_rfl) (r191.2 != 0) (by kernel_rfl) (by kernel_rfl) (fun hb233 => ?_) (fun hb233 => ?_)
                  · replace H := ite_t H hb233
                    refine WC.seq (by kernel_rfl) ?_
                    refine WC.reg [0, 1, 2, 3, 4, 5, 6] (by kernel_rfl) (by kernel_rfl) ?_
                    refine WR.runk [0, 1, 2] [3, 4, 5, 6] [7, 73] (L' := [(7, pv200), (73, .bool (r191.2 == 10))]) (w' := w198) (by kernel_rfl) ?_
                    refine WR.split 73 (b := (r191.2 == 10)) (by kernel_rfl) (fun hb234 => ?_) (fun hb234 => ?_)
                    · replace H := ite_t H hb234
                      refine WR.runk [3] [4, 5, 6] [73, 74] (L' := [(73, .bool true), (74, pv200)]) (w' := w198) (by kernel_rfl) ?_
                      rcases hr236 : r191.1 with _ | y235
                      · rw [hr236] at H
                        dsimp only at H
                        have hv237 := optP.none hS hr236
                        subst hv237
                        have hS : Sat w198 (rf w0) [pts b1 (.cells #[.slice A2_0 l2_0.length c2_0, .slice A2_1 l2_1.length c2_1] 44 (0, 0))] := hS.sel [1] (by kernel_rfl)
                        refine WR.runk [4, 5, 6] [] [6] (L' := [(6, .bool true)]) (w' := w198) (by kernel_rfl) ?_
                        refine WR.nil ?_
                        refine At.go ?_
                        refine WC.ret (by kernel_rfl) ?_
                        refine At.thenRet ?_
                        obtain rfl := Option.some.inj H
                        have hS : Sat w198 (rf w0) [] := hS.sel [] (by kernel_rfl)
                        exact At.body [.bool true] (by kernel_rfl) ⟨_, rfl, rfl, hS⟩
                      · rw [hr236] at H
                        dsimp only at H
                        obtain ⟨b238, hv237, hN240⟩ := optP.some hS hr236
                        subst hv237
                        have hS : Sat w198 (rf w0) [O49 b238 y235, pts b1 (.cells #[.slice A2_0 l2_0.length c2_0, .slice A2_1 l2_1.length c2_1] 44 (0, 0))] := hN240
                        refine WR.runk [4, 5, 6] [] [6] (L' := [(6, .bool false)]) (w' := w198) (by kernel_rfl) ?_
                        refine WR.nil ?_
                        refine At.go ?_
                        refine WC.ret (by kernel_rfl) ?_
                        refine At.thenRet ?_
                        obtain rfl := Option.some.inj H
                        have hS : Sat w198 (rf w0) [] := hS.sel [] (by kernel_rfl)
                        exact At.body [.bool false] (by kernel_rfl) ⟨_, rfl, rfl, hS⟩
                    · replace H := ite_f H hb234
                      refine WR.runk [3, 4, 5, 6] [] [6] (L' := [(6, .bool false)]) (w' := w198) (by kernel_rfl) ?_
                      refine WR.nil ?_
                      refine At.go ?_
                      refine WC.ret (by kernel_rfl) ?_
                      refine At.thenRet ?_
                      obtain rfl := Option.some.inj H
                      have hS : Sat w198 (rf w0) [] := hS.sel [] (by kernel_rfl)
                      exact At.body [.bool false] (by kernel_rfl) ⟨_, rfl, rfl, hS⟩
                  · replace H := ite_f H hb233
                    refine WC.skip (by kernel_rfl) ?_
                    refine At.go ?_
                    refine WC.seq (by kernel_rfl) ?_
                    refine WC.reg [0] (by kernel_rfl) (by kernel_rfl) ?_
                    refine WR.runk [0] [] [0, 1, 5, 7, 9] (L' := [(0, .int .i64 a0), (1, .int .i64 a1), (5, .pointer (some ⟨b1, 0, none⟩)), (7, pv200), (9, .slice none 0 0)]) (w' := w198) (by kernel_rfl) ?_
                    refine WR.nil ?_
                    refine At.go ?_
                    refine WC.seq (by kernel_rfl) ?_
                    refine WC.seq (by kernel_rfl) ?_
                    refine WC.reg [0, 1] (by kernel_rfl) (by kernel_rfl) ?_
                    refine WR.runk [0, 1] [] [0, 1, 5, 7, 9, 77, 78] (L' := [(0, .int .i64 a0), (1, .int .i64 a1), (5, .pointer (some ⟨b1, 0, none⟩)), (7, pv200), (9, .slice none 0 0), (77, .int .i64 a1), (78, .int .i64 0)]) (w' := w198) (by kernel_rfl) ?_
                    refine WR.nil ?_
                    refine At.go ?_
                    refine WC.block (by kernel_rfl) ?_
                    obtain ⟨y241, hr242, H⟩ := bind_ex H
                    obtain ⟨b244, hv243, hN363⟩ := optP.some hS hr242
                    subst hv243
                    have hS : Sat w198 (rf w0) [O49 b244 y241, pts b1 (.cells #[.slice A2_0 l2_0.length c2_0, .slice A2_1 l2_1.length c2_1] 44 (0, 0))] := hN363
                    have hS := hS.addNil (α := Int) 3 (r0 (.int .i64)) 1
                    have hS : Sat w198 (rf w0) [osl 3 (r0 (.int .i64)) 1 none 0 ([] : List Int), O49 b244 y241, pts b1 (.cells #[.slice A2_0 l2_0.length c2_0, .slice A2_1 l2_1.length c2_1] 44 (0, 0))] := hS.sel [0, 1, 2] (by kernel_rfl)
                    obtain ⟨o263, e264, H⟩ := bind_ex H
                    refine WC.loop (by kernel_rfl) ?_
                    refine WL.weaken [0, 1, 5, 7, 9, 77, 78] (L' := [(0, .int .i64 a0), (1, .int .i64 a1), (5, .pointer (some ⟨b1, 0, none⟩)), (7, .pointer (some ⟨b244, 0, none⟩)), (9, .slice none 0 0), (77, .int .i64 a1), (78, .int .i64 0)]) (by kernel_rfl) ?_
                    refine colophonlaw03_SparseFrom.l2_ok w0 a0 a1 A2_0 c2_0 l2_0 A2_1 c2_1 l2_1 b1 y241 b244 o263 (fun A9_q265 c9_q265 w266 hS => ?_) FU ([] : List Int) 0 none 0 _ hS e264
                    refine At.hit ?_
                    refine At.go ?_
                    refine WC.seq (by kernel_rfl) ?_
                    refine WC.reg [0, 1, 2, 3, 4, 5, 6] (by kernel_rfl) (by kernel_rfl) ?_
                    refine WR.runk [0] [1, 2, 3, 4, 5, 6] [0, 1, 5, 7, 9, 89] (L' := [(0, .int .i64 a0), (1, .int .i64 a1), (5, .pointer (some ⟨b1, 0, none⟩)), (7, .pointer (some ⟨b244, 0, none⟩)), (9, .slice A9_q265 o263.length c9_q265), (89, .pointer (some ⟨b244, 0, none⟩))]) (w' := w266) (by kernel_rfl) ?_
                    obtain ⟨r268, e269, H⟩ := bind_ex H
                    refine WR.st (St.call (by kernel_rfl) (f := 17) (args := #[.pointer (some ⟨b244, 0, none⟩)]) (by kernel_rfl) (sparse_Set_Words.calls w266 (.pointer (some ⟨b244, 0, none⟩)) (some y241) (Sat.rdAny 1 hS rfl (fun _ h => O49.rd _ _ _ h)) r268 e269) ?_)
                    rintro _ w275 ⟨A277, c278, A279, c280, rfl, hS276⟩
                    have hS : Sat w275 (rf w0) [osl 43 (r0 (.int .u64)) 1 A277 c278 r268.1, osl 43 (r0 (.int .u64)) 1 A279 c280 r268.2, osl 3 (r0 (.int .i64)) 1 A9_q265 c9_q265 o263, O49 b244 y241, pts b1 (.cells #[.slice A2_0 l2_0.length c2_0, .slice A2_1 l2_1.length c2_1] 44 (0, 0))] := hS.ext hS276
                    refine WR.runk [2, 3, 4, 5, 6] [] [0, 1, 5, 7, 9, 11, 12] (L' := [(0, .int .i64 a0), (1, .int .i64 a1), (5, .pointer (some ⟨b1, 0, none⟩)), (7, .pointer (some ⟨b244, 0, none⟩)), (9, .slice A9_q265 o263.length c9_q265), (11, .slice A277 r268.1.length c278), (12, .slice A279 r268.2.length c280)]) (w' := w275) (by kernel_rfl) ?_
                    refine WR.nil ?_
                    refine At.go ?_
                    refine WC.seq (by kernel_rfl) ?_
                    refine WC.reg [0, 1, 2, 3, 4, 5, 6, 7] (by kernel_rfl) (by kernel_rfl) ?_
                    refine WR.runk [0, 1] [2, 3, 4, 5, 6, 7] [0, 1, 5, 7, 9, 11, 12, 94, 95] (L' := [(0, .int .i64 a0), (1, .int .i64 a1), (5, .pointer (some ⟨b1, 0, none⟩)), (7, .pointer (some ⟨b244, 0, none⟩)), (9, .slice A9_q265 o263.length c9_q265), (11, .slice A277 r268.1.length c278), (12, .slice A279 r268.2.length c280), (94, .int .i64 a0), (95, .slice A9_q265 o263.length c9_q265)]) (w' := w275) (by kernel_rfl) ?_
                    obtain ⟨r281, e282, H⟩ := bind_ex H
                    refine WR.st (St.call (by kernel_rfl) (f := 18) (args := #[.int .i64 a0, .slice A9_q265 o263.length c9_q265]) (by kernel_rfl) (colophonref03_Words.calls w275 a0 A9_q265 c9_q265 o263 (Sat.rdAt 2 hS rfl) r281 e282) ?_)
                    rintro _ w288 ⟨A290, c291, A292, c293, rfl, hS289⟩
                    have hS : Sat w288 (rf w0) [osl 43 (r0 (.int .u64)) 1 A290 c291 r281.1, osl 43 (r0 (.int .u64)) 1 A292 c293 r281.2, osl 43 (r0 (.int .u64)) 1 A277 c278 r268.1, osl 43 (r0 (.int .u64)) 1 A279 c280 r268.2, osl 3 (r0 (.int .i64)) 1 A9_q265 c9_q265 o263, O49 b244 y241, pts b1 (.cells #[.slice A2_0 l2_0.length c2_0, .slice A2_1 l2_1.length c2_1] 44 (0, 0))] := hS.ext hS289
                    refine WR.runk [3, 4, 5, 6, 7] [] [0, 1, 5, 7, 9, 11, 12, 13, 14] (L' := [(0, .int .i64 a0), (1, .int .i64 a1), (5, .pointer (some ⟨b1, 0, none⟩)), (7, .pointer (some ⟨b244, 0, none⟩)), (9, .slice A9_q265 o263.length c9_q265), (11, .slice A277 r268.1.length c278), (12, .slice A279 r268.2.length c280), (13, .slice A290 r281.1.length c291), (14, .slice A292 r281.2.length c293)]) (w' := w288) (by kernel_rfl) ?_
                    refine WR.nil ?_
                    refine At.go ?_
                    refine WC.seq (by kernel_rfl) ?_
                    refine WC.reg [0, 1, 2, 3, 4, 5, 6, 7, 8, 9, 10, 11, 12, 13, 14, 15, 16, 17, 18, 19, 20, 21, 22, 23, 24, 25, 26, 27, 28, 29, 30, 31, 32, 33, 34, 35, 36, 37] (by kernel_rfl) (by kernel_rfl) ?_
                    refine WR.runk [0] [1, 2, 3, 4, 5, 6, 7, 8, 9, 10, 11, 12, 13, 14, 15, 16, 17, 18, 19, 20, 21, 22, 23, 24, 25, 26, 27, 28, 29, 30, 31, 32, 33, 34, 35, 36, 37] [0, 1, 5, 7, 9, 11, 12, 13, 14, 99] (L' := [(0, .int .i64 a0), (1, .int .i64 a1), (5, .pointer (some ⟨b1, 0, none⟩)), (7, .pointer (some ⟨b244, 0, none⟩)), (9, .slice A9_q265 o263.length c9_q265), (11, .slice A277 r268.1.length c278), (12, .slice A279 r268.2.length c280), (13, .slice A290 r281.1.length c291), (14, .slice A292 r281.2.length c293), (99, .pointer (some ⟨b244, 0, none⟩))]) (w' := w288) (by kernel_rfl) ?_
                    obtain ⟨r294, e295, H⟩ := bind_ex H
                    refine WR.st (St.call (by kernel_rfl) (f := 15) (args := #[.pointer (some ⟨b244, 0, none⟩)]) (by kernel_rfl) (sparse_Set_Len.calls w288 (.pointer (some ⟨b244, 0, none⟩)) (some y241) (Sat.rdAny 5 hS rfl (fun _ h => O49.rd _ _ _ h)) r294 e295) ?_)
                    rintro _ w301 ⟨rfl, hS302⟩
                    have hS : Sat w301 (rf w0) [osl 43 (r0 (.int .u64)) 1 A290 c291 r281.1, osl 43 (r0 (.int .u64)) 1 A292 c293 r281.2, osl 43 (r0 (.int .u64)) 1 A277 c278 r268.1, osl 43 (r0 (.int .u64)) 1 A279 c280 r268.2, osl 3 (r0 (.int .i64)) 1 A9_q265 c9_q265 o263, O49 b244 y241, pts b1 (.cells #[.slice A2_0 l2_0.length c2_0, .slice A2_1 l2_1.length c2_1] 44 (0, 0))] := hS.ext hS302
                    refine WR.runk [2, 3, 4] [5, 6, 7, 8, 9, 10, 11, 12, 13, 14, 15, 16, 17, 18, 19, 20, 21, 22, 23, 24, 25, 26, 27, 28, 29, 30, 31, 32, 33, 34, 35, 36, 37] [0, 5, 7, 9, 11, 12, 13, 14, 103] (L' := [(0, .int .i64 a0), (5, .pointer (some ⟨b1, 0, none⟩)), (7, .pointer (some ⟨b244, 0, none⟩)), (9, .slice A9_q265 o263.length c9_q265), (11, .slice A277 r268.1.length c278), (12, .slice A279 r268.2.length c280), (13, .slice A290 r281.1.length c291), (14, .slice A292 r281.2.length c293), (103, .bool (r294 == a1))]) (w' := w301) (by kernel_rfl) ?_
                    refine WR.split 103 (b := (r294 == a1)) (by kernel_rfl) (fun hb303 => ?_) (fun hb303 => ?_)
                    · replace H := ite_t H hb303
                      refine WR.runk [5] [6, 7, 8, 9, 10, 11, 12, 13, 14, 15, 16, 17, 18, 19, 20, 21, 22, 23, 24, 25, 26, 27, 28, 29, 30, 31, 32, 33, 34, 35, 36, 37] [0, 5, 9, 11, 12, 13, 14, 103, 104] (L' := [(0, .int .i64 a0), (5, .pointer (some ⟨b1, 0, none⟩)), (9, .slice A9_q265 o263.length c9_q265), (11, .slice A277 r268.1.length c278), (12, .slice A279 r268.2.length c280), (13, .slice A290 r281.1.length c291), (14, .slice A292 r281.2.length c293), (103, .bool true), (104, .pointer (some ⟨b244, 0, none⟩))]) (w' := w301) (by kernel_rfl) ?_
                      obtain ⟨r304, e305, H⟩ := bind_ex H
                      refine WR.st (St.call (by kernel_rfl) (f := 11) (args := #[.pointer (some ⟨b244, 0, none⟩)]) (by kernel_rfl) (sparse_Set_Bound.calls w301 (.pointer (some ⟨b244, 0, none⟩)) (some y241) (Sat.rdAny 5 hS rfl (fun _ h => O49.rd _ _ _ h)) r304 e305) ?_)
                      rintro _ w311 ⟨rfl, hS312⟩
                      have hS : Sat w311 (rf w0) [osl 43 (r0 (.int .u64)) 1 A290 c291 r281.1, osl 43 (r0 (.int .u64)) 1 A292 c293 r281.2, osl 43 (r0 (.int .u64)) 1 A277 c278 r268.1, osl 43 (r0 (.int .u64)) 1 A279 c280 r268.2, osl 3 (r0 (.int .i64)) 1 A9_q265 c9_q265 o263, O49 b244 y241, pts b1 (.cells #[.slice A2_0 l2_0.length c2_0, .slice A2_1 l2_1.length c2_1] 44 (0, 0))] := hS.ext hS312
                      refine WR.runk [7, 8, 9, 10] [11, 12, 13, 14, 15, 16, 17, 18, 19, 20, 21, 22, 23, 24, 25, 26, 27, 28, 29, 30, 31, 32, 33, 34, 35, 36, 37] [0, 5, 9, 11, 12, 13, 14, 109] (L' := [(0, .int .i64 a0), (5, .pointer (some ⟨b1, 0, none⟩)), (9, .slice A9_q265 o263.length c9_q265), (11, .slice A277 r268.1.length c278), (12, .slice A279 r268.2.length c280), (13, .slice A290 r281.1.length c291), (14, .slice A292 r281.2.length c293), (109, .bool (r304 == a0))]) (w' := w311) (by kernel_rfl) ?_
                      refine WR.split 109 (b := (r304 == a0)) (by kernel_rfl) (fun hb313 => ?_) (fun hb313 => ?_)
                      · replace H := ite_t H hb313
                        refine WR.runk [11, 12] [13, 14, 15, 16, 17, 18, 19, 20, 21, 22, 23, 24, 25, 26, 27, 28, 29, 30, 31, 32, 33, 34, 35, 36, 37] [5, 11, 12, 13, 14, 109, 110, 111] (L' := [(5, .pointer (some ⟨b1, 0, none⟩)), (11, .slice A277 r268.1.length c278), (12, .slice A279 r268.2.length c280), (13, .slice A290 r281.1.length c291), (14, .slice A292 r281.2.length c293), (109, .bool true), (110, .int .i64 a0), (111, .slice A9_q265 o263.length c9_q265)]) (w' := w311) (by kernel_rfl) ?_
                        obtain ⟨r314, e315, H⟩ := bind_ex H
                        refine WR.st (St.call (by kernel_rfl) (f := 9) (args := #[.int .i64 a0, .slice A9_q265 o263.length c9_q265]) (by kernel_rfl) (colophonref03_Right.calls w311 a0 A9_q265 c9_q265 o263 (Sat.rdAt 4 hS rfl) r314 e315) ?_)
                        rintro _ w321 ⟨rfl, hS322⟩
                        have hS : Sat w321 (rf w0) [osl 43 (r0 (.int .u64)) 1 A290 c291 r281.1, osl 43 (r0 (.int .u64)) 1 A292 c293 r281.2, osl 43 (r0 (.int .u64)) 1 A277 c278 r268.1, osl 43 (r0 (.int .u64)) 1 A279 c280 r268.2, osl 3 (r0 (.int .i64)) 1 A9_q265 c9_q265 o263, O49 b244 y241, pts b1 (.cells #[.slice A2_0 l2_0.length c2_0, .slice A2_1 l2_1.length c2_1] 44 (0, 0))] := hS.ext hS322
                        refine WR.runk [14, 15] [16, 17, 18, 19, 20, 21, 22, 23, 24, 25, 26, 27, 28, 29, 30, 31, 32, 33, 34, 35, 36, 37] [5, 11, 12, 13, 14, 114] (L' := [(5, .pointer (some ⟨b1, 0, none⟩)), (11, .slice A277 r268.1.length c278), (12, .slice A279 r268.2.length c280), (13, .slice A290 r281.1.length c291), (14, .slice A292 r281.2.length c293), (114, .bool r314)]) (w' := w321) (by kernel_rfl) ?_
                        refine WR.split 114 (b := r314) (by kernel_rfl) (fun hb323 => ?_) (fun hb323 => ?_)
                        · replace H := ite_t H hb323
                          refine WR.runk [16, 17] [18, 19, 20, 21, 22, 23, 24, 25, 26, 27, 28, 29, 30, 31, 32, 33, 34, 35, 36, 37] [5, 11, 12, 13, 14, 114, 115, 116] (L' := [(5, .pointer (some ⟨b1, 0, none⟩)), (11, .slice A277 r268.1.length c278), (12, .slice A279 r268.2.length c280), (13, .slice A290 r281.1.length c291), (14, .slice A292 r281.2.length c293), (114, .bool true), (115, .slice A277 r268.1.length c278), (116, .pointer (some ⟨b1, 0, none⟩))]) (w' := w321) (by kernel_rfl) ?_
                          refine WR.st (St.ofR (RSt.loadObj (t := 35) (k := 0) (v := .slice A2_0 l2_0.length c2_0) (.tmp 116) (by kernel_rfl) (by kernel_rfl) (by kernel_rfl) 6 hS rfl (by kernel_rfl) rfl ?_))
                          refine WR.runk [] [19, 20, 21, 22, 23, 24, 25, 26, 27, 28, 29, 30, 31, 32, 33, 34, 35, 36, 37] [5, 11, 12, 13, 14, 114, 115, 117] (L' := [(5, .pointer (some ⟨b1, 0, none⟩)), (11, .slice A277 r268.1.length c278), (12, .slice A279 r268.2.length c280), (13, .slice A290 r281.1.length c291), (14, .slice A292 r281.2.length c293), (114, .bool true), (115, .slice A277 r268.1.length c278), (117, .slice A2_0 l2_0.length c2_0)]) (w' := w321) (by kernel_rfl) ?_
                          obtain ⟨r324, e325, H⟩ := bind_ex H
                          refine WR.st (St.call (by kernel_rfl) (f := 19) (args := #[.slice A277 r268.1.length c278, .slice A2_0 l2_0.length c2_0]) (by kernel_rfl) (colophonref01_Same.calls w321 A277 c278 r268.1 (Sat.rdAt 2 hS rfl) A2_0 c2_0 l2_0 (rdS.up R2_0 hS.sub0) r324 e325) ?_)
                          rintro _ w331 ⟨rfl, hS332⟩
                          have hS : Sat w331 (rf w0) [osl 43 (r0 (.int .u64)) 1 A290 c291 r281.1, osl 43 (r0 (.int .u64)) 1 A292 c293 r281.2, osl 43 (r0 (.int .u64)) 1 A277 c278 r268.1, osl 43 (r0 (.int .u64)) 1 A279 c280 r268.2, osl 3 (r0 (.int .i64)) 1 A9_q265 c9_q265 o263, O49 b244 y241, pts b1 (.cells #[.slice A2_0 l2_0.length c2_0, .slice A2_1 l2_1.length c2_1] 44 (0, 0))] := hS.ext hS332
                          refine WR.runk [20, 21] [22, 23, 24, 25, 26, 27, 28, 29, 30, 31, 32, 33, 34, 35, 36, 37] [5, 11, 12, 13, 14, 120] (L' := [(5, .pointer (some ⟨b1, 0, none⟩)), (11, .slice A277 r268.1.length c278), (12, .slice A279 r268.2.length c280), (13, .slice A290 r281.1.length c291), (14, .slice A292 r281.2.length c293), (120, .bool r324)]) (w' := w331) (by kernel_rfl) ?_
                          refine WR.split 120 (b := r324) (by kernel_rfl) (fun hb333 => ?_) (fun hb333 => ?_)
                          · replace H := ite_t H hb333
                            refine WR.runk [22, 23] [24, 25, 26, 27, 28, 29, 30, 31, 32, 33, 34, 35, 36, 37] [11, 12, 13, 14, 120, 121, 122] (L' := [(11, .slice A277 r268.1.length c278), (12, .slice A279 r268.2.length c280), (13, .slice A290 r281.1.length c291), (14, .slice A292 r281.2.length c293), (120, .bool true), (121, .slice A279 r268.2.length c280), (122, .pointer (some ⟨b1, 1, none⟩))]) (w' := w331) (by kernel_rfl) ?_
                            refine WR.st (St.ofR (RSt.loadObj (t := 35) (k := 1) (v := .slice A2_1 l2_1.length c2_1) (.tmp 122) (by kernel_rfl) (by kernel_rfl) (by kernel_rfl) 6 hS rfl (by kernel_rfl) rfl ?_))
                            refine WR.runk [] [25, 26, 27, 28, 29, 30, 31, 32, 33, 34, 35, 36, 37] [11, 12, 13, 14, 120, 121, 123] (L' := [(11, .slice A277 r268.1.length c278), (12, .slice A279 r268.2.length c280), (13, .slice A290 r281.1.length c291), (14, .slice A292 r281.2.length c293), (120, .bool true), (121, .slice A279 r268.2.length c280), (123, .slice A2_1 l2_1.length c2_1)]) (w' := w331) (by kernel_rfl) ?_
                            obtain ⟨r334, e335, H⟩ := bind_ex H
                            refine WR.st (St.call (by kernel_rfl) (f := 19) (args := #[.slice A279 r268.2.length c280, .slice A2_1 l2_1.length c2_1]) (by kernel_rfl) (colophonref01_Same.calls w331 A279 c280 r268.2 (Sat.rdAt 3 hS rfl) A2_1 c2_1 l2_1 (rdS.up R2_1 hS.sub0) r334 e335) ?_)
                            rintro _ w341 ⟨rfl, hS342⟩
                            have hS : Sat w341 (rf w0) [osl 43 (r0 (.int .u64)) 1 A290 c291 r281.1, osl 43 (r0 (.int .u64)) 1 A292 c293 r281.2, osl 43 (r0 (.int .u64)) 1 A277 c278 r268.1, osl 43 (r0 (.int .u64)) 1 A279 c280 r268.2, osl 3 (r0 (.int .i64)) 1 A9_q265 c9_q265 o263, O49 b244 y241, pts b1 (.cells #[.slice A2_0 l2_0.length c2_0, .slice A2_1 l2_1.length c2_1] 44 (0, 0))] := hS.ext hS342
                            refine WR.runk [26, 27] [28, 29, 30, 31, 32, 33, 34, 35, 36, 37] [11, 12, 13, 14, 126] (L' := [(11, .slice A277 r268.1.length c278), (12, .slice A279 r268.2.length c280), (13, .slice A290 r281.1.length c291), (14, .slice A292 r281.2.length c293), (126, .bool r334)]) (w' := w341) (by kernel_rfl) ?_
                            refine WR.split 126 (b := r334) (by kernel_rfl) (fun hb343 => ?_) (fun hb343 => ?_)
                            · replace H := ite_t H hb343
                              refine WR.runk [28, 29] [30, 31, 32, 33, 34, 35, 36, 37] [12, 14, 126, 127, 128] (L' := [(12, .slice A279 r268.2.length c280), (14, .slice A292 r281.2.length c293), (126, .bool true), (127, .slice A277 r268.1.length c278), (128, .slice A290 r281.1.length c291)]) (w' := w341) (by kernel_rfl) ?_
                              obtain ⟨r344, e345, H⟩ := bind_ex H
                              refine WR.st (St.call (by kernel_rfl) (f := 19) (args := #[.slice A277 r268.1.length c278, .slice A290 r281.1.length c291]) (by kernel_rfl) (colophonref01_Same.calls w341 A277 c278 r268.1 (Sat.rdAt 2 hS rfl) A290 c291 r281.1 (Sat.rdAt 0 hS rfl) r344 e345) ?_)
                              rintro _ w351 ⟨rfl, hS352⟩
                              have hS : Sat w351 (rf w0) [osl 43 (r0 (.int .u64)) 1 A290 c291 r281.1, osl 43 (r0 (.int .u64)) 1 A292 c293 r281.2, osl 43 (r0 (.int .u64)) 1 A277 c278 r268.1, osl 43 (r0 (.int .u64)) 1 A279 c280 r268.2, osl 3 (r0 (.int .i64)) 1 A9_q265 c9_q265 o263, O49 b244 y241, pts b1 (.cells #[.slice A2_0 l2_0.length c2_0, .slice A2_1 l2_1.length c2_1] 44 (0, 0))] := hS.ext hS352
                              refine WR.runk [31, 32] [33, 34, 35, 36, 37] [12, 14, 131] (L' := [(12, .slice A279 r268.2.length c280), (14, .slice A292 r281.2.length c293), (131, .bool r344)]) (w' := w351) (by kernel_rfl) ?_
                              refine WR.split 131 (b := r344) (by kernel_rfl) (fun hb353 => ?_) (fun hb353 => ?_)
                              · replace H := ite_t H hb353
                                refine WR.runk [33, 34] [35, 36, 37] [131, 132, 133] (L' := [(131, .bool true), (132, .slice A279 r268.2.length c280), (133, .slice A292 r281.2.length c293)]) (w' := w351) (by kernel_rfl) ?_
                                obtain ⟨r354, e355, H⟩ := bind_ex H
                                refine WR.st (St.call (by kernel_rfl) (f := 19) (args := #[.slice A279 r268.2.length c280, .slice A292 r281.2.length c293]) (by kernel_rfl) (colophonref01_Same.calls w351 A279 c280 r268.2 (Sat.rdAt 3 hS rfl) A292 c293 r281.2 (Sat.rdAt 1 hS rfl) r354 e355) ?_)
                                rintro _ w361 ⟨rfl, hS362⟩
                                have hS : Sat w361 (rf w0) [osl 43 (r0 (.int .u64)) 1 A290 c291 r281.1, osl 43 (r0 (.int .u64)) 1 A292 c293 r281.2, osl 43 (r0 (.int .u64)) 1 A277 c278 r268.1, osl 43 (r0 (.int .u64)) 1 A279 c280 r268.2, osl 3 (r0 (.int .i64)) 1 A9_q265 c9_q265 o263, O49 b244 y241, pts b1 (.cells #[.slice A2_0 l2_0.length c2_0, .slice A2_1 l2_1.length c2_1] 44 (0, 0))] := hS.ext hS362
                                refine WR.runk [36, 37] [] [6] (L' := [(6, .bool r354)]) (w' := w361) (by kernel_rfl) ?_
                                refine WR.nil ?_
                                refine At.go ?_
                                refine WC.ret (by kernel_rfl) ?_
                                obtain rfl := Option.some.inj H
                                have hS : Sat w361 (rf w0) [] := hS.sel [] (by kernel_rfl)
                                exact At.body [.bool r354] (by kernel_rfl) ⟨_, rfl, rfl, hS⟩
                              · replace H := ite_f H hb353
                                refine WR.runk [33, 34, 35, 36, 37] [] [6] (L' := [(6, .bool false)]) (w' := w351) (by kernel_rfl) ?_
                                refine WR.nil ?_
                                refine At.go ?_
                                refine WC.ret (by kernel_rfl) ?_
                                obtain rfl := Option.some.inj H
                                have hS : Sat w351 (rf w0) [] := hS.sel [] (by kernel_rfl)
                                exact At.body [.bool false] (by kernel_rfl) ⟨_, rfl, rfl, hS⟩
                            · replace H := ite_f H hb343
                              refine WR.runk [28, 29, 30, 31, 32, 33, 34, 35, 36, 37] [] [6] (L' := [(6, .bool false)]) (w' := w341) (by kernel_rfl) ?_
                              refine WR.nil ?_
                              refine At.go ?_
                              refine WC.ret (by kernel_rfl) ?_
                              obtain rfl := Option.some.inj H
                              have hS : Sat w341 (rf w0) [] := hS.sel [] (by kernel_rfl)
                              exact At.body [.bool false] (by kernel_rfl) ⟨_, rfl, rfl, hS⟩
                          · replace H := ite_f H hb333
                            refine WR.runk [22, 23, 24, 25, 26, 27, 28, 29, 30, 31, 32, 33, 34, 35, 36, 37] [] [6] (L' := [(6, .bool false)]) (w' := w331) (by kernel_rfl) ?_
                            refine WR.nil ?_
                            refine At.go ?_
                            refine WC.ret (by kernel_rfl) ?_
                            obtain rfl := Option.some.inj H
                            have hS : Sat w331 (rf w0) [] := hS.sel [] (by kernel_rfl)
                            exact At.body [.bool false] (by kernel_rfl) ⟨_, rfl, rfl, hS⟩
                        · replace H := ite_f H hb323
                          refine WR.runk [16, 17, 18, 19, 20, 21, 22, 23, 24, 25, 26, 27, 28, 29, 30, 31, 32, 33, 34, 35, 36, 37] [] [6] (L' := [(6, .bool false)]) (w' := w321) (by kernel_rfl) ?_
                          refine WR.nil ?_
                          refine At.go ?_
                          refine WC.ret (by kernel_rfl) ?_
                          obtain rfl := Option.some.inj H
                          have hS : Sat w321 (rf w0) [] := hS.sel [] (by kernel_rfl)
                          exact At.body [.bool false] (by kernel_rfl) ⟨_, rfl, rfl, hS⟩
                      · replace H := ite_f H hb313
                        refine WR.runk [11, 12, 13, 14, 15, 16, 17, 18, 19, 20, 21, 22, 23, 24, 25, 26, 27, 28, 29, 30, 31, 32, 33, 34, 35, 36, 37] [] [6] (L' := [(6, .bool false)]) (w' := w311) (by kernel_rfl) ?_
                        refine WR.nil ?_
                        refine At.go ?_
                        refine WC.ret (by kernel_rfl) ?_
                        obtain rfl := Option.some.inj H
                        have hS : Sat w311 (rf w0) [] := hS.sel [] (by kernel_rfl)
                        exact At.body [.bool false] (by kernel_rfl) ⟨_, rfl, rfl, hS⟩
                    · replace H := ite_f H hb303
                      refine WR.runk [5, 6, 7, 8, 9, 10, 11, 12, 13, 14, 15, 16, 17, 18, 19, 20, 21, 22, 23, 24, 25, 26, 27, 28, 29, 30, 31, 32, 33, 34, 35, 36, 37] [] [6] (L' := [(6, .bool false)]) (w' := w301) (by kernel_rfl) ?_
                      refine WR.nil ?_
                      refine At.go ?_
                      refine WC.ret (by kernel_rfl) ?_
                      obtain rfl := Option.some.inj H
                      have hS : Sat w301 (rf w0) [] := hS.sel [] (by kernel_rfl)
                      exact At.body [.bool false] (by kernel_rfl) ⟨_, rfl, rfl, hS⟩
      · replace H := ite_f H hb15
        refine WR.runk [12, 13, 14, 15, 16, 17, 18, 19, 20] [] [0, 1, 5, 37] (L' := [(0, .int .i64 a0), (1, .int .i64 a1), (5, .pointer (some ⟨b1, 0, none⟩)), (37, .bool false)]) (w' := w11) (by kernel_rfl) ?_
        refine WR.nil ?_
        refine At.go ?_
        refine WC.condF (by kernel_rfl) (by kernel_rfl) (by kernel_rfl) ?_
        refine WC.skip (by kernel_rfl) ?_
        refine At.go ?_
        refine WC.seq (by kernel_rfl) ?_
        refine WC.reg [0, 1, 2, 3, 4, 5, 6, 7, 8, 9, 10, 11] (by kernel_rfl) (by kernel_rfl) ?_
        refine WR.runk [0, 1, 2] [3, 4, 5, 6, 7, 8, 9, 10, 11] [0, 1, 5, 39, 40, 41] (L' := [(0, .int .i64 a0), (1, .int .i64 a1), (5, .pointer (some ⟨b1, 0, none⟩)), (39, .int .i64 a0), (40, .int .i64 a1), (41, .pointer (some ⟨b1, 0, none⟩))]) (w' := w11) (by kernel_rfl) ?_
        refine WR.st (St.ofR (RSt.loadObj (t := 35) (k := 0) (v := .slice A2_0 l2_0.length c2_0) (.tmp 41) (by kernel_rfl) (by kernel_rfl) (by kernel_rfl) 0 hS rfl (by kernel_rfl) rfl ?_))
        refine WR.runk [4] [5, 6, 7, 8, 9, 10, 11] [0, 1, 5, 39, 40, 42, 43] (L' := [(0, .int .i64 a0), (1, .int .i64 a1), (5, .pointer (some ⟨b1, 0, none⟩)), (39, .int .i64 a0), (40, .int .i64 a1), (42, .slice A2_0 l2_0.length c2_0), (43, .pointer (some ⟨b1, 1, none⟩))]) (w' := w11) (by kernel_rfl) ?_
        refine WR.st (St.ofR (RSt.loadObj (t := 35) (k := 1) (v := .slice A2_1 l2_1.length c2_1) (.tmp 43) (by kernel_rfl) (by kernel_rfl) (by kernel_rfl) 0 hS rfl (by kernel_rfl) rfl ?_))
        refine WR.runk [] [6, 7, 8, 9, 10, 11] [0, 1, 5, 39, 40, 42, 44] (L' := [(0, .int .i64 a0), (1, .int .i64 a1), (5, .pointer (some ⟨b1, 0, none⟩)), (39, .int .i64 a0), (40, .int .i64 a1), (42, .slice A2_0 l2_0.length c2_0), (44, .slice A2_1 l2_1.length c2_1)]) (w' := w11) (by kernel_rfl) ?_
        obtain ⟨r364, e365, H⟩ := bind_ex H
        refine WR.st (St.call (by kernel_rfl) (f := 20) (args := #[.int .i64 a0, .int .i64 a1, .slice A2_0 l2_0.length c2_0, .slice A2_1 l2_1.length c2_1]) (by kernel_rfl) (sparse_From.calls w11 a0 a1 A2_0 c2_0 l2_0 (rdS.up R2_0 hS.sub0) A2_1 c2_1 l2_1 (rdS.up R2_1 hS.sub0) r364 e365) ?_)
        rintro _ w371 ⟨pv373, rfl, hS372⟩
        have hS : Sat w371 (rf w0) [optP O49 pv373 r364.1, pts b1 (.cells #[.slice A2_0 l2_0.length c2_0, .slice A2_1 l2_1.length c2_1] 44 (0, 0))] := hS.ext hS372
        refine WR.runk [7, 8, 9, 10, 11] [] [0, 1, 5, 7, 8] (L' := [(0, .int .i64 a0), (1, .int .i64 a1), (5, .pointer (some ⟨b1, 0, none⟩)), (7, pv373), (8, .int .i64 r364.2)]) (w' := w371) (by kernel_rfl) ?_
        refine WR.nil ?_
        refine At.go ?_
        refine WC.seq (by kernel_rfl) ?_
        refine WC.seq (by kernel_rfl) ?_
        refine WC.reg [0, 1, 2, 3, 4, 5, 6, 7, 8, 9, 10, 11, 12, 13, 14] (by kernel_rfl) (by kernel_rfl) ?_
        refine WR.runk [0, 1, 2] [3, 4, 5, 6, 7, 8, 9, 10, 11, 12, 13, 14] [0, 1, 5, 7, 8, 50] (L' := [(0, .int .i64 a0), (1, .int .i64 a1), (5, .pointer (some ⟨b1, 0, none⟩)), (7, pv373), (8, .int .i64 r364.2), (50, .bool (decide (a0 < 0)))]) (w' := w371) (by kernel_rfl) ?_
        refine WR.split 50 (b := decide (a0 < 0)) (by kernel_rfl) (fun hb374 => ?_) (fun hb374 => ?_)
        · replace H := ite_t H hb374
          refine WR.runk [3, 4, 5, 6, 7, 8, 9, 10, 11, 12, 13, 14] [] [0, 1, 5, 7, 8, 62] (L' := [(0, .int .i64 a0), (1, .int .i64 a1), (5, .pointer (some ⟨b1, 0, none⟩)), (7, pv373), (8, .int .i64 r364.2), (62, .bool true)]) (w' := w371) (by kernel_rfl) ?_
          refine WR.nil ?_
          refine At.go ?_
          refine WC.condT (by kernel_rfl) (by kernel_rfl) (by kernel_rfl) ?_
          refine WC.seq (by kernel_rfl) ?_
          refine WC.reg [0, 1, 2, 3, 4, 5, 6] (by kernel_rfl) (by kernel_rfl) ?_
          refine WR.runk [0, 1, 2] [3, 4, 5, 6] [7, 65] (L' := [(7, pv373), (65, .bool (r364.2 == 2))]) (w' := w371) (by kernel_rfl) ?_
          refine WR.split 65 (b := (r364.2 == 2)) (by kernel_rfl) (fun hb375 => ?_) (fun hb375 => ?_)
          · replace H := ite_t H hb375
            refine WR.runk [3] [4, 5, 6] [65, 66] (L' := [(65, .bool true), (66, pv373)]) (w' := w371) (by kernel_rfl) ?_
            rcases hr377 : r364.1 with _ | y376
            · rw [hr377] at H
              dsimp only at H
              have hv378 := optP.none hS hr377
              subst hv378
              have hS : Sat w371 (rf w0) [pts b1 (.cells #[.slice A2_0 l2_0.length c2_0, .slice A2_1 l2_1.length c2_1] 44 (0, 0))] := hS.sel [1] (by kernel_rfl)
              refine WR.runk [4, 5, 6] [] [6] (L' := [(6, .bool true)]) (w' := w371) (by kernel_rfl) ?_
              refine WR.nil ?_
              refine At.go ?_
              refine WC.ret (by kernel_rfl) ?_
              refine At.thenRet ?_
              obtain rfl := Option.some.inj H
              have hS : Sat w371 (rf w0) [] := hS.sel [] (by kernel_rfl)
              exact At.body [.bool true] (by kernel_rfl) ⟨_, rfl, rfl, hS⟩
            · rw [hr377] at H
              dsimp only at H
              obtain ⟨b379, hv378, hN381⟩ := optP.some hS hr377
              subst hv378
              have hS : Sat w371 (rf w0) [O49 b379 y376, pts b1 (.cells #[.slice A2_0 l2_0.length c2_0, .slice A2_1 l2_1.length c2_1] 44 (0, 0))] := hN381
              refine WR.runk [4, 5, 6] [] [6] (L' := [(6, .bool false)]) (w' := w371) (by kernel_rfl) ?_
              refine WR.nil ?_
              refine At.go ?_
              refine WC.ret (by kernel_rfl) ?_
              refine At.thenRet ?_
              obtain rfl := Option.some.inj H
              have hS : Sat w371 (rf w0) [] := hS.sel [] (by kernel_rfl)
              exact At.body [.bool false] (by kernel_rfl) ⟨_, rfl, rfl, hS⟩
          · replace H := ite_f H hb375
            refine WR.runk [3, 4, 5, 6] [] [6] (L' := [(6, .bool false)]) (w' := w371) (by kernel_rfl) ?_
            refine WR.nil ?_
            refine At.go ?_
            refine WC.ret (by kernel_rfl) ?_
            refine At.thenRet ?_
            obtain rfl := Option.some.inj H
            have hS : Sat w371 (rf w0) [] := hS.sel [] (by kernel_rfl)
            exact At.body [.bool false] (by kernel_rfl) ⟨_, rfl, rfl, hS⟩
        · replace H := ite_f H hb374
          refine WR.runk [3, 4, 5, 6] [7, 8, 9, 10, 11, 12, 13, 14] [0, 1, 5, 7, 8, 54] (L' := [(0, .int .i64 a0), (1, .int .i64 a1), (5, .pointer (some ⟨b1, 0, none⟩)), (7, pv373), (8, .int .i64 r364.2), (54, .bool (decide (a0 > 4194304)))]) (w' := w371) (by kernel_rfl) ?_
          refine WR.split 54 (b := decide (a0 > 4194304)) (by kernel_rfl) (fun hb382 => ?_) (fun hb382 => ?_)
          · replace H := ite_t H hb382
            refine WR.runk [7, 8, 9, 10, 11, 12, 13, 14] [] [0, 1, 5, 7, 8, 62] (L' := [(0, .int .i64 a0), (1, .int .i64 a1), (5, .pointer (some ⟨b1, 0, none⟩)), (7, pv373), (8, .int .i64 r364.2), (62, .bool true)]) (w' := w371) (by kernel_rfl) ?_
            refine WR.nil ?_
            refine At.go ?_
            refine WC.condT (by kernel_rfl) (by kernel_rfl) (by kernel_rfl) ?_
            refine WC.seq (by kernel_rfl) ?_
            refine WC.reg [0, 1, 2, 3, 4, 5, 6] (by kernel_rfl) (by kernel_rfl) ?_
            refine WR.runk [0, 1, 2] [3, 4, 5, 6] [7, 65] (L' := [(7, pv373), (65, .bool (r364.2 == 2))]) (w' := w371) (by kernel_rfl) ?_
            refine WR.split 65 (b := (r364.2 == 2)) (by kernel_rfl) (fun hb383 => ?_) (fun hb383 => ?_)
            · replace H := ite_t H hb383
              refine WR.runk [3] [4, 5, 6] [65, 66] (L' := [(65, .bool true), (66, pv373)]) (w' := w371) (by kernel_rfl) ?_
              rcases hr385 : r364.1 with _ | y384
              · rw [hr385] at H
                dsimp only at H
                have hv386 := optP.none hS hr385
                subst hv386
                have hS : Sat w371 (rf w0) [pts b1 (.cells #[.slice A2_0 l2_0.length c2_0, .slice A2_1 l2_1.length c2_1] 44 (0, 0))] := hS.sel [1] (by kernel_rfl)
                refine WR.runk [4, 5, 6] [] [6] (L' := [(6, .bool true)]) (w' := w371) (by kernel_rfl) ?_
                refine WR.nil ?_
                refine At.go ?_
                refine WC.ret (by kernel_rfl) ?_
                refine At.thenRet ?_
                obtain rfl := Option.some.inj H
                have hS : Sat w371 (rf w0) [] := hS.sel [] (by kernel_rfl)
                exact At.body [.bool true] (by kernel_rfl) ⟨_, rfl, rfl, hS⟩
              · rw [hr385] at H
                dsimp only at H
                obtain ⟨b387, hv386, hN389⟩ := optP.some hS hr385
                subst hv386
                have hS : Sat w371 (rf w0) [O49 b387 y384, pts b1 (.cells #[.slice A2_0 l2_0.length c2_0, .slice A2_1 l2_1.length c2_1] 44 (0, 0))] := hN389
                refine WR.runk [4, 5, 6] [] [6] (L' := [(6, .bool false)]) (w' := w371) (by kernel_rfl) ?_
                refine WR.nil ?_
                refine At.go ?_
                refine WC.ret (by kernel_rfl) ?_
                refine At.thenRet ?_
                obtain rfl := Option.some.inj H
                have hS : Sat w371 (rf w0) [] := hS.sel [] (by kernel_rfl)
                exact At.body [.bool false] (by kernel_rfl) ⟨_, rfl, rfl, hS⟩
            · replace H := ite_f H hb383
              refine WR.runk [3, 4, 5, 6] [] [6] (L' := [(6, .bool false)]) (w' := w371) (by kernel_rfl) ?_
              refine WR.nil ?_
              refine At.go ?_
              refine WC.ret (by kernel_rfl) ?_
              refine At.thenRet ?_
              obtain rfl := Option.some.inj H
              have hS : Sat w371 (rf w0) [] := hS.sel [] (by kernel_rfl)
              exact At.body [.bool false] (by kernel_rfl) ⟨_, rfl, rfl, hS⟩
          · replace H := ite_f H hb382
            refine WR.runk [7, 8, 9, 10] [11, 12, 13, 14] [0, 1, 5, 7, 8, 58] (L' := [(0, .int .i64 a0), (1, .int .i64 a1), (5, .pointer (some ⟨b1, 0, none⟩)), (7, pv373), (8, .int .i64 r364.2), (58, .bool (decide (a1 < 0)))]) (w' := w371) (by kernel_rfl) ?_
            refine WR.split 58 (b := decide (a1 < 0)) (by kernel_rfl) (fun hb390 => ?_) (fun hb390 => ?_)
            · replace H := ite_t H hb390
              refine WR.runk [11, 12, 13, 14] [] [0, 1, 5, 7, 8, 62] (L' := [(0, .int .i64 a0), (1, .int .i64 a1), (5, .pointer (some ⟨b1, 0, none⟩)), (7, pv373), (8, .int .i64 r364.2), (62, .bool true)]) (w' := w371) (by kernel_rfl) ?_
              refine WR.nil ?_
              refine At.go ?_
              refine WC.condT (by kernel_rfl) (by kernel_rfl) (by kernel_rfl) ?_
              refine WC.seq (by kernel_rfl) ?_
              refine WC.reg [0, 1, 2, 3, 4, 5, 6] (by kernel_rfl) (by kernel_rfl) ?_
              refine WR.runk [0, 1, 2] [3, 4, 5, 6] [7, 65] (L' := [(7, pv373), (65, .bool (r364.2 == 2))]) (w' := w371) (by kernel_rfl) ?_
              refine WR.split 65 (b := (r364.2 == 2)) (by kernel_rfl) (fun hb391 => ?_) (fun hb391 => ?_)
              · replace H := ite_t H hb391
                refine WR.runk [3] [4, 5, 6] [65, 66] (L' := [(65, .bool true), (66, pv373)]) (w' := w371) (by kernel_rfl) ?_
                rcases hr393 : r364.1 with _ | y392
                · rw [hr393] at H
                  dsimp only at H
                  have hv394 := optP.none hS hr393
                  subst hv394
                  have hS : Sat w371 (rf w0) [pts b1 (.cells #[.slice A2_0 l2_0.length c2_0, .slice A2_1 l2_1.length c2_1] 44 (0, 0))] := hS.sel [1] (by kernel_rfl)
                  refine WR.runk [4, 5, 6] [] [6] (L' := [(6, .bool true)]) (w' := w371) (by kernel_rfl) ?_
                  refine WR.nil ?_
                  refine At.go ?_
                  refine WC.ret (by kernel_rfl) ?_
                  refine At.thenRet ?_
                  obtain rfl := Option.some.inj H
                  have hS : Sat w371 (rf w0) [] := hS.sel [] (by kernel_rfl)
                  exact At.body [.bool true] (by kernel_rfl) ⟨_, rfl, rfl, hS⟩
                · rw [hr393] at H
                  dsimp only at H
                  obtain ⟨b395, hv394, hN397⟩ := optP.some hS hr393
                  subst hv394
                  have hS : Sat w371 (rf w0) [O49 b395 y392, pts b1 (.cells #[.slice A2_0 l2_0.length c2_0, .slice A2_1 l2_1.length c2_1] 44 (0, 0))] := hN397
                  refine WR.runk [4, 5, 6] [] [6] (L' := [(6, .bool false)]) (w' := w371) (by kernel_rfl) ?_
                  refine WR.nil ?_
                  refine At.go ?_
                  refine WC.ret (by kernel_rfl) ?_
                  refine At.thenRet ?_
                  obtain rfl := Option.some.inj H
                  have hS : Sat w371 (rf w0) [] := hS.sel [] (by kernel_rfl)
                  exact At.body [.bool false] (by kernel_rfl) ⟨_, rfl, rfl, hS⟩
              · replace H := ite_f H hb391
                refine WR.runk [3, 4, 5, 6] [] [6] (L' := [(6, .bool false)]) (w' := w371) (by kernel_rfl) ?_
                refine WR.nil ?_
                refine At.go ?_
                refine WC.ret (by kernel_rfl) ?_
                refine At.thenRet ?_
                obtain rfl := Option.some.inj H
                have hS : Sat w371 (rf w0) [] := hS.sel [] (by kernel_rfl)
                exact At.body [.bool false] (by kernel_rfl) ⟨_, rfl, rfl, hS⟩
            · replace H := ite_f H hb390
              refine WR.runk [11, 12, 13, 14] [] [0, 1, 5, 7, 8, 62] (L' := [(0, .int .i64 a0), (1, .int .i64 a1), (5, .pointer (some ⟨b1, 0, none⟩)), (7, pv373), (8, .int .i64 r364.2), (62, .bool (decide (a1 > a0)))]) (w' := w371) (by kernel_rfl) ?_
              refine WR.nil ?_
              refine At.go ?_
              refine WC.cond (by kernel_rfl) (decide (a1 > a0)) (by kernel_rfl) (by kernel_rfl) (fun hb398 => ?_) (fun hb398 => ?_)
              · replace H := ite_t H hb398
                refine WC.seq (by kernel_rfl) ?_
                refine WC.reg [0, 1, 2, 3, 4, 5, 6] (by kernel_rfl) (by kernel_rfl) ?_
                refine WR.runk [0, 1, 2] [3, 4, 5, 6] [7, 65] (L' := [(7, pv373), (65, .bool (r364.2 == 2))]) (w' := w371) (by kernel_rfl) ?_
                refine WR.split 65 (b := (r364.2 == 2)) (by kernel_rfl) (fun hb399 => ?_) (fun hb399 => ?_)
                · replace H := ite_t H hb399
                  refine WR.runk [3] [4, 5, 6] [65, 66] (L' := [(65, .bool true), (66, pv373)]) (w' := w371) (by kernel_rfl) ?_
                  rcases hr401 : r364.1 with _ | y400
                  · rw [hr401] at H
                    dsimp only at H
                    have hv402 := optP.none hS hr401
                    subst hv402
                    have hS : Sat w371 (rf w0) [pts b1 (.cells #[.slice A2_0 l2_0.length c2_0, .slice A2_1 l2_1.length c2_1] 44 (0, 0))] := hS.sel [1] (by kernel_rfl)
                    refine WR.runk [4, 5, 6] [] [6] (L' := [(6, .bool true)]) (w' := w371) (by kernel_rfl) ?_
                    refine WR.nil ?_
                    refine At.go ?_
                    refine WC.ret (by kernel_rfl) ?_
                    refine At.thenRet ?_
                    obtain rfl := Option.some.inj H
                    have hS : Sat w371 (rf w0) [] := hS.sel [] (by kernel_rfl)
                    exact At.body [.bool true] (by kernel_rfl) ⟨_, rfl, rfl, hS⟩
                  · rw [hr401] at H
                    dsimp only at H
                    obtain ⟨b403, hv402, hN405⟩ := optP.some hS hr401
                    subst hv402
                    have hS : Sat w371 (rf w0) [O49 b403 y400, pts b1 (.cells #[.slice A2_0 l2_0.length c2_0, .slice A2_1 l2_1.length c2_1] 44 (0, 0))] := hN405
                    refine WR.runk [4, 5, 6] [] [6] (L' := [(6, .bool false)]) (w' := w371) (by kernel_rfl) ?_
                    refine WR.nil ?_
                    refine At.go ?_
                    refine WC.ret (by kernel_rfl) ?_
                    refine At.thenRet ?_
                    obtain rfl := Option.some.inj H
                    have hS : Sat w371 (rf w0) [] := hS.sel [] (by kernel_rfl)
                    exact At.body [.bool false] (by kernel_rfl) ⟨_, rfl, rfl, hS⟩
                · replace H := ite_f H hb399
                  refine WR.runk [3, 4, 5, 6] [] [6] (L' := [(6, .bool false)]) (w' := w371) (by kernel_rfl) ?_
                  refine WR.nil ?_
                  refine At.go ?_
                  refine WC.ret (by kernel_rfl) ?_
                  refine At.thenRet ?_
                  obtain rfl := Option.some.inj H
                  have hS : Sat w371 (rf w0) [] := hS.sel [] (by kernel_rfl)
                  exact At.body [.bool false] (by kernel_rfl) ⟨_, rfl, rfl, hS⟩
              · replace H := ite_f H hb398
                refine WC.skip (by kernel_rfl) ?_
                refine At.go ?_
                refine WC.seq (by kernel_rfl) ?_
                refine WC.seq (by kernel_rfl) ?_
                refine WC.reg [0, 1] (by kernel_rfl) (by kernel_rfl) ?_
                refine WR.runk [0, 1] [] [0, 1, 5, 7, 8, 70] (L' := [(0, .int .i64 a0), (1, .int .i64 a1), (5, .pointer (some ⟨b1, 0, none⟩)), (7, pv373), (8, .int .i64 r364.2), (70, .bool (r364.2 != 0))]) (w' := w371) (by kernel_rfl) ?_
                refine WR.nil ?_
                refine At.go ?_
                refine WC.cond (by kernel_rfl) (r364.2 != 0) (by kernel_rfl) (by kernel_rfl) (fun hb406 => ?_) (fun hb406 => ?_)
                · replace H := ite_t H hb406
                  refine WC.seq (by kernel_rfl) ?_
                  refine WC.reg [0, 1, 2, 3, 4, 5, 6] (by kernel_rfl) (by kernel_rfl) ?_
                  refine WR.runk [0, 1, 2] [3, 4, 5, 6] [7, 73] (L' := [(7, pv373), (73, .bool (r364.2 == 10))]) (w' := w371) (by kernel_rfl) ?_
                  refine WR.split 73 (b := (r364.2 == 10)) (by kernel_rfl) (fun hb407 => ?_) (fun hb407 => ?_)
                  · replace H := ite_t H hb407
                    refine WR.runk [3] [4, 5, 6] [73, 74] (L' := [(73, .bool true), (74, pv373)]) (w' := w371) (by kernel_rfl) ?_
                    rcases hr409 : r364.1 with _ | y408
                    · rw [hr409] at H
                      dsimp only at H
                      have hv410 := optP.none hS hr409
                      subst hv410
                      have hS : Sat w371 (rf w0) [pts b1 (.cells #[.slice A2_0 l2_0.length c2_0, .slice A2_1 l2_1.length c2_1] 44 (0, 0))] := hS.sel [1] (by kernel_rfl)
                      refine WR.runk [4, 5, 6] [] [6] (L' := [(6, .bool true)]) (w' := w371) (by kernel_rfl) ?_
                      refine WR.nil ?_
                      refine At.go ?_
                      refine WC.ret (by kernel_rfl) ?_
                      refine At.thenRet ?_
                      obtain rfl := Option.some.inj H
                      have hS : Sat w371 (rf w0) [] := hS.sel [] (by kernel_rfl)
                      exact At.body [.bool true] (by kernel_rfl) ⟨_, rfl, rfl, hS⟩
                    · rw [hr409] at H
                      dsimp only at H
                      obtain ⟨b411, hv410, hN413⟩ := optP.some hS hr409
                      subst hv410
                      have hS : Sat w371 (rf w0) [O49 b411 y408, pts b1 (.cells #[.slice A2_0 l2_0.length c2_0, .slice A2_1 l2_1.length c2_1] 44 (0, 0))] := hN413
                      refine WR.runk [4, 5, 6] [] [6] (L' := [(6, .bool false)]) (w' := w371) (by kernel_rfl) ?_
                      refine WR.nil ?_
                      refine At.go ?_
                      refine WC.ret (by kernel_rfl) ?_
                      refine At.thenRet ?_
                      obtain rfl := Option.some.inj H
                      have hS : Sat w371 (rf w0) [] := hS.sel [] (by kernel_rfl)
                      exact At.body [.bool false] (by kernel_rfl) ⟨_, rfl, rfl, hS⟩
                  · replace H := ite_f H hb407
                    refine WR.runk [3, 4, 5, 6] [] [6] (L' := [(6, .bool false)]) (w' := w371) (by kernel_rfl) ?_
                    refine WR.nil ?_
                    refine At.go ?_
                    refine WC.ret (by kernel_rfl) ?_
                    refine At.thenRet ?_
                    obtain rfl := Option.some.inj H
                    have hS : Sat w371 (rf w0) [] := hS.sel [] (by kernel_rfl)
                    exact At.body [.bool false] (by kernel_rfl) ⟨_, rfl, rfl, hS⟩
                · replace H := ite_f H hb406
                  refine WC.skip (by kernel_rfl) ?_
                  refine At.go ?_
                  refine WC.seq (by kernel_rfl) ?_
                  refine WC.reg [0] (by kernel_rfl) (by kernel_rfl) ?_
                  refine WR.runk [0] [] [0, 1, 5, 7, 9] (L' := [(0, .int .i64 a0), (1, .int .i64 a1), (5, .pointer (some ⟨b1, 0, none⟩)), (7, pv373), (9, .slice none 0 0)]) (w' := w371) (by kernel_rfl) ?_
                  refine WR.nil ?_
                  refine At.go ?_
                  refine WC.seq (by kernel_rfl) ?_
                  refine WC.seq (by kernel_rfl) ?_
                  refine WC.reg [0, 1] (by kernel_rfl) (by kernel_rfl) ?_
                  refine WR.runk [0, 1] [] [0, 1, 5, 7, 9, 77, 78] (L' := [(0, .int .i64 a0), (1, .int .i64 a1), (5, .pointer (some ⟨b1, 0, none⟩)), (7, pv373), (9, .slice none 0 0), (77, .int .i64 a1), (78, .int .i64 0)]) (w' := w371) (by kernel_rfl) ?_
                  refine WR.nil ?_
                  refine At.go ?_
                  refine WC.block (by kernel_rfl) ?_
                  obtain ⟨y414, hr415, H⟩ := bind_ex H
                  obtain ⟨b417, hv416, hN536⟩ := optP.some hS hr415
                  subst hv416
                  have hS : Sat w371 (rf w0) [O49 b417 y414, pts b1 (.cells #[.slice A2_0 l2_0.length c2_0, .slice A2_1 l2_1.length c2_1] 44 (0, 0))] := hN536
                  have hS := hS.addNil (α := Int) 3 (r0 (.int .i64)) 1
                  have hS : Sat w371 (rf w0) [osl 3 (r0 (.int .i64)) 1 none 0 ([] : List Int), O49 b417 y414, pts b1 (.cells #[.slice A2_0 l2_0.length c2_0, .slice A2_1 l2_1.length c2_1] 44 (0, 0))] := hS.sel [0, 1, 2] (by kernel_rfl)
                  obtain ⟨o436, e437, H⟩ := bind_ex H
                  refine WC.loop (by kernel_rfl) ?_
                  refine WL.weaken [0, 1, 5, 7, 9, 77, 78] (L' := [(0, .int .i64 a0), (1, .int .i64 a1), (5, .pointer (some ⟨b1, 0, none⟩)), (7, .pointer (some ⟨b417, 0, none⟩)), (9, .slice none 0 0), (77, .int .i64 a1), (78, .int .i64 0)]) (by kernel_rfl) ?_
                  refine colophonlaw03_SparseFrom.l3_ok w0 a0 a1 A2_0 c2_0 l2_0 A2_1 c2_1 l2_1 b1 y414 b417 o436 (fun A9_q438 c9_q438 w439 hS => ?_) FU ([] : List Int) 0 none 0 _ hS e437
                  refine At.hit ?_
                  refine At.go ?_
                  refine WC.seq (by kernel_rfl) ?_
                  refine WC.reg [0, 1, 2, 3, 4, 5, 6] (by kernel_rfl) (by kernel_rfl) ?_
                  refine WR.runk [0] [1, 2, 3, 4, 5, 6] [0, 1, 5, 7, 9, 89] (L' := [(0, .int .i64 a0), (1, .int .i64 a1), (5, .pointer (some ⟨b1, 0, none⟩)), (7, .pointer (some ⟨b417, 0, none⟩)), (9, .slice A9_q438 o436.length c9_q438), (89, .pointer (some ⟨b417, 0, none⟩))]) (w' := w439) (by kernel_rfl) ?_
                  obtain ⟨r441, e442, H⟩ := bind_ex H
                  refine WR.st (St.call (by kernel_rfl) (f := 17) (args := #[.pointer (some ⟨b417, 0, none⟩)]) (by kernel_rfl) (sparse_Set_Words.calls w439 (.pointer (some ⟨b417, 0, none⟩)) (some y414) (Sat.rdAny 1 hS rfl (fun _ h => O49.rd _ _ _ h)) r441 e442) ?_)
                  rintro _ w448 ⟨A450, c451, A452, c453, rfl, hS449⟩
                  have hS : Sat w448 (rf w0) [osl 43 (r0 (.int .u64)) 1 A450 c451 r441.1, osl 43 (r0 (.int .u64)) 1 A452 c453 r441.2, osl 3 (r0 (.int .i64)) 1 A9_q438 c9_q438 o436, O49 b417 y414, pts b1 (.cells #[.slice A2_0 l2_0.length c2_0, .slice A2_1 l2_1.length c2_1] 44 (0, 0))] := hS.ext hS449
                  refine WR.runk [2, 3, 4, 5, 6] [] [0, 1, 5, 7, 9, 11, 12] (L' := [(0, .int .i64 a0), (1, .int .i64 a1), (5, .pointer (some ⟨b1, 0, none⟩)), (7, .pointer (some ⟨b417, 0, none⟩)), (9, .slice A9_q438 o436.length c9_q438), (11, .slice A450 r441.1.length c451), (12, .slice A452 r441.2.length c453)]) (w' := w448) (by kernel_rfl) ?_
                  refine WR.nil ?_
                  refine At.go ?_
                  refine WC.seq (by kernel_rfl) ?_
                  refine WC.reg [0, 1, 2, 3, 4, 5, 6, 7] (by kernel_rfl) (by kernel_rfl) ?_
                  refine WR.runk [0, 1] [2, 3, 4, 5, 6, 7] [0, 1, 5, 7, 9, 11, 12, 94, 95] (L' := [(0, .int .i64 a0), (1, .int .i64 a1), (5, .pointer (some ⟨b1, 0, none⟩)), (7, .pointer (some ⟨b417, 0, none⟩)), (9, .slice A9_q438 o436.length c9_q438), (11, .slice A450 r441.1.length c451), (12, .slice A452 r441.2.length c453), (94, .int .i64 a0), (95, .slice A9_q438 o436.length c9_q438)]) (w' := w448) (by kernel_rfl) ?_
                  obtain ⟨r454, e455, H⟩ := bind_ex H
                  refine WR.st (St.call (by kernel_rfl) (f := 18) (args := #[.int .i64 a0, .slice A9_q438 o436.length c9_q438]) (by kernel_rfl) (colophonref03_Words.calls w448 a0 A9_q438 c9_q438 o436 (Sat.rdAt 2 hS rfl) r454 e455) ?_)
                  rintro _ w461 ⟨A463, c464, A465, c466, rfl, hS462⟩
                  have hS : Sat w461 (rf w0) [osl 43 (r0 (.int .u64)) 1 A463 c464 r454.1, osl 43 (r0 (.int .u64)) 1 A465 c466 r454.2, osl 43 (r0 (.int .u64)) 1 A450 c451 r441.1, osl 43 (r0 (.int .u64)) 1 A452 c453 r441.2, osl 3 (r0 (.int .i64)) 1 A9_q438 c9_q438 o436, O49 b417 y414, pts b1 (.cells #[.slice A2_0 l2_0.length c2_0, .slice A2_1 l2_1.length c2_1] 44 (0, 0))] := hS.ext hS462
                  refine WR.runk [3, 4, 5, 6, 7] [] [0, 1, 5, 7, 9, 11, 12, 13, 14] (L' := [(0, .int .i64 a0), (1, .int .i64 a1), (5, .pointer (some ⟨b1, 0, none⟩)), (7, .pointer (some ⟨b417, 0, none⟩)), (9, .slice A9_q438 o436.length c9_q438), (11, .slice A450 r441.1.length c451), (12, .slice A452 r441.2.length c453), (13, .slice A463 r454.1.length c464), (14, .slice A465 r454.2.length c466)]) (w' := w461) (by kernel_rfl) ?_
                  refine WR.nil ?_
                  refine At.go ?_
                  refine WC.seq (by kernel_rfl) ?_
                  refine WC.reg [0, 1, 2, 3, 4, 5, 6, 7, 8, 9, 10, 11, 12, 13, 14, 15, 16, 17, 18, 19, 20, 21, 22, 23, 24, 25, 26, 27, 28, 29, 30, 31, 32, 33, 34, 35, 36, 37] (by kernel_rfl) (by kernel_rfl) ?_
                  refine WR.runk [0] [1, 2, 3, 4, 5, 6, 7, 8, 9, 10, 11, 12, 13, 14, 15, 16, 17, 18, 19, 20, 21, 22, 23, 24, 25, 26, 27, 28, 29, 30, 31, 32, 33, 34, 35, 36, 37] [0, 1, 5, 7, 9, 11, 12, 13, 14, 99] (L' := [(0, .int .i64 a0), (1, .int .i64 a1), (5, .pointer (some ⟨b1, 0, none⟩)), (7, .pointer (some ⟨b417, 0, none⟩)), (9, .slice A9_q438 o436.length c9_q438), (11, .slice A450 r441.1.length c451), (12, .slice A452 r441.2.length c453), (13, .slice A463 r454.1.length c464), (14, .slice A465 r454.2.length c466), (99, .pointer (some ⟨b417, 0, none⟩))]) (w' := w461) (by kernel_rfl) ?_
                  obtain ⟨r467, e468, H⟩ := bind_ex H
                  refine WR.st (St.call (by kernel_rfl) (f := 15) (args := #[.pointer (some ⟨b417, 0, none⟩)]) (by kernel_rfl) (sparse_Set_Len.calls w461 (.pointer (some ⟨b417, 0, none⟩)) (some y414) (Sat.rdAny 5 hS rfl (fun _ h => O49.rd _ _ _ h)) r467 e468) ?_)
                  rintro _ w474 ⟨rfl, hS475⟩
                  have hS : Sat w474 (rf w0) [osl 43 (r0 (.int .u64)) 1 A463 c464 r454.1, osl 43 (r0 (.int .u64)) 1 A465 c466 r454.2, osl 43 (r0 (.int .u64)) 1 A450 c451 r441.1, osl 43 (r0 (.int .u64)) 1 A452 c453 r441.2, osl 3 (r0 (.int .i64)) 1 A9_q438 c9_q438 o436, O49 b417 y414, pts b1 (.cells #[.slice A2_0 l2_0.length c2_0, .slice A2_1 l2_1.length c2_1] 44 (0, 0))] := hS.ext hS475
                  refine WR.runk [2, 3, 4] [5, 6, 7, 8, 9, 10, 11, 12, 13, 14, 15, 16, 17, 18, 19, 20, 21, 22, 23, 24, 25, 26, 27, 28, 29, 30, 31, 32, 33, 34, 35, 36, 37] [0, 5, 7, 9, 11, 12, 13, 14, 103] (L' := [(0, .int .i64 a0), (5, .pointer (some ⟨b1, 0, none⟩)), (7, .pointer (some ⟨b417, 0, none⟩)), (9, .slice A9_q438 o436.length c9_q438), (11, .slice A450 r441.1.length c451), (12, .slice A452 r441.2.length c453), (13, .slice A463 r454.1.length c464), (14, .slice A465 r454.2.length c466), (103, .bool (r467 == a1))]) (w' := w474) (by kernel_rfl) ?_
                  refine WR.split 103 (b := (r467 == a1)) (by kernel_rfl) (fun hb476 => ?_) (fun hb476 => ?_)
                  · replace H := ite_t H hb476
                    refine WR.runk [5] [6, 7, 8, 9, 10, 11, 12, 13, 14, 15, 16, 17, 18, 19, 20, 21, 22, 23, 24, 25, 26, 27, 28, 29, 30, 31, 32, 33, 34, 35, 36, 37] [0, 5, 9, 11, 12, 13, 14, 103, 104] (L' := [(0, .int .i64 a0), (5, .pointer (some ⟨b1, 0, none⟩)), (9, .slice A9_q438 o436.length c9_q438), (11, .slice A450 r441.1.length c451), (12, .slice A452 r441.2.length c453), (13, .slice A463 r454.1.length c464), (14, .slice A465 r454.2.length c466), (103, .bool true), (104, .pointer (some ⟨b417, 0, none⟩))]) (w' := w474) (by kernel_rfl) ?_
                    obtain ⟨r477, e478, H⟩ := bind_ex H
                    refine WR.st (St.call (by kernel_rfl) (f := 11) (args := #[.pointer (some ⟨b417, 0, none⟩)]) (by kernel_rfl) (sparse_Set_Bound.calls w474 (.pointer (some ⟨b417, 0, none⟩)) (some y414) (Sat.rdAny 5 hS rfl (fun _ h => O49.rd _ _ _ h)) r477 e478) ?_)
                    rintro _ w484 ⟨rfl, hS485⟩
                    have hS : Sat w484 (rf w0) [osl 43 (r0 (.int .u64)) 1 A463 c464 r454.1, osl 43 (r0 (.int .u64)) 1 A465 c466 r454.2, osl 43 (r0 (.int .u64)) 1 A450 c451 r441.1, osl 43 (r0 (.int .u64)) 1 A452 c453 r441.2, osl 3 (r0 (.int .i64)) 1 A9_q438 c9_q438 o436, O49 b417 y414, pts b1 (.cells #[.slice A2_0 l2_0.length c2_0, .slice A2_1 l2_1.length c2_1] 44 (0, 0))] := hS.ext hS485
                    refine WR.runk [7, 8, 9, 10] [11, 12, 13, 14, 15, 16, 17, 18, 19, 20, 21, 22, 23, 24, 25, 26, 27, 28, 29, 30, 31, 32, 33, 34, 35, 36, 37] [0, 5, 9, 11, 12, 13, 14, 109] (L' := [(0, .int .i64 a0), (5, .pointer (some ⟨b1, 0, none⟩)), (9, .slice A9_q438 o436.length c9_q438), (11, .slice A450 r441.1.length c451), (12, .slice A452 r441.2.length c453), (13, .slice A463 r454.1.length c464), (14, .slice A465 r454.2.length c466), (109, .bool (r477 == a0))]) (w' := w484) (by kernel_rfl) ?_
                    refine WR.split 109 (b := (r477 == a0)) (by kernel_rfl) (fun hb486 => ?_) (fun hb486 => ?_)
                    · replace H := ite_t H hb486
                      refine WR.runk [11, 12] [13, 14, 15, 16, 17, 18, 19, 20, 21, 22, 23, 24, 25, 26, 27, 28, 29, 30, 31, 32, 33, 34, 35, 36, 37] [5, 11, 12, 13, 14, 109, 110, 111] (L' := [(5, .pointer (some ⟨b1, 0, none⟩)), (11, .slice A450 r441.1.length c451), (12, .slice A452 r441.2.length c453), (13, .slice A463 r454.1.length c464), (14, .slice A465 r454.2.length c466), (109, .bool true), (110, .int .i64 a0), (111, .slice A9_q438 o436.length c9_q438)]) (w' := w484) (by kernel_rfl) ?_
                      obtain ⟨r487, e488, H⟩ := bind_ex H
                      refine WR.st (St.call (by kernel_rfl) (f := 9) (args := #[.int .i64 a0, .slice A9_q438 o436.length c9_q438]) (by kernel_rfl) (colophonref03_Right.calls w484 a0 A9_q438 c9_q438 o436 (Sat.rdAt 4 hS rfl) r487 e488) ?_)
                      rintro _ w494 ⟨rfl, hS495⟩
                      have hS : Sat w494 (rf w0) [osl 43 (r0 (.int .u64)) 1 A463 c464 r454.1, osl 43 (r0 (.int .u64)) 1 A465 c466 r454.2, osl 43 (r0 (.int .u64)) 1 A450 c451 r441.1, osl 43 (r0 (.int .u64)) 1 A452 c453 r441.2, osl 3 (r0 (.int .i64)) 1 A9_q438 c9_q438 o436, O49 b417 y414, pts b1 (.cells #[.slice A2_0 l2_0.length c2_0, .slice A2_1 l2_1.length c2_1] 44 (0, 0))] := hS.ext hS495
                      refine WR.runk [14, 15] [16, 17, 18, 19, 20, 21, 22, 23, 24, 25, 26, 27, 28, 29, 30, 31, 32, 33, 34, 35, 36, 37] [5, 11, 12, 13, 14, 114] (L' := [(5, .pointer (some ⟨b1, 0, none⟩)), (11, .slice A450 r441.1.length c451), (12, .slice A452 r441.2.length c453), (13, .slice A463 r454.1.length c464), (14, .slice A465 r454.2.length c466), (114, .bool r487)]) (w' := w494) (by kernel_rfl) ?_
                      refine WR.split 114 (b := r487) (by kernel_rfl) (fun hb496 => ?_) (fun hb496 => ?_)
                      · replace H := ite_t H hb496
                        refine WR.runk [16, 17] [18, 19, 20, 21, 22, 23, 24, 25, 26, 27, 28, 29, 30, 31, 32, 33, 34, 35, 36, 37] [5, 11, 12, 13, 14, 114, 115, 116] (L' := [(5, .pointer (some ⟨b1, 0, none⟩)), (11, .slice A450 r441.1.length c451), (12, .slice A452 r441.2.length c453), (13, .slice A463 r454.1.length c464), (14, .slice A465 r454.2.length c466), (114, .bool true), (115, .slice A450 r441.1.length c451), (116, .pointer (some ⟨b1, 0, none⟩))]) (w' := w494) (by kernel_rfl) ?_
                        refine WR.st (St.ofR (RSt.loadObj (t := 35) (k := 0) (v := .slice A2_0 l2_0.length c2_0) (.tmp 116) (by kernel_rfl) (by kernel_rfl) (by kernel_rfl) 6 hS rfl (by kernel_rfl) rfl ?_))
                        refine WR.runk [] [19, 20, 21, 22, 23, 24, 25, 26, 27, 28, 29, 30, 31, 32, 33, 34, 35, 36, 37] [5, 11, 12, 13, 14, 114, 115, 117] (L' := [(5, .pointer (some ⟨b1, 0, none⟩)), (11, .slice A450 r441.1.length c451), (12, .slice A452 r441.2.length c453), (13, .slice A463 r454.1.length c464), (14, .slice A465 r454.2.length c466), (114, .bool true), (115, .slice A450 r441.1.length c451), (117, .slice A2_0 l2_0.length c2_0)]) (w' := w494) (by kernel_rfl) ?_
                        obtain ⟨r497, e498, H⟩ := bind_ex H
                        refine WR.st (St.call (by kernel_rfl) (f := 19) (args := #[.slice A450 r441.1.length c451, .slice A2_0 l2_0.length c2_0]) (by kernel_rfl) (colophonref01_Same.calls w494 A450 c451 r441.1 (Sat.rdAt 2 hS rfl) A2_0 c2_0 l2_0 (rdS.up R2_0 hS.sub0) r497 e498) ?_)
                        rintro _ w504 ⟨rfl, hS505⟩
                        have hS : Sat w504 (rf w0) [osl 43 (r0 (.int .u64)) 1 A463 c464 r454.1, osl 43 (r0 (.int .u64)) 1 A465 c466 r454.2, osl 43 (r0 (.int .u64)) 1 A450 c451 r441.1, osl 43 (r0 (.int .u64)) 1 A452 c453 r441.2, osl 3 (r0 (.int .i64)) 1 A9_q438 c9_q438 o436, O49 b417 y414, pts b1 (.cells #[.slice A2_0 l2_0.length c2_0, .slice A2_1 l2_1.length c2_1] 44 (0, 0))] := hS.ext hS505
                        refine WR.runk [20, 21] [22, 23, 24, 25, 26, 27, 28, 29, 30, 31, 32, 33, 34, 35, 36, 37] [5, 11, 12, 13, 14, 120] (L' := [(5, .pointer (some ⟨b1, 0, none⟩)), (11, .slice A450 r441.1.length c451), (12, .slice A452 r441.2.length c453), (13, .slice A463 r454.1.length c464), (14, .slice A465 r454.2.length c466), (120, .bool r497)]) (w' := w504) (by kernel_rfl) ?_
                        refine WR.split 120 (b := r497) (by kernel_rfl) (fun hb506 => ?_) (fun hb506 => ?_)
                        · replace H := ite_t H hb506
                          refine WR.runk [22, 23] [24, 25, 26, 27, 28, 29, 30, 31, 32, 33, 34, 35, 36, 37] [11, 12, 13, 14, 120, 121, 122] (L' := [(11, .slice A450 r441.1.length c451), (12, .slice A452 r441.2.length c453), (13, .slice A463 r454.1.length c464), (14, .slice A465 r454.2.length c466), (120, .bool true), (121, .slice A452 r441.2.length c453), (122, .pointer (some ⟨b1, 1, none⟩))]) (w' := w504) (by kernel_rfl) ?_
                          refine WR.st (St.ofR (RSt.loadObj (t := 35) (k := 1) (v := .slice A2_1 l2_1.length c2_1) (.tmp 122) (by kernel_rfl) (by kernel_rfl) (by kernel_rfl) 6 hS rfl (by kernel_rfl) rfl ?_))
                          refine WR.runk [] [25, 26, 27, 28, 29, 30, 31, 32, 33, 34, 35, 36, 37] [11, 12, 13, 14, 120, 121, 123] (L' := [(11, .slice A450 r441.1.length c451), (12, .slice A452 r441.2.length c453), (13, .slice A463 r454.1.length c464), (14, .slice A465 r454.2.length c466), (120, .bool true), (121, .slice A452 r441.2.length c453), (123, .slice A2_1 l2_1.length c2_1)]) (w' := w504) (by kernel_rfl) ?_
                          obtain ⟨r507, e508, H⟩ := bind_ex H
                          refine WR.st (St.call (by kernel_rfl) (f := 19) (args := #[.slice A452 r441.2.length c453, .slice A2_1 l2_1.length c2_1]) (by kernel_rfl) (colophonref01_Same.calls w504 A452 c453 r441.2 (Sat.rdAt 3 hS rfl) A2_1 c2_1 l2_1 (rdS.up R2_1 hS.sub0) r507 e508) ?_)
                          rintro _ w514 ⟨rfl, hS515⟩
                          have hS : Sat w514 (rf w0) [osl 43 (r0 (.int .u64)) 1 A463 c464 r454.1, osl 43 (r0 (.int .u64)) 1 A465 c466 r454.2, osl 43 (r0 (.int .u64)) 1 A450 c451 r441.1, osl 43 (r0 (.int .u64)) 1 A452 c453 r441.2, osl 3 (r0 (.int .i64)) 1 A9_q438 c9_q438 o436, O49 b417 y414, pts b1 (.cells #[.slice A2_0 l2_0.length c2_0, .slice A2_1 l2_1.length c2_1] 44 (0, 0))] := hS.ext hS515
                          refine WR.runk [26, 27] [28, 29, 30, 31, 32, 33, 34, 35, 36, 37] [11, 12, 13, 14, 126] (L' := [(11, .slice A450 r441.1.length c451), (12, .slice A452 r441.2.length c453), (13, .slice A463 r454.1.length c464), (14, .slice A465 r454.2.length c466), (126, .bool r507)]) (w' := w514) (by kernel_rfl) ?_
                          refine WR.split 126 (b := r507) (by kernel_rfl) (fun hb516 => ?_) (fun hb516 => ?_)
                          · replace H := ite_t H hb516
                            refine WR.runk [28, 29] [30, 31, 32, 33, 34, 35, 36, 37] [12, 14, 126, 127, 128] (L' := [(12, .slice A452 r441.2.length c453), (14, .slice A465 r454.2.length c466), (126, .bool true), (127, .slice A450 r441.1.length c451), (128, .slice A463 r454.1.length c464)]) (w' := w514) (by kernel_rfl) ?_
                            obtain ⟨r517, e518, H⟩ := bind_ex H
                            refine WR.st (St.call (by kernel_rfl) (f := 19) (args := #[.slice A450 r441.1.length c451, .slice A463 r454.1.length c464]) (by kernel_rfl) (colophonref01_Same.calls w514 A450 c451 r441.1 (Sat.rdAt 2 hS rfl) A463 c464 r454.1 (Sat.rdAt 0 hS rfl) r517 e518) ?_)
                            rintro _ w524 ⟨rfl, hS525⟩
                            have hS : Sat w524 (rf w0) [osl 43 (r0 (.int .u64)) 1 A463 c464 r454.1, osl 43 (r0 (.int .u64)) 1 A465 c466 r454.2, osl 43 (r0 (.int .u64)) 1 A450 c451 r441.1, osl 43 (r0 (.int .u64)) 1 A452 c453 r441.2, osl 3 (r0 (.int .i64)) 1 A9_q438 c9_q438 o436, O49 b417 y414, pts b1 (.cells #[.slice A2_0 l2_0.length c2_0, .slice A2_1 l2_1.length c2_1] 44 (0, 0))] := hS.ext hS525
                            refine WR.runk [31, 32] [33, 34, 35, 36, 37] [12, 14, 131] (L' := [(12, .slice A452 r441.2.length c453), (14, .slice A465 r454.2.length c466), (131, .bool r517)]) (w' := w524) (by kernel_rfl) ?_
                            refine WR.split 131 (b := r517) (by kernel_rfl) (fun hb526 => ?_) (fun hb526 => ?_)
                            · replace H := ite_t H hb526
                              refine WR.runk [33, 34] [35, 36, 37] [131, 132, 133] (L' := [(131, .bool true), (132, .slice A452 r441.2.length c453), (133, .slice A465 r454.2.length c466)]) (w' := w524) (by kernel_rfl) ?_
                              obtain ⟨r527, e528, H⟩ := bind_ex H
                              refine WR.st (St.call (by kernel_rfl) (f := 19) (args := #[.slice A452 r441.2.length c453, .slice A465 r454.2.length c466]) (by kernel_rfl) (colophonref01_Same.calls w524 A452 c453 r441.2 (Sat.rdAt 3 hS rfl) A465 c466 r454.2 (Sat.rdAt 1 hS rfl) r527 e528) ?_)
                              rintro _ w534 ⟨rfl, hS535⟩
                              have hS : Sat w534 (rf w0) [osl 43 (r0 (.int .u64)) 1 A463 c464 r454.1, osl 43 (r0 (.int .u64)) 1 A465 c466 r454.2, osl 43 (r0 (.int .u64)) 1 A450 c451 r441.1, osl 43 (r0 (.int .u64)) 1 A452 c453 r441.2, osl 3 (r0 (.int .i64)) 1 A9_q438 c9_q438 o436, O49 b417 y414, pts b1 (.cells #[.slice A2_0 l2_0.length c2_0, .slice A2_1 l2_1.length c2_1] 44 (0, 0))] := hS.ext hS535
                              refine WR.runk [36, 37] [] [6] (L' := [(6, .bool r527)]) (w' := w534) (by kernel_rfl) ?_
                              refine WR.nil ?_
                              refine At.go ?_
                              refine WC.ret (by kernel_rfl) ?_
                              obtain rfl := Option.some.inj H
                              have hS : Sat w534 (rf w0) [] := hS.sel [] (by kernel_rfl)
                              exact At.body [.bool r527] (by kernel_rfl) ⟨_, rfl, rfl, hS⟩
                            · replace H := ite_f H hb526
                              refine WR.runk [33, 34, 35, 36, 37] [] [6] (L' := [(6, .bool false)]) (w' := w524) (by kernel_rfl) ?_
                              refine WR.nil ?_
                              refine At.go ?_
                              refine WC.ret (by kernel_rfl) ?_
                              obtain rfl := Option.some.inj H
                              have hS : Sat w524 (rf w0) [] := hS.sel [] (by kernel_rfl)
                              exact At.body [.bool false] (by kernel_rfl) ⟨_, rfl, rfl, hS⟩
                          · replace H := ite_f H hb516
                            refine WR.runk [28, 29, 30, 31, 32, 33, 34, 35, 36, 37] [] [6] (L' := [(6, .bool false)]) (w' := w514) (by kernel_rfl) ?_
                            refine WR.nil ?_
                            refine At.go ?_
                            refine WC.ret (by kernel_rfl) ?_
                            obtain rfl := Option.some.inj H
                            have hS : Sat w514 (rf w0) [] := hS.sel [] (by kernel_rfl)
                            exact At.body [.bool false] (by kernel_rfl) ⟨_, rfl, rfl, hS⟩
                        · replace H := ite_f H hb506
                          refine WR.runk [22, 23, 24, 25, 26, 27, 28, 29, 30, 31, 32, 33, 34, 35, 36, 37] [] [6] (L' := [(6, .bool false)]) (w' := w504) (by kernel_rfl) ?_
                          refine WR.nil ?_
                          refine At.go ?_
                          refine WC.ret (by kernel_rfl) ?_
                          obtain rfl := Option.some.inj H
                          have hS : Sat w504 (rf w0) [] := hS.sel [] (by kernel_rfl)
                          exact At.body [.bool false] (by kernel_rfl) ⟨_, rfl, rfl, hS⟩
                      · replace H := ite_f H hb496
                        refine WR.runk [16, 17, 18, 19, 20, 21, 22, 23, 24, 25, 26, 27, 28, 29, 30, 31, 32, 33, 34, 35, 36, 37] [] [6] (L' := [(6, .bool false)]) (w' := w494) (by kernel_rfl) ?_
                        refine WR.nil ?_
                        refine At.go ?_
                        refine WC.ret (by kernel_rfl) ?_
                        obtain rfl := Option.some.inj H
                        have hS : Sat w494 (rf w0) [] := hS.sel [] (by kernel_rfl)
                        exact At.body [.bool false] (by kernel_rfl) ⟨_, rfl, rfl, hS⟩
                    · replace H := ite_f H hb486
                      refine WR.runk [11, 12, 13, 14, 15, 16, 17, 18, 19, 20, 21, 22, 23, 24, 25, 26, 27, 28, 29, 30, 31, 32, 33, 34, 35, 36, 37] [] [6] (L' := [(6, .bool false)]) (w' := w484) (by kernel_rfl) ?_
                      refine WR.nil ?_
                      refine At.go ?_
                      refine WC.ret (by kernel_rfl) ?_
                      obtain rfl := Option.some.inj H
                      have hS : Sat w484 (rf w0) [] := hS.sel [] (by kernel_rfl)
                      exact At.body [.bool false] (by kernel_rfl) ⟨_, rfl, rfl, hS⟩
                  · replace H := ite_f H hb476
                    refine WR.runk [5, 6, 7, 8, 9, 10, 11, 12, 13, 14, 15, 16, 17, 18, 19, 20, 21, 22, 23, 24, 25, 26, 27, 28, 29, 30, 31, 32, 33, 34, 35, 36, 37] [] [6] (L' := [(6, .bool false)]) (w' := w474) (by kernel_rfl) ?_
                    refine WR.nil ?_
                    refine At.go ?_
                    refine WC.ret (by kernel_rfl) ?_
                    obtain rfl := Option.some.inj H
                    have hS : Sat w474 (rf w0) [] := hS.sel [] (by kernel_rfl)
                    exact At.body [.bool false] (by kernel_rfl) ⟨_, rfl, rfl, hS⟩
end Go.Proofs.Ytomeiphaohjeoaa
