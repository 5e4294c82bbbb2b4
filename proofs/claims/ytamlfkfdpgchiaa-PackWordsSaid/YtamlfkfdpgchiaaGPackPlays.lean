/-
  Printed by gen.py (my own tool): for each Go function a plain Lean function and the proof that a call of it does what that function says.
-/
import Derived.Test.YtamlfkfdpgchiaaGP1b
set_option linter.unusedVariables false
set_option linter.unusedSimpArgs false
set_option maxRecDepth 100000
namespace Go.Proofs.Ytamlfkfdpgchiaa
open Go Go.Gol
/-! ### 7 colophon/colophonlaw01.PackPlays -/
def colophonlaw01_PackPlays.l2 (l2 : List (Int × Int)) (r125 : (List Int)) : Nat → (List Int) → Int → Option Unit
  | 0, _, _ => none
  | k + 1, x13_l2, x114_l2 => (if decide (x114_l2 < (r125.length : Int)) then ((at? x13_l2 x114_l2).bind fun v169 => ((set? x13_l2 x114_l2 77).bind fun y171 => colophonlaw01_PackPlays.l2 l2 r125 k y171 (wi (x114_l2 + 1)))) else some ())
def colophonlaw01_PackPlays.l3 (a1 : Int) (r108 : Bool × (Int × Int × (List Int))) (y121 : List Int) : Nat → Int → Option (Sum Bool Unit)
  | 0, _ => none
  | k + 1, x15_l3 => (if decide (x15_l3 ≤ a1) then (if decide (x15_l3 ≥ 0) then (if decide (x15_l3 < a1) then ((at? y121 x15_l3).bind fun v183 => ((pack_Ints_Get.f (some r108.2) x15_l3).bind fun r185 => (if (r185 != v183) then some (.inl false) else colophonlaw01_PackPlays.l3 a1 r108 y121 k (wi (x15_l3 + 1))))) else ((pack_Ints_Get.f (some r108.2) x15_l3).bind fun r195 => (if (r195 != 0) then some (.inl false) else colophonlaw01_PackPlays.l3 a1 r108 y121 k (wi (x15_l3 + 1))))) else ((pack_Ints_Get.f (some r108.2) x15_l3).bind fun r205 => (if (r205 != 0) then some (.inl false) else colophonlaw01_PackPlays.l3 a1 r108 y121 k (wi (x15_l3 + 1))))) else some (.inr ()))
def colophonlaw01_PackPlays.l4 (r225 : (List Int)) : Nat → (List Int) → Int → Option Unit
  | 0, _, _ => none
  | k + 1, x13_l4, x114_l4 => (if decide (x114_l4 < (r225.length : Int)) then ((at? x13_l4 x114_l4).bind fun v269 => ((set? x13_l4 x114_l4 77).bind fun y271 => colophonlaw01_PackPlays.l4 r225 k y271 (wi (x114_l4 + 1)))) else some ())
def colophonlaw01_PackPlays.l5 (a1 : Int) (x9_l1 : List Int) (r108 : Bool × (Int × Int × (List Int))) : Nat → Int → Option (Sum Bool Unit)
  | 0, _ => none
  | k + 1, x15_l5 => (if decide (x15_l5 ≤ a1) then (if decide (x15_l5 ≥ 0) then (if decide (x15_l5 < a1) then ((at? x9_l1 x15_l5).bind fun v283 => ((pack_Ints_Get.f (some r108.2) x15_l5).bind fun r285 => (if (r285 != v283) then some (.inl false) else colophonlaw01_PackPlays.l5 a1 x9_l1 r108 k (wi (x15_l5 + 1))))) else ((pack_Ints_Get.f (some r108.2) x15_l5).bind fun r295 => (if (r295 != 0) then some (.inl false) else colophonlaw01_PackPlays.l5 a1 x9_l1 r108 k (wi (x15_l5 + 1))))) else ((pack_Ints_Get.f (some r108.2) x15_l5).bind fun r305 => (if (r305 != 0) then some (.inl false) else colophonlaw01_PackPlays.l5 a1 x9_l1 r108 k (wi (x15_l5 + 1))))) else some (.inr ()))
def colophonlaw01_PackPlays.l6 (r335 : (List Int)) : Nat → (List Int) → Int → Option Unit
  | 0, _, _ => none
  | k + 1, x13_l6, x114_l6 => (if decide (x114_l6 < (r335.length : Int)) then ((at? x13_l6 x114_l6).bind fun v379 => ((set? x13_l6 x114_l6 77).bind fun y381 => colophonlaw01_PackPlays.l6 r335 k y381 (wi (x114_l6 + 1)))) else some ())
def colophonlaw01_PackPlays.l7 (a1 : Int) (x9_l1 : List Int) (r325 : Bool × (Int × Int × (List Int))) : Nat → Int → Option (Sum Bool Unit)
  | 0, _ => none
  | k + 1, x15_l7 => (if decide (x15_l7 ≤ a1) then (if decide (x15_l7 ≥ 0) then (if decide (x15_l7 < a1) then ((at? x9_l1 x15_l7).bind fun v393 => ((pack_Ints_Get.f (some r325.2) x15_l7).bind fun r395 => (if (r395 != v393) then some (.inl false) else colophonlaw01_PackPlays.l7 a1 x9_l1 r325 k (wi (x15_l7 + 1))))) else ((pack_Ints_Get.f (some r325.2) x15_l7).bind fun r405 => (if (r405 != 0) then some (.inl false) else colophonlaw01_PackPlays.l7 a1 x9_l1 r325 k (wi (x15_l7 + 1))))) else ((pack_Ints_Get.f (some r325.2) x15_l7).bind fun r415 => (if (r415 != 0) then some (.inl false) else colophonlaw01_PackPlays.l7 a1 x9_l1 r325 k (wi (x15_l7 + 1))))) else some (.inr ()))
def colophonlaw01_PackPlays.l8 (r445 : (List Int)) : Nat → (List Int) → Int → Option Unit
  | 0, _, _ => none
  | k + 1, x13_l8, x114_l8 => (if decide (x114_l8 < (r445.length : Int)) then ((at? x13_l8 x114_l8).bind fun v489 => ((set? x13_l8 x114_l8 77).bind fun y491 => colophonlaw01_PackPlays.l8 r445 k y491 (wi (x114_l8 + 1)))) else some ())
def colophonlaw01_PackPlays.l9 (a1 : Int) (x9_l1 : List Int) (r435 : Bool × (Int × Int × (List Int))) : Nat → Int → Option (Sum Bool Unit)
  | 0, _ => none
  | k + 1, x15_l9 => (if decide (x15_l9 ≤ a1) then (if decide (x15_l9 ≥ 0) then (if decide (x15_l9 < a1) then ((at? x9_l1 x15_l9).bind fun v503 => ((pack_Ints_Get.f (some r435.2) x15_l9).bind fun r505 => (if (r505 != v503) then some (.inl false) else colophonlaw01_PackPlays.l9 a1 x9_l1 r435 k (wi (x15_l9 + 1))))) else ((pack_Ints_Get.f (some r435.2) x15_l9).bind fun r515 => (if (r515 != 0) then some (.inl false) else colophonlaw01_PackPlays.l9 a1 x9_l1 r435 k (wi (x15_l9 + 1))))) else ((pack_Ints_Get.f (some r435.2) x15_l9).bind fun r525 => (if (r525 != 0) then some (.inl false) else colophonlaw01_PackPlays.l9 a1 x9_l1 r435 k (wi (x15_l9 + 1))))) else some (.inr ()))
def colophonlaw01_PackPlays.l1 (a0 : Int) (a1 : Int) (l2 : List (Int × Int)) : Nat → (List Int) → Int → (Int × Int × (List Int)) → Option (Sum (Int × Int × (List Int)) (Bool × (Int × Int × (List Int))))
  | 0, _, _, _ => none
  | k + 1, x9_l1, x66_l1, q88_l1 => (if decide (x66_l1 < (l2.length : Int)) then ((at? l2 x66_l1).bind fun v90 => (if decide (x66_l1 ≥ 60) then some (.inl q88_l1) else (if decide (v90.1 ≥ 0) then (if decide (v90.1 < a1) then ((colophonref01_Fits.f a0 v90.2).bind fun r99 => ((pack_Ints_Set.f q88_l1 v90.1 v90.2).bind fun r108 => (if (r108.1 != r99) then some (.inr (false, r108.2)) else (if r99 then ((at? x9_l1 v90.1).bind fun v119 => ((set? x9_l1 v90.1 v90.2).bind fun y121 => ((pack_Ints_Words.f (some r108.2)).bind fun r125 => ((colophonref01_Bits.f a0 y121).bind fun r136 => ((colophonref01_Words.f r136).bind fun r147 => ((colophonref01_Same.f r125 r147).bind fun r158 => (if (!r158) then some (.inr (false, r108.2)) else ((colophonlaw01_PackPlays.l2 l2 r125 FU r125 0).bind fun o175 => ((colophonlaw01_PackPlays.l3 a1 r108 y121 FU (-1)).bind fun o215 => (match o215 with | .inl o217 => some (.inr (o217, r108.2)) | .inr o221 => colophonlaw01_PackPlays.l1 a0 a1 l2 k y121 (wi (x66_l1 + 1)) r108.2)))))))))) else ((pack_Ints_Words.f (some r108.2)).bind fun r225 => ((colophonref01_Bits.f a0 x9_l1).bind fun r236 => ((colophonref01_Words.f r236).bind fun r247 => ((colophonref01_Same.f r225 r247).bind fun r258 => (if (!r258) then some (.inr (false, r108.2)) else ((colophonlaw01_PackPlays.l4 r225 FU r225 0).bind fun o275 => ((colophonlaw01_PackPlays.l5 a1 x9_l1 r108 FU (-1)).bind fun o315 => (match o315 with | .inl o317 => some (.inr (o317, r108.2)) | .inr o321 => colophonlaw01_PackPlays.l1 a0 a1 l2 k x9_l1 (wi (x66_l1 + 1)) r108.2)))))))))))) else ((pack_Ints_Set.f q88_l1 v90.1 v90.2).bind fun r325 => (if (r325.1 != false) then some (.inr (false, r325.2)) else ((pack_Ints_Words.f (some r325.2)).bind fun r335 => ((colophonref01_Bits.f a0 x9_l1).bind fun r346 => ((colophonref01_Words.f r346).bind fun r357 => ((colophonref01_Same.f r335 r357).bind fun r368 => (if (!r368) then some (.inr (false, r325.2)) else ((colophonlaw01_PackPlays.l6 r335 FU r335 0).bind fun o385 => ((colophonlaw01_PackPlays.l7 a1 x9_l1 r325 FU (-1)).bind fun o425 => (match o425 with | .inl o427 => some (.inr (o427, r325.2)) | .inr o431 => colophonlaw01_PackPlays.l1 a0 a1 l2 k x9_l1 (wi (x66_l1 + 1)) r325.2))))))))))) else ((pack_Ints_Set.f q88_l1 v90.1 v90.2).bind fun r435 => (if (r435.1 != false) then some (.inr (false, r435.2)) else ((pack_Ints_Words.f (some r435.2)).bind fun r445 => ((colophonref01_Bits.f a0 x9_l1).bind fun r456 => ((colophonref01_Words.f r456).bind fun r467 => ((colophonref01_Same.f r445 r467).bind fun r478 => (if (!r478) then some (.inr (false, r435.2)) else ((colophonlaw01_PackPlays.l8 r445 FU r445 0).bind fun o495 => ((colophonlaw01_PackPlays.l9 a1 x9_l1 r435 FU (-1)).bind fun o535 => (match o535 with | .inl o537 => some (.inr (o537, r435.2)) | .inr o541 => colophonlaw01_PackPlays.l1 a0 a1 l2 k x9_l1 (wi (x66_l1 + 1)) r435.2))))))))))))) else some (.inl q88_l1))
def colophonlaw01_PackPlays.f (a0 : Int) (a1 : Int) (l2 : List (Int × Int)) : Option Bool := (colophonlaw01_first.f.bind fun r1 => (if (!r1) then some false else ((pack_New.f a0 a1).bind fun r11 => ((colophonref01_Right.f a0 a1).bind fun r21 => (if (!r21) then (if (r11.2 == 2) then (match r11.1 with | none => some true | some y32 => some false) else some false) else (if (r11.2 != 0) then some false else ((pack_Ints_Len.f r11.1).bind fun r39 => (if (r39 != a1) then some false else ((pack_Ints_Width.f r11.1).bind fun r49 => (if (r49 != a0) then some false else (if decide (a1 > 500) then ((pack_Ints_Get.f r11.1 (wi (a1 - 1))).bind fun r60 => (if (r60 == 0) then ((pack_Ints_Get.f r11.1 a1).bind fun r70 => some (r70 == 0)) else some false)) else ((make? 17592186044416 0 a1).bind fun y79 => (r11.1.bind fun y84 => ((colophonlaw01_PackPlays.l1 a0 a1 l2 FU y79 0 y84).bind fun o545 => (match o545 with | .inl o547 => some true | .inr o551 => some o551.1)))))))))))))))
def colophonlaw01_PackPlays.post (w : World) (r : Bool) (v : Value) (w' : World) : Prop := v = (.bool r : Value) ∧ Sat w' (rf w) []
theorem colophonlaw01_PackPlays.l2_ok {Q} (w0 : World) (a0 : Int) (a1 : Int) (A2 : Option Addr) (c2 : Nat) (l2 : List (Int × Int)) (b87 : Nat) (A9_l1 : Option Addr) (c9_l1 : Nat) (x66_l1 : Int) (v90 : Int × Int) (b92 : Nat) (r108 : Bool × (Int × Int × (List Int))) (y121 : List Int) (r125 : (List Int)) (out : Unit) (hn0 : ∀ (w : World), Sat w (rf w0) [osl 22 (r0 (.int .u64)) 1 A9_l1 c9_l1 y121, O55 b87 r108.2] → At Q (.exit 2) 143 [(0, .int .i64 a0), (1, .int .i64 a1), (7, .pointer (some ⟨b87, 0, none⟩)), (9, .slice A9_l1 y121.length c9_l1), (64, .slice A2 l2.length c2), (65, .int .i64 (l2.length : Int)), (66, .int .i64 x66_l1), (77, .pointer (some ⟨b92, 0, none⟩)), (78, .int .i64 v90.1), (79, .int .i64 a1), (80, .bool (decide (v90.1 < a1))), (83, .int .i64 a0), (84, .pointer (some ⟨b92, 1, none⟩)), (85, .int .u64 v90.2)] w) :
    ∀ (k : Nat) (x13_l2 : List Int) (x114_l2 : Int) (A13_l2 : Option Addr) (c13_l2 : Nat) (w : World), Sat w (rf w0) [osl 22 (r0 (.int .u64)) 1 A9_l1 c9_l1 y121, osl 22 (r0 (.int .u64)) 1 A13_l2 c13_l2 x13_l2, O55 b87 r108.2] → colophonlaw01_PackPlays.l2 l2 r125 k x13_l2 x114_l2 = some out → WL Try.prog (cbody (cbody (cr (cl (cr (cr (cr (cr (cr (cr (cr (cbody (cl (cr (cr (cbody (cbody (cr (cl (cr (cr (cr (cr (cr (cr (cr C7)))))))))))))))))))))))))) Q 143 [(0, .int .i64 a0), (1, .int .i64 a1), (7, .pointer (some ⟨b87, 0, none⟩)), (9, .slice A9_l1 y121.length c9_l1), (13, .slice A13_l2 x13_l2.length c13_l2), (64, .slice A2 l2.length c2), (65, .int .i64 (l2.length : Int)), (66, .int .i64 x66_l1), (77, .pointer (some ⟨b92, 0, none⟩)), (78, .int .i64 v90.1), (79, .int .i64 a1), (80, .bool (decide (v90.1 < a1))), (83, .int .i64 a0), (84, .pointer (some ⟨b92, 1, none⟩)), (85, .int .u64 v90.2), (113, .int .i64 (r125.length : Int)), (114, .int .i64 x114_l2)] w := by
  intro k
  induction k with
  | zero => intro x13_l2 x114_l2 A13_l2 c13_l2 w hS H; exact absurd (show none = some out from H) (by simp)
  | succ k ih =>
    intro x13_l2 x114_l2 A13_l2 c13_l2 w hS H
    unfold colophonlaw01_PackPlays.l2 at H
    refine WL.round ?_
    refine WC.seq (by kernel_rfl) ?_
    refine WC.reg [0] (by kernel_rfl) (by kernel_rfl) ?_
    refine WR.runk [0] [] [0, 1, 7, 9, 13, 64, 65, 66, 77, 78, 79, 80, 83, 84, 85, 113, 114, 115] (L' := [(0, .int .i64 a0), (1, .int .i64 a1), (7, .pointer (some ⟨b87, 0, none⟩)), (9, .slice A9_l1 y121.length c9_l1), (13, .slice A13_l2 x13_l2.length c13_l2), (64, .slice A2 l2.length c2), (65, .int .i64 (l2.length : Int)), (66, .int .i64 x66_l1), (77, .pointer (some ⟨b92, 0, none⟩)), (78, .int .i64 v90.1), (79, .int .i64 a1), (80, .bool (decide (v90.1 < a1))), (83, .int .i64 a0), (84, .pointer (some ⟨b92, 1, none⟩)), (85, .int .u64 v90.2), (113, .int .i64 (r125.length : Int)), (114, .int .i64 x114_l2), (115, .bool (decide (x114_l2 < (r125.length : Int))))]) (w' := w) (by kernel_rfl) ?_
    refine WR.nil ?_
    refine At.go ?_
    refine WC.seq (by kernel_rfl) ?_
    refine WC.cond (by kernel_rfl) (decide (x114_l2 < (r125.length : Int))) (by kernel_rfl) (by kernel_rfl) (fun hb168 => ?_) (fun hb168 => ?_)
    · replace H := ite_t H hb168
      refine WC.skip (by kernel_rfl) ?_
      refine At.go ?_
      refine WC.seq (by kernel_rfl) ?_
      refine WC.block (by kernel_rfl) ?_
      refine WC.seq (by kernel_rfl) ?_
      refine WC.reg [0, 1] (by kernel_rfl) (by kernel_rfl) ?_
      refine WR.runk [0, 1] [] [0, 1, 7, 9, 13, 14, 64, 65, 66, 77, 78, 79, 80, 83, 84, 85, 113, 114] (L' := [(0, .int .i64 a0), (1, .int .i64 a1), (7, .pointer (some ⟨b87, 0, none⟩)), (9, .slice A9_l1 y121.length c9_l1), (13, .slice A13_l2 x13_l2.length c13_l2), (14, .int .i64 x114_l2), (64, .slice A2 l2.length c2), (65, .int .i64 (l2.length : Int)), (66, .int .i64 x66_l1), (77, .pointer (some ⟨b92, 0, none⟩)), (78, .int .i64 v90.1), (79, .int .i64 a1), (80, .bool (decide (v90.1 < a1))), (83, .int .i64 a0), (84, .pointer (some ⟨b92, 1, none⟩)), (85, .int .u64 v90.2), (113, .int .i64 (r125.length : Int)), (114, .int .i64 x114_l2)]) (w' := w) (by kernel_rfl) ?_
      refine WR.nil ?_
      refine At.go ?_
      refine WC.reg [0, 1, 2, 3] (by kernel_rfl) (by kernel_rfl) ?_
      refine WR.runk [0, 1] [2, 3] [0, 1, 7, 9, 13, 64, 65, 66, 77, 78, 79, 80, 83, 84, 85, 113, 114, 117, 118] (L' := [(0, .int .i64 a0), (1, .int .i64 a1), (7, .pointer (some ⟨b87, 0, none⟩)), (9, .slice A9_l1 y121.length c9_l1), (13, .slice A13_l2 x13_l2.length c13_l2), (64, .slice A2 l2.length c2), (65, .int .i64 (l2.length : Int)), (66, .int .i64 x66_l1), (77, .pointer (some ⟨b92, 0, none⟩)), (78, .int .i64 v90.1), (79, .int .i64 a1), (80, .bool (decide (v90.1 < a1))), (83, .int .i64 a0), (84, .pointer (some ⟨b92, 1, none⟩)), (85, .int .u64 v90.2), (113, .int .i64 (r125.length : Int)), (114, .int .i64 x114_l2), (117, .slice A13_l2 x13_l2.length c13_l2), (118, .int .i64 x114_l2)]) (w' := w) (by kernel_rfl) ?_
      obtain ⟨v169, e170, H⟩ := bind_ex H
      refine WR.st (St.ofP (PSt.idx (k := .i64) (.tmp 117) (.tmp 118) (by kernel_rfl) (by kernel_rfl) E32 (by kernel_rfl) (by kernel_rfl) (Sat.rdAt 1 hS rfl) e170 ?_))
      refine WR.runk [] [3] [0, 1, 7, 9, 13, 64, 65, 66, 77, 78, 79, 80, 83, 84, 85, 113, 114, 119] (L' := [(0, .int .i64 a0), (1, .int .i64 a1), (7, .pointer (some ⟨b87, 0, none⟩)), (9, .slice A9_l1 y121.length c9_l1), (13, .slice A13_l2 x13_l2.length c13_l2), (64, .slice A2 l2.length c2), (65, .int .i64 (l2.length : Int)), (66, .int .i64 x66_l1), (77, .pointer (some ⟨b92, 0, none⟩)), (78, .int .i64 v90.1), (79, .int .i64 a1), (80, .bool (decide (v90.1 < a1))), (83, .int .i64 a0), (84, .pointer (some ⟨b92, 1, none⟩)), (85, .int .u64 v90.2), (113, .int .i64 (r125.length : Int)), (114, .int .i64 x114_l2), (119, .pointer (some (adr A13_l2 x114_l2.toNat 1)))]) (w' := w) (by kernel_rfl) ?_
      have hS : Sat w (rf w0) [osl 22 (r0 (.int .u64)) 1 A13_l2 c13_l2 x13_l2, osl 22 (r0 (.int .u64)) 1 A9_l1 c9_l1 y121, O55 b87 r108.2] := hS.sel [1, 0, 2] (by kernel_rfl)
      obtain ⟨y171, e172, H⟩ := bind_ex H
      refine WR.st (St.storeElem' (t := 22) (.tmp 119) (.const (.int .u64 77)) (by kernel_rfl) (by kernel_rfl) (by kernel_rfl) hS (by kernel_rfl) (by kernel_rfl) rfl e172 rfl (fun w173 hS => ?_))
      have hl174 := set?_len e172
      refine WR.know 13 (.slice A13_l2 y171.length c13_l2) (.slice A13_l2 x13_l2.length c13_l2) (by kernel_rfl) (by rw [hl174]) ?_
      refine WR.runk [] [] [0, 1, 7, 9, 13, 64, 65, 66, 77, 78, 79, 80, 83, 84, 85, 113, 114] (L' := [(0, .int .i64 a0), (1, .int .i64 a1), (7, .pointer (some ⟨b87, 0, none⟩)), (9, .slice A9_l1 y121.length c9_l1), (13, .slice A13_l2 y171.length c13_l2), (64, .slice A2 l2.length c2), (65, .int .i64 (l2.length : Int)), (66, .int .i64 x66_l1), (77, .pointer (some ⟨b92, 0, none⟩)), (78, .int .i64 v90.1), (79, .int .i64 a1), (80, .bool (decide (v90.1 < a1))), (83, .int .i64 a0), (84, .pointer (some ⟨b92, 1, none⟩)), (85, .int .u64 v90.2), (113, .int .i64 (r125.length : Int)), (114, .int .i64 x114_l2)]) (w' := w173) (by kernel_rfl) ?_
      refine WR.nil ?_
      refine At.blockNormal ?_
      refine At.go ?_
      refine WC.reg [0, 1] (by kernel_rfl) (by kernel_rfl) ?_
      refine WR.runk [0, 1] [] [0, 1, 7, 9, 13, 64, 65, 66, 77, 78, 79, 80, 83, 84, 85, 113, 114] (L' := [(0, .int .i64 a0), (1, .int .i64 a1), (7, .pointer (some ⟨b87, 0, none⟩)), (9, .slice A9_l1 y121.length c9_l1), (13, .slice A13_l2 y171.length c13_l2), (64, .slice A2 l2.length c2), (65, .int .i64 (l2.length : Int)), (66, .int .i64 x66_l1), (77, .pointer (some ⟨b92, 0, none⟩)), (78, .int .i64 v90.1), (79, .int .i64 a1), (80, .bool (decide (v90.1 < a1))), (83, .int .i64 a0), (84, .pointer (some ⟨b92, 1, none⟩)), (85, .int .u64 v90.2), (113, .int .i64 (r125.length : Int)), (114, .int .i64 (wi (x114_l2 + 1)))]) (w' := w173) (by kernel_rfl) ?_
      refine WR.nil ?_
      have hS : Sat w173 (rf w0) [osl 22 (r0 (.int .u64)) 1 A9_l1 c9_l1 y121, osl 22 (r0 (.int .u64)) 1 A13_l2 c13_l2 y171, O55 b87 r108.2] := hS.sel [1, 0, 2] (by kernel_rfl)
      refine At.again ?_
      refine WL.weaken [0, 1, 7, 9, 13, 64, 65, 66, 77, 78, 79, 80, 83, 84, 85, 113, 114] (L' := [(0, .int .i64 a0), (1, .int .i64 a1), (7, .pointer (some ⟨b87, 0, none⟩)), (9, .slice A9_l1 y121.length c9_l1), (13, .slice A13_l2 y171.length c13_l2), (64, .slice A2 l2.length c2), (65, .int .i64 (l2.length : Int)), (66, .int .i64 x66_l1), (77, .pointer (some ⟨b92, 0, none⟩)), (78, .int .i64 v90.1), (79, .int .i64 a1), (80, .bool (decide (v90.1 < a1))), (83, .int .i64 a0), (84, .pointer (some ⟨b92, 1, none⟩)), (85, .int .u64 v90.2), (113, .int .i64 (r125.length : Int)), (114, .int .i64 (wi (x114_l2 + 1)))]) (by kernel_rfl) ?_
      exact ih y171 (wi (x114_l2 + 1)) A13_l2 c13_l2 _ hS H
    · replace H := ite_f H hb168
      refine WC.exit (by kernel_rfl) ?_
      refine At.thenExit ?_
      refine At.thenExit ?_
      obtain rfl := Option.some.inj H
      have hS : Sat w (rf w0) [osl 22 (r0 (.int .u64)) 1 A9_l1 c9_l1 y121, O55 b87 r108.2] := hS.sel [0, 2] (by kernel_rfl)
      refine At.weaken [0, 1, 7, 9, 64, 65, 66, 77, 78, 79, 80, 83, 84, 85] (L' := [(0, .int .i64 a0), (1, .int .i64 a1), (7, .pointer (some ⟨b87, 0, none⟩)), (9, .slice A9_l1 y121.length c9_l1), (64, .slice A2 l2.length c2), (65, .int .i64 (l2.length : Int)), (66, .int .i64 x66_l1), (77, .pointer (some ⟨b92, 0, none⟩)), (78, .int .i64 v90.1), (79, .int .i64 a1), (80, .bool (decide (v90.1 < a1))), (83, .int .i64 a0), (84, .pointer (some ⟨b92, 1, none⟩)), (85, .int .u64 v90.2)]) (by kernel_rfl) ?_
      exact hn0 _ hS
theorem colophonlaw01_PackPlays.l3_ok {Q} (w0 : World) (a0 : Int) (a1 : Int) (A2 : Option Addr) (c2 : Nat) (l2 : List (Int × Int)) (b87 : Nat) (A9_l1 : Option Addr) (c9_l1 : Nat) (x66_l1 : Int) (v90 : Int × Int) (b92 : Nat) (r108 : Bool × (Int × Int × (List Int))) (y121 : List Int) (out : Sum Bool Unit) (hn0 : ∀ (o0 : Bool) (w : World), out = (.inl o0) → Sat w (rf w0) [O55 b87 r108.2] → At Q .ret 143 [(6, .bool o0)] w) (hn1 : ∀ (o1 : Unit) (w : World), out = (.inr o1) → Sat w (rf w0) [osl 22 (r0 (.int .u64)) 1 A9_l1 c9_l1 y121, O55 b87 r108.2] → At Q (.exit 4) 143 [(0, .int .i64 a0), (1, .int .i64 a1), (7, .pointer (some ⟨b87, 0, none⟩)), (9, .slice A9_l1 y121.length c9_l1), (64, .slice A2 l2.length c2), (65, .int .i64 (l2.length : Int)), (66, .int .i64 x66_l1), (77, .pointer (some ⟨b92, 0, none⟩)), (78, .int .i64 v90.1), (79, .int .i64 a1), (80, .bool (decide (v90.1 < a1))), (83, .int .i64 a0), (84, .pointer (some ⟨b92, 1, none⟩)), (85, .int .u64 v90.2)] w) :
    ∀ (k : Nat) (x15_l3 : Int) (w : World), Sat w (rf w0) [osl 22 (r0 (.int .u64)) 1 A9_l1 c9_l1 y121, O55 b87 r108.2] → colophonlaw01_PackPlays.l3 a1 r108 y121 k x15_l3 = some out → WL Try.prog (cbody (cbody (cr (cr (cr (cr (cr (cr (cr (cr (cr (cbody (cl (cr (cr (cbody (cbody (cr (cl (cr (cr (cr (cr (cr (cr (cr C7)))))))))))))))))))))))))) Q 143 [(0, .int .i64 a0), (1, .int .i64 a1), (7, .pointer (some ⟨b87, 0, none⟩)), (9, .slice A9_l1 y121.length c9_l1), (15, .int .i64 x15_l3), (64, .slice A2 l2.length c2), (65, .int .i64 (l2.length : Int)), (66, .int .i64 x66_l1), (77, .pointer (some ⟨b92, 0, none⟩)), (78, .int .i64 v90.1), (79, .int .i64 a1), (80, .bool (decide (v90.1 < a1))), (83, .int .i64 a0), (84, .pointer (some ⟨b92, 1, none⟩)), (85, .int .u64 v90.2)] w := by
  intro k
  induction k with
  | zero => intro x15_l3 w hS H; exact absurd (show none = some out from H) (by simp)
  | succ k ih =>
    intro x15_l3 w hS H
    unfold colophonlaw01_PackPlays.l3 at H
    refine WL.round ?_
    refine WC.seq (by kernel_rfl) ?_
    refine WC.seq (by kernel_rfl) ?_
    refine WC.reg [0, 1, 2] (by kernel_rfl) (by kernel_rfl) ?_
    refine WR.runk [0, 1, 2] [] [0, 1, 7, 9, 15, 64, 65, 66, 77, 78, 79, 80, 83, 84, 85, 123] (L' := [(0, .int .i64 a0), (1, .int .i64 a1), (7, .pointer (some ⟨b87, 0, none⟩)), (9, .slice A9_l1 y121.length c9_l1), (15, .int .i64 x15_l3), (64, .slice A2 l2.length c2), (65, .int .i64 (l2.length : Int)), (66, .int .i64 x66_l1), (77, .pointer (some ⟨b92, 0, none⟩)), (78, .int .i64 v90.1), (79, .int .i64 a1), (80, .bool (decide (v90.1 < a1))), (83, .int .i64 a0), (84, .pointer (some ⟨b92, 1, none⟩)), (85, .int .u64 v90.2), (123, .bool (decide (x15_l3 ≤ a1)))]) (w' := w) (by kernel_rfl) ?_
    refine WR.nil ?_
    refine At.go ?_
    refine WC.cond (by kernel_rfl) (decide (x15_l3 ≤ a1)) (by kernel_rfl) (by kernel_rfl) (fun hb180 => ?_) (fun hb180 => ?_)
    · replace H := ite_t H hb180
      refine WC.skip (by kernel_rfl) ?_
      refine At.go ?_
      refine WC.seq (by kernel_rfl) ?_
      refine WC.block (by kernel_rfl) ?_
      refine WC.seq (by kernel_rfl) ?_
      refine WC.reg [0] (by kernel_rfl) (by kernel_rfl) ?_
      refine WR.runk [0] [] [0, 1, 7, 9, 15, 16, 64, 65, 66, 77, 78, 79, 80, 83, 84, 85] (L' := [(0, .int .i64 a0), (1, .int .i64 a1), (7, .pointer (some ⟨b87, 0, none⟩)), (9, .slice A9_l1 y121.length c9_l1), (15, .int .i64 x15_l3), (16, .int .u64 0), (64, .slice A2 l2.length c2), (65, .int .i64 (l2.length : Int)), (66, .int .i64 x66_l1), (77, .pointer (some ⟨b92, 0, none⟩)), (78, .int .i64 v90.1), (79, .int .i64 a1), (80, .bool (decide (v90.1 < a1))), (83, .int .i64 a0), (84, .pointer (some ⟨b92, 1, none⟩)), (85, .int .u64 v90.2)]) (w' := w) (by kernel_rfl) ?_
      refine WR.nil ?_
      refine At.go ?_
      refine WC.seq (by kernel_rfl) ?_
      refine WC.seq (by kernel_rfl) ?_
      refine WC.reg [0, 1, 2, 3, 4, 5, 6] (by kernel_rfl) (by kernel_rfl) ?_
      refine WR.runk [0, 1, 2] [3, 4, 5, 6] [0, 1, 7, 9, 15, 16, 64, 65, 66, 77, 78, 79, 80, 83, 84, 85, 128] (L' := [(0, .int .i64 a0), (1, .int .i64 a1), (7, .pointer (some ⟨b87, 0, none⟩)), (9, .slice A9_l1 y121.length c9_l1), (15, .int .i64 x15_l3), (16, .int .u64 0), (64, .slice A2 l2.length c2), (65, .int .i64 (l2.length : Int)), (66, .int .i64 x66_l1), (77, .pointer (some ⟨b92, 0, none⟩)), (78, .int .i64 v90.1), (79, .int .i64 a1), (80, .bool (decide (v90.1 < a1))), (83, .int .i64 a0), (84, .pointer (some ⟨b92, 1, none⟩)), (85, .int .u64 v90.2), (128, .bool (decide (x15_l3 ≥ 0)))]) (w' := w) (by kernel_rfl) ?_
      refine WR.split 128 (b := decide (x15_l3 ≥ 0)) (by kernel_rfl) (fun hb181 => ?_) (fun hb181 => ?_)
      · replace H := ite_t H hb181
        refine WR.runk [3, 4, 5, 6] [] [0, 1, 7, 9, 15, 16, 64, 65, 66, 77, 78, 79, 80, 83, 84, 85, 129, 130, 131, 132] (L' := [(0, .int .i64 a0), (1, .int .i64 a1), (7, .pointer (some ⟨b87, 0, none⟩)), (9, .slice A9_l1 y121.length c9_l1), (15, .int .i64 x15_l3), (16, .int .u64 0), (64, .slice A2 l2.length c2), (65, .int .i64 (l2.length : Int)), (66, .int .i64 x66_l1), (77, .pointer (some ⟨b92, 0, none⟩)), (78, .int .i64 v90.1), (79, .int .i64 a1), (80, .bool (decide (v90.1 < a1))), (83, .int .i64 a0), (84, .pointer (some ⟨b92, 1, none⟩)), (85, .int .u64 v90.2), (129, .int .i64 x15_l3), (130, .int .i64 a1), (131, .bool (decide (x15_l3 < a1))), (132, .bool (decide (x15_l3 < a1)))]) (w' := w) (by kernel_rfl) ?_
        refine WR.nil ?_
        refine At.go ?_
        refine WC.cond (by kernel_rfl) (decide (x15_l3 < a1)) (by kernel_rfl) (by kernel_rfl) (fun hb182 => ?_) (fun hb182 => ?_)
        · replace H := ite_t H hb182
          refine WC.reg [0, 1, 2, 3, 4] (by kernel_rfl) (by kernel_rfl) ?_
          refine WR.runk [0, 1] [2, 3, 4] [0, 1, 7, 9, 15, 16, 64, 65, 66, 77, 78, 79, 80, 83, 84, 85, 129, 130, 133, 134] (L' := [(0, .int .i64 a0), (1, .int .i64 a1), (7, .pointer (some ⟨b87, 0, none⟩)), (9, .slice A9_l1 y121.length c9_l1), (15, .int .i64 x15_l3), (16, .int .u64 0), (64, .slice A2 l2.length c2), (65, .int .i64 (l2.length : Int)), (66, .int .i64 x66_l1), (77, .pointer (some ⟨b92, 0, none⟩)), (78, .int .i64 v90.1), (79, .int .i64 a1), (80, .bool (decide (v90.1 < a1))), (83, .int .i64 a0), (84, .pointer (some ⟨b92, 1, none⟩)), (85, .int .u64 v90.2), (129, .int .i64 x15_l3), (130, .int .i64 a1), (133, .slice A9_l1 y121.length c9_l1), (134, .int .i64 x15_l3)]) (w' := w) (by kernel_rfl) ?_
          obtain ⟨v183, e184, H⟩ := bind_ex H
          refine WR.st (St.ofP (PSt.idx (k := .i64) (.tmp 133) (.tmp 134) (by kernel_rfl) (by kernel_rfl) E32 (by kernel_rfl) (by kernel_rfl) (Sat.rdAt 0 hS rfl) e184 ?_))
          refine WR.runk [] [3, 4] [0, 1, 7, 9, 15, 16, 64, 65, 66, 77, 78, 79, 80, 83, 84, 85, 129, 130, 135] (L' := [(0, .int .i64 a0), (1, .int .i64 a1), (7, .pointer (some ⟨b87, 0, none⟩)), (9, .slice A9_l1 y121.length c9_l1), (15, .int .i64 x15_l3), (16, .int .u64 0), (64, .slice A2 l2.length c2), (65, .int .i64 (l2.length : Int)), (66, .int .i64 x66_l1), (77, .pointer (some ⟨b92, 0, none⟩)), (78, .int .i64 v90.1), (79, .int .i64 a1), (80, .bool (decide (v90.1 < a1))), (83, .int .i64 a0), (84, .pointer (some ⟨b92, 1, none⟩)), (85, .int .u64 v90.2), (129, .int .i64 x15_l3), (130, .int .i64 a1), (135, .pointer (some (adr A9_l1 x15_l3.toNat 1)))]) (w' := w) (by kernel_rfl) ?_
          refine WR.st (St.ofR (RSt.loadInt (t := 22) (.tmp 135) (by kernel_rfl) (by kernel_rfl) (by kernel_rfl) (by kernel_rfl) (Sat.rdAt 0 hS rfl) e184 ?_))
          refine WR.runk [4] [] [0, 1, 7, 9, 15, 16, 64, 65, 66, 77, 78, 79, 80, 83, 84, 85, 129, 130] (L' := [(0, .int .i64 a0), (1, .int .i64 a1), (7, .pointer (some ⟨b87, 0, none⟩)), (9, .slice A9_l1 y121.length c9_l1), (15, .int .i64 x15_l3), (16, .int .u64 v183), (64, .slice A2 l2.length c2), (65, .int .i64 (l2.length : Int)), (66, .int .i64 x66_l1), (77, .pointer (some ⟨b92, 0, none⟩)), (78, .int .i64 v90.1), (79, .int .i64 a1), (80, .bool (decide (v90.1 < a1))), (83, .int .i64 a0), (84, .pointer (some ⟨b92, 1, none⟩)), (85, .int .u64 v90.2), (129, .int .i64 x15_l3), (130, .int .i64 a1)]) (w' := w) (by kernel_rfl) ?_
          refine WR.nil ?_
          refine At.go ?_
          refine WC.seq (by kernel_rfl) ?_
          refine WC.reg [0, 1, 2, 3, 4] (by kernel_rfl) (by kernel_rfl) ?_
          refine WR.runk [0, 1] [2, 3, 4] [0, 1, 7, 9, 15, 16, 64, 65, 66, 77, 78, 79, 80, 83, 84, 85, 129, 130, 137, 138] (L' := [(0, .int .i64 a0), (1, .int .i64 a1), (7, .pointer (some ⟨b87, 0, none⟩)), (9, .slice A9_l1 y121.length c9_l1), (15, .int .i64 x15_l3), (16, .int .u64 v183), (64, .slice A2 l2.length c2), (65, .int .i64 (l2.length : Int)), (66, .int .i64 x66_l1), (77, .pointer (some ⟨b92, 0, none⟩)), (78, .int .i64 v90.1), (79, .int .i64 a1), (80, .bool (decide (v90.1 < a1))), (83, .int .i64 a0), (84, .pointer (some ⟨b92, 1, none⟩)), (85, .int .u64 v90.2), (129, .int .i64 x15_l3), (130, .int .i64 a1), (137, .pointer (some ⟨b87, 0, none⟩)), (138, .int .i64 x15_l3)]) (w' := w) (by kernel_rfl) ?_
          obtain ⟨r185, e186, H⟩ := bind_ex H
          refine WR.st (St.call (by kernel_rfl) (f := 13) (args := #[.pointer (some ⟨b87, 0, none⟩), .int .i64 x15_l3]) (by kernel_rfl) (pack_Ints_Get.calls w (.pointer (some ⟨b87, 0, none⟩)) (some r108.2) (Sat.rdAny 1 hS rfl (fun _ h => O55.rd _ _ _ h)) x15_l3 r185 e186) ?_)
          rintro _ w192 ⟨rfl, hS193⟩
          have hS : Sat w192 (rf w0) [osl 22 (r0 (.int .u64)) 1 A9_l1 c9_l1 y121, O55 b87 r108.2] := hS.ext hS193
          refine WR.runk [3, 4] [] [0, 1, 7, 9, 15, 64, 65, 66, 77, 78, 79, 80, 83, 84, 85, 129, 130, 141] (L' := [(0, .int .i64 a0), (1, .int .i64 a1), (7, .pointer (some ⟨b87, 0, none⟩)), (9, .slice A9_l1 y121.length c9_l1), (15, .int .i64 x15_l3), (64, .slice A2 l2.length c2), (65, .int .i64 (l2.length : Int)), (66, .int .i64 x66_l1), (77, .pointer (some ⟨b92, 0, none⟩)), (78, .int .i64 v90.1), (79, .int .i64 a1), (80, .bool (decide (v90.1 < a1))), (83, .int .i64 a0), (84, .pointer (some ⟨b92, 1, none⟩)), (85, .int .u64 v90.2), (129, .int .i64 x15_l3), (130, .int .i64 a1), (141, .bool (r185 != v183))]) (w' := w192) (by kernel_rfl) ?_
          refine WR.nil ?_
          refine At.go ?_
          refine WC.cond (by kernel_rfl) (r185 != v183) (by kernel_rfl) (by kernel_rfl) (fun hb194 => ?_) (fun hb194 => ?_)
          · replace H := ite_t H hb194
            refine WC.seq (by kernel_rfl) ?_
            refine WC.reg [0] (by kernel_rfl) (by kernel_rfl) ?_
            refine WR.runk [0] [] [6] (L' := [(6, .bool false)]) (w' := w192) (by kernel_rfl) ?_
            refine WR.nil ?_
            refine At.go ?_
            refine WC.ret (by kernel_rfl) ?_
            refine At.blockRet ?_
            refine At.thenRet ?_
            refine At.thenRet ?_
            obtain rfl := Option.some.inj H
            have hS : Sat w192 (rf w0) [O55 b87 r108.2] := hS.sel [1] (by kernel_rfl)
            refine At.weaken [6] (L' := [(6, .bool false)]) (by kernel_rfl) ?_
            exact hn0 false _ rfl hS
          · replace H := ite_f H hb194
            refine WC.skip (by kernel_rfl) ?_
            refine At.blockNormal ?_
            refine At.go ?_
            refine WC.reg [0, 1, 2] (by kernel_rfl) (by kernel_rfl) ?_
            refine WR.runk [0, 1, 2] [] [0, 1, 7, 9, 15, 64, 65, 66, 77, 78, 79, 80, 83, 84, 85, 129, 130] (L' := [(0, .int .i64 a0), (1, .int .i64 a1), (7, .pointer (some ⟨b87, 0, none⟩)), (9, .slice A9_l1 y121.length c9_l1), (15, .int .i64 (wi (x15_l3 + 1))), (64, .slice A2 l2.length c2), (65, .int .i64 (l2.length : Int)), (66, .int .i64 x66_l1), (77, .pointer (some ⟨b92, 0, none⟩)), (78, .int .i64 v90.1), (79, .int .i64 a1), (80, .bool (decide (v90.1 < a1))), (83, .int .i64 a0), (84, .pointer (some ⟨b92, 1, none⟩)), (85, .int .u64 v90.2), (129, .int .i64 x15_l3), (130, .int .i64 a1)]) (w' := w192) (by kernel_rfl) ?_
            refine WR.nil ?_
            have hS : Sat w192 (rf w0) [osl 22 (r0 (.int .u64)) 1 A9_l1 c9_l1 y121, O55 b87 r108.2] := hS.sel [0, 1] (by kernel_rfl)
            refine At.again ?_
            refine WL.weaken [0, 1, 7, 9, 15, 64, 65, 66, 77, 78, 79, 80, 83, 84, 85] (L' := [(0, .int .i64 a0), (1, .int .i64 a1), (7, .pointer (some ⟨b87, 0, none⟩)), (9, .slice A9_l1 y121.length c9_l1), (15, .int .i64 (wi (x15_l3 + 1))), (64, .slice A2 l2.length c2), (65, .int .i64 (l2.length : Int)), (66, .int .i64 x66_l1), (77, .pointer (some ⟨b92, 0, none⟩)), (78, .int .i64 v90.1), (79, .int .i64 a1), (80, .bool (decide (v90.1 < a1))), (83, .int .i64 a0), (84, .pointer (some ⟨b92, 1, none⟩)), (85, .int .u64 v90.2)]) (by kernel_rfl) ?_
            exact ih (wi (x15_l3 + 1)) _ hS H
        · replace H := ite_f H hb182
          refine WC.skip (by kernel_rfl) ?_
          refine At.go ?_
          refine WC.seq (by kernel_rfl) ?_
          refine WC.reg [0, 1, 2, 3, 4] (by kernel_rfl) (by kernel_rfl) ?_
          refine WR.runk [0, 1] [2, 3, 4] [0, 1, 7, 9, 15, 16, 64, 65, 66, 77, 78, 79, 80, 83, 84, 85, 129, 130, 137, 138] (L' := [(0, .int .i64 a0), (1, .int .i64 a1), (7, .pointer (some ⟨b87, 0, none⟩)), (9, .slice A9_l1 y121.length c9_l1), (15, .int .i64 x15_l3), (16, .int .u64 0), (64, .slice A2 l2.length c2), (65, .int .i64 (l2.length : Int)), (66, .int .i64 x66_l1), (77, .pointer (some ⟨b92, 0, none⟩)), (78, .int .i64 v90.1), (79, .int .i64 a1), (80, .bool (decide (v90.1 < a1))), (83, .int .i64 a0), (84, .pointer (some ⟨b92, 1, none⟩)), (85, .int .u64 v90.2), (129, .int .i64 x15_l3), (130, .int .i64 a1), (137, .pointer (some ⟨b87, 0, none⟩)), (138, .int .i64 x15_l3)]) (w' := w) (by kernel_rfl) ?_
          obtain ⟨r195, e196, H⟩ := bind_ex H
          refine WR.st (St.call (by kernel_rfl) (f := 13) (args := #[.pointer (some ⟨b87, 0, none⟩), .int .i64 x15_l3]) (by kernel_rfl) (pack_Ints_Get.calls w (.pointer (some ⟨b87, 0, none⟩)) (some r108.2) (Sat.rdAny 1 hS rfl (fun _ h => O55.rd _ _ _ h)) x15_l3 r195 e196) ?_)
          rintro _ w202 ⟨rfl, hS203⟩
          have hS : Sat w202 (rf w0) [osl 22 (r0 (.int .u64)) 1 A9_l1 c9_l1 y121, O55 b87 r108.2] := hS.ext hS203
          refine WR.runk [3, 4] [] [0, 1, 7, 9, 15, 64, 65, 66, 77, 78, 79, 80, 83, 84, 85, 129, 130, 141] (L' := [(0, .int .i64 a0), (1, .int .i64 a1), (7, .pointer (some ⟨b87, 0, none⟩)), (9, .slice A9_l1 y121.length c9_l1), (15, .int .i64 x15_l3), (64, .slice A2 l2.length c2), (65, .int .i64 (l2.length : Int)), (66, .int .i64 x66_l1), (77, .pointer (some ⟨b92, 0, none⟩)), (78, .int .i64 v90.1), (79, .int .i64 a1), (80, .bool (decide (v90.1 < a1))), (83, .int .i64 a0), (84, .pointer (some ⟨b92, 1, none⟩)), (85, .int .u64 v90.2), (129, .int .i64 x15_l3), (130, .int .i64 a1), (141, .bool (r195 != 0))]) (w' := w202) (by kernel_rfl) ?_
          refine WR.nil ?_
          refine At.go ?_
          refine WC.cond (by kernel_rfl) (r195 != 0) (by kernel_rfl) (by kernel_rfl) (fun hb204 => ?_) (fun hb204 => ?_)
          · replace H := ite_t H hb204
            refine WC.seq (by kernel_rfl) ?_
            refine WC.reg [0] (by kernel_rfl) (by kernel_rfl) ?_
            refine WR.runk [0] [] [6] (L' := [(6, .bool false)]) (w' := w202) (by kernel_rfl) ?_
            refine WR.nil ?_
            refine At.go ?_
            refine WC.ret (by kernel_rfl) ?_
            refine At.blockRet ?_
            refine At.thenRet ?_
            refine At.thenRet ?_
            obtain rfl := Option.some.inj H
            have hS : Sat w202 (rf w0) [O55 b87 r108.2] := hS.sel [1] (by kernel_rfl)
            refine At.weaken [6] (L' := [(6, .bool false)]) (by kernel_rfl) ?_
            exact hn0 false _ rfl hS
          · replace H := ite_f H hb204
            refine WC.skip (by kernel_rfl) ?_
            refine At.blockNormal ?_
            refine At.go ?_
            refine WC.reg [0, 1, 2] (by kernel_rfl) (by kernel_rfl) ?_
            refine WR.runk [0, 1, 2] [] [0, 1, 7, 9, 15, 64, 65, 66, 77, 78, 79, 80, 83, 84, 85, 129, 130] (L' := [(0, .int .i64 a0), (1, .int .i64 a1), (7, .pointer (some ⟨b87, 0, none⟩)), (9, .slice A9_l1 y121.length c9_l1), (15, .int .i64 (wi (x15_l3 + 1))), (64, .slice A2 l2.length c2), (65, .int .i64 (l2.length : Int)), (66, .int .i64 x66_l1), (77, .pointer (some ⟨b92, 0, none⟩)), (78, .int .i64 v90.1), (79, .int .i64 a1), (80, .bool (decide (v90.1 < a1))), (83, .int .i64 a0), (84, .pointer (some ⟨b92, 1, none⟩)), (85, .int .u64 v90.2), (129, .int .i64 x15_l3), (130, .int .i64 a1)]) (w' := w202) (by kernel_rfl) ?_
            refine WR.nil ?_
            have hS : Sat w202 (rf w0) [osl 22 (r0 (.int .u64)) 1 A9_l1 c9_l1 y121, O55 b87 r108.2] := hS.sel [0, 1] (by kernel_rfl)
            refine At.again ?_
            refine WL.weaken [0, 1, 7, 9, 15, 64, 65, 66, 77, 78, 79, 80, 83, 84, 85] (L' := [(0, .int .i64 a0), (1, .int .i64 a1), (7, .pointer (some ⟨b87, 0, none⟩)), (9, .slice A9_l1 y121.length c9_l1), (15, .int .i64 (wi (x15_l3 + 1))), (64, .slice A2 l2.length c2), (65, .int .i64 (l2.length : Int)), (66, .int .i64 x66_l1), (77, .pointer (some ⟨b92, 0, none⟩)), (78, .int .i64 v90.1), (79, .int .i64 a1), (80, .bool (decide (v90.1 < a1))), (83, .int .i64 a0), (84, .pointer (some ⟨b92, 1, none⟩)), (85, .int .u64 v90.2)]) (by kernel_rfl) ?_
            exact ih (wi (x15_l3 + 1)) _ hS H
      · replace H := ite_f H hb181
        refine WR.runk [3, 4, 5, 6] [] [0, 1, 7, 9, 15, 16, 64, 65, 66, 77, 78, 79, 80, 83, 84, 85, 129, 130, 131, 132] (L' := [(0, .int .i64 a0), (1, .int .i64 a1), (7, .pointer (some ⟨b87, 0, none⟩)), (9, .slice A9_l1 y121.length c9_l1), (15, .int .i64 x15_l3), (16, .int .u64 0), (64, .slice A2 l2.length c2), (65, .int .i64 (l2.length : Int)), (66, .int .i64 x66_l1), (77, .pointer (some ⟨b92, 0, none⟩)), (78, .int .i64 v90.1), (79, .int .i64 a1), (80, .bool (decide (v90.1 < a1))), (83, .int .i64 a0), (84, .pointer (some ⟨b92, 1, none⟩)), (85, .int .u64 v90.2), (129, undef), (130, undef), (131, undef), (132, .bool false)]) (w' := w) (by kernel_rfl) ?_
        refine WR.nil ?_
        refine At.go ?_
        refine WC.condF (by kernel_rfl) (by kernel_rfl) (by kernel_rfl) ?_
        refine WC.skip (by kernel_rfl) ?_
        refine At.go ?_
        refine WC.seq (by kernel_rfl) ?_
        refine WC.reg [0, 1, 2, 3, 4] (by kernel_rfl) (by kernel_rfl) ?_
        refine WR.runk [0, 1] [2, 3, 4] [0, 1, 7, 9, 15, 16, 64, 65, 66, 77, 78, 79, 80, 83, 84, 85, 129, 130, 131, 137, 138] (L' := [(0, .int .i64 a0), (1, .int .i64 a1), (7, .pointer (some ⟨b87, 0, none⟩)), (9, .slice A9_l1 y121.length c9_l1), (15, .int .i64 x15_l3), (16, .int .u64 0), (64, .slice A2 l2.length c2), (65, .int .i64 (l2.length : Int)), (66, .int .i64 x66_l1), (77, .pointer (some ⟨b92, 0, none⟩)), (78, .int .i64 v90.1), (79, .int .i64 a1), (80, .bool (decide (v90.1 < a1))), (83, .int .i64 a0), (84, .pointer (some ⟨b92, 1, none⟩)), (85, .int .u64 v90.2), (129, undef), (130, undef), (131, undef), (137, .pointer (some ⟨b87, 0, none⟩)), (138, .int .i64 x15_l3)]) (w' := w) (by kernel_rfl) ?_
        obtain ⟨r205, e206, H⟩ := bind_ex H
        refine WR.st (St.call (by kernel_rfl) (f := 13) (args := #[.pointer (some ⟨b87, 0, none⟩), .int .i64 x15_l3]) (by kernel_rfl) (pack_Ints_Get.calls w (.pointer (some ⟨b87, 0, none⟩)) (some r108.2) (Sat.rdAny 1 hS rfl (fun _ h => O55.rd _ _ _ h)) x15_l3 r205 e206) ?_)
        rintro _ w212 ⟨rfl, hS213⟩
        have hS : Sat w212 (rf w0) [osl 22 (r0 (.int .u64)) 1 A9_l1 c9_l1 y121, O55 b87 r108.2] := hS.ext hS213
        refine WR.runk [3, 4] [] [0, 1, 7, 9, 15, 64, 65, 66, 77, 78, 79, 80, 83, 84, 85, 129, 130, 131, 141] (L' := [(0, .int .i64 a0), (1, .int .i64 a1), (7, .pointer (some ⟨b87, 0, none⟩)), (9, .slice A9_l1 y121.length c9_l1), (15, .int .i64 x15_l3), (64, .slice A2 l2.length c2), (65, .int .i64 (l2.length : Int)), (66, .int .i64 x66_l1), (77, .pointer (some ⟨b92, 0, none⟩)), (78, .int .i64 v90.1), (79, .int .i64 a1), (80, .bool (decide (v90.1 < a1))), (83, .int .i64 a0), (84, .pointer (some ⟨b92, 1, none⟩)), (85, .int .u64 v90.2), (129, undef), (130, undef), (131, undef), (141, .bool (r205 != 0))]) (w' := w212) (by kernel_rfl) ?_
        refine WR.nil ?_
        refine At.go ?_
        refine WC.cond (by kernel_rfl) (r205 != 0) (by kernel_rfl) (by kernel_rfl) (fun hb214 => ?_) (fun hb214 => ?_)
        · replace H := ite_t H hb214
          refine WC.seq (by kernel_rfl) ?_
          refine WC.reg [0] (by kernel_rfl) (by kernel_rfl) ?_
          refine WR.runk [0] [] [6] (L' := [(6, .bool false)]) (w' := w212) (by kernel_rfl) ?_
          refine WR.nil ?_
          refine At.go ?_
          refine WC.ret (by kernel_rfl) ?_
          refine At.blockRet ?_
          refine At.thenRet ?_
          refine At.thenRet ?_
          obtain rfl := Option.some.inj H
          have hS : Sat w212 (rf w0) [O55 b87 r108.2] := hS.sel [1] (by kernel_rfl)
          refine At.weaken [6] (L' := [(6, .bool false)]) (by kernel_rfl) ?_
          exact hn0 false _ rfl hS
        · replace H := ite_f H hb214
          refine WC.skip (by kernel_rfl) ?_
          refine At.blockNormal ?_
          refine At.go ?_
          refine WC.reg [0, 1, 2] (by kernel_rfl) (by kernel_rfl) ?_
          refine WR.runk [0, 1, 2] [] [0, 1, 7, 9, 15, 64, 65, 66, 77, 78, 79, 80, 83, 84, 85, 129, 130, 131] (L' := [(0, .int .i64 a0), (1, .int .i64 a1), (7, .pointer (some ⟨b87, 0, none⟩)), (9, .slice A9_l1 y121.length c9_l1), (15, .int .i64 (wi (x15_l3 + 1))), (64, .slice A2 l2.length c2), (65, .int .i64 (l2.length : Int)), (66, .int .i64 x66_l1), (77, .pointer (some ⟨b92, 0, none⟩)), (78, .int .i64 v90.1), (79, .int .i64 a1), (80, .bool (decide (v90.1 < a1))), (83, .int .i64 a0), (84, .pointer (some ⟨b92, 1, none⟩)), (85, .int .u64 v90.2), (129, undef), (130, undef), (131, undef)]) (w' := w212) (by kernel_rfl) ?_
          refine WR.nil ?_
          have hS : Sat w212 (rf w0) [osl 22 (r0 (.int .u64)) 1 A9_l1 c9_l1 y121, O55 b87 r108.2] := hS.sel [0, 1] (by kernel_rfl)
          refine At.again ?_
          refine WL.weaken [0, 1, 7, 9, 15, 64, 65, 66, 77, 78, 79, 80, 83, 84, 85] (L' := [(0, .int .i64 a0), (1, .int .i64 a1), (7, .pointer (some ⟨b87, 0, none⟩)), (9, .slice A9_l1 y121.length c9_l1), (15, .int .i64 (wi (x15_l3 + 1))), (64, .slice A2 l2.length c2), (65, .int .i64 (l2.length : Int)), (66, .int .i64 x66_l1), (77, .pointer (some ⟨b92, 0, none⟩)), (78, .int .i64 v90.1), (79, .int .i64 a1), (80, .bool (decide (v90.1 < a1))), (83, .int .i64 a0), (84, .pointer (some ⟨b92, 1, none⟩)), (85, .int .u64 v90.2)]) (by kernel_rfl) ?_
          exact ih (wi (x15_l3 + 1)) _ hS H
    · replace H := ite_f H hb180
      refine WC.exit (by kernel_rfl) ?_
      refine At.thenExit ?_
      refine At.thenExit ?_
      obtain rfl := Option.some.inj H
      have hS : Sat w (rf w0) [osl 22 (r0 (.int .u64)) 1 A9_l1 c9_l1 y121, O55 b87 r108.2] := hS.sel [0, 1] (by kernel_rfl)
      refine At.weaken [0, 1, 7, 9, 64, 65, 66, 77, 78, 79, 80, 83, 84, 85] (L' := [(0, .int .i64 a0), (1, .int .i64 a1), (7, .pointer (some ⟨b87, 0, none⟩)), (9, .slice A9_l1 y121.length c9_l1), (64, .slice A2 l2.length c2), (65, .int .i64 (l2.length : Int)), (66, .int .i64 x66_l1), (77, .pointer (some ⟨b92, 0, none⟩)), (78, .int .i64 v90.1), (79, .int .i64 a1), (80, .bool (decide (v90.1 < a1))), (83, .int .i64 a0), (84, .pointer (some ⟨b92, 1, none⟩)), (85, .int .u64 v90.2)]) (by kernel_rfl) ?_
      exact hn1 () _ rfl hS
theorem colophonlaw01_PackPlays.l4_ok {Q} (w0 : World) (a0 : Int) (a1 : Int) (A2 : Option Addr) (c2 : Nat) (l2 : List (Int × Int)) (b87 : Nat) (A9_l1 : Option Addr) (c9_l1 : Nat) (x9_l1 : List Int) (x66_l1 : Int) (v90 : Int × Int) (b92 : Nat) (r108 : Bool × (Int × Int × (List Int))) (r225 : (List Int)) (out : Unit) (hn0 : ∀ (w : World), Sat w (rf w0) [osl 22 (r0 (.int .u64)) 1 A9_l1 c9_l1 x9_l1, O55 b87 r108.2] → At Q (.exit 2) 143 [(0, .int .i64 a0), (1, .int .i64 a1), (7, .pointer (some ⟨b87, 0, none⟩)), (9, .slice A9_l1 x9_l1.length c9_l1), (64, .slice A2 l2.length c2), (65, .int .i64 (l2.length : Int)), (66, .int .i64 x66_l1), (77, .pointer (some ⟨b92, 0, none⟩)), (78, .int .i64 v90.1), (79, .int .i64 a1), (80, .bool (decide (v90.1 < a1))), (83, .int .i64 a0), (84, .pointer (some ⟨b92, 1, none⟩)), (85, .int .u64 v90.2)] w) :
    ∀ (k : Nat) (x13_l4 : List Int) (x114_l4 : Int) (A13_l4 : Option Addr) (c13_l4 : Nat) (w : World), Sat w (rf w0) [osl 22 (r0 (.int .u64)) 1 A9_l1 c9_l1 x9_l1, osl 22 (r0 (.int .u64)) 1 A13_l4 c13_l4 x13_l4, O55 b87 r108.2] → colophonlaw01_PackPlays.l4 r225 k x13_l4 x114_l4 = some out → WL Try.prog (cbody (cbody (cr (cl (cr (cr (cr (cr (cr (cr (cr (cbody (cl (cr (cr (cbody (cbody (cr (cl (cr (cr (cr (cr (cr (cr (cr C7)))))))))))))))))))))))))) Q 143 [(0, .int .i64 a0), (1, .int .i64 a1), (7, .pointer (some ⟨b87, 0, none⟩)), (9, .slice A9_l1 x9_l1.length c9_l1), (13, .slice A13_l4 x13_l4.length c13_l4), (64, .slice A2 l2.length c2), (65, .int .i64 (l2.length : Int)), (66, .int .i64 x66_l1), (77, .pointer (some ⟨b92, 0, none⟩)), (78, .int .i64 v90.1), (79, .int .i64 a1), (80, .bool (decide (v90.1 < a1))), (83, .int .i64 a0), (84, .pointer (some ⟨b92, 1, none⟩)), (85, .int .u64 v90.2), (113, .int .i64 (r225.length : Int)), (114, .int .i64 x114_l4)] w := by
  intro k
  induction k with
  | zero => intro x13_l4 x114_l4 A13_l4 c13_l4 w hS H; exact absurd (show none = some out from H) (by simp)
  | succ k ih =>
    intro x13_l4 x114_l4 A13_l4 c13_l4 w hS H
    unfold colophonlaw01_PackPlays.l4 at H
    refine WL.round ?_
    refine WC.seq (by kernel_rfl) ?_
    refine WC.reg [0] (by kernel_rfl) (by kernel_rfl) ?_
    refine WR.runk [0] [] [0, 1, 7, 9, 13, 64, 65, 66, 77, 78, 79, 80, 83, 84, 85, 113, 114, 115] (L' := [(0, .int .i64 a0), (1, .int .i64 a1), (7, .pointer (some ⟨b87, 0, none⟩)), (9, .slice A9_l1 x9_l1.length c9_l1), (13, .slice A13_l4 x13_l4.length c13_l4), (64, .slice A2 l2.length c2), (65, .int .i64 (l2.length : Int)), (66, .int .i64 x66_l1), (77, .pointer (some ⟨b92, 0, none⟩)), (78, .int .i64 v90.1), (79, .int .i64 a1), (80, .bool (decide (v90.1 < a1))), (83, .int .i64 a0), (84, .pointer (some ⟨b92, 1, none⟩)), (85, .int .u64 v90.2), (113, .int .i64 (r225.length : Int)), (114, .int .i64 x114_l4), (115, .bool (decide (x114_l4 < (r225.length : Int))))]) (w' := w) (by kernel_rfl) ?_
    refine WR.nil ?_
    refine At.go ?_
    refine WC.seq (by kernel_rfl) ?_
    refine WC.cond (by kernel_rfl) (decide (x114_l4 < (r225.length : Int))) (by kernel_rfl) (by kernel_rfl) (fun hb268 => ?_) (fun hb268 => ?_)
    · replace H := ite_t H hb268
      refine WC.skip (by kernel_rfl) ?_
      refine At.go ?_
      refine WC.seq (by kernel_rfl) ?_
      refine WC.block (by kernel_rfl) ?_
      refine WC.seq (by kernel_rfl) ?_
      refine WC.reg [0, 1] (by kernel_rfl) (by kernel_rfl) ?_
      refine WR.runk [0, 1] [] [0, 1, 7, 9, 13, 14, 64, 65, 66, 77, 78, 79, 80, 83, 84, 85, 113, 114] (L' := [(0, .int .i64 a0), (1, .int .i64 a1), (7, .pointer (some ⟨b87, 0, none⟩)), (9, .slice A9_l1 x9_l1.length c9_l1), (13, .slice A13_l4 x13_l4.length c13_l4), (14, .int .i64 x114_l4), (64, .slice A2 l2.length c2), (65, .int .i64 (l2.length : Int)), (66, .int .i64 x66_l1), (77, .pointer (some ⟨b92, 0, none⟩)), (78, .int .i64 v90.1), (79, .int .i64 a1), (80, .bool (decide (v90.1 < a1))), (83, .int .i64 a0), (84, .pointer (some ⟨b92, 1, none⟩)), (85, .int .u64 v90.2), (113, .int .i64 (r225.length : Int)), (114, .int .i64 x114_l4)]) (w' := w) (by kernel_rfl) ?_
      refine WR.nil ?_
      refine At.go ?_
      refine WC.reg [0, 1, 2, 3] (by kernel_rfl) (by kernel_rfl) ?_
      refine WR.runk [0, 1] [2, 3] [0, 1, 7, 9, 13, 64, 65, 66, 77, 78, 79, 80, 83, 84, 85, 113, 114, 117, 118] (L' := [(0, .int .i64 a0), (1, .int .i64 a1), (7, .pointer (some ⟨b87, 0, none⟩)), (9, .slice A9_l1 x9_l1.length c9_l1), (13, .slice A13_l4 x13_l4.length c13_l4), (64, .slice A2 l2.length c2), (65, .int .i64 (l2.length : Int)), (66, .int .i64 x66_l1), (77, .pointer (some ⟨b92, 0, none⟩)), (78, .int .i64 v90.1), (79, .int .i64 a1), (80, .bool (decide (v90.1 < a1))), (83, .int .i64 a0), (84, .pointer (some ⟨b92, 1, none⟩)), (85, .int .u64 v90.2), (113, .int .i64 (r225.length : Int)), (114, .int .i64 x114_l4), (117, .slice A13_l4 x13_l4.length c13_l4), (118, .int .i64 x114_l4)]) (w' := w) (by kernel_rfl) ?_
      obtain ⟨v269, e270, H⟩ := bind_ex H
      refine WR.st (St.ofP (PSt.idx (k := .i64) (.tmp 117) (.tmp 118) (by kernel_rfl) (by kernel_rfl) E32 (by kernel_rfl) (by kernel_rfl) (Sat.rdAt 1 hS rfl) e270 ?_))
      refine WR.runk [] [3] [0, 1, 7, 9, 13, 64, 65, 66, 77, 78, 79, 80, 83, 84, 85, 113, 114, 119] (L' := [(0, .int .i64 a0), (1, .int .i64 a1), (7, .pointer (some ⟨b87, 0, none⟩)), (9, .slice A9_l1 x9_l1.length c9_l1), (13, .slice A13_l4 x13_l4.length c13_l4), (64, .slice A2 l2.length c2), (65, .int .i64 (l2.length : Int)), (66, .int .i64 x66_l1), (77, .pointer (some ⟨b92, 0, none⟩)), (78, .int .i64 v90.1), (79, .int .i64 a1), (80, .bool (decide (v90.1 < a1))), (83, .int .i64 a0), (84, .pointer (some ⟨b92, 1, none⟩)), (85, .int .u64 v90.2), (113, .int .i64 (r225.length : Int)), (114, .int .i64 x114_l4), (119, .pointer (some (adr A13_l4 x114_l4.toNat 1)))]) (w' := w) (by kernel_rfl) ?_
      have hS : Sat w (rf w0) [osl 22 (r0 (.int .u64)) 1 A13_l4 c13_l4 x13_l4, osl 22 (r0 (.int .u64)) 1 A9_l1 c9_l1 x9_l1, O55 b87 r108.2] := hS.sel [1, 0, 2] (by kernel_rfl)
      obtain ⟨y271, e272, H⟩ := bind_ex H
      refine WR.st (St.storeElem' (t := 22) (.tmp 119) (.const (.int .u64 77)) (by kernel_rfl) (by kernel_rfl) (by kernel_rfl) hS (by kernel_rfl) (by kernel_rfl) rfl e272 rfl (fun w273 hS => ?_))
      have hl274 := set?_len e272
      refine WR.know 13 (.slice A13_l4 y271.length c13_l4) (.slice A13_l4 x13_l4.length c13_l4) (by kernel_rfl) (by rw [hl274]) ?_
      refine WR.runk [] [] [0, 1, 7, 9, 13, 64, 65, 66, 77, 78, 79, 80, 83, 84, 85, 113, 114] (L' := [(0, .int .i64 a0), (1, .int .i64 a1), (7, .pointer (some ⟨b87, 0, none⟩)), (9, .slice A9_l1 x9_l1.length c9_l1), (13, .slice A13_l4 y271.length c13_l4), (64, .slice A2 l2.length c2), (65, .int .i64 (l2.length : Int)), (66, .int .i64 x66_l1), (77, .pointer (some ⟨b92, 0, none⟩)), (78, .int .i64 v90.1), (79, .int .i64 a1), (80, .bool (decide (v90.1 < a1))), (83, .int .i64 a0), (84, .pointer (some ⟨b92, 1, none⟩)), (85, .int .u64 v90.2), (113, .int .i64 (r225.length : Int)), (114, .int .i64 x114_l4)]) (w' := w273) (by kernel_rfl) ?_
      refine WR.nil ?_
      refine At.blockNormal ?_
      refine At.go ?_
      refine WC.reg [0, 1] (by kernel_rfl) (by kernel_rfl) ?_
      refine WR.runk [0, 1] [] [0, 1, 7, 9, 13, 64, 65, 66, 77, 78, 79, 80, 83, 84, 85, 113, 114] (L' := [(0, .int .i64 a0), (1, .int .i64 a1), (7, .pointer (some ⟨b87, 0, none⟩)), (9, .slice A9_l1 x9_l1.length c9_l1), (13, .slice A13_l4 y271.length c13_l4), (64, .slice A2 l2.length c2), (65, .int .i64 (l2.length : Int)), (66, .int .i64 x66_l1), (77, .pointer (some ⟨b92, 0, none⟩)), (78, .int .i64 v90.1), (79, .int .i64 a1), (80, .bool (decide (v90.1 < a1))), (83, .int .i64 a0), (84, .pointer (some ⟨b92, 1, none⟩)), (85, .int .u64 v90.2), (113, .int .i64 (r225.length : Int)), (114, .int .i64 (wi (x114_l4 + 1)))]) (w' := w273) (by kernel_rfl) ?_
      refine WR.nil ?_
      have hS : Sat w273 (rf w0) [osl 22 (r0 (.int .u64)) 1 A9_l1 c9_l1 x9_l1, osl 22 (r0 (.int .u64)) 1 A13_l4 c13_l4 y271, O55 b87 r108.2] := hS.sel [1, 0, 2] (by kernel_rfl)
      refine At.again ?_
      refine WL.weaken [0, 1, 7, 9, 13, 64, 65, 66, 77, 78, 79, 80, 83, 84, 85, 113, 114] (L' := [(0, .int .i64 a0), (1, .int .i64 a1), (7, .pointer (some ⟨b87, 0, none⟩)), (9, .slice A9_l1 x9_l1.length c9_l1), (13, .slice A13_l4 y271.length c13_l4), (64, .slice A2 l2.length c2), (65, .int .i64 (l2.length : Int)), (66, .int .i64 x66_l1), (77, .pointer (some ⟨b92, 0, none⟩)), (78, .int .i64 v90.1), (79, .int .i64 a1), (80, .bool (decide (v90.1 < a1))), (83, .int .i64 a0), (84, .pointer (some ⟨b92, 1, none⟩)), (85, .int .u64 v90.2), (113, .int .i64 (r225.length : Int)), (114, .int .i64 (wi (x114_l4 + 1)))]) (by kernel_rfl) ?_
      exact ih y271 (wi (x114_l4 + 1)) A13_l4 c13_l4 _ hS H
    · replace H := ite_f H hb268
      refine WC.exit (by kernel_rfl) ?_
      refine At.thenExit ?_
      refine At.thenExit ?_
      obtain rfl := Option.some.inj H
      have hS : Sat w (rf w0) [osl 22 (r0 (.int .u64)) 1 A9_l1 c9_l1 x9_l1, O55 b87 r108.2] := hS.sel [0, 2] (by kernel_rfl)
      refine At.weaken [0, 1, 7, 9, 64, 65, 66, 77, 78, 79, 80, 83, 84, 85] (L' := [(0, .int .i64 a0), (1, .int .i64 a1), (7, .pointer (some ⟨b87, 0, none⟩)), (9, .slice A9_l1 x9_l1.length c9_l1), (64, .slice A2 l2.length c2), (65, .int .i64 (l2.length : Int)), (66, .int .i64 x66_l1), (77, .pointer (some ⟨b92, 0, none⟩)), (78, .int .i64 v90.1), (79, .int .i64 a1), (80, .bool (decide (v90.1 < a1))), (83, .int .i64 a0), (84, .pointer (some ⟨b92, 1, none⟩)), (85, .int .u64 v90.2)]) (by kernel_rfl) ?_
      exact hn0 _ hS
theorem colophonlaw01_PackPlays.l5_ok {Q} (w0 : World) (a0 : Int) (a1 : Int) (A2 : Option Addr) (c2 : Nat) (l2 : List (Int × Int)) (b87 : Nat) (A9_l1 : Option Addr) (c9_l1 : Nat) (x9_l1 : List Int) (x66_l1 : Int) (v90 : Int × Int) (b92 : Nat) (r108 : Bool × (Int × Int × (List Int))) (out : Sum Bool Unit) (hn0 : ∀ (o0 : Bool) (w : World), out = (.inl o0) → Sat w (rf w0) [O55 b87 r108.2] → At Q .ret 143 [(6, .bool o0)] w) (hn1 : ∀ (o1 : Unit) (w : World), out = (.inr o1) → Sat w (rf w0) [osl 22 (r0 (.int .u64)) 1 A9_l1 c9_l1 x9_l1, O55 b87 r108.2] → At Q (.exit 4) 143 [(0, .int .i64 a0), (1, .int .i64 a1), (7, .pointer (some ⟨b87, 0, none⟩)), (9, .slice A9_l1 x9_l1.length c9_l1), (64, .slice A2 l2.length c2), (65, .int .i64 (l2.length : Int)), (66, .int .i64 x66_l1), (77, .pointer (some ⟨b92, 0, none⟩)), (78, .int .i64 v90.1), (79, .int .i64 a1), (80, .bool (decide (v90.1 < a1))), (83, .int .i64 a0), (84, .pointer (some ⟨b92, 1, none⟩)), (85, .int .u64 v90.2)] w) :
    ∀ (k : Nat) (x15_l5 : Int) (w : World), Sat w (rf w0) [osl 22 (r0 (.int .u64)) 1 A9_l1 c9_l1 x9_l1, O55 b87 r108.2] → colophonlaw01_PackPlays.l5 a1 x9_l1 r108 k x15_l5 = some out → WL Try.prog (cbody (cbody (cr (cr (cr (cr (cr (cr (cr (cr (cr (cbody (cl (cr (cr (cbody (cbody (cr (cl (cr (cr (cr (cr (cr (cr (cr C7)))))))))))))))))))))))))) Q 143 [(0, .int .i64 a0), (1, .int .i64 a1), (7, .pointer (some ⟨b87, 0, none⟩)), (9, .slice A9_l1 x9_l1.length c9_l1), (15, .int .i64 x15_l5), (64, .slice A2 l2.length c2), (65, .int .i64 (l2.length : Int)), (66, .int .i64 x66_l1), (77, .pointer (some ⟨b92, 0, none⟩)), (78, .int .i64 v90.1), (79, .int .i64 a1), (80, .bool (decide (v90.1 < a1))), (83, .int .i64 a0), (84, .pointer (some ⟨b92, 1, none⟩)), (85, .int .u64 v90.2)] w := by
  intro k
  induction k with
  | zero => intro x15_l5 w hS H; exact absurd (show none = some out from H) (by simp)
  | succ k ih =>
    intro x15_l5 w hS H
    unfold colophonlaw01_PackPlays.l5 at H
    refine WL.round ?_
    refine WC.seq (by kernel_rfl) ?_
    refine WC.seq (by kernel_rfl) ?_
    refine WC.reg [0, 1, 2] (by kernel_rfl) (by kernel_rfl) ?_
    refine WR.runk [0, 1, 2] [] [0, 1, 7, 9, 15, 64, 65, 66, 77, 78, 79, 80, 83, 84, 85, 123] (L' := [(0, .int .i64 a0), (1, .int .i64 a1), (7, .pointer (some ⟨b87, 0, none⟩)), (9, .slice A9_l1 x9_l1.length c9_l1), (15, .int .i64 x15_l5), (64, .slice A2 l2.length c2), (65, .int .i64 (l2.length : Int)), (66, .int .i64 x66_l1), (77, .pointer (some ⟨b92, 0, none⟩)), (78, .int .i64 v90.1), (79, .int .i64 a1), (80, .bool (decide (v90.1 < a1))), (83, .int .i64 a0), (84, .pointer (some ⟨b92, 1, none⟩)), (85, .int .u64 v90.2), (123, .bool (decide (x15_l5 ≤ a1)))]) (w' := w) (by kernel_rfl) ?_
    refine WR.nil ?_
    refine At.go ?_
    refine WC.cond (by kernel_rfl) (decide (x15_l5 ≤ a1)) (by kernel_rfl) (by kernel_rfl) (fun hb280 => ?_) (fun hb280 => ?_)
    · replace H := ite_t H hb280
      refine WC.skip (by kernel_rfl) ?_
      refine At.go ?_
      refine WC.seq (by kernel_rfl) ?_
      refine WC.block (by kernel_rfl) ?_
      refine WC.seq (by kernel_rfl) ?_
      refine WC.reg [0] (by kernel_rfl) (by kernel_rfl) ?_
      refine WR.runk [0] [] [0, 1, 7, 9, 15, 16, 64, 65, 66, 77, 78, 79, 80, 83, 84, 85] (L' := [(0, .int .i64 a0), (1, .int .i64 a1), (7, .pointer (some ⟨b87, 0, none⟩)), (9, .slice A9_l1 x9_l1.length c9_l1), (15, .int .i64 x15_l5), (16, .int .u64 0), (64, .slice A2 l2.length c2), (65, .int .i64 (l2.length : Int)), (66, .int .i64 x66_l1), (77, .pointer (some ⟨b92, 0, none⟩)), (78, .int .i64 v90.1), (79, .int .i64 a1), (80, .bool (decide (v90.1 < a1))), (83, .int .i64 a0), (84, .pointer (some ⟨b92, 1, none⟩)), (85, .int .u64 v90.2)]) (w' := w) (by kernel_rfl) ?_
      refine WR.nil ?_
      refine At.go ?_
      refine WC.seq (by kernel_rfl) ?_
      refine WC.seq (by kernel_rfl) ?_
      refine WC.reg [0, 1, 2, 3, 4, 5, 6] (by kernel_rfl) (by kernel_rfl) ?_
      refine WR.runk [0, 1, 2] [3, 4, 5, 6] [0, 1, 7, 9, 15, 16, 64, 65, 66, 77, 78, 79, 80, 83, 84, 85, 128] (L' := [(0, .int .i64 a0), (1, .int .i64 a1), (7, .pointer (some ⟨b87, 0, none⟩)), (9, .slice A9_l1 x9_l1.length c9_l1), (15, .int .i64 x15_l5), (16, .int .u64 0), (64, .slice A2 l2.length c2), (65, .int .i64 (l2.length : Int)), (66, .int .i64 x66_l1), (77, .pointer (some ⟨b92, 0, none⟩)), (78, .int .i64 v90.1), (79, .int .i64 a1), (80, .bool (decide (v90.1 < a1))), (83, .int .i64 a0), (84, .pointer (some ⟨b92, 1, none⟩)), (85, .int .u64 v90.2), (128, .bool (decide (x15_l5 ≥ 0)))]) (w' := w) (by kernel_rfl) ?_
      refine WR.split 128 (b := decide (x15_l5 ≥ 0)) (by kernel_rfl) (fun hb281 => ?_) (fun hb281 => ?_)
      · replace H := ite_t H hb281
        refine WR.runk [3, 4, 5, 6] [] [0, 1, 7, 9, 15, 16, 64, 65, 66, 77, 78, 79, 80, 83, 84, 85, 129, 130, 131, 132] (L' := [(0, .int .i64 a0), (1, .int .i64 a1), (7, .pointer (some ⟨b87, 0, none⟩)), (9, .slice A9_l1 x9_l1.length c9_l1), (15, .int .i64 x15_l5), (16, .int .u64 0), (64, .slice A2 l2.length c2), (65, .int .i64 (l2.length : Int)), (66, .int .i64 x66_l1), (77, .pointer (some ⟨b92, 0, none⟩)), (78, .int .i64 v90.1), (79, .int .i64 a1), (80, .bool (decide (v90.1 < a1))), (83, .int .i64 a0), (84, .pointer (some ⟨b92, 1, none⟩)), (85, .int .u64 v90.2), (129, .int .i64 x15_l5), (130, .int .i64 a1), (131, .bool (decide (x15_l5 < a1))), (132, .bool (decide (x15_l5 < a1)))]) (w' := w) (by kernel_rfl) ?_
        refine WR.nil ?_
        refine At.go ?_
        refine WC.cond (by kernel_rfl) (decide (x15_l5 < a1)) (by kernel_rfl) (by kernel_rfl) (fun hb282 => ?_) (fun hb282 => ?_)
        · replace H := ite_t H hb282
          refine WC.reg [0, 1, 2, 3, 4] (by kernel_rfl) (by kernel_rfl) ?_
          refine WR.runk [0, 1] [2, 3, 4] [0, 1, 7, 9, 15, 16, 64, 65, 66, 77, 78, 79, 80, 83, 84, 85, 129, 130, 133, 134] (L' := [(0, .int .i64 a0), (1, .int .i64 a1), (7, .pointer (some ⟨b87, 0, none⟩)), (9, .slice A9_l1 x9_l1.length c9_l1), (15, .int .i64 x15_l5), (16, .int .u64 0), (64, .slice A2 l2.length c2), (65, .int .i64 (l2.length : Int)), (66, .int .i64 x66_l1), (77, .pointer (some ⟨b92, 0, none⟩)), (78, .int .i64 v90.1), (79, .int .i64 a1), (80, .bool (decide (v90.1 < a1))), (83, .int .i64 a0), (84, .pointer (some ⟨b92, 1, none⟩)), (85, .int .u64 v90.2), (129, .int .i64 x15_l5), (130, .int .i64 a1), (133, .slice A9_l1 x9_l1.length c9_l1), (134, .int .i64 x15_l5)]) (w' := w) (by kernel_rfl) ?_
          obtain ⟨v283, e284, H⟩ := bind_ex H
          refine WR.st (St.ofP (PSt.idx (k := .i64) (.tmp 133) (.tmp 134) (by kernel_rfl) (by kernel_rfl) E32 (by kernel_rfl) (by kernel_rfl) (Sat.rdAt 0 hS rfl) e284 ?_))
          refine WR.runk [] [3, 4] [0, 1, 7, 9, 15, 16, 64, 65, 66, 77, 78, 79, 80, 83, 84, 85, 129, 130, 135] (L' := [(0, .int .i64 a0), (1, .int .i64 a1), (7, .pointer (some ⟨b87, 0, none⟩)), (9, .slice A9_l1 x9_l1.length c9_l1), (15, .int .i64 x15_l5), (16, .int .u64 0), (64, .slice A2 l2.length c2), (65, .int .i64 (l2.length : Int)), (66, .int .i64 x66_l1), (77, .pointer (some ⟨b92, 0, none⟩)), (78, .int .i64 v90.1), (79, .int .i64 a1), (80, .bool (decide (v90.1 < a1))), (83, .int .i64 a0), (84, .pointer (some ⟨b92, 1, none⟩)), (85, .int .u64 v90.2), (129, .int .i64 x15_l5), (130, .int .i64 a1), (135, .pointer (some (adr A9_l1 x15_l5.toNat 1)))]) (w' := w) (by kernel_rfl) ?_
          refine WR.st (St.ofR (RSt.loadInt (t := 22) (.tmp 135) (by kernel_rfl) (by kernel_rfl) (by kernel_rfl) (by kernel_rfl) (Sat.rdAt 0 hS rfl) e284 ?_))
          refine WR.runk [4] [] [0, 1, 7, 9, 15, 16, 64, 65, 66, 77, 78, 79, 80, 83, 84, 85, 129, 130] (L' := [(0, .int .i64 a0), (1, .int .i64 a1), (7, .pointer (some ⟨b87, 0, none⟩)), (9, .slice A9_l1 x9_l1.length c9_l1), (15, .int .i64 x15_l5), (16, .int .u64 v283), (64, .slice A2 l2.length c2), (65, .int .i64 (l2.length : Int)), (66, .int .i64 x66_l1), (77, .pointer (some ⟨b92, 0, none⟩)), (78, .int .i64 v90.1), (79, .int .i64 a1), (80, .bool (decide (v90.1 < a1))), (83, .int .i64 a0), (84, .pointer (some ⟨b92, 1, none⟩)), (85, .int .u64 v90.2), (129, .int .i64 x15_l5), (130, .int .i64 a1)]) (w' := w) (by kernel_rfl) ?_
          refine WR.nil ?_
          refine At.go ?_
          refine WC.seq (by kernel_rfl) ?_
          refine WC.reg [0, 1, 2, 3, 4] (by kernel_rfl) (by kernel_rfl) ?_
          refine WR.runk [0, 1] [2, 3, 4] [0, 1, 7, 9, 15, 16, 64, 65, 66, 77, 78, 79, 80, 83, 84, 85, 129, 130, 137, 138] (L' := [(0, .int .i64 a0), (1, .int .i64 a1), (7, .pointer (some ⟨b87, 0, none⟩)), (9, .slice A9_l1 x9_l1.length c9_l1), (15, .int .i64 x15_l5), (16, .int .u64 v283), (64, .slice A2 l2.length c2), (65, .int .i64 (l2.length : Int)), (66, .int .i64 x66_l1), (77, .pointer (some ⟨b92, 0, none⟩)), (78, .int .i64 v90.1), (79, .int .i64 a1), (80, .bool (decide (v90.1 < a1))), (83, .int .i64 a0), (84, .pointer (some ⟨b92, 1, none⟩)), (85, .int .u64 v90.2), (129, .int .i64 x15_l5), (130, .int .i64 a1), (137, .pointer (some ⟨b87, 0, none⟩)), (138, .int .i64 x15_l5)]) (w' := w) (by kernel_rfl) ?_
          obtain ⟨r285, e286, H⟩ := bind_ex H
          refine WR.st (St.call (by kernel_rfl) (f := 13) (args := #[.pointer (some ⟨b87, 0, none⟩), .int .i64 x15_l5]) (by kernel_rfl) (pack_Ints_Get.calls w (.pointer (some ⟨b87, 0, none⟩)) (some r108.2) (Sat.rdAny 1 hS rfl (fun _ h => O55.rd _ _ _ h)) x15_l5 r285 e286) ?_)
          rintro _ w292 ⟨rfl, hS293⟩
          have hS : Sat w292 (rf w0) [osl 22 (r0 (.int .u64)) 1 A9_l1 c9_l1 x9_l1, O55 b87 r108.2] := hS.ext hS293
          refine WR.runk [3, 4] [] [0, 1, 7, 9, 15, 64, 65, 66, 77, 78, 79, 80, 83, 84, 85, 129, 130, 141] (L' := [(0, .int .i64 a0), (1, .int .i64 a1), (7, .pointer (some ⟨b87, 0, none⟩)), (9, .slice A9_l1 x9_l1.length c9_l1), (15, .int .i64 x15_l5), (64, .slice A2 l2.length c2), (65, .int .i64 (l2.length : Int)), (66, .int .i64 x66_l1), (77, .pointer (some ⟨b92, 0, none⟩)), (78, .int .i64 v90.1), (79, .int .i64 a1), (80, .bool (decide (v90.1 < a1))), (83, .int .i64 a0), (84, .pointer (some ⟨b92, 1, none⟩)), (85, .int .u64 v90.2), (129, .int .i64 x15_l5), (130, .int .i64 a1), (141, .bool (r285 != v283))]) (w' := w292) (by kernel_rfl) ?_
          refine WR.nil ?_
          refine At.go ?_
          refine WC.cond (by kernel_rfl) (r285 != v283) (by kernel_rfl) (by kernel_rfl) (fun hb294 => ?_) (fun hb294 => ?_)
          · replace H := ite_t H hb294
            refine WC.seq (by kernel_rfl) ?_
            refine WC.reg [0] (by kernel_rfl) (by kernel_rfl) ?_
            refine WR.runk [0] [] [6] (L' := [(6, .bool false)]) (w' := w292) (by kernel_rfl) ?_
            refine WR.nil ?_
            refine At.go ?_
            refine WC.ret (by kernel_rfl) ?_
            refine At.blockRet ?_
            refine At.thenRet ?_
            refine At.thenRet ?_
            obtain rfl := Option.some.inj H
            have hS : Sat w292 (rf w0) [O55 b87 r108.2] := hS.sel [1] (by kernel_rfl)
            refine At.weaken [6] (L' := [(6, .bool false)]) (by kernel_rfl) ?_
            exact hn0 false _ rfl hS
          · replace H := ite_f H hb294
            refine WC.skip (by kernel_rfl) ?_
            refine At.blockNormal ?_
            refine At.go ?_
            refine WC.reg [0, 1, 2] (by kernel_rfl) (by kernel_rfl) ?_
            refine WR.runk [0, 1, 2] [] [0, 1, 7, 9, 15, 64, 65, 66, 77, 78, 79, 80, 83, 84, 85, 129, 130] (L' := [(0, .int .i64 a0), (1, .int .i64 a1), (7, .pointer (some ⟨b87, 0, none⟩)), (9, .slice A9_l1 x9_l1.length c9_l1), (15, .int .i64 (wi (x15_l5 + 1))), (64, .slice A2 l2.length c2), (65, .int .i64 (l2.length : Int)), (66, .int .i64 x66_l1), (77, .pointer (some ⟨b92, 0, none⟩)), (78, .int .i64 v90.1), (79, .int .i64 a1), (80, .bool (decide (v90.1 < a1))), (83, .int .i64 a0), (84, .pointer (some ⟨b92, 1, none⟩)), (85, .int .u64 v90.2), (129, .int .i64 x15_l5), (130, .int .i64 a1)]) (w' := w292) (by kernel_rfl) ?_
            refine WR.nil ?_
            have hS : Sat w292 (rf w0) [osl 22 (r0 (.int .u64)) 1 A9_l1 c9_l1 x9_l1, O55 b87 r108.2] := hS.sel [0, 1] (by kernel_rfl)
            refine At.again ?_
            refine WL.weaken [0, 1, 7, 9, 15, 64, 65, 66, 77, 78, 79, 80, 83, 84, 85] (L' := [(0, .int .i64 a0), (1, .int .i64 a1), (7, .pointer (some ⟨b87, 0, none⟩)), (9, .slice A9_l1 x9_l1.length c9_l1), (15, .int .i64 (wi (x15_l5 + 1))), (64, .slice A2 l2.length c2), (65, .int .i64 (l2.length : Int)), (66, .int .i64 x66_l1), (77, .pointer (some ⟨b92, 0, none⟩)), (78, .int .i64 v90.1), (79, .int .i64 a1), (80, .bool (decide (v90.1 < a1))), (83, .int .i64 a0), (84, .pointer (some ⟨b92, 1, none⟩)), (85, .int .u64 v90.2)]) (by kernel_rfl) ?_
            exact ih (wi (x15_l5 + 1)) _ hS H
        · replace H := ite_f H hb282
          refine WC.skip (by kernel_rfl) ?_
          refine At.go ?_
          refine WC.seq (by kernel_rfl) ?_
          refine WC.reg [0, 1, 2, 3, 4] (by kernel_rfl) (by kernel_rfl) ?_
          refine WR.runk [0, 1] [2, 3, 4] [0, 1, 7, 9, 15, 16, 64, 65, 66, 77, 78, 79, 80, 83, 84, 85, 129, 130, 137, 138] (L' := [(0, .int .i64 a0), (1, .int .i64 a1), (7, .pointer (some ⟨b87, 0, none⟩)), (9, .slice A9_l1 x9_l1.length c9_l1), (15, .int .i64 x15_l5), (16, .int .u64 0), (64, .slice A2 l2.length c2), (65, .int .i64 (l2.length : Int)), (66, .int .i64 x66_l1), (77, .pointer (some ⟨b92, 0, none⟩)), (78, .int .i64 v90.1), (79, .int .i64 a1), (80, .bool (decide (v90.1 < a1))), (83, .int .i64 a0), (84, .pointer (some ⟨b92, 1, none⟩)), (85, .int .u64 v90.2), (129, .int .i64 x15_l5), (130, .int .i64 a1), (137, .pointer (some ⟨b87, 0, none⟩)), (138, .int .i64 x15_l5)]) (w' := w) (by kernel_rfl) ?_
          obtain ⟨r295, e296, H⟩ := bind_ex H
          refine WR.st (St.call (by kernel_rfl) (f := 13) (args := #[.pointer (some ⟨b87, 0, none⟩), .int .i64 x15_l5]) (by kernel_rfl) (pack_Ints_Get.calls w (.pointer (some ⟨b87, 0, none⟩)) (some r108.2) (Sat.rdAny 1 hS rfl (fun _ h => O55.rd _ _ _ h)) x15_l5 r295 e296) ?_)
          rintro _ w302 ⟨rfl, hS303⟩
          have hS : Sat w302 (rf w0) [osl 22 (r0 (.int .u64)) 1 A9_l1 c9_l1 x9_l1, O55 b87 r108.2] := hS.ext hS303
          refine WR.runk [3, 4] [] [0, 1, 7, 9, 15, 64, 65, 66, 77, 78, 79, 80, 83, 84, 85, 129, 130, 141] (L' := [(0, .int .i64 a0), (1, .int .i64 a1), (7, .pointer (some ⟨b87, 0, none⟩)), (9, .slice A9_l1 x9_l1.length c9_l1), (15, .int .i64 x15_l5), (64, .slice A2 l2.length c2), (65, .int .i64 (l2.length : Int)), (66, .int .i64 x66_l1), (77, .pointer (some ⟨b92, 0, none⟩)), (78, .int .i64 v90.1), (79, .int .i64 a1), (80, .bool (decide (v90.1 < a1))), (83, .int .i64 a0), (84, .pointer (some ⟨b92, 1, none⟩)), (85, .int .u64 v90.2), (129, .int .i64 x15_l5), (130, .int .i64 a1), (141, .bool (r295 != 0))]) (w' := w302) (by kernel_rfl) ?_
          refine WR.nil ?_
          refine At.go ?_
          refine WC.cond (by kernel_rfl) (r295 != 0) (by kernel_rfl) (by kernel_rfl) (fun hb304 => ?_) (fun hb304 => ?_)
          · replace H := ite_t H hb304
            refine WC.seq (by kernel_rfl) ?_
            refine WC.reg [0] (by kernel_rfl) (by kernel_rfl) ?_
            refine WR.runk [0] [] [6] (L' := [(6, .bool false)]) (w' := w302) (by kernel_rfl) ?_
            refine WR.nil ?_
            refine At.go ?_
            refine WC.ret (by kernel_rfl) ?_
            refine At.blockRet ?_
            refine At.thenRet ?_
            refine At.thenRet ?_
            obtain rfl := Option.some.inj H
            have hS : Sat w302 (rf w0) [O55 b87 r108.2] := hS.sel [1] (by kernel_rfl)
            refine At.weaken [6] (L' := [(6, .bool false)]) (by kernel_rfl) ?_
            exact hn0 false _ rfl hS
          · replace H := ite_f H hb304
            refine WC.skip (by kernel_rfl) ?_
            refine At.blockNormal ?_
            refine At.go ?_
            refine WC.reg [0, 1, 2] (by kernel_rfl) (by kernel_rfl) ?_
            refine WR.runk [0, 1, 2] [] [0, 1, 7, 9, 15, 64, 65, 66, 77, 78, 79, 80, 83, 84, 85, 129, 130] (L' := [(0, .int .i64 a0), (1, .int .i64 a1), (7, .pointer (some ⟨b87, 0, none⟩)), (9, .slice A9_l1 x9_l1.length c9_l1), (15, .int .i64 (wi (x15_l5 + 1))), (64, .slice A2 l2.length c2), (65, .int .i64 (l2.length : Int)), (66, .int .i64 x66_l1), (77, .pointer (some ⟨b92, 0, none⟩)), (78, .int .i64 v90.1), (79, .int .i64 a1), (80, .bool (decide (v90.1 < a1))), (83, .int .i64 a0), (84, .pointer (some ⟨b92, 1, none⟩)), (85, .int .u64 v90.2), (129, .int .i64 x15_l5), (130, .int .i64 a1)]) (w' := w302) (by kernel_rfl) ?_
            refine WR.nil ?_
            have hS : Sat w302 (rf w0) [osl 22 (r0 (.int .u64)) 1 A9_l1 c9_l1 x9_l1, O55 b87 r108.2] := hS.sel [0, 1] (by kernel_rfl)
            refine At.again ?_
            refine WL.weaken [0, 1, 7, 9, 15, 64, 65, 66, 77, 78, 79, 80, 83, 84, 85] (L' := [(0, .int .i64 a0), (1, .int .i64 a1), (7, .pointer (some ⟨b87, 0, none⟩)), (9, .slice A9_l1 x9_l1.length c9_l1), (15, .int .i64 (wi (x15_l5 + 1))), (64, .slice A2 l2.length c2), (65, .int .i64 (l2.length : Int)), (66, .int .i64 x66_l1), (77, .pointer (some ⟨b92, 0, none⟩)), (78, .int .i64 v90.1), (79, .int .i64 a1), (80, .bool (decide (v90.1 < a1))), (83, .int .i64 a0), (84, .pointer (some ⟨b92, 1, none⟩)), (85, .int .u64 v90.2)]) (by kernel_rfl) ?_
            exact ih (wi (x15_l5 + 1)) _ hS H
      · replace H := ite_f H hb281
        refine WR.runk [3, 4, 5, 6] [] [0, 1, 7, 9, 15, 16, 64, 65, 66, 77, 78, 79, 80, 83, 84, 85, 129, 130, 131, 132] (L' := [(0, .int .i64 a0), (1, .int .i64 a1), (7, .pointer (some ⟨b87, 0, none⟩)), (9, .slice A9_l1 x9_l1.length c9_l1), (15, .int .i64 x15_l5), (16, .int .u64 0), (64, .slice A2 l2.length c2), (65, .int .i64 (l2.length : Int)), (66, .int .i64 x66_l1), (77, .pointer (some ⟨b92, 0, none⟩)), (78, .int .i64 v90.1), (79, .int .i64 a1), (80, .bool (decide (v90.1 < a1))), (83, .int .i64 a0), (84, .pointer (some ⟨b92, 1, none⟩)), (85, .int .u64 v90.2), (129, undef), (130, undef), (131, undef), (132, .bool false)]) (w' := w) (by kernel_rfl) ?_
        refine WR.nil ?_
        refine At.go ?_
        refine WC.condF (by kernel_rfl) (by kernel_rfl) (by kernel_rfl) ?_
        refine WC.skip (by kernel_rfl) ?_
        refine At.go ?_
        refine WC.seq (by kernel_rfl) ?_
        refine WC.reg [0, 1, 2, 3, 4] (by kernel_rfl) (by kernel_rfl) ?_
        refine WR.runk [0, 1] [2, 3, 4] [0, 1, 7, 9, 15, 16, 64, 65, 66, 77, 78, 79, 80, 83, 84, 85, 129, 130, 131, 137, 138] (L' := [(0, .int .i64 a0), (1, .int .i64 a1), (7, .pointer (some ⟨b87, 0, none⟩)), (9, .slice A9_l1 x9_l1.length c9_l1), (15, .int .i64 x15_l5), (16, .int .u64 0), (64, .slice A2 l2.length c2), (65, .int .i64 (l2.length : Int)), (66, .int .i64 x66_l1), (77, .pointer (some ⟨b92, 0, none⟩)), (78, .int .i64 v90.1), (79, .int .i64 a1), (80, .bool (decide (v90.1 < a1))), (83, .int .i64 a0), (84, .pointer (some ⟨b92, 1, none⟩)), (85, .int .u64 v90.2), (129, undef), (130, undef), (131, undef), (137, .pointer (some ⟨b87, 0, none⟩)), (138, .int .i64 x15_l5)]) (w' := w) (by kernel_rfl) ?_
        obtain ⟨r305, e306, H⟩ := bind_ex H
        refine WR.st (St.call (by kernel_rfl) (f := 13) (args := #[.pointer (some ⟨b87, 0, none⟩), .int .i64 x15_l5]) (by kernel_rfl) (pack_Ints_Get.calls w (.pointer (some ⟨b87, 0, none⟩)) (some r108.2) (Sat.rdAny 1 hS rfl (fun _ h => O55.rd _ _ _ h)) x15_l5 r305 e306) ?_)
        rintro _ w312 ⟨rfl, hS313⟩
        have hS : Sat w312 (rf w0) [osl 22 (r0 (.int .u64)) 1 A9_l1 c9_l1 x9_l1, O55 b87 r108.2] := hS.ext hS313
        refine WR.runk [3, 4] [] [0, 1, 7, 9, 15, 64, 65, 66, 77, 78, 79, 80, 83, 84, 85, 129, 130, 131, 141] (L' := [(0, .int .i64 a0), (1, .int .i64 a1), (7, .pointer (some ⟨b87, 0, none⟩)), (9, .slice A9_l1 x9_l1.length c9_l1), (15, .int .i64 x15_l5), (64, .slice A2 l2.length c2), (65, .int .i64 (l2.length : Int)), (66, .int .i64 x66_l1), (77, .pointer (some ⟨b92, 0, none⟩)), (78, .int .i64 v90.1), (79, .int .i64 a1), (80, .bool (decide (v90.1 < a1))), (83, .int .i64 a0), (84, .pointer (some ⟨b92, 1, none⟩)), (85, .int .u64 v90.2), (129, undef), (130, undef), (131, undef), (141, .bool (r305 != 0))]) (w' := w312) (by kernel_rfl) ?_
        refine WR.nil ?_
        refine At.go ?_
        refine WC.cond (by kernel_rfl) (r305 != 0) (by kernel_rfl) (by kernel_rfl) (fun hb314 => ?_) (fun hb314 => ?_)
        · replace H := ite_t H hb314
          refine WC.seq (by kernel_rfl) ?_
          refine WC.reg [0] (by kernel_rfl) (by kernel_rfl) ?_
          refine WR.runk [0] [] [6] (L' := [(6, .bool false)]) (w' := w312) (by kernel_rfl) ?_
          refine WR.nil ?_
          refine At.go ?_
          refine WC.ret (by kernel_rfl) ?_
          refine At.blockRet ?_
          refine At.thenRet ?_
          refine At.thenRet ?_
          obtain rfl := Option.some.inj H
          have hS : Sat w312 (rf w0) [O55 b87 r108.2] := hS.sel [1] (by kernel_rfl)
          refine At.weaken [6] (L' := [(6, .bool false)]) (by kernel_rfl) ?_
          exact hn0 false _ rfl hS
        · replace H := ite_f H hb314
          refine WC.skip (by kernel_rfl) ?_
          refine At.blockNormal ?_
          refine At.go ?_
          refine WC.reg [0, 1, 2] (by kernel_rfl) (by kernel_rfl) ?_
          refine WR.runk [0, 1, 2] [] [0, 1, 7, 9, 15, 64, 65, 66, 77, 78, 79, 80, 83, 84, 85, 129, 130, 131] (L' := [(0, .int .i64 a0), (1, .int .i64 a1), (7, .pointer (some ⟨b87, 0, none⟩)), (9, .slice A9_l1 x9_l1.length c9_l1), (15, .int .i64 (wi (x15_l5 + 1))), (64, .slice A2 l2.length c2), (65, .int .i64 (l2.length : Int)), (66, .int .i64 x66_l1), (77, .pointer (some ⟨b92, 0, none⟩)), (78, .int .i64 v90.1), (79, .int .i64 a1), (80, .bool (decide (v90.1 < a1))), (83, .int .i64 a0), (84, .pointer (some ⟨b92, 1, none⟩)), (85, .int .u64 v90.2), (129, undef), (130, undef), (131, undef)]) (w' := w312) (by kernel_rfl) ?_
          refine WR.nil ?_
          have hS : Sat w312 (rf w0) [osl 22 (r0 (.int .u64)) 1 A9_l1 c9_l1 x9_l1, O55 b87 r108.2] := hS.sel [0, 1] (by kernel_rfl)
          refine At.again ?_
          refine WL.weaken [0, 1, 7, 9, 15, 64, 65, 66, 77, 78, 79, 80, 83, 84, 85] (L' := [(0, .int .i64 a0), (1, .int .i64 a1), (7, .pointer (some ⟨b87, 0, none⟩)), (9, .slice A9_l1 x9_l1.length c9_l1), (15, .int .i64 (wi (x15_l5 + 1))), (64, .slice A2 l2.length c2), (65, .int .i64 (l2.length : Int)), (66, .int .i64 x66_l1), (77, .pointer (some ⟨b92, 0, none⟩)), (78, .int .i64 v90.1), (79, .int .i64 a1), (80, .bool (decide (v90.1 < a1))), (83, .int .i64 a0), (84, .pointer (some ⟨b92, 1, none⟩)), (85, .int .u64 v90.2)]) (by kernel_rfl) ?_
          exact ih (wi (x15_l5 + 1)) _ hS H
    · replace H := ite_f H hb280
      refine WC.exit (by kernel_rfl) ?_
      refine At.thenExit ?_
      refine At.thenExit ?_
      obtain rfl := Option.some.inj H
      have hS : Sat w (rf w0) [osl 22 (r0 (.int .u64)) 1 A9_l1 c9_l1 x9_l1, O55 b87 r108.2] := hS.sel [0, 1] (by kernel_rfl)
      refine At.weaken [0, 1, 7, 9, 64, 65, 66, 77, 78, 79, 80, 83, 84, 85] (L' := [(0, .int .i64 a0), (1, .int .i64 a1), (7, .pointer (some ⟨b87, 0, none⟩)), (9, .slice A9_l1 x9_l1.length c9_l1), (64, .slice A2 l2.length c2), (65, .int .i64 (l2.length : Int)), (66, .int .i64 x66_l1), (77, .pointer (some ⟨b92, 0, none⟩)), (78, .int .i64 v90.1), (79, .int .i64 a1), (80, .bool (decide (v90.1 < a1))), (83, .int .i64 a0), (84, .pointer (some ⟨b92, 1, none⟩)), (85, .int .u64 v90.2)]) (by kernel_rfl) ?_
      exact hn1 () _ rfl hS
theorem colophonlaw01_PackPlays.l6_ok {Q} (w0 : World) (a0 : Int) (a1 : Int) (A2 : Option Addr) (c2 : Nat) (l2 : List (Int × Int)) (b87 : Nat) (A9_l1 : Option Addr) (c9_l1 : Nat) (x9_l1 : List Int) (x66_l1 : Int) (v90 : Int × Int) (b92 : Nat) (r325 : Bool × (Int × Int × (List Int))) (r335 : (List Int)) (out : Unit) (hn0 : ∀ (w : World), Sat w (rf w0) [osl 22 (r0 (.int .u64)) 1 A9_l1 c9_l1 x9_l1, O55 b87 r325.2] → At Q (.exit 2) 143 [(0, .int .i64 a0), (1, .int .i64 a1), (7, .pointer (some ⟨b87, 0, none⟩)), (9, .slice A9_l1 x9_l1.length c9_l1), (64, .slice A2 l2.length c2), (65, .int .i64 (l2.length : Int)), (66, .int .i64 x66_l1), (77, .pointer (some ⟨b92, 0, none⟩)), (78, .int .i64 v90.1), (79, .int .i64 a1), (80, .bool (decide (v90.1 < a1))), (83, undef), (84, undef), (85, undef), (86, undef)] w) :
    ∀ (k : Nat) (x13_l6 : List Int) (x114_l6 : Int) (A13_l6 : Option Addr) (c13_l6 : Nat) (w : World), Sat w (rf w0) [osl 22 (r0 (.int .u64)) 1 A9_l1 c9_l1 x9_l1, osl 22 (r0 (.int .u64)) 1 A13_l6 c13_l6 x13_l6, O55 b87 r325.2] → colophonlaw01_PackPlays.l6 r335 k x13_l6 x114_l6 = some out → WL Try.prog (cbody (cbody (cr (cl (cr (cr (cr (cr (cr (cr (cr (cbody (cl (cr (cr (cbody (cbody (cr (cl (cr (cr (cr (cr (cr (cr (cr C7)))))))))))))))))))))))))) Q 143 [(0, .int .i64 a0), (1, .int .i64 a1), (7, .pointer (some ⟨b87, 0, none⟩)), (9, .slice A9_l1 x9_l1.length c9_l1), (13, .slice A13_l6 x13_l6.length c13_l6), (64, .slice A2 l2.length c2), (65, .int .i64 (l2.length : Int)), (66, .int .i64 x66_l1), (77, .pointer (some ⟨b92, 0, none⟩)), (78, .int .i64 v90.1), (79, .int .i64 a1), (80, .bool (decide (v90.1 < a1))), (83, undef), (84, undef), (85, undef), (86, undef), (113, .int .i64 (r335.length : Int)), (114, .int .i64 x114_l6)] w := by
  intro k
  induction k with
  | zero => intro x13_l6 x114_l6 A13_l6 c13_l6 w hS H; exact absurd (show none = some out from H) (by simp)
  | succ k ih =>
    intro x13_l6 x114_l6 A13_l6 c13_l6 w hS H
    unfold colophonlaw01_PackPlays.l6 at H
    refine WL.round ?_
    refine WC.seq (by kernel_rfl) ?_
    refine WC.reg [0] (by kernel_rfl) (by kernel_rfl) ?_
    refine WR.runk [0] [] [0, 1, 7, 9, 13, 64, 65, 66, 77, 78, 79, 80, 83, 84, 85, 86, 113, 114, 115] (L' := [(0, .int .i64 a0), (1, .int .i64 a1), (7, .pointer (some ⟨b87, 0, none⟩)), (9, .slice A9_l1 x9_l1.length c9_l1), (13, .slice A13_l6 x13_l6.length c13_l6), (64, .slice A2 l2.length c2), (65, .int .i64 (l2.length : Int)), (66, .int .i64 x66_l1), (77, .pointer (some ⟨b92, 0, none⟩)), (78, .int .i64 v90.1), (79, .int .i64 a1), (80, .bool (decide (v90.1 < a1))), (83, undef), (84, undef), (85, undef), (86, undef), (113, .int .i64 (r335.length : Int)), (114, .int .i64 x114_l6), (115, .bool (decide (x114_l6 < (r335.length : Int))))]) (w' := w) (by kernel_rfl) ?_
    refine WR.nil ?_
    refine At.go ?_
    refine WC.seq (by kernel_rfl) ?_
    refine WC.cond (by kernel_rfl) (decide (x114_l6 < (r335.length : Int))) (by kernel_rfl) (by kernel_rfl) (fun hb378 => ?_) (fun hb378 => ?_)
    · replace H := ite_t H hb378
      refine WC.skip (by kernel_rfl) ?_
      refine At.go ?_
      refine WC.seq (by kernel_rfl) ?_
      refine WC.block (by kernel_rfl) ?_
      refine WC.seq (by kernel_rfl) ?_
      refine WC.reg [0, 1] (by kernel_rfl) (by kernel_rfl) ?_
      refine WR.runk [0, 1] [] [0, 1, 7, 9, 13, 14, 64, 65, 66, 77, 78, 79, 80, 83, 84, 85, 86, 113, 114] (L' := [(0, .int .i64 a0), (1, .int .i64 a1), (7, .pointer (some ⟨b87, 0, none⟩)), (9, .slice A9_l1 x9_l1.length c9_l1), (13, .slice A13_l6 x13_l6.length c13_l6), (14, .int .i64 x114_l6), (64, .slice A2 l2.length c2), (65, .int .i64 (l2.length : Int)), (66, .int .i64 x66_l1), (77, .pointer (some ⟨b92, 0, none⟩)), (78, .int .i64 v90.1), (79, .int .i64 a1), (80, .bool (decide (v90.1 < a1))), (83, undef), (84, undef), (85, undef), (86, undef), (113, .int .i64 (r335.length : Int)), (114, .int .i64 x114_l6)]) (w' := w) (by kernel_rfl) ?_
      refine WR.nil ?_
      refine At.go ?_
      refine WC.reg [0, 1, 2, 3] (by kernel_rfl) (by kernel_rfl) ?_
      refine WR.runk [0, 1] [2, 3] [0, 1, 7, 9, 13, 64, 65, 66, 77, 78, 79, 80, 83, 84, 85, 86, 113, 114, 117, 118] (L' := [(0, .int .i64 a0), (1, .int .i64 a1), (7, .pointer (some ⟨b87, 0, none⟩)), (9, .slice A9_l1 x9_l1.length c9_l1), (13, .slice A13_l6 x13_l6.length c13_l6), (64, .slice A2 l2.length c2), (65, .int .i64 (l2.length : Int)), (66, .int .i64 x66_l1), (77, .pointer (some ⟨b92, 0, none⟩)), (78, .int .i64 v90.1), (79, .int .i64 a1), (80, .bool (decide (v90.1 < a1))), (83, undef), (84, undef), (85, undef), (86, undef), (113, .int .i64 (r335.length : Int)), (114, .int .i64 x114_l6), (117, .slice A13_l6 x13_l6.length c13_l6), (118, .int .i64 x114_l6)]) (w' := w) (by kernel_rfl) ?_
      obtain ⟨v379, e380, H⟩ := bind_ex H
      refine WR.st (St.ofP (PSt.idx (k := .i64) (.tmp 117) (.tmp 118) (by kernel_rfl) (by kernel_rfl) E32 (by kernel_rfl) (by kernel_rfl) (Sat.rdAt 1 hS rfl) e380 ?_))
      refine WR.runk [] [3] [0, 1, 7, 9, 13, 64, 65, 66, 77, 78, 79, 80, 83, 84, 85, 86, 113, 114, 119] (L' := [(0, .int .i64 a0), (1, .int .i64 a1), (7, .pointer (some ⟨b87, 0, none⟩)), (9, .slice A9_l1 x9_l1.length c9_l1), (13, .slice A13_l6 x13_l6.length c13_l6), (64, .slice A2 l2.length c2), (65, .int .i64 (l2.length : Int)), (66, .int .i64 x66_l1), (77, .pointer (some ⟨b92, 0, none⟩)), (78, .int .i64 v90.1), (79, .int .i64 a1), (80, .bool (decide (v90.1 < a1))), (83, undef), (84, undef), (85, undef), (86, undef), (113, .int .i64 (r335.length : Int)), (114, .int .i64 x114_l6), (119, .pointer (some (adr A13_l6 x114_l6.toNat 1)))]) (w' := w) (by kernel_rfl) ?_
      have hS : Sat w (rf w0) [osl 22 (r0 (.int .u64)) 1 A13_l6 c13_l6 x13_l6, osl 22 (r0 (.int .u64)) 1 A9_l1 c9_l1 x9_l1, O55 b87 r325.2] := hS.sel [1, 0, 2] (by kernel_rfl)
      obtain ⟨y381, e382, H⟩ := bind_ex H
      refine WR.st (St.storeElem' (t := 22) (.tmp 119) (.const (.int .u64 77)) (by kernel_rfl) (by kernel_rfl) (by kernel_rfl) hS (by kernel_rfl) (by kernel_rfl) rfl e382 rfl (fun w383 hS => ?_))
      have hl384 := set?_len e382
      refine WR.know 13 (.slice A13_l6 y381.length c13_l6) (.slice A13_l6 x13_l6.length c13_l6) (by kernel_rfl) (by rw [hl384]) ?_
      refine WR.runk [] [] [0, 1, 7, 9, 13, 64, 65, 66, 77, 78, 79, 80, 83, 84, 85, 86, 113, 114] (L' := [(0, .int .i64 a0), (1, .int .i64 a1), (7, .pointer (some ⟨b87, 0, none⟩)), (9, .slice A9_l1 x9_l1.length c9_l1), (13, .slice A13_l6 y381.length c13_l6), (64, .slice A2 l2.length c2), (65, .int .i64 (l2.length : Int)), (66, .int .i64 x66_l1), (77, .pointer (some ⟨b92, 0, none⟩)), (78, .int .i64 v90.1), (79, .int .i64 a1), (80, .bool (decide (v90.1 < a1))), (83, undef), (84, undef), (85, undef), (86, undef), (113, .int .i64 (r335.length : Int)), (114, .int .i64 x114_l6)]) (w' := w383) (by kernel_rfl) ?_
      refine WR.nil ?_
      refine At.blockNormal ?_
      refine At.go ?_
      refine WC.reg [0, 1] (by kernel_rfl) (by kernel_rfl) ?_
      refine WR.runk [0, 1] [] [0, 1, 7, 9, 13, 64, 65, 66, 77, 78, 79, 80, 83, 84, 85, 86, 113, 114] (L' := [(0, .int .i64 a0), (1, .int .i64 a1), (7, .pointer (some ⟨b87, 0, none⟩)), (9, .slice A9_l1 x9_l1.length c9_l1), (13, .slice A13_l6 y381.length c13_l6), (64, .slice A2 l2.length c2), (65, .int .i64 (l2.length : Int)), (66, .int .i64 x66_l1), (77, .pointer (some ⟨b92, 0, none⟩)), (78, .int .i64 v90.1), (79, .int .i64 a1), (80, .bool (decide (v90.1 < a1))), (83, undef), (84, undef), (85, undef), (86, undef), (113, .int .i64 (r335.length : Int)), (114, .int .i64 (wi (x114_l6 + 1)))]) (w' := w383) (by kernel_rfl) ?_
      refine WR.nil ?_
      have hS : Sat w383 (rf w0) [osl 22 (r0 (.int .u64)) 1 A9_l1 c9_l1 x9_l1, osl 22 (r0 (.int .u64)) 1 A13_l6 c13_l6 y381, O55 b87 r325.2] := hS.sel [1, 0, 2] (by kernel_rfl)
      refine At.again ?_
      refine WL.weaken [0, 1, 7, 9, 13, 64, 65, 66, 77, 78, 79, 80, 83, 84, 85, 86, 113, 114] (L' := [(0, .int .i64 a0), (1, .int .i64 a1), (7, .pointer (some ⟨b87, 0, none⟩)), (9, .slice A9_l1 x9_l1.length c9_l1), (13, .slice A13_l6 y381.length c13_l6), (64, .slice A2 l2.length c2), (65, .int .i64 (l2.length : Int)), (66, .int .i64 x66_l1), (77, .pointer (some ⟨b92, 0, none⟩)), (78, .int .i64 v90.1), (79, .int .i64 a1), (80, .bool (decide (v90.1 < a1))), (83, undef), (84, undef), (85, undef), (86, undef), (113, .int .i64 (r335.length : Int)), (114, .int .i64 (wi (x114_l6 + 1)))]) (by kernel_rfl) ?_
      exact ih y381 (wi (x114_l6 + 1)) A13_l6 c13_l6 _ hS H
    · replace H := ite_f H hb378
      refine WC.exit (by kernel_rfl) ?_
      refine At.thenExit ?_
      refine At.thenExit ?_
      obtain rfl := Option.some.inj H
      have hS : Sat w (rf w0) [osl 22 (r0 (.int .u64)) 1 A9_l1 c9_l1 x9_l1, O55 b87 r325.2] := hS.sel [0, 2] (by kernel_rfl)
      refine At.weaken [0, 1, 7, 9, 64, 65, 66, 77, 78, 79, 80, 83, 84, 85, 86] (L' := [(0, .int .i64 a0), (1, .int .i64 a1), (7, .pointer (some ⟨b87, 0, none⟩)), (9, .slice A9_l1 x9_l1.length c9_l1), (64, .slice A2 l2.length c2), (65, .int .i64 (l2.length : Int)), (66, .int .i64 x66_l1), (77, .pointer (some ⟨b92, 0, none⟩)), (78, .int .i64 v90.1), (79, .int .i64 a1), (80, .bool (decide (v90.1 < a1))), (83, undef), (84, undef), (85, undef), (86, undef)]) (by kernel_rfl) ?_
      exact hn0 _ hS
theorem colophonlaw01_PackPlays.l7_ok {Q} (w0 : World) (a0 : Int) (a1 : Int) (A2 : Option Addr) (c2 : Nat) (l2 : List (Int × Int)) (b87 : Nat) (A9_l1 : Option Addr) (c9_l1 : Nat) (x9_l1 : List Int) (x66_l1 : Int) (v90 : Int × Int) (b92 : Nat) (r325 : Bool × (Int × Int × (List Int))) (out : Sum Bool Unit) (hn0 : ∀ (o0 : Bool) (w : World), out = (.inl o0) → Sat w (rf w0) [O55 b87 r325.2] → At Q .ret 143 [(6, .bool o0)] w) (hn1 : ∀ (o1 : Unit) (w : World), out = (.inr o1) → Sat w (rf w0) [osl 22 (r0 (.int .u64)) 1 A9_l1 c9_l1 x9_l1, O55 b87 r325.2] → At Q (.exit 4) 143 [(0, .int .i64 a0), (1, .int .i64 a1), (7, .pointer (some ⟨b87, 0, none⟩)), (9, .slice A9_l1 x9_l1.length c9_l1), (64, .slice A2 l2.length c2), (65, .int .i64 (l2.length : Int)), (66, .int .i64 x66_l1), (77, .pointer (some ⟨b92, 0, none⟩)), (78, .int .i64 v90.1), (79, .int .i64 a1), (80, .bool (decide (v90.1 < a1))), (83, undef), (84, undef), (85, undef), (86, undef)] w) :
    ∀ (k : Nat) (x15_l7 : Int) (w : World), Sat w (rf w0) [osl 22 (r0 (.int .u64)) 1 A9_l1 c9_l1 x9_l1, O55 b87 r325.2] → colophonlaw01_PackPlays.l7 a1 x9_l1 r325 k x15_l7 = some out → WL Try.prog (cbody (cbody (cr (cr (cr (cr (cr (cr (cr (cr (cr (cbody (cl (cr (cr (cbody (cbody (cr (cl (cr (cr (cr (cr (cr (cr (cr C7)))))))))))))))))))))))))) Q 143 [(0, .int .i64 a0), (1, .int .i64 a1), (7, .pointer (some ⟨b87, 0, none⟩)), (9, .slice A9_l1 x9_l1.length c9_l1), (15, .int .i64 x15_l7), (64, .slice A2 l2.length c2), (65, .int .i64 (l2.length : Int)), (66, .int .i64 x66_l1), (77, .pointer (some ⟨b92, 0, none⟩)), (78, .int .i64 v90.1), (79, .int .i64 a1), (80, .bool (decide (v90.1 < a1))), (83, undef), (84, undef), (85, undef), (86, undef)] w := by
  intro k
  induction k with
  | zero => intro x15_l7 w hS H; exact absurd (show none = some out from H) (by simp)
  | succ k ih =>
    intro x15_l7 w hS H
    unfold colophonlaw01_PackPlays.l7 at H
    refine WL.round ?_
    refine WC.seq (by kernel_rfl) ?_
    refine WC.seq (by kernel_rfl) ?_
    refine WC.reg [0, 1, 2] (by kernel_rfl) (by kernel_rfl) ?_
    refine WR.runk [0, 1, 2] [] [0, 1, 7, 9, 15, 64, 65, 66, 77, 78, 79, 80, 83, 84, 85, 86, 123] (L' := [(0, .int .i64 a0), (1, .int .i64 a1), (7, .pointer (some ⟨b87, 0, none⟩)), (9, .slice A9_l1 x9_l1.length c9_l1), (15, .int .i64 x15_l7), (64, .slice A2 l2.length c2), (65, .int .i64 (l2.length : Int)), (66, .int .i64 x66_l1), (77, .pointer (some ⟨b92, 0, none⟩)), (78, .int .i64 v90.1), (79, .int .i64 a1), (80, .bool (decide (v90.1 < a1))), (83, undef), (84, undef), (85, undef), (86, undef), (123, .bool (decide (x15_l7 ≤ a1)))]) (w' := w) (by kernel_rfl) ?_
    refine WR.nil ?_
    refine At.go ?_
    refine WC.cond (by kernel_rfl) (decide (x15_l7 ≤ a1)) (by kernel_rfl) (by kernel_rfl) (fun hb390 => ?_) (fun hb390 => ?_)
    · replace H := ite_t H hb390
      refine WC.skip (by kernel_rfl) ?_
      refine At.go ?_
      refine WC.seq (by kernel_rfl) ?_
      refine WC.block (by kernel_rfl) ?_
      refine WC.seq (by kernel_rfl) ?_
      refine WC.reg [0] (by kernel_rfl) (by kernel_rfl) ?_
      refine WR.runk [0] [] [0, 1, 7, 9, 15, 16, 64, 65, 66, 77, 78, 79, 80, 83, 84, 85, 86] (L' := [(0, .int .i64 a0), (1, .int .i64 a1), (7, .pointer (some ⟨b87, 0, none⟩)), (9, .slice A9_l1 x9_l1.length c9_l1), (15, .int .i64 x15_l7), (16, .int .u64 0), (64, .slice A2 l2.length c2), (65, .int .i64 (l2.length : Int)), (66, .int .i64 x66_l1), (77, .pointer (some ⟨b92, 0, none⟩)), (78, .int .i64 v90.1), (79, .int .i64 a1), (80, .bool (decide (v90.1 < a1))), (83, undef), (84, undef), (85, undef), (86, undef)]) (w' := w) (by kernel_rfl) ?_
      refine WR.nil ?_
      refine At.go ?_
      refine WC.seq (by kernel_rfl) ?_
      refine WC.seq (by kernel_rfl) ?_
      refine WC.reg [0, 1, 2, 3, 4, 5, 6] (by kernel_rfl) (by kernel_rfl) ?_
      refine WR.runk [0, 1, 2] [3, 4, 5, 6] [0, 1, 7, 9, 15, 16, 64, 65, 66, 77, 78, 79, 80, 83, 84, 85, 86, 128] (L' := [(0, .int .i64 a0), (1, .int .i64 a1), (7, .pointer (some ⟨b87, 0, none⟩)), (9, .slice A9_l1 x9_l1.length c9_l1), (15, .int .i64 x15_l7), (16, .int .u64 0), (64, .slice A2 l2.length c2), (65, .int .i64 (l2.length : Int)), (66, .int .i64 x66_l1), (77, .pointer (some ⟨b92, 0, none⟩)), (78, .int .i64 v90.1), (79, .int .i64 a1), (80, .bool (decide (v90.1 < a1))), (83, undef), (84, undef), (85, undef), (86, undef), (128, .bool (decide (x15_l7 ≥ 0)))]) (w' := w) (by kernel_rfl) ?_
      refine WR.split 128 (b := decide (x15_l7 ≥ 0)) (by kernel_rfl) (fun hb391 => ?_) (fun hb391 => ?_)
      · replace H := ite_t H hb391
        refine WR.runk [3, 4, 5, 6] [] [0, 1, 7, 9, 15, 16, 64, 65, 66, 77, 78, 79, 80, 83, 84, 85, 86, 129, 130, 131, 132] (L' := [(0, .int .i64 a0), (1, .int .i64 a1), (7, .pointer (some ⟨b87, 0, none⟩)), (9, .slice A9_l1 x9_l1.length c9_l1), (15, .int .i64 x15_l7), (16, .int .u64 0), (64, .slice A2 l2.length c2), (65, .int .i64 (l2.length : Int)), (66, .int .i64 x66_l1), (77, .pointer (some ⟨b92, 0, none⟩)), (78, .int .i64 v90.1), (79, .int .i64 a1), (80, .bool (decide (v90.1 < a1))), (83, undef), (84, undef), (85, undef), (86, undef), (129, .int .i64 x15_l7), (130, .int .i64 a1), (131, .bool (decide (x15_l7 < a1))), (132, .bool (decide (x15_l7 < a1)))]) (w' := w) (by kernel_rfl) ?_
        refine WR.nil ?_
        refine At.go ?_
        refine WC.cond (by kernel_rfl) (decide (x15_l7 < a1)) (by kernel_rfl) (by kernel_rfl) (fun hb392 => ?_) (fun hb392 => ?_)
        · replace H := ite_t H hb392
          refine WC.reg [0, 1, 2, 3, 4] (by kernel_rfl) (by kernel_rfl) ?_
          refine WR.runk [0, 1] [2, 3, 4] [0, 1, 7, 9, 15, 16, 64, 65, 66, 77, 78, 79, 80, 83, 84, 85, 86, 129, 130, 133, 134] (L' := [(0, .int .i64 a0), (1, .int .i64 a1), (7, .pointer (some ⟨b87, 0, none⟩)), (9, .slice A9_l1 x9_l1.length c9_l1), (15, .int .i64 x15_l7), (16, .int .u64 0), (64, .slice A2 l2.length c2), (65, .int .i64 (l2.length : Int)), (66, .int .i64 x66_l1), (77, .pointer (some ⟨b92, 0, none⟩)), (78, .int .i64 v90.1), (79, .int .i64 a1), (80, .bool (decide (v90.1 < a1))), (83, undef), (84, undef), (85, undef), (86, undef), (129, .int .i64 x15_l7), (130, .int .i64 a1), (133, .slice A9_l1 x9_l1.length c9_l1), (134, .int .i64 x15_l7)]) (w' := w) (by kernel_rfl) ?_
          obtain ⟨v393, e394, H⟩ := bind_ex H
          refine WR.st (St.ofP (PSt.idx (k := .i64) (.tmp 133) (.tmp 134) (by kernel_rfl) (by kernel_rfl) E32 (by kernel_rfl) (by kernel_rfl) (Sat.rdAt 0 hS rfl) e394 ?_))
          refine WR.runk [] [3, 4] [0, 1, 7, 9, 15, 16, 64, 65, 66, 77, 78, 79, 80, 83, 84, 85, 86, 129, 130, 135] (L' := [(0, .int .i64 a0), (1, .int .i64 a1), (7, .pointer (some ⟨b87, 0, none⟩)), (9, .slice A9_l1 x9_l1.length c9_l1), (15, .int .i64 x15_l7), (16, .int .u64 0), (64, .slice A2 l2.length c2), (65, .int .i64 (l2.length : Int)), (66, .int .i64 x66_l1), (77, .pointer (some ⟨b92, 0, none⟩)), (78, .int .i64 v90.1), (79, .int .i64 a1), (80, .bool (decide (v90.1 < a1))), (83, undef), (84, undef), (85, undef), (86, undef), (129, .int .i64 x15_l7), (130, .int .i64 a1), (135, .pointer (some (adr A9_l1 x15_l7.toNat 1)))]) (w' := w) (by kernel_rfl) ?_
          refine WR.st (St.ofR (RSt.loadInt (t := 22) (.tmp 135) (by kernel_rfl) (by kernel_rfl) (by kernel_rfl) (by kernel_rfl) (Sat.rdAt 0 hS rfl) e394 ?_))
          refine WR.runk [4] [] [0, 1, 7, 9, 15, 16, 64, 65, 66, 77, 78, 79, 80, 83, 84, 85, 86, 129, 130] (L' := [(0, .int .i64 a0), (1, .int .i64 a1), (7, .pointer (some ⟨b87, 0, none⟩)), (9, .slice A9_l1 x9_l1.length c9_l1), (15, .int .i64 x15_l7), (16, .int .u64 v393), (64, .slice A2 l2.length c2), (65, .int .i64 (l2.length : Int)), (66, .int .i64 x66_l1), (77, .pointer (some ⟨b92, 0, none⟩)), (78, .int .i64 v90.1), (79, .int .i64 a1), (80, .bool (decide (v90.1 < a1))), (83, undef), (84, undef), (85, undef), (86, undef), (129, .int .i64 x15_l7), (130, .int .i64 a1)]) (w' := w) (by kernel_rfl) ?_
          refine WR.nil ?_
          refine At.go ?_
          refine WC.seq (by kernel_rfl) ?_
          refine WC.reg [0, 1, 2, 3, 4] (by kernel_rfl) (by kernel_rfl) ?_
          refine WR.runk [0, 1] [2, 3, 4] [0, 1, 7, 9, 15, 16, 64, 65, 66, 77, 78, 79, 80, 83, 84, 85, 86, 129, 130, 137, 138] (L' := [(0, .int .i64 a0), (1, .int .i64 a1), (7, .pointer (some ⟨b87, 0, none⟩)), (9, .slice A9_l1 x9_l1.length c9_l1), (15, .int .i64 x15_l7), (16, .int .u64 v393), (64, .slice A2 l2.length c2), (65, .int .i64 (l2.length : Int)), (66, .int .i64 x66_l1), (77, .pointer (some ⟨b92, 0, none⟩)), (78, .int .i64 v90.1), (79, .int .i64 a1), (80, .bool (decide (v90.1 < a1))), (83, undef), (84, undef), (85, undef), (86, undef), (129, .int .i64 x15_l7), (130, .int .i64 a1), (137, .pointer (some ⟨b87, 0, none⟩)), (138, .int .i64 x15_l7)]) (w' := w) (by kernel_rfl) ?_
          obtain ⟨r395, e396, H⟩ := bind_ex H
          refine WR.st (St.call (by kernel_rfl) (f := 13) (args := #[.pointer (some ⟨b87, 0, none⟩), .int .i64 x15_l7]) (by kernel_rfl) (pack_Ints_Get.calls w (.pointer (some ⟨b87, 0, none⟩)) (some r325.2) (Sat.rdAny 1 hS rfl (fun _ h => O55.rd _ _ _ h)) x15_l7 r395 e396) ?_)
          rintro _ w402 ⟨rfl, hS403⟩
          have hS : Sat w402 (rf w0) [osl 22 (r0 (.int .u64)) 1 A9_l1 c9_l1 x9_l1, O55 b87 r325.2] := hS.ext hS403
          refine WR.runk [3, 4] [] [0, 1, 7, 9, 15, 64, 65, 66, 77, 78, 79, 80, 83, 84, 85, 86, 129, 130, 141] (L' := [(0, .int .i64 a0), (1, .int .i64 a1), (7, .pointer (some ⟨b87, 0, none⟩)), (9, .slice A9_l1 x9_l1.length c9_l1), (15, .int .i64 x15_l7), (64, .slice A2 l2.length c2), (65, .int .i64 (l2.length : Int)), (66, .int .i64 x66_l1), (77, .pointer (some ⟨b92, 0, none⟩)), (78, .int .i64 v90.1), (79, .int .i64 a1), (80, .bool (decide (v90.1 < a1))), (83, undef), (84, undef), (85, undef), (86, undef), (129, .int .i64 x15_l7), (130, .int .i64 a1), (141, .bool (r395 != v393))]) (w' := w402) (by kernel_rfl) ?_
          refine WR.nil ?_
          refine At.go ?_
          refine WC.cond (by kernel_rfl) (r395 != v393) (by kernel_rfl) (by kernel_rfl) (fun hb404 => ?_) (fun hb404 => ?_)
          · replace H := ite_t H hb404
            refine WC.seq (by kernel_rfl) ?_
            refine WC.reg [0] (by kernel_rfl) (by kernel_rfl) ?_
            refine WR.runk [0] [] [6] (L' := [(6, .bool false)]) (w' := w402) (by kernel_rfl) ?_
            refine WR.nil ?_
            refine At.go ?_
            refine WC.ret (by kernel_rfl) ?_
            refine At.blockRet ?_
            refine At.thenRet ?_
            refine At.thenRet ?_
            obtain rfl := Option.some.inj H
            have hS : Sat w402 (rf w0) [O55 b87 r325.2] := hS.sel [1] (by kernel_rfl)
            refine At.weaken [6] (L' := [(6, .bool false)]) (by kernel_rfl) ?_
            exact hn0 false _ rfl hS
          · replace H := ite_f H hb404
            refine WC.skip (by kernel_rfl) ?_
            refine At.blockNormal ?_
            refine At.go ?_
            refine WC.reg [0, 1, 2] (by kernel_rfl) (by kernel_rfl) ?_
            refine WR.runk [0, 1, 2] [] [0, 1, 7, 9, 15, 64, 65, 66, 77, 78, 79, 80, 83, 84, 85, 86, 129, 130] (L' := [(0, .int .i64 a0), (1, .int .i64 a1), (7, .pointer (some ⟨b87, 0, none⟩)), (9, .slice A9_l1 x9_l1.length c9_l1), (15, .int .i64 (wi (x15_l7 + 1))), (64, .slice A2 l2.length c2), (65, .int .i64 (l2.length : Int)), (66, .int .i64 x66_l1), (77, .pointer (some ⟨b92, 0, none⟩)), (78, .int .i64 v90.1), (79, .int .i64 a1), (80, .bool (decide (v90.1 < a1))), (83, undef), (84, undef), (85, undef), (86, undef), (129, .int .i64 x15_l7), (130, .int .i64 a1)]) (w' := w402) (by kernel_rfl) ?_
            refine WR.nil ?_
            have hS : Sat w402 (rf w0) [osl 22 (r0 (.int .u64)) 1 A9_l1 c9_l1 x9_l1, O55 b87 r325.2] := hS.sel [0, 1] (by kernel_rfl)
            refine At.again ?_
            refine WL.weaken [0, 1, 7, 9, 15, 64, 65, 66, 77, 78, 79, 80, 83, 84, 85, 86] (L' := [(0, .int .i64 a0), (1, .int .i64 a1), (7, .pointer (some ⟨b87, 0, none⟩)), (9, .slice A9_l1 x9_l1.length c9_l1), (15, .int .i64 (wi (x15_l7 + 1))), (64, .slice A2 l2.length c2), (65, .int .i64 (l2.length : Int)), (66, .int .i64 x66_l1), (77, .pointer (some ⟨b92, 0, none⟩)), (78, .int .i64 v90.1), (79, .int .i64 a1), (80, .bool (decide (v90.1 < a1))), (83, undef), (84, undef), (85, undef), (86, undef)]) (by kernel_rfl) ?_
            exact ih (wi (x15_l7 + 1)) _ hS H
        · replace H := ite_f H hb392
          refine WC.skip (by kernel_rfl) ?_
          refine At.go ?_
          refine WC.seq (by kernel_rfl) ?_
          refine WC.reg [0, 1, 2, 3, 4] (by kernel_rfl) (by kernel_rfl) ?_
          refine WR.runk [0, 1] [2, 3, 4] [0, 1, 7, 9, 15, 16, 64, 65, 66, 77, 78, 79, 80, 83, 84, 85, 86, 129, 130, 137, 138] (L' := [(0, .int .i64 a0), (1, .int .i64 a1), (7, .pointer (some ⟨b87, 0, none⟩)), (9, .slice A9_l1 x9_l1.length c9_l1), (15, .int .i64 x15_l7), (16, .int .u64 0), (64, .slice A2 l2.length c2), (65, .int .i64 (l2.length : Int)), (66, .int .i64 x66_l1), (77, .pointer (some ⟨b92, 0, none⟩)), (78, .int .i64 v90.1), (79, .int .i64 a1), (80, .bool (decide (v90.1 < a1))), (83, undef), (84, undef), (85, undef), (86, undef), (129, .int .i64 x15_l7), (130, .int .i64 a1), (137, .pointer (some ⟨b87, 0, none⟩)), (138, .int .i64 x15_l7)]) (w' := w) (by kernel_rfl) ?_
          obtain ⟨r405, e406, H⟩ := bind_ex H
          refine WR.st (St.call (by kernel_rfl) (f := 13) (args := #[.pointer (some ⟨b87, 0, none⟩), .int .i64 x15_l7]) (by kernel_rfl) (pack_Ints_Get.calls w (.pointer (some ⟨b87, 0, none⟩)) (some r325.2) (Sat.rdAny 1 hS rfl (fun _ h => O55.rd _ _ _ h)) x15_l7 r405 e406) ?_)
          rintro _ w412 ⟨rfl, hS413⟩
          have hS : Sat w412 (rf w0) [osl 22 (r0 (.int .u64)) 1 A9_l1 c9_l1 x9_l1, O55 b87 r325.2] := hS.ext hS413
          refine WR.runk [3, 4] [] [0, 1, 7, 9, 15, 64, 65, 66, 77, 78, 79, 80, 83, 84, 85, 86, 129, 130, 141] (L' := [(0, .int .i64 a0), (1, .int .i64 a1), (7, .pointer (some ⟨b87, 0, none⟩)), (9, .slice A9_l1 x9_l1.length c9_l1), (15, .int .i64 x15_l7), (64, .slice A2 l2.length c2), (65, .int .i64 (l2.length : Int)), (66, .int .i64 x66_l1), (77, .pointer (some ⟨b92, 0, none⟩)), (78, .int .i64 v90.1), (79, .int .i64 a1), (80, .bool (decide (v90.1 < a1))), (83, undef), (84, undef), (85, undef), (86, undef), (129, .int .i64 x15_l7), (130, .int .i64 a1), (141, .bool (r405 != 0))]) (w' := w412) (by kernel_rfl) ?_
          refine WR.nil ?_
          refine At.go ?_
          refine WC.cond (by kernel_rfl) (r405 != 0) (by kernel_rfl) (by kernel_rfl) (fun hb414 => ?_) (fun hb414 => ?_)
          · replace H := ite_t H hb414
            refine WC.seq (by kernel_rfl) ?_
            refine WC.reg [0] (by kernel_rfl) (by kernel_rfl) ?_
            refine WR.runk [0] [] [6] (L' := [(6, .bool false)]) (w' := w412) (by kernel_rfl) ?_
            refine WR.nil ?_
            refine At.go ?_
            refine WC.ret (by kernel_rfl) ?_
            refine At.blockRet ?_
            refine At.thenRet ?_
            refine At.thenRet ?_
            obtain rfl := Option.some.inj H
            have hS : Sat w412 (rf w0) [O55 b87 r325.2] := hS.sel [1] (by kernel_rfl)
            refine At.weaken [6] (L' := [(6, .bool false)]) (by kernel_rfl) ?_
            exact hn0 false _ rfl hS
          · replace H := ite_f H hb414
            refine WC.skip (by kernel_rfl) ?_
            refine At.blockNormal ?_
            refine At.go ?_
            refine WC.reg [0, 1, 2] (by kernel_rfl) (by kernel_rfl) ?_
            refine WR.runk [0, 1, 2] [] [0, 1, 7, 9, 15, 64, 65, 66, 77, 78, 79, 80, 83, 84, 85, 86, 129, 130] (L' := [(0, .int .i64 a0), (1, .int .i64 a1), (7, .pointer (some ⟨b87, 0, none⟩)), (9, .slice A9_l1 x9_l1.length c9_l1), (15, .int .i64 (wi (x15_l7 + 1))), (64, .slice A2 l2.length c2), (65, .int .i64 (l2.length : Int)), (66, .int .i64 x66_l1), (77, .pointer (some ⟨b92, 0, none⟩)), (78, .int .i64 v90.1), (79, .int .i64 a1), (80, .bool (decide (v90.1 < a1))), (83, undef), (84, undef), (85, undef), (86, undef), (129, .int .i64 x15_l7), (130, .int .i64 a1)]) (w' := w412) (by kernel_rfl) ?_
            refine WR.nil ?_
            have hS : Sat w412 (rf w0) [osl 22 (r0 (.int .u64)) 1 A9_l1 c9_l1 x9_l1, O55 b87 r325.2] := hS.sel [0, 1] (by kernel_rfl)
            refine At.again ?_
            refine WL.weaken [0, 1, 7, 9, 15, 64, 65, 66, 77, 78, 79, 80, 83, 84, 85, 86] (L' := [(0, .int .i64 a0), (1, .int .i64 a1), (7, .pointer (some ⟨b87, 0, none⟩)), (9, .slice A9_l1 x9_l1.length c9_l1), (15, .int .i64 (wi (x15_l7 + 1))), (64, .slice A2 l2.length c2), (65, .int .i64 (l2.length : Int)), (66, .int .i64 x66_l1), (77, .pointer (some ⟨b92, 0, none⟩)), (78, .int .i64 v90.1), (79, .int .i64 a1), (80, .bool (decide (v90.1 < a1))), (83, undef), (84, undef), (85, undef), (86, undef)]) (by kernel_rfl) ?_
            exact ih (wi (x15_l7 + 1)) _ hS H
      · replace H := ite_f H hb391
        refine WR.runk [3, 4, 5, 6] [] [0, 1, 7, 9, 15, 16, 64, 65, 66, 77, 78, 79, 80, 83, 84, 85, 86, 129, 130, 131, 132] (L' := [(0, .int .i64 a0), (1, .int .i64 a1), (7, .pointer (some ⟨b87, 0, none⟩)), (9, .slice A9_l1 x9_l1.length c9_l1), (15, .int .i64 x15_l7), (16, .int .u64 0), (64, .slice A2 l2.length c2), (65, .int .i64 (l2.length : Int)), (66, .int .i64 x66_l1), (77, .pointer (some ⟨b92, 0, none⟩)), (78, .int .i64 v90.1), (79, .int .i64 a1), (80, .bool (decide (v90.1 < a1))), (83, undef), (84, undef), (85, undef), (86, undef), (129, undef), (130, undef), (131, undef), (132, .bool false)]) (w' := w) (by kernel_rfl) ?_
        refine WR.nil ?_
        refine At.go ?_
        refine WC.condF (by kernel_rfl) (by kernel_rfl) (by kernel_rfl) ?_
        refine WC.skip (by kernel_rfl) ?_
        refine At.go ?_
        refine WC.seq (by kernel_rfl) ?_
        refine WC.reg [0, 1, 2, 3, 4] (by kernel_rfl) (by kernel_rfl) ?_
        refine WR.runk [0, 1] [2, 3, 4] [0, 1, 7, 9, 15, 16, 64, 65, 66, 77, 78, 79, 80, 83, 84, 85, 86, 129, 130, 131, 137, 138] (L' := [(0, .int .i64 a0), (1, .int .i64 a1), (7, .pointer (some ⟨b87, 0, none⟩)), (9, .slice A9_l1 x9_l1.length c9_l1), (15, .int .i64 x15_l7), (16, .int .u64 0), (64, .slice A2 l2.length c2), (65, .int .i64 (l2.length : Int)), (66, .int .i64 x66_l1), (77, .pointer (some ⟨b92, 0, none⟩)), (78, .int .i64 v90.1), (79, .int .i64 a1), (80, .bool (decide (v90.1 < a1))), (83, undef), (84, undef), (85, undef), (86, undef), (129, undef), (130, undef), (131, undef), (137, .pointer (some ⟨b87, 0, none⟩)), (138, .int .i64 x15_l7)]) (w' := w) (by kernel_rfl) ?_
        obtain ⟨r415, e416, H⟩ := bind_ex H
        refine WR.st (St.call (by kernel_rfl) (f := 13) (args := #[.pointer (some ⟨b87, 0, none⟩), .int .i64 x15_l7]) (by kernel_rfl) (pack_Ints_Get.calls w (.pointer (some ⟨b87, 0, none⟩)) (some r325.2) (Sat.rdAny 1 hS rfl (fun _ h => O55.rd _ _ _ h)) x15_l7 r415 e416) ?_)
        rintro _ w422 ⟨rfl, hS423⟩
        have hS : Sat w422 (rf w0) [osl 22 (r0 (.int .u64)) 1 A9_l1 c9_l1 x9_l1, O55 b87 r325.2] := hS.ext hS423
        refine WR.runk [3, 4] [] [0, 1, 7, 9, 15, 64, 65, 66, 77, 78, 79, 80, 83, 84, 85, 86, 129, 130, 131, 141] (L' := [(0, .int .i64 a0), (1, .int .i64 a1), (7, .pointer (some ⟨b87, 0, none⟩)), (9, .slice A9_l1 x9_l1.length c9_l1), (15, .int .i64 x15_l7), (64, .slice A2 l2.length c2), (65, .int .i64 (l2.length : Int)), (66, .int .i64 x66_l1), (77, .pointer (some ⟨b92, 0, none⟩)), (78, .int .i64 v90.1), (79, .int .i64 a1), (80, .bool (decide (v90.1 < a1))), (83, undef), (84, undef), (85, undef), (86, undef), (129, undef), (130, undef), (131, undef), (141, .bool (r415 != 0))]) (w' := w422) (by kernel_rfl) ?_
        refine WR.nil ?_
        refine At.go ?_
        refine WC.cond (by kernel_rfl) (r415 != 0) (by kernel_rfl) (by kernel_rfl) (fun hb424 => ?_) (fun hb424 => ?_)
        · replace H := ite_t H hb424
          refine WC.seq (by kernel_rfl) ?_
          refine WC.reg [0] (by kernel_rfl) (by kernel_rfl) ?_
          refine WR.runk [0] [] [6] (L' := [(6, .bool false)]) (w' := w422) (by kernel_rfl) ?_
          refine WR.nil ?_
          refine At.go ?_
          refine WC.ret (by kernel_rfl) ?_
          refine At.blockRet ?_
          refine At.thenRet ?_
          refine At.thenRet ?_
          obtain rfl := Option.some.inj H
          have hS : Sat w422 (rf w0) [O55 b87 r325.2] := hS.sel [1] (by kernel_rfl)
          refine At.weaken [6] (L' := [(6, .bool false)]) (by kernel_rfl) ?_
          exact hn0 false _ rfl hS
        · replace H := ite_f H hb424
          refine WC.skip (by kernel_rfl) ?_
          refine At.blockNormal ?_
          refine At.go ?_
          refine WC.reg [0, 1, 2] (by kernel_rfl) (by kernel_rfl) ?_
          refine WR.runk [0, 1, 2] [] [0, 1, 7, 9, 15, 64, 65, 66, 77, 78, 79, 80, 83, 84, 85, 86, 129, 130, 131] (L' := [(0, .int .i64 a0), (1, .int .i64 a1), (7, .pointer (some ⟨b87, 0, none⟩)), (9, .slice A9_l1 x9_l1.length c9_l1), (15, .int .i64 (wi (x15_l7 + 1))), (64, .slice A2 l2.length c2), (65, .int .i64 (l2.length : Int)), (66, .int .i64 x66_l1), (77, .pointer (some ⟨b92, 0, none⟩)), (78, .int .i64 v90.1), (79, .int .i64 a1), (80, .bool (decide (v90.1 < a1))), (83, undef), (84, undef), (85, undef), (86, undef), (129, undef), (130, undef), (131, undef)]) (w' := w422) (by kernel_rfl) ?_
          refine WR.nil ?_
          have hS : Sat w422 (rf w0) [osl 22 (r0 (.int .u64)) 1 A9_l1 c9_l1 x9_l1, O55 b87 r325.2] := hS.sel [0, 1] (by kernel_rfl)
          refine At.again ?_
          refine WL.weaken [0, 1, 7, 9, 15, 64, 65, 66, 77, 78, 79, 80, 83, 84, 85, 86] (L' := [(0, .int .i64 a0), (1, .int .i64 a1), (7, .pointer (some ⟨b87, 0, none⟩)), (9, .slice A9_l1 x9_l1.length c9_l1), (15, .int .i64 (wi (x15_l7 + 1))), (64, .slice A2 l2.length c2), (65, .int .i64 (l2.length : Int)), (66, .int .i64 x66_l1), (77, .pointer (some ⟨b92, 0, none⟩)), (78, .int .i64 v90.1), (79, .int .i64 a1), (80, .bool (decide (v90.1 < a1))), (83, undef), (84, undef), (85, undef), (86, undef)]) (by kernel_rfl) ?_
          exact ih (wi (x15_l7 + 1)) _ hS H
    · replace H := ite_f H hb390
      refine WC.exit (by kernel_rfl) ?_
      refine At.thenExit ?_
      refine At.thenExit ?_
      obtain rfl := Option.some.inj H
      have hS : Sat w (rf w0) [osl 22 (r0 (.int .u64)) 1 A9_l1 c9_l1 x9_l1, O55 b87 r325.2] := hS.sel [0, 1] (by kernel_rfl)
      refine At.weaken [0, 1, 7, 9, 64, 65, 66, 77, 78, 79, 80, 83, 84, 85, 86] (L' := [(0, .int .i64 a0), (1, .int .i64 a1), (7, .pointer (some ⟨b87, 0, none⟩)), (9, .slice A9_l1 x9_l1.length c9_l1), (64, .slice A2 l2.length c2), (65, .int .i64 (l2.length : Int)), (66, .int .i64 x66_l1), (77, .pointer (some ⟨b92, 0, none⟩)), (78, .int .i64 v90.1), (79, .int .i64 a1), (80, .bool (decide (v90.1 < a1))), (83, undef), (84, undef), (85, undef), (86, undef)]) (by kernel_rfl) ?_
      exact hn1 () _ rfl hS
theorem colophonlaw01_PackPlays.l8_ok {Q} (w0 : World) (a0 : Int) (a1 : Int) (A2 : Option Addr) (c2 : Nat) (l2 : List (Int × Int)) (b87 : Nat) (A9_l1 : Option Addr) (c9_l1 : Nat) (x9_l1 : List Int) (x66_l1 : Int) (r435 : Bool × (Int × Int × (List Int))) (r445 : (List Int)) (out : Unit) (hn0 : ∀ (w : World), Sat w (rf w0) [osl 22 (r0 (.int .u64)) 1 A9_l1 c9_l1 x9_l1, O55 b87 r435.2] → At Q (.exit 2) 143 [(0, .int .i64 a0), (1, .int .i64 a1), (7, .pointer (some ⟨b87, 0, none⟩)), (9, .slice A9_l1 x9_l1.length c9_l1), (64, .slice A2 l2.length c2), (65, .int .i64 (l2.length : Int)), (66, .int .i64 x66_l1), (77, undef), (78, undef), (79, undef), (80, undef), (83, undef), (84, undef), (85, undef), (86, undef)] w) :
    ∀ (k : Nat) (x13_l8 : List Int) (x114_l8 : Int) (A13_l8 : Option Addr) (c13_l8 : Nat) (w : World), Sat w (rf w0) [osl 22 (r0 (.int .u64)) 1 A9_l1 c9_l1 x9_l1, osl 22 (r0 (.int .u64)) 1 A13_l8 c13_l8 x13_l8, O55 b87 r435.2] → colophonlaw01_PackPlays.l8 r445 k x13_l8 x114_l8 = some out → WL Try.prog (cbody (cbody (cr (cl (cr (cr (cr (cr (cr (cr (cr (cbody (cl (cr (cr (cbody (cbody (cr (cl (cr (cr (cr (cr (cr (cr (cr C7)))))))))))))))))))))))))) Q 143 [(0, .int .i64 a0), (1, .int .i64 a1), (7, .pointer (some ⟨b87, 0, none⟩)), (9, .slice A9_l1 x9_l1.length c9_l1), (13, .slice A13_l8 x13_l8.length c13_l8), (64, .slice A2 l2.length c2), (65, .int .i64 (l2.length : Int)), (66, .int .i64 x66_l1), (77, undef), (78, undef), (79, undef), (80, undef), (83, undef), (84, undef), (85, undef), (86, undef), (113, .int .i64 (r445.length : Int)), (114, .int .i64 x114_l8)] w := by
  intro k
  induction k with
  | zero => intro x13_l8 x114_l8 A13_l8 c13_l8 w hS H; exact absurd (show none = some out from H) (by simp)
  | succ k ih =>
    intro x13_l8 x114_l8 A13_l8 c13_l8 w hS H
    unfold colophonlaw01_PackPlays.l8 at H
    refine WL.round ?_
    refine WC.seq (by kernel_rfl) ?_
    refine WC.reg [0] (by kernel_rfl) (by kernel_rfl) ?_
    refine WR.runk [0] [] [0, 1, 7, 9, 13, 64, 65, 66, 77, 78, 79, 80, 83, 84, 85, 86, 113, 114, 115] (L' := [(0, .int .i64 a0), (1, .int .i64 a1), (7, .pointer (some ⟨b87, 0, none⟩)), (9, .slice A9_l1 x9_l1.length c9_l1), (13, .slice A13_l8 x13_l8.length c13_l8), (64, .slice A2 l2.length c2), (65, .int .i64 (l2.length : Int)), (66, .int .i64 x66_l1), (77, undef), (78, undef), (79, undef), (80, undef), (83, undef), (84, undef), (85, undef), (86, undef), (113, .int .i64 (r445.length : Int)), (114, .int .i64 x114_l8), (115, .bool (decide (x114_l8 < (r445.length : Int))))]) (w' := w) (by kernel_rfl) ?_
    refine WR.nil ?_
    refine At.go ?_
    refine WC.seq (by kernel_rfl) ?_
    refine WC.cond (by kernel_rfl) (decide (x114_l8 < (r445.length : Int))) (by kernel_rfl) (by kernel_rfl) (fun hb488 => ?_) (fun hb488 => ?_)
    · replace H := ite_t H hb488
      refine WC.skip (by kernel_rfl) ?_
      refine At.go ?_
      refine WC.seq (by kernel_rfl) ?_
      refine WC.block (by kernel_rfl) ?_
      refine WC.seq (by kernel_rfl) ?_
      refine WC.reg [0, 1] (by kernel_rfl) (by kernel_rfl) ?_
      refine WR.runk [0, 1] [] [0, 1, 7, 9, 13, 14, 64, 65, 66, 77, 78, 79, 80, 83, 84, 85, 86, 113, 114] (L' := [(0, .int .i64 a0), (1, .int .i64 a1), (7, .pointer (some ⟨b87, 0, none⟩)), (9, .slice A9_l1 x9_l1.length c9_l1), (13, .slice A13_l8 x13_l8.length c13_l8), (14, .int .i64 x114_l8), (64, .slice A2 l2.length c2), (65, .int .i64 (l2.length : Int)), (66, .int .i64 x66_l1), (77, undef), (78, undef), (79, undef), (80, undef), (83, undef), (84, undef), (85, undef), (86, undef), (113, .int .i64 (r445.length : Int)), (114, .int .i64 x114_l8)]) (w' := w) (by kernel_rfl) ?_
      refine WR.nil ?_
      refine At.go ?_
      refine WC.reg [0, 1, 2, 3] (by kernel_rfl) (by kernel_rfl) ?_
      refine WR.runk [0, 1] [2, 3] [0, 1, 7, 9, 13, 64, 65, 66, 77, 78, 79, 80, 83, 84, 85, 86, 113, 114, 117, 118] (L' := [(0, .int .i64 a0), (1, .int .i64 a1), (7, .pointer (some ⟨b87, 0, none⟩)), (9, .slice A9_l1 x9_l1.length c9_l1), (13, .slice A13_l8 x13_l8.length c13_l8), (64, .slice A2 l2.length c2), (65, .int .i64 (l2.length : Int)), (66, .int .i64 x66_l1), (77, undef), (78, undef), (79, undef), (80, undef), (83, undef), (84, undef), (85, undef), (86, undef), (113, .int .i64 (r445.length : Int)), (114, .int .i64 x114_l8), (117, .slice A13_l8 x13_l8.length c13_l8), (118, .int .i64 x114_l8)]) (w' := w) (by kernel_rfl) ?_
      obtain ⟨v489, e490, H⟩ := bind_ex H
      refine WR.st (St.ofP (PSt.idx (k := .i64) (.tmp 117) (.tmp 118) (by kernel_rfl) (by kernel_rfl) E32 (by kernel_rfl) (by kernel_rfl) (Sat.rdAt 1 hS rfl) e490 ?_))
      refine WR.runk [] [3] [0, 1, 7, 9, 13, 64, 65, 66, 77, 78, 79, 80, 83, 84, 85, 86, 113, 114, 119] (L' := [(0, .int .i64 a0), (1, .int .i64 a1), (7, .pointer (some ⟨b87, 0, none⟩)), (9, .slice A9_l1 x9_l1.length c9_l1), (13, .slice A13_l8 x13_l8.length c13_l8), (64, .slice A2 l2.length c2), (65, .int .i64 (l2.length : Int)), (66, .int .i64 x66_l1), (77, undef), (78, undef), (79, undef), (80, undef), (83, undef), (84, undef), (85, undef), (86, undef), (113, .int .i64 (r445.length : Int)), (114, .int .i64 x114_l8), (119, .pointer (some (adr A13_l8 x114_l8.toNat 1)))]) (w' := w) (by kernel_rfl) ?_
      have hS : Sat w (rf w0) [osl 22 (r0 (.int .u64)) 1 A13_l8 c13_l8 x13_l8, osl 22 (r0 (.int .u64)) 1 A9_l1 c9_l1 x9_l1, O55 b87 r435.2] := hS.sel [1, 0, 2] (by kernel_rfl)
      obtain ⟨y491, e492, H⟩ := bind_ex H
      refine WR.st (St.storeElem' (t := 22) (.tmp 119) (.const (.int .u64 77)) (by kernel_rfl) (by kernel_rfl) (by kernel_rfl) hS (by kernel_rfl) (by kernel_rfl) rfl e492 rfl (fun w493 hS => ?_))
      have hl494 := set?_len e492
      refine WR.know 13 (.slice A13_l8 y491.length c13_l8) (.slice A13_l8 x13_l8.length c13_l8) (by kernel_rfl) (by rw [hl494]) ?_
      refine WR.runk [] [] [0, 1, 7, 9, 13, 64, 65, 66, 77, 78, 79, 80, 83, 84, 85, 86, 113, 114] (L' := [(0, .int .i64 a0), (1, .int .i64 a1), (7, .pointer (some ⟨b87, 0, none⟩)), (9, .slice A9_l1 x9_l1.length c9_l1), (13, .slice A13_l8 y491.length c13_l8), (64, .slice A2 l2.length c2), (65, .int .i64 (l2.length : Int)), (66, .int .i64 x66_l1), (77, undef), (78, undef), (79, undef), (80, undef), (83, undef), (84, undef), (85, undef), (86, undef), (113, .int .i64 (r445.length : Int)), (114, .int .i64 x114_l8)]) (w' := w493) (by kernel_rfl) ?_
      refine WR.nil ?_
      refine At.blockNormal ?_
      refine At.go ?_
      refine WC.reg [0, 1] (by kernel_rfl) (by kernel_rfl) ?_
      refine WR.runk [0, 1] [] [0, 1, 7, 9, 13, 64, 65, 66, 77, 78, 79, 80, 83, 84, 85, 86, 113, 114] (L' := [(0, .int .i64 a0), (1, .int .i64 a1), (7, .pointer (some ⟨b87, 0, none⟩)), (9, .slice A9_l1 x9_l1.length c9_l1), (13, .slice A13_l8 y491.length c13_l8), (64, .slice A2 l2.length c2), (65, .int .i64 (l2.length : Int)), (66, .int .i64 x66_l1), (77, undef), (78, undef), (79, undef), (80, undef), (83, undef), (84, undef), (85, undef), (86, undef), (113, .int .i64 (r445.length : Int)), (114, .int .i64 (wi (x114_l8 + 1)))]) (w' := w493) (by kernel_rfl) ?_
      refine WR.nil ?_
      have hS : Sat w493 (rf w0) [osl 22 (r0 (.int .u64)) 1 A9_l1 c9_l1 x9_l1, osl 22 (r0 (.int .u64)) 1 A13_l8 c13_l8 y491, O55 b87 r435.2] := hS.sel [1, 0, 2] (by kernel_rfl)
      refine At.again ?_
      refine WL.weaken [0, 1, 7, 9, 13, 64, 65, 66, 77, 78, 79, 80, 83, 84, 85, 86, 113, 114] (L' := [(0, .int .i64 a0), (1, .int .i64 a1), (7, .pointer (some ⟨b87, 0, none⟩)), (9, .slice A9_l1 x9_l1.length c9_l1), (13, .slice A13_l8 y491.length c13_l8), (64, .slice A2 l2.length c2), (65, .int .i64 (l2.length : Int)), (66, .int .i64 x66_l1), (77, undef), (78, undef), (79, undef), (80, undef), (83, undef), (84, undef), (85, undef), (86, undef), (113, .int .i64 (r445.length : Int)), (114, .int .i64 (wi (x114_l8 + 1)))]) (by kernel_rfl) ?_
      exact ih y491 (wi (x114_l8 + 1)) A13_l8 c13_l8 _ hS H
    · replace H := ite_f H hb488
      refine WC.exit (by kernel_rfl) ?_
      refine At.thenExit ?_
      refine At.thenExit ?_
      obtain rfl := Option.some.inj H
      have hS : Sat w (rf w0) [osl 22 (r0 (.int .u64)) 1 A9_l1 c9_l1 x9_l1, O55 b87 r435.2] := hS.sel [0, 2] (by kernel_rfl)
      refine At.weaken [0, 1, 7, 9, 64, 65, 66, 77, 78, 79, 80, 83, 84, 85, 86] (L' := [(0, .int .i64 a0), (1, .int .i64 a1), (7, .pointer (some ⟨b87, 0, none⟩)), (9, .slice A9_l1 x9_l1.length c9_l1), (64, .slice A2 l2.length c2), (65, .int .i64 (l2.length : Int)), (66, .int .i64 x66_l1), (77, undef), (78, undef), (79, undef), (80, undef), (83, undef), (84, undef), (85, undef), (86, undef)]) (by kernel_rfl) ?_
      exact hn0 _ hS
theorem colophonlaw01_PackPlays.l9_ok {Q} (w0 : World) (a0 : Int) (a1 : Int) (A2 : Option Addr) (c2 : Nat) (l2 : List (Int × Int)) (b87 : Nat) (A9_l1 : Option Addr) (c9_l1 : Nat) (x9_l1 : List Int) (x66_l1 : Int) (r435 : Bool × (Int × Int × (List Int))) (out : Sum Bool Unit) (hn0 : ∀ (o0 : Bool) (w : World), out = (.inl o0) → Sat w (rf w0) [O55 b87 r435.2] → At Q .ret 143 [(6, .bool o0)] w) (hn1 : ∀ (o1 : Unit) (w : World), out = (.inr o1) → Sat w (rf w0) [osl 22 (r0 (.int .u64)) 1 A9_l1 c9_l1 x9_l1, O55 b87 r435.2] → At Q (.exit 4) 143 [(0, .int .i64 a0), (1, .int .i64 a1), (7, .pointer (some ⟨b87, 0, none⟩)), (9, .slice A9_l1 x9_l1.length c9_l1), (64, .slice A2 l2.length c2), (65, .int .i64 (l2.length : Int)), (66, .int .i64 x66_l1), (77, undef), (78, undef), (79, undef), (80, undef), (83, undef), (84, undef), (85, undef), (86, undef)] w) :
    ∀ (k : Nat) (x15_l9 : Int) (w : World), Sat w (rf w0) [osl 22 (r0 (.int .u64)) 1 A9_l1 c9_l1 x9_l1, O55 b87 r435.2] → colophonlaw01_PackPlays.l9 a1 x9_l1 r435 k x15_l9 = some out → WL Try.prog (cbody (cbody (cr (cr (cr (cr (cr (cr (cr (cr (cr (cbody (cl (cr (cr (cbody (cbody (cr (cl (cr (cr (cr (cr (cr (cr (cr C7)))))))))))))))))))))))))) Q 143 [(0, .int .i64 a0), (1, .int .i64 a1), (7, .pointer (some ⟨b87, 0, none⟩)), (9, .slice A9_l1 x9_l1.length c9_l1), (15, .int .i64 x15_l9), (64, .slice A2 l2.length c2), (65, .int .i64 (l2.length : Int)), (66, .int .i64 x66_l1), (77, undef), (78, undef), (79, undef), (80, undef), (83, undef), (84, undef), (85, undef), (86, undef)] w := by
  intro k
  induction k with
  | zero => intro x15_l9 w hS H; exact absurd (show none = some out from H) (by simp)
  | succ k ih =>
    intro x15_l9 w hS H
    unfold colophonlaw01_PackPlays.l9 at H
    refine WL.round ?_
    refine WC.seq (by kernel_rfl) ?_
    refine WC.seq (by kernel_rfl) ?_
    refine WC.reg [0, 1, 2] (by kernel_rfl) (by kernel_rfl) ?_
    refine WR.runk [0, 1, 2] [] [0, 1, 7, 9, 15, 64, 65, 66, 77, 78, 79, 80, 83, 84, 85, 86, 123] (L' := [(0, .int .i64 a0), (1, .int .i64 a1), (7, .pointer (some ⟨b87, 0, none⟩)), (9, .slice A9_l1 x9_l1.length c9_l1), (15, .int .i64 x15_l9), (64, .slice A2 l2.length c2), (65, .int .i64 (l2.length : Int)), (66, .int .i64 x66_l1), (77, undef), (78, undef), (79, undef), (80, undef), (83, undef), (84, undef), (85, undef), (86, undef), (123, .bool (decide (x15_l9 ≤ a1)))]) (w' := w) (by kernel_rfl) ?_
    refine WR.nil ?_
    refine At.go ?_
    refine WC.cond (by kernel_rfl) (decide (x15_l9 ≤ a1)) (by kernel_rfl) (by kernel_rfl) (fun hb500 => ?_) (fun hb500 => ?_)
    · replace H := ite_t H hb500
      refine WC.skip (by kernel_rfl) ?_
      refine At.go ?_
      refine WC.seq (by kernel_rfl) ?_
      refine WC.block (by kernel_rfl) ?_
      refine WC.seq (by kernel_rfl) ?_
      refine WC.reg [0] (by kernel_rfl) (by kernel_rfl) ?_
      refine WR.runk [0] [] [0, 1, 7, 9, 15, 16, 64, 65, 66, 77, 78, 79, 80, 83, 84, 85, 86] (L' := [(0, .int .i64 a0), (1, .int .i64 a1), (7, .pointer (some ⟨b87, 0, none⟩)), (9, .slice A9_l1 x9_l1.length c9_l1), (15, .int .i64 x15_l9), (16, .int .u64 0), (64, .slice A2 l2.length c2), (65, .int .i64 (l2.length : Int)), (66, .int .i64 x66_l1), (77, undef), (78, undef), (79, undef), (80, undef), (83, undef), (84, undef), (85, undef), (86, undef)]) (w' := w) (by kernel_rfl) ?_
      refine WR.nil ?_
      refine At.go ?_
      refine WC.seq (by kernel_rfl) ?_
      refine WC.seq (by kernel_rfl) ?_
      refine WC.reg [0, 1, 2, 3, 4, 5, 6] (by kernel_rfl) (by kernel_rfl) ?_
      refine WR.runk [0, 1, 2] [3, 4, 5, 6] [0, 1, 7, 9, 15, 16, 64, 65, 66, 77, 78, 79, 80, 83, 84, 85, 86, 128] (L' := [(0, .int .i64 a0), (1, .int .i64 a1), (7, .pointer (some ⟨b87, 0, none⟩)), (9, .slice A9_l1 x9_l1.length c9_l1), (15, .int .i64 x15_l9), (16, .int .u64 0), (64, .slice A2 l2.length c2), (65, .int .i64 (l2.length : Int)), (66, .int .i64 x66_l1), (77, undef), (78, undef), (79, undef), (80, undef), (83, undef), (84, undef), (85, undef), (86, undef), (128, .bool (decide (x15_l9 ≥ 0)))]) (w' := w) (by kernel_rfl) ?_
      refine WR.split 128 (b := decide (x15_l9 ≥ 0)) (by kernel_rfl) (fun hb501 => ?_) (fun hb501 => ?_)
      · replace H := ite_t H hb501
        refine WR.runk [3, 4, 5, 6] [] [0, 1, 7, 9, 15, 16, 64, 65, 66, 77, 78, 79, 80, 83, 84, 85, 86, 129, 130, 131, 132] (L' := [(0, .int .i64 a0), (1, .int .i64 a1), (7, .pointer (some ⟨b87, 0, none⟩)), (9, .slice A9_l1 x9_l1.length c9_l1), (15, .int .i64 x15_l9), (16, .int .u64 0), (64, .slice A2 l2.length c2), (65, .int .i64 (l2.length : Int)), (66, .int .i64 x66_l1), (77, undef), (78, undef), (79, undef), (80, undef), (83, undef), (84, undef), (85, undef), (86, undef), (129, .int .i64 x15_l9), (130, .int .i64 a1), (131, .bool (decide (x15_l9 < a1))), (132, .bool (decide (x15_l9 < a1)))]) (w' := w) (by kernel_rfl) ?_
        refine WR.nil ?_
        refine At.go ?_
        refine WC.cond (by kernel_rfl) (decide (x15_l9 < a1)) (by kernel_rfl) (by kernel_rfl) (fun hb502 => ?_) (fun hb502 => ?_)
        · replace H := ite_t H hb502
          refine WC.reg [0, 1, 2, 3, 4] (by kernel_rfl) (by kernel_rfl) ?_
          refine WR.runk [0, 1] [2, 3, 4] [0, 1, 7, 9, 15, 16, 64, 65, 66, 77, 78, 79, 80, 83, 84, 85, 86, 129, 130, 133, 134] (L' := [(0, .int .i64 a0), (1, .int .i64 a1), (7, .pointer (some ⟨b87, 0, none⟩)), (9, .slice A9_l1 x9_l1.length c9_l1), (15, .int .i64 x15_l9), (16, .int .u64 0), (64, .slice A2 l2.length c2), (65, .int .i64 (l2.length : Int)), (66, .int .i64 x66_l1), (77, undef), (78, undef), (79, undef), (80, undef), (83, undef), (84, undef), (85, undef), (86, undef), (129, .int .i64 x15_l9), (130, .int .i64 a1), (133, .slice A9_l1 x9_l1.length c9_l1), (134, .int .i64 x15_l9)]) (w' := w) (by kernel_rfl) ?_
          obtain ⟨v503, e504, H⟩ := bind_ex H
          refine WR.st (St.ofP (PSt.idx (k := .i64) (.tmp 133) (.tmp 134) (by kernel_rfl) (by kernel_rfl) E32 (by kernel_rfl) (by kernel_rfl) (Sat.rdAt 0 hS rfl) e504 ?_))
          refine WR.runk [] [3, 4] [0, 1, 7, 9, 15, 16, 64, 65, 66, 77, 78, 79, 80, 83, 84, 85, 86, 129, 130, 135] (L' := [(0, .int .i64 a0), (1, .int .i64 a1), (7, .pointer (some ⟨b87, 0, none⟩)), (9, .slice A9_l1 x9_l1.length c9_l1), (15, .int .i64 x15_l9), (16, .int .u64 0), (64, .slice A2 l2.length c2), (65, .int .i64 (l2.length : Int)), (66, .int .i64 x66_l1), (77, undef), (78, undef), (79, undef), (80, undef), (83, undef), (84, undef), (85, undef), (86, undef), (129, .int .i64 x15_l9), (130, .int .i64 a1), (135, .pointer (some (adr A9_l1 x15_l9.toNat 1)))]) (w' := w) (by kernel_rfl) ?_
          refine WR.st (St.ofR (RSt.loadInt (t := 22) (.tmp 135) (by kernel_rfl) (by kernel_rfl) (by kernel_rfl) (by kernel_rfl) (Sat.rdAt 0 hS rfl) e504 ?_))
          refine WR.runk [4] [] [0, 1, 7, 9, 15, 16, 64, 65, 66, 77, 78, 79, 80, 83, 84, 85, 86, 129, 130] (L' := [(0, .int .i64 a0), (1, .int .i64 a1), (7, .pointer (some ⟨b87, 0, none⟩)), (9, .slice A9_l1 x9_l1.length c9_l1), (15, .int .i64 x15_l9), (16, .int .u64 v503), (64, .slice A2 l2.length c2), (65, .int .i64 (l2.length : Int)), (66, .int .i64 x66_l1), (77, undef), (78, undef), (79, undef), (80, undef), (83, undef), (84, undef), (85, undef), (86, undef), (129, .int .i64 x15_l9), (130, .int .i64 a1)]) (w' := w) (by kernel_rfl) ?_
          refine WR.nil ?_
          refine At.go ?_
          refine WC.seq (by kernel_rfl) ?_
          refine WC.reg [0, 1, 2, 3, 4] (by kernel_rfl) (by kernel_rfl) ?_
          refine WR.runk [0, 1] [2, 3, 4] [0, 1, 7, 9, 15, 16, 64, 65, 66, 77, 78, 79, 80, 83, 84, 85, 86, 129, 130, 137, 138] (L' := [(0, .int .i64 a0), (1, .int .i64 a1), (7, .pointer (some ⟨b87, 0, none⟩)), (9, .slice A9_l1 x9_l1.length c9_l1), (15, .int .i64 x15_l9), (16, .int .u64 v503), (64, .slice A2 l2.length c2), (65, .int .i64 (l2.length : Int)), (66, .int .i64 x66_l1), (77, undef), (78, undef), (79, undef), (80, undef), (83, undef), (84, undef), (85, undef), (86, undef), (129, .int .i64 x15_l9), (130, .int .i64 a1), (137, .pointer (some ⟨b87, 0, none⟩)), (138, .int .i64 x15_l9)]) (w' := w) (by kernel_rfl) ?_
          obtain ⟨r505, e506, H⟩ := bind_ex H
          refine WR.st (St.call (by kernel_rfl) (f := 13) (args := #[.pointer (some ⟨b87, 0, none⟩), .int .i64 x15_l9]) (by kernel_rfl) (pack_Ints_Get.calls w (.pointer (some ⟨b87, 0, none⟩)) (some r435.2) (Sat.rdAny 1 hS rfl (fun _ h => O55.rd _ _ _ h)) x15_l9 r505 e506) ?_)
          rintro _ w512 ⟨rfl, hS513⟩
          have hS : Sat w512 (rf w0) [osl 22 (r0 (.int .u64)) 1 A9_l1 c9_l1 x9_l1, O55 b87 r435.2] := hS.ext hS513
          refine WR.runk [3, 4] [] [0, 1, 7, 9, 15, 64, 65, 66, 77, 78, 79, 80, 83, 84, 85, 86, 129, 130, 141] (L' := [(0, .int .i64 a0), (1, .int .i64 a1), (7, .pointer (some ⟨b87, 0, none⟩)), (9, .slice A9_l1 x9_l1.length c9_l1), (15, .int .i64 x15_l9), (64, .slice A2 l2.length c2), (65, .int .i64 (l2.length : Int)), (66, .int .i64 x66_l1), (77, undef), (78, undef), (79, undef), (80, undef), (83, undef), (84, undef), (85, undef), (86, undef), (129, .int .i64 x15_l9), (130, .int .i64 a1), (141, .bool (r505 != v503))]) (w' := w512) (by kernel_rfl) ?_
          refine WR.nil ?_
          refine At.go ?_
          refine WC.cond (by kernel_rfl) (r505 != v503) (by kernel_rfl) (by kernel_rfl) (fun hb514 => ?_) (fun hb514 => ?_)
          · replace H := ite_t H hb514
            refine WC.seq (by kernel_rfl) ?_
            refine WC.reg [0] (by kernel_rfl) (by kernel_rfl) ?_
            refine WR.runk [0] [] [6] (L' := [(6, .bool false)]) (w' := w512) (by kernel_rfl) ?_
            refine WR.nil ?_
            refine At.go ?_
            refine WC.ret (by kernel_rfl) ?_
            refine At.blockRet ?_
            refine At.thenRet ?_
            refine At.thenRet ?_
            obtain rfl := Option.some.inj H
            have hS : Sat w512 (rf w0) [O55 b87 r435.2] := hS.sel [1] (by kernel_rfl)
            refine At.weaken [6] (L' := [(6, .bool false)]) (by kernel_rfl) ?_
            exact hn0 false _ rfl hS
          · replace H := ite_f H hb514
            refine WC.skip (by kernel_rfl) ?_
            refine At.blockNormal ?_
            refine At.go ?_
            refine WC.reg [0, 1, 2] (by kernel_rfl) (by kernel_rfl) ?_
            refine WR.runk [0, 1, 2] [] [0, 1, 7, 9, 15, 64, 65, 66, 77, 78, 79, 80, 83, 84, 85, 86, 129, 130] (L' := [(0, .int .i64 a0), (1, .int .i64 a1), (7, .pointer (some ⟨b87, 0, none⟩)), (9, .slice A9_l1 x9_l1.length c9_l1), (15, .int .i64 (wi (x15_l9 + 1))), (64, .slice A2 l2.length c2), (65, .int .i64 (l2.length : Int)), (66, .int .i64 x66_l1), (77, undef), (78, undef), (79, undef), (80, undef), (83, undef), (84, undef), (85, undef), (86, undef), (129, .int .i64 x15_l9), (130, .int .i64 a1)]) (w' := w512) (by kernel_rfl) ?_
            refine WR.nil ?_
            have hS : Sat w512 (rf w0) [osl 22 (r0 (.int .u64)) 1 A9_l1 c9_l1 x9_l1, O55 b87 r435.2] := hS.sel [0, 1] (by kernel_rfl)
            refine At.again ?_
            refine WL.weaken [0, 1, 7, 9, 15, 64, 65, 66, 77, 78, 79, 80, 83, 84, 85, 86] (L' := [(0, .int .i64 a0), (1, .int .i64 a1), (7, .pointer (some ⟨b87, 0, none⟩)), (9, .slice A9_l1 x9_l1.length c9_l1), (15, .int .i64 (wi (x15_l9 + 1))), (64, .slice A2 l2.length c2), (65, .int .i64 (l2.length : Int)), (66, .int .i64 x66_l1), (77, undef), (78, undef), (79, undef), (80, undef), (83, undef), (84, undef), (85, undef), (86, undef)]) (by kernel_rfl) ?_
            exact ih (wi (x15_l9 + 1)) _ hS H
        · replace H := ite_f H hb502
          refine WC.skip (by kernel_rfl) ?_
          refine At.go ?_
          refine WC.seq (by kernel_rfl) ?_
          refine WC.reg [0, 1, 2, 3, 4] (by kernel_rfl) (by kernel_rfl) ?_
          refine WR.runk [0, 1] [2, 3, 4] [0, 1, 7, 9, 15, 16, 64, 65, 66, 77, 78, 79, 80, 83, 84, 85, 86, 129, 130, 137, 138] (L' := [(0, .int .i64 a0), (1, .int .i64 a1), (7, .pointer (some ⟨b87, 0, none⟩)), (9, .slice A9_l1 x9_l1.length c9_l1), (15, .int .i64 x15_l9), (16, .int .u64 0), (64, .slice A2 l2.length c2), (65, .int .i64 (l2.length : Int)), (66, .int .i64 x66_l1), (77, undef), (78, undef), (79, undef), (80, undef), (83, undef), (84, undef), (85, undef), (86, undef), (129, .int .i64 x15_l9), (130, .int .i64 a1), (137, .pointer (some ⟨b87, 0, none⟩)), (138, .int .i64 x15_l9)]) (w' := w) (by kernel_rfl) ?_
          obtain ⟨r515, e516, H⟩ := bind_ex H
          refine WR.st (St.call (by kernel_rfl) (f := 13) (args := #[.pointer (some ⟨b87, 0, none⟩), .int .i64 x15_l9]) (by kernel_rfl) (pack_Ints_Get.calls w (.pointer (some ⟨b87, 0, none⟩)) (some r435.2) (Sat.rdAny 1 hS rfl (fun _ h => O55.rd _ _ _ h)) x15_l9 r515 e516) ?_)
          rintro _ w522 ⟨rfl, hS523⟩
          have hS : Sat w522 (rf w0) [osl 22 (r0 (.int .u64)) 1 A9_l1 c9_l1 x9_l1, O55 b87 r435.2] := hS.ext hS523
          refine WR.runk [3, 4] [] [0, 1, 7, 9, 15, 64, 65, 66, 77, 78, 79, 80, 83, 84, 85, 86, 129, 130, 141] (L' := [(0, .int .i64 a0), (1, .int .i64 a1), (7, .pointer (some ⟨b87, 0, none⟩)), (9, .slice A9_l1 x9_l1.length c9_l1), (15, .int .i64 x15_l9), (64, .slice A2 l2.length c2), (65, .int .i64 (l2.length : Int)), (66, .int .i64 x66_l1), (77, undef), (78, undef), (79, undef), (80, undef), (83, undef), (84, undef), (85, undef), (86, undef), (129, .int .i64 x15_l9), (130, .int .i64 a1), (141, .bool (r515 != 0))]) (w' := w522) (by kernel_rfl) ?_
          refine WR.nil ?_
          refine At.go ?_
          refine WC.cond (by kernel_rfl) (r515 != 0) (by kernel_rfl) (by kernel_rfl) (fun hb524 => ?_) (fun hb524 => ?_)
          · replace H := ite_t H hb524
            refine WC.seq (by kernel_rfl) ?_
            refine WC.reg [0] (by kernel_rfl) (by kernel_rfl) ?_
            refine WR.runk [0] [] [6] (L' := [(6, .bool false)]) (w' := w522) (by kernel_rfl) ?_
            refine WR.nil ?_
            refine At.go ?_
            refine WC.ret (by kernel_rfl) ?_
            refine At.blockRet ?_
            refine At.thenRet ?_
            refine At.thenRet ?_
            obtain rfl := Option.some.inj H
            have hS : Sat w522 (rf w0) [O55 b87 r435.2] := hS.sel [1] (by kernel_rfl)
            refine At.weaken [6] (L' := [(6, .bool false)]) (by kernel_rfl) ?_
            exact hn0 false _ rfl hS
          · replace H := ite_f H hb524
            refine WC.skip (by kernel_rfl) ?_
            refine At.blockNormal ?_
            refine At.go ?_
            refine WC.reg [0, 1, 2] (by kernel_rfl) (by kernel_rfl) ?_
            refine WR.runk [0, 1, 2] [] [0, 1, 7, 9, 15, 64, 65, 66, 77, 78, 79, 80, 83, 84, 85, 86, 129, 130] (L' := [(0, .int .i64 a0), (1, .int .i64 a1), (7, .pointer (some ⟨b87, 0, none⟩)), (9, .slice A9_l1 x9_l1.length c9_l1), (15, .int .i64 (wi (x15_l9 + 1))), (64, .slice A2 l2.length c2), (65, .int .i64 (l2.length : Int)), (66, .int .i64 x66_l1), (77, undef), (78, undef), (79, undef), (80, undef), (83, undef), (84, undef), (85, undef), (86, undef), (129, .int .i64 x15_l9), (130, .int .i64 a1)]) (w' := w522) (by kernel_rfl) ?_
            refine WR.nil ?_
            have hS : Sat w522 (rf w0) [osl 22 (r0 (.int .u64)) 1 A9_l1 c9_l1 x9_l1, O55 b87 r435.2] := hS.sel [0, 1] (by kernel_rfl)
            refine At.again ?_
            refine WL.weaken [0, 1, 7, 9, 15, 64, 65, 66, 77, 78, 79, 80, 83, 84, 85, 86] (L' := [(0, .int .i64 a0), (1, .int .i64 a1), (7, .pointer (some ⟨b87, 0, none⟩)), (9, .slice A9_l1 x9_l1.length c9_l1), (15, .int .i64 (wi (x15_l9 + 1))), (64, .slice A2 l2.length c2), (65, .int .i64 (l2.length : Int)), (66, .int .i64 x66_l1), (77, undef), (78, undef), (79, undef), (80, undef), (83, undef), (84, undef), (85, undef), (86, undef)]) (by kernel_rfl) ?_
            exact ih (wi (x15_l9 + 1)) _ hS H
      · replace H := ite_f H hb501
        refine WR.runk [3, 4, 5, 6] [] [0, 1, 7, 9, 15, 16, 64, 65, 66, 77, 78, 79, 80, 83, 84, 85, 86, 129, 130, 131, 132] (L' := [(0, .int .i64 a0), (1, .int .i64 a1), (7, .pointer (some ⟨b87, 0, none⟩)), (9, .slice A9_l1 x9_l1.length c9_l1), (15, .int .i64 x15_l9), (16, .int .u64 0), (64, .slice A2 l2.length c2), (65, .int .i64 (l2.length : Int)), (66, .int .i64 x66_l1), (77, undef), (78, undef), (79, undef), (80, undef), (83, undef), (84, undef), (85, undef), (86, undef), (129, undef), (130, undef), (131, undef), (132, .bool false)]) (w' := w) (by kernel_rfl) ?_
        refine WR.nil ?_
        refine At.go ?_
        refine WC.condF (by kernel_rfl) (by kernel_rfl) (by kernel_rfl) ?_
        refine WC.skip (by kernel_rfl) ?_
        refine At.go ?_
        refine WC.seq (by kernel_rfl) ?_
        refine WC.reg [0, 1, 2, 3, 4] (by kernel_rfl) (by kernel_rfl) ?_
        refine WR.runk [0, 1] [2, 3, 4] [0, 1, 7, 9, 15, 16, 64, 65, 66, 77, 78, 79, 80, 83, 84, 85, 86, 129, 130, 131, 137, 138] (L' := [(0, .int .i64 a0), (1, .int .i64 a1), (7, .pointer (some ⟨b87, 0, none⟩)), (9, .slice A9_l1 x9_l1.length c9_l1), (15, .int .i64 x15_l9), (16, .int .u64 0), (64, .slice A2 l2.length c2), (65, .int .i64 (l2.length : Int)), (66, .int .i64 x66_l1), (77, undef), (78, undef), (79, undef), (80, undef), (83, undef), (84, undef), (85, undef), (86, undef), (129, undef), (130, undef), (131, undef), (137, .pointer (some ⟨b87, 0, none⟩)), (138, .int .i64 x15_l9)]) (w' := w) (by kernel_rfl) ?_
        obtain ⟨r525, e526, H⟩ := bind_ex H
        refine WR.st (St.call (by kernel_rfl) (f := 13) (args := #[.pointer (some ⟨b87, 0, none⟩), .int .i64 x15_l9]) (by kernel_rfl) (pack_Ints_Get.calls w (.pointer (some ⟨b87, 0, none⟩)) (some r435.2) (Sat.rdAny 1 hS rfl (fun _ h => O55.rd _ _ _ h)) x15_l9 r525 e526) ?_)
        rintro _ w532 ⟨rfl, hS533⟩
        have hS : Sat w532 (rf w0) [osl 22 (r0 (.int .u64)) 1 A9_l1 c9_l1 x9_l1, O55 b87 r435.2] := hS.ext hS533
        refine WR.runk [3, 4] [] [0, 1, 7, 9, 15, 64, 65, 66, 77, 78, 79, 80, 83, 84, 85, 86, 129, 130, 131, 141] (L' := [(0, .int .i64 a0), (1, .int .i64 a1), (7, .pointer (some ⟨b87, 0, none⟩)), (9, .slice A9_l1 x9_l1.length c9_l1), (15, .int .i64 x15_l9), (64, .slice A2 l2.length c2), (65, .int .i64 (l2.length : Int)), (66, .int .i64 x66_l1), (77, undef), (78, undef), (79, undef), (80, undef), (83, undef), (84, undef), (85, undef), (86, undef), (129, undef), (130, undef), (131, undef), (141, .bool (r525 != 0))]) (w' := w532) (by kernel_rfl) ?_
        refine WR.nil ?_
        refine At.go ?_
        refine WC.cond (by kernel_rfl) (r525 != 0) (by kernel_rfl) (by kernel_rfl) (fun hb534 => ?_) (fun hb534 => ?_)
        · replace H := ite_t H hb534
          refine WC.seq (by kernel_rfl) ?_
          refine WC.reg [0] (by kernel_rfl) (by kernel_rfl) ?_
          refine WR.runk [0] [] [6] (L' := [(6, .bool false)]) (w' := w532) (by kernel_rfl) ?_
          refine WR.nil ?_
          refine At.go ?_
          refine WC.ret (by kernel_rfl) ?_
          refine At.blockRet ?_
          refine At.thenRet ?_
          refine At.thenRet ?_
          obtain rfl := Option.some.inj H
          have hS : Sat w532 (rf w0) [O55 b87 r435.2] := hS.sel [1] (by kernel_rfl)
          refine At.weaken [6] (L' := [(6, .bool false)]) (by kernel_rfl) ?_
          exact hn0 false _ rfl hS
        · replace H := ite_f H hb534
          refine WC.skip (by kernel_rfl) ?_
          refine At.blockNormal ?_
          refine At.go ?_
          refine WC.reg [0, 1, 2] (by kernel_rfl) (by kernel_rfl) ?_
          refine WR.runk [0, 1, 2] [] [0, 1, 7, 9, 15, 64, 65, 66, 77, 78, 79, 80, 83, 84, 85, 86, 129, 130, 131] (L' := [(0, .int .i64 a0), (1, .int .i64 a1), (7, .pointer (some ⟨b87, 0, none⟩)), (9, .slice A9_l1 x9_l1.length c9_l1), (15, .int .i64 (wi (x15_l9 + 1))), (64, .slice A2 l2.length c2), (65, .int .i64 (l2.length : Int)), (66, .int .i64 x66_l1), (77, undef), (78, undef), (79, undef), (80, undef), (83, undef), (84, undef), (85, undef), (86, undef), (129, undef), (130, undef), (131, undef)]) (w' := w532) (by kernel_rfl) ?_
          refine WR.nil ?_
          have hS : Sat w532 (rf w0) [osl 22 (r0 (.int .u64)) 1 A9_l1 c9_l1 x9_l1, O55 b87 r435.2] := hS.sel [0, 1] (by kernel_rfl)
          refine At.again ?_
          refine WL.weaken [0, 1, 7, 9, 15, 64, 65, 66, 77, 78, 79, 80, 83, 84, 85, 86] (L' := [(0, .int .i64 a0), (1, .int .i64 a1), (7, .pointer (some ⟨b87, 0, none⟩)), (9, .slice A9_l1 x9_l1.length c9_l1), (15, .int .i64 (wi (x15_l9 + 1))), (64, .slice A2 l2.length c2), (65, .int .i64 (l2.length : Int)), (66, .int .i64 x66_l1), (77, undef), (78, undef), (79, undef), (80, undef), (83, undef), (84, undef), (85, undef), (86, undef)]) (by kernel_rfl) ?_
          exact ih (wi (x15_l9 + 1)) _ hS H
    · replace H := ite_f H hb500
      refine WC.exit (by kernel_rfl) ?_
      refine At.thenExit ?_
      refine At.thenExit ?_
      obtain rfl := Option.some.inj H
      have hS : Sat w (rf w0) [osl 22 (r0 (.int .u64)) 1 A9_l1 c9_l1 x9_l1, O55 b87 r435.2] := hS.sel [0, 1] (by kernel_rfl)
      refine At.weaken [0, 1, 7, 9, 64, 65, 66, 77, 78, 79, 80, 83, 84, 85, 86] (L' := [(0, .int .i64 a0), (1, .int .i64 a1), (7, .pointer (some ⟨b87, 0, none⟩)), (9, .slice A9_l1 x9_l1.length c9_l1), (64, .slice A2 l2.length c2), (65, .int .i64 (l2.length : Int)), (66, .int .i64 x66_l1), (77, undef), (78, undef), (79, undef), (80, undef), (83, undef), (84, undef), (85, undef), (86, undef)]) (by kernel_rfl) ?_
      exact hn1 () _ rfl hS
theorem colophonlaw01_PackPlays.l1_ok {Q} (w0 : World) (a0 : Int) (a1 : Int) (A2 : Option Addr) (c2 : Nat) (l2 : List (Int × Int)) (b87 : Nat) (R2 : rdS (r0 (.pair (.int .i64) (.int .u64))) 2 (hp w0) A2 c2 l2) (out : Sum (Int × Int × (List Int)) (Bool × (Int × Int × (List Int)))) (hn0 : ∀ (o0 : (Int × Int × (List Int))) (w : World), out = (.inl o0) → Sat w (rf w0) [O55 b87 o0] → At Q (.exit 0) 143 [] w) (hn1 : ∀ (o1 : Bool × (Int × Int × (List Int))) (w : World), out = (.inr o1) → Sat w (rf w0) [O55 b87 o1.2] → At Q .ret 143 [(6, .bool o1.1)] w) :
    ∀ (k : Nat) (x9_l1 : List Int) (x66_l1 : Int) (q88_l1 : Int × Int × (List Int)) (A9_l1 : Option Addr) (c9_l1 : Nat) (w : World), Sat w (rf w0) [osl 22 (r0 (.int .u64)) 1 A9_l1 c9_l1 x9_l1, O55 b87 q88_l1] → colophonlaw01_PackPlays.l1 a0 a1 l2 k x9_l1 x66_l1 q88_l1 = some out → WL Try.prog (cbody (cbody (cr (cl (cr (cr (cr (cr (cr (cr (cr C7))))))))))) Q 143 [(0, .int .i64 a0), (1, .int .i64 a1), (7, .pointer (some ⟨b87, 0, none⟩)), (9, .slice A9_l1 x9_l1.length c9_l1), (64, .slice A2 l2.length c2), (65, .int .i64 (l2.length : Int)), (66, .int .i64 x66_l1)] w := by
  intro k
  induction k with
  | zero => intro x9_l1 x66_l1 q88_l1 A9_l1 c9_l1 w hS H; exact absurd (show none = some out from H) (by simp)
  | succ k ih =>
    intro x9_l1 x66_l1 q88_l1 A9_l1 c9_l1 w hS H
    unfold colophonlaw01_PackPlays.l1 at H
    refine WL.round ?_
    refine WC.seq (by kernel_rfl) ?_
    refine WC.reg [0] (by kernel_rfl) (by kernel_rfl) ?_
    refine WR.runk [0] [] [0, 1, 7, 9, 64, 65, 66, 67] (L' := [(0, .int .i64 a0), (1, .int .i64 a1), (7, .pointer (some ⟨b87, 0, none⟩)), (9, .slice A9_l1 x9_l1.length c9_l1), (64, .slice A2 l2.length c2), (65, .int .i64 (l2.length : Int)), (66, .int .i64 x66_l1), (67, .bool (decide (x66_l1 < (l2.length : Int))))]) (w' := w) (by kernel_rfl) ?_
    refine WR.nil ?_
    refine At.go ?_
    refine WC.seq (by kernel_rfl) ?_
    refine WC.cond (by kernel_rfl) (decide (x66_l1 < (l2.length : Int))) (by kernel_rfl) (by kernel_rfl) (fun hb89 => ?_) (fun hb89 => ?_)
    · replace H := ite_t H hb89
      refine WC.skip (by kernel_rfl) ?_
      refine At.go ?_
      refine WC.seq (by kernel_rfl) ?_
      refine WC.block (by kernel_rfl) ?_
      refine WC.seq (by kernel_rfl) ?_
      refine WC.reg [0, 1, 2, 3, 4, 5] (by kernel_rfl) (by kernel_rfl) ?_
      refine WR.runk [0] [1, 2, 3, 4, 5] [0, 1, 7, 9, 64, 65, 66, 68] (L' := [(0, .int .i64 a0), (1, .int .i64 a1), (7, .pointer (some ⟨b87, 0, none⟩)), (9, .slice A9_l1 x9_l1.length c9_l1), (64, .slice A2 l2.length c2), (65, .int .i64 (l2.length : Int)), (66, .int .i64 x66_l1), (68, .int .i64 x66_l1)]) (w' := w) (by kernel_rfl) ?_
      obtain ⟨v90, e91, H⟩ := bind_ex H
      refine WR.st (St.ofP (PSt.idx (k := .i64) (.tmp 64) (.tmp 66) (by kernel_rfl) (by kernel_rfl) E37 (by kernel_rfl) (by kernel_rfl) (rdS.up R2 hS.sub0) e91 ?_))
      refine WR.runk [] [2, 3, 4, 5] [0, 1, 7, 9, 64, 65, 66, 68, 69] (L' := [(0, .int .i64 a0), (1, .int .i64 a1), (7, .pointer (some ⟨b87, 0, none⟩)), (9, .slice A9_l1 x9_l1.length c9_l1), (64, .slice A2 l2.length c2), (65, .int .i64 (l2.length : Int)), (66, .int .i64 x66_l1), (68, .int .i64 x66_l1), (69, .pointer (some (adr A2 x66_l1.toNat 2)))]) (w' := w) (by kernel_rfl) ?_
      refine WR.st (St.ofR (RSt.loadFlat (t := 40) (κ := (.pair (.int .i64) (.int .u64))) (.tmp 69) (by kernel_rfl) (by kernel_rfl) (by kernel_rfl) (by kernel_rfl) (by kernel_rfl) (by kernel_rfl) (rdS.up R2 hS.sub0) e91 ?_))
      refine WR.runk [] [3, 4, 5] [0, 1, 7, 9, 64, 65, 66, 68, 70] (L' := [(0, .int .i64 a0), (1, .int .i64 a1), (7, .pointer (some ⟨b87, 0, none⟩)), (9, .slice A9_l1 x9_l1.length c9_l1), (64, .slice A2 l2.length c2), (65, .int .i64 (l2.length : Int)), (66, .int .i64 x66_l1), (68, .int .i64 x66_l1), (70, .agg #[.int .i64 v90.1, .int .u64 v90.2])]) (w' := w) (by kernel_rfl) ?_
      refine WR.st (St.box hS (by kernel_rfl) (.cells #[.int .i64 0, .int .u64 0] 40) (fun b92 => .pointer (some ⟨b92, 0, none⟩)) (fun _ => by kernel_rfl) (fun b92 w93 hS => ?_))
      refine WR.runk [4] [5] [0, 1, 7, 9, 10, 11, 64, 65, 66, 70] (L' := [(0, .int .i64 a0), (1, .int .i64 a1), (7, .pointer (some ⟨b87, 0, none⟩)), (9, .slice A9_l1 x9_l1.length c9_l1), (10, .int .i64 x66_l1), (11, .pointer (some ⟨b92, 0, none⟩)), (64, .slice A2 l2.length c2), (65, .int .i64 (l2.length : Int)), (66, .int .i64 x66_l1), (70, .agg #[.int .i64 v90.1, .int .u64 v90.2])]) (w' := w93) (by kernel_rfl) ?_
      refine WR.st (St.storeAll (t := 40) (vs := [.int .i64 v90.1, .int .u64 v90.2]) (.tmp 11) (.tmp 70) (by kernel_rfl) (by kernel_rfl) (by kernel_rfl) hS (by kernel_rfl) (by kernel_rfl) (by kernel_rfl) (by kernel_rfl) (fun w95 hS => ?_))
      have hS : Sat w95 (rf w0) [pts b92 (.cells #[.int .i64 v90.1, .int .u64 v90.2] 40 (0, 0)), osl 22 (r0 (.int .u64)) 1 A9_l1 c9_l1 x9_l1, O55 b87 q88_l1] := hS
      refine WR.runk [] [] [0, 1, 7, 9, 10, 11, 64, 65, 66] (L' := [(0, .int .i64 a0), (1, .int .i64 a1), (7, .pointer (some ⟨b87, 0, none⟩)), (9, .slice A9_l1 x9_l1.length c9_l1), (10, .int .i64 x66_l1), (11, .pointer (some ⟨b92, 0, none⟩)), (64, .slice A2 l2.length c2), (65, .int .i64 (l2.length : Int)), (66, .int .i64 x66_l1)]) (w' := w95) (by kernel_rfl) ?_
      refine WR.nil ?_
      refine At.go ?_
      refine WC.seq (by kernel_rfl) ?_
      refine WC.seq (by kernel_rfl) ?_
      refine WC.reg [0, 1] (by kernel_rfl) (by kernel_rfl) ?_
      refine WR.runk [0, 1] [] [0, 1, 7, 9, 11, 64, 65, 66, 72] (L' := [(0, .int .i64 a0), (1, .int .i64 a1), (7, .pointer (some ⟨b87, 0, none⟩)), (9, .slice A9_l1 x9_l1.length c9_l1), (11, .pointer (some ⟨b92, 0, none⟩)), (64, .slice A2 l2.length c2), (65, .int .i64 (l2.length : Int)), (66, .int .i64 x66_l1), (72, .bool (decide (x66_l1 ≥ 60)))]) (w' := w95) (by kernel_rfl) ?_
      refine WR.nil ?_
      refine At.go ?_
      refine WC.cond (by kernel_rfl) (decide (x66_l1 ≥ 60)) (by kernel_rfl) (by kernel_rfl) (fun hb96 => ?_) (fun hb96 => ?_)
      · replace H := ite_t H hb96
        refine WC.exit (by kernel_rfl) ?_
        refine At.thenExit ?_
        refine At.miss (by kernel_rfl) ?_
        refine At.thenExit ?_
        refine At.thenExit ?_
        obtain rfl := Option.some.inj H
        have hS : Sat w95 (rf w0) [O55 b87 q88_l1] := hS.sel [2] (by kernel_rfl)
        refine At.weaken [] (L' := []) (by kernel_rfl) ?_
        exact hn0 q88_l1 _ rfl hS
      · replace H := ite_f H hb96
        refine WC.skip (by kernel_rfl) ?_
        refine At.go ?_
        refine WC.seq (by kernel_rfl) ?_
        refine WC.reg [0, 1, 2, 3, 4, 5, 6, 7, 8, 9, 10, 11, 12, 13, 14, 15] (by kernel_rfl) (by kernel_rfl) ?_
        refine WR.runk [0] [1, 2, 3, 4, 5, 6, 7, 8, 9, 10, 11, 12, 13, 14, 15] [0, 1, 7, 9, 11, 64, 65, 66, 73] (L' := [(0, .int .i64 a0), (1, .int .i64 a1), (7, .pointer (some ⟨b87, 0, none⟩)), (9, .slice A9_l1 x9_l1.length c9_l1), (11, .pointer (some ⟨b92, 0, none⟩)), (64, .slice A2 l2.length c2), (65, .int .i64 (l2.length : Int)), (66, .int .i64 x66_l1), (73, .pointer (some ⟨b92, 0, none⟩))]) (w' := w95) (by kernel_rfl) ?_
        refine WR.st (St.ofR (RSt.loadObj (t := 3) (k := 0) (v := .int .i64 v90.1) (.tmp 73) (by kernel_rfl) (by kernel_rfl) (by kernel_rfl) 0 hS rfl (by kernel_rfl) rfl ?_))
        refine WR.runk [2, 3] [4, 5, 6, 7, 8, 9, 10, 11, 12, 13, 14, 15] [0, 1, 7, 9, 11, 64, 65, 66, 76] (L' := [(0, .int .i64 a0), (1, .int .i64 a1), (7, .pointer (some ⟨b87, 0, none⟩)), (9, .slice A9_l1 x9_l1.length c9_l1), (11, .pointer (some ⟨b92, 0, none⟩)), (64, .slice A2 l2.length c2), (65, .int .i64 (l2.length : Int)), (66, .int .i64 x66_l1), (76, .bool (decide (v90.1 ≥ 0)))]) (w' := w95) (by kernel_rfl) ?_
        refine WR.split 76 (b := decide (v90.1 ≥ 0)) (by kernel_rfl) (fun hb97 => ?_) (fun hb97 => ?_)
        · replace H := ite_t H hb97
          refine WR.runk [4] [5, 6, 7, 8, 9, 10, 11, 12, 13, 14, 15] [0, 1, 7, 9, 11, 64, 65, 66, 76, 77] (L' := [(0, .int .i64 a0), (1, .int .i64 a1), (7, .pointer (some ⟨b87, 0, none⟩)), (9, .slice A9_l1 x9_l1.length c9_l1), (11, .pointer (some ⟨b92, 0, none⟩)), (64, .slice A2 l2.length c2), (65, .int .i64 (l2.length : Int)), (66, .int .i64 x66_l1), (76, .bool true), (77, .pointer (some ⟨b92, 0, none⟩))]) (w' := w95) (by kernel_rfl) ?_
          refine WR.st (St.ofR (RSt.loadObj (t := 3) (k := 0) (v := .int .i64 v90.1) (.tmp 77) (by kernel_rfl) (by kernel_rfl) (by kernel_rfl) 0 hS rfl (by kernel_rfl) rfl ?_))
          refine WR.runk [6, 7, 8, 9] [10, 11, 12, 13, 14, 15] [0, 1, 7, 9, 11, 64, 65, 66, 77, 78, 79, 80, 82] (L' := [(0, .int .i64 a0), (1, .int .i64 a1), (7, .pointer (some ⟨b87, 0, none⟩)), (9, .slice A9_l1 x9_l1.length c9_l1), (11, .pointer (some ⟨b92, 0, none⟩)), (64, .slice A2 l2.length c2), (65, .int .i64 (l2.length : Int)), (66, .int .i64 x66_l1), (77, .pointer (some ⟨b92, 0, none⟩)), (78, .int .i64 v90.1), (79, .int .i64 a1), (80, .bool (decide (v90.1 < a1))), (82, .bool (decide (v90.1 < a1)))]) (w' := w95) (by kernel_rfl) ?_
          refine WR.split 82 (b := decide (v90.1 < a1)) (by kernel_rfl) (fun hb98 => ?_) (fun hb98 => ?_)
          · replace H := ite_t H hb98
            refine WR.runk [10, 11] [12, 13, 14, 15] [0, 1, 7, 9, 11, 64, 65, 66, 77, 78, 79, 80, 82, 83, 84] (L' := [(0, .int .i64 a0), (1, .int .i64 a1), (7, .pointer (some ⟨b87, 0, none⟩)), (9, .slice A9_l1 x9_l1.length c9_l1), (11, .pointer (some ⟨b92, 0, none⟩)), (64, .slice A2 l2.length c2), (65, .int .i64 (l2.length : Int)), (66, .int .i64 x66_l1), (77, .pointer (some ⟨b92, 0, none⟩)), (78, .int .i64 v90.1), (79, .int .i64 a1), (80, .bool (decide (v90.1 < a1))), (82, .bool true), (83, .int .i64 a0), (84, .pointer (some ⟨b92, 1, none⟩))]) (w' := w95) (by kernel_rfl) ?_
            refine WR.st (St.ofR (RSt.loadObj (t := 22) (k := 1) (v := .int .u64 v90.2) (.tmp 84) (by kernel_rfl) (by kernel_rfl) (by kernel_rfl) 0 hS rfl (by kernel_rfl) rfl ?_))
            refine WR.runk [] [13, 14, 15] [0, 1, 7, 9, 11, 64, 65, 66, 77, 78, 79, 80, 82, 83, 84, 85] (L' := [(0, .int .i64 a0), (1, .int .i64 a1), (7, .pointer (some ⟨b87, 0, none⟩)), (9, .slice A9_l1 x9_l1.length c9_l1), (11, .pointer (some ⟨b92, 0, none⟩)), (64, .slice A2 l2.length c2), (65, .int .i64 (l2.length : Int)), (66, .int .i64 x66_l1), (77, .pointer (some ⟨b92, 0, none⟩)), (78, .int .i64 v90.1), (79, .int .i64 a1), (80, .bool (decide (v90.1 < a1))), (82, .bool true), (83, .int .i64 a0), (84, .pointer (some ⟨b92, 1, none⟩)), (85, .int .u64 v90.2)]) (w' := w95) (by kernel_rfl) ?_
            obtain ⟨r99, e100, H⟩ := bind_ex H
            refine WR.st (St.call (by kernel_rfl) (f := 21) (args := #[.int .i64 a0, .int .u64 v90.2]) (by kernel_rfl) (colophonref01_Fits.calls w95 a0 v90.2 r99 e100) ?_)
            rintro _ w106 ⟨rfl, hS107⟩
            have hS : Sat w106 (rf w0) [pts b92 (.cells #[.int .i64 v90.1, .int .u64 v90.2] 40 (0, 0)), osl 22 (r0 (.int .u64)) 1 A9_l1 c9_l1 x9_l1, O55 b87 q88_l1] := hS.ext hS107
            refine WR.runk [14, 15] [] [0, 1, 7, 9, 11, 12, 64, 65, 66, 77, 78, 79, 80, 83, 84, 85, 86] (L' := [(0, .int .i64 a0), (1, .int .i64 a1), (7, .pointer (some ⟨b87, 0, none⟩)), (9, .slice A9_l1 x9_l1.length c9_l1), (11, .pointer (some ⟨b92, 0, none⟩)), (12, .bool r99), (64, .slice A2 l2.length c2), (65, .int .i64 (l2.length : Int)), (66, .int .i64 x66_l1), (77, .pointer (some ⟨b92, 0, none⟩)), (78, .int .i64 v90.1), (79, .int .i64 a1), (80, .bool (decide (v90.1 < a1))), (83, .int .i64 a0), (84, .pointer (some ⟨b92, 1, none⟩)), (85, .int .u64 v90.2), (86, .bool r99)]) (w' := w106) (by kernel_rfl) ?_
            refine WR.nil ?_
            refine At.go ?_
            refine WC.seq (by kernel_rfl) ?_
            refine WC.seq (by kernel_rfl) ?_
            refine WC.reg [0, 1, 2, 3, 4, 5, 6, 7] (by kernel_rfl) (by kernel_rfl) ?_
            refine WR.runk [0, 1] [2, 3, 4, 5, 6, 7] [0, 1, 7, 9, 11, 12, 64, 65, 66, 77, 78, 79, 80, 83, 84, 85, 86, 88, 89] (L' := [(0, .int .i64 a0), (1, .int .i64 a1), (7, .pointer (some ⟨b87, 0, none⟩)), (9, .slice A9_l1 x9_l1.length c9_l1), (11, .pointer (some ⟨b92, 0, none⟩)), (12, .bool r99), (64, .slice A2 l2.length c2), (65, .int .i64 (l2.length : Int)), (66, .int .i64 x66_l1), (77, .pointer (some ⟨b92, 0, none⟩)), (78, .int .i64 v90.1), (79, .int .i64 a1), (80, .bool (decide (v90.1 < a1))), (83, .int .i64 a0), (84, .pointer (some ⟨b92, 1, none⟩)), (85, .int .u64 v90.2), (86, .bool r99), (88, .pointer (some ⟨b87, 0, none⟩)), (89, .pointer (some ⟨b92, 0, none⟩))]) (w' := w106) (by kernel_rfl) ?_
            refine WR.st (St.ofR (RSt.loadObj (t := 3) (k := 0) (v := .int .i64 v90.1) (.tmp 89) (by kernel_rfl) (by kernel_rfl) (by kernel_rfl) 0 hS rfl (by kernel_rfl) rfl ?_))
            refine WR.runk [3] [4, 5, 6, 7] [0, 1, 7, 9, 11, 12, 64, 65, 66, 77, 78, 79, 80, 83, 84, 85, 86, 88, 90, 91] (L' := [(0, .int .i64 a0), (1, .int .i64 a1), (7, .pointer (some ⟨b87, 0, none⟩)), (9, .slice A9_l1 x9_l1.length c9_l1), (11, .pointer (some ⟨b92, 0, none⟩)), (12, .bool r99), (64, .slice A2 l2.length c2), (65, .int .i64 (l2.length : Int)), (66, .int .i64 x66_l1), (77, .pointer (some ⟨b92, 0, none⟩)), (78, .int .i64 v90.1), (79, .int .i64 a1), (80, .bool (decide (v90.1 < a1))), (83, .int .i64 a0), (84, .pointer (some ⟨b92, 1, none⟩)), (85, .int .u64 v90.2), (86, .bool r99), (88, .pointer (some ⟨b87, 0, none⟩)), (90, .int .i64 v90.1), (91, .pointer (some ⟨b92, 1, none⟩))]) (w' := w106) (by kernel_rfl) ?_
            refine WR.st (St.ofR (RSt.loadObj (t := 22) (k := 1) (v := .int .u64 v90.2) (.tmp 91) (by kernel_rfl) (by kernel_rfl) (by kernel_rfl) 0 hS rfl (by kernel_rfl) rfl ?_))
            refine WR.runk [] [5, 6, 7] [0, 1, 7, 9, 11, 12, 64, 65, 66, 77, 78, 79, 80, 83, 84, 85, 86, 88, 90, 92] (L' := [(0, .int .i64 a0), (1, .int .i64 a1), (7, .pointer (some ⟨b87, 0, none⟩)), (9, .slice A9_l1 x9_l1.length c9_l1), (11, .pointer (some ⟨b92, 0, none⟩)), (12, .bool r99), (64, .slice A2 l2.length c2), (65, .int .i64 (l2.length : Int)), (66, .int .i64 x66_l1), (77, .pointer (some ⟨b92, 0, none⟩)), (78, .int .i64 v90.1), (79, .int .i64 a1), (80, .bool (decide (v90.1 < a1))), (83, .int .i64 a0), (84, .pointer (some ⟨b92, 1, none⟩)), (85, .int .u64 v90.2), (86, .bool r99), (88, .pointer (some ⟨b87, 0, none⟩)), (90, .int .i64 v90.1), (92, .int .u64 v90.2)]) (w' := w106) (by kernel_rfl) ?_
            have hS : Sat w106 (rf w0) [O55 b87 q88_l1, pts b92 (.cells #[.int .i64 v90.1, .int .u64 v90.2] 40 (0, 0)), osl 22 (r0 (.int .u64)) 1 A9_l1 c9_l1 x9_l1] := hS.sel [2, 0, 1] (by kernel_rfl)
            obtain ⟨r108, e109, H⟩ := bind_ex H
            obtain ⟨B114, hso113, hsub111, hcs112, hb110⟩ := Sat.lend [O55 b87 q88_l1] (cs := [pts b92 (.cells #[.int .i64 v90.1, .int .u64 v90.2] 40 (0, 0)), osl 22 (r0 (.int .u64)) 1 A9_l1 c9_l1 x9_l1]) hS
            refine WR.st (St.call (by kernel_rfl) (f := 12) (args := #[.pointer (some ⟨b87, 0, none⟩), .int .i64 v90.1, .int .u64 v90.2]) (by kernel_rfl) (pack_Ints_Set.calls B114 w106 b87 q88_l1 hso113 v90.1 v90.2 r108 e109) ?_)
            rintro _ w115 ⟨rfl, hS116⟩
            have hS : Sat w115 (rf w0) [O55 b87 r108.2, pts b92 (.cells #[.int .i64 v90.1, .int .u64 v90.2] 40 (0, 0)), osl 22 (r0 (.int .u64)) 1 A9_l1 c9_l1 x9_l1] := hb110 _ _ hS116
            refine WR.runk [6, 7] [] [0, 1, 7, 9, 11, 12, 64, 65, 66, 77, 78, 79, 80, 83, 84, 85, 86, 95] (L' := [(0, .int .i64 a0), (1, .int .i64 a1), (7, .pointer (some ⟨b87, 0, none⟩)), (9, .slice A9_l1 x9_l1.length c9_l1), (11, .pointer (some ⟨b92, 0, none⟩)), (12, .bool r99), (64, .slice A2 l2.length c2), (65, .int .i64 (l2.length : Int)), (66, .int .i64 x66_l1), (77, .pointer (some ⟨b92, 0, none⟩)), (78, .int .i64 v90.1), (79, .int .i64 a1), (80, .bool (decide (v90.1 < a1))), (83, .int .i64 a0), (84, .pointer (some ⟨b92, 1, none⟩)), (85, .int .u64 v90.2), (86, .bool r99), (95, .bool (r108.1 != r99))]) (w' := w115) (by kernel_rfl) ?_
            refine WR.nil ?_
            refine At.go ?_
            refine WC.cond (by kernel_rfl) (r108.1 != r99) (by kernel_rfl) (by kernel_rfl) (fun hb117 => ?_) (fun hb117 => ?_)
            · replace H := ite_t H hb117
              refine WC.seq (by kernel_rfl) ?_
              refine WC.reg [0] (by kernel_rfl) (by kernel_rfl) ?_
              refine WR.runk [0] [] [6] (L' := [(6, .bool false)]) (w' := w115) (by kernel_rfl) ?_
              refine WR.nil ?_
              refine At.go ?_
              refine WC.ret (by kernel_rfl) ?_
              refine At.thenRet ?_
              refine At.blockRet ?_
              refine At.thenRet ?_
              refine At.thenRet ?_
              obtain rfl := Option.some.inj H
              have hS : Sat w115 (rf w0) [O55 b87 r108.2] := hS.sel [0] (by kernel_rfl)
              refine At.weaken [6] (L' := [(6, .bool false)]) (by kernel_rfl) ?_
              exact hn1 (false, r108.2) _ rfl hS
            · replace H := ite_f H hb117
              refine WC.skip (by kernel_rfl) ?_
              refine At.go ?_
              refine WC.seq (by kernel_rfl) ?_
              refine WC.seq (by kernel_rfl) ?_
              refine WC.reg [0] (by kernel_rfl) (by kernel_rfl) ?_
              refine WR.runk [0] [] [0, 1, 7, 9, 11, 64, 65, 66, 77, 78, 79, 80, 83, 84, 85, 86, 96] (L' := [(0, .int .i64 a0), (1, .int .i64 a1), (7, .pointer (some ⟨b87, 0, none⟩)), (9, .slice A9_l1 x9_l1.length c9_l1), (11, .pointer (some ⟨b92, 0, none⟩)), (64, .slice A2 l2.length c2), (65, .int .i64 (l2.length : Int)), (66, .int .i64 x66_l1), (77, .pointer (some ⟨b92, 0, none⟩)), (78, .int .i64 v90.1), (79, .int .i64 a1), (80, .bool (decide (v90.1 < a1))), (83, .int .i64 a0), (84, .pointer (some ⟨b92, 1, none⟩)), (85, .int .u64 v90.2), (86, .bool r99), (96, .bool r99)]) (w' := w115) (by kernel_rfl) ?_
              refine WR.nil ?_
              refine At.go ?_
              refine WC.cond (by kernel_rfl) r99 (by kernel_rfl) (by kernel_rfl) (fun hb118 => ?_) (fun hb118 => ?_)
              · replace H := ite_t H hb118
                refine WC.reg [0, 1, 2, 3, 4, 5, 6] (by kernel_rfl) (by kernel_rfl) ?_
                refine WR.runk [0, 1] [2, 3, 4, 5, 6] [0, 1, 7, 9, 11, 64, 65, 66, 77, 78, 79, 80, 83, 84, 85, 97, 98] (L' := [(0, .int .i64 a0), (1, .int .i64 a1), (7, .pointer (some ⟨b87, 0, none⟩)), (9, .slice A9_l1 x9_l1.length c9_l1), (11, .pointer (some ⟨b92, 0, none⟩)), (64, .slice A2 l2.length c2), (65, .int .i64 (l2.length : Int)), (66, .int .i64 x66_l1), (77, .pointer (some ⟨b92, 0, none⟩)), (78, .int .i64 v90.1), (79, .int .i64 a1), (80, .bool (decide (v90.1 < a1))), (83, .int .i64 a0), (84, .pointer (some ⟨b92, 1, none⟩)), (85, .int .u64 v90.2), (97, .slice A9_l1 x9_l1.length c9_l1), (98, .pointer (some ⟨b92, 0, none⟩))]) (w' := w115) (by kernel_rfl) ?_
                refine WR.st (St.ofR (RSt.loadObj (t := 3) (k := 0) (v := .int .i64 v90.1) (.tmp 98) (by kernel_rfl) (by kernel_rfl) (by kernel_rfl) 1 hS rfl (by kernel_rfl) rfl ?_))
                refine WR.runk [3] [4, 5, 6] [0, 1, 7, 9, 64, 65, 66, 77, 78, 79, 80, 83, 84, 85, 97, 99, 100] (L' := [(0, .int .i64 a0), (1, .int .i64 a1), (7, .pointer (some ⟨b87, 0, none⟩)), (9, .slice A9_l1 x9_l1.length c9_l1), (64, .slice A2 l2.length c2), (65, .int .i64 (l2.length : Int)), (66, .int .i64 x66_l1), (77, .pointer (some ⟨b92, 0, none⟩)), (78, .int .i64 v90.1), (79, .int .i64 a1), (80, .bool (decide (v90.1 < a1))), (83, .int .i64 a0), (84, .pointer (some ⟨b92, 1, none⟩)), (85, .int .u64 v90.2), (97, .slice A9_l1 x9_l1.length c9_l1), (99, .int .i64 v90.1), (100, .pointer (some ⟨b92, 1, none⟩))]) (w' := w115) (by kernel_rfl) ?_
                refine WR.st (St.ofR (RSt.loadObj (t := 22) (k := 1) (v := .int .u64 v90.2) (.tmp 100) (by kernel_rfl) (by kernel_rfl) (by kernel_rfl) 1 hS rfl (by kernel_rfl) rfl ?_))
                refine WR.runk [] [5, 6] [0, 1, 7, 9, 64, 65, 66, 77, 78, 79, 80, 83, 84, 85, 97, 99, 101] (L' := [(0, .int .i64 a0), (1, .int .i64 a1), (7, .pointer (some ⟨b87, 0, none⟩)), (9, .slice A9_l1 x9_l1.length c9_l1), (64, .slice A2 l2.length c2), (65, .int .i64 (l2.length : Int)), (66, .int .i64 x66_l1), (77, .pointer (some ⟨b92, 0, none⟩)), (78, .int .i64 v90.1), (79, .int .i64 a1), (80, .bool (decide (v90.1 < a1))), (83, .int .i64 a0), (84, .pointer (some ⟨b92, 1, none⟩)), (85, .int .u64 v90.2), (97, .slice A9_l1 x9_l1.length c9_l1), (99, .int .i64 v90.1), (101, .int .u64 v90.2)]) (w' := w115) (by kernel_rfl) ?_
                obtain ⟨v119, e120, H⟩ := bind_ex H
                refine WR.st (St.ofP (PSt.idx (k := .i64) (.tmp 97) (.tmp 99) (by kernel_rfl) (by kernel_rfl) E32 (by kernel_rfl) (by kernel_rfl) (Sat.rdAt 2 hS rfl) e120 ?_))
                refine WR.runk [] [6] [0, 1, 7, 9, 64, 65, 66, 77, 78, 79, 80, 83, 84, 85, 101, 102] (L' := [(0, .int .i64 a0), (1, .int .i64 a1), (7, .pointer (some ⟨b87, 0, none⟩)), (9, .slice A9_l1 x9_l1.length c9_l1), (64, .slice A2 l2.length c2), (65, .int .i64 (l2.length : Int)), (66, .int .i64 x66_l1), (77, .pointer (some ⟨b92, 0, none⟩)), (78, .int .i64 v90.1), (79, .int .i64 a1), (80, .bool (decide (v90.1 < a1))), (83, .int .i64 a0), (84, .pointer (some ⟨b92, 1, none⟩)), (85, .int .u64 v90.2), (101, .int .u64 v90.2), (102, .pointer (some (adr A9_l1 (v90.1).toNat 1)))]) (w' := w115) (by kernel_rfl) ?_
                have hS : Sat w115 (rf w0) [osl 22 (r0 (.int .u64)) 1 A9_l1 c9_l1 x9_l1, O55 b87 r108.2, pts b92 (.cells #[.int .i64 v90.1, .int .u64 v90.2] 40 (0, 0))] := hS.sel [2, 0, 1] (by kernel_rfl)
                obtain ⟨y121, e122, H⟩ := bind_ex H
                refine WR.st (St.storeElem' (t := 22) (.tmp 102) (.tmp 101) (by kernel_rfl) (by kernel_rfl) (by kernel_rfl) hS (by kernel_rfl) (by kernel_rfl) rfl e122 rfl (fun w123 hS => ?_))
                have hl124 := set?_len e122
                refine WR.know 9 (.slice A9_l1 y121.length c9_l1) (.slice A9_l1 x9_l1.length c9_l1) (by kernel_rfl) (by rw [hl124]) ?_
                refine WR.runk [] [] [0, 1, 7, 9, 64, 65, 66, 77, 78, 79, 80, 83, 84, 85] (L' := [(0, .int .i64 a0), (1, .int .i64 a1), (7, .pointer (some ⟨b87, 0, none⟩)), (9, .slice A9_l1 y121.length c9_l1), (64, .slice A2 l2.length c2), (65, .int .i64 (l2.length : Int)), (66, .int .i64 x66_l1), (77, .pointer (some ⟨b92, 0, none⟩)), (78, .int .i64 v90.1), (79, .int .i64 a1), (80, .bool (decide (v90.1 < a1))), (83, .int .i64 a0), (84, .pointer (some ⟨b92, 1, none⟩)), (85, .int .u64 v90.2)]) (w' := w123) (by kernel_rfl) ?_
                refine WR.nil ?_
                refine At.go ?_
                refine WC.seq (by kernel_rfl) ?_
                refine WC.reg [0, 1, 2] (by kernel_rfl) (by kernel_rfl) ?_
                refine WR.runk [0] [1, 2] [0, 1, 7, 9, 64, 65, 66, 77, 78, 79, 80, 83, 84, 85, 103] (L' := [(0, .int .i64 a0), (1, .int .i64 a1), (7, .pointer (some ⟨b87, 0, none⟩)), (9, .slice A9_l1 y121.length c9_l1), (64, .slice A2 l2.length c2), (65, .int .i64 (l2.length : Int)), (66, .int .i64 x66_l1), (77, .pointer (some ⟨b92, 0, none⟩)), (78, .int .i64 v90.1), (79, .int .i64 a1), (80, .bool (decide (v90.1 < a1))), (83, .int .i64 a0), (84, .pointer (some ⟨b92, 1, none⟩)), (85, .int .u64 v90.2), (103, .pointer (some ⟨b87, 0, none⟩))]) (w' := w123) (by kernel_rfl) ?_
                obtain ⟨r125, e126, H⟩ := bind_ex H
                refine WR.st (St.call (by kernel_rfl) (f := 14) (args := #[.pointer (some ⟨b87, 0, none⟩)]) (by kernel_rfl) (pack_Ints_Words.calls w123 (.pointer (some ⟨b87, 0, none⟩)) (some r108.2) (Sat.rdAny 1 hS rfl (fun _ h => O55.rd _ _ _ h)) r125 e126) ?_)
                rintro _ w132 ⟨A134, c135, rfl, hS133⟩
                have hS : Sat w132 (rf w0) [osl 22 (r0 (.int .u64)) 1 A134 c135 r125, osl 22 (r0 (.int .u64)) 1 A9_l1 c9_l1 y121, O55 b87 r108.2, pts b92 (.cells #[.int .i64 v90.1, .int .u64 v90.2] 40 (0, 0))] := hS.ext hS133
                refine WR.runk [2] [] [0, 1, 7, 9, 13, 64, 65, 66, 77, 78, 79, 80, 83, 84, 85] (L' := [(0, .int .i64 a0), (1, .int .i64 a1), (7, .pointer (some ⟨b87, 0, none⟩)), (9, .slice A9_l1 y121.length c9_l1), (13, .slice A134 r125.length c135), (64, .slice A2 l2.length c2), (65, .int .i64 (l2.length : Int)), (66, .int .i64 x66_l1), (77, .pointer (some ⟨b92, 0, none⟩)), (78, .int .i64 v90.1), (79, .int .i64 a1), (80, .bool (decide (v90.1 < a1))), (83, .int .i64 a0), (84, .pointer (some ⟨b92, 1, none⟩)), (85, .int .u64 v90.2)]) (w' := w132) (by kernel_rfl) ?_
                refine WR.nil ?_
                refine At.go ?_
                refine WC.seq (by kernel_rfl) ?_
                refine WC.seq (by kernel_rfl) ?_
                refine WC.reg [0, 1, 2, 3, 4, 5, 6] (by kernel_rfl) (by kernel_rfl) ?_
                refine WR.runk [0, 1, 2] [3, 4, 5, 6] [0, 1, 7, 9, 13, 64, 65, 66, 77, 78, 79, 80, 83, 84, 85, 105, 106, 107] (L' := [(0, .int .i64 a0), (1, .int .i64 a1), (7, .pointer (some ⟨b87, 0, none⟩)), (9, .slice A9_l1 y121.length c9_l1), (13, .slice A134 r125.length c135), (64, .slice A2 l2.length c2), (65, .int .i64 (l2.length : Int)), (66, .int .i64 x66_l1), (77, .pointer (some ⟨b92, 0, none⟩)), (78, .int .i64 v90.1), (79, .int .i64 a1), (80, .bool (decide (v90.1 < a1))), (83, .int .i64 a0), (84, .pointer (some ⟨b92, 1, none⟩)), (85, .int .u64 v90.2), (105, .slice A134 r125.length c135), (106, .int .i64 a0), (107, .slice A9_l1 y121.length c9_l1)]) (w' := w132) (by kernel_rfl) ?_
                obtain ⟨r136, e137, H⟩ := bind_ex H
                refine WR.st (St.call (by kernel_rfl) (f := 23) (args := #[.int .i64 a0, .slice A9_l1 y121.length c9_l1]) (by kernel_rfl) (colophonref01_Bits.calls w132 a0 A9_l1 c9_l1 y121 (Sat.rdAt 1 hS rfl) r136 e137) ?_)
                rintro _ w143 ⟨A145, c146, rfl, hS144⟩
                have hS : Sat w143 (rf w0) [osl 5 (r0 (.int .u8)) 1 A145 c146 r136, osl 22 (r0 (.int .u64)) 1 A134 c135 r125, osl 22 (r0 (.int .u64)) 1 A9_l1 c9_l1 y121, O55 b87 r108.2, pts b92 (.cells #[.int .i64 v90.1, .int .u64 v90.2] 40 (0, 0))] := hS.ext hS144
                refine WR.runk [] [4, 5, 6] [0, 1, 7, 9, 13, 64, 65, 66, 77, 78, 79, 80, 83, 84, 85, 105, 108] (L' := [(0, .int .i64 a0), (1, .int .i64 a1), (7, .pointer (some ⟨b87, 0, none⟩)), (9, .slice A9_l1 y121.length c9_l1), (13, .slice A134 r125.length c135), (64, .slice A2 l2.length c2), (65, .int .i64 (l2.length : Int)), (66, .int .i64 x66_l1), (77, .pointer (some ⟨b92, 0, none⟩)), (78, .int .i64 v90.1), (79, .int .i64 a1), (80, .bool (decide (v90.1 < a1))), (83, .int .i64 a0), (84, .pointer (some ⟨b92, 1, none⟩)), (85, .int .u64 v90.2), (105, .slice A134 r125.length c135), (108, .slice A145 r136.length c146)]) (w' := w143) (by kernel_rfl) ?_
                obtain ⟨r147, e148, H⟩ := bind_ex H
                refine WR.st (St.call (by kernel_rfl) (f := 22) (args := #[.slice A145 r136.length c146]) (by kernel_rfl) (colophonref01_Words.calls w143 A145 c146 r136 (Sat.rdAt 0 hS rfl) r147 e148) ?_)
                rintro _ w154 ⟨A156, c157, rfl, hS155⟩
                have hS : Sat w154 (rf w0) [osl 22 (r0 (.int .u64)) 1 A156 c157 r147, osl 5 (r0 (.int .u8)) 1 A145 c146 r136, osl 22 (r0 (.int .u64)) 1 A134 c135 r125, osl 22 (r0 (.int .u64)) 1 A9_l1 c9_l1 y121, O55 b87 r108.2, pts b92 (.cells #[.int .i64 v90.1, .int .u64 v90.2] 40 (0, 0))] := hS.ext hS155
                refine WR.runk [] [5, 6] [0, 1, 7, 9, 13, 64, 65, 66, 77, 78, 79, 80, 83, 84, 85, 105, 109] (L' := [(0, .int .i64 a0), (1, .int .i64 a1), (7, .pointer (some ⟨b87, 0, none⟩)), (9, .slice A9_l1 y121.length c9_l1), (13, .slice A134 r125.length c135), (64, .slice A2 l2.length c2), (65, .int .i64 (l2.length : Int)), (66, .int .i64 x66_l1), (77, .pointer (some ⟨b92, 0, none⟩)), (78, .int .i64 v90.1), (79, .int .i64 a1), (80, .bool (decide (v90.1 < a1))), (83, .int .i64 a0), (84, .pointer (some ⟨b92, 1, none⟩)), (85, .int .u64 v90.2), (105, .slice A134 r125.length c135), (109, .slice A156 r147.length c157)]) (w' := w154) (by kernel_rfl) ?_
                obtain ⟨r158, e159, H⟩ := bind_ex H
                refine WR.st (St.call (by kernel_rfl) (f := 19) (args := #[.slice A134 r125.length c135, .slice A156 r147.length c157]) (by kernel_rfl) (colophonref01_Same.calls w154 A134 c135 r125 (Sat.rdAt 2 hS rfl) A156 c157 r147 (Sat.rdAt 0 hS rfl) r158 e159) ?_)
                rintro _ w165 ⟨rfl, hS166⟩
                have hS : Sat w165 (rf w0) [osl 22 (r0 (.int .u64)) 1 A156 c157 r147, osl 5 (r0 (.int .u8)) 1 A145 c146 r136, osl 22 (r0 (.int .u64)) 1 A134 c135 r125, osl 22 (r0 (.int .u64)) 1 A9_l1 c9_l1 y121, O55 b87 r108.2, pts b92 (.cells #[.int .i64 v90.1, .int .u64 v90.2] 40 (0, 0))] := hS.ext hS166
                refine WR.runk [6] [] [0, 1, 7, 9, 13, 64, 65, 66, 77, 78, 79, 80, 83, 84, 85, 111] (L' := [(0, .int .i64 a0), (1, .int .i64 a1), (7, .pointer (some ⟨b87, 0, none⟩)), (9, .slice A9_l1 y121.length c9_l1), (13, .slice A134 r125.length c135), (64, .slice A2 l2.length c2), (65, .int .i64 (l2.length : Int)), (66, .int .i64 x66_l1), (77, .pointer (some ⟨b92, 0, none⟩)), (78, .int .i64 v90.1), (79, .int .i64 a1), (80, .bool (decide (v90.1 < a1))), (83, .int .i64 a0), (84, .pointer (some ⟨b92, 1, none⟩)), (85, .int .u64 v90.2), (111, .bool (!r158))]) (w' := w165) (by kernel_rfl) ?_
                refine WR.nil ?_
                refine At.go ?_
                refine WC.cond (by kernel_rfl) (!r158) (by kernel_rfl) (by kernel_rfl) (fun hb167 => ?_) (fun hb167 => ?_)
                · replace H := ite_t H hb167
                  refine WC.seq (by kernel_rfl) ?_
                  refine WC.reg [0] (by kernel_rfl) (by kernel_rfl) ?_
                  refine WR.runk [0] [] [6] (L' := [(6, .bool false)]) (w' := w165) (by kernel_rfl) ?_
                  refine WR.nil ?_
                  refine At.go ?_
                  refine WC.ret (by kernel_rfl) ?_
                  refine At.thenRet ?_
                  refine At.blockRet ?_
                  refine At.thenRet ?_
                  refine At.thenRet ?_
                  obtain rfl := Option.some.inj H
                  have hS : Sat w165 (rf w0) [O55 b87 r108.2] := hS.sel [4] (by kernel_rfl)
                  refine At.weaken [6] (L' := [(6, .bool false)]) (by kernel_rfl) ?_
                  exact hn1 (false, r108.2) _ rfl hS
                · replace H := ite_f H hb167
                  refine WC.skip (by kernel_rfl) ?_
                  refine At.go ?_
                  refine WC.seq (by kernel_rfl) ?_
                  refine WC.seq (by kernel_rfl) ?_
                  refine WC.reg [0, 1, 2] (by kernel_rfl) (by kernel_rfl) ?_
                  refine WR.runk [0, 1, 2] [] [0, 1, 7, 9, 13, 64, 65, 66, 77, 78, 79, 80, 83, 84, 85, 113, 114] (L' := [(0, .int .i64 a0), (1, .int .i64 a1), (7, .pointer (some ⟨b87, 0, none⟩)), (9, .slice A9_l1 y121.length c9_l1), (13, .slice A134 r125.length c135), (64, .slice A2 l2.length c2), (65, .int .i64 (l2.length : Int)), (66, .int .i64 x66_l1), (77, .pointer (some ⟨b92, 0, none⟩)), (78, .int .i64 v90.1), (79, .int .i64 a1), (80, .bool (decide (v90.1 < a1))), (83, .int .i64 a0), (84, .pointer (some ⟨b92, 1, none⟩)), (85, .int .u64 v90.2), (113, .int .i64 (r125.length : Int)), (114, .int .i64 0)]) (w' := w165) (by kernel_rfl) ?_
                  refine WR.nil ?_
                  refine At.go ?_
                  refine WC.block (by kernel_rfl) ?_
                  have hS : Sat w165 (rf w0) [osl 22 (r0 (.int .u64)) 1 A9_l1 c9_l1 y121, osl 22 (r0 (.int .u64)) 1 A134 c135 r125, O55 b87 r108.2] := hS.sel [3, 2, 4] (by kernel_rfl)
                  obtain ⟨o175, e176, H⟩ := bind_ex H
                  refine WC.loop (by kernel_rfl) ?_
                  refine WL.weaken [0, 1, 7, 9, 13, 64, 65, 66, 77, 78, 79, 80, 83, 84, 85, 113, 114] (L' := [(0, .int .i64 a0), (1, .int .i64 a1), (7, .pointer (some ⟨b87, 0, none⟩)), (9, .slice A9_l1 y121.length c9_l1), (13, .slice A134 r125.length c135), (64, .slice A2 l2.length c2), (65, .int .i64 (l2.length : Int)), (66, .int .i64 x66_l1), (77, .pointer (some ⟨b92, 0, none⟩)), (78, .int .i64 v90.1), (79, .int .i64 a1), (80, .bool (decide (v90.1 < a1))), (83, .int .i64 a0), (84, .pointer (some ⟨b92, 1, none⟩)), (85, .int .u64 v90.2), (113, .int .i64 (r125.length : Int)), (114, .int .i64 0)]) (by kernel_rfl) ?_
                  refine colophonlaw01_PackPlays.l2_ok w0 a0 a1 A2 c2 l2 b87 A9_l1 c9_l1 x66_l1 v90 b92 r108 y121 r125 o175 (fun w178 hS => ?_) FU r125 0 A134 c135 _ hS e176
                  refine At.hit ?_
                  refine At.go ?_
                  refine WC.seq (by kernel_rfl) ?_
                  refine WC.reg [0] (by kernel_rfl) (by kernel_rfl) ?_
                  refine WR.runk [0] [] [0, 1, 7, 9, 15, 64, 65, 66, 77, 78, 79, 80, 83, 84, 85] (L' := [(0, .int .i64 a0), (1, .int .i64 a1), (7, .pointer (some ⟨b87, 0, none⟩)), (9, .slice A9_l1 y121.length c9_l1), (15, .int .i64 (-1)), (64, .slice A2 l2.length c2), (65, .int .i64 (l2.length : Int)), (66, .int .i64 x66_l1), (77, .pointer (some ⟨b92, 0, none⟩)), (78, .int .i64 v90.1), (79, .int .i64 a1), (80, .bool (decide (v90.1 < a1))), (83, .int .i64 a0), (84, .pointer (some ⟨b92, 1, none⟩)), (85, .int .u64 v90.2)]) (w' := w178) (by kernel_rfl) ?_
                  refine WR.nil ?_
                  refine At.go ?_
                  refine WC.block (by kernel_rfl) ?_
                  have hS : Sat w178 (rf w0) [osl 22 (r0 (.int .u64)) 1 A9_l1 c9_l1 y121, O55 b87 r108.2] := hS.sel [0, 1] (by kernel_rfl)
                  obtain ⟨o215, e216, H⟩ := bind_ex H
                  refine WC.loop (by kernel_rfl) ?_
                  refine WL.weaken [0, 1, 7, 9, 15, 64, 65, 66, 77, 78, 79, 80, 83, 84, 85] (L' := [(0, .int .i64 a0), (1, .int .i64 a1), (7, .pointer (some ⟨b87, 0, none⟩)), (9, .slice A9_l1 y121.length c9_l1), (15, .int .i64 (-1)), (64, .slice A2 l2.length c2), (65, .int .i64 (l2.length : Int)), (66, .int .i64 x66_l1), (77, .pointer (some ⟨b92, 0, none⟩)), (78, .int .i64 v90.1), (79, .int .i64 a1), (80, .bool (decide (v90.1 < a1))), (83, .int .i64 a0), (84, .pointer (some ⟨b92, 1, none⟩)), (85, .int .u64 v90.2)]) (by kernel_rfl) ?_
                  refine colophonlaw01_PackPlays.l3_ok w0 a0 a1 A2 c2 l2 b87 A9_l1 c9_l1 x66_l1 v90 b92 r108 y121 o215 (fun o217 w219 ho220 hS => ?_) (fun o221 w223 ho224 hS => ?_) FU (-1) _ hS e216
                  · subst ho220
                    dsimp only at H
                    refine At.blockRet ?_
                    refine At.blockRet ?_
                    refine At.thenRet ?_
                    refine At.thenRet ?_
                    obtain rfl := Option.some.inj H
                    have hS : Sat w219 (rf w0) [O55 b87 r108.2] := hS.sel [0] (by kernel_rfl)
                    refine At.weaken [6] (L' := [(6, .bool o217)]) (by kernel_rfl) ?_
                    exact hn1 (o217, r108.2) _ rfl hS
                  · subst ho224
                    dsimp only at H
                    refine At.hit ?_
                    refine At.blockNormal ?_
                    refine At.go ?_
                    refine WC.reg [0, 1] (by kernel_rfl) (by kernel_rfl) ?_
                    refine WR.runk [0, 1] [] [0, 1, 7, 9, 64, 65, 66, 77, 78, 79, 80, 83, 84, 85] (L' := [(0, .int .i64 a0), (1, .int .i64 a1), (7, .pointer (some ⟨b87, 0, none⟩)), (9, .slice A9_l1 y121.length c9_l1), (64, .slice A2 l2.length c2), (65, .int .i64 (l2.length : Int)), (66, .int .i64 (wi (x66_l1 + 1))), (77, .pointer (some ⟨b92, 0, none⟩)), (78, .int .i64 v90.1), (79, .int .i64 a1), (80, .bool (decide (v90.1 < a1))), (83, .int .i64 a0), (84, .pointer (some ⟨b92, 1, none⟩)), (85, .int .u64 v90.2)]) (w' := w223) (by kernel_rfl) ?_
                    refine WR.nil ?_
                    have hS : Sat w223 (rf w0) [osl 22 (r0 (.int .u64)) 1 A9_l1 c9_l1 y121, O55 b87 r108.2] := hS.sel [0, 1] (by kernel_rfl)
                    refine At.again ?_
                    refine WL.weaken [0, 1, 7, 9, 64, 65, 66] (L' := [(0, .int .i64 a0), (1, .int .i64 a1), (7, .pointer (some ⟨b87, 0, none⟩)), (9, .slice A9_l1 y121.length c9_l1), (64, .slice A2 l2.length c2), (65, .int .i64 (l2.length : Int)), (66, .int .i64 (wi (x66_l1 + 1)))]) (by kernel_rfl) ?_
                    exact ih y121 (wi (x66_l1 + 1)) r108.2 A9_l1 c9_l1 _ hS H
              · replace H := ite_f H hb118
                refine WC.skip (by kernel_rfl) ?_
                refine At.go ?_
                refine WC.seq (by kernel_rfl) ?_
                refine WC.reg [0, 1, 2] (by kernel_rfl) (by kernel_rfl) ?_
                refine WR.runk [0] [1, 2] [0, 1, 7, 9, 64, 65, 66, 77, 78, 79, 80, 83, 84, 85, 103] (L' := [(0, .int .i64 a0), (1, .int .i64 a1), (7, .pointer (some ⟨b87, 0, none⟩)), (9, .slice A9_l1 x9_l1.length c9_l1), (64, .slice A2 l2.length c2), (65, .int .i64 (l2.length : Int)), (66, .int .i64 x66_l1), (77, .pointer (some ⟨b92, 0, none⟩)), (78, .int .i64 v90.1), (79, .int .i64 a1), (80, .bool (decide (v90.1 < a1))), (83, .int .i64 a0), (84, .pointer (some ⟨b92, 1, none⟩)), (85, .int .u64 v90.2), (103, .pointer (some ⟨b87, 0, none⟩))]) (w' := w115) (by kernel_rfl) ?_
                obtain ⟨r225, e226, H⟩ := bind_ex H
                refine WR.st (St.call (by kernel_rfl) (f := 14) (args := #[.pointer (some ⟨b87, 0, none⟩)]) (by kernel_rfl) (pack_Ints_Words.calls w115 (.pointer (some ⟨b87, 0, none⟩)) (some r108.2) (Sat.rdAny 0 hS rfl (fun _ h => O55.rd _ _ _ h)) r225 e226) ?_)
                rintro _ w232 ⟨A234, c235, rfl, hS233⟩
                have hS : Sat w232 (rf w0) [osl 22 (r0 (.int .u64)) 1 A234 c235 r225, O55 b87 r108.2, pts b92 (.cells #[.int .i64 v90.1, .int .u64 v90.2] 40 (0, 0)), osl 22 (r0 (.int .u64)) 1 A9_l1 c9_l1 x9_l1] := hS.ext hS233
                refine WR.runk [2] [] [0, 1, 7, 9, 13, 64, 65, 66, 77, 78, 79, 80, 83, 84, 85] (L' := [(0, .int .i64 a0), (1, .int .i64 a1), (7, .pointer (some ⟨b87, 0, none⟩)), (9, .slice A9_l1 x9_l1.length c9_l1), (13, .slice A234 r225.length c235), (64, .slice A2 l2.length c2), (65, .int .i64 (l2.length : Int)), (66, .int .i64 x66_l1), (77, .pointer (some ⟨b92, 0, none⟩)), (78, .int .i64 v90.1), (79, .int .i64 a1), (80, .bool (decide (v90.1 < a1))), (83, .int .i64 a0), (84, .pointer (some ⟨b92, 1, none⟩)), (85, .int .u64 v90.2)]) (w' := w232) (by kernel_rfl) ?_
                refine WR.nil ?_
                refine At.go ?_
                refine WC.seq (by kernel_rfl) ?_
                refine WC.seq (by kernel_rfl) ?_
                refine WC.reg [0, 1, 2, 3, 4, 5, 6] (by kernel_rfl) (by kernel_rfl) ?_
                refine WR.runk [0, 1, 2] [3, 4, 5, 6] [0, 1, 7, 9, 13, 64, 65, 66, 77, 78, 79, 80, 83, 84, 85, 105, 106, 107] (L' := [(0, .int .i64 a0), (1, .int .i64 a1), (7, .pointer (some ⟨b87, 0, none⟩)), (9, .slice A9_l1 x9_l1.length c9_l1), (13, .slice A234 r225.length c235), (64, .slice A2 l2.length c2), (65, .int .i64 (l2.length : Int)), (66, .int .i64 x66_l1), (77, .pointer (some ⟨b92, 0, none⟩)), (78, .int .i64 v90.1), (79, .int .i64 a1), (80, .bool (decide (v90.1 < a1))), (83, .int .i64 a0), (84, .pointer (some ⟨b92, 1, none⟩)), (85, .int .u64 v90.2), (105, .slice A234 r225.length c235), (106, .int .i64 a0), (107, .slice A9_l1 x9_l1.length c9_l1)]) (w' := w232) (by kernel_rfl) ?_
                obtain ⟨r236, e237, H⟩ := bind_ex H
                refine WR.st (St.call (by kernel_rfl) (f := 23) (args := #[.int .i64 a0, .slice A9_l1 x9_l1.length c9_l1]) (by kernel_rfl) (colophonref01_Bits.calls w232 a0 A9_l1 c9_l1 x9_l1 (Sat.rdAt 3 hS rfl) r236 e237) ?_)
                rintro _ w243 ⟨A245, c246, rfl, hS244⟩
                have hS : Sat w243 (rf w0) [osl 5 (r0 (.int .u8)) 1 A245 c246 r236, osl 22 (r0 (.int .u64)) 1 A234 c235 r225, O55 b87 r108.2, pts b92 (.cells #[.int .i64 v90.1, .int .u64 v90.2] 40 (0, 0)), osl 22 (r0 (.int .u64)) 1 A9_l1 c9_l1 x9_l1] := hS.ext hS244
                refine WR.runk [] [4, 5, 6] [0, 1, 7, 9, 13, 64, 65, 66, 77, 78, 79, 80, 83, 84, 85, 105, 108] (L' := [(0, .int .i64 a0), (1, .int .i64 a1), (7, .pointer (some ⟨b87, 0, none⟩)), (9, .slice A9_l1 x9_l1.length c9_l1), (13, .slice A234 r225.length c235), (64, .slice A2 l2.length c2), (65, .int .i64 (l2.length : Int)), (66, .int .i64 x66_l1), (77, .pointer (some ⟨b92, 0, none⟩)), (78, .int .i64 v90.1), (79, .int .i64 a1), (80, .bool (decide (v90.1 < a1))), (83, .int .i64 a0), (84, .pointer (some ⟨b92, 1, none⟩)), (85, .int .u64 v90.2), (105, .slice A234 r225.length c235), (108, .slice A245 r236.length c246)]) (w' := w243) (by kernel_rfl) ?_
                obtain ⟨r247, e248, H⟩ := bind_ex H
                refine WR.st (St.call (by kernel_rfl) (f := 22) (args := #[.slice A245 r236.length c246]) (by kernel_rfl) (colophonref01_Words.calls w243 A245 c246 r236 (Sat.rdAt 0 hS rfl) r247 e248) ?_)
                rintro _ w254 ⟨A256, c257, rfl, hS255⟩
                have hS : Sat w254 (rf w0) [osl 22 (r0 (.int .u64)) 1 A256 c257 r247, osl 5 (r0 (.int .u8)) 1 A245 c246 r236, osl 22 (r0 (.int .u64)) 1 A234 c235 r225, O55 b87 r108.2, pts b92 (.cells #[.int .i64 v90.1, .int .u64 v90.2] 40 (0, 0)), osl 22 (r0 (.int .u64)) 1 A9_l1 c9_l1 x9_l1] := hS.ext hS255
                refine WR.runk [] [5, 6] [0, 1, 7, 9, 13, 64, 65, 66, 77, 78, 79, 80, 83, 84, 85, 105, 109] (L' := [(0, .int .i64 a0), (1, .int .i64 a1), (7, .pointer (some ⟨b87, 0, none⟩)), (9, .slice A9_l1 x9_l1.length c9_l1), (13, .slice A234 r225.length c235), (64, .slice A2 l2.length c2), (65, .int .i64 (l2.length : Int)), (66, .int .i64 x66_l1), (77, .pointer (some ⟨b92, 0, none⟩)), (78, .int .i64 v90.1), (79, .int .i64 a1), (80, .bool (decide (v90.1 < a1))), (83, .int .i64 a0), (84, .pointer (some ⟨b92, 1, none⟩)), (85, .int .u64 v90.2), (105, .slice A234 r225.length c235), (109, .slice A256 r247.length c257)]) (w' := w254) (by kernel_rfl) ?_
                obtain ⟨r258, e259, H⟩ := bind_ex H
                refine WR.st (St.call (by kernel_rfl) (f := 19) (args := #[.slice A234 r225.length c235, .slice A256 r247.length c257]) (by kernel_rfl) (colophonref01_Same.calls w254 A234 c235 r225 (Sat.rdAt 2 hS rfl) A256 c257 r247 (Sat.rdAt 0 hS rfl) r258 e259) ?_)
                rintro _ w265 ⟨rfl, hS266⟩
                have hS : Sat w265 (rf w0) [osl 22 (r0 (.int .u64)) 1 A256 c257 r247, osl 5 (r0 (.int .u8)) 1 A245 c246 r236, osl 22 (r0 (.int .u64)) 1 A234 c235 r225, O55 b87 r108.2, pts b92 (.cells #[.int .i64 v90.1, .int .u64 v90.2] 40 (0, 0)), osl 22 (r0 (.int .u64)) 1 A9_l1 c9_l1 x9_l1] := hS.ext hS266
                refine WR.runk [6] [] [0, 1, 7, 9, 13, 64, 65, 66, 77, 78, 79, 80, 83, 84, 85, 111] (L' := [(0, .int .i64 a0), (1, .int .i64 a1), (7, .pointer (some ⟨b87, 0, none⟩)), (9, .slice A9_l1 x9_l1.length c9_l1), (13, .slice A234 r225.length c235), (64, .slice A2 l2.length c2), (65, .int .i64 (l2.length : Int)), (66, .int .i64 x66_l1), (77, .pointer (some ⟨b92, 0, none⟩)), (78, .int .i64 v90.1), (79, .int .i64 a1), (80, .bool (decide (v90.1 < a1))), (83, .int .i64 a0), (84, .pointer (some ⟨b92, 1, none⟩)), (85, .int .u64 v90.2), (111, .bool (!r258))]) (w' := w265) (by kernel_rfl) ?_
                refine WR.nil ?_
                refine At.go ?_
                refine WC.cond (by kernel_rfl) (!r258) (by kernel_rfl) (by kernel_rfl) (fun hb267 => ?_) (fun hb267 => ?_)
                · replace H := ite_t H hb267
                  refine WC.seq (by kernel_rfl) ?_
                  refine WC.reg [0] (by kernel_rfl) (by kernel_rfl) ?_
                  refine WR.runk [0] [] [6] (L' := [(6, .bool false)]) (w' := w265) (by kernel_rfl) ?_
                  refine WR.nil ?_
                  refine At.go ?_
                  refine WC.ret (by kernel_rfl) ?_
                  refine At.thenRet ?_
                  refine At.blockRet ?_
                  refine At.thenRet ?_
                  refine At.thenRet ?_
                  obtain rfl := Option.some.inj H
                  have hS : Sat w265 (rf w0) [O55 b87 r108.2] := hS.sel [3] (by kernel_rfl)
                  refine At.weaken [6] (L' := [(6, .bool false)]) (by kernel_rfl) ?_
                  exact hn1 (false, r108.2) _ rfl hS
                · replace H := ite_f H hb267
                  refine WC.skip (by kernel_rfl) ?_
                  refine At.go ?_
                  refine WC.seq (by kernel_rfl) ?_
                  refine WC.seq (by kernel_rfl) ?_
                  refine WC.reg [0, 1, 2] (by kernel_rfl) (by kernel_rfl) ?_
                  refine WR.runk [0, 1, 2] [] [0, 1, 7, 9, 13, 64, 65, 66, 77, 78, 79, 80, 83, 84, 85, 113, 114] (L' := [(0, .int .i64 a0), (1, .int .i64 a1), (7, .pointer (some ⟨b87, 0, none⟩)), (9, .slice A9_l1 x9_l1.length c9_l1), (13, .slice A234 r225.length c235), (64, .slice A2 l2.length c2), (65, .int .i64 (l2.length : Int)), (66, .int .i64 x66_l1), (77, .pointer (some ⟨b92, 0, none⟩)), (78, .int .i64 v90.1), (79, .int .i64 a1), (80, .bool (decide (v90.1 < a1))), (83, .int .i64 a0), (84, .pointer (some ⟨b92, 1, none⟩)), (85, .int .u64 v90.2), (113, .int .i64 (r225.length : Int)), (114, .int .i64 0)]) (w' := w265) (by kernel_rfl) ?_
                  refine WR.nil ?_
                  refine At.go ?_
                  refine WC.block (by kernel_rfl) ?_
                  have hS : Sat w265 (rf w0) [osl 22 (r0 (.int .u64)) 1 A9_l1 c9_l1 x9_l1, osl 22 (r0 (.int .u64)) 1 A234 c235 r225, O55 b87 r108.2] := hS.sel [5, 2, 3] (by kernel_rfl)
                  obtain ⟨o275, e276, H⟩ := bind_ex H
                  refine WC.loop (by kernel_rfl) ?_
                  refine WL.weaken [0, 1, 7, 9, 13, 64, 65, 66, 77, 78, 79, 80, 83, 84, 85, 113, 114] (L' := [(0, .int .i64 a0), (1, .int .i64 a1), (7, .pointer (some ⟨b87, 0, none⟩)), (9, .slice A9_l1 x9_l1.length c9_l1), (13, .slice A234 r225.length c235), (64, .slice A2 l2.length c2), (65, .int .i64 (l2.length : Int)), (66, .int .i64 x66_l1), (77, .pointer (some ⟨b92, 0, none⟩)), (78, .int .i64 v90.1), (79, .int .i64 a1), (80, .bool (decide (v90.1 < a1))), (83, .int .i64 a0), (84, .pointer (some ⟨b92, 1, none⟩)), (85, .int .u64 v90.2), (113, .int .i64 (r225.length : Int)), (114, .int .i64 0)]) (by kernel_rfl) ?_
                  refine colophonlaw01_PackPlays.l4_ok w0 a0 a1 A2 c2 l2 b87 A9_l1 c9_l1 x9_l1 x66_l1 v90 b92 r108 r225 o275 (fun w278 hS => ?_) FU r225 0 A234 c235 _ hS e276
                  refine At.hit ?_
                  refine At.go ?_
                  refine WC.seq (by kernel_rfl) ?_
                  refine WC.reg [0] (by kernel_rfl) (by kernel_rfl) ?_
                  refine WR.runk [0] [] [0, 1, 7, 9, 15, 64, 65, 66, 77, 78, 79, 80, 83, 84, 85] (L' := [(0, .int .i64 a0), (1, .int .i64 a1), (7, .pointer (some ⟨b87, 0, none⟩)), (9, .slice A9_l1 x9_l1.length c9_l1), (15, .int .i64 (-1)), (64, .slice A2 l2.length c2), (65, .int .i64 (l2.length : Int)), (66, .int .i64 x66_l1), (77, .pointer (some ⟨b92, 0, none⟩)), (78, .int .i64 v90.1), (79, .int .i64 a1), (80, .bool (decide (v90.1 < a1))), (83, .int .i64 a0), (84, .pointer (some ⟨b92, 1, none⟩)), (85, .int .u64 v90.2)]) (w' := w278) (by kernel_rfl) ?_
                  refine WR.nil ?_
                  refine At.go ?_
                  refine WC.block (by kernel_rfl) ?_
                  have hS : Sat w278 (rf w0) [osl 22 (r0 (.int .u64)) 1 A9_l1 c9_l1 x9_l1, O55 b87 r108.2] := hS.sel [0, 1] (by kernel_rfl)
                  obtain ⟨o315, e316, H⟩ := bind_ex H
                  refine WC.loop (by kernel_rfl) ?_
                  refine WL.weaken [0, 1, 7, 9, 15, 64, 65, 66, 77, 78, 79, 80, 83, 84, 85] (L' := [(0, .int .i64 a0), (1, .int .i64 a1), (7, .pointer (some ⟨b87, 0, none⟩)), (9, .slice A9_l1 x9_l1.length c9_l1), (15, .int .i64 (-1)), (64, .slice A2 l2.length c2), (65, .int .i64 (l2.length : Int)), (66, .int .i64 x66_l1), (77, .pointer (some ⟨b92, 0, none⟩)), (78, .int .i64 v90.1), (79, .int .i64 a1), (80, .bool (decide (v90.1 < a1))), (83, .int .i64 a0), (84, .pointer (some ⟨b92, 1, none⟩)), (85, .int .u64 v90.2)]) (by kernel_rfl) ?_
                  refine colophonlaw01_PackPlays.l5_ok w0 a0 a1 A2 c2 l2 b87 A9_l1 c9_l1 x9_l1 x66_l1 v90 b92 r108 o315 (fun o317 w319 ho320 hS => ?_) (fun o321 w323 ho324 hS => ?_) FU (-1) _ hS e316
                  · subst ho320
                    dsimp only at H
                    refine At.blockRet ?_
                    refine At.blockRet ?_
                    refine At.thenRet ?_
                    refine At.thenRet ?_
                    obtain rfl := Option.some.inj H
                    have hS : Sat w319 (rf w0) [O55 b87 r108.2] := hS.sel [0] (by kernel_rfl)
                    refine At.weaken [6] (L' := [(6, .bool o317)]) (by kernel_rfl) ?_
                    exact hn1 (o317, r108.2) _ rfl hS
                  · subst ho324
                    dsimp only at H
                    refine At.hit ?_
                    refine At.blockNormal ?_
                    refine At.go ?_
                    refine WC.reg [0, 1] (by kernel_rfl) (by kernel_rfl) ?_
                    refine WR.runk [0, 1] [] [0, 1, 7, 9, 64, 65, 66, 77, 78, 79, 80, 83, 84, 85] (L' := [(0, .int .i64 a0), (1, .int .i64 a1), (7, .pointer (some ⟨b87, 0, none⟩)), (9, .slice A9_l1 x9_l1.length c9_l1), (64, .slice A2 l2.length c2), (65, .int .i64 (l2.length : Int)), (66, .int .i64 (wi (x66_l1 + 1))), (77, .pointer (some ⟨b92, 0, none⟩)), (78, .int .i64 v90.1), (79, .int .i64 a1), (80, .bool (decide (v90.1 < a1))), (83, .int .i64 a0), (84, .pointer (some ⟨b92, 1, none⟩)), (85, .int .u64 v90.2)]) (w' := w323) (by kernel_rfl) ?_
                    refine WR.nil ?_
                    have hS : Sat w323 (rf w0) [osl 22 (r0 (.int .u64)) 1 A9_l1 c9_l1 x9_l1, O55 b87 r108.2] := hS.sel [0, 1] (by kernel_rfl)
                    refine At.again ?_
                    refine WL.weaken [0, 1, 7, 9, 64, 65, 66] (L' := [(0, .int .i64 a0), (1, .int .i64 a1), (7, .pointer (some ⟨b87, 0, none⟩)), (9, .slice A9_l1 x9_l1.length c9_l1), (64, .slice A2 l2.length c2), (65, .int .i64 (l2.length : Int)), (66, .int .i64 (wi (x66_l1 + 1)))]) (by kernel_rfl) ?_
                    exact ih x9_l1 (wi (x66_l1 + 1)) r108.2 A9_l1 c9_l1 _ hS H
          · replace H := ite_f H hb98
            refine WR.runk [10, 11, 12, 13, 14, 15] [] [0, 1, 7, 9, 11, 12, 64, 65, 66, 77, 78, 79, 80, 83, 84, 85, 86] (L' := [(0, .int .i64 a0), (1, .int .i64 a1), (7, .pointer (some ⟨b87, 0, none⟩)), (9, .slice A9_l1 x9_l1.length c9_l1), (11, .pointer (some ⟨b92, 0, none⟩)), (12, .bool false), (64, .slice A2 l2.length c2), (65, .int .i64 (l2.length : Int)), (66, .int .i64 x66_l1), (77, .pointer (some ⟨b92, 0, none⟩)), (78, .int .i64 v90.1), (79, .int .i64 a1), (80, .bool (decide (v90.1 < a1))), (83, undef), (84, undef), (85, undef), (86, undef)]) (w' := w95) (by kernel_rfl) ?_
            refine WR.nil ?_
            refine At.go ?_
            refine WC.seq (by kernel_rfl) ?_
            refine WC.seq (by kernel_rfl) ?_
            refine WC.reg [0, 1, 2, 3, 4, 5, 6, 7] (by kernel_rfl) (by kernel_rfl) ?_
            refine WR.runk [0, 1] [2, 3, 4, 5, 6, 7] [0, 1, 7, 9, 11, 12, 64, 65, 66, 77, 78, 79, 80, 83, 84, 85, 86, 88, 89] (L' := [(0, .int .i64 a0), (1, .int .i64 a1), (7, .pointer (some ⟨b87, 0, none⟩)), (9, .slice A9_l1 x9_l1.length c9_l1), (11, .pointer (some ⟨b92, 0, none⟩)), (12, .bool false), (64, .slice A2 l2.length c2), (65, .int .i64 (l2.length : Int)), (66, .int .i64 x66_l1), (77, .pointer (some ⟨b92, 0, none⟩)), (78, .int .i64 v90.1), (79, .int .i64 a1), (80, .bool (decide (v90.1 < a1))), (83, undef), (84, undef), (85, undef), (86, undef), (88, .pointer (some ⟨b87, 0, none⟩)), (89, .pointer (some ⟨b92, 0, none⟩))]) (w' := w95) (by kernel_rfl) ?_
            refine WR.st (St.ofR (RSt.loadObj (t := 3) (k := 0) (v := .int .i64 v90.1) (.tmp 89) (by kernel_rfl) (by kernel_rfl) (by kernel_rfl) 0 hS rfl (by kernel_rfl) rfl ?_))
            refine WR.runk [3] [4, 5, 6, 7] [0, 1, 7, 9, 11, 12, 64, 65, 66, 77, 78, 79, 80, 83, 84, 85, 86, 88, 90, 91] (L' := [(0, .int .i64 a0), (1, .int .i64 a1), (7, .pointer (some ⟨b87, 0, none⟩)), (9, .slice A9_l1 x9_l1.length c9_l1), (11, .pointer (some ⟨b92, 0, none⟩)), (12, .bool false), (64, .slice A2 l2.length c2), (65, .int .i64 (l2.length : Int)), (66, .int .i64 x66_l1), (77, .pointer (some ⟨b92, 0, none⟩)), (78, .int .i64 v90.1), (79, .int .i64 a1), (80, .bool (decide (v90.1 < a1))), (83, undef), (84, undef), (85, undef), (86, undef), (88, .pointer (some ⟨b87, 0, none⟩)), (90, .int .i64 v90.1), (91, .pointer (some ⟨b92, 1, none⟩))]) (w' := w95) (by kernel_rfl) ?_
            refine WR.st (St.ofR (RSt.loadObj (t := 22) (k := 1) (v := .int .u64 v90.2) (.tmp 91) (by kernel_rfl) (by kernel_rfl) (by kernel_rfl) 0 hS rfl (by kernel_rfl) rfl ?_))
            refine WR.runk [] [5, 6, 7] [0, 1, 7, 9, 11, 12, 64, 65, 66, 77, 78, 79, 80, 83, 84, 85, 86, 88, 90, 92] (L' := [(0, .int .i64 a0), (1, .int .i64 a1), (7, .pointer (some ⟨b87, 0, none⟩)), (9, .slice A9_l1 x9_l1.length c9_l1), (11, .pointer (some ⟨b92, 0, none⟩)), (12, .bool false), (64, .slice A2 l2.length c2), (65, .int .i64 (l2.length : Int)), (66, .int .i64 x66_l1), (77, .pointer (some ⟨b92, 0, none⟩)), (78, .int .i64 v90.1), (79, .int .i64 a1), (80, .bool (decide (v90.1 < a1))), (83, undef), (84, undef), (85, undef), (86, undef), (88, .pointer (some ⟨b87, 0, none⟩)), (90, .int .i64 v90.1), (92, .int .u64 v90.2)]) (w' := w95) (by kernel_rfl) ?_
            have hS : Sat w95 (rf w0) [O55 b87 q88_l1, pts b92 (.cells #[.int .i64 v90.1, .int .u64 v90.2] 40 (0, 0)), osl 22 (r0 (.int .u64)) 1 A9_l1 c9_l1 x9_l1] := hS.sel [2, 0, 1] (by kernel_rfl)
            obtain ⟨r325, e326, H⟩ := bind_ex H
            obtain ⟨B331, hso330, hsub328, hcs329, hb327⟩ := Sat.lend [O55 b87 q88_l1] (cs := [pts b92 (.cells #[.int .i64 v90.1, .int .u64 v90.2] 40 (0, 0)), osl 22 (r0 (.int .u64)) 1 A9_l1 c9_l1 x9_l1]) hS
            refine WR.st (St.call (by kernel_rfl) (f := 12) (args := #[.pointer (some ⟨b87, 0, none⟩), .int .i64 v90.1, .int .u64 v90.2]) (by kernel_rfl) (pack_Ints_Set.calls B331 w95 b87 q88_l1 hso330 v90.1 v90.2 r325 e326) ?_)
            rintro _ w332 ⟨rfl, hS333⟩
            have hS : Sat w332 (rf w0) [O55 b87 r325.2, pts b92 (.cells #[.int .i64 v90.1, .int .u64 v90.2] 40 (0, 0)), osl 22 (r0 (.int .u64)) 1 A9_l1 c9_l1 x9_l1] := hb327 _ _ hS333
            refine WR.runk [6, 7] [] [0, 1, 7, 9, 11, 12, 64, 65, 66, 77, 78, 79, 80, 83, 84, 85, 86, 95] (L' := [(0, .int .i64 a0), (1, .int .i64 a1), (7, .pointer (some ⟨b87, 0, none⟩)), (9, .slice A9_l1 x9_l1.length c9_l1), (11, .pointer (some ⟨b92, 0, none⟩)), (12, .bool false), (64, .slice A2 l2.length c2), (65, .int .i64 (l2.length : Int)), (66, .int .i64 x66_l1), (77, .pointer (some ⟨b92, 0, none⟩)), (78, .int .i64 v90.1), (79, .int .i64 a1), (80, .bool (decide (v90.1 < a1))), (83, undef), (84, undef), (85, undef), (86, undef), (95, .bool (r325.1 != false))]) (w' := w332) (by kernel_rfl) ?_
            refine WR.nil ?_
            refine At.go ?_
            refine WC.cond (by kernel_rfl) (r325.1 != false) (by kernel_rfl) (by kernel_rfl) (fun hb334 => ?_) (fun hb334 => ?_)
            · replace H := ite_t H hb334
              refine WC.seq (by kernel_rfl) ?_
              refine WC.reg [0] (by kernel_rfl) (by kernel_rfl) ?_
              refine WR.runk [0] [] [6] (L' := [(6, .bool false)]) (w' := w332) (by kernel_rfl) ?_
              refine WR.nil ?_
              refine At.go ?_
              refine WC.ret (by kernel_rfl) ?_
              refine At.thenRet ?_
              refine At.blockRet ?_
              refine At.thenRet ?_
              refine At.thenRet ?_
              obtain rfl := Option.some.inj H
              have hS : Sat w332 (rf w0) [O55 b87 r325.2] := hS.sel [0] (by kernel_rfl)
              refine At.weaken [6] (L' := [(6, .bool false)]) (by kernel_rfl) ?_
              exact hn1 (false, r325.2) _ rfl hS
            · replace H := ite_f H hb334
              refine WC.skip (by kernel_rfl) ?_
              refine At.go ?_
              refine WC.seq (by kernel_rfl) ?_
              refine WC.seq (by kernel_rfl) ?_
              refine WC.reg [0] (by kernel_rfl) (by kernel_rfl) ?_
              refine WR.runk [0] [] [0, 1, 7, 9, 11, 64, 65, 66, 77, 78, 79, 80, 83, 84, 85, 86, 96] (L' := [(0, .int .i64 a0), (1, .int .i64 a1), (7, .pointer (some ⟨b87, 0, none⟩)), (9, .slice A9_l1 x9_l1.length c9_l1), (11, .pointer (some ⟨b92, 0, none⟩)), (64, .slice A2 l2.length c2), (65, .int .i64 (l2.length : Int)), (66, .int .i64 x66_l1), (77, .pointer (some ⟨b92, 0, none⟩)), (78, .int .i64 v90.1), (79, .int .i64 a1), (80, .bool (decide (v90.1 < a1))), (83, undef), (84, undef), (85, undef), (86, undef), (96, .bool false)]) (w' := w332) (by kernel_rfl) ?_
              refine WR.nil ?_
              refine At.go ?_
              refine WC.condF (by kernel_rfl) (by kernel_rfl) (by kernel_rfl) ?_
              refine WC.skip (by kernel_rfl) ?_
              refine At.go ?_
              refine WC.seq (by kernel_rfl) ?_
              refine WC.reg [0, 1, 2] (by kernel_rfl) (by kernel_rfl) ?_
              refine WR.runk [0] [1, 2] [0, 1, 7, 9, 64, 65, 66, 77, 78, 79, 80, 83, 84, 85, 86, 103] (L' := [(0, .int .i64 a0), (1, .int .i64 a1), (7, .pointer (some ⟨b87, 0, none⟩)), (9, .slice A9_l1 x9_l1.length c9_l1), (64, .slice A2 l2.length c2), (65, .int .i64 (l2.length : Int)), (66, .int .i64 x66_l1), (77, .pointer (some ⟨b92, 0, none⟩)), (78, .int .i64 v90.1), (79, .int .i64 a1), (80, .bool (decide (v90.1 < a1))), (83, undef), (84, undef), (85, undef), (86, undef), (103, .pointer (some ⟨b87, 0, none⟩))]) (w' := w332) (by kernel_rfl) ?_
              obtain ⟨r335, e336, H⟩ := bind_ex H
              refine WR.st (St.call (by kernel_rfl) (f := 14) (args := #[.pointer (some ⟨b87, 0, none⟩)]) (by kernel_rfl) (pack_Ints_Words.calls w332 (.pointer (some ⟨b87, 0, none⟩)) (some r325.2) (Sat.rdAny 0 hS rfl (fun _ h => O55.rd _ _ _ h)) r335 e336) ?_)
              rintro _ w342 ⟨A344, c345, rfl, hS343⟩
              have hS : Sat w342 (rf w0) [osl 22 (r0 (.int .u64)) 1 A344 c345 r335, O55 b87 r325.2, pts b92 (.cells #[.int .i64 v90.1, .int .u64 v90.2] 40 (0, 0)), osl 22 (r0 (.int .u64)) 1 A9_l1 c9_l1 x9_l1] := hS.ext hS343
              refine WR.runk [2] [] [0, 1, 7, 9, 13, 64, 65, 66, 77, 78, 79, 80, 83, 84, 85, 86] (L' := [(0, .int .i64 a0), (1, .int .i64 a1), (7, .pointer (some ⟨b87, 0, none⟩)), (9, .slice A9_l1 x9_l1.length c9_l1), (13, .slice A344 r335.length c345), (64, .slice A2 l2.length c2), (65, .int .i64 (l2.length : Int)), (66, .int .i64 x66_l1), (77, .pointer (some ⟨b92, 0, none⟩)), (78, .int .i64 v90.1), (79, .int .i64 a1), (80, .bool (decide (v90.1 < a1))), (83, undef), (84, undef), (85, undef), (86, undef)]) (w' := w342) (by kernel_rfl) ?_
              refine WR.nil ?_
              refine At.go ?_
              refine WC.seq (by kernel_rfl) ?_
              refine WC.seq (by kernel_rfl) ?_
              refine WC.reg [0, 1, 2, 3, 4, 5, 6] (by kernel_rfl) (by kernel_rfl) ?_
              refine WR.runk [0, 1, 2] [3, 4, 5, 6] [0, 1, 7, 9, 13, 64, 65, 66, 77, 78, 79, 80, 83, 84, 85, 86, 105, 106, 107] (L' := [(0, .int .i64 a0), (1, .int .i64 a1), (7, .pointer (some ⟨b87, 0, none⟩)), (9, .slice A9_l1 x9_l1.length c9_l1), (13, .slice A344 r335.length c345), (64, .slice A2 l2.length c2), (65, .int .i64 (l2.length : Int)), (66, .int .i64 x66_l1), (77, .pointer (some ⟨b92, 0, none⟩)), (78, .int .i64 v90.1), (79, .int .i64 a1), (80, .bool (decide (v90.1 < a1))), (83, undef), (84, undef), (85, undef), (86, undef), (105, .slice A344 r335.length c345), (106, .int .i64 a0), (107, .slice A9_l1 x9_l1.length c9_l1)]) (w' := w342) (by kernel_rfl) ?_
              obtain ⟨r346, e347, H⟩ := bind_ex H
              refine WR.st (St.call (by kernel_rfl) (f := 23) (args := #[.int .i64 a0, .slice A9_l1 x9_l1.length c9_l1]) (by kernel_rfl) (colophonref01_Bits.calls w342 a0 A9_l1 c9_l1 x9_l1 (Sat.rdAt 3 hS rfl) r346 e347) ?_)
              rintro _ w353 ⟨A355, c356, rfl, hS354⟩
              have hS : Sat w353 (rf w0) [osl 5 (r0 (.int .u8)) 1 A355 c356 r346, osl 22 (r0 (.int .u64)) 1 A344 c345 r335, O55 b87 r325.2, pts b92 (.cells #[.int .i64 v90.1, .int .u64 v90.2] 40 (0, 0)), osl 22 (r0 (.int .u64)) 1 A9_l1 c9_l1 x9_l1] := hS.ext hS354
              refine WR.runk [] [4, 5, 6] [0, 1, 7, 9, 13, 64, 65, 66, 77, 78, 79, 80, 83, 84, 85, 86, 105, 108] (L' := [(0, .int .i64 a0), (1, .int .i64 a1), (7, .pointer (some ⟨b87, 0, none⟩)), (9, .slice A9_l1 x9_l1.length c9_l1), (13, .slice A344 r335.length c345), (64, .slice A2 l2.length c2), (65, .int .i64 (l2.length : Int)), (66, .int .i64 x66_l1), (77, .pointer (some ⟨b92, 0, none⟩)), (78, .int .i64 v90.1), (79, .int .i64 a1), (80, .bool (decide (v90.1 < a1))), (83, undef), (84, undef), (85, undef), (86, undef), (105, .slice A344 r335.length c345), (108, .slice A355 r346.length c356)]) (w' := w353) (by kernel_rfl) ?_
              obtain ⟨r357, e358, H⟩ := bind_ex H
              refine WR.st (St.call (by kernel_rfl) (f := 22) (args := #[.slice A355 r346.length c356]) (by kernel_rfl) (colophonref01_Words.calls w353 A355 c356 r346 (Sat.rdAt 0 hS rfl) r357 e358) ?_)
              rintro _ w364 ⟨A366, c367, rfl, hS365⟩
              have hS : Sat w364 (rf w0) [osl 22 (r0 (.int .u64)) 1 A366 c367 r357, osl 5 (r0 (.int .u8)) 1 A355 c356 r346, osl 22 (r0 (.int .u64)) 1 A344 c345 r335, O55 b87 r325.2, pts b92 (.cells #[.int .i64 v90.1, .int .u64 v90.2] 40 (0, 0)), osl 22 (r0 (.int .u64)) 1 A9_l1 c9_l1 x9_l1] := hS.ext hS365
              refine WR.runk [] [5, 6] [0, 1, 7, 9, 13, 64, 65, 66, 77, 78, 79, 80, 83, 84, 85, 86, 105, 109] (L' := [(0, .int .i64 a0), (1, .int .i64 a1), (7, .pointer (some ⟨b87, 0, none⟩)), (9, .slice A9_l1 x9_l1.length c9_l1), (13, .slice A344 r335.length c345), (64, .slice A2 l2.length c2), (65, .int .i64 (l2.length : Int)), (66, .int .i64 x66_l1), (77, .pointer (some ⟨b92, 0, none⟩)), (78, .int .i64 v90.1), (79, .int .i64 a1), (80, .bool (decide (v90.1 < a1))), (83, undef), (84, undef), (85, undef), (86, undef), (105, .slice A344 r335.length c345), (109, .slice A366 r357.length c367)]) (w' := w364) (by kernel_rfl) ?_
              obtain ⟨r368, e369, H⟩ := bind_ex H
              refine WR.st (St.call (by kernel_rfl) (f := 19) (args := #[.slice A344 r335.length c345, .slice A366 r357.length c367]) (by kernel_rfl) (colophonref01_Same.calls w364 A344 c345 r335 (Sat.rdAt 2 hS rfl) A366 c367 r357 (Sat.rdAt 0 hS rfl) r368 e369) ?_)
              rintro _ w375 ⟨rfl, hS376⟩
              have hS : Sat w375 (rf w0) [osl 22 (r0 (.int .u64)) 1 A366 c367 r357, osl 5 (r0 (.int .u8)) 1 A355 c356 r346, osl 22 (r0 (.int .u64)) 1 A344 c345 r335, O55 b87 r325.2, pts b92 (.cells #[.int .i64 v90.1, .int .u64 v90.2] 40 (0, 0)), osl 22 (r0 (.int .u64)) 1 A9_l1 c9_l1 x9_l1] := hS.ext hS376
              refine WR.runk [6] [] [0, 1, 7, 9, 13, 64, 65, 66, 77, 78, 79, 80, 83, 84, 85, 86, 111] (L' := [(0, .int .i64 a0), (1, .int .i64 a1), (7, .pointer (some ⟨b87, 0, none⟩)), (9, .slice A9_l1 x9_l1.length c9_l1), (13, .slice A344 r335.length c345), (64, .slice A2 l2.length c2), (65, .int .i64 (l2.length : Int)), (66, .int .i64 x66_l1), (77, .pointer (some ⟨b92, 0, none⟩)), (78, .int .i64 v90.1), (79, .int .i64 a1), (80, .bool (decide (v90.1 < a1))), (83, undef), (84, undef), (85, undef), (86, undef), (111, .bool (!r368))]) (w' := w375) (by kernel_rfl) ?_
              refine WR.nil ?_
              refine At.go ?_
              refine WC.cond (by kernel_rfl) (!r368) (by kernel_rfl) (by kernel_rfl) (fun hb377 => ?_) (fun hb377 => ?_)
              · replace H := ite_t H hb377
                refine WC.seq (by kernel_rfl) ?_
                refine WC.reg [0] (by kernel_rfl) (by kernel_rfl) ?_
                refine WR.runk [0] [] [6] (L' := [(6, .bool false)]) (w' := w375) (by kernel_rfl) ?_
                refine WR.nil ?_
                refine At.go ?_
                refine WC.ret (by kernel_rfl) ?_
                refine At.thenRet ?_
                refine At.blockRet ?_
                refine At.thenRet ?_
                refine At.thenRet ?_
                obtain rfl := Option.some.inj H
                have hS : Sat w375 (rf w0) [O55 b87 r325.2] := hS.sel [3] (by kernel_rfl)
                refine At.weaken [6] (L' := [(6, .bool false)]) (by kernel_rfl) ?_
                exact hn1 (false, r325.2) _ rfl hS
              · replace H := ite_f H hb377
                refine WC.skip (by kernel_rfl) ?_
                refine At.go ?_
                refine WC.seq (by kernel_rfl) ?_
                refine WC.seq (by kernel_rfl) ?_
                refine WC.reg [0, 1, 2] (by kernel_rfl) (by kernel_rfl) ?_
                refine WR.runk [0, 1, 2] [] [0, 1, 7, 9, 13, 64, 65, 66, 77, 78, 79, 80, 83, 84, 85, 86, 113, 114] (L' := [(0, .int .i64 a0), (1, .int .i64 a1), (7, .pointer (some ⟨b87, 0, none⟩)), (9, .slice A9_l1 x9_l1.length c9_l1), (13, .slice A344 r335.length c345), (64, .slice A2 l2.length c2), (65, .int .i64 (l2.length : Int)), (66, .int .i64 x66_l1), (77, .pointer (some ⟨b92, 0, none⟩)), (78, .int .i64 v90.1), (79, .int .i64 a1), (80, .bool (decide (v90.1 < a1))), (83, undef), (84, undef), (85, undef), (86, undef), (113, .int .i64 (r335.length : Int)), (114, .int .i64 0)]) (w' := w375) (by kernel_rfl) ?_
                refine WR.nil ?_
                refine At.go ?_
                refine WC.block (by kernel_rfl) ?_
                have hS : Sat w375 (rf w0) [osl 22 (r0 (.int .u64)) 1 A9_l1 c9_l1 x9_l1, osl 22 (r0 (.int .u64)) 1 A344 c345 r335, O55 b87 r325.2] := hS.sel [5, 2, 3] (by kernel_rfl)
                obtain ⟨o385, e386, H⟩ := bind_ex H
                refine WC.loop (by kernel_rfl) ?_
                refine WL.weaken [0, 1, 7, 9, 13, 64, 65, 66, 77, 78, 79, 80, 83, 84, 85, 86, 113, 114] (L' := [(0, .int .i64 a0), (1, .int .i64 a1), (7, .pointer (some ⟨b87, 0, none⟩)), (9, .slice A9_l1 x9_l1.length c9_l1), (13, .slice A344 r335.length c345), (64, .slice A2 l2.length c2), (65, .int .i64 (l2.length : Int)), (66, .int .i64 x66_l1), (77, .pointer (some ⟨b92, 0, none⟩)), (78, .int .i64 v90.1), (79, .int .i64 a1), (80, .bool (decide (v90.1 < a1))), (83, undef), (84, undef), (85, undef), (86, undef), (113, .int .i64 (r335.length : Int)), (114, .int .i64 0)]) (by kernel_rfl) ?_
                refine colophonlaw01_PackPlays.l6_ok w0 a0 a1 A2 c2 l2 b87 A9_l1 c9_l1 x9_l1 x66_l1 v90 b92 r325 r335 o385 (fun w388 hS => ?_) FU r335 0 A344 c345 _ hS e386
                refine At.hit ?_
                refine At.go ?_
                refine WC.seq (by kernel_rfl) ?_
                refine WC.reg [0] (by kernel_rfl) (by kernel_rfl) ?_
                refine WR.runk [0] [] [0, 1, 7, 9, 15, 64, 65, 66, 77, 78, 79, 80, 83, 84, 85, 86] (L' := [(0, .int .i64 a0), (1, .int .i64 a1), (7, .pointer (some ⟨b87, 0, none⟩)), (9, .slice A9_l1 x9_l1.length c9_l1), (15, .int .i64 (-1)), (64, .slice A2 l2.length c2), (65, .int .i64 (l2.length : Int)), (66, .int .i64 x66_l1), (77, .pointer (some ⟨b92, 0, none⟩)), (78, .int .i64 v90.1), (79, .int .i64 a1), (80, .bool (decide (v90.1 < a1))), (83, undef), (84, undef), (85, undef), (86, undef)]) (w' := w388) (by kernel_rfl) ?_
                refine WR.nil ?_
                refine At.go ?_
                refine WC.block (by kernel_rfl) ?_
                have hS : Sat w388 (rf w0) [osl 22 (r0 (.int .u64)) 1 A9_l1 c9_l1 x9_l1, O55 b87 r325.2] := hS.sel [0, 1] (by kernel_rfl)
                obtain ⟨o425, e426, H⟩ := bind_ex H
                refine WC.loop (by kernel_rfl) ?_
                refine WL.weaken [0, 1, 7, 9, 15, 64, 65, 66, 77, 78, 79, 80, 83, 84, 85, 86] (L' := [(0, .int .i64 a0), (1, .int .i64 a1), (7, .pointer (some ⟨b87, 0, none⟩)), (9, .slice A9_l1 x9_l1.length c9_l1), (15, .int .i64 (-1)), (64, .slice A2 l2.length c2), (65, .int .i64 (l2.length : Int)), (66, .int .i64 x66_l1), (77, .pointer (some ⟨b92, 0, none⟩)), (78, .int .i64 v90.1), (79, .int .i64 a1), (80, .bool (decide (v90.1 < a1))), (83, undef), (84, undef), (85, undef), (86, undef)]) (by kernel_rfl) ?_
                refine colophonlaw01_PackPlays.l7_ok w0 a0 a1 A2 c2 l2 b87 A9_l1 c9_l1 x9_l1 x66_l1 v90 b92 r325 o425 (fun o427 w429 ho430 hS => ?_) (fun o431 w433 ho434 hS => ?_) FU (-1) _ hS e426
                · subst ho430
                  dsimp only at H
                  refine At.blockRet ?_
                  refine At.blockRet ?_
                  refine At.thenRet ?_
                  refine At.thenRet ?_
                  obtain rfl := Option.some.inj H
                  have hS : Sat w429 (rf w0) [O55 b87 r325.2] := hS.sel [0] (by kernel_rfl)
                  refine At.weaken [6] (L' := [(6, .bool o427)]) (by kernel_rfl) ?_
                  exact hn1 (o427, r325.2) _ rfl hS
                · subst ho434
                  dsimp only at H
                  refine At.hit ?_
                  refine At.blockNormal ?_
                  refine At.go ?_
                  refine WC.reg [0, 1] (by kernel_rfl) (by kernel_rfl) ?_
                  refine WR.runk [0, 1] [] [0, 1, 7, 9, 64, 65, 66, 77, 78, 79, 80, 83, 84, 85, 86] (L' := [(0, .int .i64 a0), (1, .int .i64 a1), (7, .pointer (some ⟨b87, 0, none⟩)), (9, .slice A9_l1 x9_l1.length c9_l1), (64, .slice A2 l2.length c2), (65, .int .i64 (l2.length : Int)), (66, .int .i64 (wi (x66_l1 + 1))), (77, .pointer (some ⟨b92, 0, none⟩)), (78, .int .i64 v90.1), (79, .int .i64 a1), (80, .bool (decide (v90.1 < a1))), (83, undef), (84, undef), (85, undef), (86, undef)]) (w' := w433) (by kernel_rfl) ?_
                  refine WR.nil ?_
                  have hS : Sat w433 (rf w0) [osl 22 (r0 (.int .u64)) 1 A9_l1 c9_l1 x9_l1, O55 b87 r325.2] := hS.sel [0, 1] (by kernel_rfl)
                  refine At.again ?_
                  refine WL.weaken [0, 1, 7, 9, 64, 65, 66] (L' := [(0, .int .i64 a0), (1, .int .i64 a1), (7, .pointer (some ⟨b87, 0, none⟩)), (9, .slice A9_l1 x9_l1.length c9_l1), (64, .slice A2 l2.length c2), (65, .int .i64 (l2.length : Int)), (66, .int .i64 (wi (x66_l1 + 1)))]) (by kernel_rfl) ?_
                  exact ih x9_l1 (wi (x66_l1 + 1)) r325.2 A9_l1 c9_l1 _ hS H
        · replace H := ite_f H hb97
          refine WR.runk [4, 5, 6, 7, 8, 9, 10, 11, 12, 13, 14, 15] [] [0, 1, 7, 9, 11, 12, 64, 65, 66, 77, 78, 79, 80, 83, 84, 85, 86] (L' := [(0, .int .i64 a0), (1, .int .i64 a1), (7, .pointer (some ⟨b87, 0, none⟩)), (9, .slice A9_l1 x9_l1.length c9_l1), (11, .pointer (some ⟨b92, 0, none⟩)), (12, .bool false), (64, .slice A2 l2.length c2), (65, .int .i64 (l2.length : Int)), (66, .int .i64 x66_l1), (77, undef), (78, undef), (79, undef), (80, undef), (83, undef), (84, undef), (85, undef), (86, undef)]) (w' := w95) (by kernel_rfl) ?_
          refine WR.nil ?_
          refine At.go ?_
          refine WC.seq (by kernel_rfl) ?_
          refine WC.seq (by kernel_rfl) ?_
          refine WC.reg [0, 1, 2, 3, 4, 5, 6, 7] (by kernel_rfl) (by kernel_rfl) ?_
          refine WR.runk [0, 1] [2, 3, 4, 5, 6, 7] [0, 1, 7, 9, 11, 12, 64, 65, 66, 77, 78, 79, 80, 83, 84, 85, 86, 88, 89] (L' := [(0, .int .i64 a0), (1, .int .i64 a1), (7, .pointer (some ⟨b87, 0, none⟩)), (9, .slice A9_l1 x9_l1.length c9_l1), (11, .pointer (some ⟨b92, 0, none⟩)), (12, .bool false), (64, .slice A2 l2.length c2), (65, .int .i64 (l2.length : Int)), (66, .int .i64 x66_l1), (77, undef), (78, undef), (79, undef), (80, undef), (83, undef), (84, undef), (85, undef), (86, undef), (88, .pointer (some ⟨b87, 0, none⟩)), (89, .pointer (some ⟨b92, 0, none⟩))]) (w' := w95) (by kernel_rfl) ?_
          refine WR.st (St.ofR (RSt.loadObj (t := 3) (k := 0) (v := .int .i64 v90.1) (.tmp 89) (by kernel_rfl) (by kernel_rfl) (by kernel_rfl) 0 hS rfl (by kernel_rfl) rfl ?_))
          refine WR.runk [3] [4, 5, 6, 7] [0, 1, 7, 9, 11, 12, 64, 65, 66, 77, 78, 79, 80, 83, 84, 85, 86, 88, 90, 91] (L' := [(0, .int .i64 a0), (1, .int .i64 a1), (7, .pointer (some ⟨b87, 0, none⟩)), (9, .slice A9_l1 x9_l1.length c9_l1), (11, .pointer (some ⟨b92, 0, none⟩)), (12, .bool false), (64, .slice A2 l2.length c2), (65, .int .i64 (l2.length : Int)), (66, .int .i64 x66_l1), (77, undef), (78, undef), (79, undef), (80, undef), (83, undef), (84, undef), (85, undef), (86, undef), (88, .pointer (some ⟨b87, 0, none⟩)), (90, .int .i64 v90.1), (91, .pointer (some ⟨b92, 1, none⟩))]) (w' := w95) (by kernel_rfl) ?_
          refine WR.st (St.ofR (RSt.loadObj (t := 22) (k := 1) (v := .int .u64 v90.2) (.tmp 91) (by kernel_rfl) (by kernel_rfl) (by kernel_rfl) 0 hS rfl (by kernel_rfl) rfl ?_))
          refine WR.runk [] [5, 6, 7] [0, 1, 7, 9, 11, 12, 64, 65, 66, 77, 78, 79, 80, 83, 84, 85, 86, 88, 90, 92] (L' := [(0, .int .i64 a0), (1, .int .i64 a1), (7, .pointer (some ⟨b87, 0, none⟩)), (9, .slice A9_l1 x9_l1.length c9_l1), (11, .pointer (some ⟨b92, 0, none⟩)), (12, .bool false), (64, .slice A2 l2.length c2), (65, .int .i64 (l2.length : Int)), (66, .int .i64 x66_l1), (77, undef), (78, undef), (79, undef), (80, undef), (83, undef), (84, undef), (85, undef), (86, undef), (88, .pointer (some ⟨b87, 0, none⟩)), (90, .int .i64 v90.1), (92, .int .u64 v90.2)]) (w' := w95) (by kernel_rfl) ?_
          have hS : Sat w95 (rf w0) [O55 b87 q88_l1, pts b92 (.cells #[.int .i64 v90.1, .int .u64 v90.2] 40 (0, 0)), osl 22 (r0 (.int .u64)) 1 A9_l1 c9_l1 x9_l1] := hS.sel [2, 0, 1] (by kernel_rfl)
          obtain ⟨r435, e436, H⟩ := bind_ex H
          obtain ⟨B441, hso440, hsub438, hcs439, hb437⟩ := Sat.lend [O55 b87 q88_l1] (cs := [pts b92 (.cells #[.int .i64 v90.1, .int .u64 v90.2] 40 (0, 0)), osl 22 (r0 (.int .u64)) 1 A9_l1 c9_l1 x9_l1]) hS
          refine WR.st (St.call (by kernel_rfl) (f := 12) (args := #[.pointer (some ⟨b87, 0, none⟩), .int .i64 v90.1, .int .u64 v90.2]) (by kernel_rfl) (pack_Ints_Set.calls B441 w95 b87 q88_l1 hso440 v90.1 v90.2 r435 e436) ?_)
          rintro _ w442 ⟨rfl, hS443⟩
          have hS : Sat w442 (rf w0) [O55 b87 r435.2, pts b92 (.cells #[.int .i64 v90.1, .int .u64 v90.2] 40 (0, 0)), osl 22 (r0 (.int .u64)) 1 A9_l1 c9_l1 x9_l1] := hb437 _ _ hS443
          refine WR.runk [6, 7] [] [0, 1, 7, 9, 11, 12, 64, 65, 66, 77, 78, 79, 80, 83, 84, 85, 86, 95] (L' := [(0, .int .i64 a0), (1, .int .i64 a1), (7, .pointer (some ⟨b87, 0, none⟩)), (9, .slice A9_l1 x9_l1.length c9_l1), (11, .pointer (some ⟨b92, 0, none⟩)), (12, .bool false), (64, .slice A2 l2.length c2), (65, .int .i64 (l2.length : Int)), (66, .int .i64 x66_l1), (77, undef), (78, undef), (79, undef), (80, undef), (83, undef), (84, undef), (85, undef), (86, undef), (95, .bool (r435.1 != false))]) (w' := w442) (by kernel_rfl) ?_
          refine WR.nil ?_
          refine At.go ?_
          refine WC.cond (by kernel_rfl) (r435.1 != false) (by kernel_rfl) (by kernel_rfl) (fun hb444 => ?_) (fun hb444 => ?_)
          · replace H := ite_t H hb444
            refine WC.seq (by kernel_rfl) ?_
            refine WC.reg [0] (by kernel_rfl) (by kernel_rfl) ?_
            refine WR.runk [0] [] [6] (L' := [(6, .bool false)]) (w' := w442) (by kernel_rfl) ?_
            refine WR.nil ?_
            refine At.go ?_
            refine WC.ret (by kernel_rfl) ?_
            refine At.thenRet ?_
            refine At.blockRet ?_
            refine At.thenRet ?_
            refine At.thenRet ?_
            obtain rfl := Option.some.inj H
            have hS : Sat w442 (rf w0) [O55 b87 r435.2] := hS.sel [0] (by kernel_rfl)
            refine At.weaken [6] (L' := [(6, .bool false)]) (by kernel_rfl) ?_
            exact hn1 (false, r435.2) _ rfl hS
          · replace H := ite_f H hb444
            refine WC.skip (by kernel_rfl) ?_
            refine At.go ?_
            refine WC.seq (by kernel_rfl) ?_
            refine WC.seq (by kernel_rfl) ?_
            refine WC.reg [0] (by kernel_rfl) (by kernel_rfl) ?_
            refine WR.runk [0] [] [0, 1, 7, 9, 11, 64, 65, 66, 77, 78, 79, 80, 83, 84, 85, 86, 96] (L' := [(0, .int .i64 a0), (1, .int .i64 a1), (7, .pointer (some ⟨b87, 0, none⟩)), (9, .slice A9_l1 x9_l1.length c9_l1), (11, .pointer (some ⟨b92, 0, none⟩)), (64, .slice A2 l2.length c2), (65, .int .i64 (l2.length : Int)), (66, .int .i64 x66_l1), (77, undef), (78, undef), (79, undef), (80, undef), (83, undef), (84, undef), (85, undef), (86, undef), (96, .bool false)]) (w' := w442) (by kernel_rfl) ?_
            refine WR.nil ?_
            refine At.go ?_
            refine WC.condF (by kernel_rfl) (by kernel_rfl) (by kernel_rfl) ?_
            refine WC.skip (by kernel_rfl) ?_
            refine At.go ?_
            refine WC.seq (by kernel_rfl) ?_
            refine WC.reg [0, 1, 2] (by kernel_rfl) (by kernel_rfl) ?_
            refine WR.runk [0] [1, 2] [0, 1, 7, 9, 64, 65, 66, 77, 78, 79, 80, 83, 84, 85, 86, 103] (L' := [(0, .int .i64 a0), (1, .int .i64 a1), (7, .pointer (some ⟨b87, 0, none⟩)), (9, .slice A9_l1 x9_l1.length c9_l1), (64, .slice A2 l2.length c2), (65, .int .i64 (l2.length : Int)), (66, .int .i64 x66_l1), (77, undef), (78, undef), (79, undef), (80, undef), (83, undef), (84, undef), (85, undef), (86, undef), (103, .pointer (some ⟨b87, 0, none⟩))]) (w' := w442) (by kernel_rfl) ?_
            obtain ⟨r445, e446, H⟩ := bind_ex H
            refine WR.st (St.call (by kernel_rfl) (f := 14) (args := #[.pointer (some ⟨b87, 0, none⟩)]) (by kernel_rfl) (pack_Ints_Words.calls w442 (.pointer (some ⟨b87, 0, none⟩)) (some r435.2) (Sat.rdAny 0 hS rfl (fun _ h => O55.rd _ _ _ h)) r445 e446) ?_)
            rintro _ w452 ⟨A454, c455, rfl, hS453⟩
            have hS : Sat w452 (rf w0) [osl 22 (r0 (.int .u64)) 1 A454 c455 r445, O55 b87 r435.2, pts b92 (.cells #[.int .i64 v90.1, .int .u64 v90.2] 40 (0, 0)), osl 22 (r0 (.int .u64)) 1 A9_l1 c9_l1 x9_l1] := hS.ext hS453
            refine WR.runk [2] [] [0, 1, 7, 9, 13, 64, 65, 66, 77, 78, 79, 80, 83, 84, 85, 86] (L' := [(0, .int .i64 a0), (1, .int .i64 a1), (7, .pointer (some ⟨b87, 0, none⟩)), (9, .slice A9_l1 x9_l1.length c9_l1), (13, .slice A454 r445.length c455), (64, .slice A2 l2.length c2), (65, .int .i64 (l2.length : Int)), (66, .int .i64 x66_l1), (77, undef), (78, undef), (79, undef), (80, undef), (83, undef), (84, undef), (85, undef), (86, undef)]) (w' := w452) (by kernel_rfl) ?_
            refine WR.nil ?_
            refine At.go ?_
            refine WC.seq (by kernel_rfl) ?_
            refine WC.seq (by kernel_rfl) ?_
            refine WC.reg [0, 1, 2, 3, 4, 5, 6] (by kernel_rfl) (by kernel_rfl) ?_
            refine WR.runk [0, 1, 2] [3, 4, 5, 6] [0, 1, 7, 9, 13, 64, 65, 66, 77, 78, 79, 80, 83, 84, 85, 86, 105, 106, 107] (L' := [(0, .int .i64 a0), (1, .int .i64 a1), (7, .pointer (some ⟨b87, 0, none⟩)), (9, .slice A9_l1 x9_l1.length c9_l1), (13, .slice A454 r445.length c455), (64, .slice A2 l2.length c2), (65, .int .i64 (l2.length : Int)), (66, .int .i64 x66_l1), (77, undef), (78, undef), (79, undef), (80, undef), (83, undef), (84, undef), (85, undef), (86, undef), (105, .slice A454 r445.length c455), (106, .int .i64 a0), (107, .slice A9_l1 x9_l1.length c9_l1)]) (w' := w452) (by kernel_rfl) ?_
            obtain ⟨r456, e457, H⟩ := bind_ex H
            refine WR.st (St.call (by kernel_rfl) (f := 23) (args := #[.int .i64 a0, .slice A9_l1 x9_l1.length c9_l1]) (by kernel_rfl) (colophonref01_Bits.calls w452 a0 A9_l1 c9_l1 x9_l1 (Sat.rdAt 3 hS rfl) r456 e457) ?_)
            rintro _ w463 ⟨A465, c466, rfl, hS464⟩
            have hS : Sat w463 (rf w0) [osl 5 (r0 (.int .u8)) 1 A465 c466 r456, osl 22 (r0 (.int .u64)) 1 A454 c455 r445, O55 b87 r435.2, pts b92 (.cells #[.int .i64 v90.1, .int .u64 v90.2] 40 (0, 0)), osl 22 (r0 (.int .u64)) 1 A9_l1 c9_l1 x9_l1] := hS.ext hS464
            refine WR.runk [] [4, 5, 6] [0, 1, 7, 9, 13, 64, 65, 66, 77, 78, 79, 80, 83, 84, 85, 86, 105, 108] (L' := [(0, .int .i64 a0), (1, .int .i64 a1), (7, .pointer (some ⟨b87, 0, none⟩)), (9, .slice A9_l1 x9_l1.length c9_l1), (13, .slice A454 r445.length c455), (64, .slice A2 l2.length c2), (65, .int .i64 (l2.length : Int)), (66, .int .i64 x66_l1), (77, undef), (78, undef), (79, undef), (80, undef), (83, undef), (84, undef), (85, undef), (86, undef), (105, .slice A454 r445.length c455), (108, .slice A465 r456.length c466)]) (w' := w463) (by kernel_rfl) ?_
            obtain ⟨r467, e468, H⟩ := bind_ex H
            refine WR.st (St.call (by kernel_rfl) (f := 22) (args := #[.slice A465 r456.length c466]) (by kernel_rfl) (colophonref01_Words.calls w463 A465 c466 r456 (Sat.rdAt 0 hS rfl) r467 e468) ?_)
            rintro _ w474 ⟨A476, c477, rfl, hS475⟩
            have hS : Sat w474 (rf w0) [osl 22 (r0 (.int .u64)) 1 A476 c477 r467, osl 5 (r0 (.int .u8)) 1 A465 c466 r456, osl 22 (r0 (.int .u64)) 1 A454 c455 r445, O55 b87 r435.2, pts b92 (.cells #[.int .i64 v90.1, .int .u64 v90.2] 40 (0, 0)), osl 22 (r0 (.int .u64)) 1 A9_l1 c9_l1 x9_l1] := hS.ext hS475
            refine WR.runk [] [5, 6] [0, 1, 7, 9, 13, 64, 65, 66, 77, 78, 79, 80, 83, 84, 85, 86, 105, 109] (L' := [(0, .int .i64 a0), (1, .int .i64 a1), (7, .pointer (some ⟨b87, 0, none⟩)), (9, .slice A9_l1 x9_l1.length c9_l1), (13, .slice A454 r445.length c455), (64, .slice A2 l2.length c2), (65, .int .i64 (l2.length : Int)), (66, .int .i64 x66_l1), (77, undef), (78, undef), (79, undef), (80, undef), (83, undef), (84, undef), (85, undef), (86, undef), (105, .slice A454 r445.length c455), (109, .slice A476 r467.length c477)]) (w' := w474) (by kernel_rfl) ?_
            obtain ⟨r478, e479, H⟩ := bind_ex H
            refine WR.st (St.call (by kernel_rfl) (f := 19) (args := #[.slice A454 r445.length c455, .slice A476 r467.length c477]) (by kernel_rfl) (colophonref01_Same.calls w474 A454 c455 r445 (Sat.rdAt 2 hS rfl) A476 c477 r467 (Sat.rdAt 0 hS rfl) r478 e479) ?_)
            rintro _ w485 ⟨rfl, hS486⟩
            have hS : Sat w485 (rf w0) [osl 22 (r0 (.int .u64)) 1 A476 c477 r467, osl 5 (r0 (.int .u8)) 1 A465 c466 r456, osl 22 (r0 (.int .u64)) 1 A454 c455 r445, O55 b87 r435.2, pts b92 (.cells #[.int .i64 v90.1, .int .u64 v90.2] 40 (0, 0)), osl 22 (r0 (.int .u64)) 1 A9_l1 c9_l1 x9_l1] := hS.ext hS486
            refine WR.runk [6] [] [0, 1, 7, 9, 13, 64, 65, 66, 77, 78, 79, 80, 83, 84, 85, 86, 111] (L' := [(0, .int .i64 a0), (1, .int .i64 a1), (7, .pointer (some ⟨b87, 0, none⟩)), (9, .slice A9_l1 x9_l1.length c9_l1), (13, .slice A454 r445.length c455), (64, .slice A2 l2.length c2), (65, .int .i64 (l2.length : Int)), (66, .int .i64 x66_l1), (77, undef), (78, undef), (79, undef), (80, undef), (83, undef), (84, undef), (85, undef), (86, undef), (111, .bool (!r478))]) (w' := w485) (by kernel_rfl) ?_
            refine WR.nil ?_
            refine At.go ?_
            refine WC.cond (by kernel_rfl) (!r478) (by kernel_rfl) (by kernel_rfl) (fun hb487 => ?_) (fun hb487 => ?_)
            · replace H := ite_t H hb487
              refine WC.seq (by kernel_rfl) ?_
              refine WC.reg [0] (by kernel_rfl) (by kernel_rfl) ?_
              refine WR.runk [0] [] [6] (L' := [(6, .bool false)]) (w' := w485) (by kernel_rfl) ?_
              refine WR.nil ?_
              refine At.go ?_
              refine WC.ret (by kernel_rfl) ?_
              refine At.thenRet ?_
              refine At.blockRet ?_
              refine At.thenRet ?_
              refine At.thenRet ?_
              obtain rfl := Option.some.inj H
              have hS : Sat w485 (rf w0) [O55 b87 r435.2] := hS.sel [3] (by kernel_rfl)
              refine At.weaken [6] (L' := [(6, .bool false)]) (by kernel_rfl) ?_
              exact hn1 (false, r435.2) _ rfl hS
            · replace H := ite_f H hb487
              refine WC.skip (by kernel_rfl) ?_
              refine At.go ?_
              refine WC.seq (by kernel_rfl) ?_
              refine WC.seq (by kernel_rfl) ?_
              refine WC.reg [0, 1, 2] (by kernel_rfl) (by kernel_rfl) ?_
              refine WR.runk [0, 1, 2] [] [0, 1, 7, 9, 13, 64, 65, 66, 77, 78, 79, 80, 83, 84, 85, 86, 113, 114] (L' := [(0, .int .i64 a0), (1, .int .i64 a1), (7, .pointer (some ⟨b87, 0, none⟩)), (9, .slice A9_l1 x9_l1.length c9_l1), (13, .slice A454 r445.length c455), (64, .slice A2 l2.length c2), (65, .int .i64 (l2.length : Int)), (66, .int .i64 x66_l1), (77, undef), (78, undef), (79, undef), (80, undef), (83, undef), (84, undef), (85, undef), (86, undef), (113, .int .i64 (r445.length : Int)), (114, .int .i64 0)]) (w' := w485) (by kernel_rfl) ?_
              refine WR.nil ?_
              refine At.go ?_
              refine WC.block (by kernel_rfl) ?_
              have hS : Sat w485 (rf w0) [osl 22 (r0 (.int .u64)) 1 A9_l1 c9_l1 x9_l1, osl 22 (r0 (.int .u64)) 1 A454 c455 r445, O55 b87 r435.2] := hS.sel [5, 2, 3] (by kernel_rfl)
              obtain ⟨o495, e496, H⟩ := bind_ex H
              refine WC.loop (by kernel_rfl) ?_
              refine WL.weaken [0, 1, 7, 9, 13, 64, 65, 66, 77, 78, 79, 80, 83, 84, 85, 86, 113, 114] (L' := [(0, .int .i64 a0), (1, .int .i64 a1), (7, .pointer (some ⟨b87, 0, none⟩)), (9, .slice A9_l1 x9_l1.length c9_l1), (13, .slice A454 r445.length c455), (64, .slice A2 l2.length c2), (65, .int .i64 (l2.length : Int)), (66, .int .i64 x66_l1), (77, undef), (78, undef), (79, undef), (80, undef), (83, undef), (84, undef), (85, undef), (86, undef), (113, .int .i64 (r445.length : Int)), (114, .int .i64 0)]) (by kernel_rfl) ?_
              refine colophonlaw01_PackPlays.l8_ok w0 a0 a1 A2 c2 l2 b87 A9_l1 c9_l1 x9_l1 x66_l1 r435 r445 o495 (fun w498 hS => ?_) FU r445 0 A454 c455 _ hS e496
              refine At.hit ?_
              refine At.go ?_
              refine WC.seq (by kernel_rfl) ?_
              refine WC.reg [0] (by kernel_rfl) (by kernel_rfl) ?_
              refine WR.runk [0] [] [0, 1, 7, 9, 15, 64, 65, 66, 77, 78, 79, 80, 83, 84, 85, 86] (L' := [(0, .int .i64 a0), (1, .int .i64 a1), (7, .pointer (some ⟨b87, 0, none⟩)), (9, .slice A9_l1 x9_l1.length c9_l1), (15, .int .i64 (-1)), (64, .slice A2 l2.length c2), (65, .int .i64 (l2.length : Int)), (66, .int .i64 x66_l1), (77, undef), (78, undef), (79, undef), (80, undef), (83, undef), (84, undef), (85, undef), (86, undef)]) (w' := w498) (by kernel_rfl) ?_
              refine WR.nil ?_
              refine At.go ?_
              refine WC.block (by kernel_rfl) ?_
              have hS : Sat w498 (rf w0) [osl 22 (r0 (.int .u64)) 1 A9_l1 c9_l1 x9_l1, O55 b87 r435.2] := hS.sel [0, 1] (by kernel_rfl)
              obtain ⟨o535, e536, H⟩ := bind_ex H
              refine WC.loop (by kernel_rfl) ?_
              refine WL.weaken [0, 1, 7, 9, 15, 64, 65, 66, 77, 78, 79, 80, 83, 84, 85, 86] (L' := [(0, .int .i64 a0), (1, .int .i64 a1), (7, .pointer (some ⟨b87, 0, none⟩)), (9, .slice A9_l1 x9_l1.length c9_l1), (15, .int .i64 (-1)), (64, .slice A2 l2.length c2), (65, .int .i64 (l2.length : Int)), (66, .int .i64 x66_l1), (77, undef), (78, undef), (79, undef), (80, undef), (83, undef), (84, undef), (85, undef), (86, undef)]) (by kernel_rfl) ?_
              refine colophonlaw01_PackPlays.l9_ok w0 a0 a1 A2 c2 l2 b87 A9_l1 c9_l1 x9_l1 x66_l1 r435 o535 (fun o537 w539 ho540 hS => ?_) (fun o541 w543 ho544 hS => ?_) FU (-1) _ hS e536
              · subst ho540
                dsimp only at H
                refine At.blockRet ?_
                refine At.blockRet ?_
                refine At.thenRet ?_
                refine At.thenRet ?_
                obtain rfl := Option.some.inj H
                have hS : Sat w539 (rf w0) [O55 b87 r435.2] := hS.sel [0] (by kernel_rfl)
                refine At.weaken [6] (L' := [(6, .bool o537)]) (by kernel_rfl) ?_
                exact hn1 (o537, r435.2) _ rfl hS
              · subst ho544
                dsimp only at H
                refine At.hit ?_
                refine At.blockNormal ?_
                refine At.go ?_
                refine WC.reg [0, 1] (by kernel_rfl) (by kernel_rfl) ?_
                refine WR.runk [0, 1] [] [0, 1, 7, 9, 64, 65, 66, 77, 78, 79, 80, 83, 84, 85, 86] (L' := [(0, .int .i64 a0), (1, .int .i64 a1), (7, .pointer (some ⟨b87, 0, none⟩)), (9, .slice A9_l1 x9_l1.length c9_l1), (64, .slice A2 l2.length c2), (65, .int .i64 (l2.length : Int)), (66, .int .i64 (wi (x66_l1 + 1))), (77, undef), (78, undef), (79, undef), (80, undef), (83, undef), (84, undef), (85, undef), (86, undef)]) (w' := w543) (by kernel_rfl) ?_
                refine WR.nil ?_
                have hS : Sat w543 (rf w0) [osl 22 (r0 (.int .u64)) 1 A9_l1 c9_l1 x9_l1, O55 b87 r435.2] := hS.sel [0, 1] (by kernel_rfl)
                refine At.again ?_
                refine WL.weaken [0, 1, 7, 9, 64, 65, 66] (L' := [(0, .int .i64 a0), (1, .int .i64 a1), (7, .pointer (some ⟨b87, 0, none⟩)), (9, .slice A9_l1 x9_l1.length c9_l1), (64, .slice A2 l2.length c2), (65, .int .i64 (l2.length : Int)), (66, .int .i64 (wi (x66_l1 + 1)))]) (by kernel_rfl) ?_
                exact ih x9_l1 (wi (x66_l1 + 1)) r435.2 A9_l1 c9_l1 _ hS H
    · replace H := ite_f H hb89
      refine WC.exit (by kernel_rfl) ?_
      refine At.thenExit ?_
      refine At.thenExit ?_
      obtain rfl := Option.some.inj H
      have hS : Sat w (rf w0) [O55 b87 q88_l1] := hS.sel [1] (by kernel_rfl)
      refine At.weaken [] (L' := []) (by kernel_rfl) ?_
      exact hn0 q88_l1 _ rfl hS
theorem colophonlaw01_PackPlays.calls (w0 : World) (a0 : Int) (a1 : Int) (A2 : Option Addr) (c2 : Nat) (l2 : List (Int × Int)) (R2 : rdS (r0 (.pair (.int .i64) (.int .u64))) 2 (hp w0) A2 c2 l2) (r : Bool) (H : colophonlaw01_PackPlays.f a0 a1 l2 = some r) :
    Calls Try.prog 7 #[.int .i64 a0, .int .i64 a1, .slice A2 l2.length c2] w0 (fun e w' => ∃ v, e = .returned v ∧ colophonlaw01_PackPlays.post w0 r v w') := by
  have hS : Sat w0 (rf w0) [] := Sat.start w0
  unfold colophonlaw01_PackPlays.f at H
  refine calls_of_WC (vs := [.int .i64 a0, .int .i64 a1, .slice A2 l2.length c2]) Try.func7 (c := C7) (n := 143) (by kernel_rfl) (by kernel_rfl) (by kernel_rfl) ?_
  refine WC.seq (by kernel_rfl) ?_
  refine WC.reg [0] (by kernel_rfl) (by kernel_rfl) ?_
  refine WR.runk [0] [] [0, 1, 2] (L' := [(0, .int .i64 a0), (1, .int .i64 a1), (2, .slice A2 l2.length c2)]) (w' := w0) (by kernel_rfl) ?_
  refine WR.nil ?_
  refine At.go ?_
  refine WC.seq (by kernel_rfl) ?_
  refine WC.seq (by kernel_rfl) ?_
  refine WC.reg [0, 1] (by kernel_rfl) (by kernel_rfl) ?_
  obtain ⟨r1, e2, H⟩ := bind_ex H
  refine WR.st (St.call (by kernel_rfl) (f := 9) (args := #[]) (by kernel_rfl) (colophonlaw01_first.calls w0  r1 e2) ?_)
  rintro _ w8 ⟨rfl, hS9⟩
  have hS : Sat w8 (rf w0) [] := hS.ext hS9
  refine WR.runk [1] [] [0, 1, 2, 18] (L' := [(0, .int .i64 a0), (1, .int .i64 a1), (2, .slice A2 l2.length c2), (18, .bool (!r1))]) (w' := w8) (by kernel_rfl) ?_
  refine WR.nil ?_
  refine At.go ?_
  refine WC.cond (by kernel_rfl) (!r1) (by kernel_rfl) (by kernel_rfl) (fun hb10 => ?_) (fun hb10 => ?_)
  · replace H := ite_t H hb10
    refine WC.seq (by kernel_rfl) ?_
    refine WC.reg [0] (by kernel_rfl) (by kernel_rfl) ?_
    refine WR.runk [0] [] [6] (L' := [(6, .bool false)]) (w' := w8) (by kernel_rfl) ?_
    refine WR.nil ?_
    refine At.go ?_
    refine WC.ret (by kernel_rfl) ?_
    refine At.thenRet ?_
    obtain rfl := Option.some.inj H
    have hS : Sat w8 (rf w0) [] := hS.sel [] (by kernel_rfl)
    exact At.body [.bool false] (by kernel_rfl) ⟨_, rfl, rfl, hS⟩
  · replace H := ite_f H hb10
    refine WC.skip (by kernel_rfl) ?_
    refine At.go ?_
    refine WC.seq (by kernel_rfl) ?_
    refine WC.reg [0, 1, 2, 3, 4, 5, 6, 7] (by kernel_rfl) (by kernel_rfl) ?_
    refine WR.runk [0, 1] [2, 3, 4, 5, 6, 7] [0, 1, 2, 20, 21] (L' := [(0, .int .i64 a0), (1, .int .i64 a1), (2, .slice A2 l2.length c2), (20, .int .i64 a0), (21, .int .i64 a1)]) (w' := w8) (by kernel_rfl) ?_
    obtain ⟨r11, e12, H⟩ := bind_ex H
    refine WR.st (St.call (by kernel_rfl) (f := 11) (args := #[.int .i64 a0, .int .i64 a1]) (by kernel_rfl) (pack_New.calls w8 a0 a1 r11 e12) ?_)
    rintro _ w18 ⟨pv20, rfl, hS19⟩
    have hS : Sat w18 (rf w0) [optP O55 pv20 r11.1] := hS.ext hS19
    refine WR.runk [3, 4, 5, 6, 7] [] [0, 1, 2, 7, 8] (L' := [(0, .int .i64 a0), (1, .int .i64 a1), (2, .slice A2 l2.length c2), (7, pv20), (8, .int .i64 r11.2)]) (w' := w18) (by kernel_rfl) ?_
    refine WR.nil ?_
    refine At.go ?_
    refine WC.seq (by kernel_rfl) ?_
    refine WC.seq (by kernel_rfl) ?_
    refine WC.reg [0, 1, 2, 3] (by kernel_rfl) (by kernel_rfl) ?_
    refine WR.runk [0, 1] [2, 3] [0, 1, 2, 7, 8, 25, 26] (L' := [(0, .int .i64 a0), (1, .int .i64 a1), (2, .slice A2 l2.length c2), (7, pv20), (8, .int .i64 r11.2), (25, .int .i64 a0), (26, .int .i64 a1)]) (w' := w18) (by kernel_rfl) ?_
    obtain ⟨r21, e22, H⟩ := bind_ex H
    refine WR.st (St.call (by kernel_rfl) (f := 16) (args := #[.int .i64 a0, .int .i64 a1]) (by kernel_rfl) (colophonref01_Right.calls w18 a0 a1 r21 e22) ?_)
    rintro _ w28 ⟨rfl, hS29⟩
    have hS : Sat w28 (rf w0) [optP O55 pv20 r11.1] := hS.ext hS29
    refine WR.runk [3] [] [0, 1, 2, 7, 8, 28] (L' := [(0, .int .i64 a0), (1, .int .i64 a1), (2, .slice A2 l2.length c2), (7, pv20), (8, .int .i64 r11.2), (28, .bool (!r21))]) (w' := w28) (by kernel_rfl) ?_
    refine WR.nil ?_
    refine At.go ?_
    refine WC.cond (by kernel_rfl) (!r21) (by kernel_rfl) (by kernel_rfl) (fun hb30 => ?_) (fun hb30 => ?_)
    · replace H := ite_t H hb30
      refine WC.seq (by kernel_rfl) ?_
      refine WC.reg [0, 1, 2, 3, 4, 5, 6] (by kernel_rfl) (by kernel_rfl) ?_
      refine WR.runk [0, 1, 2] [3, 4, 5, 6] [7, 31] (L' := [(7, pv20), (31, .bool (r11.2 == 2))]) (w' := w28) (by kernel_rfl) ?_
      refine WR.split 31 (b := (r11.2 == 2)) (by kernel_rfl) (fun hb31 => ?_) (fun hb31 => ?_)
      · replace H := ite_t H hb31
        refine WR.runk [3] [4, 5, 6] [31, 32] (L' := [(31, .bool true), (32, pv20)]) (w' := w28) (by kernel_rfl) ?_
        rcases hr33 : r11.1 with _ | y32
        · rw [hr33] at H
          dsimp only at H
          have hv34 := optP.none hS hr33
          subst hv34
          have hS : Sat w28 (rf w0) [] := hS.sel [] (by kernel_rfl)
          refine WR.runk [4, 5, 6] [] [6] (L' := [(6, .bool true)]) (w' := w28) (by kernel_rfl) ?_
          refine WR.nil ?_
          refine At.go ?_
          refine WC.ret (by kernel_rfl) ?_
          refine At.thenRet ?_
          obtain rfl := Option.some.inj H
          have hS : Sat w28 (rf w0) [] := hS.sel [] (by kernel_rfl)
          exact At.body [.bool true] (by kernel_rfl) ⟨_, rfl, rfl, hS⟩
        · rw [hr33] at H
          dsimp only at H
          obtain ⟨b35, hv34, hN37⟩ := optP.some hS hr33
          subst hv34
          have hS : Sat w28 (rf w0) [O55 b35 y32] := hN37
          refine WR.runk [4, 5, 6] [] [6] (L' := [(6, .bool false)]) (w' := w28) (by kernel_rfl) ?_
          refine WR.nil ?_
          refine At.go ?_
          refine WC.ret (by kernel_rfl) ?_
          refine At.thenRet ?_
          obtain rfl := Option.some.inj H
          have hS : Sat w28 (rf w0) [] := hS.sel [] (by kernel_rfl)
          exact At.body [.bool false] (by kernel_rfl) ⟨_, rfl, rfl, hS⟩
      · replace H := ite_f H hb31
        refine WR.runk [3, 4, 5, 6] [] [6] (L' := [(6, .bool false)]) (w' := w28) (by kernel_rfl) ?_
        refine WR.nil ?_
        refine At.go ?_
        refine WC.ret (by kernel_rfl) ?_
        refine At.thenRet ?_
        obtain rfl := Option.some.inj H
        have hS : Sat w28 (rf w0) [] := hS.sel [] (by kernel_rfl)
        exact At.body [.bool false] (by kernel_rfl) ⟨_, rfl, rfl, hS⟩
    · replace H := ite_f H hb30
      refine WC.skip (by kernel_rfl) ?_
      refine At.go ?_
      refine WC.seq (by kernel_rfl) ?_
      refine WC.seq (by kernel_rfl) ?_
      refine WC.reg [0, 1, 2, 3, 4, 5, 6, 7, 8, 9, 10, 11, 12, 13] (by kernel_rfl) (by kernel_rfl) ?_
      refine WR.runk [0, 1, 2] [3, 4, 5, 6, 7, 8, 9, 10, 11, 12, 13] [0, 1, 2, 7, 37] (L' := [(0, .int .i64 a0), (1, .int .i64 a1), (2, .slice A2 l2.length c2), (7, pv20), (37, .bool (r11.2 != 0))]) (w' := w28) (by kernel_rfl) ?_
      refine WR.split 37 (b := (r11.2 != 0)) (by kernel_rfl) (fun hb38 => ?_) (fun hb38 => ?_)
      · replace H := ite_t H hb38
        refine WR.runk [3, 4, 5, 6, 7, 8, 9, 10, 11, 12, 13] [] [0, 1, 2, 7, 48] (L' := [(0, .int .i64 a0), (1, .int .i64 a1), (2, .slice A2 l2.length c2), (7, pv20), (48, .bool true)]) (w' := w28) (by kernel_rfl) ?_
        refine WR.nil ?_
        refine At.go ?_
        refine WC.condT (by kernel_rfl) (by kernel_rfl) (by kernel_rfl) ?_
        refine WC.seq (by kernel_rfl) ?_
        refine WC.reg [0] (by kernel_rfl) (by kernel_rfl) ?_
        refine WR.runk [0] [] [6] (L' := [(6, .bool false)]) (w' := w28) (by kernel_rfl) ?_
        refine WR.nil ?_
        refine At.go ?_
        refine WC.ret (by kernel_rfl) ?_
        refine At.thenRet ?_
        obtain rfl := Option.some.inj H
        have hS : Sat w28 (rf w0) [] := hS.sel [] (by kernel_rfl)
        exact At.body [.bool false] (by kernel_rfl) ⟨_, rfl, rfl, hS⟩
      · replace H := ite_f H hb38
        refine WR.runk [3] [4, 5, 6, 7, 8, 9, 10, 11, 12, 13] [0, 1, 2, 7, 37, 38] (L' := [(0, .int .i64 a0), (1, .int .i64 a1), (2, .slice A2 l2.length c2), (7, pv20), (37, .bool false), (38, pv20)]) (w' := w28) (by kernel_rfl) ?_
        obtain ⟨r39, e40, H⟩ := bind_ex H
        refine WR.st (St.call (by kernel_rfl) (f := 18) (args := #[pv20]) (by kernel_rfl) (pack_Ints_Len.calls w28 (pv20) r11.1 (Sat.rdAny 0 hS rfl (fun _ h => optP.rdd (t := 55) (κ := (.pair (.int .i64) (.pair (.int .i64) (.slice 22 (.int .u64))))) (O := O55) O55.rd h)) r39 e40) ?_)
        rintro _ w46 ⟨rfl, hS47⟩
        have hS : Sat w46 (rf w0) [optP O55 pv20 r11.1] := hS.ext hS47
        refine WR.runk [5, 6, 7, 8] [9, 10, 11, 12, 13] [0, 1, 2, 7, 43] (L' := [(0, .int .i64 a0), (1, .int .i64 a1), (2, .slice A2 l2.length c2), (7, pv20), (43, .bool (r39 != a1))]) (w' := w46) (by kernel_rfl) ?_
        refine WR.split 43 (b := (r39 != a1)) (by kernel_rfl) (fun hb48 => ?_) (fun hb48 => ?_)
        · replace H := ite_t H hb48
          refine WR.runk [9, 10, 11, 12, 13] [] [0, 1, 2, 7, 48] (L' := [(0, .int .i64 a0), (1, .int .i64 a1), (2, .slice A2 l2.length c2), (7, pv20), (48, .bool true)]) (w' := w46) (by kernel_rfl) ?_
          refine WR.nil ?_
          refine At.go ?_
          refine WC.condT (by kernel_rfl) (by kernel_rfl) (by kernel_rfl) ?_
          refine WC.seq (by kernel_rfl) ?_
          refine WC.reg [0] (by kernel_rfl) (by kernel_rfl) ?_
          refine WR.runk [0] [] [6] (L' := [(6, .bool false)]) (w' := w46) (by kernel_rfl) ?_
          refine WR.nil ?_
          refine At.go ?_
          refine WC.ret (by kernel_rfl) ?_
          refine At.thenRet ?_
          obtain rfl := Option.some.inj H
          have hS : Sat w46 (rf w0) [] := hS.sel [] (by kernel_rfl)
          exact At.body [.bool false] (by kernel_rfl) ⟨_, rfl, rfl, hS⟩
        · replace H := ite_f H hb48
          refine WR.runk [9] [10, 11, 12, 13] [0, 1, 2, 7, 43, 44] (L' := [(0, .int .i64 a0), (1, .int .i64 a1), (2, .slice A2 l2.length c2), (7, pv20), (43, .bool false), (44, pv20)]) (w' := w46) (by kernel_rfl) ?_
          obtain ⟨r49, e50, H⟩ := bind_ex H
          refine WR.st (St.call (by kernel_rfl) (f := 20) (args := #[pv20]) (by kernel_rfl) (pack_Ints_Width.calls w46 (pv20) r11.1 (Sat.rdAny 0 hS rfl (fun _ h => optP.rdd (t := 55) (κ := (.pair (.int .i64) (.pair (.int .i64) (.slice 22 (.int .u64))))) (O := O55) O55.rd h)) r49 e50) ?_)
          rintro _ w56 ⟨rfl, hS57⟩
          have hS : Sat w56 (rf w0) [optP O55 pv20 r11.1] := hS.ext hS57
          refine WR.runk [11, 12, 13] [] [0, 1, 2, 7, 48] (L' := [(0, .int .i64 a0), (1, .int .i64 a1), (2, .slice A2 l2.length c2), (7, pv20), (48, .bool (r49 != a0))]) (w' := w56) (by kernel_rfl) ?_
          refine WR.nil ?_
          refine At.go ?_
          refine WC.cond (by kernel_rfl) (r49 != a0) (by kernel_rfl) (by kernel_rfl) (fun hb58 => ?_) (fun hb58 => ?_)
          · replace H := ite_t H hb58
            refine WC.seq (by kernel_rfl) ?_
            refine WC.reg [0] (by kernel_rfl) (by kernel_rfl) ?_
            refine WR.runk [0] [] [6] (L' := [(6, .bool false)]) (w' := w56) (by kernel_rfl) ?_
            refine WR.nil ?_
            refine At.go ?_
            refine WC.ret (by kernel_rfl) ?_
            refine At.thenRet ?_
            obtain rfl := Option.some.inj H
            have hS : Sat w56 (rf w0) [] := hS.sel [] (by kernel_rfl)
            exact At.body [.bool false] (by kernel_rfl) ⟨_, rfl, rfl, hS⟩
          · replace H := ite_f H hb58
            refine WC.skip (by kernel_rfl) ?_
            refine At.go ?_
            refine WC.seq (by kernel_rfl) ?_
            refine WC.seq (by kernel_rfl) ?_
            refine WC.reg [0, 1] (by kernel_rfl) (by kernel_rfl) ?_
            refine WR.runk [0, 1] [] [0, 1, 2, 7, 50] (L' := [(0, .int .i64 a0), (1, .int .i64 a1), (2, .slice A2 l2.length c2), (7, pv20), (50, .bool (decide (a1 > 500)))]) (w' := w56) (by kernel_rfl) ?_
            refine WR.nil ?_
            refine At.go ?_
            refine WC.cond (by kernel_rfl) (decide (a1 > 500)) (by kernel_rfl) (by kernel_rfl) (fun hb59 => ?_) (fun hb59 => ?_)
            · replace H := ite_t H hb59
              refine WC.seq (by kernel_rfl) ?_
              refine WC.reg [0, 1, 2, 3, 4, 5, 6, 7, 8, 9, 10, 11] (by kernel_rfl) (by kernel_rfl) ?_
              refine WR.runk [0, 1, 2] [3, 4, 5, 6, 7, 8, 9, 10, 11] [1, 7, 51, 53] (L' := [(1, .int .i64 a1), (7, pv20), (51, pv20), (53, .int .i64 (wi (a1 - 1)))]) (w' := w56) (by kernel_rfl) ?_
              obtain ⟨r60, e61, H⟩ := bind_ex H
              refine WR.st (St.call (by kernel_rfl) (f := 13) (args := #[pv20, .int .i64 (wi (a1 - 1))]) (by kernel_rfl) (pack_Ints_Get.calls w56 (pv20) r11.1 (Sat.rdAny 0 hS rfl (fun _ h => optP.rdd (t := 55) (κ := (.pair (.int .i64) (.pair (.int .i64) (.slice 22 (.int .u64))))) (O := O55) O55.rd h)) (wi (a1 - 1)) r60 e61) ?_)
              rintro _ w67 ⟨rfl, hS68⟩
              have hS : Sat w67 (rf w0) [optP O55 pv20 r11.1] := hS.ext hS68
              refine WR.runk [4, 5] [6, 7, 8, 9, 10, 11] [1, 7, 56] (L' := [(1, .int .i64 a1), (7, pv20), (56, .bool (r60 == 0))]) (w' := w67) (by kernel_rfl) ?_
              refine WR.split 56 (b := (r60 == 0)) (by kernel_rfl) (fun hb69 => ?_) (fun hb69 => ?_)
              · replace H := ite_t H hb69
                refine WR.runk [6, 7] [8, 9, 10, 11] [56, 57, 58] (L' := [(56, .bool true), (57, pv20), (58, .int .i64 a1)]) (w' := w67) (by kernel_rfl) ?_
                obtain ⟨r70, e71, H⟩ := bind_ex H
                refine WR.st (St.call (by kernel_rfl) (f := 13) (args := #[pv20, .int .i64 a1]) (by kernel_rfl) (pack_Ints_Get.calls w67 (pv20) r11.1 (Sat.rdAny 0 hS rfl (fun _ h => optP.rdd (t := 55) (κ := (.pair (.int .i64) (.pair (.int .i64) (.slice 22 (.int .u64))))) (O := O55) O55.rd h)) a1 r70 e71) ?_)
                rintro _ w77 ⟨rfl, hS78⟩
                have hS : Sat w77 (rf w0) [optP O55 pv20 r11.1] := hS.ext hS78
                refine WR.runk [9, 10, 11] [] [6] (L' := [(6, .bool (r70 == 0))]) (w' := w77) (by kernel_rfl) ?_
                refine WR.nil ?_
                refine At.go ?_
                refine WC.ret (by kernel_rfl) ?_
                refine At.thenRet ?_
                obtain rfl := Option.some.inj H
                have hS : Sat w77 (rf w0) [] := hS.sel [] (by kernel_rfl)
                exact At.body [.bool (r70 == 0)] (by kernel_rfl) ⟨_, rfl, rfl, hS⟩
              · replace H := ite_f H hb69
                refine WR.runk [6, 7, 8, 9, 10, 11] [] [6] (L' := [(6, .bool false)]) (w' := w67) (by kernel_rfl) ?_
                refine WR.nil ?_
                refine At.go ?_
                refine WC.ret (by kernel_rfl) ?_
                refine At.thenRet ?_
                obtain rfl := Option.some.inj H
                have hS : Sat w67 (rf w0) [] := hS.sel [] (by kernel_rfl)
                exact At.body [.bool false] (by kernel_rfl) ⟨_, rfl, rfl, hS⟩
            · replace H := ite_f H hb59
              refine WC.skip (by kernel_rfl) ?_
              refine At.go ?_
              refine WC.seq (by kernel_rfl) ?_
              refine WC.reg [0, 1, 2] (by kernel_rfl) (by kernel_rfl) ?_
              refine WR.runk [0] [1, 2] [0, 1, 2, 7, 62] (L' := [(0, .int .i64 a0), (1, .int .i64 a1), (2, .slice A2 l2.length c2), (7, pv20), (62, .int .i64 a1)]) (w' := w56) (by kernel_rfl) ?_
              obtain ⟨y79, e80, H⟩ := bind_ex H
              refine WR.st (St.make' (t := 32) (e := 22) (sz := 1) (bytes := 8) (k1 := .i64) (k2 := .i64) (R := (r0 (.int .u64))) (.tmp 62) (.tmp 62) (by kernel_rfl) (by kernel_rfl) (.int .u64 0) (by kernel_rfl) (by kernel_rfl) rfl (by kernel_rfl) hS (by kernel_rfl) (by kernel_rfl) 17592186044416 (by kernel_rfl) (by kernel_rfl) e80 (fun A81 c82 w83 hS => ?_))
              refine WR.runk [2] [] [0, 1, 2, 7, 9] (L' := [(0, .int .i64 a0), (1, .int .i64 a1), (2, .slice A2 l2.length c2), (7, pv20), (9, .slice A81 y79.length c82)]) (w' := w83) (by kernel_rfl) ?_
              refine WR.nil ?_
              refine At.go ?_
              refine WC.seq (by kernel_rfl) ?_
              refine WC.seq (by kernel_rfl) ?_
              refine WC.reg [0, 1, 2] (by kernel_rfl) (by kernel_rfl) ?_
              refine WR.runk [0, 1, 2] [] [0, 1, 7, 9, 64, 65, 66] (L' := [(0, .int .i64 a0), (1, .int .i64 a1), (7, pv20), (9, .slice A81 y79.length c82), (64, .slice A2 l2.length c2), (65, .int .i64 (l2.length : Int)), (66, .int .i64 0)]) (w' := w83) (by kernel_rfl) ?_
              refine WR.nil ?_
              refine At.go ?_
              refine WC.block (by kernel_rfl) ?_
              have hS : Sat w83 (rf w0) [optP O55 pv20 r11.1, osl 22 (r0 (.int .u64)) 1 A81 c82 y79] := hS.sel [1, 0] (by kernel_rfl)
              obtain ⟨y84, hr85, H⟩ := bind_ex H
              obtain ⟨b87, hv86, hN555⟩ := optP.some hS hr85
              subst hv86
              have hS : Sat w83 (rf w0) [O55 b87 y84, osl 22 (r0 (.int .u64)) 1 A81 c82 y79] := hN555
              have hS : Sat w83 (rf w0) [osl 22 (r0 (.int .u64)) 1 A81 c82 y79, O55 b87 y84] := hS.sel [1, 0] (by kernel_rfl)
              obtain ⟨o545, e546, H⟩ := bind_ex H
              refine WC.loop (by kernel_rfl) ?_
              refine WL.weaken [0, 1, 7, 9, 64, 65, 66] (L' := [(0, .int .i64 a0), (1, .int .i64 a1), (7, .pointer (some ⟨b87, 0, none⟩)), (9, .slice A81 y79.length c82), (64, .slice A2 l2.length c2), (65, .int .i64 (l2.length : Int)), (66, .int .i64 0)]) (by kernel_rfl) ?_
              refine colophonlaw01_PackPlays.l1_ok w0 a0 a1 A2 c2 l2 b87 R2 o545 (fun o547 w549 ho550 hS => ?_) (fun o551 w553 ho554 hS => ?_) FU y79 0 y84 A81 c82 _ hS e546
              · subst ho550
                dsimp only at H
                refine At.hit ?_
                refine At.go ?_
                refine WC.seq (by kernel_rfl) ?_
                refine WC.reg [0] (by kernel_rfl) (by kernel_rfl) ?_
                refine WR.runk [0] [] [6] (L' := [(6, .bool true)]) (w' := w549) (by kernel_rfl) ?_
                refine WR.nil ?_
                refine At.go ?_
                refine WC.ret (by kernel_rfl) ?_
                obtain rfl := Option.some.inj H
                have hS : Sat w549 (rf w0) [] := hS.sel [] (by kernel_rfl)
                exact At.body [.bool true] (by kernel_rfl) ⟨_, rfl, rfl, hS⟩
              · subst ho554
                dsimp only at H
                refine At.blockRet ?_
                refine At.thenRet ?_
                obtain rfl := Option.some.inj H
                have hS : Sat w553 (rf w0) [] := hS.sel [] (by kernel_rfl)
                exact At.body [.bool o551.1] (by kernel_rfl) ⟨_, rfl, rfl, hS⟩
end Go.Proofs.Ytamlfkfdpgchiaa
