/-
  Printed by gen.py (my own tool): for each Go function a plain Lean function and the proof that a call of it does what that function says.
-/
import Derived.Test.YtmdemfbkdbilpaaGP1c
set_option linter.unusedVariables false
set_option linter.unusedSimpArgs false
set_option maxRecDepth 100000
namespace Go.Proofs.Ytmdemfbkdbilpaa
open Go Go.Gol
/-! ### 5 colophon/colophonlaw16.TallyAll -/
def colophonlaw16_TallyAll.l3 (l0 : List (List Int)) (y69 : List Int) : Nat → (List Int) → Int → Option (List Int)
  | 0, _, _ => none
  | k + 1, x15_l3, x66_l3 => (if decide (x66_l3 < (y69.length : Int)) then ((at? y69 x66_l3).bind fun v75 => ((app? 17592186044416 x15_l3 ([wi ((wi v75) + (l0.length : Int))] : List Int)).bind fun y80 => colophonlaw16_TallyAll.l3 l0 y69 k y80 (wi (x66_l3 + 1)))) else some x15_l3)
def colophonlaw16_TallyAll.l2 (l0 : List (List Int)) (a1 : Int) (r21 : (List Int) × (List Int) × (List Int)) (r46 : (List Int)) (y57 : Int × (Option (Int × (List Int) × (List Int) × Int))) (v63 : List Int) : Nat → Int → Option (Sum Bool Unit)
  | 0, _ => none
  | k + 1, x14_l2 => (if decide (wi (x14_l2 + (wi (1 + (wi (Int.tmod (IntKind.wrap .u64 a1) 5))))) ≤ (v63.length : Int)) then ((sub? v63 x14_l2 (wi (x14_l2 + (wi (1 + (wi (Int.tmod (IntKind.wrap .u64 a1) 5))))))).bind fun y69 => ((colophonlaw16_TallyAll.l3 l0 y69 FU ([] : List Int) 0).bind fun o84 => ((colophonref15_Range.f r46 r21.2.2 o84).bind fun r89 => ((tally_Tally_Docs.f (some y57) r89.1 r89.2).bind fun r98 => ((colophonref16_Unlike.f r21.1 r89.1 r89.2).bind fun r107 => (if (r98 != r107) then some (.inl false) else colophonlaw16_TallyAll.l2 l0 a1 r21 r46 y57 v63 k (wi (x14_l2 + 1)))))))) else some (.inr ()))
def colophonlaw16_TallyAll.l1 (l0 : List (List Int)) (a1 : Int) (r21 : (List Int) × (List Int) × (List Int)) (r46 : (List Int)) (y57 : Int × (Option (Int × (List Int) × (List Int) × Int))) : Nat → Int → Option (Sum Bool Unit)
  | 0, _ => none
  | k + 1, x47_l1 => (if decide (x47_l1 < (l0.length : Int)) then ((at? l0 x47_l1).bind fun v63 => ((colophonlaw16_TallyAll.l2 l0 a1 r21 r46 y57 v63 FU 0).bind fun o117 => (match o117 with | .inl o119 => some (.inl o119) | .inr o123 => colophonlaw16_TallyAll.l1 l0 a1 r21 r46 y57 k (wi (x47_l1 + 1))))) else some (.inr ()))
def colophonlaw16_TallyAll.f (l0 : List (List Int)) (a1 : Int) : Option Bool := (colophonlaw16_first.f.bind fun r1 => (if (!r1) then some false else ((colophonref08_Small.f l0 80 12).bind fun r11 => (if (!r11) then some true else ((colophonlaw16_Parts.f l0).bind fun r21 => ((tally_New.f r21.1 r21.2.1).bind fun r36 => ((colophonref08_Symbols.f l0).bind fun r46 => (r36.1.bind fun y57 => ((colophonlaw16_TallyAll.l1 l0 a1 r21 r46 y57 FU 0).bind fun o127 => (match o127 with | .inl o129 => some o129 | .inr o133 => ((tally_Tally_Docs.f none 0 1).bind fun r137 => (if (r137 == 0) then ((tally_Tally_Doubles.f none 0).bind fun r147 => some (r147 == 0)) else some false))))))))))))
def colophonlaw16_TallyAll.post (w : World) (r : Bool) (v : Value) (w' : World) : Prop := v = (.bool r : Value) ∧ Sat w' (rf w) []
theorem colophonlaw16_TallyAll.l3_ok {Q} (w0 : World) (A0 : Option Addr) (c0 : Nat) (l0 : List (List Int)) (a1 : Int) (r21 : (List Int) × (List Int) × (List Int)) (A30 : Option Addr) (c31 : Nat) (A34 : Option Addr) (c35 : Nat) (r46 : (List Int)) (A55 : Option Addr) (c56 : Nat) (y57 : Int × (Option (Int × (List Int) × (List Int) × Int))) (b60 : Nat) (x47_l1 : Int) (v63 : List Int) (A65 : Option Addr) (c66 : Nat) (x14_l2 : Int) (y69 : List Int) (A71 : Option Addr) (c72 : Nat) (R67 : rdS (r0 (.int .u8)) 1 (hp w0) A65 c66 v63) (T73 : SubT 1 A65 c66 v63 A71 c72 y69) (out : (List Int)) (hn0 : ∀ (A15_q : Option Addr) (c15_q : Nat) (w : World), Sat w (rf w0) [osl 3 (r0 (.int .i64)) 1 A30 c31 r21.1, osl 3 (r0 (.int .i64)) 1 A34 c35 r21.2.2, osl 3 (r0 (.int .i64)) 1 A55 c56 r46, osl 3 (r0 (.int .i64)) 1 A15_q c15_q out, O58 b60 y57] → At Q (.exit 4) 104 [(0, .slice A0 l0.length c0), (5, .slice A30 r21.1.length c31), (7, .slice A34 r21.2.2.length c35), (8, .pointer (some ⟨b60, 0, none⟩)), (10, .slice A55 r46.length c56), (11, .int .i64 (wi (1 + (wi (Int.tmod (IntKind.wrap .u64 a1) 5))))), (13, .slice A65 v63.length c66), (14, .int .i64 x14_l2), (15, .slice A15_q out.length c15_q), (45, .slice A0 l0.length c0), (46, .int .i64 (l0.length : Int)), (47, .int .i64 x47_l1)] w) :
    ∀ (k : Nat) (x15_l3 : List Int) (x66_l3 : Int) (A15_l3 : Option Addr) (c15_l3 : Nat) (w : World), Sat w (rf w0) [osl 3 (r0 (.int .i64)) 1 A30 c31 r21.1, osl 3 (r0 (.int .i64)) 1 A34 c35 r21.2.2, osl 3 (r0 (.int .i64)) 1 A55 c56 r46, osl 3 (r0 (.int .i64)) 1 A15_l3 c15_l3 x15_l3, O58 b60 y57] → colophonlaw16_TallyAll.l3 l0 y69 k x15_l3 x66_l3 = some out → WL Try.prog (cbody (cbody (cr (cl (cr (cbody (cl (cr (cbody (cbody (cr (cr (cbody (cl (cr (cr (cbody (cbody (cr (cl (cr (cr (cr (cr (cr (cr (cr C5))))))))))))))))))))))))))) Q 104 [(0, .slice A0 l0.length c0), (5, .slice A30 r21.1.length c31), (7, .slice A34 r21.2.2.length c35), (8, .pointer (some ⟨b60, 0, none⟩)), (10, .slice A55 r46.length c56), (11, .int .i64 (wi (1 + (wi (Int.tmod (IntKind.wrap .u64 a1) 5))))), (13, .slice A65 v63.length c66), (14, .int .i64 x14_l2), (15, .slice A15_l3 x15_l3.length c15_l3), (45, .slice A0 l0.length c0), (46, .int .i64 (l0.length : Int)), (47, .int .i64 x47_l1), (64, .slice A71 y69.length c72), (65, .int .i64 (y69.length : Int)), (66, .int .i64 x66_l3)] w := by
  intro k
  induction k with
  | zero => intro x15_l3 x66_l3 A15_l3 c15_l3 w hS H; exact absurd (show none = some out from H) (by simp)
  | succ k ih =>
    intro x15_l3 x66_l3 A15_l3 c15_l3 w hS H
    unfold colophonlaw16_TallyAll.l3 at H
    refine WL.round ?_
    refine WC.seq (by kernel_rfl) ?_
    refine WC.reg [0] (by kernel_rfl) (by kernel_rfl) ?_
    refine WR.runk [0] [] [0, 5, 7, 8, 10, 11, 13, 14, 15, 45, 46, 47, 64, 65, 66, 67] (L' := [(0, .slice A0 l0.length c0), (5, .slice A30 r21.1.length c31), (7, .slice A34 r21.2.2.length c35), (8, .pointer (some ⟨b60, 0, none⟩)), (10, .slice A55 r46.length c56), (11, .int .i64 (wi (1 + (wi (Int.tmod (IntKind.wrap .u64 a1) 5))))), (13, .slice A65 v63.length c66), (14, .int .i64 x14_l2), (15, .slice A15_l3 x15_l3.length c15_l3), (45, .slice A0 l0.length c0), (46, .int .i64 (l0.length : Int)), (47, .int .i64 x47_l1), (64, .slice A71 y69.length c72), (65, .int .i64 (y69.length : Int)), (66, .int .i64 x66_l3), (67, .bool (decide (x66_l3 < (y69.length : Int))))]) (w' := w) (by kernel_rfl) ?_
    refine WR.nil ?_
    refine At.go ?_
    refine WC.seq (by kernel_rfl) ?_
    refine WC.cond (by kernel_rfl) (decide (x66_l3 < (y69.length : Int))) (by kernel_rfl) (by kernel_rfl) (fun hb74 => ?_) (fun hb74 => ?_)
    · replace H := ite_t H hb74
      refine WC.skip (by kernel_rfl) ?_
      refine At.go ?_
      refine WC.seq (by kernel_rfl) ?_
      refine WC.block (by kernel_rfl) ?_
      refine WC.seq (by kernel_rfl) ?_
      refine WC.reg [0, 1, 2] (by kernel_rfl) (by kernel_rfl) ?_
      refine WR.runk [] [0, 1, 2] [0, 5, 7, 8, 10, 11, 13, 14, 15, 45, 46, 47, 64, 65, 66] (L' := [(0, .slice A0 l0.length c0), (5, .slice A30 r21.1.length c31), (7, .slice A34 r21.2.2.length c35), (8, .pointer (some ⟨b60, 0, none⟩)), (10, .slice A55 r46.length c56), (11, .int .i64 (wi (1 + (wi (Int.tmod (IntKind.wrap .u64 a1) 5))))), (13, .slice A65 v63.length c66), (14, .int .i64 x14_l2), (15, .slice A15_l3 x15_l3.length c15_l3), (45, .slice A0 l0.length c0), (46, .int .i64 (l0.length : Int)), (47, .int .i64 x47_l1), (64, .slice A71 y69.length c72), (65, .int .i64 (y69.length : Int)), (66, .int .i64 x66_l3)]) (w' := w) (by kernel_rfl) ?_
      obtain ⟨v75, e76, H⟩ := bind_ex H
      refine WR.st (St.ofP (PSt.idx (k := .i64) (.tmp 64) (.tmp 66) (by kernel_rfl) (by kernel_rfl) E34 (by kernel_rfl) (by kernel_rfl) (T73.rd _ _ (rdS.up R67 hS.sub0)) e76 ?_))
      refine WR.runk [] [1, 2] [0, 5, 7, 8, 10, 11, 13, 14, 15, 45, 46, 47, 64, 65, 66, 68] (L' := [(0, .slice A0 l0.length c0), (5, .slice A30 r21.1.length c31), (7, .slice A34 r21.2.2.length c35), (8, .pointer (some ⟨b60, 0, none⟩)), (10, .slice A55 r46.length c56), (11, .int .i64 (wi (1 + (wi (Int.tmod (IntKind.wrap .u64 a1) 5))))), (13, .slice A65 v63.length c66), (14, .int .i64 x14_l2), (15, .slice A15_l3 x15_l3.length c15_l3), (45, .slice A0 l0.length c0), (46, .int .i64 (l0.length : Int)), (47, .int .i64 x47_l1), (64, .slice A71 y69.length c72), (65, .int .i64 (y69.length : Int)), (66, .int .i64 x66_l3), (68, .pointer (some (adr A71 x66_l3.toNat 1)))]) (w' := w) (by kernel_rfl) ?_
      refine WR.st (St.ofR (RSt.loadInt (t := 5) (.tmp 68) (by kernel_rfl) (by kernel_rfl) (by kernel_rfl) (by kernel_rfl) (T73.rd _ _ (rdS.up R67 hS.sub0)) e76 ?_))
      refine WR.runk [2] [] [0, 5, 7, 8, 10, 11, 13, 14, 15, 17, 45, 46, 47, 64, 65, 66] (L' := [(0, .slice A0 l0.length c0), (5, .slice A30 r21.1.length c31), (7, .slice A34 r21.2.2.length c35), (8, .pointer (some ⟨b60, 0, none⟩)), (10, .slice A55 r46.length c56), (11, .int .i64 (wi (1 + (wi (Int.tmod (IntKind.wrap .u64 a1) 5))))), (13, .slice A65 v63.length c66), (14, .int .i64 x14_l2), (15, .slice A15_l3 x15_l3.length c15_l3), (17, .int .u8 v75), (45, .slice A0 l0.length c0), (46, .int .i64 (l0.length : Int)), (47, .int .i64 x47_l1), (64, .slice A71 y69.length c72), (65, .int .i64 (y69.length : Int)), (66, .int .i64 x66_l3)]) (w' := w) (by kernel_rfl) ?_
      refine WR.nil ?_
      refine At.go ?_
      refine WC.reg [0, 1, 2, 3, 4, 5, 6, 7, 8] (by kernel_rfl) (by kernel_rfl) ?_
      refine WR.runk [0, 1, 2, 3, 4, 5] [6, 7, 8] [0, 5, 7, 8, 10, 11, 13, 14, 15, 45, 46, 47, 64, 65, 66, 70, 75] (L' := [(0, .slice A0 l0.length c0), (5, .slice A30 r21.1.length c31), (7, .slice A34 r21.2.2.length c35), (8, .pointer (some ⟨b60, 0, none⟩)), (10, .slice A55 r46.length c56), (11, .int .i64 (wi (1 + (wi (Int.tmod (IntKind.wrap .u64 a1) 5))))), (13, .slice A65 v63.length c66), (14, .int .i64 x14_l2), (15, .slice A15_l3 x15_l3.length c15_l3), (45, .slice A0 l0.length c0), (46, .int .i64 (l0.length : Int)), (47, .int .i64 x47_l1), (64, .slice A71 y69.length c72), (65, .int .i64 (y69.length : Int)), (66, .int .i64 x66_l3), (70, .slice A15_l3 x15_l3.length c15_l3), (75, .int .i64 (wi ((wi v75) + (l0.length : Int))))]) (w' := w) (by kernel_rfl) ?_
      refine WR.st (St.box hS (by kernel_rfl) (.cells #[.int .i64 (wi ((wi v75) + (l0.length : Int)))] 3) (fun b77 => .slice (some ⟨b77, 0, none⟩) 1 1) (fun _ => by kernel_rfl) (fun b77 w78 hS => ?_))
      refine WR.runk [] [7, 8] [0, 5, 7, 8, 10, 11, 13, 14, 15, 45, 46, 47, 64, 65, 66, 70, 76] (L' := [(0, .slice A0 l0.length c0), (5, .slice A30 r21.1.length c31), (7, .slice A34 r21.2.2.length c35), (8, .pointer (some ⟨b60, 0, none⟩)), (10, .slice A55 r46.length c56), (11, .int .i64 (wi (1 + (wi (Int.tmod (IntKind.wrap .u64 a1) 5))))), (13, .slice A65 v63.length c66), (14, .int .i64 x14_l2), (15, .slice A15_l3 x15_l3.length c15_l3), (45, .slice A0 l0.length c0), (46, .int .i64 (l0.length : Int)), (47, .int .i64 x47_l1), (64, .slice A71 y69.length c72), (65, .int .i64 (y69.length : Int)), (66, .int .i64 x66_l3), (70, .slice A15_l3 x15_l3.length c15_l3), (76, .slice (some ⟨b77, 0, none⟩) 1 1)]) (w' := w78) (by kernel_rfl) ?_
      have hS : Sat w78 (rf w0) [osl 3 (r0 (.int .i64)) 1 A15_l3 c15_l3 x15_l3, pts b77 (.cells #[.int .i64 (wi ((wi v75) + (l0.length : Int)))] 3 (0, 0)), osl 3 (r0 (.int .i64)) 1 A30 c31 r21.1, osl 3 (r0 (.int .i64)) 1 A34 c35 r21.2.2, osl 3 (r0 (.int .i64)) 1 A55 c56 r46, O58 b60 y57] := hS.sel [4, 0, 1, 2, 3, 5] (by kernel_rfl)
      obtain ⟨y80, e79, H⟩ := bind_ex H
      refine WR.st (St.append' (.tmp 70) (.tmp 76) (by kernel_rfl) (by kernel_rfl) E22 (r0_one _) hS (by kernel_rfl) (by kernel_rfl) (Sat.ptsAt 1 (r0 (.int .i64)) 1 ([wi ((wi v75) + (l0.length : Int))] : List Int) hS rfl rfl (rdL.cons1 rfl (rdL.nil _ _))) 17592186044416 (by kernel_rfl) (by kernel_rfl) e79 (fun A81 c82 w83 hS => ?_))
      refine WR.runk [8] [] [0, 5, 7, 8, 10, 11, 13, 14, 15, 45, 46, 47, 64, 65, 66] (L' := [(0, .slice A0 l0.length c0), (5, .slice A30 r21.1.length c31), (7, .slice A34 r21.2.2.length c35), (8, .pointer (some ⟨b60, 0, none⟩)), (10, .slice A55 r46.length c56), (11, .int .i64 (wi (1 + (wi (Int.tmod (IntKind.wrap .u64 a1) 5))))), (13, .slice A65 v63.length c66), (14, .int .i64 x14_l2), (15, .slice A81 y80.length c82), (45, .slice A0 l0.length c0), (46, .int .i64 (l0.length : Int)), (47, .int .i64 x47_l1), (64, .slice A71 y69.length c72), (65, .int .i64 (y69.length : Int)), (66, .int .i64 x66_l3)]) (w' := w83) (by kernel_rfl) ?_
      refine WR.nil ?_
      refine At.blockNormal ?_
      refine At.go ?_
      refine WC.reg [0, 1] (by kernel_rfl) (by kernel_rfl) ?_
      refine WR.runk [0, 1] [] [0, 5, 7, 8, 10, 11, 13, 14, 15, 45, 46, 47, 64, 65, 66] (L' := [(0, .slice A0 l0.length c0), (5, .slice A30 r21.1.length c31), (7, .slice A34 r21.2.2.length c35), (8, .pointer (some ⟨b60, 0, none⟩)), (10, .slice A55 r46.length c56), (11, .int .i64 (wi (1 + (wi (Int.tmod (IntKind.wrap .u64 a1) 5))))), (13, .slice A65 v63.length c66), (14, .int .i64 x14_l2), (15, .slice A81 y80.length c82), (45, .slice A0 l0.length c0), (46, .int .i64 (l0.length : Int)), (47, .int .i64 x47_l1), (64, .slice A71 y69.length c72), (65, .int .i64 (y69.length : Int)), (66, .int .i64 (wi (x66_l3 + 1)))]) (w' := w83) (by kernel_rfl) ?_
      refine WR.nil ?_
      have hS : Sat w83 (rf w0) [osl 3 (r0 (.int .i64)) 1 A30 c31 r21.1, osl 3 (r0 (.int .i64)) 1 A34 c35 r21.2.2, osl 3 (r0 (.int .i64)) 1 A55 c56 r46, osl 3 (r0 (.int .i64)) 1 A81 c82 y80, O58 b60 y57] := hS.sel [2, 3, 4, 0, 5] (by kernel_rfl)
      refine At.again ?_
      refine WL.weaken [0, 5, 7, 8, 10, 11, 13, 14, 15, 45, 46, 47, 64, 65, 66] (L' := [(0, .slice A0 l0.length c0), (5, .slice A30 r21.1.length c31), (7, .slice A34 r21.2.2.length c35), (8, .pointer (some ⟨b60, 0, none⟩)), (10, .slice A55 r46.length c56), (11, .int .i64 (wi (1 + (wi (Int.tmod (IntKind.wrap .u64 a1) 5))))), (13, .slice A65 v63.length c66), (14, .int .i64 x14_l2), (15, .slice A81 y80.length c82), (45, .slice A0 l0.length c0), (46, .int .i64 (l0.length : Int)), (47, .int .i64 x47_l1), (64, .slice A71 y69.length c72), (65, .int .i64 (y69.length : Int)), (66, .int .i64 (wi (x66_l3 + 1)))]) (by kernel_rfl) ?_
      exact ih y80 (wi (x66_l3 + 1)) A81 c82 _ hS H
    · replace H := ite_f H hb74
      refine WC.exit (by kernel_rfl) ?_
      refine At.thenExit ?_
      refine At.thenExit ?_
      obtain rfl := Option.some.inj H
      have hS : Sat w (rf w0) [osl 3 (r0 (.int .i64)) 1 A30 c31 r21.1, osl 3 (r0 (.int .i64)) 1 A34 c35 r21.2.2, osl 3 (r0 (.int .i64)) 1 A55 c56 r46, osl 3 (r0 (.int .i64)) 1 A15_l3 c15_l3 x15_l3, O58 b60 y57] := hS.sel [0, 1, 2, 3, 4] (by kernel_rfl)
      refine At.weaken [0, 5, 7, 8, 10, 11, 13, 14, 15, 45, 46, 47] (L' := [(0, .slice A0 l0.length c0), (5, .slice A30 r21.1.length c31), (7, .slice A34 r21.2.2.length c35), (8, .pointer (some ⟨b60, 0, none⟩)), (10, .slice A55 r46.length c56), (11, .int .i64 (wi (1 + (wi (Int.tmod (IntKind.wrap .u64 a1) 5))))), (13, .slice A65 v63.length c66), (14, .int .i64 x14_l2), (15, .slice A15_l3 x15_l3.length c15_l3), (45, .slice A0 l0.length c0), (46, .int .i64 (l0.length : Int)), (47, .int .i64 x47_l1)]) (by kernel_rfl) ?_
      exact hn0 A15_l3 c15_l3 _ hS
theorem colophonlaw16_TallyAll.l2_ok {Q} (w0 : World) (A0 : Option Addr) (c0 : Nat) (l0 : List (List Int)) (a1 : Int) (r21 : (List Int) × (List Int) × (List Int)) (A30 : Option Addr) (c31 : Nat) (A34 : Option Addr) (c35 : Nat) (r46 : (List Int)) (A55 : Option Addr) (c56 : Nat) (y57 : Int × (Option (Int × (List Int) × (List Int) × Int))) (b60 : Nat) (x47_l1 : Int) (v63 : List Int) (A65 : Option Addr) (c66 : Nat) (R67 : rdS (r0 (.int .u8)) 1 (hp w0) A65 c66 v63) (out : Sum Bool Unit) (hn0 : ∀ (o0 : Bool) (w : World), out = (.inl o0) → Sat w (rf w0) [O58 b60 y57] → At Q .ret 104 [(4, .bool o0)] w) (hn1 : ∀ (o1 : Unit) (w : World), out = (.inr o1) → Sat w (rf w0) [osl 3 (r0 (.int .i64)) 1 A30 c31 r21.1, osl 3 (r0 (.int .i64)) 1 A34 c35 r21.2.2, osl 3 (r0 (.int .i64)) 1 A55 c56 r46, O58 b60 y57] → At Q (.exit 2) 104 [(0, .slice A0 l0.length c0), (5, .slice A30 r21.1.length c31), (7, .slice A34 r21.2.2.length c35), (8, .pointer (some ⟨b60, 0, none⟩)), (10, .slice A55 r46.length c56), (11, .int .i64 (wi (1 + (wi (Int.tmod (IntKind.wrap .u64 a1) 5))))), (45, .slice A0 l0.length c0), (46, .int .i64 (l0.length : Int)), (47, .int .i64 x47_l1)] w) :
    ∀ (k : Nat) (x14_l2 : Int) (w : World), Sat w (rf w0) [osl 3 (r0 (.int .i64)) 1 A30 c31 r21.1, osl 3 (r0 (.int .i64)) 1 A34 c35 r21.2.2, osl 3 (r0 (.int .i64)) 1 A55 c56 r46, O58 b60 y57] → colophonlaw16_TallyAll.l2 l0 a1 r21 r46 y57 v63 k x14_l2 = some out → WL Try.prog (cbody (cbody (cr (cr (cbody (cl (cr (cr (cbody (cbody (cr (cl (cr (cr (cr (cr (cr (cr (cr C5))))))))))))))))))) Q 104 [(0, .slice A0 l0.length c0), (5, .slice A30 r21.1.length c31), (7, .slice A34 r21.2.2.length c35), (8, .pointer (some ⟨b60, 0, none⟩)), (10, .slice A55 r46.length c56), (11, .int .i64 (wi (1 + (wi (Int.tmod (IntKind.wrap .u64 a1) 5))))), (13, .slice A65 v63.length c66), (14, .int .i64 x14_l2), (45, .slice A0 l0.length c0), (46, .int .i64 (l0.length : Int)), (47, .int .i64 x47_l1)] w := by
  intro k
  induction k with
  | zero => intro x14_l2 w hS H; exact absurd (show none = some out from H) (by simp)
  | succ k ih =>
    intro x14_l2 w hS H
    unfold colophonlaw16_TallyAll.l2 at H
    refine WL.round ?_
    refine WC.seq (by kernel_rfl) ?_
    refine WC.seq (by kernel_rfl) ?_
    refine WC.reg [0, 1, 2, 3, 4, 5] (by kernel_rfl) (by kernel_rfl) ?_
    refine WR.runk [0, 1, 2, 3, 4, 5] [] [0, 5, 7, 8, 10, 11, 13, 14, 45, 46, 47, 56] (L' := [(0, .slice A0 l0.length c0), (5, .slice A30 r21.1.length c31), (7, .slice A34 r21.2.2.length c35), (8, .pointer (some ⟨b60, 0, none⟩)), (10, .slice A55 r46.length c56), (11, .int .i64 (wi (1 + (wi (Int.tmod (IntKind.wrap .u64 a1) 5))))), (13, .slice A65 v63.length c66), (14, .int .i64 x14_l2), (45, .slice A0 l0.length c0), (46, .int .i64 (l0.length : Int)), (47, .int .i64 x47_l1), (56, .bool (decide (wi (x14_l2 + (wi (1 + (wi (Int.tmod (IntKind.wrap .u64 a1) 5))))) ≤ (v63.length : Int))))]) (w' := w) (by kernel_rfl) ?_
    refine WR.nil ?_
    refine At.go ?_
    refine WC.cond (by kernel_rfl) (decide (wi (x14_l2 + (wi (1 + (wi (Int.tmod (IntKind.wrap .u64 a1) 5))))) ≤ (v63.length : Int))) (by kernel_rfl) (by kernel_rfl) (fun hb68 => ?_) (fun hb68 => ?_)
    · replace H := ite_t H hb68
      refine WC.skip (by kernel_rfl) ?_
      refine At.go ?_
      refine WC.seq (by kernel_rfl) ?_
      refine WC.block (by kernel_rfl) ?_
      refine WC.seq (by kernel_rfl) ?_
      refine WC.reg [0] (by kernel_rfl) (by kernel_rfl) ?_
      refine WR.runk [0] [] [0, 5, 7, 8, 10, 11, 13, 14, 15, 45, 46, 47] (L' := [(0, .slice A0 l0.length c0), (5, .slice A30 r21.1.length c31), (7, .slice A34 r21.2.2.length c35), (8, .pointer (some ⟨b60, 0, none⟩)), (10, .slice A55 r46.length c56), (11, .int .i64 (wi (1 + (wi (Int.tmod (IntKind.wrap .u64 a1) 5))))), (13, .slice A65 v63.length c66), (14, .int .i64 x14_l2), (15, .slice none 0 0), (45, .slice A0 l0.length c0), (46, .int .i64 (l0.length : Int)), (47, .int .i64 x47_l1)]) (w' := w) (by kernel_rfl) ?_
      refine WR.nil ?_
      refine At.go ?_
      refine WC.seq (by kernel_rfl) ?_
      refine WC.seq (by kernel_rfl) ?_
      refine WC.reg [0, 1, 2, 3, 4, 5, 6, 7] (by kernel_rfl) (by kernel_rfl) ?_
      refine WR.runk [0, 1, 2, 3, 4] [5, 6, 7] [0, 5, 7, 8, 10, 11, 13, 14, 15, 45, 46, 47, 59, 60, 63] (L' := [(0, .slice A0 l0.length c0), (5, .slice A30 r21.1.length c31), (7, .slice A34 r21.2.2.length c35), (8, .pointer (some ⟨b60, 0, none⟩)), (10, .slice A55 r46.length c56), (11, .int .i64 (wi (1 + (wi (Int.tmod (IntKind.wrap .u64 a1) 5))))), (13, .slice A65 v63.length c66), (14, .int .i64 x14_l2), (15, .slice none 0 0), (45, .slice A0 l0.length c0), (46, .int .i64 (l0.length : Int)), (47, .int .i64 x47_l1), (59, .slice A65 v63.length c66), (60, .int .i64 x14_l2), (63, .int .i64 (wi (x14_l2 + (wi (1 + (wi (Int.tmod (IntKind.wrap .u64 a1) 5)))))))]) (w' := w) (by kernel_rfl) ?_
      obtain ⟨y69, e70, H⟩ := bind_ex H
      refine WR.st (St.ofP (PSt.sub (A := A65) (c := c66) (.tmp 59) (some (.tmp 60)) (some (.tmp 63)) none (by kernel_rfl) (by kernel_rfl) E34 (by kernel_rfl) (rdS.up R67 hS.sub0).1 e70 (Exists.intro IntKind.i64 (by kernel_rfl)) (Exists.intro IntKind.i64 (by kernel_rfl)) trivial (fun A71 c72 T73 => ?_)))
      refine WR.runk [6, 7] [] [0, 5, 7, 8, 10, 11, 13, 14, 15, 45, 46, 47, 64, 65, 66] (L' := [(0, .slice A0 l0.length c0), (5, .slice A30 r21.1.length c31), (7, .slice A34 r21.2.2.length c35), (8, .pointer (some ⟨b60, 0, none⟩)), (10, .slice A55 r46.length c56), (11, .int .i64 (wi (1 + (wi (Int.tmod (IntKind.wrap .u64 a1) 5))))), (13, .slice A65 v63.length c66), (14, .int .i64 x14_l2), (15, .slice none 0 0), (45, .slice A0 l0.length c0), (46, .int .i64 (l0.length : Int)), (47, .int .i64 x47_l1), (64, .slice A71 y69.length c72), (65, .int .i64 (y69.length : Int)), (66, .int .i64 0)]) (w' := w) (by kernel_rfl) ?_
      refine WR.nil ?_
      refine At.go ?_
      refine WC.block (by kernel_rfl) ?_
      have hS := hS.addNil (α := Int) 3 (r0 (.int .i64)) 1
      have hS : Sat w (rf w0) [osl 3 (r0 (.int .i64)) 1 A30 c31 r21.1, osl 3 (r0 (.int .i64)) 1 A34 c35 r21.2.2, osl 3 (r0 (.int .i64)) 1 A55 c56 r46, osl 3 (r0 (.int .i64)) 1 none 0 ([] : List Int), O58 b60 y57] := hS.sel [1, 2, 3, 0, 4] (by kernel_rfl)
      obtain ⟨o84, e85, H⟩ := bind_ex H
      refine WC.loop (by kernel_rfl) ?_
      refine WL.weaken [0, 5, 7, 8, 10, 11, 13, 14, 15, 45, 46, 47, 64, 65, 66] (L' := [(0, .slice A0 l0.length c0), (5, .slice A30 r21.1.length c31), (7, .slice A34 r21.2.2.length c35), (8, .pointer (some ⟨b60, 0, none⟩)), (10, .slice A55 r46.length c56), (11, .int .i64 (wi (1 + (wi (Int.tmod (IntKind.wrap .u64 a1) 5))))), (13, .slice A65 v63.length c66), (14, .int .i64 x14_l2), (15, .slice none 0 0), (45, .slice A0 l0.length c0), (46, .int .i64 (l0.length : Int)), (47, .int .i64 x47_l1), (64, .slice A71 y69.length c72), (65, .int .i64 (y69.length : Int)), (66, .int .i64 0)]) (by kernel_rfl) ?_
      refine colophonlaw16_TallyAll.l3_ok w0 A0 c0 l0 a1 r21 A30 c31 A34 c35 r46 A55 c56 y57 b60 x47_l1 v63 A65 c66 x14_l2 y69 A71 c72 R67 T73 o84 (fun A15_q86 c15_q86 w87 hS => ?_) FU ([] : List Int) 0 none 0 _ hS e85
      refine At.hit ?_
      refine At.go ?_
      refine WC.seq (by kernel_rfl) ?_
      refine WC.reg [0, 1, 2, 3, 4, 5, 6, 7, 8] (by kernel_rfl) (by kernel_rfl) ?_
      refine WR.runk [0, 1, 2] [3, 4, 5, 6, 7, 8] [0, 5, 7, 8, 10, 11, 13, 14, 45, 46, 47, 80, 81, 82] (L' := [(0, .slice A0 l0.length c0), (5, .slice A30 r21.1.length c31), (7, .slice A34 r21.2.2.length c35), (8, .pointer (some ⟨b60, 0, none⟩)), (10, .slice A55 r46.length c56), (11, .int .i64 (wi (1 + (wi (Int.tmod (IntKind.wrap .u64 a1) 5))))), (13, .slice A65 v63.length c66), (14, .int .i64 x14_l2), (45, .slice A0 l0.length c0), (46, .int .i64 (l0.length : Int)), (47, .int .i64 x47_l1), (80, .slice A55 r46.length c56), (81, .slice A34 r21.2.2.length c35), (82, .slice A15_q86 o84.length c15_q86)]) (w' := w87) (by kernel_rfl) ?_
      obtain ⟨r89, e90, H⟩ := bind_ex H
      refine WR.st (St.call (by kernel_rfl) (f := 14) (args := #[.slice A55 r46.length c56, .slice A34 r21.2.2.length c35, .slice A15_q86 o84.length c15_q86]) (by kernel_rfl) (colophonref15_Range.calls w87 A55 c56 r46 (Sat.rdAt 2 hS rfl) A34 c35 r21.2.2 (Sat.rdAt 1 hS rfl) A15_q86 c15_q86 o84 (Sat.rdAt 3 hS rfl) r89 e90) ?_)
      rintro _ w96 ⟨rfl, hS97⟩
      have hS : Sat w96 (rf w0) [osl 3 (r0 (.int .i64)) 1 A30 c31 r21.1, osl 3 (r0 (.int .i64)) 1 A34 c35 r21.2.2, osl 3 (r0 (.int .i64)) 1 A55 c56 r46, osl 3 (r0 (.int .i64)) 1 A15_q86 c15_q86 o84, O58 b60 y57] := hS.ext hS97
      refine WR.runk [4, 5, 6, 7, 8] [] [0, 5, 7, 8, 10, 11, 13, 14, 18, 19, 45, 46, 47] (L' := [(0, .slice A0 l0.length c0), (5, .slice A30 r21.1.length c31), (7, .slice A34 r21.2.2.length c35), (8, .pointer (some ⟨b60, 0, none⟩)), (10, .slice A55 r46.length c56), (11, .int .i64 (wi (1 + (wi (Int.tmod (IntKind.wrap .u64 a1) 5))))), (13, .slice A65 v63.length c66), (14, .int .i64 x14_l2), (18, .int .i64 r89.1), (19, .int .i64 r89.2), (45, .slice A0 l0.length c0), (46, .int .i64 (l0.length : Int)), (47, .int .i64 x47_l1)]) (w' := w96) (by kernel_rfl) ?_
      refine WR.nil ?_
      refine At.go ?_
      refine WC.seq (by kernel_rfl) ?_
      refine WC.reg [0, 1, 2, 3, 4, 5, 6, 7, 8] (by kernel_rfl) (by kernel_rfl) ?_
      refine WR.runk [0, 1, 2] [3, 4, 5, 6, 7, 8] [0, 5, 7, 8, 10, 11, 13, 14, 18, 19, 45, 46, 47, 86, 87, 88] (L' := [(0, .slice A0 l0.length c0), (5, .slice A30 r21.1.length c31), (7, .slice A34 r21.2.2.length c35), (8, .pointer (some ⟨b60, 0, none⟩)), (10, .slice A55 r46.length c56), (11, .int .i64 (wi (1 + (wi (Int.tmod (IntKind.wrap .u64 a1) 5))))), (13, .slice A65 v63.length c66), (14, .int .i64 x14_l2), (18, .int .i64 r89.1), (19, .int .i64 r89.2), (45, .slice A0 l0.length c0), (46, .int .i64 (l0.length : Int)), (47, .int .i64 x47_l1), (86, .pointer (some ⟨b60, 0, none⟩)), (87, .int .i64 r89.1), (88, .int .i64 r89.2)]) (w' := w96) (by kernel_rfl) ?_
      obtain ⟨r98, e99, H⟩ := bind_ex H
      refine WR.st (St.call (by kernel_rfl) (f := 11) (args := #[.pointer (some ⟨b60, 0, none⟩), .int .i64 r89.1, .int .i64 r89.2]) (by kernel_rfl) (tally_Tally_Docs.calls w96 (.pointer (some ⟨b60, 0, none⟩)) (some y57) (Sat.rdAny 4 hS rfl (fun _ h => O58.rd _ _ _ h)) r89.1 r89.2 r98 e99) ?_)
      rintro _ w105 ⟨rfl, hS106⟩
      have hS : Sat w105 (rf w0) [osl 3 (r0 (.int .i64)) 1 A30 c31 r21.1, osl 3 (r0 (.int .i64)) 1 A34 c35 r21.2.2, osl 3 (r0 (.int .i64)) 1 A55 c56 r46, osl 3 (r0 (.int .i64)) 1 A15_q86 c15_q86 o84, O58 b60 y57] := hS.ext hS106
      refine WR.runk [4, 5, 6] [7, 8] [0, 5, 7, 8, 10, 11, 13, 14, 45, 46, 47, 89, 90, 91, 92] (L' := [(0, .slice A0 l0.length c0), (5, .slice A30 r21.1.length c31), (7, .slice A34 r21.2.2.length c35), (8, .pointer (some ⟨b60, 0, none⟩)), (10, .slice A55 r46.length c56), (11, .int .i64 (wi (1 + (wi (Int.tmod (IntKind.wrap .u64 a1) 5))))), (13, .slice A65 v63.length c66), (14, .int .i64 x14_l2), (45, .slice A0 l0.length c0), (46, .int .i64 (l0.length : Int)), (47, .int .i64 x47_l1), (89, .int .i64 r98), (90, .slice A30 r21.1.length c31), (91, .int .i64 r89.1), (92, .int .i64 r89.2)]) (w' := w105) (by kernel_rfl) ?_
      obtain ⟨r107, e108, H⟩ := bind_ex H
      refine WR.st (St.call (by kernel_rfl) (f := 16) (args := #[.slice A30 r21.1.length c31, .int .i64 r89.1, .int .i64 r89.2]) (by kernel_rfl) (colophonref16_Unlike.calls w105 A30 c31 r21.1 (Sat.rdAt 0 hS rfl) r89.1 r89.2 r107 e108) ?_)
      rintro _ w114 ⟨rfl, hS115⟩
      have hS : Sat w114 (rf w0) [osl 3 (r0 (.int .i64)) 1 A30 c31 r21.1, osl 3 (r0 (.int .i64)) 1 A34 c35 r21.2.2, osl 3 (r0 (.int .i64)) 1 A55 c56 r46, osl 3 (r0 (.int .i64)) 1 A15_q86 c15_q86 o84, O58 b60 y57] := hS.ext hS115
      refine WR.runk [8] [] [0, 5, 7, 8, 10, 11, 13, 14, 45, 46, 47, 94] (L' := [(0, .slice A0 l0.length c0), (5, .slice A30 r21.1.length c31), (7, .slice A34 r21.2.2.length c35), (8, .pointer (some ⟨b60, 0, none⟩)), (10, .slice A55 r46.length c56), (11, .int .i64 (wi (1 + (wi (Int.tmod (IntKind.wrap .u64 a1) 5))))), (13, .slice A65 v63.length c66), (14, .int .i64 x14_l2), (45, .slice A0 l0.length c0), (46, .int .i64 (l0.length : Int)), (47, .int .i64 x47_l1), (94, .bool (r98 != r107))]) (w' := w114) (by kernel_rfl) ?_
      refine WR.nil ?_
      refine At.go ?_
      refine WC.cond (by kernel_rfl) (r98 != r107) (by kernel_rfl) (by kernel_rfl) (fun hb116 => ?_) (fun hb116 => ?_)
      · replace H := ite_t H hb116
        refine WC.seq (by kernel_rfl) ?_
        refine WC.reg [0] (by kernel_rfl) (by kernel_rfl) ?_
        refine WR.runk [0] [] [4] (L' := [(4, .bool false)]) (w' := w114) (by kernel_rfl) ?_
        refine WR.nil ?_
        refine At.go ?_
        refine WC.ret (by kernel_rfl) ?_
        refine At.blockRet ?_
        refine At.thenRet ?_
        refine At.thenRet ?_
        obtain rfl := Option.some.inj H
        have hS : Sat w114 (rf w0) [O58 b60 y57] := hS.sel [4] (by kernel_rfl)
        refine At.weaken [4] (L' := [(4, .bool false)]) (by kernel_rfl) ?_
        exact hn0 false _ rfl hS
      · replace H := ite_f H hb116
        refine WC.skip (by kernel_rfl) ?_
        refine At.blockNormal ?_
        refine At.go ?_
        refine WC.reg [0, 1, 2] (by kernel_rfl) (by kernel_rfl) ?_
        refine WR.runk [0, 1, 2] [] [0, 5, 7, 8, 10, 11, 13, 14, 45, 46, 47] (L' := [(0, .slice A0 l0.length c0), (5, .slice A30 r21.1.length c31), (7, .slice A34 r21.2.2.length c35), (8, .pointer (some ⟨b60, 0, none⟩)), (10, .slice A55 r46.length c56), (11, .int .i64 (wi (1 + (wi (Int.tmod (IntKind.wrap .u64 a1) 5))))), (13, .slice A65 v63.length c66), (14, .int .i64 (wi (x14_l2 + 1))), (45, .slice A0 l0.length c0), (46, .int .i64 (l0.length : Int)), (47, .int .i64 x47_l1)]) (w' := w114) (by kernel_rfl) ?_
        refine WR.nil ?_
        have hS : Sat w114 (rf w0) [osl 3 (r0 (.int .i64)) 1 A30 c31 r21.1, osl 3 (r0 (.int .i64)) 1 A34 c35 r21.2.2, osl 3 (r0 (.int .i64)) 1 A55 c56 r46, O58 b60 y57] := hS.sel [0, 1, 2, 4] (by kernel_rfl)
        refine At.again ?_
        refine WL.weaken [0, 5, 7, 8, 10, 11, 13, 14, 45, 46, 47] (L' := [(0, .slice A0 l0.length c0), (5, .slice A30 r21.1.length c31), (7, .slice A34 r21.2.2.length c35), (8, .pointer (some ⟨b60, 0, none⟩)), (10, .slice A55 r46.length c56), (11, .int .i64 (wi (1 + (wi (Int.tmod (IntKind.wrap .u64 a1) 5))))), (13, .slice A65 v63.length c66), (14, .int .i64 (wi (x14_l2 + 1))), (45, .slice A0 l0.length c0), (46, .int .i64 (l0.length : Int)), (47, .int .i64 x47_l1)]) (by kernel_rfl) ?_
        exact ih (wi (x14_l2 + 1)) _ hS H
    · replace H := ite_f H hb68
      refine WC.exit (by kernel_rfl) ?_
      refine At.thenExit ?_
      refine At.thenExit ?_
      obtain rfl := Option.some.inj H
      have hS : Sat w (rf w0) [osl 3 (r0 (.int .i64)) 1 A30 c31 r21.1, osl 3 (r0 (.int .i64)) 1 A34 c35 r21.2.2, osl 3 (r0 (.int .i64)) 1 A55 c56 r46, O58 b60 y57] := hS.sel [0, 1, 2, 3] (by kernel_rfl)
      refine At.weaken [0, 5, 7, 8, 10, 11, 45, 46, 47] (L' := [(0, .slice A0 l0.length c0), (5, .slice A30 r21.1.length c31), (7, .slice A34 r21.2.2.length c35), (8, .pointer (some ⟨b60, 0, none⟩)), (10, .slice A55 r46.length c56), (11, .int .i64 (wi (1 + (wi (Int.tmod (IntKind.wrap .u64 a1) 5))))), (45, .slice A0 l0.length c0), (46, .int .i64 (l0.length : Int)), (47, .int .i64 x47_l1)]) (by kernel_rfl) ?_
      exact hn1 () _ rfl hS
theorem colophonlaw16_TallyAll.l1_ok {Q} (w0 : World) (A0 : Option Addr) (c0 : Nat) (l0 : List (List Int)) (a1 : Int) (r21 : (List Int) × (List Int) × (List Int)) (A30 : Option Addr) (c31 : Nat) (A34 : Option Addr) (c35 : Nat) (r46 : (List Int)) (A55 : Option Addr) (c56 : Nat) (y57 : Int × (Option (Int × (List Int) × (List Int) × Int))) (b60 : Nat) (R0 : rdS (rd (hp w0) (.slice 5 (.int .u8))) 1 (hp w0) A0 c0 l0) (out : Sum Bool Unit) (hn0 : ∀ (o0 : Bool) (w : World), out = (.inl o0) → Sat w (rf w0) [O58 b60 y57] → At Q .ret 104 [(4, .bool o0)] w) (hn1 : ∀ (o1 : Unit) (w : World), out = (.inr o1) → Sat w (rf w0) [O58 b60 y57] → At Q (.exit 0) 104 [] w) :
    ∀ (k : Nat) (x47_l1 : Int) (w : World), Sat w (rf w0) [osl 3 (r0 (.int .i64)) 1 A30 c31 r21.1, osl 3 (r0 (.int .i64)) 1 A34 c35 r21.2.2, osl 3 (r0 (.int .i64)) 1 A55 c56 r46, O58 b60 y57] → colophonlaw16_TallyAll.l1 l0 a1 r21 r46 y57 k x47_l1 = some out → WL Try.prog (cbody (cbody (cr (cl (cr (cr (cr (cr (cr (cr (cr C5))))))))))) Q 104 [(0, .slice A0 l0.length c0), (5, .slice A30 r21.1.length c31), (7, .slice A34 r21.2.2.length c35), (8, .pointer (some ⟨b60, 0, none⟩)), (10, .slice A55 r46.length c56), (11, .int .i64 (wi (1 + (wi (Int.tmod (IntKind.wrap .u64 a1) 5))))), (45, .slice A0 l0.length c0), (46, .int .i64 (l0.length : Int)), (47, .int .i64 x47_l1)] w := by
  intro k
  induction k with
  | zero => intro x47_l1 w hS H; exact absurd (show none = some out from H) (by simp)
  | succ k ih =>
    intro x47_l1 w hS H
    unfold colophonlaw16_TallyAll.l1 at H
    refine WL.round ?_
    refine WC.seq (by kernel_rfl) ?_
    refine WC.reg [0] (by kernel_rfl) (by kernel_rfl) ?_
    refine WR.runk [0] [] [0, 5, 7, 8, 10, 11, 45, 46, 47, 48] (L' := [(0, .slice A0 l0.length c0), (5, .slice A30 r21.1.length c31), (7, .slice A34 r21.2.2.length c35), (8, .pointer (some ⟨b60, 0, none⟩)), (10, .slice A55 r46.length c56), (11, .int .i64 (wi (1 + (wi (Int.tmod (IntKind.wrap .u64 a1) 5))))), (45, .slice A0 l0.length c0), (46, .int .i64 (l0.length : Int)), (47, .int .i64 x47_l1), (48, .bool (decide (x47_l1 < (l0.length : Int))))]) (w' := w) (by kernel_rfl) ?_
    refine WR.nil ?_
    refine At.go ?_
    refine WC.seq (by kernel_rfl) ?_
    refine WC.cond (by kernel_rfl) (decide (x47_l1 < (l0.length : Int))) (by kernel_rfl) (by kernel_rfl) (fun hb62 => ?_) (fun hb62 => ?_)
    · replace H := ite_t H hb62
      refine WC.skip (by kernel_rfl) ?_
      refine At.go ?_
      refine WC.seq (by kernel_rfl) ?_
      refine WC.block (by kernel_rfl) ?_
      refine WC.seq (by kernel_rfl) ?_
      refine WC.reg [0, 1, 2] (by kernel_rfl) (by kernel_rfl) ?_
      refine WR.runk [] [0, 1, 2] [0, 5, 7, 8, 10, 11, 45, 46, 47] (L' := [(0, .slice A0 l0.length c0), (5, .slice A30 r21.1.length c31), (7, .slice A34 r21.2.2.length c35), (8, .pointer (some ⟨b60, 0, none⟩)), (10, .slice A55 r46.length c56), (11, .int .i64 (wi (1 + (wi (Int.tmod (IntKind.wrap .u64 a1) 5))))), (45, .slice A0 l0.length c0), (46, .int .i64 (l0.length : Int)), (47, .int .i64 x47_l1)]) (w' := w) (by kernel_rfl) ?_
      obtain ⟨v63, e64, H⟩ := bind_ex H
      refine WR.st (St.ofP (PSt.idx (k := .i64) (.tmp 45) (.tmp 47) (by kernel_rfl) (by kernel_rfl) E33 (by kernel_rfl) (by kernel_rfl) (rdS.up R0 hS.sub0) e64 ?_))
      refine WR.runk [] [1, 2] [0, 5, 7, 8, 10, 11, 45, 46, 47, 49] (L' := [(0, .slice A0 l0.length c0), (5, .slice A30 r21.1.length c31), (7, .slice A34 r21.2.2.length c35), (8, .pointer (some ⟨b60, 0, none⟩)), (10, .slice A55 r46.length c56), (11, .int .i64 (wi (1 + (wi (Int.tmod (IntKind.wrap .u64 a1) 5))))), (45, .slice A0 l0.length c0), (46, .int .i64 (l0.length : Int)), (47, .int .i64 x47_l1), (49, .pointer (some (adr A0 x47_l1.toNat 1)))]) (w' := w) (by kernel_rfl) ?_
      refine WR.st (St.ofR (RSt.loadSl (t := 34) (.tmp 49) (by kernel_rfl) (by kernel_rfl) (by kernel_rfl) (by kernel_rfl) R0 e64 hS.sub0 (fun A65 c66 R67 => ?_)))
      replace R67 : rdS (r0 (.int .u8)) 1 (hp w0) A65 c66 v63 := R67
      refine WR.runk [2] [] [0, 5, 7, 8, 10, 11, 13, 45, 46, 47] (L' := [(0, .slice A0 l0.length c0), (5, .slice A30 r21.1.length c31), (7, .slice A34 r21.2.2.length c35), (8, .pointer (some ⟨b60, 0, none⟩)), (10, .slice A55 r46.length c56), (11, .int .i64 (wi (1 + (wi (Int.tmod (IntKind.wrap .u64 a1) 5))))), (13, .slice A65 v63.length c66), (45, .slice A0 l0.length c0), (46, .int .i64 (l0.length : Int)), (47, .int .i64 x47_l1)]) (w' := w) (by kernel_rfl) ?_
      refine WR.nil ?_
      refine At.go ?_
      refine WC.seq (by kernel_rfl) ?_
      refine WC.reg [0] (by kernel_rfl) (by kernel_rfl) ?_
      refine WR.runk [0] [] [0, 5, 7, 8, 10, 11, 13, 14, 45, 46, 47] (L' := [(0, .slice A0 l0.length c0), (5, .slice A30 r21.1.length c31), (7, .slice A34 r21.2.2.length c35), (8, .pointer (some ⟨b60, 0, none⟩)), (10, .slice A55 r46.length c56), (11, .int .i64 (wi (1 + (wi (Int.tmod (IntKind.wrap .u64 a1) 5))))), (13, .slice A65 v63.length c66), (14, .int .i64 0), (45, .slice A0 l0.length c0), (46, .int .i64 (l0.length : Int)), (47, .int .i64 x47_l1)]) (w' := w) (by kernel_rfl) ?_
      refine WR.nil ?_
      refine At.go ?_
      refine WC.block (by kernel_rfl) ?_
      have hS : Sat w (rf w0) [osl 3 (r0 (.int .i64)) 1 A30 c31 r21.1, osl 3 (r0 (.int .i64)) 1 A34 c35 r21.2.2, osl 3 (r0 (.int .i64)) 1 A55 c56 r46, O58 b60 y57] := hS.sel [0, 1, 2, 3] (by kernel_rfl)
      obtain ⟨o117, e118, H⟩ := bind_ex H
      refine WC.loop (by kernel_rfl) ?_
      refine WL.weaken [0, 5, 7, 8, 10, 11, 13, 14, 45, 46, 47] (L' := [(0, .slice A0 l0.length c0), (5, .slice A30 r21.1.length c31), (7, .slice A34 r21.2.2.length c35), (8, .pointer (some ⟨b60, 0, none⟩)), (10, .slice A55 r46.length c56), (11, .int .i64 (wi (1 + (wi (Int.tmod (IntKind.wrap .u64 a1) 5))))), (13, .slice A65 v63.length c66), (14, .int .i64 0), (45, .slice A0 l0.length c0), (46, .int .i64 (l0.length : Int)), (47, .int .i64 x47_l1)]) (by kernel_rfl) ?_
      refine colophonlaw16_TallyAll.l2_ok w0 A0 c0 l0 a1 r21 A30 c31 A34 c35 r46 A55 c56 y57 b60 x47_l1 v63 A65 c66 R67 o117 (fun o119 w121 ho122 hS => ?_) (fun o123 w125 ho126 hS => ?_) FU 0 _ hS e118
      · subst ho122
        dsimp only at H
        refine At.blockRet ?_
        refine At.blockRet ?_
        refine At.thenRet ?_
        refine At.thenRet ?_
        obtain rfl := Option.some.inj H
        have hS : Sat w121 (rf w0) [O58 b60 y57] := hS.sel [0] (by kernel_rfl)
        refine At.weaken [4] (L' := [(4, .bool o119)]) (by kernel_rfl) ?_
        exact hn0 o119 _ rfl hS
      · subst ho126
        dsimp only at H
        refine At.hit ?_
        refine At.blockNormal ?_
        refine At.go ?_
        refine WC.reg [0, 1] (by kernel_rfl) (by kernel_rfl) ?_
        refine WR.runk [0, 1] [] [0, 5, 7, 8, 10, 11, 45, 46, 47] (L' := [(0, .slice A0 l0.length c0), (5, .slice A30 r21.1.length c31), (7, .slice A34 r21.2.2.length c35), (8, .pointer (some ⟨b60, 0, none⟩)), (10, .slice A55 r46.length c56), (11, .int .i64 (wi (1 + (wi (Int.tmod (IntKind.wrap .u64 a1) 5))))), (45, .slice A0 l0.length c0), (46, .int .i64 (l0.length : Int)), (47, .int .i64 (wi (x47_l1 + 1)))]) (w' := w125) (by kernel_rfl) ?_
        refine WR.nil ?_
        have hS : Sat w125 (rf w0) [osl 3 (r0 (.int .i64)) 1 A30 c31 r21.1, osl 3 (r0 (.int .i64)) 1 A34 c35 r21.2.2, osl 3 (r0 (.int .i64)) 1 A55 c56 r46, O58 b60 y57] := hS.sel [0, 1, 2, 3] (by kernel_rfl)
        refine At.again ?_
        refine WL.weaken [0, 5, 7, 8, 10, 11, 45, 46, 47] (L' := [(0, .slice A0 l0.length c0), (5, .slice A30 r21.1.length c31), (7, .slice A34 r21.2.2.length c35), (8, .pointer (some ⟨b60, 0, none⟩)), (10, .slice A55 r46.length c56), (11, .int .i64 (wi (1 + (wi (Int.tmod (IntKind.wrap .u64 a1) 5))))), (45, .slice A0 l0.length c0), (46, .int .i64 (l0.length : Int)), (47, .int .i64 (wi (x47_l1 + 1)))]) (by kernel_rfl) ?_
        exact ih (wi (x47_l1 + 1)) _ hS H
    · replace H := ite_f H hb62
      refine WC.exit (by kernel_rfl) ?_
      refine At.thenExit ?_
      refine At.thenExit ?_
      obtain rfl := Option.some.inj H
      have hS : Sat w (rf w0) [O58 b60 y57] := hS.sel [3] (by kernel_rfl)
      refine At.weaken [] (L' := []) (by kernel_rfl) ?_
      exact hn1 () _ rfl hS
theorem colophonlaw16_TallyAll.calls (w0 : World) (A0 : Option Addr) (c0 : Nat) (l0 : List (List Int)) (R0 : rdS (rd (hp w0) (.slice 5 (.int .u8))) 1 (hp w0) A0 c0 l0) (a1 : Int) (r : Bool) (H : colophonlaw16_TallyAll.f l0 a1 = some r) :
    Calls Try.prog 5 #[.slice A0 l0.length c0, .int .i64 a1] w0 (fun e w' => ∃ v, e = .returned v ∧ colophonlaw16_TallyAll.post w0 r v w') := by
  have hS : Sat w0 (rf w0) [] := Sat.start w0
  unfold colophonlaw16_TallyAll.f at H
  refine calls_of_WC (vs := [.slice A0 l0.length c0, .int .i64 a1]) Try.func5 (c := C5) (n := 104) (by kernel_rfl) (by kernel_rfl) (by kernel_rfl) ?_
  refine WC.seq (by kernel_rfl) ?_
  refine WC.reg [0] (by kernel_rfl) (by kernel_rfl) ?_
  refine WR.runk [0] [] [0, 1] (L' := [(0, .slice A0 l0.length c0), (1, .int .i64 a1)]) (w' := w0) (by kernel_rfl) ?_
  refine WR.nil ?_
  refine At.go ?_
  refine WC.seq (by kernel_rfl) ?_
  refine WC.seq (by kernel_rfl) ?_
  refine WC.reg [0, 1] (by kernel_rfl) (by kernel_rfl) ?_
  obtain ⟨r1, e2, H⟩ := bind_ex H
  refine WR.st (St.call (by kernel_rfl) (f := 7) (args := #[]) (by kernel_rfl) (colophonlaw16_first.calls w0  r1 e2) ?_)
  rintro _ w8 ⟨rfl, hS9⟩
  have hS : Sat w8 (rf w0) [] := hS.ext hS9
  refine WR.runk [1] [] [0, 1, 22] (L' := [(0, .slice A0 l0.length c0), (1, .int .i64 a1), (22, .bool (!r1))]) (w' := w8) (by kernel_rfl) ?_
  refine WR.nil ?_
  refine At.go ?_
  refine WC.cond (by kernel_rfl) (!r1) (by kernel_rfl) (by kernel_rfl) (fun hb10 => ?_) (fun hb10 => ?_)
  · replace H := ite_t H hb10
    refine WC.seq (by kernel_rfl) ?_
    refine WC.reg [0] (by kernel_rfl) (by kernel_rfl) ?_
    refine WR.runk [0] [] [4] (L' := [(4, .bool false)]) (w' := w8) (by kernel_rfl) ?_
    refine WR.nil ?_
    refine At.go ?_
    refine WC.ret (by kernel_rfl) ?_
    refine At.thenRet ?_
    obtain rfl := Option.some.inj H
    have hS : Sat w8 (rf w0) [] := hS.sel [] (by kernel_rfl)
    exact At.body [.bool false] (by kernel_rfl) ⟨_, rfl, rfl, hS⟩
  · replace H := ite_f H hb10
    refine WC.skip (by kernel_rfl) ?_
    refine At.go ?_
    refine WC.seq (by kernel_rfl) ?_
    refine WC.seq (by kernel_rfl) ?_
    refine WC.reg [0, 1, 2] (by kernel_rfl) (by kernel_rfl) ?_
    refine WR.runk [0] [1, 2] [0, 1, 23] (L' := [(0, .slice A0 l0.length c0), (1, .int .i64 a1), (23, .slice A0 l0.length c0)]) (w' := w8) (by kernel_rfl) ?_
    obtain ⟨r11, e12, H⟩ := bind_ex H
    refine WR.st (St.call (by kernel_rfl) (f := 12) (args := #[.slice A0 l0.length c0, .int .i64 80, .int .i64 12]) (by kernel_rfl) (colophonref08_Small.calls w8 A0 c0 l0 (rdS.upd R0 hS.sub0) 80 12 r11 e12) ?_)
    rintro _ w18 ⟨rfl, hS19⟩
    have hS : Sat w18 (rf w0) [] := hS.ext hS19
    refine WR.runk [2] [] [0, 1, 25] (L' := [(0, .slice A0 l0.length c0), (1, .int .i64 a1), (25, .bool (!r11))]) (w' := w18) (by kernel_rfl) ?_
    refine WR.nil ?_
    refine At.go ?_
    refine WC.cond (by kernel_rfl) (!r11) (by kernel_rfl) (by kernel_rfl) (fun hb20 => ?_) (fun hb20 => ?_)
    · replace H := ite_t H hb20
      refine WC.seq (by kernel_rfl) ?_
      refine WC.reg [0] (by kernel_rfl) (by kernel_rfl) ?_
      refine WR.runk [0] [] [4] (L' := [(4, .bool true)]) (w' := w18) (by kernel_rfl) ?_
      refine WR.nil ?_
      refine At.go ?_
      refine WC.ret (by kernel_rfl) ?_
      refine At.thenRet ?_
      obtain rfl := Option.some.inj H
      have hS : Sat w18 (rf w0) [] := hS.sel [] (by kernel_rfl)
      exact At.body [.bool true] (by kernel_rfl) ⟨_, rfl, rfl, hS⟩
    · replace H := ite_f H hb20
      refine WC.skip (by kernel_rfl) ?_
      refine At.go ?_
      refine WC.seq (by kernel_rfl) ?_
      refine WC.reg [0, 1, 2, 3, 4, 5, 6, 7, 8] (by kernel_rfl) (by kernel_rfl) ?_
      refine WR.runk [0] [1, 2, 3, 4, 5, 6, 7, 8] [0, 1, 27] (L' := [(0, .slice A0 l0.length c0), (1, .int .i64 a1), (27, .slice A0 l0.length c0)]) (w' := w18) (by kernel_rfl) ?_
      obtain ⟨r21, e22, H⟩ := bind_ex H
      refine WR.st (St.call (by kernel_rfl) (f := 13) (args := #[.slice A0 l0.length c0]) (by kernel_rfl) (colophonlaw16_Parts.calls w18 A0 c0 l0 (rdS.upd R0 hS.sub0) r21 e22) ?_)
      rintro _ w28 ⟨A30, c31, A32, c33, A34, c35, rfl, hS29⟩
      have hS : Sat w28 (rf w0) [osl 3 (r0 (.int .i64)) 1 A30 c31 r21.1, osl 3 (r0 (.int .i64)) 1 A32 c33 r21.2.1, osl 3 (r0 (.int .i64)) 1 A34 c35 r21.2.2] := hS.ext hS29
      refine WR.runk [2, 3, 4, 5, 6, 7, 8] [] [0, 1, 5, 6, 7] (L' := [(0, .slice A0 l0.length c0), (1, .int .i64 a1), (5, .slice A30 r21.1.length c31), (6, .slice A32 r21.2.1.length c33), (7, .slice A34 r21.2.2.length c35)]) (w' := w28) (by kernel_rfl) ?_
      refine WR.nil ?_
      refine At.go ?_
      refine WC.seq (by kernel_rfl) ?_
      refine WC.reg [0, 1, 2, 3, 4, 5, 6, 7] (by kernel_rfl) (by kernel_rfl) ?_
      refine WR.runk [0, 1] [2, 3, 4, 5, 6, 7] [0, 1, 5, 7, 33, 34] (L' := [(0, .slice A0 l0.length c0), (1, .int .i64 a1), (5, .slice A30 r21.1.length c31), (7, .slice A34 r21.2.2.length c35), (33, .slice A30 r21.1.length c31), (34, .slice A32 r21.2.1.length c33)]) (w' := w28) (by kernel_rfl) ?_
      obtain ⟨r36, e37, H⟩ := bind_ex H
      refine WR.st (St.call (by kernel_rfl) (f := 8) (args := #[.slice A30 r21.1.length c31, .slice A32 r21.2.1.length c33]) (by kernel_rfl) (tally_New.calls w28 A30 c31 r21.1 (Sat.rdAt 0 hS rfl) A32 c33 r21.2.1 (Sat.rdAt 1 hS rfl) r36 e37) ?_)
      rintro _ w43 ⟨pv45, rfl, hS44⟩
      have hS : Sat w43 (rf w0) [optP O58 pv45 r36.1, osl 3 (r0 (.int .i64)) 1 A30 c31 r21.1, osl 3 (r0 (.int .i64)) 1 A32 c33 r21.2.1, osl 3 (r0 (.int .i64)) 1 A34 c35 r21.2.2] := hS.ext hS44
      refine WR.runk [3, 4, 5, 6, 7] [] [0, 1, 5, 7, 8] (L' := [(0, .slice A0 l0.length c0), (1, .int .i64 a1), (5, .slice A30 r21.1.length c31), (7, .slice A34 r21.2.2.length c35), (8, pv45)]) (w' := w43) (by kernel_rfl) ?_
      refine WR.nil ?_
      refine At.go ?_
      refine WC.seq (by kernel_rfl) ?_
      refine WC.reg [0, 1, 2] (by kernel_rfl) (by kernel_rfl) ?_
      refine WR.runk [0] [1, 2] [0, 1, 5, 7, 8, 38] (L' := [(0, .slice A0 l0.length c0), (1, .int .i64 a1), (5, .slice A30 r21.1.length c31), (7, .slice A34 r21.2.2.length c35), (8, pv45), (38, .slice A0 l0.length c0)]) (w' := w43) (by kernel_rfl) ?_
      obtain ⟨r46, e47, H⟩ := bind_ex H
      refine WR.st (St.call (by kernel_rfl) (f := 15) (args := #[.slice A0 l0.length c0]) (by kernel_rfl) (colophonref08_Symbols.calls w43 A0 c0 l0 (rdS.upd R0 hS.sub0) r46 e47) ?_)
      rintro _ w53 ⟨A55, c56, rfl, hS54⟩
      have hS : Sat w53 (rf w0) [osl 3 (r0 (.int .i64)) 1 A55 c56 r46, optP O58 pv45 r36.1, osl 3 (r0 (.int .i64)) 1 A30 c31 r21.1, osl 3 (r0 (.int .i64)) 1 A32 c33 r21.2.1, osl 3 (r0 (.int .i64)) 1 A34 c35 r21.2.2] := hS.ext hS54
      refine WR.runk [2] [] [0, 1, 5, 7, 8, 10] (L' := [(0, .slice A0 l0.length c0), (1, .int .i64 a1), (5, .slice A30 r21.1.length c31), (7, .slice A34 r21.2.2.length c35), (8, pv45), (10, .slice A55 r46.length c56)]) (w' := w53) (by kernel_rfl) ?_
      refine WR.nil ?_
      refine At.go ?_
      refine WC.seq (by kernel_rfl) ?_
      refine WC.reg [0, 1, 2, 3, 4, 5] (by kernel_rfl) (by kernel_rfl) ?_
      refine WR.runk [0, 1, 2, 3, 4, 5] [] [0, 5, 7, 8, 10, 11] (L' := [(0, .slice A0 l0.length c0), (5, .slice A30 r21.1.length c31), (7, .slice A34 r21.2.2.length c35), (8, pv45), (10, .slice A55 r46.length c56), (11, .int .i64 (wi (1 + (wi (Int.tmod (IntKind.wrap .u64 a1) 5)))))]) (w' := w53) (by kernel_rfl) ?_
      refine WR.nil ?_
      refine At.go ?_
      refine WC.seq (by kernel_rfl) ?_
      refine WC.seq (by kernel_rfl) ?_
      refine WC.reg [0, 1, 2] (by kernel_rfl) (by kernel_rfl) ?_
      refine WR.runk [0, 1, 2] [] [0, 5, 7, 8, 10, 11, 45, 46, 47] (L' := [(0, .slice A0 l0.length c0), (5, .slice A30 r21.1.length c31), (7, .slice A34 r21.2.2.length c35), (8, pv45), (10, .slice A55 r46.length c56), (11, .int .i64 (wi (1 + (wi (Int.tmod (IntKind.wrap .u64 a1) 5))))), (45, .slice A0 l0.length c0), (46, .int .i64 (l0.length : Int)), (47, .int .i64 0)]) (w' := w53) (by kernel_rfl) ?_
      refine WR.nil ?_
      refine At.go ?_
      refine WC.block (by kernel_rfl) ?_
      have hS : Sat w53 (rf w0) [optP O58 pv45 r36.1, osl 3 (r0 (.int .i64)) 1 A55 c56 r46, osl 3 (r0 (.int .i64)) 1 A30 c31 r21.1, osl 3 (r0 (.int .i64)) 1 A32 c33 r21.2.1, osl 3 (r0 (.int .i64)) 1 A34 c35 r21.2.2] := hS.sel [1, 0, 2, 3, 4] (by kernel_rfl)
      obtain ⟨y57, hr58, H⟩ := bind_ex H
      obtain ⟨b60, hv59, hN156⟩ := optP.some hS hr58
      subst hv59
      have hS : Sat w53 (rf w0) [O58 b60 y57, osl 3 (r0 (.int .i64)) 1 A55 c56 r46, osl 3 (r0 (.int .i64)) 1 A30 c31 r21.1, osl 3 (r0 (.int .i64)) 1 A32 c33 r21.2.1, osl 3 (r0 (.int .i64)) 1 A34 c35 r21.2.2] := hN156
      have hS : Sat w53 (rf w0) [osl 3 (r0 (.int .i64)) 1 A30 c31 r21.1, osl 3 (r0 (.int .i64)) 1 A34 c35 r21.2.2, osl 3 (r0 (.int .i64)) 1 A55 c56 r46, O58 b60 y57] := hS.sel [2, 4, 1, 0] (by kernel_rfl)
      obtain ⟨o127, e128, H⟩ := bind_ex H
      refine WC.loop (by kernel_rfl) ?_
      refine WL.weaken [0, 5, 7, 8, 10, 11, 45, 46, 47] (L' := [(0, .slice A0 l0.length c0), (5, .slice A30 r21.1.length c31), (7, .slice A34 r21.2.2.length c35), (8, .pointer (some ⟨b60, 0, none⟩)), (10, .slice A55 r46.length c56), (11, .int .i64 (wi (1 + (wi (Int.tmod (IntKind.wrap .u64 a1) 5))))), (45, .slice A0 l0.length c0), (46, .int .i64 (l0.length : Int)), (47, .int .i64 0)]) (by kernel_rfl) ?_
      refine colophonlaw16_TallyAll.l1_ok w0 A0 c0 l0 a1 r21 A30 c31 A34 c35 r46 A55 c56 y57 b60 R0 o127 (fun o129 w131 ho132 hS => ?_) (fun o133 w135 ho136 hS => ?_) FU 0 _ hS e128
      · subst ho132
        dsimp only at H
        refine At.blockRet ?_
        refine At.thenRet ?_
        obtain rfl := Option.some.inj H
        have hS : Sat w131 (rf w0) [] := hS.sel [] (by kernel_rfl)
        exact At.body [.bool o129] (by kernel_rfl) ⟨_, rfl, rfl, hS⟩
      · subst ho136
        dsimp only at H
        refine At.hit ?_
        refine At.go ?_
        refine WC.seq (by kernel_rfl) ?_
        refine WC.reg [0] (by kernel_rfl) (by kernel_rfl) ?_
        refine WR.runk [0] [] [20] (L' := [(20, .pointer none)]) (w' := w135) (by kernel_rfl) ?_
        refine WR.nil ?_
        refine At.go ?_
        refine WC.seq (by kernel_rfl) ?_
        refine WC.reg [0, 1, 2, 3, 4, 5, 6, 7, 8] (by kernel_rfl) (by kernel_rfl) ?_
        refine WR.runk [0] [1, 2, 3, 4, 5, 6, 7, 8] [20, 96] (L' := [(20, .pointer none), (96, .pointer none)]) (w' := w135) (by kernel_rfl) ?_
        obtain ⟨r137, e138, H⟩ := bind_ex H
        refine WR.st (St.call (by kernel_rfl) (f := 11) (args := #[.pointer none, .int .i64 0, .int .i64 1]) (by kernel_rfl) (tally_Tally_Docs.calls w135 (.pointer none) none rfl 0 1 r137 e138) ?_)
        rintro _ w144 ⟨rfl, hS145⟩
        have hS : Sat w144 (rf w0) [O58 b60 y57] := hS.ext hS145
        refine WR.runk [2, 3] [4, 5, 6, 7, 8] [20, 99] (L' := [(20, .pointer none), (99, .bool (r137 == 0))]) (w' := w144) (by kernel_rfl) ?_
        refine WR.split 99 (b := (r137 == 0)) (by kernel_rfl) (fun hb146 => ?_) (fun hb146 => ?_)
        · replace H := ite_t H hb146
          refine WR.runk [4] [5, 6, 7, 8] [99, 100] (L' := [(99, .bool true), (100, .pointer none)]) (w' := w144) (by kernel_rfl) ?_
          obtain ⟨r147, e148, H⟩ := bind_ex H
          refine WR.st (St.call (by kernel_rfl) (f := 10) (args := #[.pointer none, .int .i64 0]) (by kernel_rfl) (tally_Tally_Doubles.calls w144 (.pointer none) none rfl 0 r147 e148) ?_)
          rintro _ w154 ⟨rfl, hS155⟩
          have hS : Sat w154 (rf w0) [O58 b60 y57] := hS.ext hS155
          refine WR.runk [6, 7, 8] [] [4] (L' := [(4, .bool (r147 == 0))]) (w' := w154) (by kernel_rfl) ?_
          refine WR.nil ?_
          refine At.go ?_
          refine WC.ret (by kernel_rfl) ?_
          obtain rfl := Option.some.inj H
          have hS : Sat w154 (rf w0) [] := hS.sel [] (by kernel_rfl)
          exact At.body [.bool (r147 == 0)] (by kernel_rfl) ⟨_, rfl, rfl, hS⟩
        · replace H := ite_f H hb146
          refine WR.runk [4, 5, 6, 7, 8] [] [4] (L' := [(4, .bool false)]) (w' := w144) (by kernel_rfl) ?_
          refine WR.nil ?_
          refine At.go ?_
          refine WC.ret (by kernel_rfl) ?_
          obtain rfl := Option.some.inj H
          have hS : Sat w144 (rf w0) [] := hS.sel [] (by kernel_rfl)
          exact At.body [.bool false] (by kernel_rfl) ⟨_, rfl, rfl, hS⟩
end Go.Proofs.Ytmdemfbkdbilpaa
