/-
  Printed by gen.py (my own tool): for each Go function a plain Lean function and the proof that a call of it does what that function says.
-/
import Derived.Test.YtnffhpnlehcoiaaGP1c
import Derived.Test.YtnffhpnlehcoiaaGN
set_option linter.unusedVariables false
set_option linter.unusedSimpArgs false
set_option maxRecDepth 100000
namespace Go.Proofs.Ytnffhpnlehcoiaa
open Go Go.Gol
/-! ### 6 colophon/colophonlaw23.FairTurns -/
def colophonlaw23_FairTurns.l1 (l1 : List Int) : Nat → (List Int) → Int → Int → Option ((List Int) × Int)
  | 0, _, _, _ => none
  | k + 1, x7_l1, x8_l1, x30_l1 => (if decide (x30_l1 < (l1.length : Int)) then (if decide (x30_l1 < 6) then ((app? 17592186044416 x7_l1 ([wi (1 + x30_l1)] : List Int)).bind fun y16 => ((at? l1 x30_l1).bind fun v20 => colophonlaw23_FairTurns.l1 l1 k y16 (wi (x8_l1 + (wi (Int.tmod v20 5)))) (wi (x30_l1 + 1)))) else colophonlaw23_FairTurns.l1 l1 k x7_l1 x8_l1 (wi (x30_l1 + 1))) else some (x7_l1, x8_l1))
def colophonlaw23_FairTurns.l3 (x67_l2 : Int) (v44 : Int) : Nat → Int → Int → (Int × (List (Option (Int × Int × Int × (List (Int × Bool))))) × Int × Bool × Int × Bool) → Option (Int × (Int × (List (Option (Int × Int × Int × (List (Int × Bool))))) × Int × Bool × Int × Bool))
  | 0, _, _, _ => none
  | k + 1, x13_l3, x75_l3, q42_l3 => (if decide (x75_l3 < Int.tmod v44 5) then ((fair_Ring_Add.f q42_l3 x67_l2 x13_l3).bind fun r47 => colophonlaw23_FairTurns.l3 x67_l2 v44 k (wi (x13_l3 + 1)) (IntKind.wrap .u8 (x75_l3 + 1)) r47.2) else some (x13_l3, q42_l3))
def colophonlaw23_FairTurns.l2 (l1 : List Int) (o22 : (List Int) × Int) : Nat → Int → Int → (Int × (List (Option (Int × Int × Int × (List (Int × Bool))))) × Int × Bool × Int × Bool) → Option (Int × (List (Option (Int × Int × Int × (List (Int × Bool))))) × Int × Bool × Int × Bool)
  | 0, _, _, _ => none
  | k + 1, x13_l2, x67_l2, q42_l2 => (if decide (x67_l2 < (o22.1.length : Int)) then ((at? l1 x67_l2).bind fun v44 => ((colophonlaw23_FairTurns.l3 x67_l2 v44 FU x13_l2 0 q42_l2).bind fun o56 => colophonlaw23_FairTurns.l2 l1 o22 k o56.1 (wi (x67_l2 + 1)) o56.2)) else some q42_l2)
def colophonlaw23_FairTurns.l4 (o22 : (List Int) × Int) : Nat → Int → (Int × (List (Option (Int × Int × Int × (List (Int × Bool))))) × Int × Bool × Int × Bool) → (List Int) → Option (Sum ((Int × (List (Option (Int × Int × Int × (List (Int × Bool))))) × Int × Bool × Int × Bool) × (List Int)) (Bool × (Int × (List (Option (Int × Int × Int × (List (Int × Bool))))) × Int × Bool × Int × Bool) × (List Int)))
  | 0, _, _, _ => none
  | k + 1, x96_l4, q42_l4, q78_l4 => (if decide (x96_l4 < 29520) then ((fair_Ring_Next.f q42_l4).bind fun r80 => (if (!r80.2.2.1) then some (.inl (r80.2.2.2, q78_l4)) else ((fair_Ring_Charge.f r80.2.2.2 1).bind fun r90 => (if (!r90.1) then some (.inr (false, r90.2, q78_l4)) else (if decide (r80.2.1 < 0) then some (.inr (false, r90.2, q78_l4)) else (if decide (r80.2.1 ≥ o22.2) then some (.inr (false, r90.2, q78_l4)) else ((at? q78_l4 r80.2.1).bind fun v102 => ((at? q78_l4 r80.2.1).bind fun v104 => ((set? q78_l4 r80.2.1 (wi (v102 + 1))).bind fun y106 => colophonlaw23_FairTurns.l4 o22 k (wi (x96_l4 + 1)) r90.2 y106))))))))) else some (.inl (q42_l4, q78_l4)))
def colophonlaw23_FairTurns.l5 (a2 : Int) (o22 : (List Int) × Int) (o113 : (Int × (List (Option (Int × Int × Int × (List (Int × Bool))))) × Int × Bool × Int × Bool) × (List Int)) : Nat → Int → Option (Sum Bool Unit)
  | 0, _ => none
  | k + 1, x125_l5 => (if decide (x125_l5 < o22.2) then ((at? o113.2 x125_l5).bind fun v118 => (if ((decide (v118 > 0)) != (x125_l5 != (Int.tmod (wi a2) 40))) then some (.inl false) else colophonlaw23_FairTurns.l5 a2 o22 o113 k (wi (x125_l5 + 1)))) else some (.inr ()))
def colophonlaw23_FairTurns.f (a0 : Int) (l1 : List Int) (a2 : Int) : Option Bool := (colophonlaw23_first.f.bind fun r1 => (if (!r1) then some false else ((colophonlaw23_FairTurns.l1 l1 FU ([] : List Int) 0 0).bind fun o22 => ((fair_New.f (wi (1 + (wi (Int.tmod (IntKind.wrap .u64 a0) 20)))) o22.1).bind fun r27 => (if (r27.2 != 0) then some ((o22.1.length : Int) == 0) else (r27.1.bind fun y38 => ((colophonlaw23_FairTurns.l2 l1 o22 FU 0 0 y38).bind fun o61 => ((fair_Ring_Hold.f o61 (Int.tmod (wi a2) 40) true).bind fun r66 => (if (r66.1 != (decide (Int.tmod (wi a2) 40 < o22.2))) then some false else ((colophonlaw23_FairTurns.l4 o22 FU 0 r66.2 (List.replicate 40 (0 : Int))).bind fun o111 => (match o111 with | .inl o113 => ((colophonlaw23_FairTurns.l5 a2 o22 o113 FU 0).bind fun o121 => (match o121 with | .inl o123 => some o123 | .inr o127 => (fair_Ring_Next_nil0.f.bind fun r131 => (if (r131.1 == (-1)) then (if (r131.2.1 == (-1)) then (if (!r131.2.2) then ((fair_Ring_Add_nil0.f 0 0).bind fun r143 => (if (!r143) then ((fair_Ring_Take_nil0.f 0).bind fun r153 => (if (!r153) then ((fair_Ring_Hold_nil0.f 0 true).bind fun r163 => (if (!r163) then ((fair_Ring_Charge_nil0.f 0).bind fun r173 => (if (!r173) then ((fair_Ring_Spent.f none 0).bind fun r183 => (if (r183 == 0) then ((fair_Ring_Credit.f none 0).bind fun r193 => some (r193 == 0)) else some false)) else some false)) else some false)) else some false)) else some false)) else some false) else some false) else some false)))) | .inr o202 => some o202.1)))))))))))
def colophonlaw23_FairTurns.post (w : World) (r : Bool) (v : Value) (w' : World) : Prop := v = (.bool r : Value) ∧ Sat w' (rf w) []
theorem colophonlaw23_FairTurns.l1_ok {Q} (w0 : World) (a0 : Int) (A1 : Option Addr) (c1 : Nat) (l1 : List Int) (a2 : Int) (R1 : rdS (r0 (.int .u8)) 1 (hp w0) A1 c1 l1) (out : (List Int) × Int) (hn0 : ∀ (A7_q : Option Addr) (c7_q : Nat) (w : World), Sat w (rf w0) [osl 3 (r0 (.int .i64)) 1 A7_q c7_q out.1] → At Q (.exit 0) 183 [(0, .int .i64 a0), (1, .slice A1 l1.length c1), (2, .int .u8 a2), (7, .slice A7_q out.1.length c7_q), (8, .int .i64 out.2)] w) :
    ∀ (k : Nat) (x7_l1 : List Int) (x8_l1 : Int) (x30_l1 : Int) (A7_l1 : Option Addr) (c7_l1 : Nat) (w : World), Sat w (rf w0) [osl 3 (r0 (.int .i64)) 1 A7_l1 c7_l1 x7_l1] → colophonlaw23_FairTurns.l1 l1 k x7_l1 x8_l1 x30_l1 = some out → WL Try.prog (cbody (cbody (cr (cl (cr (cr (cr (cr C6)))))))) Q 183 [(0, .int .i64 a0), (1, .slice A1 l1.length c1), (2, .int .u8 a2), (7, .slice A7_l1 x7_l1.length c7_l1), (8, .int .i64 x8_l1), (29, .int .i64 (l1.length : Int)), (30, .int .i64 x30_l1)] w := by
  intro k
  induction k with
  | zero => intro x7_l1 x8_l1 x30_l1 A7_l1 c7_l1 w hS H; exact absurd (show none = some out from H) (by simp)
  | succ k ih =>
    intro x7_l1 x8_l1 x30_l1 A7_l1 c7_l1 w hS H
    unfold colophonlaw23_FairTurns.l1 at H
    refine WL.round ?_
    refine WC.seq (by kernel_rfl) ?_
    refine WC.reg [0] (by kernel_rfl) (by kernel_rfl) ?_
    refine WR.runk [0] [] [0, 1, 2, 7, 8, 29, 30, 31] (L' := [(0, .int .i64 a0), (1, .slice A1 l1.length c1), (2, .int .u8 a2), (7, .slice A7_l1 x7_l1.length c7_l1), (8, .int .i64 x8_l1), (29, .int .i64 (l1.length : Int)), (30, .int .i64 x30_l1), (31, .bool (decide (x30_l1 < (l1.length : Int))))]) (w' := w) (by kernel_rfl) ?_
    refine WR.nil ?_
    refine At.go ?_
    refine WC.seq (by kernel_rfl) ?_
    refine WC.cond (by kernel_rfl) (decide (x30_l1 < (l1.length : Int))) (by kernel_rfl) (by kernel_rfl) (fun hb11 => ?_) (fun hb11 => ?_)
    · replace H := ite_t H hb11
      refine WC.skip (by kernel_rfl) ?_
      refine At.go ?_
      refine WC.seq (by kernel_rfl) ?_
      refine WC.block (by kernel_rfl) ?_
      refine WC.seq (by kernel_rfl) ?_
      refine WC.reg [0, 1] (by kernel_rfl) (by kernel_rfl) ?_
      refine WR.runk [0, 1] [] [0, 1, 2, 7, 8, 9, 29, 30] (L' := [(0, .int .i64 a0), (1, .slice A1 l1.length c1), (2, .int .u8 a2), (7, .slice A7_l1 x7_l1.length c7_l1), (8, .int .i64 x8_l1), (9, .int .i64 x30_l1), (29, .int .i64 (l1.length : Int)), (30, .int .i64 x30_l1)]) (w' := w) (by kernel_rfl) ?_
      refine WR.nil ?_
      refine At.go ?_
      refine WC.seq (by kernel_rfl) ?_
      refine WC.reg [0, 1] (by kernel_rfl) (by kernel_rfl) ?_
      refine WR.runk [0, 1] [] [0, 1, 2, 7, 8, 9, 29, 30, 34] (L' := [(0, .int .i64 a0), (1, .slice A1 l1.length c1), (2, .int .u8 a2), (7, .slice A7_l1 x7_l1.length c7_l1), (8, .int .i64 x8_l1), (9, .int .i64 x30_l1), (29, .int .i64 (l1.length : Int)), (30, .int .i64 x30_l1), (34, .bool (decide (x30_l1 < 6)))]) (w' := w) (by kernel_rfl) ?_
      refine WR.nil ?_
      refine At.go ?_
      refine WC.cond (by kernel_rfl) (decide (x30_l1 < 6)) (by kernel_rfl) (by kernel_rfl) (fun hb12 => ?_) (fun hb12 => ?_)
      · replace H := ite_t H hb12
        refine WC.seq (by kernel_rfl) ?_
        refine WC.reg [0, 1, 2, 3, 4, 5] (by kernel_rfl) (by kernel_rfl) ?_
        refine WR.runk [0, 1, 2] [3, 4, 5] [0, 1, 2, 7, 8, 9, 29, 30, 35, 37] (L' := [(0, .int .i64 a0), (1, .slice A1 l1.length c1), (2, .int .u8 a2), (7, .slice A7_l1 x7_l1.length c7_l1), (8, .int .i64 x8_l1), (9, .int .i64 x30_l1), (29, .int .i64 (l1.length : Int)), (30, .int .i64 x30_l1), (35, .slice A7_l1 x7_l1.length c7_l1), (37, .int .i64 (wi (1 + x30_l1)))]) (w' := w) (by kernel_rfl) ?_
        refine WR.st (St.box hS (by kernel_rfl) (.cells #[.int .i64 (wi (1 + x30_l1))] 3) (fun b13 => .slice (some ⟨b13, 0, none⟩) 1 1) (fun _ => by kernel_rfl) (fun b13 w14 hS => ?_))
        refine WR.runk [] [4, 5] [0, 1, 2, 7, 8, 9, 29, 30, 35, 38] (L' := [(0, .int .i64 a0), (1, .slice A1 l1.length c1), (2, .int .u8 a2), (7, .slice A7_l1 x7_l1.length c7_l1), (8, .int .i64 x8_l1), (9, .int .i64 x30_l1), (29, .int .i64 (l1.length : Int)), (30, .int .i64 x30_l1), (35, .slice A7_l1 x7_l1.length c7_l1), (38, .slice (some ⟨b13, 0, none⟩) 1 1)]) (w' := w14) (by kernel_rfl) ?_
        have hS : Sat w14 (rf w0) [osl 3 (r0 (.int .i64)) 1 A7_l1 c7_l1 x7_l1, pts b13 (.cells #[.int .i64 (wi (1 + x30_l1))] 3 (0, 0))] := hS.sel [1, 0] (by kernel_rfl)
        obtain ⟨y16, e15, H⟩ := bind_ex H
        refine WR.st (St.append' (.tmp 35) (.tmp 38) (by kernel_rfl) (by kernel_rfl) E24 (r0_one _) hS (by kernel_rfl) (by kernel_rfl) (Sat.ptsAt 1 (r0 (.int .i64)) 1 ([wi (1 + x30_l1)] : List Int) hS rfl rfl (rdL.cons1 rfl (rdL.nil _ _))) 17592186044416 (by kernel_rfl) (by kernel_rfl) e15 (fun A17 c18 w19 hS => ?_))
        refine WR.runk [5] [] [0, 1, 2, 7, 8, 9, 29, 30] (L' := [(0, .int .i64 a0), (1, .slice A1 l1.length c1), (2, .int .u8 a2), (7, .slice A17 y16.length c18), (8, .int .i64 x8_l1), (9, .int .i64 x30_l1), (29, .int .i64 (l1.length : Int)), (30, .int .i64 x30_l1)]) (w' := w19) (by kernel_rfl) ?_
        refine WR.nil ?_
        refine At.go ?_
        refine WC.reg [0, 1, 2, 3, 4, 5, 6, 7, 8] (by kernel_rfl) (by kernel_rfl) ?_
        refine WR.runk [0, 1, 2] [3, 4, 5, 6, 7, 8] [0, 1, 2, 7, 8, 29, 30, 40, 41, 42] (L' := [(0, .int .i64 a0), (1, .slice A1 l1.length c1), (2, .int .u8 a2), (7, .slice A17 y16.length c18), (8, .int .i64 x8_l1), (29, .int .i64 (l1.length : Int)), (30, .int .i64 x30_l1), (40, .int .i64 x8_l1), (41, .slice A1 l1.length c1), (42, .int .i64 x30_l1)]) (w' := w19) (by kernel_rfl) ?_
        obtain ⟨v20, e21, H⟩ := bind_ex H
        refine WR.st (St.ofP (PSt.idx (k := .i64) (.tmp 41) (.tmp 42) (by kernel_rfl) (by kernel_rfl) E22 (by kernel_rfl) (by kernel_rfl) (rdS.up R1 hS.sub0) e21 ?_))
        refine WR.runk [] [4, 5, 6, 7, 8] [0, 1, 2, 7, 8, 29, 30, 40, 43] (L' := [(0, .int .i64 a0), (1, .slice A1 l1.length c1), (2, .int .u8 a2), (7, .slice A17 y16.length c18), (8, .int .i64 x8_l1), (29, .int .i64 (l1.length : Int)), (30, .int .i64 x30_l1), (40, .int .i64 x8_l1), (43, .pointer (some (adr A1 x30_l1.toNat 1)))]) (w' := w19) (by kernel_rfl) ?_
        refine WR.st (St.ofR (RSt.loadInt (t := 5) (.tmp 43) (by kernel_rfl) (by kernel_rfl) (by kernel_rfl) (by kernel_rfl) (rdS.up R1 hS.sub0) e21 ?_))
        refine WR.runk [5, 6, 7, 8] [] [0, 1, 2, 7, 8, 29, 30] (L' := [(0, .int .i64 a0), (1, .slice A1 l1.length c1), (2, .int .u8 a2), (7, .slice A17 y16.length c18), (8, .int .i64 (wi (x8_l1 + (wi (Int.tmod v20 5))))), (29, .int .i64 (l1.length : Int)), (30, .int .i64 x30_l1)]) (w' := w19) (by kernel_rfl) ?_
        refine WR.nil ?_
        refine At.blockNormal ?_
        refine At.go ?_
        refine WC.reg [0, 1] (by kernel_rfl) (by kernel_rfl) ?_
        refine WR.runk [0, 1] [] [0, 1, 2, 7, 8, 29, 30] (L' := [(0, .int .i64 a0), (1, .slice A1 l1.length c1), (2, .int .u8 a2), (7, .slice A17 y16.length c18), (8, .int .i64 (wi (x8_l1 + (wi (Int.tmod v20 5))))), (29, .int .i64 (l1.length : Int)), (30, .int .i64 (wi (x30_l1 + 1)))]) (w' := w19) (by kernel_rfl) ?_
        refine WR.nil ?_
        have hS : Sat w19 (rf w0) [osl 3 (r0 (.int .i64)) 1 A17 c18 y16] := hS.sel [0] (by kernel_rfl)
        refine At.again ?_
        refine WL.weaken [0, 1, 2, 7, 8, 29, 30] (L' := [(0, .int .i64 a0), (1, .slice A1 l1.length c1), (2, .int .u8 a2), (7, .slice A17 y16.length c18), (8, .int .i64 (wi (x8_l1 + (wi (Int.tmod v20 5))))), (29, .int .i64 (l1.length : Int)), (30, .int .i64 (wi (x30_l1 + 1)))]) (by kernel_rfl) ?_
        exact ih y16 (wi (x8_l1 + (wi (Int.tmod v20 5)))) (wi (x30_l1 + 1)) A17 c18 _ hS H
      · replace H := ite_f H hb12
        refine WC.skip (by kernel_rfl) ?_
        refine At.blockNormal ?_
        refine At.go ?_
        refine WC.reg [0, 1] (by kernel_rfl) (by kernel_rfl) ?_
        refine WR.runk [0, 1] [] [0, 1, 2, 7, 8, 29, 30] (L' := [(0, .int .i64 a0), (1, .slice A1 l1.length c1), (2, .int .u8 a2), (7, .slice A7_l1 x7_l1.length c7_l1), (8, .int .i64 x8_l1), (29, .int .i64 (l1.length : Int)), (30, .int .i64 (wi (x30_l1 + 1)))]) (w' := w) (by kernel_rfl) ?_
        refine WR.nil ?_
        have hS : Sat w (rf w0) [osl 3 (r0 (.int .i64)) 1 A7_l1 c7_l1 x7_l1] := hS.sel [0] (by kernel_rfl)
        refine At.again ?_
        refine WL.weaken [0, 1, 2, 7, 8, 29, 30] (L' := [(0, .int .i64 a0), (1, .slice A1 l1.length c1), (2, .int .u8 a2), (7, .slice A7_l1 x7_l1.length c7_l1), (8, .int .i64 x8_l1), (29, .int .i64 (l1.length : Int)), (30, .int .i64 (wi (x30_l1 + 1)))]) (by kernel_rfl) ?_
        exact ih x7_l1 x8_l1 (wi (x30_l1 + 1)) A7_l1 c7_l1 _ hS H
    · replace H := ite_f H hb11
      refine WC.exit (by kernel_rfl) ?_
      refine At.thenExit ?_
      refine At.thenExit ?_
      obtain rfl := Option.some.inj H
      have hS : Sat w (rf w0) [osl 3 (r0 (.int .i64)) 1 A7_l1 c7_l1 x7_l1] := hS.sel [0] (by kernel_rfl)
      refine At.weaken [0, 1, 2, 7, 8] (L' := [(0, .int .i64 a0), (1, .slice A1 l1.length c1), (2, .int .u8 a2), (7, .slice A7_l1 x7_l1.length c7_l1), (8, .int .i64 x8_l1)]) (by kernel_rfl) ?_
      exact hn0 A7_l1 c7_l1 _ hS
theorem colophonlaw23_FairTurns.l3_ok {Q} (w0 : World) (A1 : Option Addr) (c1 : Nat) (l1 : List Int) (a2 : Int) (o22 : (List Int) × Int) (b41 : Nat) (x67_l2 : Int) (v44 : Int) (out : Int × (Int × (List (Option (Int × Int × Int × (List (Int × Bool))))) × Int × Bool × Int × Bool)) (hn0 : ∀ (w : World), Sat w (rf w0) [O46 b41 out.2] → At Q (.exit 4) 183 [(1, .slice A1 l1.length c1), (2, .int .u8 a2), (8, .int .i64 o22.2), (11, .pointer (some ⟨b41, 0, none⟩)), (13, .int .i64 out.1), (66, .int .i64 (o22.1.length : Int)), (67, .int .i64 x67_l2)] w) :
    ∀ (k : Nat) (x13_l3 : Int) (x75_l3 : Int) (q42_l3 : Int × (List (Option (Int × Int × Int × (List (Int × Bool))))) × Int × Bool × Int × Bool) (w : World), Sat w (rf w0) [O46 b41 q42_l3] → colophonlaw23_FairTurns.l3 x67_l2 v44 k x13_l3 x75_l3 q42_l3 = some out → WL Try.prog (cbody (cbody (cr (cr (cbody (cl (cr (cr (cbody (cbody (cr (cl (cr (cr (cr (cr (cr (cr (cr (cr (cr C6))))))))))))))))))))) Q 183 [(1, .slice A1 l1.length c1), (2, .int .u8 a2), (8, .int .i64 o22.2), (11, .pointer (some ⟨b41, 0, none⟩)), (13, .int .i64 x13_l3), (14, .int .i64 x67_l2), (66, .int .i64 (o22.1.length : Int)), (67, .int .i64 x67_l2), (74, .int .u8 (Int.tmod v44 5)), (75, .int .u8 x75_l3)] w := by
  intro k
  induction k with
  | zero => intro x13_l3 x75_l3 q42_l3 w hS H; exact absurd (show none = some out from H) (by simp)
  | succ k ih =>
    intro x13_l3 x75_l3 q42_l3 w hS H
    unfold colophonlaw23_FairTurns.l3 at H
    refine WL.round ?_
    refine WC.seq (by kernel_rfl) ?_
    refine WC.reg [0] (by kernel_rfl) (by kernel_rfl) ?_
    refine WR.runk [0] [] [1, 2, 8, 11, 13, 14, 66, 67, 74, 75, 76] (L' := [(1, .slice A1 l1.length c1), (2, .int .u8 a2), (8, .int .i64 o22.2), (11, .pointer (some ⟨b41, 0, none⟩)), (13, .int .i64 x13_l3), (14, .int .i64 x67_l2), (66, .int .i64 (o22.1.length : Int)), (67, .int .i64 x67_l2), (74, .int .u8 (Int.tmod v44 5)), (75, .int .u8 x75_l3), (76, .bool (decide (x75_l3 < Int.tmod v44 5)))]) (w' := w) (by kernel_rfl) ?_
    refine WR.nil ?_
    refine At.go ?_
    refine WC.seq (by kernel_rfl) ?_
    refine WC.cond (by kernel_rfl) (decide (x75_l3 < Int.tmod v44 5)) (by kernel_rfl) (by kernel_rfl) (fun hb46 => ?_) (fun hb46 => ?_)
    · replace H := ite_t H hb46
      refine WC.skip (by kernel_rfl) ?_
      refine At.go ?_
      refine WC.seq (by kernel_rfl) ?_
      refine WC.block (by kernel_rfl) ?_
      refine WC.seq (by kernel_rfl) ?_
      refine WC.reg [0, 1, 2, 3] (by kernel_rfl) (by kernel_rfl) ?_
      refine WR.runk [0, 1, 2] [3] [1, 2, 8, 11, 13, 14, 66, 67, 74, 75, 77, 78, 79] (L' := [(1, .slice A1 l1.length c1), (2, .int .u8 a2), (8, .int .i64 o22.2), (11, .pointer (some ⟨b41, 0, none⟩)), (13, .int .i64 x13_l3), (14, .int .i64 x67_l2), (66, .int .i64 (o22.1.length : Int)), (67, .int .i64 x67_l2), (74, .int .u8 (Int.tmod v44 5)), (75, .int .u8 x75_l3), (77, .pointer (some ⟨b41, 0, none⟩)), (78, .int .i64 x67_l2), (79, .int .i64 x13_l3)]) (w' := w) (by kernel_rfl) ?_
      obtain ⟨r47, e48, H⟩ := bind_ex H
      obtain ⟨B53, hso52, hsub50, hcs51, hb49⟩ := Sat.lend [O46 b41 q42_l3] (cs := []) hS
      refine WR.st (St.call (by kernel_rfl) (f := 9) (args := #[.pointer (some ⟨b41, 0, none⟩), .int .i64 x67_l2, .int .i64 x13_l3]) (by kernel_rfl) (fair_Ring_Add.calls B53 w b41 q42_l3 hso52 x67_l2 x13_l3 r47 e48) ?_)
      rintro _ w54 ⟨rfl, hS55⟩
      have hS : Sat w54 (rf w0) [O46 b41 r47.2] := hb49 _ _ hS55
      refine WR.runk [] [] [1, 2, 8, 11, 13, 14, 66, 67, 74, 75] (L' := [(1, .slice A1 l1.length c1), (2, .int .u8 a2), (8, .int .i64 o22.2), (11, .pointer (some ⟨b41, 0, none⟩)), (13, .int .i64 x13_l3), (14, .int .i64 x67_l2), (66, .int .i64 (o22.1.length : Int)), (67, .int .i64 x67_l2), (74, .int .u8 (Int.tmod v44 5)), (75, .int .u8 x75_l3)]) (w' := w54) (by kernel_rfl) ?_
      refine WR.nil ?_
      refine At.go ?_
      refine WC.reg [0, 1, 2] (by kernel_rfl) (by kernel_rfl) ?_
      refine WR.runk [0, 1, 2] [] [1, 2, 8, 11, 13, 14, 66, 67, 74, 75] (L' := [(1, .slice A1 l1.length c1), (2, .int .u8 a2), (8, .int .i64 o22.2), (11, .pointer (some ⟨b41, 0, none⟩)), (13, .int .i64 (wi (x13_l3 + 1))), (14, .int .i64 x67_l2), (66, .int .i64 (o22.1.length : Int)), (67, .int .i64 x67_l2), (74, .int .u8 (Int.tmod v44 5)), (75, .int .u8 x75_l3)]) (w' := w54) (by kernel_rfl) ?_
      refine WR.nil ?_
      refine At.blockNormal ?_
      refine At.go ?_
      refine WC.reg [0, 1] (by kernel_rfl) (by kernel_rfl) ?_
      refine WR.runk [0, 1] [] [1, 2, 8, 11, 13, 14, 66, 67, 74, 75] (L' := [(1, .slice A1 l1.length c1), (2, .int .u8 a2), (8, .int .i64 o22.2), (11, .pointer (some ⟨b41, 0, none⟩)), (13, .int .i64 (wi (x13_l3 + 1))), (14, .int .i64 x67_l2), (66, .int .i64 (o22.1.length : Int)), (67, .int .i64 x67_l2), (74, .int .u8 (Int.tmod v44 5)), (75, .int .u8 (IntKind.wrap .u8 (x75_l3 + 1)))]) (w' := w54) (by kernel_rfl) ?_
      refine WR.nil ?_
      have hS : Sat w54 (rf w0) [O46 b41 r47.2] := hS.sel [0] (by kernel_rfl)
      refine At.again ?_
      refine WL.weaken [1, 2, 8, 11, 13, 14, 66, 67, 74, 75] (L' := [(1, .slice A1 l1.length c1), (2, .int .u8 a2), (8, .int .i64 o22.2), (11, .pointer (some ⟨b41, 0, none⟩)), (13, .int .i64 (wi (x13_l3 + 1))), (14, .int .i64 x67_l2), (66, .int .i64 (o22.1.length : Int)), (67, .int .i64 x67_l2), (74, .int .u8 (Int.tmod v44 5)), (75, .int .u8 (IntKind.wrap .u8 (x75_l3 + 1)))]) (by kernel_rfl) ?_
      exact ih (wi (x13_l3 + 1)) (IntKind.wrap .u8 (x75_l3 + 1)) r47.2 _ hS H
    · replace H := ite_f H hb46
      refine WC.exit (by kernel_rfl) ?_
      refine At.thenExit ?_
      refine At.thenExit ?_
      obtain rfl := Option.some.inj H
      have hS : Sat w (rf w0) [O46 b41 q42_l3] := hS.sel [0] (by kernel_rfl)
      refine At.weaken [1, 2, 8, 11, 13, 66, 67] (L' := [(1, .slice A1 l1.length c1), (2, .int .u8 a2), (8, .int .i64 o22.2), (11, .pointer (some ⟨b41, 0, none⟩)), (13, .int .i64 x13_l3), (66, .int .i64 (o22.1.length : Int)), (67, .int .i64 x67_l2)]) (by kernel_rfl) ?_
      exact hn0 _ hS
theorem colophonlaw23_FairTurns.l2_ok {Q} (w0 : World) (A1 : Option Addr) (c1 : Nat) (l1 : List Int) (a2 : Int) (o22 : (List Int) × Int) (b41 : Nat) (R1 : rdS (r0 (.int .u8)) 1 (hp w0) A1 c1 l1) (out : (Int × (List (Option (Int × Int × Int × (List (Int × Bool))))) × Int × Bool × Int × Bool)) (hn0 : ∀ (w : World), Sat w (rf w0) [O46 b41 out] → At Q (.exit 2) 183 [(2, .int .u8 a2), (8, .int .i64 o22.2), (11, .pointer (some ⟨b41, 0, none⟩))] w) :
    ∀ (k : Nat) (x13_l2 : Int) (x67_l2 : Int) (q42_l2 : Int × (List (Option (Int × Int × Int × (List (Int × Bool))))) × Int × Bool × Int × Bool) (w : World), Sat w (rf w0) [O46 b41 q42_l2] → colophonlaw23_FairTurns.l2 l1 o22 k x13_l2 x67_l2 q42_l2 = some out → WL Try.prog (cbody (cbody (cr (cl (cr (cr (cr (cr (cr (cr (cr (cr (cr C6))))))))))))) Q 183 [(1, .slice A1 l1.length c1), (2, .int .u8 a2), (8, .int .i64 o22.2), (11, .pointer (some ⟨b41, 0, none⟩)), (13, .int .i64 x13_l2), (66, .int .i64 (o22.1.length : Int)), (67, .int .i64 x67_l2)] w := by
  intro k
  induction k with
  | zero => intro x13_l2 x67_l2 q42_l2 w hS H; exact absurd (show none = some out from H) (by simp)
  | succ k ih =>
    intro x13_l2 x67_l2 q42_l2 w hS H
    unfold colophonlaw23_FairTurns.l2 at H
    refine WL.round ?_
    refine WC.seq (by kernel_rfl) ?_
    refine WC.reg [0] (by kernel_rfl) (by kernel_rfl) ?_
    refine WR.runk [0] [] [1, 2, 8, 11, 13, 66, 67, 68] (L' := [(1, .slice A1 l1.length c1), (2, .int .u8 a2), (8, .int .i64 o22.2), (11, .pointer (some ⟨b41, 0, none⟩)), (13, .int .i64 x13_l2), (66, .int .i64 (o22.1.length : Int)), (67, .int .i64 x67_l2), (68, .bool (decide (x67_l2 < (o22.1.length : Int))))]) (w' := w) (by kernel_rfl) ?_
    refine WR.nil ?_
    refine At.go ?_
    refine WC.seq (by kernel_rfl) ?_
    refine WC.cond (by kernel_rfl) (decide (x67_l2 < (o22.1.length : Int))) (by kernel_rfl) (by kernel_rfl) (fun hb43 => ?_) (fun hb43 => ?_)
    · replace H := ite_t H hb43
      refine WC.skip (by kernel_rfl) ?_
      refine At.go ?_
      refine WC.seq (by kernel_rfl) ?_
      refine WC.block (by kernel_rfl) ?_
      refine WC.seq (by kernel_rfl) ?_
      refine WC.reg [0, 1] (by kernel_rfl) (by kernel_rfl) ?_
      refine WR.runk [0, 1] [] [1, 2, 8, 11, 13, 14, 66, 67] (L' := [(1, .slice A1 l1.length c1), (2, .int .u8 a2), (8, .int .i64 o22.2), (11, .pointer (some ⟨b41, 0, none⟩)), (13, .int .i64 x13_l2), (14, .int .i64 x67_l2), (66, .int .i64 (o22.1.length : Int)), (67, .int .i64 x67_l2)]) (w' := w) (by kernel_rfl) ?_
      refine WR.nil ?_
      refine At.go ?_
      refine WC.seq (by kernel_rfl) ?_
      refine WC.reg [0, 1, 2, 3, 4, 5] (by kernel_rfl) (by kernel_rfl) ?_
      refine WR.runk [0, 1] [2, 3, 4, 5] [1, 2, 8, 11, 13, 14, 66, 67, 70, 71] (L' := [(1, .slice A1 l1.length c1), (2, .int .u8 a2), (8, .int .i64 o22.2), (11, .pointer (some ⟨b41, 0, none⟩)), (13, .int .i64 x13_l2), (14, .int .i64 x67_l2), (66, .int .i64 (o22.1.length : Int)), (67, .int .i64 x67_l2), (70, .slice A1 l1.length c1), (71, .int .i64 x67_l2)]) (w' := w) (by kernel_rfl) ?_
      obtain ⟨v44, e45, H⟩ := bind_ex H
      refine WR.st (St.ofP (PSt.idx (k := .i64) (.tmp 70) (.tmp 71) (by kernel_rfl) (by kernel_rfl) E22 (by kernel_rfl) (by kernel_rfl) (rdS.up R1 hS.sub0) e45 ?_))
      refine WR.runk [] [3, 4, 5] [1, 2, 8, 11, 13, 14, 66, 67, 72] (L' := [(1, .slice A1 l1.length c1), (2, .int .u8 a2), (8, .int .i64 o22.2), (11, .pointer (some ⟨b41, 0, none⟩)), (13, .int .i64 x13_l2), (14, .int .i64 x67_l2), (66, .int .i64 (o22.1.length : Int)), (67, .int .i64 x67_l2), (72, .pointer (some (adr A1 x67_l2.toNat 1)))]) (w' := w) (by kernel_rfl) ?_
      refine WR.st (St.ofR (RSt.loadInt (t := 5) (.tmp 72) (by kernel_rfl) (by kernel_rfl) (by kernel_rfl) (by kernel_rfl) (rdS.up R1 hS.sub0) e45 ?_))
      refine WR.runk [4, 5] [] [1, 2, 8, 11, 13, 14, 66, 67, 74, 75] (L' := [(1, .slice A1 l1.length c1), (2, .int .u8 a2), (8, .int .i64 o22.2), (11, .pointer (some ⟨b41, 0, none⟩)), (13, .int .i64 x13_l2), (14, .int .i64 x67_l2), (66, .int .i64 (o22.1.length : Int)), (67, .int .i64 x67_l2), (74, .int .u8 (Int.tmod v44 5)), (75, .int .u8 0)]) (w' := w) (by kernel_rfl) ?_
      refine WR.nil ?_
      refine At.go ?_
      refine WC.block (by kernel_rfl) ?_
      have hS : Sat w (rf w0) [O46 b41 q42_l2] := hS.sel [0] (by kernel_rfl)
      obtain ⟨o56, e57, H⟩ := bind_ex H
      refine WC.loop (by kernel_rfl) ?_
      refine WL.weaken [1, 2, 8, 11, 13, 14, 66, 67, 74, 75] (L' := [(1, .slice A1 l1.length c1), (2, .int .u8 a2), (8, .int .i64 o22.2), (11, .pointer (some ⟨b41, 0, none⟩)), (13, .int .i64 x13_l2), (14, .int .i64 x67_l2), (66, .int .i64 (o22.1.length : Int)), (67, .int .i64 x67_l2), (74, .int .u8 (Int.tmod v44 5)), (75, .int .u8 0)]) (by kernel_rfl) ?_
      refine colophonlaw23_FairTurns.l3_ok w0 A1 c1 l1 a2 o22 b41 x67_l2 v44 o56 (fun w59 hS => ?_) FU x13_l2 0 q42_l2 _ hS e57
      refine At.hit ?_
      refine At.blockNormal ?_
      refine At.go ?_
      refine WC.reg [0, 1] (by kernel_rfl) (by kernel_rfl) ?_
      refine WR.runk [0, 1] [] [1, 2, 8, 11, 13, 66, 67] (L' := [(1, .slice A1 l1.length c1), (2, .int .u8 a2), (8, .int .i64 o22.2), (11, .pointer (some ⟨b41, 0, none⟩)), (13, .int .i64 o56.1), (66, .int .i64 (o22.1.length : Int)), (67, .int .i64 (wi (x67_l2 + 1)))]) (w' := w59) (by kernel_rfl) ?_
      refine WR.nil ?_
      have hS : Sat w59 (rf w0) [O46 b41 o56.2] := hS.sel [0] (by kernel_rfl)
      refine At.again ?_
      refine WL.weaken [1, 2, 8, 11, 13, 66, 67] (L' := [(1, .slice A1 l1.length c1), (2, .int .u8 a2), (8, .int .i64 o22.2), (11, .pointer (some ⟨b41, 0, none⟩)), (13, .int .i64 o56.1), (66, .int .i64 (o22.1.length : Int)), (67, .int .i64 (wi (x67_l2 + 1)))]) (by kernel_rfl) ?_
      exact ih o56.1 (wi (x67_l2 + 1)) o56.2 _ hS H
    · replace H := ite_f H hb43
      refine WC.exit (by kernel_rfl) ?_
      refine At.thenExit ?_
      refine At.thenExit ?_
      obtain rfl := Option.some.inj H
      have hS : Sat w (rf w0) [O46 b41 q42_l2] := hS.sel [0] (by kernel_rfl)
      refine At.weaken [2, 8, 11] (L' := [(2, .int .u8 a2), (8, .int .i64 o22.2), (11, .pointer (some ⟨b41, 0, none⟩))]) (by kernel_rfl) ?_
      exact hn0 _ hS
theorem colophonlaw23_FairTurns.l4_ok {Q} (w0 : World) (a2 : Int) (o22 : (List Int) × Int) (b41 : Nat) (b76 : Nat) (out : Sum ((Int × (List (Option (Int × Int × Int × (List (Int × Bool))))) × Int × Bool × Int × Bool) × (List Int)) (Bool × (Int × (List (Option (Int × Int × Int × (List (Int × Bool))))) × Int × Bool × Int × Bool) × (List Int))) (hn0 : ∀ (o0 : (Int × (List (Option (Int × Int × Int × (List (Int × Bool))))) × Int × Bool × Int × Bool) × (List Int)) (w : World), out = (.inl o0) → Sat w (rf w0) [O46 b41 o0.1, oar 42 (r0 (.int .i64)) 1 40 b76 o0.2] → At Q (.exit 6) 183 [(8, .int .i64 o22.2), (15, .int .i64 (Int.tmod (wi a2) 40)), (17, .pointer (some ⟨b76, 0, none⟩))] w) (hn1 : ∀ (o1 : Bool × (Int × (List (Option (Int × Int × Int × (List (Int × Bool))))) × Int × Bool × Int × Bool) × (List Int)) (w : World), out = (.inr o1) → Sat w (rf w0) [O46 b41 o1.2.1, oar 42 (r0 (.int .i64)) 1 40 b76 o1.2.2] → At Q .ret 183 [(6, .bool o1.1)] w) :
    ∀ (k : Nat) (x96_l4 : Int) (q42_l4 : Int × (List (Option (Int × Int × Int × (List (Int × Bool))))) × Int × Bool × Int × Bool) (q78_l4 : List Int) (w : World), Sat w (rf w0) [O46 b41 q42_l4, oar 42 (r0 (.int .i64)) 1 40 b76 q78_l4] → colophonlaw23_FairTurns.l4 o22 k x96_l4 q42_l4 q78_l4 = some out → WL Try.prog (cbody (cbody (cr (cl (cr (cr (cr (cr (cr (cr (cr (cr (cr (cr (cr (cr (cr (cr C6)))))))))))))))))) Q 183 [(8, .int .i64 o22.2), (11, .pointer (some ⟨b41, 0, none⟩)), (15, .int .i64 (Int.tmod (wi a2) 40)), (17, .pointer (some ⟨b76, 0, none⟩)), (96, .int .i64 x96_l4)] w := by
  intro k
  induction k with
  | zero => intro x96_l4 q42_l4 q78_l4 w hS H; exact absurd (show none = some out from H) (by simp)
  | succ k ih =>
    intro x96_l4 q42_l4 q78_l4 w hS H
    unfold colophonlaw23_FairTurns.l4 at H
    refine WL.round ?_
    refine WC.seq (by kernel_rfl) ?_
    refine WC.reg [0] (by kernel_rfl) (by kernel_rfl) ?_
    refine WR.runk [0] [] [8, 11, 15, 17, 96, 97] (L' := [(8, .int .i64 o22.2), (11, .pointer (some ⟨b41, 0, none⟩)), (15, .int .i64 (Int.tmod (wi a2) 40)), (17, .pointer (some ⟨b76, 0, none⟩)), (96, .int .i64 x96_l4), (97, .bool (decide (x96_l4 < 29520)))]) (w' := w) (by kernel_rfl) ?_
    refine WR.nil ?_
    refine At.go ?_
    refine WC.seq (by kernel_rfl) ?_
    refine WC.cond (by kernel_rfl) (decide (x96_l4 < 29520)) (by kernel_rfl) (by kernel_rfl) (fun hb79 => ?_) (fun hb79 => ?_)
    · replace H := ite_t H hb79
      refine WC.skip (by kernel_rfl) ?_
      refine At.go ?_
      refine WC.seq (by kernel_rfl) ?_
      refine WC.block (by kernel_rfl) ?_
      refine WC.seq (by kernel_rfl) ?_
      refine WC.reg [0, 1, 2, 3, 4, 5, 6, 7, 8] (by kernel_rfl) (by kernel_rfl) ?_
      refine WR.runk [0] [1, 2, 3, 4, 5, 6, 7, 8] [8, 11, 15, 17, 96, 99] (L' := [(8, .int .i64 o22.2), (11, .pointer (some ⟨b41, 0, none⟩)), (15, .int .i64 (Int.tmod (wi a2) 40)), (17, .pointer (some ⟨b76, 0, none⟩)), (96, .int .i64 x96_l4), (99, .pointer (some ⟨b41, 0, none⟩))]) (w' := w) (by kernel_rfl) ?_
      obtain ⟨r80, e81, H⟩ := bind_ex H
      obtain ⟨B86, hso85, hsub83, hcs84, hb82⟩ := Sat.lend [O46 b41 q42_l4] (cs := [oar 42 (r0 (.int .i64)) 1 40 b76 q78_l4]) hS
      refine WR.st (St.call (by kernel_rfl) (f := 10) (args := #[.pointer (some ⟨b41, 0, none⟩)]) (by kernel_rfl) (fair_Ring_Next.calls B86 w b41 q42_l4 hso85  r80 e81) ?_)
      rintro _ w87 ⟨rfl, hS88⟩
      have hS : Sat w87 (rf w0) [O46 b41 r80.2.2.2, oar 42 (r0 (.int .i64)) 1 40 b76 q78_l4] := hb82 _ _ hS88
      refine WR.runk [2, 3, 4, 5, 6, 7, 8] [] [8, 11, 15, 17, 19, 20, 96] (L' := [(8, .int .i64 o22.2), (11, .pointer (some ⟨b41, 0, none⟩)), (15, .int .i64 (Int.tmod (wi a2) 40)), (17, .pointer (some ⟨b76, 0, none⟩)), (19, .int .i64 r80.2.1), (20, .bool r80.2.2.1), (96, .int .i64 x96_l4)]) (w' := w87) (by kernel_rfl) ?_
      refine WR.nil ?_
      refine At.go ?_
      refine WC.seq (by kernel_rfl) ?_
      refine WC.seq (by kernel_rfl) ?_
      refine WC.reg [0, 1] (by kernel_rfl) (by kernel_rfl) ?_
      refine WR.runk [0, 1] [] [8, 11, 15, 17, 19, 96, 105] (L' := [(8, .int .i64 o22.2), (11, .pointer (some ⟨b41, 0, none⟩)), (15, .int .i64 (Int.tmod (wi a2) 40)), (17, .pointer (some ⟨b76, 0, none⟩)), (19, .int .i64 r80.2.1), (96, .int .i64 x96_l4), (105, .bool (!r80.2.2.1))]) (w' := w87) (by kernel_rfl) ?_
      refine WR.nil ?_
      refine At.go ?_
      refine WC.cond (by kernel_rfl) (!r80.2.2.1) (by kernel_rfl) (by kernel_rfl) (fun hb89 => ?_) (fun hb89 => ?_)
      · replace H := ite_t H hb89
        refine WC.exit (by kernel_rfl) ?_
        refine At.thenExit ?_
        refine At.miss (by kernel_rfl) ?_
        refine At.thenExit ?_
        refine At.thenExit ?_
        obtain rfl := Option.some.inj H
        have hS : Sat w87 (rf w0) [O46 b41 r80.2.2.2, oar 42 (r0 (.int .i64)) 1 40 b76 q78_l4] := hS.sel [0, 1] (by kernel_rfl)
        refine At.weaken [8, 15, 17] (L' := [(8, .int .i64 o22.2), (15, .int .i64 (Int.tmod (wi a2) 40)), (17, .pointer (some ⟨b76, 0, none⟩))]) (by kernel_rfl) ?_
        exact hn0 (r80.2.2.2, q78_l4) _ rfl hS
      · replace H := ite_f H hb89
        refine WC.skip (by kernel_rfl) ?_
        refine At.go ?_
        refine WC.seq (by kernel_rfl) ?_
        refine WC.seq (by kernel_rfl) ?_
        refine WC.reg [0, 1, 2, 3, 4, 5, 6, 7, 8, 9, 10, 11] (by kernel_rfl) (by kernel_rfl) ?_
        refine WR.runk [0] [1, 2, 3, 4, 5, 6, 7, 8, 9, 10, 11] [8, 11, 15, 17, 19, 96, 106] (L' := [(8, .int .i64 o22.2), (11, .pointer (some ⟨b41, 0, none⟩)), (15, .int .i64 (Int.tmod (wi a2) 40)), (17, .pointer (some ⟨b76, 0, none⟩)), (19, .int .i64 r80.2.1), (96, .int .i64 x96_l4), (106, .pointer (some ⟨b41, 0, none⟩))]) (w' := w87) (by kernel_rfl) ?_
        obtain ⟨r90, e91, H⟩ := bind_ex H
        obtain ⟨B96, hso95, hsub93, hcs94, hb92⟩ := Sat.lend [O46 b41 r80.2.2.2] (cs := [oar 42 (r0 (.int .i64)) 1 40 b76 q78_l4]) hS
        refine WR.st (St.call (by kernel_rfl) (f := 11) (args := #[.pointer (some ⟨b41, 0, none⟩), .int .i64 1]) (by kernel_rfl) (fair_Ring_Charge.calls B96 w87 b41 r80.2.2.2 hso95 1 r90 e91) ?_)
        rintro _ w97 ⟨rfl, hS98⟩
        have hS : Sat w97 (rf w0) [O46 b41 r90.2, oar 42 (r0 (.int .i64)) 1 40 b76 q78_l4] := hb92 _ _ hS98
        refine WR.runk [2, 3] [4, 5, 6, 7, 8, 9, 10, 11] [8, 11, 15, 17, 19, 96, 109] (L' := [(8, .int .i64 o22.2), (11, .pointer (some ⟨b41, 0, none⟩)), (15, .int .i64 (Int.tmod (wi a2) 40)), (17, .pointer (some ⟨b76, 0, none⟩)), (19, .int .i64 r80.2.1), (96, .int .i64 x96_l4), (109, .bool (!r90.1))]) (w' := w97) (by kernel_rfl) ?_
        refine WR.split 109 (b := (!r90.1)) (by kernel_rfl) (fun hb99 => ?_) (fun hb99 => ?_)
        · replace H := ite_t H hb99
          refine WR.runk [4, 5, 6, 7, 8, 9, 10, 11] [] [8, 11, 15, 17, 19, 96, 110, 111, 114, 115, 116, 117] (L' := [(8, .int .i64 o22.2), (11, .pointer (some ⟨b41, 0, none⟩)), (15, .int .i64 (Int.tmod (wi a2) 40)), (17, .pointer (some ⟨b76, 0, none⟩)), (19, .int .i64 r80.2.1), (96, .int .i64 x96_l4), (110, undef), (111, undef), (114, undef), (115, undef), (116, undef), (117, .bool true)]) (w' := w97) (by kernel_rfl) ?_
          refine WR.nil ?_
          refine At.go ?_
          refine WC.condT (by kernel_rfl) (by kernel_rfl) (by kernel_rfl) ?_
          refine WC.seq (by kernel_rfl) ?_
          refine WC.reg [0] (by kernel_rfl) (by kernel_rfl) ?_
          refine WR.runk [0] [] [6] (L' := [(6, .bool false)]) (w' := w97) (by kernel_rfl) ?_
          refine WR.nil ?_
          refine At.go ?_
          refine WC.ret (by kernel_rfl) ?_
          refine At.thenRet ?_
          refine At.blockRet ?_
          refine At.thenRet ?_
          refine At.thenRet ?_
          obtain rfl := Option.some.inj H
          have hS : Sat w97 (rf w0) [O46 b41 r90.2, oar 42 (r0 (.int .i64)) 1 40 b76 q78_l4] := hS.sel [0, 1] (by kernel_rfl)
          refine At.weaken [6] (L' := [(6, .bool false)]) (by kernel_rfl) ?_
          exact hn1 (false, r90.2, q78_l4) _ rfl hS
        · replace H := ite_f H hb99
          refine WR.runk [4, 5, 6, 7] [8, 9, 10, 11] [8, 11, 15, 17, 19, 96, 110, 111, 113] (L' := [(8, .int .i64 o22.2), (11, .pointer (some ⟨b41, 0, none⟩)), (15, .int .i64 (Int.tmod (wi a2) 40)), (17, .pointer (some ⟨b76, 0, none⟩)), (19, .int .i64 r80.2.1), (96, .int .i64 x96_l4), (110, .int .i64 r80.2.1), (111, .bool (decide (r80.2.1 < 0))), (113, .bool (decide (r80.2.1 < 0)))]) (w' := w97) (by kernel_rfl) ?_
          refine WR.split 113 (b := decide (r80.2.1 < 0)) (by kernel_rfl) (fun hb100 => ?_) (fun hb100 => ?_)
          · replace H := ite_t H hb100
            refine WR.runk [8, 9, 10, 11] [] [8, 11, 15, 17, 19, 96, 110, 111, 114, 115, 116, 117] (L' := [(8, .int .i64 o22.2), (11, .pointer (some ⟨b41, 0, none⟩)), (15, .int .i64 (Int.tmod (wi a2) 40)), (17, .pointer (some ⟨b76, 0, none⟩)), (19, .int .i64 r80.2.1), (96, .int .i64 x96_l4), (110, .int .i64 r80.2.1), (111, .bool (decide (r80.2.1 < 0))), (114, undef), (115, undef), (116, undef), (117, .bool true)]) (w' := w97) (by kernel_rfl) ?_
            refine WR.nil ?_
            refine At.go ?_
            refine WC.condT (by kernel_rfl) (by kernel_rfl) (by kernel_rfl) ?_
            refine WC.seq (by kernel_rfl) ?_
            refine WC.reg [0] (by kernel_rfl) (by kernel_rfl) ?_
            refine WR.runk [0] [] [6] (L' := [(6, .bool false)]) (w' := w97) (by kernel_rfl) ?_
            refine WR.nil ?_
            refine At.go ?_
            refine WC.ret (by kernel_rfl) ?_
            refine At.thenRet ?_
            refine At.blockRet ?_
            refine At.thenRet ?_
            refine At.thenRet ?_
            obtain rfl := Option.some.inj H
            have hS : Sat w97 (rf w0) [O46 b41 r90.2, oar 42 (r0 (.int .i64)) 1 40 b76 q78_l4] := hS.sel [0, 1] (by kernel_rfl)
            refine At.weaken [6] (L' := [(6, .bool false)]) (by kernel_rfl) ?_
            exact hn1 (false, r90.2, q78_l4) _ rfl hS
          · replace H := ite_f H hb100
            refine WR.runk [8, 9, 10, 11] [] [8, 11, 15, 17, 19, 96, 110, 111, 114, 115, 116, 117] (L' := [(8, .int .i64 o22.2), (11, .pointer (some ⟨b41, 0, none⟩)), (15, .int .i64 (Int.tmod (wi a2) 40)), (17, .pointer (some ⟨b76, 0, none⟩)), (19, .int .i64 r80.2.1), (96, .int .i64 x96_l4), (110, .int .i64 r80.2.1), (111, .bool (decide (r80.2.1 < 0))), (114, .int .i64 r80.2.1), (115, .int .i64 o22.2), (116, .bool (decide (r80.2.1 ≥ o22.2))), (117, .bool (decide (r80.2.1 ≥ o22.2)))]) (w' := w97) (by kernel_rfl) ?_
            refine WR.nil ?_
            refine At.go ?_
            refine WC.cond (by kernel_rfl) (decide (r80.2.1 ≥ o22.2)) (by kernel_rfl) (by kernel_rfl) (fun hb101 => ?_) (fun hb101 => ?_)
            · replace H := ite_t H hb101
              refine WC.seq (by kernel_rfl) ?_
              refine WC.reg [0] (by kernel_rfl) (by kernel_rfl) ?_
              refine WR.runk [0] [] [6] (L' := [(6, .bool false)]) (w' := w97) (by kernel_rfl) ?_
              refine WR.nil ?_
              refine At.go ?_
              refine WC.ret (by kernel_rfl) ?_
              refine At.thenRet ?_
              refine At.blockRet ?_
              refine At.thenRet ?_
              refine At.thenRet ?_
              obtain rfl := Option.some.inj H
              have hS : Sat w97 (rf w0) [O46 b41 r90.2, oar 42 (r0 (.int .i64)) 1 40 b76 q78_l4] := hS.sel [0, 1] (by kernel_rfl)
              refine At.weaken [6] (L' := [(6, .bool false)]) (by kernel_rfl) ?_
              exact hn1 (false, r90.2, q78_l4) _ rfl hS
            · replace H := ite_f H hb101
              refine WC.skip (by kernel_rfl) ?_
              refine At.go ?_
              refine WC.reg [0, 1, 2, 3, 4, 5] (by kernel_rfl) (by kernel_rfl) ?_
              refine WR.runk [0] [1, 2, 3, 4, 5] [8, 11, 15, 17, 96, 110, 111, 114, 115, 118] (L' := [(8, .int .i64 o22.2), (11, .pointer (some ⟨b41, 0, none⟩)), (15, .int .i64 (Int.tmod (wi a2) 40)), (17, .pointer (some ⟨b76, 0, none⟩)), (96, .int .i64 x96_l4), (110, .int .i64 r80.2.1), (111, .bool (decide (r80.2.1 < 0))), (114, .int .i64 r80.2.1), (115, .int .i64 o22.2), (118, .int .i64 r80.2.1)]) (w' := w97) (by kernel_rfl) ?_
              obtain ⟨v102, e103, H⟩ := bind_ex H
              refine WR.st (St.ofP (PSt.idxArr (k := .i64) (t := 42) (e := 3) (sz := 1) (b := b76) (.tmp 17) (.tmp 118) (by kernel_rfl) (by kernel_rfl) (by kernel_rfl) (by kernel_rfl) (by kernel_rfl) (by kernel_rfl) (by kernel_rfl) (Sat.oarAt 1 hS rfl).2 e103 ?_))
              refine WR.runk [] [2, 3, 4, 5] [8, 11, 15, 17, 96, 110, 111, 114, 115, 118, 119] (L' := [(8, .int .i64 o22.2), (11, .pointer (some ⟨b41, 0, none⟩)), (15, .int .i64 (Int.tmod (wi a2) 40)), (17, .pointer (some ⟨b76, 0, none⟩)), (96, .int .i64 x96_l4), (110, .int .i64 r80.2.1), (111, .bool (decide (r80.2.1 < 0))), (114, .int .i64 r80.2.1), (115, .int .i64 o22.2), (118, .int .i64 r80.2.1), (119, .pointer (some (adr (some ⟨b76, 0, none⟩) (r80.2.1).toNat 1)))]) (w' := w97) (by kernel_rfl) ?_
              refine WR.st (St.ofR (RSt.loadInt (t := 3) (.tmp 119) (by kernel_rfl) (by kernel_rfl) (by kernel_rfl) (by kernel_rfl) (Sat.oarAt 1 hS rfl).1 e103 ?_))
              refine WR.runk [3] [4, 5] [8, 11, 15, 17, 96, 110, 111, 114, 115, 118, 121] (L' := [(8, .int .i64 o22.2), (11, .pointer (some ⟨b41, 0, none⟩)), (15, .int .i64 (Int.tmod (wi a2) 40)), (17, .pointer (some ⟨b76, 0, none⟩)), (96, .int .i64 x96_l4), (110, .int .i64 r80.2.1), (111, .bool (decide (r80.2.1 < 0))), (114, .int .i64 r80.2.1), (115, .int .i64 o22.2), (118, .int .i64 r80.2.1), (121, .int .i64 (wi (v102 + 1)))]) (w' := w97) (by kernel_rfl) ?_
              obtain ⟨v104, e105, H⟩ := bind_ex H
              refine WR.st (St.ofP (PSt.idxArr (k := .i64) (t := 42) (e := 3) (sz := 1) (b := b76) (.tmp 17) (.tmp 118) (by kernel_rfl) (by kernel_rfl) (by kernel_rfl) (by kernel_rfl) (by kernel_rfl) (by kernel_rfl) (by kernel_rfl) (Sat.oarAt 1 hS rfl).2 e105 ?_))
              refine WR.runk [] [5] [8, 11, 15, 17, 96, 110, 111, 114, 115, 121, 122] (L' := [(8, .int .i64 o22.2), (11, .pointer (some ⟨b41, 0, none⟩)), (15, .int .i64 (Int.tmod (wi a2) 40)), (17, .pointer (some ⟨b76, 0, none⟩)), (96, .int .i64 x96_l4), (110, .int .i64 r80.2.1), (111, .bool (decide (r80.2.1 < 0))), (114, .int .i64 r80.2.1), (115, .int .i64 o22.2), (121, .int .i64 (wi (v102 + 1))), (122, .pointer (some (adr (some ⟨b76, 0, none⟩) (r80.2.1).toNat 1)))]) (w' := w97) (by kernel_rfl) ?_
              have hS : Sat w97 (rf w0) [oar 42 (r0 (.int .i64)) 1 40 b76 q78_l4, O46 b41 r90.2] := hS.sel [1, 0] (by kernel_rfl)
              obtain ⟨y106, e107, H⟩ := bind_ex H
              obtain ⟨hl109, hS⟩ := oar.op hS
              refine WR.st (St.storeElem' (t := 3) (.tmp 122) (.tmp 121) (by kernel_rfl) (by kernel_rfl) (by kernel_rfl) hS (by kernel_rfl) (by kernel_rfl) rfl e107 rfl (fun w108 hS => ?_))
              have hl110 := (set?_len e107).trans hl109
              have hS : Sat w108 (rf w0) [oar 42 (r0 (.int .i64)) 1 40 b76 y106, O46 b41 r90.2] := oar.cl hl110 hS
              refine WR.runk [] [] [8, 11, 15, 17, 96, 110, 111, 114, 115] (L' := [(8, .int .i64 o22.2), (11, .pointer (some ⟨b41, 0, none⟩)), (15, .int .i64 (Int.tmod (wi a2) 40)), (17, .pointer (some ⟨b76, 0, none⟩)), (96, .int .i64 x96_l4), (110, .int .i64 r80.2.1), (111, .bool (decide (r80.2.1 < 0))), (114, .int .i64 r80.2.1), (115, .int .i64 o22.2)]) (w' := w108) (by kernel_rfl) ?_
              refine WR.nil ?_
              refine At.blockNormal ?_
              refine At.go ?_
              refine WC.reg [0, 1] (by kernel_rfl) (by kernel_rfl) ?_
              refine WR.runk [0, 1] [] [8, 11, 15, 17, 96, 110, 111, 114, 115] (L' := [(8, .int .i64 o22.2), (11, .pointer (some ⟨b41, 0, none⟩)), (15, .int .i64 (Int.tmod (wi a2) 40)), (17, .pointer (some ⟨b76, 0, none⟩)), (96, .int .i64 (wi (x96_l4 + 1))), (110, .int .i64 r80.2.1), (111, .bool (decide (r80.2.1 < 0))), (114, .int .i64 r80.2.1), (115, .int .i64 o22.2)]) (w' := w108) (by kernel_rfl) ?_
              refine WR.nil ?_
              have hS : Sat w108 (rf w0) [O46 b41 r90.2, oar 42 (r0 (.int .i64)) 1 40 b76 y106] := hS.sel [1, 0] (by kernel_rfl)
              refine At.again ?_
              refine WL.weaken [8, 11, 15, 17, 96] (L' := [(8, .int .i64 o22.2), (11, .pointer (some ⟨b41, 0, none⟩)), (15, .int .i64 (Int.tmod (wi a2) 40)), (17, .pointer (some ⟨b76, 0, none⟩)), (96, .int .i64 (wi (x96_l4 + 1)))]) (by kernel_rfl) ?_
              exact ih (wi (x96_l4 + 1)) r90.2 y106 _ hS H
    · replace H := ite_f H hb79
      refine WC.exit (by kernel_rfl) ?_
      refine At.thenExit ?_
      refine At.thenExit ?_
      obtain rfl := Option.some.inj H
      have hS : Sat w (rf w0) [O46 b41 q42_l4, oar 42 (r0 (.int .i64)) 1 40 b76 q78_l4] := hS.sel [0, 1] (by kernel_rfl)
      refine At.weaken [8, 15, 17] (L' := [(8, .int .i64 o22.2), (15, .int .i64 (Int.tmod (wi a2) 40)), (17, .pointer (some ⟨b76, 0, none⟩))]) (by kernel_rfl) ?_
      exact hn0 (q42_l4, q78_l4) _ rfl hS
theorem colophonlaw23_FairTurns.l5_ok {Q} (w0 : World) (a2 : Int) (o22 : (List Int) × Int) (b76 : Nat) (o113 : (Int × (List (Option (Int × Int × Int × (List (Int × Bool))))) × Int × Bool × Int × Bool) × (List Int)) (out : Sum Bool Unit) (hn0 : ∀ (o0 : Bool) (w : World), out = (.inl o0) → Sat w (rf w0) [oar 42 (r0 (.int .i64)) 1 40 b76 o113.2] → At Q .ret 183 [(6, .bool o0)] w) (hn1 : ∀ (o1 : Unit) (w : World), out = (.inr o1) → Sat w (rf w0) [oar 42 (r0 (.int .i64)) 1 40 b76 o113.2] → At Q (.exit 8) 183 [] w) :
    ∀ (k : Nat) (x125_l5 : Int) (w : World), Sat w (rf w0) [oar 42 (r0 (.int .i64)) 1 40 b76 o113.2] → colophonlaw23_FairTurns.l5 a2 o22 o113 k x125_l5 = some out → WL Try.prog (cbody (cbody (cr (cl (cr (cr (cr (cr (cr (cr (cr (cr (cr (cr (cr (cr (cr (cr (cr C6))))))))))))))))))) Q 183 [(15, .int .i64 (Int.tmod (wi a2) 40)), (17, .pointer (some ⟨b76, 0, none⟩)), (124, .int .i64 o22.2), (125, .int .i64 x125_l5)] w := by
  intro k
  induction k with
  | zero => intro x125_l5 w hS H; exact absurd (show none = some out from H) (by simp)
  | succ k ih =>
    intro x125_l5 w hS H
    unfold colophonlaw23_FairTurns.l5 at H
    refine WL.round ?_
    refine WC.seq (by kernel_rfl) ?_
    refine WC.reg [0] (by kernel_rfl) (by kernel_rfl) ?_
    refine WR.runk [0] [] [15, 17, 124, 125, 126] (L' := [(15, .int .i64 (Int.tmod (wi a2) 40)), (17, .pointer (some ⟨b76, 0, none⟩)), (124, .int .i64 o22.2), (125, .int .i64 x125_l5), (126, .bool (decide (x125_l5 < o22.2)))]) (w' := w) (by kernel_rfl) ?_
    refine WR.nil ?_
    refine At.go ?_
    refine WC.seq (by kernel_rfl) ?_
    refine WC.cond (by kernel_rfl) (decide (x125_l5 < o22.2)) (by kernel_rfl) (by kernel_rfl) (fun hb117 => ?_) (fun hb117 => ?_)
    · replace H := ite_t H hb117
      refine WC.skip (by kernel_rfl) ?_
      refine At.go ?_
      refine WC.seq (by kernel_rfl) ?_
      refine WC.block (by kernel_rfl) ?_
      refine WC.seq (by kernel_rfl) ?_
      refine WC.reg [0, 1] (by kernel_rfl) (by kernel_rfl) ?_
      refine WR.runk [0, 1] [] [15, 17, 21, 124, 125] (L' := [(15, .int .i64 (Int.tmod (wi a2) 40)), (17, .pointer (some ⟨b76, 0, none⟩)), (21, .int .i64 x125_l5), (124, .int .i64 o22.2), (125, .int .i64 x125_l5)]) (w' := w) (by kernel_rfl) ?_
      refine WR.nil ?_
      refine At.go ?_
      refine WC.seq (by kernel_rfl) ?_
      refine WC.reg [0, 1, 2, 3, 4, 5, 6, 7] (by kernel_rfl) (by kernel_rfl) ?_
      refine WR.runk [0] [1, 2, 3, 4, 5, 6, 7] [15, 17, 21, 124, 125, 128] (L' := [(15, .int .i64 (Int.tmod (wi a2) 40)), (17, .pointer (some ⟨b76, 0, none⟩)), (21, .int .i64 x125_l5), (124, .int .i64 o22.2), (125, .int .i64 x125_l5), (128, .int .i64 x125_l5)]) (w' := w) (by kernel_rfl) ?_
      obtain ⟨v118, e119, H⟩ := bind_ex H
      refine WR.st (St.ofP (PSt.idxArr (k := .i64) (t := 42) (e := 3) (sz := 1) (b := b76) (.tmp 17) (.tmp 128) (by kernel_rfl) (by kernel_rfl) (by kernel_rfl) (by kernel_rfl) (by kernel_rfl) (by kernel_rfl) (by kernel_rfl) (Sat.oarAt 0 hS rfl).2 e119 ?_))
      refine WR.runk [] [2, 3, 4, 5, 6, 7] [15, 17, 21, 124, 125, 129] (L' := [(15, .int .i64 (Int.tmod (wi a2) 40)), (17, .pointer (some ⟨b76, 0, none⟩)), (21, .int .i64 x125_l5), (124, .int .i64 o22.2), (125, .int .i64 x125_l5), (129, .pointer (some (adr (some ⟨b76, 0, none⟩) x125_l5.toNat 1)))]) (w' := w) (by kernel_rfl) ?_
      refine WR.st (St.ofR (RSt.loadInt (t := 3) (.tmp 129) (by kernel_rfl) (by kernel_rfl) (by kernel_rfl) (by kernel_rfl) (Sat.oarAt 0 hS rfl).1 e119 ?_))
      refine WR.runk [3, 4, 5, 6, 7] [] [15, 17, 124, 125, 135] (L' := [(15, .int .i64 (Int.tmod (wi a2) 40)), (17, .pointer (some ⟨b76, 0, none⟩)), (124, .int .i64 o22.2), (125, .int .i64 x125_l5), (135, .bool ((decide (v118 > 0)) != (x125_l5 != (Int.tmod (wi a2) 40))))]) (w' := w) (by kernel_rfl) ?_
      refine WR.nil ?_
      refine At.go ?_
      refine WC.cond (by kernel_rfl) ((decide (v118 > 0)) != (x125_l5 != (Int.tmod (wi a2) 40))) (by kernel_rfl) (by kernel_rfl) (fun hb120 => ?_) (fun hb120 => ?_)
      · replace H := ite_t H hb120
        refine WC.seq (by kernel_rfl) ?_
        refine WC.reg [0] (by kernel_rfl) (by kernel_rfl) ?_
        refine WR.runk [0] [] [6] (L' := [(6, .bool false)]) (w' := w) (by kernel_rfl) ?_
        refine WR.nil ?_
        refine At.go ?_
        refine WC.ret (by kernel_rfl) ?_
        refine At.blockRet ?_
        refine At.thenRet ?_
        refine At.thenRet ?_
        obtain rfl := Option.some.inj H
        have hS : Sat w (rf w0) [oar 42 (r0 (.int .i64)) 1 40 b76 o113.2] := hS.sel [0] (by kernel_rfl)
        refine At.weaken [6] (L' := [(6, .bool false)]) (by kernel_rfl) ?_
        exact hn0 false _ rfl hS
      · replace H := ite_f H hb120
        refine WC.skip (by kernel_rfl) ?_
        refine At.blockNormal ?_
        refine At.go ?_
        refine WC.reg [0, 1] (by kernel_rfl) (by kernel_rfl) ?_
        refine WR.runk [0, 1] [] [15, 17, 124, 125] (L' := [(15, .int .i64 (Int.tmod (wi a2) 40)), (17, .pointer (some ⟨b76, 0, none⟩)), (124, .int .i64 o22.2), (125, .int .i64 (wi (x125_l5 + 1)))]) (w' := w) (by kernel_rfl) ?_
        refine WR.nil ?_
        have hS : Sat w (rf w0) [oar 42 (r0 (.int .i64)) 1 40 b76 o113.2] := hS.sel [0] (by kernel_rfl)
        refine At.again ?_
        refine WL.weaken [15, 17, 124, 125] (L' := [(15, .int .i64 (Int.tmod (wi a2) 40)), (17, .pointer (some ⟨b76, 0, none⟩)), (124, .int .i64 o22.2), (125, .int .i64 (wi (x125_l5 + 1)))]) (by kernel_rfl) ?_
        exact ih (wi (x125_l5 + 1)) _ hS H
    · replace H := ite_f H hb117
      refine WC.exit (by kernel_rfl) ?_
      refine At.thenExit ?_
      refine At.thenExit ?_
      obtain rfl := Option.some.inj H
      have hS : Sat w (rf w0) [oar 42 (r0 (.int .i64)) 1 40 b76 o113.2] := hS.sel [0] (by kernel_rfl)
      refine At.weaken [] (L' := []) (by kernel_rfl) ?_
      exact hn1 () _ rfl hS
theorem colophonlaw23_FairTurns.calls (w0 : World) (a0 : Int) (A1 : Option Addr) (c1 : Nat) (l1 : List Int) (R1 : rdS (r0 (.int .u8)) 1 (hp w0) A1 c1 l1) (a2 : Int) (r : Bool) (H : colophonlaw23_FairTurns.f a0 l1 a2 = some r) :
    Calls Try.prog 6 #[.int .i64 a0, .slice A1 l1.length c1, .int .u8 a2] w0 (fun e w' => ∃ v, e = .returned v ∧ colophonlaw23_FairTurns.post w0 r v w') := by
  have hS : Sat w0 (rf w0) [] := Sat.start w0
  unfold colophonlaw23_FairTurns.f at H
  refine calls_of_WC (vs := [.int .i64 a0, .slice A1 l1.length c1, .int .u8 a2]) Try.func6 (c := C6) (n := 183) (by kernel_rfl) (by kernel_rfl) (by kernel_rfl) ?_
  refine WC.seq (by kernel_rfl) ?_
  refine WC.reg [0] (by kernel_rfl) (by kernel_rfl) ?_
  refine WR.runk [0] [] [0, 1, 2] (L' := [(0, .int .i64 a0), (1, .slice A1 l1.length c1), (2, .int .u8 a2)]) (w' := w0) (by kernel_rfl) ?_
  refine WR.nil ?_
  refine At.go ?_
  refine WC.seq (by kernel_rfl) ?_
  refine WC.seq (by kernel_rfl) ?_
  refine WC.reg [0, 1] (by kernel_rfl) (by kernel_rfl) ?_
  obtain ⟨r1, e2, H⟩ := bind_ex H
  refine WR.st (St.call (by kernel_rfl) (f := 7) (args := #[]) (by kernel_rfl) (colophonlaw23_first.calls w0  r1 e2) ?_)
  rintro _ w8 ⟨rfl, hS9⟩
  have hS : Sat w8 (rf w0) [] := hS.ext hS9
  refine WR.runk [1] [] [0, 1, 2, 27] (L' := [(0, .int .i64 a0), (1, .slice A1 l1.length c1), (2, .int .u8 a2), (27, .bool (!r1))]) (w' := w8) (by kernel_rfl) ?_
  refine WR.nil ?_
  refine At.go ?_
  refine WC.cond (by kernel_rfl) (!r1) (by kernel_rfl) (by kernel_rfl) (fun hb10 => ?_) (fun hb10 => ?_)
  · replace H := ite_t H hb10
    refine WC.seq (by kernel_rfl) ?_
    refine WC.reg [0] (by kernel_rfl) (by kernel_rfl) ?_
    refine WR.runk [0] [] [6] (L' := [(6, .bool false)]) (w' := w8) (by kernel_rfl) ?_
    refine WR.nil ?_
    refine At.go ?_
    refine WC.ret (by kernel_rfl) ?_
    refine At.thenRet ?_
    obtain rfl := Option.some.inj H
    have hS : Sat w8 (rf w0) [] := hS.sel [] (by kernel_rfl)
    exact At.body [.bool false] (by kernel_rfl) ⟨_, rfl, rfl, hS⟩
  · replace H := ite_f H hb10
    refine WC.skip (by kernel_rfl) ?_
    refine At.go ?_
    refine WC.seq (by kernel_rfl) ?_
    refine WC.reg [0] (by kernel_rfl) (by kernel_rfl) ?_
    refine WR.runk [0] [] [0, 1, 2, 7] (L' := [(0, .int .i64 a0), (1, .slice A1 l1.length c1), (2, .int .u8 a2), (7, .slice none 0 0)]) (w' := w8) (by kernel_rfl) ?_
    refine WR.nil ?_
    refine At.go ?_
    refine WC.seq (by kernel_rfl) ?_
    refine WC.reg [0] (by kernel_rfl) (by kernel_rfl) ?_
    refine WR.runk [0] [] [0, 1, 2, 7, 8] (L' := [(0, .int .i64 a0), (1, .slice A1 l1.length c1), (2, .int .u8 a2), (7, .slice none 0 0), (8, .int .i64 0)]) (w' := w8) (by kernel_rfl) ?_
    refine WR.nil ?_
    refine At.go ?_
    refine WC.seq (by kernel_rfl) ?_
    refine WC.seq (by kernel_rfl) ?_
    refine WC.reg [0, 1, 2] (by kernel_rfl) (by kernel_rfl) ?_
    refine WR.runk [0, 1, 2] [] [0, 1, 2, 7, 8, 29, 30] (L' := [(0, .int .i64 a0), (1, .slice A1 l1.length c1), (2, .int .u8 a2), (7, .slice none 0 0), (8, .int .i64 0), (29, .int .i64 (l1.length : Int)), (30, .int .i64 0)]) (w' := w8) (by kernel_rfl) ?_
    refine WR.nil ?_
    refine At.go ?_
    refine WC.block (by kernel_rfl) ?_
    have hS := hS.addNil (α := Int) 3 (r0 (.int .i64)) 1
    have hS : Sat w8 (rf w0) [osl 3 (r0 (.int .i64)) 1 none 0 ([] : List Int)] := hS.sel [0] (by kernel_rfl)
    obtain ⟨o22, e23, H⟩ := bind_ex H
    refine WC.loop (by kernel_rfl) ?_
    refine WL.weaken [0, 1, 2, 7, 8, 29, 30] (L' := [(0, .int .i64 a0), (1, .slice A1 l1.length c1), (2, .int .u8 a2), (7, .slice none 0 0), (8, .int .i64 0), (29, .int .i64 (l1.length : Int)), (30, .int .i64 0)]) (by kernel_rfl) ?_
    refine colophonlaw23_FairTurns.l1_ok w0 a0 A1 c1 l1 a2 R1 o22 (fun A7_q24 c7_q24 w25 hS => ?_) FU ([] : List Int) 0 0 none 0 _ hS e23
    refine At.hit ?_
    refine At.go ?_
    refine WC.seq (by kernel_rfl) ?_
    refine WC.reg [0, 1, 2, 3, 4, 5] (by kernel_rfl) (by kernel_rfl) ?_
    refine WR.runk [0, 1, 2, 3, 4, 5] [] [1, 2, 7, 8, 10] (L' := [(1, .slice A1 l1.length c1), (2, .int .u8 a2), (7, .slice A7_q24 o22.1.length c7_q24), (8, .int .i64 o22.2), (10, .int .i64 (wi (1 + (wi (Int.tmod (IntKind.wrap .u64 a0) 20)))))]) (w' := w25) (by kernel_rfl) ?_
    refine WR.nil ?_
    refine At.go ?_
    refine WC.seq (by kernel_rfl) ?_
    refine WC.reg [0, 1, 2, 3, 4, 5, 6, 7] (by kernel_rfl) (by kernel_rfl) ?_
    refine WR.runk [0, 1] [2, 3, 4, 5, 6, 7] [1, 2, 7, 8, 55, 56] (L' := [(1, .slice A1 l1.length c1), (2, .int .u8 a2), (7, .slice A7_q24 o22.1.length c7_q24), (8, .int .i64 o22.2), (55, .int .i64 (wi (1 + (wi (Int.tmod (IntKind.wrap .u64 a0) 20))))), (56, .slice A7_q24 o22.1.length c7_q24)]) (w' := w25) (by kernel_rfl) ?_
    obtain ⟨r27, e28, H⟩ := bind_ex H
    refine WR.st (St.call (by kernel_rfl) (f := 8) (args := #[.int .i64 (wi (1 + (wi (Int.tmod (IntKind.wrap .u64 a0) 20)))), .slice A7_q24 o22.1.length c7_q24]) (by kernel_rfl) (fair_New.calls w25 (wi (1 + (wi (Int.tmod (IntKind.wrap .u64 a0) 20)))) A7_q24 c7_q24 o22.1 (Sat.rdAt 0 hS rfl) r27 e28) ?_)
    rintro _ w34 ⟨pv36, rfl, hS35⟩
    have hS : Sat w34 (rf w0) [optP O46 pv36 r27.1, osl 3 (r0 (.int .i64)) 1 A7_q24 c7_q24 o22.1] := hS.ext hS35
    refine WR.runk [3, 4, 5, 6, 7] [] [1, 2, 7, 8, 11, 12] (L' := [(1, .slice A1 l1.length c1), (2, .int .u8 a2), (7, .slice A7_q24 o22.1.length c7_q24), (8, .int .i64 o22.2), (11, pv36), (12, .int .i64 r27.2)]) (w' := w34) (by kernel_rfl) ?_
    refine WR.nil ?_
    refine At.go ?_
    refine WC.seq (by kernel_rfl) ?_
    refine WC.seq (by kernel_rfl) ?_
    refine WC.reg [0, 1] (by kernel_rfl) (by kernel_rfl) ?_
    refine WR.runk [0, 1] [] [1, 2, 7, 8, 11, 61] (L' := [(1, .slice A1 l1.length c1), (2, .int .u8 a2), (7, .slice A7_q24 o22.1.length c7_q24), (8, .int .i64 o22.2), (11, pv36), (61, .bool (r27.2 != 0))]) (w' := w34) (by kernel_rfl) ?_
    refine WR.nil ?_
    refine At.go ?_
    refine WC.cond (by kernel_rfl) (r27.2 != 0) (by kernel_rfl) (by kernel_rfl) (fun hb37 => ?_) (fun hb37 => ?_)
    · replace H := ite_t H hb37
      refine WC.seq (by kernel_rfl) ?_
      refine WC.reg [0, 1, 2, 3] (by kernel_rfl) (by kernel_rfl) ?_
      refine WR.runk [0, 1, 2, 3] [] [6] (L' := [(6, .bool ((o22.1.length : Int) == 0))]) (w' := w34) (by kernel_rfl) ?_
      refine WR.nil ?_
      refine At.go ?_
      refine WC.ret (by kernel_rfl) ?_
      refine At.thenRet ?_
      obtain rfl := Option.some.inj H
      have hS : Sat w34 (rf w0) [] := hS.sel [] (by kernel_rfl)
      exact At.body [.bool ((o22.1.length : Int) == 0)] (by kernel_rfl) ⟨_, rfl, rfl, hS⟩
    · replace H := ite_f H hb37
      refine WC.skip (by kernel_rfl) ?_
      refine At.go ?_
      refine WC.seq (by kernel_rfl) ?_
      refine WC.reg [0] (by kernel_rfl) (by kernel_rfl) ?_
      refine WR.runk [0] [] [1, 2, 7, 8, 11, 13] (L' := [(1, .slice A1 l1.length c1), (2, .int .u8 a2), (7, .slice A7_q24 o22.1.length c7_q24), (8, .int .i64 o22.2), (11, pv36), (13, .int .i64 0)]) (w' := w34) (by kernel_rfl) ?_
      refine WR.nil ?_
      refine At.go ?_
      refine WC.seq (by kernel_rfl) ?_
      refine WC.seq (by kernel_rfl) ?_
      refine WC.reg [0, 1, 2] (by kernel_rfl) (by kernel_rfl) ?_
      refine WR.runk [0, 1, 2] [] [1, 2, 8, 11, 13, 66, 67] (L' := [(1, .slice A1 l1.length c1), (2, .int .u8 a2), (8, .int .i64 o22.2), (11, pv36), (13, .int .i64 0), (66, .int .i64 (o22.1.length : Int)), (67, .int .i64 0)]) (w' := w34) (by kernel_rfl) ?_
      refine WR.nil ?_
      refine At.go ?_
      refine WC.block (by kernel_rfl) ?_
      obtain ⟨y38, hr39, H⟩ := bind_ex H
      obtain ⟨b41, hv40, hN206⟩ := optP.some hS hr39
      subst hv40
      have hS : Sat w34 (rf w0) [O46 b41 y38, osl 3 (r0 (.int .i64)) 1 A7_q24 c7_q24 o22.1] := hN206
      have hS : Sat w34 (rf w0) [O46 b41 y38] := hS.sel [0] (by kernel_rfl)
      obtain ⟨o61, e62, H⟩ := bind_ex H
      refine WC.loop (by kernel_rfl) ?_
      refine WL.weaken [1, 2, 8, 11, 13, 66, 67] (L' := [(1, .slice A1 l1.length c1), (2, .int .u8 a2), (8, .int .i64 o22.2), (11, .pointer (some ⟨b41, 0, none⟩)), (13, .int .i64 0), (66, .int .i64 (o22.1.length : Int)), (67, .int .i64 0)]) (by kernel_rfl) ?_
      refine colophonlaw23_FairTurns.l2_ok w0 A1 c1 l1 a2 o22 b41 R1 o61 (fun w64 hS => ?_) FU 0 0 y38 _ hS e62
      refine At.hit ?_
      refine At.go ?_
      refine WC.seq (by kernel_rfl) ?_
      refine WC.reg [0, 1, 2, 3] (by kernel_rfl) (by kernel_rfl) ?_
      refine WR.runk [0, 1, 2, 3] [] [8, 11, 15] (L' := [(8, .int .i64 o22.2), (11, .pointer (some ⟨b41, 0, none⟩)), (15, .int .i64 (Int.tmod (wi a2) 40))]) (w' := w64) (by kernel_rfl) ?_
      refine WR.nil ?_
      refine At.go ?_
      refine WC.seq (by kernel_rfl) ?_
      refine WC.reg [0, 1, 2, 3] (by kernel_rfl) (by kernel_rfl) ?_
      refine WR.runk [0, 1] [2, 3] [8, 11, 15, 88, 89] (L' := [(8, .int .i64 o22.2), (11, .pointer (some ⟨b41, 0, none⟩)), (15, .int .i64 (Int.tmod (wi a2) 40)), (88, .pointer (some ⟨b41, 0, none⟩)), (89, .int .i64 (Int.tmod (wi a2) 40))]) (w' := w64) (by kernel_rfl) ?_
      obtain ⟨r66, e67, H⟩ := bind_ex H
      obtain ⟨B72, hso71, hsub69, hcs70, hb68⟩ := Sat.lend [O46 b41 o61] (cs := []) hS
      refine WR.st (St.call (by kernel_rfl) (f := 13) (args := #[.pointer (some ⟨b41, 0, none⟩), .int .i64 (Int.tmod (wi a2) 40), .bool true]) (by kernel_rfl) (fair_Ring_Hold.calls B72 w64 b41 o61 hso71 (Int.tmod (wi a2) 40) true r66 e67) ?_)
      rintro _ w73 ⟨rfl, hS74⟩
      have hS : Sat w73 (rf w0) [O46 b41 r66.2] := hb68 _ _ hS74
      refine WR.runk [3] [] [8, 11, 15, 16] (L' := [(8, .int .i64 o22.2), (11, .pointer (some ⟨b41, 0, none⟩)), (15, .int .i64 (Int.tmod (wi a2) 40)), (16, .bool r66.1)]) (w' := w73) (by kernel_rfl) ?_
      refine WR.nil ?_
      refine At.go ?_
      refine WC.seq (by kernel_rfl) ?_
      refine WC.seq (by kernel_rfl) ?_
      refine WC.reg [0, 1, 2, 3, 4] (by kernel_rfl) (by kernel_rfl) ?_
      refine WR.runk [0, 1, 2, 3, 4] [] [8, 11, 15, 95] (L' := [(8, .int .i64 o22.2), (11, .pointer (some ⟨b41, 0, none⟩)), (15, .int .i64 (Int.tmod (wi a2) 40)), (95, .bool (r66.1 != (decide (Int.tmod (wi a2) 40 < o22.2))))]) (w' := w73) (by kernel_rfl) ?_
      refine WR.nil ?_
      refine At.go ?_
      refine WC.cond (by kernel_rfl) (r66.1 != (decide (Int.tmod (wi a2) 40 < o22.2))) (by kernel_rfl) (by kernel_rfl) (fun hb75 => ?_) (fun hb75 => ?_)
      · replace H := ite_t H hb75
        refine WC.seq (by kernel_rfl) ?_
        refine WC.reg [0] (by kernel_rfl) (by kernel_rfl) ?_
        refine WR.runk [0] [] [6] (L' := [(6, .bool false)]) (w' := w73) (by kernel_rfl) ?_
        refine WR.nil ?_
        refine At.go ?_
        refine WC.ret (by kernel_rfl) ?_
        refine At.thenRet ?_
        obtain rfl := Option.some.inj H
        have hS : Sat w73 (rf w0) [] := hS.sel [] (by kernel_rfl)
        exact At.body [.bool false] (by kernel_rfl) ⟨_, rfl, rfl, hS⟩
      · replace H := ite_f H hb75
        refine WC.skip (by kernel_rfl) ?_
        refine At.go ?_
        refine WC.seq (by kernel_rfl) ?_
        refine WC.reg [0] (by kernel_rfl) (by kernel_rfl) ?_
        refine WR.runk [] [0] [8, 11, 15] (L' := [(8, .int .i64 o22.2), (11, .pointer (some ⟨b41, 0, none⟩)), (15, .int .i64 (Int.tmod (wi a2) 40))]) (w' := w73) (by kernel_rfl) ?_
        refine WR.st (St.box hS (by kernel_rfl) (.cells ⟨List.replicate 40 (.int .i64 0)⟩ 42) (fun b76 => .pointer (some ⟨b76, 0, none⟩)) (fun _ => by kernel_rfl) (fun b76 w77 hS => ?_))
        have hS : Sat w77 (rf w0) [oar 42 (r0 (.int .i64)) 1 40 b76 (List.replicate 40 (0 : Int)), O46 b41 r66.2] := oar.ofPts (κ := (.int .i64)) 40 0 [.int .i64 0] (by kernel_rfl) (by kernel_rfl) rfl (by kernel_rfl) hS
        refine WR.runk [] [] [8, 11, 15, 17] (L' := [(8, .int .i64 o22.2), (11, .pointer (some ⟨b41, 0, none⟩)), (15, .int .i64 (Int.tmod (wi a2) 40)), (17, .pointer (some ⟨b76, 0, none⟩))]) (w' := w77) (by kernel_rfl) ?_
        refine WR.nil ?_
        refine At.go ?_
        refine WC.seq (by kernel_rfl) ?_
        refine WC.seq (by kernel_rfl) ?_
        refine WC.reg [0] (by kernel_rfl) (by kernel_rfl) ?_
        refine WR.runk [0] [] [8, 11, 15, 17, 96] (L' := [(8, .int .i64 o22.2), (11, .pointer (some ⟨b41, 0, none⟩)), (15, .int .i64 (Int.tmod (wi a2) 40)), (17, .pointer (some ⟨b76, 0, none⟩)), (96, .int .i64 0)]) (w' := w77) (by kernel_rfl) ?_
        refine WR.nil ?_
        refine At.go ?_
        refine WC.block (by kernel_rfl) ?_
        have hS : Sat w77 (rf w0) [O46 b41 r66.2, oar 42 (r0 (.int .i64)) 1 40 b76 (List.replicate 40 (0 : Int))] := hS.sel [1, 0] (by kernel_rfl)
        obtain ⟨o111, e112, H⟩ := bind_ex H
        refine WC.loop (by kernel_rfl) ?_
        refine WL.weaken [8, 11, 15, 17, 96] (L' := [(8, .int .i64 o22.2), (11, .pointer (some ⟨b41, 0, none⟩)), (15, .int .i64 (Int.tmod (wi a2) 40)), (17, .pointer (some ⟨b76, 0, none⟩)), (96, .int .i64 0)]) (by kernel_rfl) ?_
        refine colophonlaw23_FairTurns.l4_ok w0 a2 o22 b41 b76 o111 (fun o113 w115 ho116 hS => ?_) (fun o202 w204 ho205 hS => ?_) FU 0 r66.2 (List.replicate 40 (0 : Int)) _ hS e112
        · subst ho116
          dsimp only at H
          refine At.hit ?_
          refine At.go ?_
          refine WC.seq (by kernel_rfl) ?_
          refine WC.seq (by kernel_rfl) ?_
          refine WC.reg [0, 1] (by kernel_rfl) (by kernel_rfl) ?_
          refine WR.runk [0, 1] [] [15, 17, 124, 125] (L' := [(15, .int .i64 (Int.tmod (wi a2) 40)), (17, .pointer (some ⟨b76, 0, none⟩)), (124, .int .i64 o22.2), (125, .int .i64 0)]) (w' := w115) (by kernel_rfl) ?_
          refine WR.nil ?_
          refine At.go ?_
          refine WC.block (by kernel_rfl) ?_
          have hS : Sat w115 (rf w0) [oar 42 (r0 (.int .i64)) 1 40 b76 o113.2] := hS.sel [1] (by kernel_rfl)
          obtain ⟨o121, e122, H⟩ := bind_ex H
          refine WC.loop (by kernel_rfl) ?_
          refine WL.weaken [15, 17, 124, 125] (L' := [(15, .int .i64 (Int.tmod (wi a2) 40)), (17, .pointer (some ⟨b76, 0, none⟩)), (124, .int .i64 o22.2), (125, .int .i64 0)]) (by kernel_rfl) ?_
          refine colophonlaw23_FairTurns.l5_ok w0 a2 o22 b76 o113 o121 (fun o123 w125 ho126 hS => ?_) (fun o127 w129 ho130 hS => ?_) FU 0 _ hS e122
          · subst ho126
            dsimp only at H
            refine At.blockRet ?_
            refine At.thenRet ?_
            obtain rfl := Option.some.inj H
            have hS : Sat w125 (rf w0) [] := hS.sel [] (by kernel_rfl)
            exact At.body [.bool o123] (by kernel_rfl) ⟨_, rfl, rfl, hS⟩
          · subst ho130
            dsimp only at H
            refine At.hit ?_
            refine At.go ?_
            refine WC.seq (by kernel_rfl) ?_
            refine WC.reg [0] (by kernel_rfl) (by kernel_rfl) ?_
            refine WR.runk [0] [] [22] (L' := [(22, .pointer none)]) (w' := w129) (by kernel_rfl) ?_
            refine WR.nil ?_
            refine At.go ?_
            refine WC.seq (by kernel_rfl) ?_
            refine WC.reg [0, 1, 2, 3, 4, 5, 6, 7, 8] (by kernel_rfl) (by kernel_rfl) ?_
            refine WR.runk [0] [1, 2, 3, 4, 5, 6, 7, 8] [22, 138] (L' := [(22, .pointer none), (138, .pointer none)]) (w' := w129) (by kernel_rfl) ?_
            obtain ⟨r131, e132, H⟩ := bind_ex H
            refine WR.st (St.call (by kernel_rfl) (f := 10) (args := #[.pointer none]) (by kernel_rfl) (fair_Ring_Next_nil0.calls w129  r131 e132) ?_)
            rintro _ w138 ⟨rfl, hS139⟩
            have hS : Sat w138 (rf w0) [oar 42 (r0 (.int .i64)) 1 40 b76 o113.2] := hS.ext hS139
            refine WR.runk [2, 3, 4, 5, 6, 7, 8] [] [22, 23, 24, 25] (L' := [(22, .pointer none), (23, .int .i64 r131.1), (24, .int .i64 r131.2.1), (25, .bool r131.2.2)]) (w' := w138) (by kernel_rfl) ?_
            refine WR.nil ?_
            refine At.go ?_
            refine WC.seq (by kernel_rfl) ?_
            refine WC.reg [0, 1, 2, 3, 4, 5, 6, 7, 8, 9, 10, 11, 12, 13, 14, 15, 16, 17, 18, 19, 20, 21, 22, 23, 24, 25, 26, 27, 28, 29, 30, 31, 32, 33, 34, 35, 36, 37, 38, 39, 40] (by kernel_rfl) (by kernel_rfl) ?_
            refine WR.runk [0, 1, 2] [3, 4, 5, 6, 7, 8, 9, 10, 11, 12, 13, 14, 15, 16, 17, 18, 19, 20, 21, 22, 23, 24, 25, 26, 27, 28, 29, 30, 31, 32, 33, 34, 35, 36, 37, 38, 39, 40] [22, 24, 25, 145] (L' := [(22, .pointer none), (24, .int .i64 r131.2.1), (25, .bool r131.2.2), (145, .bool (r131.1 == (-1)))]) (w' := w138) (by kernel_rfl) ?_
            refine WR.split 145 (b := (r131.1 == (-1))) (by kernel_rfl) (fun hb140 => ?_) (fun hb140 => ?_)
            · replace H := ite_t H hb140
              refine WR.runk [3, 4, 5, 6] [7, 8, 9, 10, 11, 12, 13, 14, 15, 16, 17, 18, 19, 20, 21, 22, 23, 24, 25, 26, 27, 28, 29, 30, 31, 32, 33, 34, 35, 36, 37, 38, 39, 40] [22, 25, 149] (L' := [(22, .pointer none), (25, .bool r131.2.2), (149, .bool (r131.2.1 == (-1)))]) (w' := w138) (by kernel_rfl) ?_
              refine WR.split 149 (b := (r131.2.1 == (-1))) (by kernel_rfl) (fun hb141 => ?_) (fun hb141 => ?_)
              · replace H := ite_t H hb141
                refine WR.runk [7, 8, 9, 10] [11, 12, 13, 14, 15, 16, 17, 18, 19, 20, 21, 22, 23, 24, 25, 26, 27, 28, 29, 30, 31, 32, 33, 34, 35, 36, 37, 38, 39, 40] [22, 153] (L' := [(22, .pointer none), (153, .bool (!r131.2.2))]) (w' := w138) (by kernel_rfl) ?_
                refine WR.split 153 (b := (!r131.2.2)) (by kernel_rfl) (fun hb142 => ?_) (fun hb142 => ?_)
                · replace H := ite_t H hb142
                  refine WR.runk [11] [12, 13, 14, 15, 16, 17, 18, 19, 20, 21, 22, 23, 24, 25, 26, 27, 28, 29, 30, 31, 32, 33, 34, 35, 36, 37, 38, 39, 40] [22, 153, 154] (L' := [(22, .pointer none), (153, .bool true), (154, .pointer none)]) (w' := w138) (by kernel_rfl) ?_
                  obtain ⟨r143, e144, H⟩ := bind_ex H
                  refine WR.st (St.call (by kernel_rfl) (f := 9) (args := #[.pointer none, .int .i64 0, .int .i64 0]) (by kernel_rfl) (fair_Ring_Add_nil0.calls w138 0 0 r143 e144) ?_)
                  rintro _ w150 ⟨rfl, hS151⟩
                  have hS : Sat w150 (rf w0) [oar 42 (r0 (.int .i64)) 1 40 b76 o113.2] := hS.ext hS151
                  refine WR.runk [13, 14, 15] [16, 17, 18, 19, 20, 21, 22, 23, 24, 25, 26, 27, 28, 29, 30, 31, 32, 33, 34, 35, 36, 37, 38, 39, 40] [22, 158] (L' := [(22, .pointer none), (158, .bool (!r143))]) (w' := w150) (by kernel_rfl) ?_
                  refine WR.split 158 (b := (!r143)) (by kernel_rfl) (fun hb152 => ?_) (fun hb152 => ?_)
                  · replace H := ite_t H hb152
                    refine WR.runk [16] [17, 18, 19, 20, 21, 22, 23, 24, 25, 26, 27, 28, 29, 30, 31, 32, 33, 34, 35, 36, 37, 38, 39, 40] [22, 158, 159] (L' := [(22, .pointer none), (158, .bool true), (159, .pointer none)]) (w' := w150) (by kernel_rfl) ?_
                    obtain ⟨r153, e154, H⟩ := bind_ex H
                    refine WR.st (St.call (by kernel_rfl) (f := 14) (args := #[.pointer none, .int .i64 0]) (by kernel_rfl) (fair_Ring_Take_nil0.calls w150 0 r153 e154) ?_)
                    rintro _ w160 ⟨rfl, hS161⟩
                    have hS : Sat w160 (rf w0) [oar 42 (r0 (.int .i64)) 1 40 b76 o113.2] := hS.ext hS161
                    refine WR.runk [18, 19, 20] [21, 22, 23, 24, 25, 26, 27, 28, 29, 30, 31, 32, 33, 34, 35, 36, 37, 38, 39, 40] [22, 163] (L' := [(22, .pointer none), (163, .bool (!r153))]) (w' := w160) (by kernel_rfl) ?_
                    refine WR.split 163 (b := (!r153)) (by kernel_rfl) (fun hb162 => ?_) (fun hb162 => ?_)
                    · replace H := ite_t H hb162
                      refine WR.runk [21] [22, 23, 24, 25, 26, 27, 28, 29, 30, 31, 32, 33, 34, 35, 36, 37, 38, 39, 40] [22, 163, 164] (L' := [(22, .pointer none), (163, .bool true), (164, .pointer none)]) (w' := w160) (by kernel_rfl) ?_
                      obtain ⟨r163, e164, H⟩ := bind_ex H
                      refine WR.st (St.call (by kernel_rfl) (f := 13) (args := #[.pointer none, .int .i64 0, .bool true]) (by kernel_rfl) (fair_Ring_Hold_nil0.calls w160 0 true r163 e164) ?_)
                      rintro _ w170 ⟨rfl, hS171⟩
                      have hS : Sat w170 (rf w0) [oar 42 (r0 (.int .i64)) 1 40 b76 o113.2] := hS.ext hS171
                      refine WR.runk [23, 24, 25] [26, 27, 28, 29, 30, 31, 32, 33, 34, 35, 36, 37, 38, 39, 40] [22, 168] (L' := [(22, .pointer none), (168, .bool (!r163))]) (w' := w170) (by kernel_rfl) ?_
                      refine WR.split 168 (b := (!r163)) (by kernel_rfl) (fun hb172 => ?_) (fun hb172 => ?_)
                      · replace H := ite_t H hb172
                        refine WR.runk [26] [27, 28, 29, 30, 31, 32, 33, 34, 35, 36, 37, 38, 39, 40] [22, 168, 169] (L' := [(22, .pointer none), (168, .bool true), (169, .pointer none)]) (w' := w170) (by kernel_rfl) ?_
                        obtain ⟨r173, e174, H⟩ := bind_ex H
                        refine WR.st (St.call (by kernel_rfl) (f := 11) (args := #[.pointer none, .int .i64 0]) (by kernel_rfl) (fair_Ring_Charge_nil0.calls w170 0 r173 e174) ?_)
                        rintro _ w180 ⟨rfl, hS181⟩
                        have hS : Sat w180 (rf w0) [oar 42 (r0 (.int .i64)) 1 40 b76 o113.2] := hS.ext hS181
                        refine WR.runk [28, 29, 30] [31, 32, 33, 34, 35, 36, 37, 38, 39, 40] [22, 173] (L' := [(22, .pointer none), (173, .bool (!r173))]) (w' := w180) (by kernel_rfl) ?_
                        refine WR.split 173 (b := (!r173)) (by kernel_rfl) (fun hb182 => ?_) (fun hb182 => ?_)
                        · replace H := ite_t H hb182
                          refine WR.runk [31] [32, 33, 34, 35, 36, 37, 38, 39, 40] [22, 173, 174] (L' := [(22, .pointer none), (173, .bool true), (174, .pointer none)]) (w' := w180) (by kernel_rfl) ?_
                          obtain ⟨r183, e184, H⟩ := bind_ex H
                          refine WR.st (St.call (by kernel_rfl) (f := 12) (args := #[.pointer none, .int .i64 0]) (by kernel_rfl) (fair_Ring_Spent.calls w180 (.pointer none) none rfl 0 r183 e184) ?_)
                          rintro _ w190 ⟨rfl, hS191⟩
                          have hS : Sat w190 (rf w0) [oar 42 (r0 (.int .i64)) 1 40 b76 o113.2] := hS.ext hS191
                          refine WR.runk [33, 34, 35] [36, 37, 38, 39, 40] [22, 178] (L' := [(22, .pointer none), (178, .bool (r183 == 0))]) (w' := w190) (by kernel_rfl) ?_
                          refine WR.split 178 (b := (r183 == 0)) (by kernel_rfl) (fun hb192 => ?_) (fun hb192 => ?_)
                          · replace H := ite_t H hb192
                            refine WR.runk [36] [37, 38, 39, 40] [178, 179] (L' := [(178, .bool true), (179, .pointer none)]) (w' := w190) (by kernel_rfl) ?_
                            obtain ⟨r193, e194, H⟩ := bind_ex H
                            refine WR.st (St.call (by kernel_rfl) (f := 15) (args := #[.pointer none, .int .i64 0]) (by kernel_rfl) (fair_Ring_Credit.calls w190 (.pointer none) none rfl 0 r193 e194) ?_)
                            rintro _ w200 ⟨rfl, hS201⟩
                            have hS : Sat w200 (rf w0) [oar 42 (r0 (.int .i64)) 1 40 b76 o113.2] := hS.ext hS201
                            refine WR.runk [38, 39, 40] [] [6] (L' := [(6, .bool (r193 == 0))]) (w' := w200) (by kernel_rfl) ?_
                            refine WR.nil ?_
                            refine At.go ?_
                            refine WC.ret (by kernel_rfl) ?_
                            obtain rfl := Option.some.inj H
                            have hS : Sat w200 (rf w0) [] := hS.sel [] (by kernel_rfl)
                            exact At.body [.bool (r193 == 0)] (by kernel_rfl) ⟨_, rfl, rfl, hS⟩
                          · replace H := ite_f H hb192
                            refine WR.runk [36, 37, 38, 39, 40] [] [6] (L' := [(6, .bool false)]) (w' := w190) (by kernel_rfl) ?_
                            refine WR.nil ?_
                            refine At.go ?_
                            refine WC.ret (by kernel_rfl) ?_
                            obtain rfl := Option.some.inj H
                            have hS : Sat w190 (rf w0) [] := hS.sel [] (by kernel_rfl)
                            exact At.body [.bool false] (by kernel_rfl) ⟨_, rfl, rfl, hS⟩
                        · replace H := ite_f H hb182
                          refine WR.runk [31, 32, 33, 34, 35, 36, 37, 38, 39, 40] [] [6] (L' := [(6, .bool false)]) (w' := w180) (by kernel_rfl) ?_
                          refine WR.nil ?_
                          refine At.go ?_
                          refine WC.ret (by kernel_rfl) ?_
                          obtain rfl := Option.some.inj H
                          have hS : Sat w180 (rf w0) [] := hS.sel [] (by kernel_rfl)
                          exact At.body [.bool false] (by kernel_rfl) ⟨_, rfl, rfl, hS⟩
                      · replace H := ite_f H hb172
                        refine WR.runk [26, 27, 28, 29, 30, 31, 32, 33, 34, 35, 36, 37, 38, 39, 40] [] [6] (L' := [(6, .bool false)]) (w' := w170) (by kernel_rfl) ?_
                        refine WR.nil ?_
                        refine At.go ?_
                        refine WC.ret (by kernel_rfl) ?_
                        obtain rfl := Option.some.inj H
                        have hS : Sat w170 (rf w0) [] := hS.sel [] (by kernel_rfl)
                        exact At.body [.bool false] (by kernel_rfl) ⟨_, rfl, rfl, hS⟩
                    · replace H := ite_f H hb162
                      refine WR.runk [21, 22, 23, 24, 25, 26, 27, 28, 29, 30, 31, 32, 33, 34, 35, 36, 37, 38, 39, 40] [] [6] (L' := [(6, .bool false)]) (w' := w160) (by kernel_rfl) ?_
                      refine WR.nil ?_
                      refine At.go ?_
                      refine WC.ret (by kernel_rfl) ?_
                      obtain rfl := Option.some.inj H
                      have hS : Sat w160 (rf w0) [] := hS.sel [] (by kernel_rfl)
                      exact At.body [.bool false] (by kernel_rfl) ⟨_, rfl, rfl, hS⟩
                  · replace H := ite_f H hb152
                    refine WR.runk [16, 17, 18, 19, 20, 21, 22, 23, 24, 25, 26, 27, 28, 29, 30, 31, 32, 33, 34, 35, 36, 37, 38, 39, 40] [] [6] (L' := [(6, .bool false)]) (w' := w150) (by kernel_rfl) ?_
                    refine WR.nil ?_
                    refine At.go ?_
                    refine WC.ret (by kernel_rfl) ?_
                    obtain rfl := Option.some.inj H
                    have hS : Sat w150 (rf w0) [] := hS.sel [] (by kernel_rfl)
                    exact At.body [.bool false] (by kernel_rfl) ⟨_, rfl, rfl, hS⟩
                · replace H := ite_f H hb142
                  refine WR.runk [11, 12, 13, 14, 15, 16, 17, 18, 19, 20, 21, 22, 23, 24, 25, 26, 27, 28, 29, 30, 31, 32, 33, 34, 35, 36, 37, 38, 39, 40] [] [6] (L' := [(6, .bool false)]) (w' := w138) (by kernel_rfl) ?_
                  refine WR.nil ?_
                  refine At.go ?_
                  refine WC.ret (by kernel_rfl) ?_
                  obtain rfl := Option.some.inj H
                  have hS : Sat w138 (rf w0) [] := hS.sel [] (by kernel_rfl)
                  exact At.body [.bool false] (by kernel_rfl) ⟨_, rfl, rfl, hS⟩
              · replace H := ite_f H hb141
                refine WR.runk [7, 8, 9, 10, 11, 12, 13, 14, 15, 16, 17, 18, 19, 20, 21, 22, 23, 24, 25, 26, 27, 28, 29, 30, 31, 32, 33, 34, 35, 36, 37, 38, 39, 40] [] [6] (L' := [(6, .bool false)]) (w' := w138) (by kernel_rfl) ?_
                refine WR.nil ?_
                refine At.go ?_
                refine WC.ret (by kernel_rfl) ?_
                obtain rfl := Option.some.inj H
                have hS : Sat w138 (rf w0) [] := hS.sel [] (by kernel_rfl)
                exact At.body [.bool false] (by kernel_rfl) ⟨_, rfl, rfl, hS⟩
            · replace H := ite_f H hb140
              refine WR.runk [3, 4, 5, 6, 7, 8, 9, 10, 11, 12, 13, 14, 15, 16, 17, 18, 19, 20, 21, 22, 23, 24, 25, 26, 27, 28, 29, 30, 31, 32, 33, 34, 35, 36, 37, 38, 39, 40] [] [6] (L' := [(6, .bool false)]) (w' := w138) (by kernel_rfl) ?_
              refine WR.nil ?_
              refine At.go ?_
              refine WC.ret (by kernel_rfl) ?_
              obtain rfl := Option.some.inj H
              have hS : Sat w138 (rf w0) [] := hS.sel [] (by kernel_rfl)
              exact At.body [.bool false] (by kernel_rfl) ⟨_, rfl, rfl, hS⟩
        · subst ho205
          dsimp only at H
          refine At.blockRet ?_
          refine At.thenRet ?_
          obtain rfl := Option.some.inj H
          have hS : Sat w204 (rf w0) [] := hS.sel [] (by kernel_rfl)
          exact At.body [.bool o202.1] (by kernel_rfl) ⟨_, rfl, rfl, hS⟩
end Go.Proofs.Ytnffhpnlehcoiaa
