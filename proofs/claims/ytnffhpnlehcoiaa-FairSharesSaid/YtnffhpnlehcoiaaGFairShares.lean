/-
  Printed by gen.py (my own tool): for each Go function a plain Lean function and the proof that a call of it does what that function says.
-/
import Derived.Test.YtnffhpnlehcoiaaGP1c
import Derived.Test.YtnffhpnlehcoiaaGN
set_option linter.unusedVariables false
set_option linter.unusedSimpArgs false
set_option maxRecDepth 100000
namespace Go.Proofs.Ytnffhpnlehcoiaa
open Go Go.Gol
/-! ### 3 colophon/colophonlaw23.FairShares -/
def colophonlaw23_FairShares.l1 (l1 : List Int) : Nat → (List Int) → Int → Option (List Int)
  | 0, _, _ => none
  | k + 1, x7_l1, x28_l1 => (if decide (x28_l1 < (l1.length : Int)) then ((at? l1 x28_l1).bind fun v12 => (if decide (x28_l1 < 8) then ((app? 17592186044416 x7_l1 ([wi (1 + (wi (Int.tmod v12 16)))] : List Int)).bind fun y18 => colophonlaw23_FairShares.l1 l1 k y18 (wi (x28_l1 + 1))) else colophonlaw23_FairShares.l1 l1 k x7_l1 (wi (x28_l1 + 1)))) else some x7_l1)
def colophonlaw23_FairShares.l2 (l2 : List Int) (o22 : (List Int)) : Nat → Int → (Int × (List (Option (Int × Int × Int × (List (Int × Bool))))) × Int × Bool × Int × Bool) → Option (Int × (List (Option (Int × Int × Int × (List (Int × Bool))))) × Int × Bool × Int × Bool)
  | 0, _, _ => none
  | k + 1, x61_l2, q42_l2 => (if decide (x61_l2 < (o22.length : Int)) then ((fair_Ring_Add.f q42_l2 x61_l2 (wi (2 * x61_l2))).bind fun r44 => ((fair_Ring_Add.f r44.2 x61_l2 (wi ((wi (2 * x61_l2)) + 1))).bind fun r53 => colophonlaw23_FairShares.l2 l2 o22 k (wi (x61_l2 + 1)) r53.2)) else some q42_l2)
def colophonlaw23_FairShares.j2 (l2 : List Int) (x76_l3 : Int) : Option Int := (if decide (x76_l3 < (l2.length : Int)) then ((at? l2 x76_l3).bind fun v84 => some (wi (Int.tmod v84 4))) else some (Int.tmod (wi (x76_l3 * x76_l3)) 4))
def colophonlaw23_FairShares.j3 (r74 : Int × Int × Bool × (Int × (List (Option (Int × Int × Int × (List (Int × Bool))))) × Int × Bool × Int × Bool)) (o86 : Int) : Option (Bool × (Int × (List (Option (Int × Int × Int × (List (Int × Bool))))) × Int × Bool × Int × Bool)) := (if (!r74.2.2.1) then some (true, r74.2.2.2) else ((fair_Ring_Charge.f r74.2.2.2 o86).bind fun r92 => some ((!r92.1), r92.2)))
def colophonlaw23_FairShares.l5 (a0 : Int) (o22 : (List Int)) (o101 : Bool × (Int × (List (Option (Int × Int × Int × (List (Int × Bool))))) × Int × Bool × Int × Bool)) (x109_l4 : Int) : Nat → Int → (List Int) → (List Int) → Option (Sum (Bool × (List Int) × (List Int)) ((List Int) × (List Int)))
  | 0, _, _, _ => none
  | k + 1, x113_l5, q69_l5, q72_l5 => (if decide (x113_l5 < x109_l4) then ((at? o22 x113_l5).bind fun v111 => ((at? o22 x109_l4).bind fun v113 => ((fair_Ring_Spent.f (some o101.2) x109_l4).bind fun r115 => ((fair_Ring_Spent.f (some o101.2) x113_l5).bind fun r124 => ((chk? (decide (0 ≤ x109_l4) && decide (x109_l4 < 8))).bind fun _ => ((chk? (decide (0 ≤ x113_l5) && decide (x113_l5 < 8))).bind fun _ => ((at? q69_l5 (x109_l4 * 8 + x113_l5)).bind fun v137 => ((chk? (decide (0 ≤ x109_l4) && decide (x109_l4 < 8))).bind fun _ => ((chk? (decide (0 ≤ x113_l5) && decide (x113_l5 < 8))).bind fun _ => ((at? q72_l5 (x109_l4 * 8 + x113_l5)).bind fun v141 => ((chk? (decide (0 ≤ x109_l4) && decide (x109_l4 < 8))).bind fun _ => ((chk? (decide (0 ≤ x113_l5) && decide (x113_l5 < 8))).bind fun _ => ((at? q69_l5 (x109_l4 * 8 + x113_l5)).bind fun v145 => ((chk? (decide (0 ≤ x109_l4) && decide (x109_l4 < 8))).bind fun _ => ((set? q69_l5 (x109_l4 * 8 + x113_l5) (imin v137 (wi ((wi (r115 * v111)) - (wi (r124 * v113)))))).bind fun y148 => ((chk? (decide (0 ≤ x113_l5) && decide (x113_l5 < 8))).bind fun _ => ((at? q72_l5 (x109_l4 * 8 + x113_l5)).bind fun v154 => ((set? q72_l5 (x109_l4 * 8 + x113_l5) (imax v141 (wi ((wi (r115 * v111)) - (wi (r124 * v113)))))).bind fun y156 => ((chk? (decide (0 ≤ x109_l4) && decide (x109_l4 < 8))).bind fun _ => ((chk? (decide (0 ≤ x113_l5) && decide (x113_l5 < 8))).bind fun _ => ((at? y156 (x109_l4 * 8 + x113_l5)).bind fun v165 => ((chk? (decide (0 ≤ x109_l4) && decide (x109_l4 < 8))).bind fun _ => ((chk? (decide (0 ≤ x113_l5) && decide (x113_l5 < 8))).bind fun _ => ((at? y148 (x109_l4 * 8 + x113_l5)).bind fun v169 => (if decide (wi (v165 - v169) > wi ((wi ((wi ((wi (1 + (wi (Int.tmod (IntKind.wrap .u64 a0) 40)))) + 6)) * v113)) * v111)) then some (.inl (false, y148, y156)) else colophonlaw23_FairShares.l5 a0 o22 o101 x109_l4 k (wi (x113_l5 + 1)) y148 y156))))))))))))))))))))))))) else some (.inr (q69_l5, q72_l5)))
def colophonlaw23_FairShares.l4 (a0 : Int) (o22 : (List Int)) (o101 : Bool × (Int × (List (Option (Int × Int × Int × (List (Int × Bool))))) × Int × Bool × Int × Bool)) : Nat → Int → (List Int) → (List Int) → Option (Sum (Bool × (List Int) × (List Int)) ((List Int) × (List Int)))
  | 0, _, _, _ => none
  | k + 1, x109_l4, q69_l4, q72_l4 => (if decide (x109_l4 < (o22.length : Int)) then ((colophonlaw23_FairShares.l5 a0 o22 o101 x109_l4 FU 0 q69_l4 q72_l4).bind fun o172 => (match o172 with | .inl o174 => some (.inl (o174.1, o174.2.1, o174.2.2)) | .inr o178 => colophonlaw23_FairShares.l4 a0 o22 o101 k (wi (x109_l4 + 1)) o178.1 o178.2)) else some (.inr (q69_l4, q72_l4)))
def colophonlaw23_FairShares.l3 (a0 : Int) (l2 : List Int) (o22 : (List Int)) : Nat → Int → (Int × (List (Option (Int × Int × Int × (List (Int × Bool))))) × Int × Bool × Int × Bool) → (List Int) → (List Int) → Option (Sum (Bool × (Int × (List (Option (Int × Int × Int × (List (Int × Bool))))) × Int × Bool × Int × Bool) × (List Int) × (List Int)) ((Int × (List (Option (Int × Int × Int × (List (Int × Bool))))) × Int × Bool × Int × Bool) × (List Int) × (List Int)))
  | 0, _, _, _, _ => none
  | k + 1, x76_l3, q42_l3, q69_l3, q72_l3 => (if decide (x76_l3 < 2000) then ((fair_Ring_Next.f q42_l3).bind fun r74 => ((colophonlaw23_FairShares.j2 l2 x76_l3).bind fun o86 => ((colophonlaw23_FairShares.j3 r74 o86).bind fun o101 => (if o101.1 then some (.inl (false, o101.2, q69_l3, q72_l3)) else ((colophonlaw23_FairShares.l4 a0 o22 o101 FU 0 q69_l3 q72_l3).bind fun o182 => (match o182 with | .inl o184 => some (.inl (o184.1, o101.2, o184.2.1, o184.2.2)) | .inr o188 => colophonlaw23_FairShares.l3 a0 l2 o22 k (wi (x76_l3 + 1)) o101.2 o188.1 o188.2)))))) else some (.inr (q42_l3, q69_l3, q72_l3)))
def colophonlaw23_FairShares.f (a0 : Int) (l1 : List Int) (l2 : List Int) : Option Bool := (colophonlaw23_first.f.bind fun r1 => (if (!r1) then some false else ((colophonlaw23_FairShares.l1 l1 FU ([] : List Int) 0).bind fun o22 => ((fair_New.f (wi (1 + (wi (Int.tmod (IntKind.wrap .u64 a0) 40)))) o22).bind fun r27 => (if ((o22.length : Int) == 0) then some (r27.2 == 2) else (r27.1.bind fun y38 => ((colophonlaw23_FairShares.l2 l2 o22 FU 0 y38).bind fun o62 => ((colophonlaw23_FairShares.l3 a0 l2 o22 FU 0 o62 (List.replicate 64 (0 : Int)) (List.replicate 64 (0 : Int))).bind fun o192 => (match o192 with | .inl o194 => some o194.1 | .inr o198 => some true)))))))))
def colophonlaw23_FairShares.post (w : World) (r : Bool) (v : Value) (w' : World) : Prop := v = (.bool r : Value) ∧ Sat w' (rf w) []
theorem colophonlaw23_FairShares.l1_ok {Q} (w0 : World) (a0 : Int) (A1 : Option Addr) (c1 : Nat) (l1 : List Int) (A2 : Option Addr) (c2 : Nat) (l2 : List Int) (R1 : rdS (r0 (.int .u8)) 1 (hp w0) A1 c1 l1) (out : (List Int)) (hn0 : ∀ (A7_q : Option Addr) (c7_q : Nat) (w : World), Sat w (rf w0) [osl 3 (r0 (.int .i64)) 1 A7_q c7_q out] → At Q (.exit 0) 182 [(0, .int .i64 a0), (2, .slice A2 l2.length c2), (7, .slice A7_q out.length c7_q)] w) :
    ∀ (k : Nat) (x7_l1 : List Int) (x28_l1 : Int) (A7_l1 : Option Addr) (c7_l1 : Nat) (w : World), Sat w (rf w0) [osl 3 (r0 (.int .i64)) 1 A7_l1 c7_l1 x7_l1] → colophonlaw23_FairShares.l1 l1 k x7_l1 x28_l1 = some out → WL Try.prog (cbody (cbody (cr (cl (cr (cr (cr C3))))))) Q 182 [(0, .int .i64 a0), (2, .slice A2 l2.length c2), (7, .slice A7_l1 x7_l1.length c7_l1), (26, .slice A1 l1.length c1), (27, .int .i64 (l1.length : Int)), (28, .int .i64 x28_l1)] w := by
  intro k
  induction k with
  | zero => intro x7_l1 x28_l1 A7_l1 c7_l1 w hS H; exact absurd (show none = some out from H) (by simp)
  | succ k ih =>
    intro x7_l1 x28_l1 A7_l1 c7_l1 w hS H
    unfold colophonlaw23_FairShares.l1 at H
    refine WL.round ?_
    refine WC.seq (by kernel_rfl) ?_
    refine WC.reg [0] (by kernel_rfl) (by kernel_rfl) ?_
    refine WR.runk [0] [] [0, 2, 7, 26, 27, 28, 29] (L' := [(0, .int .i64 a0), (2, .slice A2 l2.length c2), (7, .slice A7_l1 x7_l1.length c7_l1), (26, .slice A1 l1.length c1), (27, .int .i64 (l1.length : Int)), (28, .int .i64 x28_l1), (29, .bool (decide (x28_l1 < (l1.length : Int))))]) (w' := w) (by kernel_rfl) ?_
    refine WR.nil ?_
    refine At.go ?_
    refine WC.seq (by kernel_rfl) ?_
    refine WC.cond (by kernel_rfl) (decide (x28_l1 < (l1.length : Int))) (by kernel_rfl) (by kernel_rfl) (fun hb11 => ?_) (fun hb11 => ?_)
    · replace H := ite_t H hb11
      refine WC.skip (by kernel_rfl) ?_
      refine At.go ?_
      refine WC.seq (by kernel_rfl) ?_
      refine WC.block (by kernel_rfl) ?_
      refine WC.seq (by kernel_rfl) ?_
      refine WC.reg [0, 1, 2, 3, 4] (by kernel_rfl) (by kernel_rfl) ?_
      refine WR.runk [0] [1, 2, 3, 4] [0, 2, 7, 26, 27, 28, 30] (L' := [(0, .int .i64 a0), (2, .slice A2 l2.length c2), (7, .slice A7_l1 x7_l1.length c7_l1), (26, .slice A1 l1.length c1), (27, .int .i64 (l1.length : Int)), (28, .int .i64 x28_l1), (30, .int .i64 x28_l1)]) (w' := w) (by kernel_rfl) ?_
      obtain ⟨v12, e13, H⟩ := bind_ex H
      refine WR.st (St.ofP (PSt.idx (k := .i64) (.tmp 26) (.tmp 28) (by kernel_rfl) (by kernel_rfl) E22 (by kernel_rfl) (by kernel_rfl) (rdS.up R1 hS.sub0) e13 ?_))
      refine WR.runk [] [2, 3, 4] [0, 2, 7, 26, 27, 28, 30, 31] (L' := [(0, .int .i64 a0), (2, .slice A2 l2.length c2), (7, .slice A7_l1 x7_l1.length c7_l1), (26, .slice A1 l1.length c1), (27, .int .i64 (l1.length : Int)), (28, .int .i64 x28_l1), (30, .int .i64 x28_l1), (31, .pointer (some (adr A1 x28_l1.toNat 1)))]) (w' := w) (by kernel_rfl) ?_
      refine WR.st (St.ofR (RSt.loadInt (t := 5) (.tmp 31) (by kernel_rfl) (by kernel_rfl) (by kernel_rfl) (by kernel_rfl) (rdS.up R1 hS.sub0) e13 ?_))
      refine WR.runk [3, 4] [] [0, 2, 7, 8, 9, 26, 27, 28] (L' := [(0, .int .i64 a0), (2, .slice A2 l2.length c2), (7, .slice A7_l1 x7_l1.length c7_l1), (8, .int .i64 x28_l1), (9, .int .u8 v12), (26, .slice A1 l1.length c1), (27, .int .i64 (l1.length : Int)), (28, .int .i64 x28_l1)]) (w' := w) (by kernel_rfl) ?_
      refine WR.nil ?_
      refine At.go ?_
      refine WC.seq (by kernel_rfl) ?_
      refine WC.reg [0, 1] (by kernel_rfl) (by kernel_rfl) ?_
      refine WR.runk [0, 1] [] [0, 2, 7, 9, 26, 27, 28, 34] (L' := [(0, .int .i64 a0), (2, .slice A2 l2.length c2), (7, .slice A7_l1 x7_l1.length c7_l1), (9, .int .u8 v12), (26, .slice A1 l1.length c1), (27, .int .i64 (l1.length : Int)), (28, .int .i64 x28_l1), (34, .bool (decide (x28_l1 < 8)))]) (w' := w) (by kernel_rfl) ?_
      refine WR.nil ?_
      refine At.go ?_
      refine WC.cond (by kernel_rfl) (decide (x28_l1 < 8)) (by kernel_rfl) (by kernel_rfl) (fun hb14 => ?_) (fun hb14 => ?_)
      · replace H := ite_t H hb14
        refine WC.reg [0, 1, 2, 3, 4, 5, 6, 7] (by kernel_rfl) (by kernel_rfl) ?_
        refine WR.runk [0, 1, 2, 3, 4] [5, 6, 7] [0, 2, 7, 26, 27, 28, 35, 39] (L' := [(0, .int .i64 a0), (2, .slice A2 l2.length c2), (7, .slice A7_l1 x7_l1.length c7_l1), (26, .slice A1 l1.length c1), (27, .int .i64 (l1.length : Int)), (28, .int .i64 x28_l1), (35, .slice A7_l1 x7_l1.length c7_l1), (39, .int .i64 (wi (1 + (wi (Int.tmod v12 16)))))]) (w' := w) (by kernel_rfl) ?_
        refine WR.st (St.box hS (by kernel_rfl) (.cells #[.int .i64 (wi (1 + (wi (Int.tmod v12 16))))] 3) (fun b15 => .slice (some ⟨b15, 0, none⟩) 1 1) (fun _ => by kernel_rfl) (fun b15 w16 hS => ?_))
        refine WR.runk [] [6, 7] [0, 2, 7, 26, 27, 28, 35, 40] (L' := [(0, .int .i64 a0), (2, .slice A2 l2.length c2), (7, .slice A7_l1 x7_l1.length c7_l1), (26, .slice A1 l1.length c1), (27, .int .i64 (l1.length : Int)), (28, .int .i64 x28_l1), (35, .slice A7_l1 x7_l1.length c7_l1), (40, .slice (some ⟨b15, 0, none⟩) 1 1)]) (w' := w16) (by kernel_rfl) ?_
        have hS : Sat w16 (rf w0) [osl 3 (r0 (.int .i64)) 1 A7_l1 c7_l1 x7_l1, pts b15 (.cells #[.int .i64 (wi (1 + (wi (Int.tmod v12 16))))] 3 (0, 0))] := hS.sel [1, 0] (by kernel_rfl)
        obtain ⟨y18, e17, H⟩ := bind_ex H
        refine WR.st (St.append' (.tmp 35) (.tmp 40) (by kernel_rfl) (by kernel_rfl) E24 (r0_one _) hS (by kernel_rfl) (by kernel_rfl) (Sat.ptsAt 1 (r0 (.int .i64)) 1 ([wi (1 + (wi (Int.tmod v12 16)))] : List Int) hS rfl rfl (rdL.cons1 rfl (rdL.nil _ _))) 17592186044416 (by kernel_rfl) (by kernel_rfl) e17 (fun A19 c20 w21 hS => ?_))
        refine WR.runk [7] [] [0, 2, 7, 26, 27, 28] (L' := [(0, .int .i64 a0), (2, .slice A2 l2.length c2), (7, .slice A19 y18.length c20), (26, .slice A1 l1.length c1), (27, .int .i64 (l1.length : Int)), (28, .int .i64 x28_l1)]) (w' := w21) (by kernel_rfl) ?_
        refine WR.nil ?_
        refine At.blockNormal ?_
        refine At.go ?_
        refine WC.reg [0, 1] (by kernel_rfl) (by kernel_rfl) ?_
        refine WR.runk [0, 1] [] [0, 2, 7, 26, 27, 28] (L' := [(0, .int .i64 a0), (2, .slice A2 l2.length c2), (7, .slice A19 y18.length c20), (26, .slice A1 l1.length c1), (27, .int .i64 (l1.length : Int)), (28, .int .i64 (wi (x28_l1 + 1)))]) (w' := w21) (by kernel_rfl) ?_
        refine WR.nil ?_
        have hS : Sat w21 (rf w0) [osl 3 (r0 (.int .i64)) 1 A19 c20 y18] := hS.sel [0] (by kernel_rfl)
        refine At.again ?_
        refine WL.weaken [0, 2, 7, 26, 27, 28] (L' := [(0, .int .i64 a0), (2, .slice A2 l2.length c2), (7, .slice A19 y18.length c20), (26, .slice A1 l1.length c1), (27, .int .i64 (l1.length : Int)), (28, .int .i64 (wi (x28_l1 + 1)))]) (by kernel_rfl) ?_
        exact ih y18 (wi (x28_l1 + 1)) A19 c20 _ hS H
      · replace H := ite_f H hb14
        refine WC.skip (by kernel_rfl) ?_
        refine At.blockNormal ?_
        refine At.go ?_
        refine WC.reg [0, 1] (by kernel_rfl) (by kernel_rfl) ?_
        refine WR.runk [0, 1] [] [0, 2, 7, 26, 27, 28] (L' := [(0, .int .i64 a0), (2, .slice A2 l2.length c2), (7, .slice A7_l1 x7_l1.length c7_l1), (26, .slice A1 l1.length c1), (27, .int .i64 (l1.length : Int)), (28, .int .i64 (wi (x28_l1 + 1)))]) (w' := w) (by kernel_rfl) ?_
        refine WR.nil ?_
        have hS : Sat w (rf w0) [osl 3 (r0 (.int .i64)) 1 A7_l1 c7_l1 x7_l1] := hS.sel [0] (by kernel_rfl)
        refine At.again ?_
        refine WL.weaken [0, 2, 7, 26, 27, 28] (L' := [(0, .int .i64 a0), (2, .slice A2 l2.length c2), (7, .slice A7_l1 x7_l1.length c7_l1), (26, .slice A1 l1.length c1), (27, .int .i64 (l1.length : Int)), (28, .int .i64 (wi (x28_l1 + 1)))]) (by kernel_rfl) ?_
        exact ih x7_l1 (wi (x28_l1 + 1)) A7_l1 c7_l1 _ hS H
    · replace H := ite_f H hb11
      refine WC.exit (by kernel_rfl) ?_
      refine At.thenExit ?_
      refine At.thenExit ?_
      obtain rfl := Option.some.inj H
      have hS : Sat w (rf w0) [osl 3 (r0 (.int .i64)) 1 A7_l1 c7_l1 x7_l1] := hS.sel [0] (by kernel_rfl)
      refine At.weaken [0, 2, 7] (L' := [(0, .int .i64 a0), (2, .slice A2 l2.length c2), (7, .slice A7_l1 x7_l1.length c7_l1)]) (by kernel_rfl) ?_
      exact hn0 A7_l1 c7_l1 _ hS
theorem colophonlaw23_FairShares.l2_ok {Q} (w0 : World) (a0 : Int) (A2 : Option Addr) (c2 : Nat) (l2 : List Int) (o22 : (List Int)) (A7_q24 : Option Addr) (c7_q24 : Nat) (b41 : Nat) (out : (Int × (List (Option (Int × Int × Int × (List (Int × Bool))))) × Int × Bool × Int × Bool)) (hn0 : ∀ (w : World), Sat w (rf w0) [osl 3 (r0 (.int .i64)) 1 A7_q24 c7_q24 o22, O46 b41 out] → At Q (.exit 2) 182 [(2, .slice A2 l2.length c2), (7, .slice A7_q24 o22.length c7_q24), (10, .int .i64 (wi (1 + (wi (Int.tmod (IntKind.wrap .u64 a0) 40))))), (11, .pointer (some ⟨b41, 0, none⟩))] w) :
    ∀ (k : Nat) (x61_l2 : Int) (q42_l2 : Int × (List (Option (Int × Int × Int × (List (Int × Bool))))) × Int × Bool × Int × Bool) (w : World), Sat w (rf w0) [osl 3 (r0 (.int .i64)) 1 A7_q24 c7_q24 o22, O46 b41 q42_l2] → colophonlaw23_FairShares.l2 l2 o22 k x61_l2 q42_l2 = some out → WL Try.prog (cbody (cbody (cr (cl (cr (cr (cr (cr (cr (cr (cr C3))))))))))) Q 182 [(2, .slice A2 l2.length c2), (7, .slice A7_q24 o22.length c7_q24), (10, .int .i64 (wi (1 + (wi (Int.tmod (IntKind.wrap .u64 a0) 40))))), (11, .pointer (some ⟨b41, 0, none⟩)), (60, .int .i64 (o22.length : Int)), (61, .int .i64 x61_l2)] w := by
  intro k
  induction k with
  | zero => intro x61_l2 q42_l2 w hS H; exact absurd (show none = some out from H) (by simp)
  | succ k ih =>
    intro x61_l2 q42_l2 w hS H
    unfold colophonlaw23_FairShares.l2 at H
    refine WL.round ?_
    refine WC.seq (by kernel_rfl) ?_
    refine WC.reg [0] (by kernel_rfl) (by kernel_rfl) ?_
    refine WR.runk [0] [] [2, 7, 10, 11, 60, 61, 62] (L' := [(2, .slice A2 l2.length c2), (7, .slice A7_q24 o22.length c7_q24), (10, .int .i64 (wi (1 + (wi (Int.tmod (IntKind.wrap .u64 a0) 40))))), (11, .pointer (some ⟨b41, 0, none⟩)), (60, .int .i64 (o22.length : Int)), (61, .int .i64 x61_l2), (62, .bool (decide (x61_l2 < (o22.length : Int))))]) (w' := w) (by kernel_rfl) ?_
    refine WR.nil ?_
    refine At.go ?_
    refine WC.seq (by kernel_rfl) ?_
    refine WC.cond (by kernel_rfl) (decide (x61_l2 < (o22.length : Int))) (by kernel_rfl) (by kernel_rfl) (fun hb43 => ?_) (fun hb43 => ?_)
    · replace H := ite_t H hb43
      refine WC.skip (by kernel_rfl) ?_
      refine At.go ?_
      refine WC.seq (by kernel_rfl) ?_
      refine WC.block (by kernel_rfl) ?_
      refine WC.seq (by kernel_rfl) ?_
      refine WC.reg [0, 1] (by kernel_rfl) (by kernel_rfl) ?_
      refine WR.runk [0, 1] [] [2, 7, 10, 11, 13, 60, 61] (L' := [(2, .slice A2 l2.length c2), (7, .slice A7_q24 o22.length c7_q24), (10, .int .i64 (wi (1 + (wi (Int.tmod (IntKind.wrap .u64 a0) 40))))), (11, .pointer (some ⟨b41, 0, none⟩)), (13, .int .i64 x61_l2), (60, .int .i64 (o22.length : Int)), (61, .int .i64 x61_l2)]) (w' := w) (by kernel_rfl) ?_
      refine WR.nil ?_
      refine At.go ?_
      refine WC.seq (by kernel_rfl) ?_
      refine WC.reg [0, 1, 2, 3, 4] (by kernel_rfl) (by kernel_rfl) ?_
      refine WR.runk [0, 1, 2, 3] [4] [2, 7, 10, 11, 13, 60, 61, 64, 65, 67] (L' := [(2, .slice A2 l2.length c2), (7, .slice A7_q24 o22.length c7_q24), (10, .int .i64 (wi (1 + (wi (Int.tmod (IntKind.wrap .u64 a0) 40))))), (11, .pointer (some ⟨b41, 0, none⟩)), (13, .int .i64 x61_l2), (60, .int .i64 (o22.length : Int)), (61, .int .i64 x61_l2), (64, .pointer (some ⟨b41, 0, none⟩)), (65, .int .i64 x61_l2), (67, .int .i64 (wi (2 * x61_l2)))]) (w' := w) (by kernel_rfl) ?_
      have hS : Sat w (rf w0) [O46 b41 q42_l2, osl 3 (r0 (.int .i64)) 1 A7_q24 c7_q24 o22] := hS.sel [1, 0] (by kernel_rfl)
      obtain ⟨r44, e45, H⟩ := bind_ex H
      obtain ⟨B50, hso49, hsub47, hcs48, hb46⟩ := Sat.lend [O46 b41 q42_l2] (cs := [osl 3 (r0 (.int .i64)) 1 A7_q24 c7_q24 o22]) hS
      refine WR.st (St.call (by kernel_rfl) (f := 9) (args := #[.pointer (some ⟨b41, 0, none⟩), .int .i64 x61_l2, .int .i64 (wi (2 * x61_l2))]) (by kernel_rfl) (fair_Ring_Add.calls B50 w b41 q42_l2 hso49 x61_l2 (wi (2 * x61_l2)) r44 e45) ?_)
      rintro _ w51 ⟨rfl, hS52⟩
      have hS : Sat w51 (rf w0) [O46 b41 r44.2, osl 3 (r0 (.int .i64)) 1 A7_q24 c7_q24 o22] := hb46 _ _ hS52
      refine WR.runk [] [] [2, 7, 10, 11, 13, 60, 61] (L' := [(2, .slice A2 l2.length c2), (7, .slice A7_q24 o22.length c7_q24), (10, .int .i64 (wi (1 + (wi (Int.tmod (IntKind.wrap .u64 a0) 40))))), (11, .pointer (some ⟨b41, 0, none⟩)), (13, .int .i64 x61_l2), (60, .int .i64 (o22.length : Int)), (61, .int .i64 x61_l2)]) (w' := w51) (by kernel_rfl) ?_
      refine WR.nil ?_
      refine At.go ?_
      refine WC.reg [0, 1, 2, 3, 4, 5] (by kernel_rfl) (by kernel_rfl) ?_
      refine WR.runk [0, 1, 2, 3, 4] [5] [2, 7, 10, 11, 60, 61, 69, 70, 73] (L' := [(2, .slice A2 l2.length c2), (7, .slice A7_q24 o22.length c7_q24), (10, .int .i64 (wi (1 + (wi (Int.tmod (IntKind.wrap .u64 a0) 40))))), (11, .pointer (some ⟨b41, 0, none⟩)), (60, .int .i64 (o22.length : Int)), (61, .int .i64 x61_l2), (69, .pointer (some ⟨b41, 0, none⟩)), (70, .int .i64 x61_l2), (73, .int .i64 (wi ((wi (2 * x61_l2)) + 1)))]) (w' := w51) (by kernel_rfl) ?_
      obtain ⟨r53, e54, H⟩ := bind_ex H
      obtain ⟨B59, hso58, hsub56, hcs57, hb55⟩ := Sat.lend [O46 b41 r44.2] (cs := [osl 3 (r0 (.int .i64)) 1 A7_q24 c7_q24 o22]) hS
      refine WR.st (St.call (by kernel_rfl) (f := 9) (args := #[.pointer (some ⟨b41, 0, none⟩), .int .i64 x61_l2, .int .i64 (wi ((wi (2 * x61_l2)) + 1))]) (by kernel_rfl) (fair_Ring_Add.calls B59 w51 b41 r44.2 hso58 x61_l2 (wi ((wi (2 * x61_l2)) + 1)) r53 e54) ?_)
      rintro _ w60 ⟨rfl, hS61⟩
      have hS : Sat w60 (rf w0) [O46 b41 r53.2, osl 3 (r0 (.int .i64)) 1 A7_q24 c7_q24 o22] := hb55 _ _ hS61
      refine WR.runk [] [] [2, 7, 10, 11, 60, 61] (L' := [(2, .slice A2 l2.length c2), (7, .slice A7_q24 o22.length c7_q24), (10, .int .i64 (wi (1 + (wi (Int.tmod (IntKind.wrap .u64 a0) 40))))), (11, .pointer (some ⟨b41, 0, none⟩)), (60, .int .i64 (o22.length : Int)), (61, .int .i64 x61_l2)]) (w' := w60) (by kernel_rfl) ?_
      refine WR.nil ?_
      refine At.blockNormal ?_
      refine At.go ?_
      refine WC.reg [0, 1] (by kernel_rfl) (by kernel_rfl) ?_
      refine WR.runk [0, 1] [] [2, 7, 10, 11, 60, 61] (L' := [(2, .slice A2 l2.length c2), (7, .slice A7_q24 o22.length c7_q24), (10, .int .i64 (wi (1 + (wi (Int.tmod (IntKind.wrap .u64 a0) 40))))), (11, .pointer (some ⟨b41, 0, none⟩)), (60, .int .i64 (o22.length : Int)), (61, .int .i64 (wi (x61_l2 + 1)))]) (w' := w60) (by kernel_rfl) ?_
      refine WR.nil ?_
      have hS : Sat w60 (rf w0) [osl 3 (r0 (.int .i64)) 1 A7_q24 c7_q24 o22, O46 b41 r53.2] := hS.sel [1, 0] (by kernel_rfl)
      refine At.again ?_
      refine WL.weaken [2, 7, 10, 11, 60, 61] (L' := [(2, .slice A2 l2.length c2), (7, .slice A7_q24 o22.length c7_q24), (10, .int .i64 (wi (1 + (wi (Int.tmod (IntKind.wrap .u64 a0) 40))))), (11, .pointer (some ⟨b41, 0, none⟩)), (60, .int .i64 (o22.length : Int)), (61, .int .i64 (wi (x61_l2 + 1)))]) (by kernel_rfl) ?_
      exact ih (wi (x61_l2 + 1)) r53.2 _ hS H
    · replace H := ite_f H hb43
      refine WC.exit (by kernel_rfl) ?_
      refine At.thenExit ?_
      refine At.thenExit ?_
      obtain rfl := Option.some.inj H
      have hS : Sat w (rf w0) [osl 3 (r0 (.int .i64)) 1 A7_q24 c7_q24 o22, O46 b41 q42_l2] := hS.sel [0, 1] (by kernel_rfl)
      refine At.weaken [2, 7, 10, 11] (L' := [(2, .slice A2 l2.length c2), (7, .slice A7_q24 o22.length c7_q24), (10, .int .i64 (wi (1 + (wi (Int.tmod (IntKind.wrap .u64 a0) 40))))), (11, .pointer (some ⟨b41, 0, none⟩))]) (by kernel_rfl) ?_
      exact hn0 _ hS
theorem colophonlaw23_FairShares.j2_ok {Q} (w0 : World) (a0 : Int) (A2 : Option Addr) (c2 : Nat) (l2 : List Int) (o22 : (List Int)) (A7_q24 : Option Addr) (c7_q24 : Nat) (b41 : Nat) (b67 : Nat) (b70 : Nat) (x76_l3 : Int) (q69_l3 : List Int) (q72_l3 : List Int) (r74 : Int × Int × Bool × (Int × (List (Option (Int × Int × Int × (List (Int × Bool))))) × Int × Bool × Int × Bool)) (R2 : rdS (r0 (.int .u8)) 1 (hp w0) A2 c2 l2) (out : Int) (hn0 : ∀ (w : World), Sat w (rf w0) [osl 3 (r0 (.int .i64)) 1 A7_q24 c7_q24 o22, O46 b41 r74.2.2.2, oar 32 (r0 (.int .i64)) 1 64 b67 q69_l3, oar 32 (r0 (.int .i64)) 1 64 b70 q72_l3] → At Q .normal 182 [(2, .slice A2 l2.length c2), (7, .slice A7_q24 o22.length c7_q24), (10, .int .i64 (wi (1 + (wi (Int.tmod (IntKind.wrap .u64 a0) 40))))), (11, .pointer (some ⟨b41, 0, none⟩)), (14, .pointer (some ⟨b67, 0, none⟩)), (15, .pointer (some ⟨b70, 0, none⟩)), (19, .bool r74.2.2.1), (20, .int .i64 out), (76, .int .i64 x76_l3)] w) (w : World) : Sat w (rf w0) [O46 b41 r74.2.2.2, osl 3 (r0 (.int .i64)) 1 A7_q24 c7_q24 o22, oar 32 (r0 (.int .i64)) 1 64 b67 q69_l3, oar 32 (r0 (.int .i64)) 1 64 b70 q72_l3] → colophonlaw23_FairShares.j2 l2 x76_l3 = some out → WC Try.prog (cl (cr (cr (cr (cbody (cl (cr (cr (cbody (cbody (cr (cl (cr (cr (cr (cr (cr (cr (cr (cr (cr C3))))))))))))))))))))) Q 182 [(2, .slice A2 l2.length c2), (7, .slice A7_q24 o22.length c7_q24), (10, .int .i64 (wi (1 + (wi (Int.tmod (IntKind.wrap .u64 a0) 40))))), (11, .pointer (some ⟨b41, 0, none⟩)), (14, .pointer (some ⟨b67, 0, none⟩)), (15, .pointer (some ⟨b70, 0, none⟩)), (16, .int .i64 x76_l3), (19, .bool r74.2.2.1), (20, .int .i64 (Int.tmod (wi (x76_l3 * x76_l3)) 4)), (76, .int .i64 x76_l3)] w := by
  intro hS H
  unfold colophonlaw23_FairShares.j2 at H
  refine WC.seq (by kernel_rfl) ?_
  refine WC.reg [0, 1, 2, 3] (by kernel_rfl) (by kernel_rfl) ?_
  refine WR.runk [0, 1, 2, 3] [] [2, 7, 10, 11, 14, 15, 16, 19, 20, 76, 92] (L' := [(2, .slice A2 l2.length c2), (7, .slice A7_q24 o22.length c7_q24), (10, .int .i64 (wi (1 + (wi (Int.tmod (IntKind.wrap .u64 a0) 40))))), (11, .pointer (some ⟨b41, 0, none⟩)), (14, .pointer (some ⟨b67, 0, none⟩)), (15, .pointer (some ⟨b70, 0, none⟩)), (16, .int .i64 x76_l3), (19, .bool r74.2.2.1), (20, .int .i64 (Int.tmod (wi (x76_l3 * x76_l3)) 4)), (76, .int .i64 x76_l3), (92, .bool (decide (x76_l3 < (l2.length : Int))))]) (w' := w) (by kernel_rfl) ?_
  refine WR.nil ?_
  refine At.go ?_
  refine WC.cond (by kernel_rfl) (decide (x76_l3 < (l2.length : Int))) (by kernel_rfl) (by kernel_rfl) (fun hb83 => ?_) (fun hb83 => ?_)
  · replace H := ite_t H hb83
    refine WC.reg [0, 1, 2, 3, 4, 5, 6] (by kernel_rfl) (by kernel_rfl) ?_
    refine WR.runk [0, 1] [2, 3, 4, 5, 6] [2, 7, 10, 11, 14, 15, 19, 20, 76, 93, 94] (L' := [(2, .slice A2 l2.length c2), (7, .slice A7_q24 o22.length c7_q24), (10, .int .i64 (wi (1 + (wi (Int.tmod (IntKind.wrap .u64 a0) 40))))), (11, .pointer (some ⟨b41, 0, none⟩)), (14, .pointer (some ⟨b67, 0, none⟩)), (15, .pointer (some ⟨b70, 0, none⟩)), (19, .bool r74.2.2.1), (20, .int .i64 (Int.tmod (wi (x76_l3 * x76_l3)) 4)), (76, .int .i64 x76_l3), (93, .slice A2 l2.length c2), (94, .int .i64 x76_l3)]) (w' := w) (by kernel_rfl) ?_
    obtain ⟨v84, e85, H⟩ := bind_ex H
    refine WR.st (St.ofP (PSt.idx (k := .i64) (.tmp 93) (.tmp 94) (by kernel_rfl) (by kernel_rfl) E22 (by kernel_rfl) (by kernel_rfl) (rdS.up R2 hS.sub0) e85 ?_))
    refine WR.runk [] [3, 4, 5, 6] [2, 7, 10, 11, 14, 15, 19, 20, 76, 95] (L' := [(2, .slice A2 l2.length c2), (7, .slice A7_q24 o22.length c7_q24), (10, .int .i64 (wi (1 + (wi (Int.tmod (IntKind.wrap .u64 a0) 40))))), (11, .pointer (some ⟨b41, 0, none⟩)), (14, .pointer (some ⟨b67, 0, none⟩)), (15, .pointer (some ⟨b70, 0, none⟩)), (19, .bool r74.2.2.1), (20, .int .i64 (Int.tmod (wi (x76_l3 * x76_l3)) 4)), (76, .int .i64 x76_l3), (95, .pointer (some (adr A2 x76_l3.toNat 1)))]) (w' := w) (by kernel_rfl) ?_
    refine WR.st (St.ofR (RSt.loadInt (t := 5) (.tmp 95) (by kernel_rfl) (by kernel_rfl) (by kernel_rfl) (by kernel_rfl) (rdS.up R2 hS.sub0) e85 ?_))
    refine WR.runk [4, 5, 6] [] [2, 7, 10, 11, 14, 15, 19, 20, 76] (L' := [(2, .slice A2 l2.length c2), (7, .slice A7_q24 o22.length c7_q24), (10, .int .i64 (wi (1 + (wi (Int.tmod (IntKind.wrap .u64 a0) 40))))), (11, .pointer (some ⟨b41, 0, none⟩)), (14, .pointer (some ⟨b67, 0, none⟩)), (15, .pointer (some ⟨b70, 0, none⟩)), (19, .bool r74.2.2.1), (20, .int .i64 (wi (Int.tmod v84 4))), (76, .int .i64 x76_l3)]) (w' := w) (by kernel_rfl) ?_
    refine WR.nil ?_
    obtain rfl := Option.some.inj H
    have hS : Sat w (rf w0) [osl 3 (r0 (.int .i64)) 1 A7_q24 c7_q24 o22, O46 b41 r74.2.2.2, oar 32 (r0 (.int .i64)) 1 64 b67 q69_l3, oar 32 (r0 (.int .i64)) 1 64 b70 q72_l3] := hS.sel [1, 0, 2, 3] (by kernel_rfl)
    refine At.weaken [2, 7, 10, 11, 14, 15, 19, 20, 76] (L' := [(2, .slice A2 l2.length c2), (7, .slice A7_q24 o22.length c7_q24), (10, .int .i64 (wi (1 + (wi (Int.tmod (IntKind.wrap .u64 a0) 40))))), (11, .pointer (some ⟨b41, 0, none⟩)), (14, .pointer (some ⟨b67, 0, none⟩)), (15, .pointer (some ⟨b70, 0, none⟩)), (19, .bool r74.2.2.1), (20, .int .i64 (wi (Int.tmod v84 4))), (76, .int .i64 x76_l3)]) (by kernel_rfl) ?_
    exact hn0 _ hS
  · replace H := ite_f H hb83
    refine WC.skip (by kernel_rfl) ?_
    obtain rfl := Option.some.inj H
    have hS : Sat w (rf w0) [osl 3 (r0 (.int .i64)) 1 A7_q24 c7_q24 o22, O46 b41 r74.2.2.2, oar 32 (r0 (.int .i64)) 1 64 b67 q69_l3, oar 32 (r0 (.int .i64)) 1 64 b70 q72_l3] := hS.sel [1, 0, 2, 3] (by kernel_rfl)
    refine At.weaken [2, 7, 10, 11, 14, 15, 19, 20, 76] (L' := [(2, .slice A2 l2.length c2), (7, .slice A7_q24 o22.length c7_q24), (10, .int .i64 (wi (1 + (wi (Int.tmod (IntKind.wrap .u64 a0) 40))))), (11, .pointer (some ⟨b41, 0, none⟩)), (14, .pointer (some ⟨b67, 0, none⟩)), (15, .pointer (some ⟨b70, 0, none⟩)), (19, .bool r74.2.2.1), (20, .int .i64 (Int.tmod (wi (x76_l3 * x76_l3)) 4)), (76, .int .i64 x76_l3)]) (by kernel_rfl) ?_
    exact hn0 _ hS
theorem colophonlaw23_FairShares.j3_ok {Q} (w0 : World) (a0 : Int) (A2 : Option Addr) (c2 : Nat) (l2 : List Int) (o22 : (List Int)) (A7_q24 : Option Addr) (c7_q24 : Nat) (b41 : Nat) (b67 : Nat) (b70 : Nat) (x76_l3 : Int) (q69_l3 : List Int) (q72_l3 : List Int) (r74 : Int × Int × Bool × (Int × (List (Option (Int × Int × Int × (List (Int × Bool))))) × Int × Bool × Int × Bool)) (o86 : Int) (out : Bool × (Int × (List (Option (Int × Int × Int × (List (Int × Bool))))) × Int × Bool × Int × Bool)) (hn0 : ∀ (w : World), Sat w (rf w0) [osl 3 (r0 (.int .i64)) 1 A7_q24 c7_q24 o22, O46 b41 out.2, oar 32 (r0 (.int .i64)) 1 64 b67 q69_l3, oar 32 (r0 (.int .i64)) 1 64 b70 q72_l3] → At Q .normal 182 [(2, .slice A2 l2.length c2), (7, .slice A7_q24 o22.length c7_q24), (10, .int .i64 (wi (1 + (wi (Int.tmod (IntKind.wrap .u64 a0) 40))))), (11, .pointer (some ⟨b41, 0, none⟩)), (14, .pointer (some ⟨b67, 0, none⟩)), (15, .pointer (some ⟨b70, 0, none⟩)), (76, .int .i64 x76_l3), (106, .bool out.1)] w) (w : World) : Sat w (rf w0) [osl 3 (r0 (.int .i64)) 1 A7_q24 c7_q24 o22, O46 b41 r74.2.2.2, oar 32 (r0 (.int .i64)) 1 64 b67 q69_l3, oar 32 (r0 (.int .i64)) 1 64 b70 q72_l3] → colophonlaw23_FairShares.j3 r74 o86 = some out → WC Try.prog (cl (cl (cr (cr (cr (cr (cbody (cl (cr (cr (cbody (cbody (cr (cl (cr (cr (cr (cr (cr (cr (cr (cr (cr C3))))))))))))))))))))))) Q 182 [(2, .slice A2 l2.length c2), (7, .slice A7_q24 o22.length c7_q24), (10, .int .i64 (wi (1 + (wi (Int.tmod (IntKind.wrap .u64 a0) 40))))), (11, .pointer (some ⟨b41, 0, none⟩)), (14, .pointer (some ⟨b67, 0, none⟩)), (15, .pointer (some ⟨b70, 0, none⟩)), (19, .bool r74.2.2.1), (20, .int .i64 o86), (76, .int .i64 x76_l3)] w := by
  intro hS H
  unfold colophonlaw23_FairShares.j3 at H
  refine WC.reg [0, 1, 2, 3, 4, 5, 6, 7] (by kernel_rfl) (by kernel_rfl) ?_
  refine WR.runk [0, 1, 2] [3, 4, 5, 6, 7] [2, 7, 10, 11, 14, 15, 20, 76, 101] (L' := [(2, .slice A2 l2.length c2), (7, .slice A7_q24 o22.length c7_q24), (10, .int .i64 (wi (1 + (wi (Int.tmod (IntKind.wrap .u64 a0) 40))))), (11, .pointer (some ⟨b41, 0, none⟩)), (14, .pointer (some ⟨b67, 0, none⟩)), (15, .pointer (some ⟨b70, 0, none⟩)), (20, .int .i64 o86), (76, .int .i64 x76_l3), (101, .bool (!r74.2.2.1))]) (w' := w) (by kernel_rfl) ?_
  refine WR.split 101 (b := (!r74.2.2.1)) (by kernel_rfl) (fun hb91 => ?_) (fun hb91 => ?_)
  · replace H := ite_t H hb91
    refine WR.runk [3, 4, 5, 6, 7] [] [2, 7, 10, 11, 14, 15, 76, 102, 103, 104, 105, 106] (L' := [(2, .slice A2 l2.length c2), (7, .slice A7_q24 o22.length c7_q24), (10, .int .i64 (wi (1 + (wi (Int.tmod (IntKind.wrap .u64 a0) 40))))), (11, .pointer (some ⟨b41, 0, none⟩)), (14, .pointer (some ⟨b67, 0, none⟩)), (15, .pointer (some ⟨b70, 0, none⟩)), (76, .int .i64 x76_l3), (102, undef), (103, undef), (104, undef), (105, undef), (106, .bool true)]) (w' := w) (by kernel_rfl) ?_
    refine WR.nil ?_
    obtain rfl := Option.some.inj H
    have hS : Sat w (rf w0) [osl 3 (r0 (.int .i64)) 1 A7_q24 c7_q24 o22, O46 b41 r74.2.2.2, oar 32 (r0 (.int .i64)) 1 64 b67 q69_l3, oar 32 (r0 (.int .i64)) 1 64 b70 q72_l3] := hS.sel [0, 1, 2, 3] (by kernel_rfl)
    refine At.weaken [2, 7, 10, 11, 14, 15, 76, 106] (L' := [(2, .slice A2 l2.length c2), (7, .slice A7_q24 o22.length c7_q24), (10, .int .i64 (wi (1 + (wi (Int.tmod (IntKind.wrap .u64 a0) 40))))), (11, .pointer (some ⟨b41, 0, none⟩)), (14, .pointer (some ⟨b67, 0, none⟩)), (15, .pointer (some ⟨b70, 0, none⟩)), (76, .int .i64 x76_l3), (106, .bool true)]) (by kernel_rfl) ?_
    exact hn0 _ hS
  · replace H := ite_f H hb91
    refine WR.runk [3, 4] [5, 6, 7] [2, 7, 10, 11, 14, 15, 76, 101, 102, 103] (L' := [(2, .slice A2 l2.length c2), (7, .slice A7_q24 o22.length c7_q24), (10, .int .i64 (wi (1 + (wi (Int.tmod (IntKind.wrap .u64 a0) 40))))), (11, .pointer (some ⟨b41, 0, none⟩)), (14, .pointer (some ⟨b67, 0, none⟩)), (15, .pointer (some ⟨b70, 0, none⟩)), (76, .int .i64 x76_l3), (101, .bool false), (102, .pointer (some ⟨b41, 0, none⟩)), (103, .int .i64 o86)]) (w' := w) (by kernel_rfl) ?_
    have hS : Sat w (rf w0) [O46 b41 r74.2.2.2, osl 3 (r0 (.int .i64)) 1 A7_q24 c7_q24 o22, oar 32 (r0 (.int .i64)) 1 64 b67 q69_l3, oar 32 (r0 (.int .i64)) 1 64 b70 q72_l3] := hS.sel [1, 0, 2, 3] (by kernel_rfl)
    obtain ⟨r92, e93, H⟩ := bind_ex H
    obtain ⟨B98, hso97, hsub95, hcs96, hb94⟩ := Sat.lend [O46 b41 r74.2.2.2] (cs := [osl 3 (r0 (.int .i64)) 1 A7_q24 c7_q24 o22, oar 32 (r0 (.int .i64)) 1 64 b67 q69_l3, oar 32 (r0 (.int .i64)) 1 64 b70 q72_l3]) hS
    refine WR.st (St.call (by kernel_rfl) (f := 11) (args := #[.pointer (some ⟨b41, 0, none⟩), .int .i64 o86]) (by kernel_rfl) (fair_Ring_Charge.calls B98 w b41 r74.2.2.2 hso97 o86 r92 e93) ?_)
    rintro _ w99 ⟨rfl, hS100⟩
    have hS : Sat w99 (rf w0) [O46 b41 r92.2, osl 3 (r0 (.int .i64)) 1 A7_q24 c7_q24 o22, oar 32 (r0 (.int .i64)) 1 64 b67 q69_l3, oar 32 (r0 (.int .i64)) 1 64 b70 q72_l3] := hb94 _ _ hS100
    refine WR.runk [6, 7] [] [2, 7, 10, 11, 14, 15, 76, 102, 103, 104, 105, 106] (L' := [(2, .slice A2 l2.length c2), (7, .slice A7_q24 o22.length c7_q24), (10, .int .i64 (wi (1 + (wi (Int.tmod (IntKind.wrap .u64 a0) 40))))), (11, .pointer (some ⟨b41, 0, none⟩)), (14, .pointer (some ⟨b67, 0, none⟩)), (15, .pointer (some ⟨b70, 0, none⟩)), (76, .int .i64 x76_l3), (102, .pointer (some ⟨b41, 0, none⟩)), (103, .int .i64 o86), (104, .bool r92.1), (105, .bool (!r92.1)), (106, .bool (!r92.1))]) (w' := w99) (by kernel_rfl) ?_
    refine WR.nil ?_
    obtain rfl := Option.some.inj H
    have hS : Sat w99 (rf w0) [osl 3 (r0 (.int .i64)) 1 A7_q24 c7_q24 o22, O46 b41 r92.2, oar 32 (r0 (.int .i64)) 1 64 b67 q69_l3, oar 32 (r0 (.int .i64)) 1 64 b70 q72_l3] := hS.sel [1, 0, 2, 3] (by kernel_rfl)
    refine At.weaken [2, 7, 10, 11, 14, 15, 76, 106] (L' := [(2, .slice A2 l2.length c2), (7, .slice A7_q24 o22.length c7_q24), (10, .int .i64 (wi (1 + (wi (Int.tmod (IntKind.wrap .u64 a0) 40))))), (11, .pointer (some ⟨b41, 0, none⟩)), (14, .pointer (some ⟨b67, 0, none⟩)), (15, .pointer (some ⟨b70, 0, none⟩)), (76, .int .i64 x76_l3), (106, .bool (!r92.1))]) (by kernel_rfl) ?_
    exact hn0 _ hS
theorem colophonlaw23_FairShares.l5_ok {Q} (w0 : World) (a0 : Int) (A2 : Option Addr) (c2 : Nat) (l2 : List Int) (o22 : (List Int)) (A7_q24 : Option Addr) (c7_q24 : Nat) (b41 : Nat) (b67 : Nat) (b70 : Nat) (x76_l3 : Int) (o101 : Bool × (Int × (List (Option (Int × Int × Int × (List (Int × Bool))))) × Int × Bool × Int × Bool)) (x109_l4 : Int) (out : Sum (Bool × (List Int) × (List Int)) ((List Int) × (List Int))) (hn0 : ∀ (o0 : Bool × (List Int) × (List Int)) (w : World), out = (.inl o0) → Sat w (rf w0) [O46 b41 o101.2, oar 32 (r0 (.int .i64)) 1 64 b67 o0.2.1, oar 32 (r0 (.int .i64)) 1 64 b70 o0.2.2] → At Q .ret 182 [(6, .bool o0.1)] w) (hn1 : ∀ (o1 : (List Int) × (List Int)) (w : World), out = (.inr o1) → Sat w (rf w0) [osl 3 (r0 (.int .i64)) 1 A7_q24 c7_q24 o22, O46 b41 o101.2, oar 32 (r0 (.int .i64)) 1 64 b67 o1.1, oar 32 (r0 (.int .i64)) 1 64 b70 o1.2] → At Q (.exit 8) 182 [(2, .slice A2 l2.length c2), (7, .slice A7_q24 o22.length c7_q24), (10, .int .i64 (wi (1 + (wi (Int.tmod (IntKind.wrap .u64 a0) 40))))), (11, .pointer (some ⟨b41, 0, none⟩)), (14, .pointer (some ⟨b67, 0, none⟩)), (15, .pointer (some ⟨b70, 0, none⟩)), (76, .int .i64 x76_l3), (108, .int .i64 (o22.length : Int)), (109, .int .i64 x109_l4)] w) :
    ∀ (k : Nat) (x113_l5 : Int) (q69_l5 : List Int) (q72_l5 : List Int) (w : World), Sat w (rf w0) [osl 3 (r0 (.int .i64)) 1 A7_q24 c7_q24 o22, O46 b41 o101.2, oar 32 (r0 (.int .i64)) 1 64 b67 q69_l5, oar 32 (r0 (.int .i64)) 1 64 b70 q72_l5] → colophonlaw23_FairShares.l5 a0 o22 o101 x109_l4 k x113_l5 q69_l5 q72_l5 = some out → WL Try.prog (cbody (cbody (cr (cr (cbody (cl (cr (cr (cbody (cbody (cr (cr (cr (cr (cr (cr (cbody (cl (cr (cr (cbody (cbody (cr (cl (cr (cr (cr (cr (cr (cr (cr (cr (cr C3))))))))))))))))))))))))))))))))) Q 182 [(2, .slice A2 l2.length c2), (7, .slice A7_q24 o22.length c7_q24), (10, .int .i64 (wi (1 + (wi (Int.tmod (IntKind.wrap .u64 a0) 40))))), (11, .pointer (some ⟨b41, 0, none⟩)), (14, .pointer (some ⟨b67, 0, none⟩)), (15, .pointer (some ⟨b70, 0, none⟩)), (21, .int .i64 x109_l4), (76, .int .i64 x76_l3), (108, .int .i64 (o22.length : Int)), (109, .int .i64 x109_l4), (112, .int .i64 x109_l4), (113, .int .i64 x113_l5)] w := by
  intro k
  induction k with
  | zero => intro x113_l5 q69_l5 q72_l5 w hS H; exact absurd (show none = some out from H) (by simp)
  | succ k ih =>
    intro x113_l5 q69_l5 q72_l5 w hS H
    unfold colophonlaw23_FairShares.l5 at H
    refine WL.round ?_
    refine WC.seq (by kernel_rfl) ?_
    refine WC.reg [0] (by kernel_rfl) (by kernel_rfl) ?_
    refine WR.runk [0] [] [2, 7, 10, 11, 14, 15, 21, 76, 108, 109, 112, 113, 114] (L' := [(2, .slice A2 l2.length c2), (7, .slice A7_q24 o22.length c7_q24), (10, .int .i64 (wi (1 + (wi (Int.tmod (IntKind.wrap .u64 a0) 40))))), (11, .pointer (some ⟨b41, 0, none⟩)), (14, .pointer (some ⟨b67, 0, none⟩)), (15, .pointer (some ⟨b70, 0, none⟩)), (21, .int .i64 x109_l4), (76, .int .i64 x76_l3), (108, .int .i64 (o22.length : Int)), (109, .int .i64 x109_l4), (112, .int .i64 x109_l4), (113, .int .i64 x113_l5), (114, .bool (decide (x113_l5 < x109_l4)))]) (w' := w) (by kernel_rfl) ?_
    refine WR.nil ?_
    refine At.go ?_
    refine WC.seq (by kernel_rfl) ?_
    refine WC.cond (by kernel_rfl) (decide (x113_l5 < x109_l4)) (by kernel_rfl) (by kernel_rfl) (fun hb108 => ?_) (fun hb108 => ?_)
    · replace H := ite_t H hb108
      refine WC.skip (by kernel_rfl) ?_
      refine At.go ?_
      refine WC.seq (by kernel_rfl) ?_
      refine WC.block (by kernel_rfl) ?_
      refine WC.seq (by kernel_rfl) ?_
      refine WC.reg [0, 1] (by kernel_rfl) (by kernel_rfl) ?_
      refine WR.runk [0, 1] [] [2, 7, 10, 11, 14, 15, 21, 22, 76, 108, 109, 112, 113] (L' := [(2, .slice A2 l2.length c2), (7, .slice A7_q24 o22.length c7_q24), (10, .int .i64 (wi (1 + (wi (Int.tmod (IntKind.wrap .u64 a0) 40))))), (11, .pointer (some ⟨b41, 0, none⟩)), (14, .pointer (some ⟨b67, 0, none⟩)), (15, .pointer (some ⟨b70, 0, none⟩)), (21, .int .i64 x109_l4), (22, .int .i64 x113_l5), (76, .int .i64 x76_l3), (108, .int .i64 (o22.length : Int)), (109, .int .i64 x109_l4), (112, .int .i64 x109_l4), (113, .int .i64 x113_l5)]) (w' := w) (by kernel_rfl) ?_
      refine WR.nil ?_
      refine At.go ?_
      refine WC.seq (by kernel_rfl) ?_
      refine WC.drawn (by kernel_rfl) (by kernel_rfl) 18 (by kernel_rfl) (fun w109 hw110 => ?_)
      have hS := hS.heap hw110.1 hw110.2
      refine WD.weaken [2, 7, 10, 11, 14, 15, 21, 22, 76, 108, 109, 112, 113] (L' := [(2, .slice A2 l2.length c2), (7, .slice A7_q24 o22.length c7_q24), (10, .int .i64 (wi (1 + (wi (Int.tmod (IntKind.wrap .u64 a0) 40))))), (11, .pointer (some ⟨b41, 0, none⟩)), (14, .pointer (some ⟨b67, 0, none⟩)), (15, .pointer (some ⟨b70, 0, none⟩)), (21, .int .i64 x109_l4), (22, .int .i64 x113_l5), (76, .int .i64 x76_l3), (108, .int .i64 (o22.length : Int)), (109, .int .i64 x109_l4), (112, .int .i64 x109_l4), (113, .int .i64 x113_l5)]) (by kernel_rfl) ?_
      refine WD.pure (i := 0) (v := .pointer (some ⟨b41, 0, none⟩)) (by kernel_rfl) (by kernel_rfl) (fun _ => by kernel_rfl) ?_
      refine WD.weaken [2, 7, 10, 11, 14, 15, 21, 22, 76, 108, 109, 112, 113, 116] (L' := [(2, .slice A2 l2.length c2), (7, .slice A7_q24 o22.length c7_q24), (10, .int .i64 (wi (1 + (wi (Int.tmod (IntKind.wrap .u64 a0) 40))))), (11, .pointer (some ⟨b41, 0, none⟩)), (14, .pointer (some ⟨b67, 0, none⟩)), (15, .pointer (some ⟨b70, 0, none⟩)), (21, .int .i64 x109_l4), (22, .int .i64 x113_l5), (76, .int .i64 x76_l3), (108, .int .i64 (o22.length : Int)), (109, .int .i64 x109_l4), (112, .int .i64 x109_l4), (113, .int .i64 x113_l5), (116, .pointer (some ⟨b41, 0, none⟩))]) (by kernel_rfl) ?_
      refine WD.pure (i := 1) (v := .int .i64 x109_l4) (by kernel_rfl) (by kernel_rfl) (fun _ => by kernel_rfl) ?_
      refine WD.weaken [2, 7, 10, 11, 14, 15, 21, 22, 76, 108, 109, 112, 113, 116, 117] (L' := [(2, .slice A2 l2.length c2), (7, .slice A7_q24 o22.length c7_q24), (10, .int .i64 (wi (1 + (wi (Int.tmod (IntKind.wrap .u64 a0) 40))))), (11, .pointer (some ⟨b41, 0, none⟩)), (14, .pointer (some ⟨b67, 0, none⟩)), (15, .pointer (some ⟨b70, 0, none⟩)), (21, .int .i64 x109_l4), (22, .int .i64 x113_l5), (76, .int .i64 x76_l3), (108, .int .i64 (o22.length : Int)), (109, .int .i64 x109_l4), (112, .int .i64 x109_l4), (113, .int .i64 x113_l5), (116, .pointer (some ⟨b41, 0, none⟩)), (117, .int .i64 x109_l4)]) (by kernel_rfl) ?_
      refine WD.pure (i := 3) (v := .slice A7_q24 o22.length c7_q24) (by kernel_rfl) (by kernel_rfl) (fun _ => by kernel_rfl) ?_
      refine WD.weaken [2, 7, 10, 11, 14, 15, 21, 22, 76, 108, 109, 112, 113, 116, 117, 119] (L' := [(2, .slice A2 l2.length c2), (7, .slice A7_q24 o22.length c7_q24), (10, .int .i64 (wi (1 + (wi (Int.tmod (IntKind.wrap .u64 a0) 40))))), (11, .pointer (some ⟨b41, 0, none⟩)), (14, .pointer (some ⟨b67, 0, none⟩)), (15, .pointer (some ⟨b70, 0, none⟩)), (21, .int .i64 x109_l4), (22, .int .i64 x113_l5), (76, .int .i64 x76_l3), (108, .int .i64 (o22.length : Int)), (109, .int .i64 x109_l4), (112, .int .i64 x109_l4), (113, .int .i64 x113_l5), (116, .pointer (some ⟨b41, 0, none⟩)), (117, .int .i64 x109_l4), (119, .slice A7_q24 o22.length c7_q24)]) (by kernel_rfl) ?_
      refine WD.pure (i := 4) (v := .int .i64 x113_l5) (by kernel_rfl) (by kernel_rfl) (fun _ => by kernel_rfl) ?_
      refine WD.weaken [2, 7, 10, 11, 14, 15, 21, 22, 76, 108, 109, 112, 113, 116, 117, 119, 120] (L' := [(2, .slice A2 l2.length c2), (7, .slice A7_q24 o22.length c7_q24), (10, .int .i64 (wi (1 + (wi (Int.tmod (IntKind.wrap .u64 a0) 40))))), (11, .pointer (some ⟨b41, 0, none⟩)), (14, .pointer (some ⟨b67, 0, none⟩)), (15, .pointer (some ⟨b70, 0, none⟩)), (21, .int .i64 x109_l4), (22, .int .i64 x113_l5), (76, .int .i64 x76_l3), (108, .int .i64 (o22.length : Int)), (109, .int .i64 x109_l4), (112, .int .i64 x109_l4), (113, .int .i64 x113_l5), (116, .pointer (some ⟨b41, 0, none⟩)), (117, .int .i64 x109_l4), (119, .slice A7_q24 o22.length c7_q24), (120, .int .i64 x113_l5)]) (by kernel_rfl) ?_
      obtain ⟨v111, e112, H⟩ := bind_ex H
      refine WD.ofP (i := 5) (by kernel_rfl) (PSt.idx (k := .i64) (.tmp 119) (.tmp 120) (by kernel_rfl) (by kernel_rfl) E24 (by kernel_rfl) (by kernel_rfl) (Sat.rdAt 0 hS rfl) e112 ?_)
      refine WD.weaken [2, 7, 10, 11, 14, 15, 21, 22, 76, 108, 109, 112, 113, 116, 117, 121] (L' := [(2, .slice A2 l2.length c2), (7, .slice A7_q24 o22.length c7_q24), (10, .int .i64 (wi (1 + (wi (Int.tmod (IntKind.wrap .u64 a0) 40))))), (11, .pointer (some ⟨b41, 0, none⟩)), (14, .pointer (some ⟨b67, 0, none⟩)), (15, .pointer (some ⟨b70, 0, none⟩)), (21, .int .i64 x109_l4), (22, .int .i64 x113_l5), (76, .int .i64 x76_l3), (108, .int .i64 (o22.length : Int)), (109, .int .i64 x109_l4), (112, .int .i64 x109_l4), (113, .int .i64 x113_l5), (116, .pointer (some ⟨b41, 0, none⟩)), (117, .int .i64 x109_l4), (121, .pointer (some (adr A7_q24 x113_l5.toNat 1)))]) (by kernel_rfl) ?_
      refine WD.ofR (i := 6) (by kernel_rfl) (RSt.loadInt (t := 3) (.tmp 121) (by kernel_rfl) (by kernel_rfl) (by kernel_rfl) (by kernel_rfl) (Sat.rdAt 0 hS rfl) e112 ?_)
      refine WD.weaken [2, 7, 10, 11, 14, 15, 21, 22, 76, 108, 109, 112, 113, 116, 117, 122] (L' := [(2, .slice A2 l2.length c2), (7, .slice A7_q24 o22.length c7_q24), (10, .int .i64 (wi (1 + (wi (Int.tmod (IntKind.wrap .u64 a0) 40))))), (11, .pointer (some ⟨b41, 0, none⟩)), (14, .pointer (some ⟨b67, 0, none⟩)), (15, .pointer (some ⟨b70, 0, none⟩)), (21, .int .i64 x109_l4), (22, .int .i64 x113_l5), (76, .int .i64 x76_l3), (108, .int .i64 (o22.length : Int)), (109, .int .i64 x109_l4), (112, .int .i64 x109_l4), (113, .int .i64 x113_l5), (116, .pointer (some ⟨b41, 0, none⟩)), (117, .int .i64 x109_l4), (122, .int .i64 v111)]) (by kernel_rfl) ?_
      refine WD.pure (i := 8) (v := .pointer (some ⟨b41, 0, none⟩)) (by kernel_rfl) (by kernel_rfl) (fun _ => by kernel_rfl) ?_
      refine WD.weaken [2, 7, 10, 11, 14, 15, 21, 22, 76, 108, 109, 112, 113, 116, 117, 122, 124] (L' := [(2, .slice A2 l2.length c2), (7, .slice A7_q24 o22.length c7_q24), (10, .int .i64 (wi (1 + (wi (Int.tmod (IntKind.wrap .u64 a0) 40))))), (11, .pointer (some ⟨b41, 0, none⟩)), (14, .pointer (some ⟨b67, 0, none⟩)), (15, .pointer (some ⟨b70, 0, none⟩)), (21, .int .i64 x109_l4), (22, .int .i64 x113_l5), (76, .int .i64 x76_l3), (108, .int .i64 (o22.length : Int)), (109, .int .i64 x109_l4), (112, .int .i64 x109_l4), (113, .int .i64 x113_l5), (116, .pointer (some ⟨b41, 0, none⟩)), (117, .int .i64 x109_l4), (122, .int .i64 v111), (124, .pointer (some ⟨b41, 0, none⟩))]) (by kernel_rfl) ?_
      refine WD.pure (i := 9) (v := .int .i64 x113_l5) (by kernel_rfl) (by kernel_rfl) (fun _ => by kernel_rfl) ?_
      refine WD.weaken [2, 7, 10, 11, 14, 15, 21, 22, 76, 108, 109, 112, 113, 116, 117, 122, 124, 125] (L' := [(2, .slice A2 l2.length c2), (7, .slice A7_q24 o22.length c7_q24), (10, .int .i64 (wi (1 + (wi (Int.tmod (IntKind.wrap .u64 a0) 40))))), (11, .pointer (some ⟨b41, 0, none⟩)), (14, .pointer (some ⟨b67, 0, none⟩)), (15, .pointer (some ⟨b70, 0, none⟩)), (21, .int .i64 x109_l4), (22, .int .i64 x113_l5), (76, .int .i64 x76_l3), (108, .int .i64 (o22.length : Int)), (109, .int .i64 x109_l4), (112, .int .i64 x109_l4), (113, .int .i64 x113_l5), (116, .pointer (some ⟨b41, 0, none⟩)), (117, .int .i64 x109_l4), (122, .int .i64 v111), (124, .pointer (some ⟨b41, 0, none⟩)), (125, .int .i64 x113_l5)]) (by kernel_rfl) ?_
      refine WD.pure (i := 11) (v := .slice A7_q24 o22.length c7_q24) (by kernel_rfl) (by kernel_rfl) (fun _ => by kernel_rfl) ?_
      refine WD.weaken [2, 7, 10, 11, 14, 15, 21, 22, 76, 108, 109, 112, 113, 116, 117, 122, 124, 125, 127] (L' := [(2, .slice A2 l2.length c2), (7, .slice A7_q24 o22.length c7_q24), (10, .int .i64 (wi (1 + (wi (Int.tmod (IntKind.wrap .u64 a0) 40))))), (11, .pointer (some ⟨b41, 0, none⟩)), (14, .pointer (some ⟨b67, 0, none⟩)), (15, .pointer (some ⟨b70, 0, none⟩)), (21, .int .i64 x109_l4), (22, .int .i64 x113_l5), (76, .int .i64 x76_l3), (108, .int .i64 (o22.length : Int)), (109, .int .i64 x109_l4), (112, .int .i64 x109_l4), (113, .int .i64 x113_l5), (116, .pointer (some ⟨b41, 0, none⟩)), (117, .int .i64 x109_l4), (122, .int .i64 v111), (124, .pointer (some ⟨b41, 0, none⟩)), (125, .int .i64 x113_l5), (127, .slice A7_q24 o22.length c7_q24)]) (by kernel_rfl) ?_
      refine WD.pure (i := 12) (v := .int .i64 x109_l4) (by kernel_rfl) (by kernel_rfl) (fun _ => by kernel_rfl) ?_
      refine WD.weaken [2, 7, 10, 11, 14, 15, 21, 22, 76, 108, 109, 112, 113, 116, 117, 122, 124, 125, 127, 128] (L' := [(2, .slice A2 l2.length c2), (7, .slice A7_q24 o22.length c7_q24), (10, .int .i64 (wi (1 + (wi (Int.tmod (IntKind.wrap .u64 a0) 40))))), (11, .pointer (some ⟨b41, 0, none⟩)), (14, .pointer (some ⟨b67, 0, none⟩)), (15, .pointer (some ⟨b70, 0, none⟩)), (21, .int .i64 x109_l4), (22, .int .i64 x113_l5), (76, .int .i64 x76_l3), (108, .int .i64 (o22.length : Int)), (109, .int .i64 x109_l4), (112, .int .i64 x109_l4), (113, .int .i64 x113_l5), (116, .pointer (some ⟨b41, 0, none⟩)), (117, .int .i64 x109_l4), (122, .int .i64 v111), (124, .pointer (some ⟨b41, 0, none⟩)), (125, .int .i64 x113_l5), (127, .slice A7_q24 o22.length c7_q24), (128, .int .i64 x109_l4)]) (by kernel_rfl) ?_
      obtain ⟨v113, e114, H⟩ := bind_ex H
      refine WD.ofP (i := 13) (by kernel_rfl) (PSt.idx (k := .i64) (.tmp 127) (.tmp 128) (by kernel_rfl) (by kernel_rfl) E24 (by kernel_rfl) (by kernel_rfl) (Sat.rdAt 0 hS rfl) e114 ?_)
      refine WD.weaken [2, 7, 10, 11, 14, 15, 21, 22, 76, 108, 109, 112, 113, 116, 117, 122, 124, 125, 129] (L' := [(2, .slice A2 l2.length c2), (7, .slice A7_q24 o22.length c7_q24), (10, .int .i64 (wi (1 + (wi (Int.tmod (IntKind.wrap .u64 a0) 40))))), (11, .pointer (some ⟨b41, 0, none⟩)), (14, .pointer (some ⟨b67, 0, none⟩)), (15, .pointer (some ⟨b70, 0, none⟩)), (21, .int .i64 x109_l4), (22, .int .i64 x113_l5), (76, .int .i64 x76_l3), (108, .int .i64 (o22.length : Int)), (109, .int .i64 x109_l4), (112, .int .i64 x109_l4), (113, .int .i64 x113_l5), (116, .pointer (some ⟨b41, 0, none⟩)), (117, .int .i64 x109_l4), (122, .int .i64 v111), (124, .pointer (some ⟨b41, 0, none⟩)), (125, .int .i64 x113_l5), (129, .pointer (some (adr A7_q24 x109_l4.toNat 1)))]) (by kernel_rfl) ?_
      refine WD.ofR (i := 14) (by kernel_rfl) (RSt.loadInt (t := 3) (.tmp 129) (by kernel_rfl) (by kernel_rfl) (by kernel_rfl) (by kernel_rfl) (Sat.rdAt 0 hS rfl) e114 ?_)
      refine WD.weaken [2, 7, 10, 11, 14, 15, 21, 22, 76, 108, 109, 112, 113, 116, 117, 122, 124, 125, 130] (L' := [(2, .slice A2 l2.length c2), (7, .slice A7_q24 o22.length c7_q24), (10, .int .i64 (wi (1 + (wi (Int.tmod (IntKind.wrap .u64 a0) 40))))), (11, .pointer (some ⟨b41, 0, none⟩)), (14, .pointer (some ⟨b67, 0, none⟩)), (15, .pointer (some ⟨b70, 0, none⟩)), (21, .int .i64 x109_l4), (22, .int .i64 x113_l5), (76, .int .i64 x76_l3), (108, .int .i64 (o22.length : Int)), (109, .int .i64 x109_l4), (112, .int .i64 x109_l4), (113, .int .i64 x113_l5), (116, .pointer (some ⟨b41, 0, none⟩)), (117, .int .i64 x109_l4), (122, .int .i64 v111), (124, .pointer (some ⟨b41, 0, none⟩)), (125, .int .i64 x113_l5), (130, .int .i64 v113)]) (by kernel_rfl) ?_
      obtain ⟨r115, e116, H⟩ := bind_ex H
      refine WD.act (i := 2) (by kernel_rfl) (St.call (by kernel_rfl) (f := 12) (args := #[.pointer (some ⟨b41, 0, none⟩), .int .i64 x109_l4]) (by kernel_rfl) (fair_Ring_Spent.calls w109 (.pointer (some ⟨b41, 0, none⟩)) (some o101.2) (Sat.rdAny 1 hS rfl (fun _ h => O46.rd _ _ _ h)) x109_l4 r115 e116) ?_)
      rintro _ w122 ⟨rfl, hS123⟩
      have hS : Sat w122 (rf w0) [osl 3 (r0 (.int .i64)) 1 A7_q24 c7_q24 o22, O46 b41 o101.2, oar 32 (r0 (.int .i64)) 1 64 b67 q69_l5, oar 32 (r0 (.int .i64)) 1 64 b70 q72_l5] := hS.ext hS123
      refine ⟨(asked.cons (RSt.run (n := 182) (RSt.loadInt (t := 3) (.tmp 129) (by kernel_rfl) (by kernel_rfl) (by kernel_rfl) (by kernel_rfl) (Sat.rdAt 0 hS rfl) e114 rfl)) (asked.cons (RSt.run (n := 182) (RSt.loadInt (t := 3) (.tmp 121) (by kernel_rfl) (by kernel_rfl) (by kernel_rfl) (by kernel_rfl) (Sat.rdAt 0 hS rfl) e112 rfl)) (asked.nil _ _))), ?_⟩
      refine WD.weaken [2, 7, 10, 11, 14, 15, 21, 22, 76, 108, 109, 112, 113, 118, 122, 124, 125, 130] (L' := [(2, .slice A2 l2.length c2), (7, .slice A7_q24 o22.length c7_q24), (10, .int .i64 (wi (1 + (wi (Int.tmod (IntKind.wrap .u64 a0) 40))))), (11, .pointer (some ⟨b41, 0, none⟩)), (14, .pointer (some ⟨b67, 0, none⟩)), (15, .pointer (some ⟨b70, 0, none⟩)), (21, .int .i64 x109_l4), (22, .int .i64 x113_l5), (76, .int .i64 x76_l3), (108, .int .i64 (o22.length : Int)), (109, .int .i64 x109_l4), (112, .int .i64 x109_l4), (113, .int .i64 x113_l5), (118, .int .i64 r115), (122, .int .i64 v111), (124, .pointer (some ⟨b41, 0, none⟩)), (125, .int .i64 x113_l5), (130, .int .i64 v113)]) (by kernel_rfl) ?_
      refine WD.pure (i := 7) (v := .int .i64 (wi (r115 * v111))) (by kernel_rfl) (by kernel_rfl) (fun _ => by kernel_rfl) ?_
      refine WD.weaken [2, 7, 10, 11, 14, 15, 21, 22, 76, 108, 109, 112, 113, 123, 124, 125, 130] (L' := [(2, .slice A2 l2.length c2), (7, .slice A7_q24 o22.length c7_q24), (10, .int .i64 (wi (1 + (wi (Int.tmod (IntKind.wrap .u64 a0) 40))))), (11, .pointer (some ⟨b41, 0, none⟩)), (14, .pointer (some ⟨b67, 0, none⟩)), (15, .pointer (some ⟨b70, 0, none⟩)), (21, .int .i64 x109_l4), (22, .int .i64 x113_l5), (76, .int .i64 x76_l3), (108, .int .i64 (o22.length : Int)), (109, .int .i64 x109_l4), (112, .int .i64 x109_l4), (113, .int .i64 x113_l5), (123, .int .i64 (wi (r115 * v111))), (124, .pointer (some ⟨b41, 0, none⟩)), (125, .int .i64 x113_l5), (130, .int .i64 v113)]) (by kernel_rfl) ?_
      obtain ⟨r124, e125, H⟩ := bind_ex H
      refine WD.act (i := 10) (by kernel_rfl) (St.call (by kernel_rfl) (f := 12) (args := #[.pointer (some ⟨b41, 0, none⟩), .int .i64 x113_l5]) (by kernel_rfl) (fair_Ring_Spent.calls w122 (.pointer (some ⟨b41, 0, none⟩)) (some o101.2) (Sat.rdAny 1 hS rfl (fun _ h => O46.rd _ _ _ h)) x113_l5 r124 e125) ?_)
      rintro _ w131 ⟨rfl, hS132⟩
      have hS : Sat w131 (rf w0) [osl 3 (r0 (.int .i64)) 1 A7_q24 c7_q24 o22, O46 b41 o101.2, oar 32 (r0 (.int .i64)) 1 64 b67 q69_l5, oar 32 (r0 (.int .i64)) 1 64 b70 q72_l5] := hS.ext hS132
      refine ⟨(asked.cons (RSt.run (n := 182) (RSt.loadInt (t := 3) (.tmp 129) (by kernel_rfl) (by kernel_rfl) (by kernel_rfl) (by kernel_rfl) (Sat.rdAt 0 hS rfl) e114 rfl)) (asked.cons (RSt.run (n := 182) (RSt.loadInt (t := 3) (.tmp 121) (by kernel_rfl) (by kernel_rfl) (by kernel_rfl) (by kernel_rfl) (Sat.rdAt 0 hS rfl) e112 rfl)) (asked.nil _ _))), ?_⟩
      refine WD.weaken [2, 7, 10, 11, 14, 15, 21, 22, 76, 108, 109, 112, 113, 123, 126, 130] (L' := [(2, .slice A2 l2.length c2), (7, .slice A7_q24 o22.length c7_q24), (10, .int .i64 (wi (1 + (wi (Int.tmod (IntKind.wrap .u64 a0) 40))))), (11, .pointer (some ⟨b41, 0, none⟩)), (14, .pointer (some ⟨b67, 0, none⟩)), (15, .pointer (some ⟨b70, 0, none⟩)), (21, .int .i64 x109_l4), (22, .int .i64 x113_l5), (76, .int .i64 x76_l3), (108, .int .i64 (o22.length : Int)), (109, .int .i64 x109_l4), (112, .int .i64 x109_l4), (113, .int .i64 x113_l5), (123, .int .i64 (wi (r115 * v111))), (126, .int .i64 r124), (130, .int .i64 v113)]) (by kernel_rfl) ?_
      refine WD.pure (i := 15) (v := .int .i64 (wi (r124 * v113))) (by kernel_rfl) (by kernel_rfl) (fun _ => by kernel_rfl) ?_
      refine WD.weaken [2, 7, 10, 11, 14, 15, 21, 22, 76, 108, 109, 112, 113, 123, 131] (L' := [(2, .slice A2 l2.length c2), (7, .slice A7_q24 o22.length c7_q24), (10, .int .i64 (wi (1 + (wi (Int.tmod (IntKind.wrap .u64 a0) 40))))), (11, .pointer (some ⟨b41, 0, none⟩)), (14, .pointer (some ⟨b67, 0, none⟩)), (15, .pointer (some ⟨b70, 0, none⟩)), (21, .int .i64 x109_l4), (22, .int .i64 x113_l5), (76, .int .i64 x76_l3), (108, .int .i64 (o22.length : Int)), (109, .int .i64 x109_l4), (112, .int .i64 x109_l4), (113, .int .i64 x113_l5), (123, .int .i64 (wi (r115 * v111))), (131, .int .i64 (wi (r124 * v113)))]) (by kernel_rfl) ?_
      refine WD.pure (i := 16) (v := .int .i64 (wi ((wi (r115 * v111)) - (wi (r124 * v113))))) (by kernel_rfl) (by kernel_rfl) (fun _ => by kernel_rfl) ?_
      refine WD.weaken [2, 7, 10, 11, 14, 15, 21, 22, 76, 108, 109, 112, 113, 132] (L' := [(2, .slice A2 l2.length c2), (7, .slice A7_q24 o22.length c7_q24), (10, .int .i64 (wi (1 + (wi (Int.tmod (IntKind.wrap .u64 a0) 40))))), (11, .pointer (some ⟨b41, 0, none⟩)), (14, .pointer (some ⟨b67, 0, none⟩)), (15, .pointer (some ⟨b70, 0, none⟩)), (21, .int .i64 x109_l4), (22, .int .i64 x113_l5), (76, .int .i64 x76_l3), (108, .int .i64 (o22.length : Int)), (109, .int .i64 x109_l4), (112, .int .i64 x109_l4), (113, .int .i64 x113_l5), (132, .int .i64 (wi ((wi (r115 * v111)) - (wi (r124 * v113)))))]) (by kernel_rfl) ?_
      refine WD.pure (i := 17) (v := .int .i64 (wi ((wi (r115 * v111)) - (wi (r124 * v113))))) (by kernel_rfl) (by kernel_rfl) (fun _ => by kernel_rfl) ?_
      refine WD.weaken [2, 7, 10, 11, 14, 15, 21, 22, 23, 76, 108, 109, 112, 113] (L' := [(2, .slice A2 l2.length c2), (7, .slice A7_q24 o22.length c7_q24), (10, .int .i64 (wi (1 + (wi (Int.tmod (IntKind.wrap .u64 a0) 40))))), (11, .pointer (some ⟨b41, 0, none⟩)), (14, .pointer (some ⟨b67, 0, none⟩)), (15, .pointer (some ⟨b70, 0, none⟩)), (21, .int .i64 x109_l4), (22, .int .i64 x113_l5), (23, .int .i64 (wi ((wi (r115 * v111)) - (wi (r124 * v113))))), (76, .int .i64 x76_l3), (108, .int .i64 (o22.length : Int)), (109, .int .i64 x109_l4), (112, .int .i64 x109_l4), (113, .int .i64 x113_l5)]) (by kernel_rfl) ?_
      refine WD.nil (by kernel_rfl) ?_
      refine At.go ?_
      refine WC.seq (by kernel_rfl) ?_
      refine WC.drawn (by kernel_rfl) (by kernel_rfl) 24 (by kernel_rfl) (fun w133 hw134 => ?_)
      have hS := hS.heap hw134.1 hw134.2
      refine WD.weaken [2, 7, 10, 11, 14, 15, 21, 22, 23, 76, 108, 109, 112, 113] (L' := [(2, .slice A2 l2.length c2), (7, .slice A7_q24 o22.length c7_q24), (10, .int .i64 (wi (1 + (wi (Int.tmod (IntKind.wrap .u64 a0) 40))))), (11, .pointer (some ⟨b41, 0, none⟩)), (14, .pointer (some ⟨b67, 0, none⟩)), (15, .pointer (some ⟨b70, 0, none⟩)), (21, .int .i64 x109_l4), (22, .int .i64 x113_l5), (23, .int .i64 (wi ((wi (r115 * v111)) - (wi (r124 * v113))))), (76, .int .i64 x76_l3), (108, .int .i64 (o22.length : Int)), (109, .int .i64 x109_l4), (112, .int .i64 x109_l4), (113, .int .i64 x113_l5)]) (by kernel_rfl) ?_
      refine WD.pure (i := 0) (v := .int .i64 x109_l4) (by kernel_rfl) (by kernel_rfl) (fun _ => by kernel_rfl) ?_
      refine WD.weaken [2, 7, 10, 11, 14, 15, 21, 22, 23, 76, 108, 109, 112, 113, 133] (L' := [(2, .slice A2 l2.length c2), (7, .slice A7_q24 o22.length c7_q24), (10, .int .i64 (wi (1 + (wi (Int.tmod (IntKind.wrap .u64 a0) 40))))), (11, .pointer (some ⟨b41, 0, none⟩)), (14, .pointer (some ⟨b67, 0, none⟩)), (15, .pointer (some ⟨b70, 0, none⟩)), (21, .int .i64 x109_l4), (22, .int .i64 x113_l5), (23, .int .i64 (wi ((wi (r115 * v111)) - (wi (r124 * v113))))), (76, .int .i64 x76_l3), (108, .int .i64 (o22.length : Int)), (109, .int .i64 x109_l4), (112, .int .i64 x109_l4), (113, .int .i64 x113_l5), (133, .int .i64 x109_l4)]) (by kernel_rfl) ?_
      refine WD.pure (i := 1) (v := .int .i64 x113_l5) (by kernel_rfl) (by kernel_rfl) (fun _ => by kernel_rfl) ?_
      refine WD.weaken [2, 7, 10, 11, 14, 15, 21, 22, 23, 76, 108, 109, 112, 113, 133, 134] (L' := [(2, .slice A2 l2.length c2), (7, .slice A7_q24 o22.length c7_q24), (10, .int .i64 (wi (1 + (wi (Int.tmod (IntKind.wrap .u64 a0) 40))))), (11, .pointer (some ⟨b41, 0, none⟩)), (14, .pointer (some ⟨b67, 0, none⟩)), (15, .pointer (some ⟨b70, 0, none⟩)), (21, .int .i64 x109_l4), (22, .int .i64 x113_l5), (23, .int .i64 (wi ((wi (r115 * v111)) - (wi (r124 * v113))))), (76, .int .i64 x76_l3), (108, .int .i64 (o22.length : Int)), (109, .int .i64 x109_l4), (112, .int .i64 x109_l4), (113, .int .i64 x113_l5), (133, .int .i64 x109_l4), (134, .int .i64 x113_l5)]) (by kernel_rfl) ?_
      refine WD.pure (i := 2) (v := .int .i64 x109_l4) (by kernel_rfl) (by kernel_rfl) (fun _ => by kernel_rfl) ?_
      refine WD.weaken [2, 7, 10, 11, 14, 15, 21, 22, 23, 76, 108, 109, 112, 113, 133, 134, 135] (L' := [(2, .slice A2 l2.length c2), (7, .slice A7_q24 o22.length c7_q24), (10, .int .i64 (wi (1 + (wi (Int.tmod (IntKind.wrap .u64 a0) 40))))), (11, .pointer (some ⟨b41, 0, none⟩)), (14, .pointer (some ⟨b67, 0, none⟩)), (15, .pointer (some ⟨b70, 0, none⟩)), (21, .int .i64 x109_l4), (22, .int .i64 x113_l5), (23, .int .i64 (wi ((wi (r115 * v111)) - (wi (r124 * v113))))), (76, .int .i64 x76_l3), (108, .int .i64 (o22.length : Int)), (109, .int .i64 x109_l4), (112, .int .i64 x109_l4), (113, .int .i64 x113_l5), (133, .int .i64 x109_l4), (134, .int .i64 x113_l5), (135, .int .i64 x109_l4)]) (by kernel_rfl) ?_
      refine WD.pure (i := 3) (v := .int .i64 x113_l5) (by kernel_rfl) (by kernel_rfl) (fun _ => by kernel_rfl) ?_
      refine WD.weaken [2, 7, 10, 11, 14, 15, 21, 22, 23, 76, 108, 109, 112, 113, 133, 134, 135, 136] (L' := [(2, .slice A2 l2.length c2), (7, .slice A7_q24 o22.length c7_q24), (10, .int .i64 (wi (1 + (wi (Int.tmod (IntKind.wrap .u64 a0) 40))))), (11, .pointer (some ⟨b41, 0, none⟩)), (14, .pointer (some ⟨b67, 0, none⟩)), (15, .pointer (some ⟨b70, 0, none⟩)), (21, .int .i64 x109_l4), (22, .int .i64 x113_l5), (23, .int .i64 (wi ((wi (r115 * v111)) - (wi (r124 * v113))))), (76, .int .i64 x76_l3), (108, .int .i64 (o22.length : Int)), (109, .int .i64 x109_l4), (112, .int .i64 x109_l4), (113, .int .i64 x113_l5), (133, .int .i64 x109_l4), (134, .int .i64 x113_l5), (135, .int .i64 x109_l4), (136, .int .i64 x113_l5)]) (by kernel_rfl) ?_
      refine WD.pure (i := 4) (v := .int .i64 x109_l4) (by kernel_rfl) (by kernel_rfl) (fun _ => by kernel_rfl) ?_
      refine WD.weaken [2, 7, 10, 11, 14, 15, 21, 22, 23, 76, 108, 109, 112, 113, 133, 134, 135, 136, 137] (L' := [(2, .slice A2 l2.length c2), (7, .slice A7_q24 o22.length c7_q24), (10, .int .i64 (wi (1 + (wi (Int.tmod (IntKind.wrap .u64 a0) 40))))), (11, .pointer (some ⟨b41, 0, none⟩)), (14, .pointer (some ⟨b67, 0, none⟩)), (15, .pointer (some ⟨b70, 0, none⟩)), (21, .int .i64 x109_l4), (22, .int .i64 x113_l5), (23, .int .i64 (wi ((wi (r115 * v111)) - (wi (r124 * v113))))), (76, .int .i64 x76_l3), (108, .int .i64 (o22.length : Int)), (109, .int .i64 x109_l4), (112, .int .i64 x109_l4), (113, .int .i64 x113_l5), (133, .int .i64 x109_l4), (134, .int .i64 x113_l5), (135, .int .i64 x109_l4), (136, .int .i64 x113_l5), (137, .int .i64 x109_l4)]) (by kernel_rfl) ?_
      refine WD.pure (i := 5) (v := .int .i64 x113_l5) (by kernel_rfl) (by kernel_rfl) (fun _ => by kernel_rfl) ?_
      refine WD.weaken [2, 7, 10, 11, 14, 15, 21, 22, 23, 76, 108, 109, 112, 113, 133, 134, 135, 136, 137, 138] (L' := [(2, .slice A2 l2.length c2), (7, .slice A7_q24 o22.length c7_q24), (10, .int .i64 (wi (1 + (wi (Int.tmod (IntKind.wrap .u64 a0) 40))))), (11, .pointer (some ⟨b41, 0, none⟩)), (14, .pointer (some ⟨b67, 0, none⟩)), (15, .pointer (some ⟨b70, 0, none⟩)), (21, .int .i64 x109_l4), (22, .int .i64 x113_l5), (23, .int .i64 (wi ((wi (r115 * v111)) - (wi (r124 * v113))))), (76, .int .i64 x76_l3), (108, .int .i64 (o22.length : Int)), (109, .int .i64 x109_l4), (112, .int .i64 x109_l4), (113, .int .i64 x113_l5), (133, .int .i64 x109_l4), (134, .int .i64 x113_l5), (135, .int .i64 x109_l4), (136, .int .i64 x113_l5), (137, .int .i64 x109_l4), (138, .int .i64 x113_l5)]) (by kernel_rfl) ?_
      obtain ⟨_, e135, H⟩ := bind_ex H
      refine WD.ofP (i := 6) (by kernel_rfl) (PSt.idxArr1 (k := .i64) (t := 32) (e := 31) (sz := 8) (m := 8) (b := b67) (.tmp 14) (.tmp 137) (by kernel_rfl) (by kernel_rfl) (by kernel_rfl) (by kernel_rfl) (by kernel_rfl) (by kernel_rfl) (by kernel_rfl) e135 ?_)
      refine WD.weaken [2, 7, 10, 11, 14, 15, 21, 22, 23, 76, 108, 109, 112, 113, 133, 134, 135, 136, 138, 139] (L' := [(2, .slice A2 l2.length c2), (7, .slice A7_q24 o22.length c7_q24), (10, .int .i64 (wi (1 + (wi (Int.tmod (IntKind.wrap .u64 a0) 40))))), (11, .pointer (some ⟨b41, 0, none⟩)), (14, .pointer (some ⟨b67, 0, none⟩)), (15, .pointer (some ⟨b70, 0, none⟩)), (21, .int .i64 x109_l4), (22, .int .i64 x113_l5), (23, .int .i64 (wi ((wi (r115 * v111)) - (wi (r124 * v113))))), (76, .int .i64 x76_l3), (108, .int .i64 (o22.length : Int)), (109, .int .i64 x109_l4), (112, .int .i64 x109_l4), (113, .int .i64 x113_l5), (133, .int .i64 x109_l4), (134, .int .i64 x113_l5), (135, .int .i64 x109_l4), (136, .int .i64 x113_l5), (138, .int .i64 x113_l5), (139, .pointer (some (adr (some ⟨b67, 0, none⟩) x109_l4.toNat 8)))]) (by kernel_rfl) ?_
      obtain ⟨_, e136, H⟩ := bind_ex H
      obtain ⟨v137, e138, H⟩ := bind_ex H
      refine WD.ofP (i := 7) (by kernel_rfl) (PSt.idxArr2 (α := Int) (k := .i64) (t := 31) (e := 3) (m := 8) (b := b67) (xs := q69_l5) (j0 := x109_l4) (v := v137) (.tmp 139) (.tmp 138) (by kernel_rfl) (by kernel_rfl) (by kernel_rfl) (by kernel_rfl) (by kernel_rfl) (chk_ge e135) (by kernel_rfl) (by kernel_rfl) e136 ?_)
      refine WD.weaken [2, 7, 10, 11, 14, 15, 21, 22, 23, 76, 108, 109, 112, 113, 133, 134, 135, 136, 140] (L' := [(2, .slice A2 l2.length c2), (7, .slice A7_q24 o22.length c7_q24), (10, .int .i64 (wi (1 + (wi (Int.tmod (IntKind.wrap .u64 a0) 40))))), (11, .pointer (some ⟨b41, 0, none⟩)), (14, .pointer (some ⟨b67, 0, none⟩)), (15, .pointer (some ⟨b70, 0, none⟩)), (21, .int .i64 x109_l4), (22, .int .i64 x113_l5), (23, .int .i64 (wi ((wi (r115 * v111)) - (wi (r124 * v113))))), (76, .int .i64 x76_l3), (108, .int .i64 (o22.length : Int)), (109, .int .i64 x109_l4), (112, .int .i64 x109_l4), (113, .int .i64 x113_l5), (133, .int .i64 x109_l4), (134, .int .i64 x113_l5), (135, .int .i64 x109_l4), (136, .int .i64 x113_l5), (140, .pointer (some (adr (some ⟨b67, 0, none⟩) ((x109_l4 * 8 + x113_l5)).toNat 1)))]) (by kernel_rfl) ?_
      refine WD.ofR (i := 8) (by kernel_rfl) (RSt.loadInt (t := 3) (.tmp 140) (by kernel_rfl) (by kernel_rfl) (by kernel_rfl) (by kernel_rfl) (Sat.oarAt 2 hS rfl).1 e138 ?_)
      refine WD.weaken [2, 7, 10, 11, 14, 15, 21, 22, 23, 76, 108, 109, 112, 113, 133, 134, 135, 136, 141] (L' := [(2, .slice A2 l2.length c2), (7, .slice A7_q24 o22.length c7_q24), (10, .int .i64 (wi (1 + (wi (Int.tmod (IntKind.wrap .u64 a0) 40))))), (11, .pointer (some ⟨b41, 0, none⟩)), (14, .pointer (some ⟨b67, 0, none⟩)), (15, .pointer (some ⟨b70, 0, none⟩)), (21, .int .i64 x109_l4), (22, .int .i64 x113_l5), (23, .int .i64 (wi ((wi (r115 * v111)) - (wi (r124 * v113))))), (76, .int .i64 x76_l3), (108, .int .i64 (o22.length : Int)), (109, .int .i64 x109_l4), (112, .int .i64 x109_l4), (113, .int .i64 x113_l5), (133, .int .i64 x109_l4), (134, .int .i64 x113_l5), (135, .int .i64 x109_l4), (136, .int .i64 x113_l5), (141, .int .i64 v137)]) (by kernel_rfl) ?_
      refine WD.pure (i := 9) (v := .int .i64 (wi ((wi (r115 * v111)) - (wi (r124 * v113))))) (by kernel_rfl) (by kernel_rfl) (fun _ => by kernel_rfl) ?_
      refine WD.weaken [2, 7, 10, 11, 14, 15, 21, 22, 23, 76, 108, 109, 112, 113, 133, 134, 135, 136, 141, 142] (L' := [(2, .slice A2 l2.length c2), (7, .slice A7_q24 o22.length c7_q24), (10, .int .i64 (wi (1 + (wi (Int.tmod (IntKind.wrap .u64 a0) 40))))), (11, .pointer (some ⟨b41, 0, none⟩)), (14, .pointer (some ⟨b67, 0, none⟩)), (15, .pointer (some ⟨b70, 0, none⟩)), (21, .int .i64 x109_l4), (22, .int .i64 x113_l5), (23, .int .i64 (wi ((wi (r115 * v111)) - (wi (r124 * v113))))), (76, .int .i64 x76_l3), (108, .int .i64 (o22.length : Int)), (109, .int .i64 x109_l4), (112, .int .i64 x109_l4), (113, .int .i64 x113_l5), (133, .int .i64 x109_l4), (134, .int .i64 x113_l5), (135, .int .i64 x109_l4), (136, .int .i64 x113_l5), (141, .int .i64 v137), (142, .int .i64 (wi ((wi (r115 * v111)) - (wi (r124 * v113)))))]) (by kernel_rfl) ?_
      refine WD.pure (i := 10) (v := .int .i64 (imin v137 (wi ((wi (r115 * v111)) - (wi (r124 * v113)))))) (by kernel_rfl) (by kernel_rfl) (fun _ => by kernel_rfl) ?_
      refine WD.weaken [2, 7, 10, 11, 14, 15, 21, 22, 23, 76, 108, 109, 112, 113, 133, 134, 135, 136, 143] (L' := [(2, .slice A2 l2.length c2), (7, .slice A7_q24 o22.length c7_q24), (10, .int .i64 (wi (1 + (wi (Int.tmod (IntKind.wrap .u64 a0) 40))))), (11, .pointer (some ⟨b41, 0, none⟩)), (14, .pointer (some ⟨b67, 0, none⟩)), (15, .pointer (some ⟨b70, 0, none⟩)), (21, .int .i64 x109_l4), (22, .int .i64 x113_l5), (23, .int .i64 (wi ((wi (r115 * v111)) - (wi (r124 * v113))))), (76, .int .i64 x76_l3), (108, .int .i64 (o22.length : Int)), (109, .int .i64 x109_l4), (112, .int .i64 x109_l4), (113, .int .i64 x113_l5), (133, .int .i64 x109_l4), (134, .int .i64 x113_l5), (135, .int .i64 x109_l4), (136, .int .i64 x113_l5), (143, .int .i64 (imin v137 (wi ((wi (r115 * v111)) - (wi (r124 * v113))))))]) (by kernel_rfl) ?_
      refine WD.pure (i := 11) (v := .int .i64 x109_l4) (by kernel_rfl) (by kernel_rfl) (fun _ => by kernel_rfl) ?_
      refine WD.weaken [2, 7, 10, 11, 14, 15, 21, 22, 23, 76, 108, 109, 112, 113, 133, 134, 135, 136, 143, 144] (L' := [(2, .slice A2 l2.length c2), (7, .slice A7_q24 o22.length c7_q24), (10, .int .i64 (wi (1 + (wi (Int.tmod (IntKind.wrap .u64 a0) 40))))), (11, .pointer (some ⟨b41, 0, none⟩)), (14, .pointer (some ⟨b67, 0, none⟩)), (15, .pointer (some ⟨b70, 0, none⟩)), (21, .int .i64 x109_l4), (22, .int .i64 x113_l5), (23, .int .i64 (wi ((wi (r115 * v111)) - (wi (r124 * v113))))), (76, .int .i64 x76_l3), (108, .int .i64 (o22.length : Int)), (109, .int .i64 x109_l4), (112, .int .i64 x109_l4), (113, .int .i64 x113_l5), (133, .int .i64 x109_l4), (134, .int .i64 x113_l5), (135, .int .i64 x109_l4), (136, .int .i64 x113_l5), (143, .int .i64 (imin v137 (wi ((wi (r115 * v111)) - (wi (r124 * v113)))))), (144, .int .i64 x109_l4)]) (by kernel_rfl) ?_
      refine WD.pure (i := 12) (v := .int .i64 x113_l5) (by kernel_rfl) (by kernel_rfl) (fun _ => by kernel_rfl) ?_
      refine WD.weaken [2, 7, 10, 11, 14, 15, 21, 22, 23, 76, 108, 109, 112, 113, 133, 134, 135, 136, 143, 144, 145] (L' := [(2, .slice A2 l2.length c2), (7, .slice A7_q24 o22.length c7_q24), (10, .int .i64 (wi (1 + (wi (Int.tmod (IntKind.wrap .u64 a0) 40))))), (11, .pointer (some ⟨b41, 0, none⟩)), (14, .pointer (some ⟨b67, 0, none⟩)), (15, .pointer (some ⟨b70, 0, none⟩)), (21, .int .i64 x109_l4), (22, .int .i64 x113_l5), (23, .int .i64 (wi ((wi (r115 * v111)) - (wi (r124 * v113))))), (76, .int .i64 x76_l3), (108, .int .i64 (o22.length : Int)), (109, .int .i64 x109_l4), (112, .int .i64 x109_l4), (113, .int .i64 x113_l5), (133, .int .i64 x109_l4), (134, .int .i64 x113_l5), (135, .int .i64 x109_l4), (136, .int .i64 x113_l5), (143, .int .i64 (imin v137 (wi ((wi (r115 * v111)) - (wi (r124 * v113)))))), (144, .int .i64 x109_l4), (145, .int .i64 x113_l5)]) (by kernel_rfl) ?_
      obtain ⟨_, e139, H⟩ := bind_ex H
      refine WD.ofP (i := 13) (by kernel_rfl) (PSt.idxArr1 (k := .i64) (t := 32) (e := 31) (sz := 8) (m := 8) (b := b70) (.tmp 15) (.tmp 144) (by kernel_rfl) (by kernel_rfl) (by kernel_rfl) (by kernel_rfl) (by kernel_rfl) (by kernel_rfl) (by kernel_rfl) e139 ?_)
      refine WD.weaken [2, 7, 10, 11, 14, 15, 21, 22, 23, 76, 108, 109, 112, 113, 133, 134, 135, 136, 143, 145, 146] (L' := [(2, .slice A2 l2.length c2), (7, .slice A7_q24 o22.length c7_q24), (10, .int .i64 (wi (1 + (wi (Int.tmod (IntKind.wrap .u64 a0) 40))))), (11, .pointer (some ⟨b41, 0, none⟩)), (14, .pointer (some ⟨b67, 0, none⟩)), (15, .pointer (some ⟨b70, 0, none⟩)), (21, .int .i64 x109_l4), (22, .int .i64 x113_l5), (23, .int .i64 (wi ((wi (r115 * v111)) - (wi (r124 * v113))))), (76, .int .i64 x76_l3), (108, .int .i64 (o22.length : Int)), (109, .int .i64 x109_l4), (112, .int .i64 x109_l4), (113, .int .i64 x113_l5), (133, .int .i64 x109_l4), (134, .int .i64 x113_l5), (135, .int .i64 x109_l4), (136, .int .i64 x113_l5), (143, .int .i64 (imin v137 (wi ((wi (r115 * v111)) - (wi (r124 * v113)))))), (145, .int .i64 x113_l5), (146, .pointer (some (adr (some ⟨b70, 0, none⟩) x109_l4.toNat 8)))]) (by kernel_rfl) ?_
      obtain ⟨_, e140, H⟩ := bind_ex H
      obtain ⟨v141, e142, H⟩ := bind_ex H
      refine WD.ofP (i := 14) (by kernel_rfl) (PSt.idxArr2 (α := Int) (k := .i64) (t := 31) (e := 3) (m := 8) (b := b70) (xs := q72_l5) (j0 := x109_l4) (v := v141) (.tmp 146) (.tmp 145) (by kernel_rfl) (by kernel_rfl) (by kernel_rfl) (by kernel_rfl) (by kernel_rfl) (chk_ge e139) (by kernel_rfl) (by kernel_rfl) e140 ?_)
      refine WD.weaken [2, 7, 10, 11, 14, 15, 21, 22, 23, 76, 108, 109, 112, 113, 133, 134, 135, 136, 143, 147] (L' := [(2, .slice A2 l2.length c2), (7, .slice A7_q24 o22.length c7_q24), (10, .int .i64 (wi (1 + (wi (Int.tmod (IntKind.wrap .u64 a0) 40))))), (11, .pointer (some ⟨b41, 0, none⟩)), (14, .pointer (some ⟨b67, 0, none⟩)), (15, .pointer (some ⟨b70, 0, none⟩)), (21, .int .i64 x109_l4), (22, .int .i64 x113_l5), (23, .int .i64 (wi ((wi (r115 * v111)) - (wi (r124 * v113))))), (76, .int .i64 x76_l3), (108, .int .i64 (o22.length : Int)), (109, .int .i64 x109_l4), (112, .int .i64 x109_l4), (113, .int .i64 x113_l5), (133, .int .i64 x109_l4), (134, .int .i64 x113_l5), (135, .int .i64 x109_l4), (136, .int .i64 x113_l5), (143, .int .i64 (imin v137 (wi ((wi (r115 * v111)) - (wi (r124 * v113)))))), (147, .pointer (some (adr (some ⟨b70, 0, none⟩) ((x109_l4 * 8 + x113_l5)).toNat 1)))]) (by kernel_rfl) ?_
      refine WD.ofR (i := 15) (by kernel_rfl) (RSt.loadInt (t := 3) (.tmp 147) (by kernel_rfl) (by kernel_rfl) (by kernel_rfl) (by kernel_rfl) (Sat.oarAt 3 hS rfl).1 e142 ?_)
      refine WD.weaken [2, 7, 10, 11, 14, 15, 21, 22, 23, 76, 108, 109, 112, 113, 133, 134, 135, 136, 143, 148] (L' := [(2, .slice A2 l2.length c2), (7, .slice A7_q24 o22.length c7_q24), (10, .int .i64 (wi (1 + (wi (Int.tmod (IntKind.wrap .u64 a0) 40))))), (11, .pointer (some ⟨b41, 0, none⟩)), (14, .pointer (some ⟨b67, 0, none⟩)), (15, .pointer (some ⟨b70, 0, none⟩)), (21, .int .i64 x109_l4), (22, .int .i64 x113_l5), (23, .int .i64 (wi ((wi (r115 * v111)) - (wi (r124 * v113))))), (76, .int .i64 x76_l3), (108, .int .i64 (o22.length : Int)), (109, .int .i64 x109_l4), (112, .int .i64 x109_l4), (113, .int .i64 x113_l5), (133, .int .i64 x109_l4), (134, .int .i64 x113_l5), (135, .int .i64 x109_l4), (136, .int .i64 x113_l5), (143, .int .i64 (imin v137 (wi ((wi (r115 * v111)) - (wi (r124 * v113)))))), (148, .int .i64 v141)]) (by kernel_rfl) ?_
      refine WD.pure (i := 16) (v := .int .i64 (wi ((wi (r115 * v111)) - (wi (r124 * v113))))) (by kernel_rfl) (by kernel_rfl) (fun _ => by kernel_rfl) ?_
      refine WD.weaken [2, 7, 10, 11, 14, 15, 21, 22, 76, 108, 109, 112, 113, 133, 134, 135, 136, 143, 148, 149] (L' := [(2, .slice A2 l2.length c2), (7, .slice A7_q24 o22.length c7_q24), (10, .int .i64 (wi (1 + (wi (Int.tmod (IntKind.wrap .u64 a0) 40))))), (11, .pointer (some ⟨b41, 0, none⟩)), (14, .pointer (some ⟨b67, 0, none⟩)), (15, .pointer (some ⟨b70, 0, none⟩)), (21, .int .i64 x109_l4), (22, .int .i64 x113_l5), (76, .int .i64 x76_l3), (108, .int .i64 (o22.length : Int)), (109, .int .i64 x109_l4), (112, .int .i64 x109_l4), (113, .int .i64 x113_l5), (133, .int .i64 x109_l4), (134, .int .i64 x113_l5), (135, .int .i64 x109_l4), (136, .int .i64 x113_l5), (143, .int .i64 (imin v137 (wi ((wi (r115 * v111)) - (wi (r124 * v113)))))), (148, .int .i64 v141), (149, .int .i64 (wi ((wi (r115 * v111)) - (wi (r124 * v113)))))]) (by kernel_rfl) ?_
      refine WD.pure (i := 17) (v := .int .i64 (imax v141 (wi ((wi (r115 * v111)) - (wi (r124 * v113)))))) (by kernel_rfl) (by kernel_rfl) (fun _ => by kernel_rfl) ?_
      refine WD.weaken [2, 7, 10, 11, 14, 15, 21, 22, 76, 108, 109, 112, 113, 133, 134, 135, 136, 143, 150] (L' := [(2, .slice A2 l2.length c2), (7, .slice A7_q24 o22.length c7_q24), (10, .int .i64 (wi (1 + (wi (Int.tmod (IntKind.wrap .u64 a0) 40))))), (11, .pointer (some ⟨b41, 0, none⟩)), (14, .pointer (some ⟨b67, 0, none⟩)), (15, .pointer (some ⟨b70, 0, none⟩)), (21, .int .i64 x109_l4), (22, .int .i64 x113_l5), (76, .int .i64 x76_l3), (108, .int .i64 (o22.length : Int)), (109, .int .i64 x109_l4), (112, .int .i64 x109_l4), (113, .int .i64 x113_l5), (133, .int .i64 x109_l4), (134, .int .i64 x113_l5), (135, .int .i64 x109_l4), (136, .int .i64 x113_l5), (143, .int .i64 (imin v137 (wi ((wi (r115 * v111)) - (wi (r124 * v113)))))), (150, .int .i64 (imax v141 (wi ((wi (r115 * v111)) - (wi (r124 * v113))))))]) (by kernel_rfl) ?_
      obtain ⟨_, e143, H⟩ := bind_ex H
      refine WD.ofP (i := 18) (by kernel_rfl) (PSt.idxArr1 (k := .i64) (t := 32) (e := 31) (sz := 8) (m := 8) (b := b67) (.tmp 14) (.tmp 133) (by kernel_rfl) (by kernel_rfl) (by kernel_rfl) (by kernel_rfl) (by kernel_rfl) (by kernel_rfl) (by kernel_rfl) e143 ?_)
      refine WD.weaken [2, 7, 10, 11, 14, 15, 21, 22, 76, 108, 109, 112, 113, 134, 135, 136, 143, 150, 151] (L' := [(2, .slice A2 l2.length c2), (7, .slice A7_q24 o22.length c7_q24), (10, .int .i64 (wi (1 + (wi (Int.tmod (IntKind.wrap .u64 a0) 40))))), (11, .pointer (some ⟨b41, 0, none⟩)), (14, .pointer (some ⟨b67, 0, none⟩)), (15, .pointer (some ⟨b70, 0, none⟩)), (21, .int .i64 x109_l4), (22, .int .i64 x113_l5), (76, .int .i64 x76_l3), (108, .int .i64 (o22.length : Int)), (109, .int .i64 x109_l4), (112, .int .i64 x109_l4), (113, .int .i64 x113_l5), (134, .int .i64 x113_l5), (135, .int .i64 x109_l4), (136, .int .i64 x113_l5), (143, .int .i64 (imin v137 (wi ((wi (r115 * v111)) - (wi (r124 * v113)))))), (150, .int .i64 (imax v141 (wi ((wi (r115 * v111)) - (wi (r124 * v113)))))), (151, .pointer (some (adr (some ⟨b67, 0, none⟩) x109_l4.toNat 8)))]) (by kernel_rfl) ?_
      obtain ⟨_, e144, H⟩ := bind_ex H
      obtain ⟨v145, e146, H⟩ := bind_ex H
      refine WD.ofP (i := 19) (by kernel_rfl) (PSt.idxArr2 (α := Int) (k := .i64) (t := 31) (e := 3) (m := 8) (b := b67) (xs := q69_l5) (j0 := x109_l4) (v := v145) (.tmp 151) (.tmp 134) (by kernel_rfl) (by kernel_rfl) (by kernel_rfl) (by kernel_rfl) (by kernel_rfl) (chk_ge e143) (by kernel_rfl) (by kernel_rfl) e144 ?_)
      refine WD.weaken [2, 7, 10, 11, 14, 15, 21, 22, 76, 108, 109, 112, 113, 135, 136, 143, 150, 152] (L' := [(2, .slice A2 l2.length c2), (7, .slice A7_q24 o22.length c7_q24), (10, .int .i64 (wi (1 + (wi (Int.tmod (IntKind.wrap .u64 a0) 40))))), (11, .pointer (some ⟨b41, 0, none⟩)), (14, .pointer (some ⟨b67, 0, none⟩)), (15, .pointer (some ⟨b70, 0, none⟩)), (21, .int .i64 x109_l4), (22, .int .i64 x113_l5), (76, .int .i64 x76_l3), (108, .int .i64 (o22.length : Int)), (109, .int .i64 x109_l4), (112, .int .i64 x109_l4), (113, .int .i64 x113_l5), (135, .int .i64 x109_l4), (136, .int .i64 x113_l5), (143, .int .i64 (imin v137 (wi ((wi (r115 * v111)) - (wi (r124 * v113)))))), (150, .int .i64 (imax v141 (wi ((wi (r115 * v111)) - (wi (r124 * v113)))))), (152, .pointer (some (adr (some ⟨b67, 0, none⟩) ((x109_l4 * 8 + x113_l5)).toNat 1)))]) (by kernel_rfl) ?_
      obtain ⟨_, e147, H⟩ := bind_ex H
      refine WD.ofP (i := 21) (by kernel_rfl) (PSt.idxArr1 (k := .i64) (t := 32) (e := 31) (sz := 8) (m := 8) (b := b70) (.tmp 15) (.tmp 135) (by kernel_rfl) (by kernel_rfl) (by kernel_rfl) (by kernel_rfl) (by kernel_rfl) (by kernel_rfl) (by kernel_rfl) e147 ?_)
      refine WD.weaken [2, 7, 10, 11, 14, 15, 21, 22, 76, 108, 109, 112, 113, 136, 143, 150, 152, 153] (L' := [(2, .slice A2 l2.length c2), (7, .slice A7_q24 o22.length c7_q24), (10, .int .i64 (wi (1 + (wi (Int.tmod (IntKind.wrap .u64 a0) 40))))), (11, .pointer (some ⟨b41, 0, none⟩)), (14, .pointer (some ⟨b67, 0, none⟩)), (15, .pointer (some ⟨b70, 0, none⟩)), (21, .int .i64 x109_l4), (22, .int .i64 x113_l5), (76, .int .i64 x76_l3), (108, .int .i64 (o22.length : Int)), (109, .int .i64 x109_l4), (112, .int .i64 x109_l4), (113, .int .i64 x113_l5), (136, .int .i64 x113_l5), (143, .int .i64 (imin v137 (wi ((wi (r115 * v111)) - (wi (r124 * v113)))))), (150, .int .i64 (imax v141 (wi ((wi (r115 * v111)) - (wi (r124 * v113)))))), (152, .pointer (some (adr (some ⟨b67, 0, none⟩) ((x109_l4 * 8 + x113_l5)).toNat 1))), (153, .pointer (some (adr (some ⟨b70, 0, none⟩) x109_l4.toNat 8)))]) (by kernel_rfl) ?_
      have hS : Sat w133 (rf w0) [oar 32 (r0 (.int .i64)) 1 64 b67 q69_l5, osl 3 (r0 (.int .i64)) 1 A7_q24 c7_q24 o22, O46 b41 o101.2, oar 32 (r0 (.int .i64)) 1 64 b70 q72_l5] := hS.sel [2, 0, 1, 3] (by kernel_rfl)
      obtain ⟨y148, e149, H⟩ := bind_ex H
      obtain ⟨hl151, hS⟩ := oar.op hS
      refine WD.act (i := 20) (by kernel_rfl) (St.storeElem' (t := 3) (.tmp 152) (.tmp 143) (by kernel_rfl) (by kernel_rfl) (by kernel_rfl) hS (by kernel_rfl) (by kernel_rfl) rfl e149 rfl (fun w150 hS => ?_))
      have hl152 := (set?_len e149).trans hl151
      have hS : Sat w150 (rf w0) [oar 32 (r0 (.int .i64)) 1 64 b67 y148, osl 3 (r0 (.int .i64)) 1 A7_q24 c7_q24 o22, O46 b41 o101.2, oar 32 (r0 (.int .i64)) 1 64 b70 q72_l5] := oar.cl hl152 hS
      refine ⟨(asked.cons (RSt.run (n := 182) (RSt.loadInt (t := 3) (.tmp 147) (by kernel_rfl) (by kernel_rfl) (by kernel_rfl) (by kernel_rfl) (Sat.oarAt 3 hS rfl).1 e142 rfl)) (asked.anc (by kernel_rfl) (asked.nil _ _))), ?_⟩
      refine WD.weaken [2, 7, 10, 11, 14, 15, 21, 22, 76, 108, 109, 112, 113, 136, 150, 153] (L' := [(2, .slice A2 l2.length c2), (7, .slice A7_q24 o22.length c7_q24), (10, .int .i64 (wi (1 + (wi (Int.tmod (IntKind.wrap .u64 a0) 40))))), (11, .pointer (some ⟨b41, 0, none⟩)), (14, .pointer (some ⟨b67, 0, none⟩)), (15, .pointer (some ⟨b70, 0, none⟩)), (21, .int .i64 x109_l4), (22, .int .i64 x113_l5), (76, .int .i64 x76_l3), (108, .int .i64 (o22.length : Int)), (109, .int .i64 x109_l4), (112, .int .i64 x109_l4), (113, .int .i64 x113_l5), (136, .int .i64 x113_l5), (150, .int .i64 (imax v141 (wi ((wi (r115 * v111)) - (wi (r124 * v113)))))), (153, .pointer (some (adr (some ⟨b70, 0, none⟩) x109_l4.toNat 8)))]) (by kernel_rfl) ?_
      obtain ⟨_, e153, H⟩ := bind_ex H
      obtain ⟨v154, e155, H⟩ := bind_ex H
      refine WD.ofP (i := 22) (by kernel_rfl) (PSt.idxArr2 (α := Int) (k := .i64) (t := 31) (e := 3) (m := 8) (b := b70) (xs := q72_l5) (j0 := x109_l4) (v := v154) (.tmp 153) (.tmp 136) (by kernel_rfl) (by kernel_rfl) (by kernel_rfl) (by kernel_rfl) (by kernel_rfl) (chk_ge e147) (by kernel_rfl) (by kernel_rfl) e153 ?_)
      refine WD.weaken [2, 7, 10, 11, 14, 15, 21, 22, 76, 108, 109, 112, 113, 150, 154] (L' := [(2, .slice A2 l2.length c2), (7, .slice A7_q24 o22.length c7_q24), (10, .int .i64 (wi (1 + (wi (Int.tmod (IntKind.wrap .u64 a0) 40))))), (11, .pointer (some ⟨b41, 0, none⟩)), (14, .pointer (some ⟨b67, 0, none⟩)), (15, .pointer (some ⟨b70, 0, none⟩)), (21, .int .i64 x109_l4), (22, .int .i64 x113_l5), (76, .int .i64 x76_l3), (108, .int .i64 (o22.length : Int)), (109, .int .i64 x109_l4), (112, .int .i64 x109_l4), (113, .int .i64 x113_l5), (150, .int .i64 (imax v141 (wi ((wi (r115 * v111)) - (wi (r124 * v113)))))), (154, .pointer (some (adr (some ⟨b70, 0, none⟩) ((x109_l4 * 8 + x113_l5)).toNat 1)))]) (by kernel_rfl) ?_
      have hS : Sat w150 (rf w0) [oar 32 (r0 (.int .i64)) 1 64 b70 q72_l5, oar 32 (r0 (.int .i64)) 1 64 b67 y148, osl 3 (r0 (.int .i64)) 1 A7_q24 c7_q24 o22, O46 b41 o101.2] := hS.sel [3, 0, 1, 2] (by kernel_rfl)
      obtain ⟨y156, e157, H⟩ := bind_ex H
      obtain ⟨hl159, hS⟩ := oar.op hS
      refine WD.act (i := 23) (by kernel_rfl) (St.storeElem' (t := 3) (.tmp 154) (.tmp 150) (by kernel_rfl) (by kernel_rfl) (by kernel_rfl) hS (by kernel_rfl) (by kernel_rfl) rfl e157 rfl (fun w158 hS => ?_))
      have hl160 := (set?_len e157).trans hl159
      have hS : Sat w158 (rf w0) [oar 32 (r0 (.int .i64)) 1 64 b70 y156, oar 32 (r0 (.int .i64)) 1 64 b67 y148, osl 3 (r0 (.int .i64)) 1 A7_q24 c7_q24 o22, O46 b41 o101.2] := oar.cl hl160 hS
      refine ⟨(asked.anc (by kernel_rfl) (asked.anc (by kernel_rfl) (asked.nil _ _))), ?_⟩
      refine WD.weaken [2, 7, 10, 11, 14, 15, 21, 22, 76, 108, 109, 112, 113] (L' := [(2, .slice A2 l2.length c2), (7, .slice A7_q24 o22.length c7_q24), (10, .int .i64 (wi (1 + (wi (Int.tmod (IntKind.wrap .u64 a0) 40))))), (11, .pointer (some ⟨b41, 0, none⟩)), (14, .pointer (some ⟨b67, 0, none⟩)), (15, .pointer (some ⟨b70, 0, none⟩)), (21, .int .i64 x109_l4), (22, .int .i64 x113_l5), (76, .int .i64 x76_l3), (108, .int .i64 (o22.length : Int)), (109, .int .i64 x109_l4), (112, .int .i64 x109_l4), (113, .int .i64 x113_l5)]) (by kernel_rfl) ?_
      refine WD.nil (by kernel_rfl) ?_
      refine At.go ?_
      refine WC.seq (by kernel_rfl) ?_
      refine WC.drawn (by kernel_rfl) (by kernel_rfl) 24 (by kernel_rfl) (fun w161 hw162 => ?_)
      have hS := hS.heap hw162.1 hw162.2
      refine WD.weaken [2, 7, 10, 11, 14, 15, 21, 22, 76, 108, 109, 112, 113] (L' := [(2, .slice A2 l2.length c2), (7, .slice A7_q24 o22.length c7_q24), (10, .int .i64 (wi (1 + (wi (Int.tmod (IntKind.wrap .u64 a0) 40))))), (11, .pointer (some ⟨b41, 0, none⟩)), (14, .pointer (some ⟨b67, 0, none⟩)), (15, .pointer (some ⟨b70, 0, none⟩)), (21, .int .i64 x109_l4), (22, .int .i64 x113_l5), (76, .int .i64 x76_l3), (108, .int .i64 (o22.length : Int)), (109, .int .i64 x109_l4), (112, .int .i64 x109_l4), (113, .int .i64 x113_l5)]) (by kernel_rfl) ?_
      refine WD.pure (i := 0) (v := .int .i64 x109_l4) (by kernel_rfl) (by kernel_rfl) (fun _ => by kernel_rfl) ?_
      refine WD.weaken [2, 7, 10, 11, 14, 15, 21, 22, 76, 108, 109, 112, 113, 155] (L' := [(2, .slice A2 l2.length c2), (7, .slice A7_q24 o22.length c7_q24), (10, .int .i64 (wi (1 + (wi (Int.tmod (IntKind.wrap .u64 a0) 40))))), (11, .pointer (some ⟨b41, 0, none⟩)), (14, .pointer (some ⟨b67, 0, none⟩)), (15, .pointer (some ⟨b70, 0, none⟩)), (21, .int .i64 x109_l4), (22, .int .i64 x113_l5), (76, .int .i64 x76_l3), (108, .int .i64 (o22.length : Int)), (109, .int .i64 x109_l4), (112, .int .i64 x109_l4), (113, .int .i64 x113_l5), (155, .int .i64 x109_l4)]) (by kernel_rfl) ?_
      refine WD.pure (i := 1) (v := .int .i64 x113_l5) (by kernel_rfl) (by kernel_rfl) (fun _ => by kernel_rfl) ?_
      refine WD.weaken [2, 7, 10, 11, 14, 15, 21, 22, 76, 108, 109, 112, 113, 155, 156] (L' := [(2, .slice A2 l2.length c2), (7, .slice A7_q24 o22.length c7_q24), (10, .int .i64 (wi (1 + (wi (Int.tmod (IntKind.wrap .u64 a0) 40))))), (11, .pointer (some ⟨b41, 0, none⟩)), (14, .pointer (some ⟨b67, 0, none⟩)), (15, .pointer (some ⟨b70, 0, none⟩)), (21, .int .i64 x109_l4), (22, .int .i64 x113_l5), (76, .int .i64 x76_l3), (108, .int .i64 (o22.length : Int)), (109, .int .i64 x109_l4), (112, .int .i64 x109_l4), (113, .int .i64 x113_l5), (155, .int .i64 x109_l4), (156, .int .i64 x113_l5)]) (by kernel_rfl) ?_
      obtain ⟨_, e163, H⟩ := bind_ex H
      refine WD.ofP (i := 2) (by kernel_rfl) (PSt.idxArr1 (k := .i64) (t := 32) (e := 31) (sz := 8) (m := 8) (b := b70) (.tmp 15) (.tmp 155) (by kernel_rfl) (by kernel_rfl) (by kernel_rfl) (by kernel_rfl) (by kernel_rfl) (by kernel_rfl) (by kernel_rfl) e163 ?_)
      refine WD.weaken [2, 7, 10, 11, 14, 15, 21, 22, 76, 108, 109, 112, 113, 156, 157] (L' := [(2, .slice A2 l2.length c2), (7, .slice A7_q24 o22.length c7_q24), (10, .int .i64 (wi (1 + (wi (Int.tmod (IntKind.wrap .u64 a0) 40))))), (11, .pointer (some ⟨b41, 0, none⟩)), (14, .pointer (some ⟨b67, 0, none⟩)), (15, .pointer (some ⟨b70, 0, none⟩)), (21, .int .i64 x109_l4), (22, .int .i64 x113_l5), (76, .int .i64 x76_l3), (108, .int .i64 (o22.length : Int)), (109, .int .i64 x109_l4), (112, .int .i64 x109_l4), (113, .int .i64 x113_l5), (156, .int .i64 x113_l5), (157, .pointer (some (adr (some ⟨b70, 0, none⟩) x109_l4.toNat 8)))]) (by kernel_rfl) ?_
      obtain ⟨_, e164, H⟩ := bind_ex H
      obtain ⟨v165, e166, H⟩ := bind_ex H
      refine WD.ofP (i := 3) (by kernel_rfl) (PSt.idxArr2 (α := Int) (k := .i64) (t := 31) (e := 3) (m := 8) (b := b70) (xs := y156) (j0 := x109_l4) (v := v165) (.tmp 157) (.tmp 156) (by kernel_rfl) (by kernel_rfl) (by kernel_rfl) (by kernel_rfl) (by kernel_rfl) (chk_ge e163) (by kernel_rfl) (by kernel_rfl) e164 ?_)
      refine WD.weaken [2, 7, 10, 11, 14, 15, 21, 22, 76, 108, 109, 112, 113, 158] (L' := [(2, .slice A2 l2.length c2), (7, .slice A7_q24 o22.length c7_q24), (10, .int .i64 (wi (1 + (wi (Int.tmod (IntKind.wrap .u64 a0) 40))))), (11, .pointer (some ⟨b41, 0, none⟩)), (14, .pointer (some ⟨b67, 0, none⟩)), (15, .pointer (some ⟨b70, 0, none⟩)), (21, .int .i64 x109_l4), (22, .int .i64 x113_l5), (76, .int .i64 x76_l3), (108, .int .i64 (o22.length : Int)), (109, .int .i64 x109_l4), (112, .int .i64 x109_l4), (113, .int .i64 x113_l5), (158, .pointer (some (adr (some ⟨b70, 0, none⟩) ((x109_l4 * 8 + x113_l5)).toNat 1)))]) (by kernel_rfl) ?_
      refine WD.ofR (i := 4) (by kernel_rfl) (RSt.loadInt (t := 3) (.tmp 158) (by kernel_rfl) (by kernel_rfl) (by kernel_rfl) (by kernel_rfl) (Sat.oarAt 0 hS rfl).1 e166 ?_)
      refine WD.weaken [2, 7, 10, 11, 14, 15, 21, 22, 76, 108, 109, 112, 113, 159] (L' := [(2, .slice A2 l2.length c2), (7, .slice A7_q24 o22.length c7_q24), (10, .int .i64 (wi (1 + (wi (Int.tmod (IntKind.wrap .u64 a0) 40))))), (11, .pointer (some ⟨b41, 0, none⟩)), (14, .pointer (some ⟨b67, 0, none⟩)), (15, .pointer (some ⟨b70, 0, none⟩)), (21, .int .i64 x109_l4), (22, .int .i64 x113_l5), (76, .int .i64 x76_l3), (108, .int .i64 (o22.length : Int)), (109, .int .i64 x109_l4), (112, .int .i64 x109_l4), (113, .int .i64 x113_l5), (159, .int .i64 v165)]) (by kernel_rfl) ?_
      refine WD.pure (i := 5) (v := .int .i64 x109_l4) (by kernel_rfl) (by kernel_rfl) (fun _ => by kernel_rfl) ?_
      refine WD.weaken [2, 7, 10, 11, 14, 15, 21, 22, 76, 108, 109, 112, 113, 159, 160] (L' := [(2, .slice A2 l2.length c2), (7, .slice A7_q24 o22.length c7_q24), (10, .int .i64 (wi (1 + (wi (Int.tmod (IntKind.wrap .u64 a0) 40))))), (11, .pointer (some ⟨b41, 0, none⟩)), (14, .pointer (some ⟨b67, 0, none⟩)), (15, .pointer (some ⟨b70, 0, none⟩)), (21, .int .i64 x109_l4), (22, .int .i64 x113_l5), (76, .int .i64 x76_l3), (108, .int .i64 (o22.length : Int)), (109, .int .i64 x109_l4), (112, .int .i64 x109_l4), (113, .int .i64 x113_l5), (159, .int .i64 v165), (160, .int .i64 x109_l4)]) (by kernel_rfl) ?_
      refine WD.pure (i := 6) (v := .int .i64 x113_l5) (by kernel_rfl) (by kernel_rfl) (fun _ => by kernel_rfl) ?_
      refine WD.weaken [2, 7, 10, 11, 14, 15, 21, 22, 76, 108, 109, 112, 113, 159, 160, 161] (L' := [(2, .slice A2 l2.length c2), (7, .slice A7_q24 o22.length c7_q24), (10, .int .i64 (wi (1 + (wi (Int.tmod (IntKind.wrap .u64 a0) 40))))), (11, .pointer (some ⟨b41, 0, none⟩)), (14, .pointer (some ⟨b67, 0, none⟩)), (15, .pointer (some ⟨b70, 0, none⟩)), (21, .int .i64 x109_l4), (22, .int .i64 x113_l5), (76, .int .i64 x76_l3), (108, .int .i64 (o22.length : Int)), (109, .int .i64 x109_l4), (112, .int .i64 x109_l4), (113, .int .i64 x113_l5), (159, .int .i64 v165), (160, .int .i64 x109_l4), (161, .int .i64 x113_l5)]) (by kernel_rfl) ?_
      obtain ⟨_, e167, H⟩ := bind_ex H
      refine WD.ofP (i := 7) (by kernel_rfl) (PSt.idxArr1 (k := .i64) (t := 32) (e := 31) (sz := 8) (m := 8) (b := b67) (.tmp 14) (.tmp 160) (by kernel_rfl) (by kernel_rfl) (by kernel_rfl) (by kernel_rfl) (by kernel_rfl) (by kernel_rfl) (by kernel_rfl) e167 ?_)
      refine WD.weaken [2, 7, 10, 11, 14, 15, 21, 22, 76, 108, 109, 112, 113, 159, 161, 162] (L' := [(2, .slice A2 l2.length c2), (7, .slice A7_q24 o22.length c7_q24), (10, .int .i64 (wi (1 + (wi (Int.tmod (IntKind.wrap .u64 a0) 40))))), (11, .pointer (some ⟨b41, 0, none⟩)), (14, .pointer (some ⟨b67, 0, none⟩)), (15, .pointer (some ⟨b70, 0, none⟩)), (21, .int .i64 x109_l4), (22, .int .i64 x113_l5), (76, .int .i64 x76_l3), (108, .int .i64 (o22.length : Int)), (109, .int .i64 x109_l4), (112, .int .i64 x109_l4), (113, .int .i64 x113_l5), (159, .int .i64 v165), (161, .int .i64 x113_l5), (162, .pointer (some (adr (some ⟨b67, 0, none⟩) x109_l4.toNat 8)))]) (by kernel_rfl) ?_
      obtain ⟨_, e168, H⟩ := bind_ex H
      obtain ⟨v169, e170, H⟩ := bind_ex H
      refine WD.ofP (i := 8) (by kernel_rfl) (PSt.idxArr2 (α := Int) (k := .i64) (t := 31) (e := 3) (m := 8) (b := b67) (xs := y148) (j0 := x109_l4) (v := v169) (.tmp 162) (.tmp 161) (by kernel_rfl) (by kernel_rfl) (by kernel_rfl) (by kernel_rfl) (by kernel_rfl) (chk_ge e167) (by kernel_rfl) (by kernel_rfl) e168 ?_)
      refine WD.weaken [2, 7, 10, 11, 14, 15, 21, 22, 76, 108, 109, 112, 113, 159, 163] (L' := [(2, .slice A2 l2.length c2), (7, .slice A7_q24 o22.length c7_q24), (10, .int .i64 (wi (1 + (wi (Int.tmod (IntKind.wrap .u64 a0) 40))))), (11, .pointer (some ⟨b41, 0, none⟩)), (14, .pointer (some ⟨b67, 0, none⟩)), (15, .pointer (some ⟨b70, 0, none⟩)), (21, .int .i64 x109_l4), (22, .int .i64 x113_l5), (76, .int .i64 x76_l3), (108, .int .i64 (o22.length : Int)), (109, .int .i64 x109_l4), (112, .int .i64 x109_l4), (113, .int .i64 x113_l5), (159, .int .i64 v165), (163, .pointer (some (adr (some ⟨b67, 0, none⟩) ((x109_l4 * 8 + x113_l5)).toNat 1)))]) (by kernel_rfl) ?_
      refine WD.ofR (i := 9) (by kernel_rfl) (RSt.loadInt (t := 3) (.tmp 163) (by kernel_rfl) (by kernel_rfl) (by kernel_rfl) (by kernel_rfl) (Sat.oarAt 1 hS rfl).1 e170 ?_)
      refine WD.weaken [2, 7, 10, 11, 14, 15, 21, 22, 76, 108, 109, 112, 113, 159, 164] (L' := [(2, .slice A2 l2.length c2), (7, .slice A7_q24 o22.length c7_q24), (10, .int .i64 (wi (1 + (wi (Int.tmod (IntKind.wrap .u64 a0) 40))))), (11, .pointer (some ⟨b41, 0, none⟩)), (14, .pointer (some ⟨b67, 0, none⟩)), (15, .pointer (some ⟨b70, 0, none⟩)), (21, .int .i64 x109_l4), (22, .int .i64 x113_l5), (76, .int .i64 x76_l3), (108, .int .i64 (o22.length : Int)), (109, .int .i64 x109_l4), (112, .int .i64 x109_l4), (113, .int .i64 x113_l5), (159, .int .i64 v165), (164, .int .i64 v169)]) (by kernel_rfl) ?_
      refine WD.pure (i := 10) (v := .int .i64 (wi (v165 - v169))) (by kernel_rfl) (by kernel_rfl) (fun _ => by kernel_rfl) ?_
      refine WD.weaken [2, 7, 10, 11, 14, 15, 21, 22, 76, 108, 109, 112, 113, 165] (L' := [(2, .slice A2 l2.length c2), (7, .slice A7_q24 o22.length c7_q24), (10, .int .i64 (wi (1 + (wi (Int.tmod (IntKind.wrap .u64 a0) 40))))), (11, .pointer (some ⟨b41, 0, none⟩)), (14, .pointer (some ⟨b67, 0, none⟩)), (15, .pointer (some ⟨b70, 0, none⟩)), (21, .int .i64 x109_l4), (22, .int .i64 x113_l5), (76, .int .i64 x76_l3), (108, .int .i64 (o22.length : Int)), (109, .int .i64 x109_l4), (112, .int .i64 x109_l4), (113, .int .i64 x113_l5), (165, .int .i64 (wi (v165 - v169)))]) (by kernel_rfl) ?_
      refine WD.pure (i := 11) (v := .int .i64 (wi (1 + (wi (Int.tmod (IntKind.wrap .u64 a0) 40))))) (by kernel_rfl) (by kernel_rfl) (fun _ => by kernel_rfl) ?_
      refine WD.weaken [2, 7, 10, 11, 14, 15, 21, 22, 76, 108, 109, 112, 113, 165, 166] (L' := [(2, .slice A2 l2.length c2), (7, .slice A7_q24 o22.length c7_q24), (10, .int .i64 (wi (1 + (wi (Int.tmod (IntKind.wrap .u64 a0) 40))))), (11, .pointer (some ⟨b41, 0, none⟩)), (14, .pointer (some ⟨b67, 0, none⟩)), (15, .pointer (some ⟨b70, 0, none⟩)), (21, .int .i64 x109_l4), (22, .int .i64 x113_l5), (76, .int .i64 x76_l3), (108, .int .i64 (o22.length : Int)), (109, .int .i64 x109_l4), (112, .int .i64 x109_l4), (113, .int .i64 x113_l5), (165, .int .i64 (wi (v165 - v169))), (166, .int .i64 (wi (1 + (wi (Int.tmod (IntKind.wrap .u64 a0) 40)))))]) (by kernel_rfl) ?_
      refine WD.pure (i := 12) (v := .int .i64 (wi ((wi (1 + (wi (Int.tmod (IntKind.wrap .u64 a0) 40)))) + 6))) (by kernel_rfl) (by kernel_rfl) (fun _ => by kernel_rfl) ?_
      refine WD.weaken [2, 7, 10, 11, 14, 15, 21, 22, 76, 108, 109, 112, 113, 165, 167] (L' := [(2, .slice A2 l2.length c2), (7, .slice A7_q24 o22.length c7_q24), (10, .int .i64 (wi (1 + (wi (Int.tmod (IntKind.wrap .u64 a0) 40))))), (11, .pointer (some ⟨b41, 0, none⟩)), (14, .pointer (some ⟨b67, 0, none⟩)), (15, .pointer (some ⟨b70, 0, none⟩)), (21, .int .i64 x109_l4), (22, .int .i64 x113_l5), (76, .int .i64 x76_l3), (108, .int .i64 (o22.length : Int)), (109, .int .i64 x109_l4), (112, .int .i64 x109_l4), (113, .int .i64 x113_l5), (165, .int .i64 (wi (v165 - v169))), (167, .int .i64 (wi ((wi (1 + (wi (Int.tmod (IntKind.wrap .u64 a0) 40)))) + 6)))]) (by kernel_rfl) ?_
      refine WD.pure (i := 13) (v := .slice A7_q24 o22.length c7_q24) (by kernel_rfl) (by kernel_rfl) (fun _ => by kernel_rfl) ?_
      refine WD.weaken [2, 7, 10, 11, 14, 15, 21, 22, 76, 108, 109, 112, 113, 165, 167, 168] (L' := [(2, .slice A2 l2.length c2), (7, .slice A7_q24 o22.length c7_q24), (10, .int .i64 (wi (1 + (wi (Int.tmod (IntKind.wrap .u64 a0) 40))))), (11, .pointer (some ⟨b41, 0, none⟩)), (14, .pointer (some ⟨b67, 0, none⟩)), (15, .pointer (some ⟨b70, 0, none⟩)), (21, .int .i64 x109_l4), (22, .int .i64 x113_l5), (76, .int .i64 x76_l3), (108, .int .i64 (o22.length : Int)), (109, .int .i64 x109_l4), (112, .int .i64 x109_l4), (113, .int .i64 x113_l5), (165, .int .i64 (wi (v165 - v169))), (167, .int .i64 (wi ((wi (1 + (wi (Int.tmod (IntKind.wrap .u64 a0) 40)))) + 6))), (168, .slice A7_q24 o22.length c7_q24)]) (by kernel_rfl) ?_
      refine WD.pure (i := 14) (v := .int .i64 x109_l4) (by kernel_rfl) (by kernel_rfl) (fun _ => by kernel_rfl) ?_
      refine WD.weaken [2, 7, 10, 11, 14, 15, 21, 22, 76, 108, 109, 112, 113, 165, 167, 168, 169] (L' := [(2, .slice A2 l2.length c2), (7, .slice A7_q24 o22.length c7_q24), (10, .int .i64 (wi (1 + (wi (Int.tmod (IntKind.wrap .u64 a0) 40))))), (11, .pointer (some ⟨b41, 0, none⟩)), (14, .pointer (some ⟨b67, 0, none⟩)), (15, .pointer (some ⟨b70, 0, none⟩)), (21, .int .i64 x109_l4), (22, .int .i64 x113_l5), (76, .int .i64 x76_l3), (108, .int .i64 (o22.length : Int)), (109, .int .i64 x109_l4), (112, .int .i64 x109_l4), (113, .int .i64 x113_l5), (165, .int .i64 (wi (v165 - v169))), (167, .int .i64 (wi ((wi (1 + (wi (Int.tmod (IntKind.wrap .u64 a0) 40)))) + 6))), (168, .slice A7_q24 o22.length c7_q24), (169, .int .i64 x109_l4)]) (by kernel_rfl) ?_
      refine WD.ofP (i := 15) (by kernel_rfl) (PSt.idx (k := .i64) (.tmp 168) (.tmp 169) (by kernel_rfl) (by kernel_rfl) E24 (by kernel_rfl) (by kernel_rfl) (Sat.rdAt 2 hS rfl) e114 ?_)
      refine WD.weaken [2, 7, 10, 11, 14, 15, 21, 22, 76, 108, 109, 112, 113, 165, 167, 170] (L' := [(2, .slice A2 l2.length c2), (7, .slice A7_q24 o22.length c7_q24), (10, .int .i64 (wi (1 + (wi (Int.tmod (IntKind.wrap .u64 a0) 40))))), (11, .pointer (some ⟨b41, 0, none⟩)), (14, .pointer (some ⟨b67, 0, none⟩)), (15, .pointer (some ⟨b70, 0, none⟩)), (21, .int .i64 x109_l4), (22, .int .i64 x113_l5), (76, .int .i64 x76_l3), (108, .int .i64 (o22.length : Int)), (109, .int .i64 x109_l4), (112, .int .i64 x109_l4), (113, .int .i64 x113_l5), (165, .int .i64 (wi (v165 - v169))), (167, .int .i64 (wi ((wi (1 + (wi (Int.tmod (IntKind.wrap .u64 a0) 40)))) + 6))), (170, .pointer (some (adr A7_q24 x109_l4.toNat 1)))]) (by kernel_rfl) ?_
      refine WD.ofR (i := 16) (by kernel_rfl) (RSt.loadInt (t := 3) (.tmp 170) (by kernel_rfl) (by kernel_rfl) (by kernel_rfl) (by kernel_rfl) (Sat.rdAt 2 hS rfl) e114 ?_)
      refine WD.weaken [2, 7, 10, 11, 14, 15, 21, 22, 76, 108, 109, 112, 113, 165, 167, 171] (L' := [(2, .slice A2 l2.length c2), (7, .slice A7_q24 o22.length c7_q24), (10, .int .i64 (wi (1 + (wi (Int.tmod (IntKind.wrap .u64 a0) 40))))), (11, .pointer (some ⟨b41, 0, none⟩)), (14, .pointer (some ⟨b67, 0, none⟩)), (15, .pointer (some ⟨b70, 0, none⟩)), (21, .int .i64 x109_l4), (22, .int .i64 x113_l5), (76, .int .i64 x76_l3), (108, .int .i64 (o22.length : Int)), (109, .int .i64 x109_l4), (112, .int .i64 x109_l4), (113, .int .i64 x113_l5), (165, .int .i64 (wi (v165 - v169))), (167, .int .i64 (wi ((wi (1 + (wi (Int.tmod (IntKind.wrap .u64 a0) 40)))) + 6))), (171, .int .i64 v113)]) (by kernel_rfl) ?_
      refine WD.pure (i := 17) (v := .int .i64 (wi ((wi ((wi (1 + (wi (Int.tmod (IntKind.wrap .u64 a0) 40)))) + 6)) * v113))) (by kernel_rfl) (by kernel_rfl) (fun _ => by kernel_rfl) ?_
      refine WD.weaken [2, 7, 10, 11, 14, 15, 21, 22, 76, 108, 109, 112, 113, 165, 172] (L' := [(2, .slice A2 l2.length c2), (7, .slice A7_q24 o22.length c7_q24), (10, .int .i64 (wi (1 + (wi (Int.tmod (IntKind.wrap .u64 a0) 40))))), (11, .pointer (some ⟨b41, 0, none⟩)), (14, .pointer (some ⟨b67, 0, none⟩)), (15, .pointer (some ⟨b70, 0, none⟩)), (21, .int .i64 x109_l4), (22, .int .i64 x113_l5), (76, .int .i64 x76_l3), (108, .int .i64 (o22.length : Int)), (109, .int .i64 x109_l4), (112, .int .i64 x109_l4), (113, .int .i64 x113_l5), (165, .int .i64 (wi (v165 - v169))), (172, .int .i64 (wi ((wi ((wi (1 + (wi (Int.tmod (IntKind.wrap .u64 a0) 40)))) + 6)) * v113)))]) (by kernel_rfl) ?_
      refine WD.pure (i := 18) (v := .slice A7_q24 o22.length c7_q24) (by kernel_rfl) (by kernel_rfl) (fun _ => by kernel_rfl) ?_
      refine WD.weaken [2, 7, 10, 11, 14, 15, 21, 22, 76, 108, 109, 112, 113, 165, 172, 173] (L' := [(2, .slice A2 l2.length c2), (7, .slice A7_q24 o22.length c7_q24), (10, .int .i64 (wi (1 + (wi (Int.tmod (IntKind.wrap .u64 a0) 40))))), (11, .pointer (some ⟨b41, 0, none⟩)), (14, .pointer (some ⟨b67, 0, none⟩)), (15, .pointer (some ⟨b70, 0, none⟩)), (21, .int .i64 x109_l4), (22, .int .i64 x113_l5), (76, .int .i64 x76_l3), (108, .int .i64 (o22.length : Int)), (109, .int .i64 x109_l4), (112, .int .i64 x109_l4), (113, .int .i64 x113_l5), (165, .int .i64 (wi (v165 - v169))), (172, .int .i64 (wi ((wi ((wi (1 + (wi (Int.tmod (IntKind.wrap .u64 a0) 40)))) + 6)) * v113))), (173, .slice A7_q24 o22.length c7_q24)]) (by kernel_rfl) ?_
      refine WD.pure (i := 19) (v := .int .i64 x113_l5) (by kernel_rfl) (by kernel_rfl) (fun _ => by kernel_rfl) ?_
      refine WD.weaken [2, 7, 10, 11, 14, 15, 21, 76, 108, 109, 112, 113, 165, 172, 173, 174] (L' := [(2, .slice A2 l2.length c2), (7, .slice A7_q24 o22.length c7_q24), (10, .int .i64 (wi (1 + (wi (Int.tmod (IntKind.wrap .u64 a0) 40))))), (11, .pointer (some ⟨b41, 0, none⟩)), (14, .pointer (some ⟨b67, 0, none⟩)), (15, .pointer (some ⟨b70, 0, none⟩)), (21, .int .i64 x109_l4), (76, .int .i64 x76_l3), (108, .int .i64 (o22.length : Int)), (109, .int .i64 x109_l4), (112, .int .i64 x109_l4), (113, .int .i64 x113_l5), (165, .int .i64 (wi (v165 - v169))), (172, .int .i64 (wi ((wi ((wi (1 + (wi (Int.tmod (IntKind.wrap .u64 a0) 40)))) + 6)) * v113))), (173, .slice A7_q24 o22.length c7_q24), (174, .int .i64 x113_l5)]) (by kernel_rfl) ?_
      refine WD.ofP (i := 20) (by kernel_rfl) (PSt.idx (k := .i64) (.tmp 173) (.tmp 174) (by kernel_rfl) (by kernel_rfl) E24 (by kernel_rfl) (by kernel_rfl) (Sat.rdAt 2 hS rfl) e112 ?_)
      refine WD.weaken [2, 7, 10, 11, 14, 15, 21, 76, 108, 109, 112, 113, 165, 172, 175] (L' := [(2, .slice A2 l2.length c2), (7, .slice A7_q24 o22.length c7_q24), (10, .int .i64 (wi (1 + (wi (Int.tmod (IntKind.wrap .u64 a0) 40))))), (11, .pointer (some ⟨b41, 0, none⟩)), (14, .pointer (some ⟨b67, 0, none⟩)), (15, .pointer (some ⟨b70, 0, none⟩)), (21, .int .i64 x109_l4), (76, .int .i64 x76_l3), (108, .int .i64 (o22.length : Int)), (109, .int .i64 x109_l4), (112, .int .i64 x109_l4), (113, .int .i64 x113_l5), (165, .int .i64 (wi (v165 - v169))), (172, .int .i64 (wi ((wi ((wi (1 + (wi (Int.tmod (IntKind.wrap .u64 a0) 40)))) + 6)) * v113))), (175, .pointer (some (adr A7_q24 x113_l5.toNat 1)))]) (by kernel_rfl) ?_
      refine WD.ofR (i := 21) (by kernel_rfl) (RSt.loadInt (t := 3) (.tmp 175) (by kernel_rfl) (by kernel_rfl) (by kernel_rfl) (by kernel_rfl) (Sat.rdAt 2 hS rfl) e112 ?_)
      refine WD.weaken [2, 7, 10, 11, 14, 15, 21, 76, 108, 109, 112, 113, 165, 172, 176] (L' := [(2, .slice A2 l2.length c2), (7, .slice A7_q24 o22.length c7_q24), (10, .int .i64 (wi (1 + (wi (Int.tmod (IntKind.wrap .u64 a0) 40))))), (11, .pointer (some ⟨b41, 0, none⟩)), (14, .pointer (some ⟨b67, 0, none⟩)), (15, .pointer (some ⟨b70, 0, none⟩)), (21, .int .i64 x109_l4), (76, .int .i64 x76_l3), (108, .int .i64 (o22.length : Int)), (109, .int .i64 x109_l4), (112, .int .i64 x109_l4), (113, .int .i64 x113_l5), (165, .int .i64 (wi (v165 - v169))), (172, .int .i64 (wi ((wi ((wi (1 + (wi (Int.tmod (IntKind.wrap .u64 a0) 40)))) + 6)) * v113))), (176, .int .i64 v111)]) (by kernel_rfl) ?_
      refine WD.pure (i := 22) (v := .int .i64 (wi ((wi ((wi ((wi (1 + (wi (Int.tmod (IntKind.wrap .u64 a0) 40)))) + 6)) * v113)) * v111))) (by kernel_rfl) (by kernel_rfl) (fun _ => by kernel_rfl) ?_
      refine WD.weaken [2, 7, 10, 11, 14, 15, 21, 76, 108, 109, 112, 113, 165, 177] (L' := [(2, .slice A2 l2.length c2), (7, .slice A7_q24 o22.length c7_q24), (10, .int .i64 (wi (1 + (wi (Int.tmod (IntKind.wrap .u64 a0) 40))))), (11, .pointer (some ⟨b41, 0, none⟩)), (14, .pointer (some ⟨b67, 0, none⟩)), (15, .pointer (some ⟨b70, 0, none⟩)), (21, .int .i64 x109_l4), (76, .int .i64 x76_l3), (108, .int .i64 (o22.length : Int)), (109, .int .i64 x109_l4), (112, .int .i64 x109_l4), (113, .int .i64 x113_l5), (165, .int .i64 (wi (v165 - v169))), (177, .int .i64 (wi ((wi ((wi ((wi (1 + (wi (Int.tmod (IntKind.wrap .u64 a0) 40)))) + 6)) * v113)) * v111)))]) (by kernel_rfl) ?_
      refine WD.pure (i := 23) (v := .bool (decide (wi (v165 - v169) > wi ((wi ((wi ((wi (1 + (wi (Int.tmod (IntKind.wrap .u64 a0) 40)))) + 6)) * v113)) * v111)))) (by kernel_rfl) (by kernel_rfl) (fun _ => by kernel_rfl) ?_
      refine WD.weaken [2, 7, 10, 11, 14, 15, 21, 76, 108, 109, 112, 113, 178] (L' := [(2, .slice A2 l2.length c2), (7, .slice A7_q24 o22.length c7_q24), (10, .int .i64 (wi (1 + (wi (Int.tmod (IntKind.wrap .u64 a0) 40))))), (11, .pointer (some ⟨b41, 0, none⟩)), (14, .pointer (some ⟨b67, 0, none⟩)), (15, .pointer (some ⟨b70, 0, none⟩)), (21, .int .i64 x109_l4), (76, .int .i64 x76_l3), (108, .int .i64 (o22.length : Int)), (109, .int .i64 x109_l4), (112, .int .i64 x109_l4), (113, .int .i64 x113_l5), (178, .bool (decide (wi (v165 - v169) > wi ((wi ((wi ((wi (1 + (wi (Int.tmod (IntKind.wrap .u64 a0) 40)))) + 6)) * v113)) * v111))))]) (by kernel_rfl) ?_
      refine WD.nil (by kernel_rfl) ?_
      refine At.go ?_
      refine WC.cond (by kernel_rfl) (decide (wi (v165 - v169) > wi ((wi ((wi ((wi (1 + (wi (Int.tmod (IntKind.wrap .u64 a0) 40)))) + 6)) * v113)) * v111))) (by kernel_rfl) (by kernel_rfl) (fun hb171 => ?_) (fun hb171 => ?_)
      · replace H := ite_t H hb171
        refine WC.seq (by kernel_rfl) ?_
        refine WC.reg [0] (by kernel_rfl) (by kernel_rfl) ?_
        refine WR.runk [0] [] [6] (L' := [(6, .bool false)]) (w' := w161) (by kernel_rfl) ?_
        refine WR.nil ?_
        refine At.go ?_
        refine WC.ret (by kernel_rfl) ?_
        refine At.blockRet ?_
        refine At.thenRet ?_
        refine At.thenRet ?_
        obtain rfl := Option.some.inj H
        have hS : Sat w161 (rf w0) [O46 b41 o101.2, oar 32 (r0 (.int .i64)) 1 64 b67 y148, oar 32 (r0 (.int .i64)) 1 64 b70 y156] := hS.sel [3, 1, 0] (by kernel_rfl)
        refine At.weaken [6] (L' := [(6, .bool false)]) (by kernel_rfl) ?_
        exact hn0 (false, y148, y156) _ rfl hS
      · replace H := ite_f H hb171
        refine WC.skip (by kernel_rfl) ?_
        refine At.blockNormal ?_
        refine At.go ?_
        refine WC.reg [0, 1] (by kernel_rfl) (by kernel_rfl) ?_
        refine WR.runk [0, 1] [] [2, 7, 10, 11, 14, 15, 21, 76, 108, 109, 112, 113] (L' := [(2, .slice A2 l2.length c2), (7, .slice A7_q24 o22.length c7_q24), (10, .int .i64 (wi (1 + (wi (Int.tmod (IntKind.wrap .u64 a0) 40))))), (11, .pointer (some ⟨b41, 0, none⟩)), (14, .pointer (some ⟨b67, 0, none⟩)), (15, .pointer (some ⟨b70, 0, none⟩)), (21, .int .i64 x109_l4), (76, .int .i64 x76_l3), (108, .int .i64 (o22.length : Int)), (109, .int .i64 x109_l4), (112, .int .i64 x109_l4), (113, .int .i64 (wi (x113_l5 + 1)))]) (w' := w161) (by kernel_rfl) ?_
        refine WR.nil ?_
        have hS : Sat w161 (rf w0) [osl 3 (r0 (.int .i64)) 1 A7_q24 c7_q24 o22, O46 b41 o101.2, oar 32 (r0 (.int .i64)) 1 64 b67 y148, oar 32 (r0 (.int .i64)) 1 64 b70 y156] := hS.sel [2, 3, 1, 0] (by kernel_rfl)
        refine At.again ?_
        refine WL.weaken [2, 7, 10, 11, 14, 15, 21, 76, 108, 109, 112, 113] (L' := [(2, .slice A2 l2.length c2), (7, .slice A7_q24 o22.length c7_q24), (10, .int .i64 (wi (1 + (wi (Int.tmod (IntKind.wrap .u64 a0) 40))))), (11, .pointer (some ⟨b41, 0, none⟩)), (14, .pointer (some ⟨b67, 0, none⟩)), (15, .pointer (some ⟨b70, 0, none⟩)), (21, .int .i64 x109_l4), (76, .int .i64 x76_l3), (108, .int .i64 (o22.length : Int)), (109, .int .i64 x109_l4), (112, .int .i64 x109_l4), (113, .int .i64 (wi (x113_l5 + 1)))]) (by kernel_rfl) ?_
        exact ih (wi (x113_l5 + 1)) y148 y156 _ hS H
    · replace H := ite_f H hb108
      refine WC.exit (by kernel_rfl) ?_
      refine At.thenExit ?_
      refine At.thenExit ?_
      obtain rfl := Option.some.inj H
      have hS : Sat w (rf w0) [osl 3 (r0 (.int .i64)) 1 A7_q24 c7_q24 o22, O46 b41 o101.2, oar 32 (r0 (.int .i64)) 1 64 b67 q69_l5, oar 32 (r0 (.int .i64)) 1 64 b70 q72_l5] := hS.sel [0, 1, 2, 3] (by kernel_rfl)
      refine At.weaken [2, 7, 10, 11, 14, 15, 76, 108, 109] (L' := [(2, .slice A2 l2.length c2), (7, .slice A7_q24 o22.length c7_q24), (10, .int .i64 (wi (1 + (wi (Int.tmod (IntKind.wrap .u64 a0) 40))))), (11, .pointer (some ⟨b41, 0, none⟩)), (14, .pointer (some ⟨b67, 0, none⟩)), (15, .pointer (some ⟨b70, 0, none⟩)), (76, .int .i64 x76_l3), (108, .int .i64 (o22.length : Int)), (109, .int .i64 x109_l4)]) (by kernel_rfl) ?_
      exact hn1 (q69_l5, q72_l5) _ rfl hS
theorem colophonlaw23_FairShares.l4_ok {Q} (w0 : World) (a0 : Int) (A2 : Option Addr) (c2 : Nat) (l2 : List Int) (o22 : (List Int)) (A7_q24 : Option Addr) (c7_q24 : Nat) (b41 : Nat) (b67 : Nat) (b70 : Nat) (x76_l3 : Int) (o101 : Bool × (Int × (List (Option (Int × Int × Int × (List (Int × Bool))))) × Int × Bool × Int × Bool)) (out : Sum (Bool × (List Int) × (List Int)) ((List Int) × (List Int))) (hn0 : ∀ (o0 : Bool × (List Int) × (List Int)) (w : World), out = (.inl o0) → Sat w (rf w0) [O46 b41 o101.2, oar 32 (r0 (.int .i64)) 1 64 b67 o0.2.1, oar 32 (r0 (.int .i64)) 1 64 b70 o0.2.2] → At Q .ret 182 [(6, .bool o0.1)] w) (hn1 : ∀ (o1 : (List Int) × (List Int)) (w : World), out = (.inr o1) → Sat w (rf w0) [osl 3 (r0 (.int .i64)) 1 A7_q24 c7_q24 o22, O46 b41 o101.2, oar 32 (r0 (.int .i64)) 1 64 b67 o1.1, oar 32 (r0 (.int .i64)) 1 64 b70 o1.2] → At Q (.exit 6) 182 [(2, .slice A2 l2.length c2), (7, .slice A7_q24 o22.length c7_q24), (10, .int .i64 (wi (1 + (wi (Int.tmod (IntKind.wrap .u64 a0) 40))))), (11, .pointer (some ⟨b41, 0, none⟩)), (14, .pointer (some ⟨b67, 0, none⟩)), (15, .pointer (some ⟨b70, 0, none⟩)), (76, .int .i64 x76_l3)] w) :
    ∀ (k : Nat) (x109_l4 : Int) (q69_l4 : List Int) (q72_l4 : List Int) (w : World), Sat w (rf w0) [osl 3 (r0 (.int .i64)) 1 A7_q24 c7_q24 o22, O46 b41 o101.2, oar 32 (r0 (.int .i64)) 1 64 b67 q69_l4, oar 32 (r0 (.int .i64)) 1 64 b70 q72_l4] → colophonlaw23_FairShares.l4 a0 o22 o101 k x109_l4 q69_l4 q72_l4 = some out → WL Try.prog (cbody (cbody (cr (cr (cr (cr (cr (cr (cbody (cl (cr (cr (cbody (cbody (cr (cl (cr (cr (cr (cr (cr (cr (cr (cr (cr C3))))))))))))))))))))))))) Q 182 [(2, .slice A2 l2.length c2), (7, .slice A7_q24 o22.length c7_q24), (10, .int .i64 (wi (1 + (wi (Int.tmod (IntKind.wrap .u64 a0) 40))))), (11, .pointer (some ⟨b41, 0, none⟩)), (14, .pointer (some ⟨b67, 0, none⟩)), (15, .pointer (some ⟨b70, 0, none⟩)), (76, .int .i64 x76_l3), (108, .int .i64 (o22.length : Int)), (109, .int .i64 x109_l4)] w := by
  intro k
  induction k with
  | zero => intro x109_l4 q69_l4 q72_l4 w hS H; exact absurd (show none = some out from H) (by simp)
  | succ k ih =>
    intro x109_l4 q69_l4 q72_l4 w hS H
    unfold colophonlaw23_FairShares.l4 at H
    refine WL.round ?_
    refine WC.seq (by kernel_rfl) ?_
    refine WC.reg [0] (by kernel_rfl) (by kernel_rfl) ?_
    refine WR.runk [0] [] [2, 7, 10, 11, 14, 15, 76, 108, 109, 110] (L' := [(2, .slice A2 l2.length c2), (7, .slice A7_q24 o22.length c7_q24), (10, .int .i64 (wi (1 + (wi (Int.tmod (IntKind.wrap .u64 a0) 40))))), (11, .pointer (some ⟨b41, 0, none⟩)), (14, .pointer (some ⟨b67, 0, none⟩)), (15, .pointer (some ⟨b70, 0, none⟩)), (76, .int .i64 x76_l3), (108, .int .i64 (o22.length : Int)), (109, .int .i64 x109_l4), (110, .bool (decide (x109_l4 < (o22.length : Int))))]) (w' := w) (by kernel_rfl) ?_
    refine WR.nil ?_
    refine At.go ?_
    refine WC.seq (by kernel_rfl) ?_
    refine WC.cond (by kernel_rfl) (decide (x109_l4 < (o22.length : Int))) (by kernel_rfl) (by kernel_rfl) (fun hb107 => ?_) (fun hb107 => ?_)
    · replace H := ite_t H hb107
      refine WC.skip (by kernel_rfl) ?_
      refine At.go ?_
      refine WC.seq (by kernel_rfl) ?_
      refine WC.block (by kernel_rfl) ?_
      refine WC.seq (by kernel_rfl) ?_
      refine WC.reg [0, 1] (by kernel_rfl) (by kernel_rfl) ?_
      refine WR.runk [0, 1] [] [2, 7, 10, 11, 14, 15, 21, 76, 108, 109] (L' := [(2, .slice A2 l2.length c2), (7, .slice A7_q24 o22.length c7_q24), (10, .int .i64 (wi (1 + (wi (Int.tmod (IntKind.wrap .u64 a0) 40))))), (11, .pointer (some ⟨b41, 0, none⟩)), (14, .pointer (some ⟨b67, 0, none⟩)), (15, .pointer (some ⟨b70, 0, none⟩)), (21, .int .i64 x109_l4), (76, .int .i64 x76_l3), (108, .int .i64 (o22.length : Int)), (109, .int .i64 x109_l4)]) (w' := w) (by kernel_rfl) ?_
      refine WR.nil ?_
      refine At.go ?_
      refine WC.seq (by kernel_rfl) ?_
      refine WC.reg [0, 1] (by kernel_rfl) (by kernel_rfl) ?_
      refine WR.runk [0, 1] [] [2, 7, 10, 11, 14, 15, 21, 76, 108, 109, 112, 113] (L' := [(2, .slice A2 l2.length c2), (7, .slice A7_q24 o22.length c7_q24), (10, .int .i64 (wi (1 + (wi (Int.tmod (IntKind.wrap .u64 a0) 40))))), (11, .pointer (some ⟨b41, 0, none⟩)), (14, .pointer (some ⟨b67, 0, none⟩)), (15, .pointer (some ⟨b70, 0, none⟩)), (21, .int .i64 x109_l4), (76, .int .i64 x76_l3), (108, .int .i64 (o22.length : Int)), (109, .int .i64 x109_l4), (112, .int .i64 x109_l4), (113, .int .i64 0)]) (w' := w) (by kernel_rfl) ?_
      refine WR.nil ?_
      refine At.go ?_
      refine WC.block (by kernel_rfl) ?_
      have hS : Sat w (rf w0) [osl 3 (r0 (.int .i64)) 1 A7_q24 c7_q24 o22, O46 b41 o101.2, oar 32 (r0 (.int .i64)) 1 64 b67 q69_l4, oar 32 (r0 (.int .i64)) 1 64 b70 q72_l4] := hS.sel [0, 1, 2, 3] (by kernel_rfl)
      obtain ⟨o172, e173, H⟩ := bind_ex H
      refine WC.loop (by kernel_rfl) ?_
      refine WL.weaken [2, 7, 10, 11, 14, 15, 21, 76, 108, 109, 112, 113] (L' := [(2, .slice A2 l2.length c2), (7, .slice A7_q24 o22.length c7_q24), (10, .int .i64 (wi (1 + (wi (Int.tmod (IntKind.wrap .u64 a0) 40))))), (11, .pointer (some ⟨b41, 0, none⟩)), (14, .pointer (some ⟨b67, 0, none⟩)), (15, .pointer (some ⟨b70, 0, none⟩)), (21, .int .i64 x109_l4), (76, .int .i64 x76_l3), (108, .int .i64 (o22.length : Int)), (109, .int .i64 x109_l4), (112, .int .i64 x109_l4), (113, .int .i64 0)]) (by kernel_rfl) ?_
      refine colophonlaw23_FairShares.l5_ok w0 a0 A2 c2 l2 o22 A7_q24 c7_q24 b41 b67 b70 x76_l3 o101 x109_l4 o172 (fun o174 w176 ho177 hS => ?_) (fun o178 w180 ho181 hS => ?_) FU 0 q69_l4 q72_l4 _ hS e173
      · subst ho177
        dsimp only at H
        refine At.blockRet ?_
        refine At.blockRet ?_
        refine At.thenRet ?_
        refine At.thenRet ?_
        obtain rfl := Option.some.inj H
        have hS : Sat w176 (rf w0) [O46 b41 o101.2, oar 32 (r0 (.int .i64)) 1 64 b67 o174.2.1, oar 32 (r0 (.int .i64)) 1 64 b70 o174.2.2] := hS.sel [0, 1, 2] (by kernel_rfl)
        refine At.weaken [6] (L' := [(6, .bool o174.1)]) (by kernel_rfl) ?_
        exact hn0 (o174.1, o174.2.1, o174.2.2) _ rfl hS
      · subst ho181
        dsimp only at H
        refine At.hit ?_
        refine At.blockNormal ?_
        refine At.go ?_
        refine WC.reg [0, 1] (by kernel_rfl) (by kernel_rfl) ?_
        refine WR.runk [0, 1] [] [2, 7, 10, 11, 14, 15, 76, 108, 109] (L' := [(2, .slice A2 l2.length c2), (7, .slice A7_q24 o22.length c7_q24), (10, .int .i64 (wi (1 + (wi (Int.tmod (IntKind.wrap .u64 a0) 40))))), (11, .pointer (some ⟨b41, 0, none⟩)), (14, .pointer (some ⟨b67, 0, none⟩)), (15, .pointer (some ⟨b70, 0, none⟩)), (76, .int .i64 x76_l3), (108, .int .i64 (o22.length : Int)), (109, .int .i64 (wi (x109_l4 + 1)))]) (w' := w180) (by kernel_rfl) ?_
        refine WR.nil ?_
        have hS : Sat w180 (rf w0) [osl 3 (r0 (.int .i64)) 1 A7_q24 c7_q24 o22, O46 b41 o101.2, oar 32 (r0 (.int .i64)) 1 64 b67 o178.1, oar 32 (r0 (.int .i64)) 1 64 b70 o178.2] := hS.sel [0, 1, 2, 3] (by kernel_rfl)
        refine At.again ?_
        refine WL.weaken [2, 7, 10, 11, 14, 15, 76, 108, 109] (L' := [(2, .slice A2 l2.length c2), (7, .slice A7_q24 o22.length c7_q24), (10, .int .i64 (wi (1 + (wi (Int.tmod (IntKind.wrap .u64 a0) 40))))), (11, .pointer (some ⟨b41, 0, none⟩)), (14, .pointer (some ⟨b67, 0, none⟩)), (15, .pointer (some ⟨b70, 0, none⟩)), (76, .int .i64 x76_l3), (108, .int .i64 (o22.length : Int)), (109, .int .i64 (wi (x109_l4 + 1)))]) (by kernel_rfl) ?_
        exact ih (wi (x109_l4 + 1)) o178.1 o178.2 _ hS H
    · replace H := ite_f H hb107
      refine WC.exit (by kernel_rfl) ?_
      refine At.thenExit ?_
      refine At.thenExit ?_
      obtain rfl := Option.some.inj H
      have hS : Sat w (rf w0) [osl 3 (r0 (.int .i64)) 1 A7_q24 c7_q24 o22, O46 b41 o101.2, oar 32 (r0 (.int .i64)) 1 64 b67 q69_l4, oar 32 (r0 (.int .i64)) 1 64 b70 q72_l4] := hS.sel [0, 1, 2, 3] (by kernel_rfl)
      refine At.weaken [2, 7, 10, 11, 14, 15, 76] (L' := [(2, .slice A2 l2.length c2), (7, .slice A7_q24 o22.length c7_q24), (10, .int .i64 (wi (1 + (wi (Int.tmod (IntKind.wrap .u64 a0) 40))))), (11, .pointer (some ⟨b41, 0, none⟩)), (14, .pointer (some ⟨b67, 0, none⟩)), (15, .pointer (some ⟨b70, 0, none⟩)), (76, .int .i64 x76_l3)]) (by kernel_rfl) ?_
      exact hn1 (q69_l4, q72_l4) _ rfl hS
theorem colophonlaw23_FairShares.l3_ok {Q} (w0 : World) (a0 : Int) (A2 : Option Addr) (c2 : Nat) (l2 : List Int) (o22 : (List Int)) (A7_q24 : Option Addr) (c7_q24 : Nat) (b41 : Nat) (b67 : Nat) (b70 : Nat) (R2 : rdS (r0 (.int .u8)) 1 (hp w0) A2 c2 l2) (out : Sum (Bool × (Int × (List (Option (Int × Int × Int × (List (Int × Bool))))) × Int × Bool × Int × Bool) × (List Int) × (List Int)) ((Int × (List (Option (Int × Int × Int × (List (Int × Bool))))) × Int × Bool × Int × Bool) × (List Int) × (List Int))) (hn0 : ∀ (o0 : Bool × (Int × (List (Option (Int × Int × Int × (List (Int × Bool))))) × Int × Bool × Int × Bool) × (List Int) × (List Int)) (w : World), out = (.inl o0) → Sat w (rf w0) [O46 b41 o0.2.1, oar 32 (r0 (.int .i64)) 1 64 b67 o0.2.2.1, oar 32 (r0 (.int .i64)) 1 64 b70 o0.2.2.2] → At Q .ret 182 [(6, .bool o0.1)] w) (hn1 : ∀ (o1 : (Int × (List (Option (Int × Int × Int × (List (Int × Bool))))) × Int × Bool × Int × Bool) × (List Int) × (List Int)) (w : World), out = (.inr o1) → Sat w (rf w0) [O46 b41 o1.1, oar 32 (r0 (.int .i64)) 1 64 b67 o1.2.1, oar 32 (r0 (.int .i64)) 1 64 b70 o1.2.2] → At Q (.exit 4) 182 [] w) :
    ∀ (k : Nat) (x76_l3 : Int) (q42_l3 : Int × (List (Option (Int × Int × Int × (List (Int × Bool))))) × Int × Bool × Int × Bool) (q69_l3 : List Int) (q72_l3 : List Int) (w : World), Sat w (rf w0) [osl 3 (r0 (.int .i64)) 1 A7_q24 c7_q24 o22, O46 b41 q42_l3, oar 32 (r0 (.int .i64)) 1 64 b67 q69_l3, oar 32 (r0 (.int .i64)) 1 64 b70 q72_l3] → colophonlaw23_FairShares.l3 a0 l2 o22 k x76_l3 q42_l3 q69_l3 q72_l3 = some out → WL Try.prog (cbody (cbody (cr (cl (cr (cr (cr (cr (cr (cr (cr (cr (cr C3))))))))))))) Q 182 [(2, .slice A2 l2.length c2), (7, .slice A7_q24 o22.length c7_q24), (10, .int .i64 (wi (1 + (wi (Int.tmod (IntKind.wrap .u64 a0) 40))))), (11, .pointer (some ⟨b41, 0, none⟩)), (14, .pointer (some ⟨b67, 0, none⟩)), (15, .pointer (some ⟨b70, 0, none⟩)), (76, .int .i64 x76_l3)] w := by
  intro k
  induction k with
  | zero => intro x76_l3 q42_l3 q69_l3 q72_l3 w hS H; exact absurd (show none = some out from H) (by simp)
  | succ k ih =>
    intro x76_l3 q42_l3 q69_l3 q72_l3 w hS H
    unfold colophonlaw23_FairShares.l3 at H
    refine WL.round ?_
    refine WC.seq (by kernel_rfl) ?_
    refine WC.reg [0] (by kernel_rfl) (by kernel_rfl) ?_
    refine WR.runk [0] [] [2, 7, 10, 11, 14, 15, 76, 77] (L' := [(2, .slice A2 l2.length c2), (7, .slice A7_q24 o22.length c7_q24), (10, .int .i64 (wi (1 + (wi (Int.tmod (IntKind.wrap .u64 a0) 40))))), (11, .pointer (some ⟨b41, 0, none⟩)), (14, .pointer (some ⟨b67, 0, none⟩)), (15, .pointer (some ⟨b70, 0, none⟩)), (76, .int .i64 x76_l3), (77, .bool (decide (x76_l3 < 2000)))]) (w' := w) (by kernel_rfl) ?_
    refine WR.nil ?_
    refine At.go ?_
    refine WC.seq (by kernel_rfl) ?_
    refine WC.cond (by kernel_rfl) (decide (x76_l3 < 2000)) (by kernel_rfl) (by kernel_rfl) (fun hb73 => ?_) (fun hb73 => ?_)
    · replace H := ite_t H hb73
      refine WC.skip (by kernel_rfl) ?_
      refine At.go ?_
      refine WC.seq (by kernel_rfl) ?_
      refine WC.block (by kernel_rfl) ?_
      refine WC.seq (by kernel_rfl) ?_
      refine WC.reg [0, 1] (by kernel_rfl) (by kernel_rfl) ?_
      refine WR.runk [0, 1] [] [2, 7, 10, 11, 14, 15, 16, 76] (L' := [(2, .slice A2 l2.length c2), (7, .slice A7_q24 o22.length c7_q24), (10, .int .i64 (wi (1 + (wi (Int.tmod (IntKind.wrap .u64 a0) 40))))), (11, .pointer (some ⟨b41, 0, none⟩)), (14, .pointer (some ⟨b67, 0, none⟩)), (15, .pointer (some ⟨b70, 0, none⟩)), (16, .int .i64 x76_l3), (76, .int .i64 x76_l3)]) (w' := w) (by kernel_rfl) ?_
      refine WR.nil ?_
      refine At.go ?_
      refine WC.seq (by kernel_rfl) ?_
      refine WC.reg [0, 1, 2, 3, 4, 5, 6, 7, 8] (by kernel_rfl) (by kernel_rfl) ?_
      refine WR.runk [0] [1, 2, 3, 4, 5, 6, 7, 8] [2, 7, 10, 11, 14, 15, 16, 76, 80] (L' := [(2, .slice A2 l2.length c2), (7, .slice A7_q24 o22.length c7_q24), (10, .int .i64 (wi (1 + (wi (Int.tmod (IntKind.wrap .u64 a0) 40))))), (11, .pointer (some ⟨b41, 0, none⟩)), (14, .pointer (some ⟨b67, 0, none⟩)), (15, .pointer (some ⟨b70, 0, none⟩)), (16, .int .i64 x76_l3), (76, .int .i64 x76_l3), (80, .pointer (some ⟨b41, 0, none⟩))]) (w' := w) (by kernel_rfl) ?_
      have hS : Sat w (rf w0) [O46 b41 q42_l3, osl 3 (r0 (.int .i64)) 1 A7_q24 c7_q24 o22, oar 32 (r0 (.int .i64)) 1 64 b67 q69_l3, oar 32 (r0 (.int .i64)) 1 64 b70 q72_l3] := hS.sel [1, 0, 2, 3] (by kernel_rfl)
      obtain ⟨r74, e75, H⟩ := bind_ex H
      obtain ⟨B80, hso79, hsub77, hcs78, hb76⟩ := Sat.lend [O46 b41 q42_l3] (cs := [osl 3 (r0 (.int .i64)) 1 A7_q24 c7_q24 o22, oar 32 (r0 (.int .i64)) 1 64 b67 q69_l3, oar 32 (r0 (.int .i64)) 1 64 b70 q72_l3]) hS
      refine WR.st (St.call (by kernel_rfl) (f := 10) (args := #[.pointer (some ⟨b41, 0, none⟩)]) (by kernel_rfl) (fair_Ring_Next.calls B80 w b41 q42_l3 hso79  r74 e75) ?_)
      rintro _ w81 ⟨rfl, hS82⟩
      have hS : Sat w81 (rf w0) [O46 b41 r74.2.2.2, osl 3 (r0 (.int .i64)) 1 A7_q24 c7_q24 o22, oar 32 (r0 (.int .i64)) 1 64 b67 q69_l3, oar 32 (r0 (.int .i64)) 1 64 b70 q72_l3] := hb76 _ _ hS82
      refine WR.runk [2, 3, 4, 5, 6, 7, 8] [] [2, 7, 10, 11, 14, 15, 16, 19, 76] (L' := [(2, .slice A2 l2.length c2), (7, .slice A7_q24 o22.length c7_q24), (10, .int .i64 (wi (1 + (wi (Int.tmod (IntKind.wrap .u64 a0) 40))))), (11, .pointer (some ⟨b41, 0, none⟩)), (14, .pointer (some ⟨b67, 0, none⟩)), (15, .pointer (some ⟨b70, 0, none⟩)), (16, .int .i64 x76_l3), (19, .bool r74.2.2.1), (76, .int .i64 x76_l3)]) (w' := w81) (by kernel_rfl) ?_
      refine WR.nil ?_
      refine At.go ?_
      refine WC.seq (by kernel_rfl) ?_
      refine WC.reg [0, 1, 2, 3, 4] (by kernel_rfl) (by kernel_rfl) ?_
      refine WR.runk [0, 1, 2, 3, 4] [] [2, 7, 10, 11, 14, 15, 16, 19, 20, 76] (L' := [(2, .slice A2 l2.length c2), (7, .slice A7_q24 o22.length c7_q24), (10, .int .i64 (wi (1 + (wi (Int.tmod (IntKind.wrap .u64 a0) 40))))), (11, .pointer (some ⟨b41, 0, none⟩)), (14, .pointer (some ⟨b67, 0, none⟩)), (15, .pointer (some ⟨b70, 0, none⟩)), (16, .int .i64 x76_l3), (19, .bool r74.2.2.1), (20, .int .i64 (Int.tmod (wi (x76_l3 * x76_l3)) 4)), (76, .int .i64 x76_l3)]) (w' := w81) (by kernel_rfl) ?_
      refine WR.nil ?_
      refine At.go ?_
      refine WC.seq (by kernel_rfl) ?_
      obtain ⟨o86, e87, H⟩ := bind_ex H
      refine WC.weaken [2, 7, 10, 11, 14, 15, 16, 19, 20, 76] (L' := [(2, .slice A2 l2.length c2), (7, .slice A7_q24 o22.length c7_q24), (10, .int .i64 (wi (1 + (wi (Int.tmod (IntKind.wrap .u64 a0) 40))))), (11, .pointer (some ⟨b41, 0, none⟩)), (14, .pointer (some ⟨b67, 0, none⟩)), (15, .pointer (some ⟨b70, 0, none⟩)), (16, .int .i64 x76_l3), (19, .bool r74.2.2.1), (20, .int .i64 (Int.tmod (wi (x76_l3 * x76_l3)) 4)), (76, .int .i64 x76_l3)]) (by kernel_rfl) ?_
      refine colophonlaw23_FairShares.j2_ok w0 a0 A2 c2 l2 o22 A7_q24 c7_q24 b41 b67 b70 x76_l3 q69_l3 q72_l3 r74 R2 o86 (fun w89 hS => ?_) _ hS e87
      refine At.go ?_
      refine WC.seq (by kernel_rfl) ?_
      refine WC.seq (by kernel_rfl) ?_
      obtain ⟨o101, e102, H⟩ := bind_ex H
      refine WC.weaken [2, 7, 10, 11, 14, 15, 19, 20, 76] (L' := [(2, .slice A2 l2.length c2), (7, .slice A7_q24 o22.length c7_q24), (10, .int .i64 (wi (1 + (wi (Int.tmod (IntKind.wrap .u64 a0) 40))))), (11, .pointer (some ⟨b41, 0, none⟩)), (14, .pointer (some ⟨b67, 0, none⟩)), (15, .pointer (some ⟨b70, 0, none⟩)), (19, .bool r74.2.2.1), (20, .int .i64 o86), (76, .int .i64 x76_l3)]) (by kernel_rfl) ?_
      refine colophonlaw23_FairShares.j3_ok w0 a0 A2 c2 l2 o22 A7_q24 c7_q24 b41 b67 b70 x76_l3 q69_l3 q72_l3 r74 o86 o101 (fun w104 hS => ?_) _ hS e102
      refine At.go ?_
      refine WC.cond (by kernel_rfl) o101.1 (by kernel_rfl) (by kernel_rfl) (fun hb106 => ?_) (fun hb106 => ?_)
      · replace H := ite_t H hb106
        refine WC.seq (by kernel_rfl) ?_
        refine WC.reg [0] (by kernel_rfl) (by kernel_rfl) ?_
        refine WR.runk [0] [] [6] (L' := [(6, .bool false)]) (w' := w104) (by kernel_rfl) ?_
        refine WR.nil ?_
        refine At.go ?_
        refine WC.ret (by kernel_rfl) ?_
        refine At.thenRet ?_
        refine At.blockRet ?_
        refine At.thenRet ?_
        refine At.thenRet ?_
        obtain rfl := Option.some.inj H
        have hS : Sat w104 (rf w0) [O46 b41 o101.2, oar 32 (r0 (.int .i64)) 1 64 b67 q69_l3, oar 32 (r0 (.int .i64)) 1 64 b70 q72_l3] := hS.sel [1, 2, 3] (by kernel_rfl)
        refine At.weaken [6] (L' := [(6, .bool false)]) (by kernel_rfl) ?_
        exact hn0 (false, o101.2, q69_l3, q72_l3) _ rfl hS
      · replace H := ite_f H hb106
        refine WC.skip (by kernel_rfl) ?_
        refine At.go ?_
        refine WC.seq (by kernel_rfl) ?_
        refine WC.reg [0, 1, 2] (by kernel_rfl) (by kernel_rfl) ?_
        refine WR.runk [0, 1, 2] [] [2, 7, 10, 11, 14, 15, 76, 108, 109] (L' := [(2, .slice A2 l2.length c2), (7, .slice A7_q24 o22.length c7_q24), (10, .int .i64 (wi (1 + (wi (Int.tmod (IntKind.wrap .u64 a0) 40))))), (11, .pointer (some ⟨b41, 0, none⟩)), (14, .pointer (some ⟨b67, 0, none⟩)), (15, .pointer (some ⟨b70, 0, none⟩)), (76, .int .i64 x76_l3), (108, .int .i64 (o22.length : Int)), (109, .int .i64 0)]) (w' := w104) (by kernel_rfl) ?_
        refine WR.nil ?_
        refine At.go ?_
        refine WC.block (by kernel_rfl) ?_
        have hS : Sat w104 (rf w0) [osl 3 (r0 (.int .i64)) 1 A7_q24 c7_q24 o22, O46 b41 o101.2, oar 32 (r0 (.int .i64)) 1 64 b67 q69_l3, oar 32 (r0 (.int .i64)) 1 64 b70 q72_l3] := hS.sel [0, 1, 2, 3] (by kernel_rfl)
        obtain ⟨o182, e183, H⟩ := bind_ex H
        refine WC.loop (by kernel_rfl) ?_
        refine WL.weaken [2, 7, 10, 11, 14, 15, 76, 108, 109] (L' := [(2, .slice A2 l2.length c2), (7, .slice A7_q24 o22.length c7_q24), (10, .int .i64 (wi (1 + (wi (Int.tmod (IntKind.wrap .u64 a0) 40))))), (11, .pointer (some ⟨b41, 0, none⟩)), (14, .pointer (some ⟨b67, 0, none⟩)), (15, .pointer (some ⟨b70, 0, none⟩)), (76, .int .i64 x76_l3), (108, .int .i64 (o22.length : Int)), (109, .int .i64 0)]) (by kernel_rfl) ?_
        refine colophonlaw23_FairShares.l4_ok w0 a0 A2 c2 l2 o22 A7_q24 c7_q24 b41 b67 b70 x76_l3 o101 o182 (fun o184 w186 ho187 hS => ?_) (fun o188 w190 ho191 hS => ?_) FU 0 q69_l3 q72_l3 _ hS e183
        · subst ho187
          dsimp only at H
          refine At.blockRet ?_
          refine At.blockRet ?_
          refine At.thenRet ?_
          refine At.thenRet ?_
          obtain rfl := Option.some.inj H
          have hS : Sat w186 (rf w0) [O46 b41 o101.2, oar 32 (r0 (.int .i64)) 1 64 b67 o184.2.1, oar 32 (r0 (.int .i64)) 1 64 b70 o184.2.2] := hS.sel [0, 1, 2] (by kernel_rfl)
          refine At.weaken [6] (L' := [(6, .bool o184.1)]) (by kernel_rfl) ?_
          exact hn0 (o184.1, o101.2, o184.2.1, o184.2.2) _ rfl hS
        · subst ho191
          dsimp only at H
          refine At.hit ?_
          refine At.blockNormal ?_
          refine At.go ?_
          refine WC.reg [0, 1] (by kernel_rfl) (by kernel_rfl) ?_
          refine WR.runk [0, 1] [] [2, 7, 10, 11, 14, 15, 76] (L' := [(2, .slice A2 l2.length c2), (7, .slice A7_q24 o22.length c7_q24), (10, .int .i64 (wi (1 + (wi (Int.tmod (IntKind.wrap .u64 a0) 40))))), (11, .pointer (some ⟨b41, 0, none⟩)), (14, .pointer (some ⟨b67, 0, none⟩)), (15, .pointer (some ⟨b70, 0, none⟩)), (76, .int .i64 (wi (x76_l3 + 1)))]) (w' := w190) (by kernel_rfl) ?_
          refine WR.nil ?_
          have hS : Sat w190 (rf w0) [osl 3 (r0 (.int .i64)) 1 A7_q24 c7_q24 o22, O46 b41 o101.2, oar 32 (r0 (.int .i64)) 1 64 b67 o188.1, oar 32 (r0 (.int .i64)) 1 64 b70 o188.2] := hS.sel [0, 1, 2, 3] (by kernel_rfl)
          refine At.again ?_
          refine WL.weaken [2, 7, 10, 11, 14, 15, 76] (L' := [(2, .slice A2 l2.length c2), (7, .slice A7_q24 o22.length c7_q24), (10, .int .i64 (wi (1 + (wi (Int.tmod (IntKind.wrap .u64 a0) 40))))), (11, .pointer (some ⟨b41, 0, none⟩)), (14, .pointer (some ⟨b67, 0, none⟩)), (15, .pointer (some ⟨b70, 0, none⟩)), (76, .int .i64 (wi (x76_l3 + 1)))]) (by kernel_rfl) ?_
          exact ih (wi (x76_l3 + 1)) o101.2 o188.1 o188.2 _ hS H
    · replace H := ite_f H hb73
      refine WC.exit (by kernel_rfl) ?_
      refine At.thenExit ?_
      refine At.thenExit ?_
      obtain rfl := Option.some.inj H
      have hS : Sat w (rf w0) [O46 b41 q42_l3, oar 32 (r0 (.int .i64)) 1 64 b67 q69_l3, oar 32 (r0 (.int .i64)) 1 64 b70 q72_l3] := hS.sel [1, 2, 3] (by kernel_rfl)
      refine At.weaken [] (L' := []) (by kernel_rfl) ?_
      exact hn1 (q42_l3, q69_l3, q72_l3) _ rfl hS
theorem colophonlaw23_FairShares.calls (w0 : World) (a0 : Int) (A1 : Option Addr) (c1 : Nat) (l1 : List Int) (R1 : rdS (r0 (.int .u8)) 1 (hp w0) A1 c1 l1) (A2 : Option Addr) (c2 : Nat) (l2 : List Int) (R2 : rdS (r0 (.int .u8)) 1 (hp w0) A2 c2 l2) (r : Bool) (H : colophonlaw23_FairShares.f a0 l1 l2 = some r) :
    Calls Try.prog 3 #[.int .i64 a0, .slice A1 l1.length c1, .slice A2 l2.length c2] w0 (fun e w' => ∃ v, e = .returned v ∧ colophonlaw23_FairShares.post w0 r v w') := by
  have hS : Sat w0 (rf w0) [] := Sat.start w0
  unfold colophonlaw23_FairShares.f at H
  refine calls_of_WC (vs := [.int .i64 a0, .slice A1 l1.length c1, .slice A2 l2.length c2]) Try.func3 (c := C3) (n := 182) (by kernel_rfl) (by kernel_rfl) (by kernel_rfl) ?_
  refine WC.seq (by kernel_rfl) ?_
  refine WC.reg [0] (by kernel_rfl) (by kernel_rfl) ?_
  refine WR.runk [0] [] [0, 1, 2] (L' := [(0, .int .i64 a0), (1, .slice A1 l1.length c1), (2, .slice A2 l2.length c2)]) (w' := w0) (by kernel_rfl) ?_
  refine WR.nil ?_
  refine At.go ?_
  refine WC.seq (by kernel_rfl) ?_
  refine WC.seq (by kernel_rfl) ?_
  refine WC.reg [0, 1] (by kernel_rfl) (by kernel_rfl) ?_
  obtain ⟨r1, e2, H⟩ := bind_ex H
  refine WR.st (St.call (by kernel_rfl) (f := 7) (args := #[]) (by kernel_rfl) (colophonlaw23_first.calls w0  r1 e2) ?_)
  rintro _ w8 ⟨rfl, hS9⟩
  have hS : Sat w8 (rf w0) [] := hS.ext hS9
  refine WR.runk [1] [] [0, 1, 2, 25] (L' := [(0, .int .i64 a0), (1, .slice A1 l1.length c1), (2, .slice A2 l2.length c2), (25, .bool (!r1))]) (w' := w8) (by kernel_rfl) ?_
  refine WR.nil ?_
  refine At.go ?_
  refine WC.cond (by kernel_rfl) (!r1) (by kernel_rfl) (by kernel_rfl) (fun hb10 => ?_) (fun hb10 => ?_)
  · replace H := ite_t H hb10
    refine WC.seq (by kernel_rfl) ?_
    refine WC.reg [0] (by kernel_rfl) (by kernel_rfl) ?_
    refine WR.runk [0] [] [6] (L' := [(6, .bool false)]) (w' := w8) (by kernel_rfl) ?_
    refine WR.nil ?_
    refine At.go ?_
    refine WC.ret (by kernel_rfl) ?_
    refine At.thenRet ?_
    obtain rfl := Option.some.inj H
    have hS : Sat w8 (rf w0) [] := hS.sel [] (by kernel_rfl)
    exact At.body [.bool false] (by kernel_rfl) ⟨_, rfl, rfl, hS⟩
  · replace H := ite_f H hb10
    refine WC.skip (by kernel_rfl) ?_
    refine At.go ?_
    refine WC.seq (by kernel_rfl) ?_
    refine WC.reg [0] (by kernel_rfl) (by kernel_rfl) ?_
    refine WR.runk [0] [] [0, 1, 2, 7] (L' := [(0, .int .i64 a0), (1, .slice A1 l1.length c1), (2, .slice A2 l2.length c2), (7, .slice none 0 0)]) (w' := w8) (by kernel_rfl) ?_
    refine WR.nil ?_
    refine At.go ?_
    refine WC.seq (by kernel_rfl) ?_
    refine WC.seq (by kernel_rfl) ?_
    refine WC.reg [0, 1, 2] (by kernel_rfl) (by kernel_rfl) ?_
    refine WR.runk [0, 1, 2] [] [0, 2, 7, 26, 27, 28] (L' := [(0, .int .i64 a0), (2, .slice A2 l2.length c2), (7, .slice none 0 0), (26, .slice A1 l1.length c1), (27, .int .i64 (l1.length : Int)), (28, .int .i64 0)]) (w' := w8) (by kernel_rfl) ?_
    refine WR.nil ?_
    refine At.go ?_
    refine WC.block (by kernel_rfl) ?_
    have hS := hS.addNil (α := Int) 3 (r0 (.int .i64)) 1
    have hS : Sat w8 (rf w0) [osl 3 (r0 (.int .i64)) 1 none 0 ([] : List Int)] := hS.sel [0] (by kernel_rfl)
    obtain ⟨o22, e23, H⟩ := bind_ex H
    refine WC.loop (by kernel_rfl) ?_
    refine WL.weaken [0, 2, 7, 26, 27, 28] (L' := [(0, .int .i64 a0), (2, .slice A2 l2.length c2), (7, .slice none 0 0), (26, .slice A1 l1.length c1), (27, .int .i64 (l1.length : Int)), (28, .int .i64 0)]) (by kernel_rfl) ?_
    refine colophonlaw23_FairShares.l1_ok w0 a0 A1 c1 l1 A2 c2 l2 R1 o22 (fun A7_q24 c7_q24 w25 hS => ?_) FU ([] : List Int) 0 none 0 _ hS e23
    refine At.hit ?_
    refine At.go ?_
    refine WC.seq (by kernel_rfl) ?_
    refine WC.reg [0, 1, 2, 3, 4, 5] (by kernel_rfl) (by kernel_rfl) ?_
    refine WR.runk [0, 1, 2, 3, 4, 5] [] [2, 7, 10] (L' := [(2, .slice A2 l2.length c2), (7, .slice A7_q24 o22.length c7_q24), (10, .int .i64 (wi (1 + (wi (Int.tmod (IntKind.wrap .u64 a0) 40)))))]) (w' := w25) (by kernel_rfl) ?_
    refine WR.nil ?_
    refine At.go ?_
    refine WC.seq (by kernel_rfl) ?_
    refine WC.reg [0, 1, 2, 3, 4, 5, 6, 7] (by kernel_rfl) (by kernel_rfl) ?_
    refine WR.runk [0, 1] [2, 3, 4, 5, 6, 7] [2, 7, 10, 49, 50] (L' := [(2, .slice A2 l2.length c2), (7, .slice A7_q24 o22.length c7_q24), (10, .int .i64 (wi (1 + (wi (Int.tmod (IntKind.wrap .u64 a0) 40))))), (49, .int .i64 (wi (1 + (wi (Int.tmod (IntKind.wrap .u64 a0) 40))))), (50, .slice A7_q24 o22.length c7_q24)]) (w' := w25) (by kernel_rfl) ?_
    obtain ⟨r27, e28, H⟩ := bind_ex H
    refine WR.st (St.call (by kernel_rfl) (f := 8) (args := #[.int .i64 (wi (1 + (wi (Int.tmod (IntKind.wrap .u64 a0) 40)))), .slice A7_q24 o22.length c7_q24]) (by kernel_rfl) (fair_New.calls w25 (wi (1 + (wi (Int.tmod (IntKind.wrap .u64 a0) 40)))) A7_q24 c7_q24 o22 (Sat.rdAt 0 hS rfl) r27 e28) ?_)
    rintro _ w34 ⟨pv36, rfl, hS35⟩
    have hS : Sat w34 (rf w0) [optP O46 pv36 r27.1, osl 3 (r0 (.int .i64)) 1 A7_q24 c7_q24 o22] := hS.ext hS35
    refine WR.runk [3, 4, 5, 6, 7] [] [2, 7, 10, 11, 12] (L' := [(2, .slice A2 l2.length c2), (7, .slice A7_q24 o22.length c7_q24), (10, .int .i64 (wi (1 + (wi (Int.tmod (IntKind.wrap .u64 a0) 40))))), (11, pv36), (12, .int .i64 r27.2)]) (w' := w34) (by kernel_rfl) ?_
    refine WR.nil ?_
    refine At.go ?_
    refine WC.seq (by kernel_rfl) ?_
    refine WC.seq (by kernel_rfl) ?_
    refine WC.reg [0, 1, 2] (by kernel_rfl) (by kernel_rfl) ?_
    refine WR.runk [0, 1, 2] [] [2, 7, 10, 11, 12, 56] (L' := [(2, .slice A2 l2.length c2), (7, .slice A7_q24 o22.length c7_q24), (10, .int .i64 (wi (1 + (wi (Int.tmod (IntKind.wrap .u64 a0) 40))))), (11, pv36), (12, .int .i64 r27.2), (56, .bool ((o22.length : Int) == 0))]) (w' := w34) (by kernel_rfl) ?_
    refine WR.nil ?_
    refine At.go ?_
    refine WC.cond (by kernel_rfl) ((o22.length : Int) == 0) (by kernel_rfl) (by kernel_rfl) (fun hb37 => ?_) (fun hb37 => ?_)
    · replace H := ite_t H hb37
      refine WC.seq (by kernel_rfl) ?_
      refine WC.reg [0, 1, 2] (by kernel_rfl) (by kernel_rfl) ?_
      refine WR.runk [0, 1, 2] [] [6] (L' := [(6, .bool (r27.2 == 2))]) (w' := w34) (by kernel_rfl) ?_
      refine WR.nil ?_
      refine At.go ?_
      refine WC.ret (by kernel_rfl) ?_
      refine At.thenRet ?_
      obtain rfl := Option.some.inj H
      have hS : Sat w34 (rf w0) [] := hS.sel [] (by kernel_rfl)
      exact At.body [.bool (r27.2 == 2)] (by kernel_rfl) ⟨_, rfl, rfl, hS⟩
    · replace H := ite_f H hb37
      refine WC.skip (by kernel_rfl) ?_
      refine At.go ?_
      refine WC.seq (by kernel_rfl) ?_
      refine WC.seq (by kernel_rfl) ?_
      refine WC.reg [0, 1, 2] (by kernel_rfl) (by kernel_rfl) ?_
      refine WR.runk [0, 1, 2] [] [2, 7, 10, 11, 60, 61] (L' := [(2, .slice A2 l2.length c2), (7, .slice A7_q24 o22.length c7_q24), (10, .int .i64 (wi (1 + (wi (Int.tmod (IntKind.wrap .u64 a0) 40))))), (11, pv36), (60, .int .i64 (o22.length : Int)), (61, .int .i64 0)]) (w' := w34) (by kernel_rfl) ?_
      refine WR.nil ?_
      refine At.go ?_
      refine WC.block (by kernel_rfl) ?_
      obtain ⟨y38, hr39, H⟩ := bind_ex H
      obtain ⟨b41, hv40, hN202⟩ := optP.some hS hr39
      subst hv40
      have hS : Sat w34 (rf w0) [O46 b41 y38, osl 3 (r0 (.int .i64)) 1 A7_q24 c7_q24 o22] := hN202
      have hS : Sat w34 (rf w0) [osl 3 (r0 (.int .i64)) 1 A7_q24 c7_q24 o22, O46 b41 y38] := hS.sel [1, 0] (by kernel_rfl)
      obtain ⟨o62, e63, H⟩ := bind_ex H
      refine WC.loop (by kernel_rfl) ?_
      refine WL.weaken [2, 7, 10, 11, 60, 61] (L' := [(2, .slice A2 l2.length c2), (7, .slice A7_q24 o22.length c7_q24), (10, .int .i64 (wi (1 + (wi (Int.tmod (IntKind.wrap .u64 a0) 40))))), (11, .pointer (some ⟨b41, 0, none⟩)), (60, .int .i64 (o22.length : Int)), (61, .int .i64 0)]) (by kernel_rfl) ?_
      refine colophonlaw23_FairShares.l2_ok w0 a0 A2 c2 l2 o22 A7_q24 c7_q24 b41 o62 (fun w65 hS => ?_) FU 0 y38 _ hS e63
      refine At.hit ?_
      refine At.go ?_
      refine WC.seq (by kernel_rfl) ?_
      refine WC.reg [0, 1] (by kernel_rfl) (by kernel_rfl) ?_
      refine WR.runk [] [0, 1] [2, 7, 10, 11] (L' := [(2, .slice A2 l2.length c2), (7, .slice A7_q24 o22.length c7_q24), (10, .int .i64 (wi (1 + (wi (Int.tmod (IntKind.wrap .u64 a0) 40))))), (11, .pointer (some ⟨b41, 0, none⟩))]) (w' := w65) (by kernel_rfl) ?_
      refine WR.st (St.box hS (by kernel_rfl) (.cells ⟨List.replicate 64 (.int .i64 0)⟩ 32) (fun b67 => .pointer (some ⟨b67, 0, none⟩)) (fun _ => by kernel_rfl) (fun b67 w68 hS => ?_))
      have hS : Sat w68 (rf w0) [oar 32 (r0 (.int .i64)) 1 64 b67 (List.replicate 64 (0 : Int)), osl 3 (r0 (.int .i64)) 1 A7_q24 c7_q24 o22, O46 b41 o62] := oar.ofPts (κ := (.int .i64)) 64 0 [.int .i64 0] (by kernel_rfl) (by kernel_rfl) rfl (by kernel_rfl) hS
      refine WR.runk [] [1] [2, 7, 10, 11, 14] (L' := [(2, .slice A2 l2.length c2), (7, .slice A7_q24 o22.length c7_q24), (10, .int .i64 (wi (1 + (wi (Int.tmod (IntKind.wrap .u64 a0) 40))))), (11, .pointer (some ⟨b41, 0, none⟩)), (14, .pointer (some ⟨b67, 0, none⟩))]) (w' := w68) (by kernel_rfl) ?_
      refine WR.st (St.box hS (by kernel_rfl) (.cells ⟨List.replicate 64 (.int .i64 0)⟩ 32) (fun b70 => .pointer (some ⟨b70, 0, none⟩)) (fun _ => by kernel_rfl) (fun b70 w71 hS => ?_))
      have hS : Sat w71 (rf w0) [oar 32 (r0 (.int .i64)) 1 64 b70 (List.replicate 64 (0 : Int)), oar 32 (r0 (.int .i64)) 1 64 b67 (List.replicate 64 (0 : Int)), osl 3 (r0 (.int .i64)) 1 A7_q24 c7_q24 o22, O46 b41 o62] := oar.ofPts (κ := (.int .i64)) 64 0 [.int .i64 0] (by kernel_rfl) (by kernel_rfl) rfl (by kernel_rfl) hS
      refine WR.runk [] [] [2, 7, 10, 11, 14, 15] (L' := [(2, .slice A2 l2.length c2), (7, .slice A7_q24 o22.length c7_q24), (10, .int .i64 (wi (1 + (wi (Int.tmod (IntKind.wrap .u64 a0) 40))))), (11, .pointer (some ⟨b41, 0, none⟩)), (14, .pointer (some ⟨b67, 0, none⟩)), (15, .pointer (some ⟨b70, 0, none⟩))]) (w' := w71) (by kernel_rfl) ?_
      refine WR.nil ?_
      refine At.go ?_
      refine WC.seq (by kernel_rfl) ?_
      refine WC.seq (by kernel_rfl) ?_
      refine WC.reg [0] (by kernel_rfl) (by kernel_rfl) ?_
      refine WR.runk [0] [] [2, 7, 10, 11, 14, 15, 76] (L' := [(2, .slice A2 l2.length c2), (7, .slice A7_q24 o22.length c7_q24), (10, .int .i64 (wi (1 + (wi (Int.tmod (IntKind.wrap .u64 a0) 40))))), (11, .pointer (some ⟨b41, 0, none⟩)), (14, .pointer (some ⟨b67, 0, none⟩)), (15, .pointer (some ⟨b70, 0, none⟩)), (76, .int .i64 0)]) (w' := w71) (by kernel_rfl) ?_
      refine WR.nil ?_
      refine At.go ?_
      refine WC.block (by kernel_rfl) ?_
      have hS : Sat w71 (rf w0) [osl 3 (r0 (.int .i64)) 1 A7_q24 c7_q24 o22, O46 b41 o62, oar 32 (r0 (.int .i64)) 1 64 b67 (List.replicate 64 (0 : Int)), oar 32 (r0 (.int .i64)) 1 64 b70 (List.replicate 64 (0 : Int))] := hS.sel [2, 3, 1, 0] (by kernel_rfl)
      obtain ⟨o192, e193, H⟩ := bind_ex H
      refine WC.loop (by kernel_rfl) ?_
      refine WL.weaken [2, 7, 10, 11, 14, 15, 76] (L' := [(2, .slice A2 l2.length c2), (7, .slice A7_q24 o22.length c7_q24), (10, .int .i64 (wi (1 + (wi (Int.tmod (IntKind.wrap .u64 a0) 40))))), (11, .pointer (some ⟨b41, 0, none⟩)), (14, .pointer (some ⟨b67, 0, none⟩)), (15, .pointer (some ⟨b70, 0, none⟩)), (76, .int .i64 0)]) (by kernel_rfl) ?_
      refine colophonlaw23_FairShares.l3_ok w0 a0 A2 c2 l2 o22 A7_q24 c7_q24 b41 b67 b70 R2 o192 (fun o194 w196 ho197 hS => ?_) (fun o198 w200 ho201 hS => ?_) FU 0 o62 (List.replicate 64 (0 : Int)) (List.replicate 64 (0 : Int)) _ hS e193
      · subst ho197
        dsimp only at H
        refine At.blockRet ?_
        refine At.thenRet ?_
        obtain rfl := Option.some.inj H
        have hS : Sat w196 (rf w0) [] := hS.sel [] (by kernel_rfl)
        exact At.body [.bool o194.1] (by kernel_rfl) ⟨_, rfl, rfl, hS⟩
      · subst ho201
        dsimp only at H
        refine At.hit ?_
        refine At.go ?_
        refine WC.seq (by kernel_rfl) ?_
        refine WC.reg [0] (by kernel_rfl) (by kernel_rfl) ?_
        refine WR.runk [0] [] [6] (L' := [(6, .bool true)]) (w' := w200) (by kernel_rfl) ?_
        refine WR.nil ?_
        refine At.go ?_
        refine WC.ret (by kernel_rfl) ?_
        obtain rfl := Option.some.inj H
        have hS : Sat w200 (rf w0) [] := hS.sel [] (by kernel_rfl)
        exact At.body [.bool true] (by kernel_rfl) ⟨_, rfl, rfl, hS⟩
end Go.Proofs.Ytnffhpnlehcoiaa
