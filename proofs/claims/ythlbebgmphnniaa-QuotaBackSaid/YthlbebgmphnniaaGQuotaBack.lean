/-
  Printed by gen.py (my own tool): for each Go function a plain Lean function and the proof that a call of it does what that function says.
-/
import Derived.Test.YthlbebgmphnniaaGP1
set_option linter.unusedVariables false
set_option linter.unusedSimpArgs false
set_option maxRecDepth 100000
namespace Go.Proofs.Ythlbebgmphnniaa
open Go Go.Gol
/-! ### 3 colophon/colophonlaw22.QuotaBack -/
def colophonlaw22_QuotaBack.l1 (l1 : List Int) : Nat → (List (Int × Int)) → Int → Option (List (Int × Int))
  | 0, _, _ => none
  | k + 1, x7_l1, x23_l1 => (if decide (x23_l1 < (l1.length : Int)) then ((at? l1 x23_l1).bind fun v12 => (if decide (x23_l1 < 16) then ((app? 8796093022208 x7_l1 ([(2, wi (Int.tmod v12 9))] : List (Int × Int))).bind fun y18 => colophonlaw22_QuotaBack.l1 l1 k y18 (wi (x23_l1 + 1))) else colophonlaw22_QuotaBack.l1 l1 k x7_l1 (wi (x23_l1 + 1)))) else some x7_l1)
def colophonlaw22_QuotaBack.l2 (l2 : List Int) (o22 : (List (Int × Int))) : Nat → (List Int) → Int → (Int × (List (Int × Int)) × (List (Int × Int))) → Option ((List Int) × (Int × (List (Int × Int)) × (List (Int × Int))))
  | 0, _, _, _ => none
  | k + 1, x12_l2, x55_l2, q48_l2 => (if decide (x55_l2 < (l2.length : Int)) then ((at? l2 x55_l2).bind fun v50 => ((chk? (decide ((IntKind.wrap .u64 (o22.length : Int)) ≠ 0))).bind fun _ => (if decide (x55_l2 < 60) then ((quota_Gate_Enter.f q48_l2 (wi (Int.tmod (IntKind.wrap .u64 v50) (IntKind.wrap .u64 (o22.length : Int))))).bind fun r54 => (if (r54.1 == 0) then ((app? 17592186044416 x12_l2 ([wi (Int.tmod (IntKind.wrap .u64 v50) (IntKind.wrap .u64 (o22.length : Int)))] : List Int)).bind fun y67 => colophonlaw22_QuotaBack.l2 l2 o22 k y67 (wi (x55_l2 + 1)) r54.2) else colophonlaw22_QuotaBack.l2 l2 o22 k x12_l2 (wi (x55_l2 + 1)) r54.2)) else colophonlaw22_QuotaBack.l2 l2 o22 k x12_l2 (wi (x55_l2 + 1)) q48_l2))) else some (x12_l2, q48_l2))
def colophonlaw22_QuotaBack.l3 (o71 : (List Int) × (Int × (List (Int × Int)) × (List (Int × Int)))) : Nat → Int → (Int × (List (Int × Int)) × (List (Int × Int))) → Option (Sum (Bool × (Int × (List (Int × Int)) × (List (Int × Int)))) (Int × (List (Int × Int)) × (List (Int × Int))))
  | 0, _, _ => none
  | k + 1, x87_l3, q48_l3 => (if decide (x87_l3 < (o71.1.length : Int)) then ((chk? (decide ((o71.1.length : Int) ≠ 0))).bind fun _ => ((at? o71.1 (Int.tmod (wi ((wi (x87_l3 * 7)) + 3)) (o71.1.length : Int))).bind fun v88 => (if ((Int.tmod (o71.1.length : Int) 7) == 0) then ((at? o71.1 x87_l3).bind fun v91 => ((quota_Gate_Leave.f q48_l3 v91).bind fun r93 => (if (!r93.1) then some (.inl (false, r93.2)) else colophonlaw22_QuotaBack.l3 o71 k (wi (x87_l3 + 1)) r93.2))) else ((quota_Gate_Leave.f q48_l3 v88).bind fun r103 => (if (!r103.1) then some (.inl (false, r103.2)) else colophonlaw22_QuotaBack.l3 o71 k (wi (x87_l3 + 1)) r103.2))))) else some (.inr q48_l3))
def colophonlaw22_QuotaBack.l4 (o22 : (List (Int × Int))) : Nat → Int → (Int × (List (Int × Int)) × (List (Int × Int))) → Option (Sum (Bool × (Int × (List (Int × Int)) × (List (Int × Int)))) (Int × (List (Int × Int)) × (List (Int × Int))))
  | 0, _, _ => none
  | k + 1, x114_l4, q48_l4 => (if decide (x114_l4 < (o22.length : Int)) then ((quota_Gate_Live.f q48_l4 x114_l4).bind fun r124 => (if (r124 != 0) then some (.inl (false, q48_l4)) else ((quota_Gate_Leave.f q48_l4 x114_l4).bind fun r134 => (if r134.1 then some (.inl (false, r134.2)) else colophonlaw22_QuotaBack.l4 o22 k (wi (x114_l4 + 1)) r134.2)))) else some (.inr q48_l4))
def colophonlaw22_QuotaBack.f (a0 : Int) (l1 : List Int) (l2 : List Int) : Option Bool := (colophonlaw22_first.f.bind fun r1 => (if (!r1) then some false else ((colophonlaw22_QuotaBack.l1 l1 FU ([] : List (Int × Int)) 0).bind fun o22 => ((quota_New.f (wi (1 + (wi (Int.tmod (IntKind.wrap .u64 a0) 20)))) o22).bind fun r27 => (if ((o22.length : Int) == 0) then (match r27.1 with | none => some true | some y38 => some false) else (r27.1.bind fun y44 => ((colophonlaw22_QuotaBack.l2 l2 o22 FU ([] : List Int) 0 y44).bind fun o71 => ((quota_Gate_All.f o71.2).bind fun r76 => (if (r76 != (o71.1.length : Int)) then some false else ((colophonlaw22_QuotaBack.l3 o71 FU 0 o71.2).bind fun o113 => (match o113 with | .inl o115 => some o115.1 | .inr o119 => ((colophonlaw22_QuotaBack.l4 o22 FU 0 o119).bind fun o144 => (match o144 with | .inl o146 => some o146.1 | .inr o150 => ((quota_Gate_All.f o150).bind fun r154 => some (r154 == 0)))))))))))))))
def colophonlaw22_QuotaBack.post (w : World) (r : Bool) (v : Value) (w' : World) : Prop := v = (.bool r : Value) ∧ Sat w' (rf w) []
theorem colophonlaw22_QuotaBack.l1_ok {Q} (w0 : World) (a0 : Int) (A1 : Option Addr) (c1 : Nat) (l1 : List Int) (A2 : Option Addr) (c2 : Nat) (l2 : List Int) (R1 : rdS (r0 (.int .u8)) 1 (hp w0) A1 c1 l1) (out : (List (Int × Int))) (hn0 : ∀ (A7_q : Option Addr) (c7_q : Nat) (w : World), Sat w (rf w0) [osl 27 (r0 (.pair (.int .i64) (.int .i64))) 2 A7_q c7_q out] → At Q (.exit 0) 130 [(0, .int .i64 a0), (2, .slice A2 l2.length c2), (7, .slice A7_q out.length c7_q)] w) :
    ∀ (k : Nat) (x7_l1 : List (Int × Int)) (x23_l1 : Int) (A7_l1 : Option Addr) (c7_l1 : Nat) (w : World), Sat w (rf w0) [osl 27 (r0 (.pair (.int .i64) (.int .i64))) 2 A7_l1 c7_l1 x7_l1] → colophonlaw22_QuotaBack.l1 l1 k x7_l1 x23_l1 = some out → WL Try.prog (cbody (cbody (cr (cl (cr (cr (cr C3))))))) Q 130 [(0, .int .i64 a0), (2, .slice A2 l2.length c2), (7, .slice A7_l1 x7_l1.length c7_l1), (21, .slice A1 l1.length c1), (22, .int .i64 (l1.length : Int)), (23, .int .i64 x23_l1)] w := by
  intro k
  induction k with
  | zero => intro x7_l1 x23_l1 A7_l1 c7_l1 w hS H; exact absurd (show none = some out from H) (by simp)
  | succ k ih =>
    intro x7_l1 x23_l1 A7_l1 c7_l1 w hS H
    unfold colophonlaw22_QuotaBack.l1 at H
    refine WL.round ?_
    refine WC.seq (by kernel_rfl) ?_
    refine WC.reg [0] (by kernel_rfl) (by kernel_rfl) ?_
    refine WR.runk [0] [] [0, 2, 7, 21, 22, 23, 24] (L' := [(0, .int .i64 a0), (2, .slice A2 l2.length c2), (7, .slice A7_l1 x7_l1.length c7_l1), (21, .slice A1 l1.length c1), (22, .int .i64 (l1.length : Int)), (23, .int .i64 x23_l1), (24, .bool (decide (x23_l1 < (l1.length : Int))))]) (w' := w) (by kernel_rfl) ?_
    refine WR.nil ?_
    refine At.go ?_
    refine WC.seq (by kernel_rfl) ?_
    refine WC.cond (by kernel_rfl) (decide (x23_l1 < (l1.length : Int))) (by kernel_rfl) (by kernel_rfl) (fun hb11 => ?_) (fun hb11 => ?_)
    · replace H := ite_t H hb11
      refine WC.skip (by kernel_rfl) ?_
      refine At.go ?_
      refine WC.seq (by kernel_rfl) ?_
      refine WC.block (by kernel_rfl) ?_
      refine WC.seq (by kernel_rfl) ?_
      refine WC.reg [0, 1, 2, 3, 4] (by kernel_rfl) (by kernel_rfl) ?_
      refine WR.runk [0] [1, 2, 3, 4] [0, 2, 7, 21, 22, 23, 25] (L' := [(0, .int .i64 a0), (2, .slice A2 l2.length c2), (7, .slice A7_l1 x7_l1.length c7_l1), (21, .slice A1 l1.length c1), (22, .int .i64 (l1.length : Int)), (23, .int .i64 x23_l1), (25, .int .i64 x23_l1)]) (w' := w) (by kernel_rfl) ?_
      obtain ⟨v12, e13, H⟩ := bind_ex H
      refine WR.st (St.ofP (PSt.idx (k := .i64) (.tmp 21) (.tmp 23) (by kernel_rfl) (by kernel_rfl) E22 (by kernel_rfl) (by kernel_rfl) (rdS.up R1 hS.sub0) e13 ?_))
      refine WR.runk [] [2, 3, 4] [0, 2, 7, 21, 22, 23, 25, 26] (L' := [(0, .int .i64 a0), (2, .slice A2 l2.length c2), (7, .slice A7_l1 x7_l1.length c7_l1), (21, .slice A1 l1.length c1), (22, .int .i64 (l1.length : Int)), (23, .int .i64 x23_l1), (25, .int .i64 x23_l1), (26, .pointer (some (adr A1 x23_l1.toNat 1)))]) (w' := w) (by kernel_rfl) ?_
      refine WR.st (St.ofR (RSt.loadInt (t := 5) (.tmp 26) (by kernel_rfl) (by kernel_rfl) (by kernel_rfl) (by kernel_rfl) (rdS.up R1 hS.sub0) e13 ?_))
      refine WR.runk [3, 4] [] [0, 2, 7, 8, 9, 21, 22, 23] (L' := [(0, .int .i64 a0), (2, .slice A2 l2.length c2), (7, .slice A7_l1 x7_l1.length c7_l1), (8, .int .i64 x23_l1), (9, .int .u8 v12), (21, .slice A1 l1.length c1), (22, .int .i64 (l1.length : Int)), (23, .int .i64 x23_l1)]) (w' := w) (by kernel_rfl) ?_
      refine WR.nil ?_
      refine At.go ?_
      refine WC.seq (by kernel_rfl) ?_
      refine WC.reg [0, 1] (by kernel_rfl) (by kernel_rfl) ?_
      refine WR.runk [0, 1] [] [0, 2, 7, 9, 21, 22, 23, 29] (L' := [(0, .int .i64 a0), (2, .slice A2 l2.length c2), (7, .slice A7_l1 x7_l1.length c7_l1), (9, .int .u8 v12), (21, .slice A1 l1.length c1), (22, .int .i64 (l1.length : Int)), (23, .int .i64 x23_l1), (29, .bool (decide (x23_l1 < 16)))]) (w' := w) (by kernel_rfl) ?_
      refine WR.nil ?_
      refine At.go ?_
      refine WC.cond (by kernel_rfl) (decide (x23_l1 < 16)) (by kernel_rfl) (by kernel_rfl) (fun hb14 => ?_) (fun hb14 => ?_)
      · replace H := ite_t H hb14
        refine WC.reg [0, 1, 2, 3, 4, 5, 6, 7] (by kernel_rfl) (by kernel_rfl) ?_
        refine WR.runk [0, 1, 2, 3, 4] [5, 6, 7] [0, 2, 7, 21, 22, 23, 30, 34] (L' := [(0, .int .i64 a0), (2, .slice A2 l2.length c2), (7, .slice A7_l1 x7_l1.length c7_l1), (21, .slice A1 l1.length c1), (22, .int .i64 (l1.length : Int)), (23, .int .i64 x23_l1), (30, .slice A7_l1 x7_l1.length c7_l1), (34, .agg #[.int .i64 2, .int .i64 (wi (Int.tmod v12 9))])]) (w' := w) (by kernel_rfl) ?_
        refine WR.st (St.box hS (by kernel_rfl) (.cells #[.int .i64 2, .int .i64 (wi (Int.tmod v12 9))] 27) (fun b15 => .slice (some ⟨b15, 0, none⟩) 1 1) (fun _ => by kernel_rfl) (fun b15 w16 hS => ?_))
        refine WR.runk [] [6, 7] [0, 2, 7, 21, 22, 23, 30, 35] (L' := [(0, .int .i64 a0), (2, .slice A2 l2.length c2), (7, .slice A7_l1 x7_l1.length c7_l1), (21, .slice A1 l1.length c1), (22, .int .i64 (l1.length : Int)), (23, .int .i64 x23_l1), (30, .slice A7_l1 x7_l1.length c7_l1), (35, .slice (some ⟨b15, 0, none⟩) 1 1)]) (w' := w16) (by kernel_rfl) ?_
        have hS : Sat w16 (rf w0) [osl 27 (r0 (.pair (.int .i64) (.int .i64))) 2 A7_l1 c7_l1 x7_l1, pts b15 (.cells #[.int .i64 2, .int .i64 (wi (Int.tmod v12 9))] 27 (0, 0))] := hS.sel [1, 0] (by kernel_rfl)
        obtain ⟨y18, e17, H⟩ := bind_ex H
        refine WR.st (St.append' (.tmp 30) (.tmp 35) (by kernel_rfl) (by kernel_rfl) E25 (r0_one _) hS (by kernel_rfl) (by kernel_rfl) (Sat.ptsAt 1 (r0 (.pair (.int .i64) (.int .i64))) 2 ([(2, wi (Int.tmod v12 9))] : List (Int × Int)) hS rfl rfl (rdL.consN [.int .i64 2, .int .i64 (wi (Int.tmod v12 9))] rfl ⟨[.int .i64 2], [.int .i64 (wi (Int.tmod v12 9))], rfl, rfl, rfl, rfl⟩ (rdL.nil _ _))) 8796093022208 (by kernel_rfl) (by kernel_rfl) e17 (fun A19 c20 w21 hS => ?_))
        refine WR.runk [7] [] [0, 2, 7, 21, 22, 23] (L' := [(0, .int .i64 a0), (2, .slice A2 l2.length c2), (7, .slice A19 y18.length c20), (21, .slice A1 l1.length c1), (22, .int .i64 (l1.length : Int)), (23, .int .i64 x23_l1)]) (w' := w21) (by kernel_rfl) ?_
        refine WR.nil ?_
        refine At.blockNormal ?_
        refine At.go ?_
        refine WC.reg [0, 1] (by kernel_rfl) (by kernel_rfl) ?_
        refine WR.runk [0, 1] [] [0, 2, 7, 21, 22, 23] (L' := [(0, .int .i64 a0), (2, .slice A2 l2.length c2), (7, .slice A19 y18.length c20), (21, .slice A1 l1.length c1), (22, .int .i64 (l1.length : Int)), (23, .int .i64 (wi (x23_l1 + 1)))]) (w' := w21) (by kernel_rfl) ?_
        refine WR.nil ?_
        have hS : Sat w21 (rf w0) [osl 27 (r0 (.pair (.int .i64) (.int .i64))) 2 A19 c20 y18] := hS.sel [0] (by kernel_rfl)
        refine At.again ?_
        refine WL.weaken [0, 2, 7, 21, 22, 23] (L' := [(0, .int .i64 a0), (2, .slice A2 l2.length c2), (7, .slice A19 y18.length c20), (21, .slice A1 l1.length c1), (22, .int .i64 (l1.length : Int)), (23, .int .i64 (wi (x23_l1 + 1)))]) (by kernel_rfl) ?_
        exact ih y18 (wi (x23_l1 + 1)) A19 c20 _ hS H
      · replace H := ite_f H hb14
        refine WC.skip (by kernel_rfl) ?_
        refine At.blockNormal ?_
        refine At.go ?_
        refine WC.reg [0, 1] (by kernel_rfl) (by kernel_rfl) ?_
        refine WR.runk [0, 1] [] [0, 2, 7, 21, 22, 23] (L' := [(0, .int .i64 a0), (2, .slice A2 l2.length c2), (7, .slice A7_l1 x7_l1.length c7_l1), (21, .slice A1 l1.length c1), (22, .int .i64 (l1.length : Int)), (23, .int .i64 (wi (x23_l1 + 1)))]) (w' := w) (by kernel_rfl) ?_
        refine WR.nil ?_
        have hS : Sat w (rf w0) [osl 27 (r0 (.pair (.int .i64) (.int .i64))) 2 A7_l1 c7_l1 x7_l1] := hS.sel [0] (by kernel_rfl)
        refine At.again ?_
        refine WL.weaken [0, 2, 7, 21, 22, 23] (L' := [(0, .int .i64 a0), (2, .slice A2 l2.length c2), (7, .slice A7_l1 x7_l1.length c7_l1), (21, .slice A1 l1.length c1), (22, .int .i64 (l1.length : Int)), (23, .int .i64 (wi (x23_l1 + 1)))]) (by kernel_rfl) ?_
        exact ih x7_l1 (wi (x23_l1 + 1)) A7_l1 c7_l1 _ hS H
    · replace H := ite_f H hb11
      refine WC.exit (by kernel_rfl) ?_
      refine At.thenExit ?_
      refine At.thenExit ?_
      obtain rfl := Option.some.inj H
      have hS : Sat w (rf w0) [osl 27 (r0 (.pair (.int .i64) (.int .i64))) 2 A7_l1 c7_l1 x7_l1] := hS.sel [0] (by kernel_rfl)
      refine At.weaken [0, 2, 7] (L' := [(0, .int .i64 a0), (2, .slice A2 l2.length c2), (7, .slice A7_l1 x7_l1.length c7_l1)]) (by kernel_rfl) ?_
      exact hn0 A7_l1 c7_l1 _ hS
theorem colophonlaw22_QuotaBack.l2_ok {Q} (w0 : World) (A2 : Option Addr) (c2 : Nat) (l2 : List Int) (o22 : (List (Int × Int))) (A7_q24 : Option Addr) (c7_q24 : Nat) (b47 : Nat) (R2 : rdS (r0 (.int .i64)) 1 (hp w0) A2 c2 l2) (out : (List Int) × (Int × (List (Int × Int)) × (List (Int × Int)))) (hn0 : ∀ (A12_q : Option Addr) (c12_q : Nat) (w : World), Sat w (rf w0) [osl 27 (r0 (.pair (.int .i64) (.int .i64))) 2 A7_q24 c7_q24 o22, osl 3 (r0 (.int .i64)) 1 A12_q c12_q out.1, O49 b47 out.2] → At Q (.exit 2) 130 [(7, .slice A7_q24 o22.length c7_q24), (10, .pointer (some ⟨b47, 0, none⟩)), (12, .slice A12_q out.1.length c12_q)] w) :
    ∀ (k : Nat) (x12_l2 : List Int) (x55_l2 : Int) (q48_l2 : Int × (List (Int × Int)) × (List (Int × Int))) (A12_l2 : Option Addr) (c12_l2 : Nat) (w : World), Sat w (rf w0) [osl 27 (r0 (.pair (.int .i64) (.int .i64))) 2 A7_q24 c7_q24 o22, osl 3 (r0 (.int .i64)) 1 A12_l2 c12_l2 x12_l2, O49 b47 q48_l2] → colophonlaw22_QuotaBack.l2 l2 o22 k x12_l2 x55_l2 q48_l2 = some out → WL Try.prog (cbody (cbody (cr (cl (cr (cr (cr (cr (cr (cr (cr C3))))))))))) Q 130 [(7, .slice A7_q24 o22.length c7_q24), (10, .pointer (some ⟨b47, 0, none⟩)), (12, .slice A12_l2 x12_l2.length c12_l2), (53, .slice A2 l2.length c2), (54, .int .i64 (l2.length : Int)), (55, .int .i64 x55_l2)] w := by
  intro k
  induction k with
  | zero => intro x12_l2 x55_l2 q48_l2 A12_l2 c12_l2 w hS H; exact absurd (show none = some out from H) (by simp)
  | succ k ih =>
    intro x12_l2 x55_l2 q48_l2 A12_l2 c12_l2 w hS H
    unfold colophonlaw22_QuotaBack.l2 at H
    refine WL.round ?_
    refine WC.seq (by kernel_rfl) ?_
    refine WC.reg [0] (by kernel_rfl) (by kernel_rfl) ?_
    refine WR.runk [0] [] [7, 10, 12, 53, 54, 55, 56] (L' := [(7, .slice A7_q24 o22.length c7_q24), (10, .pointer (some ⟨b47, 0, none⟩)), (12, .slice A12_l2 x12_l2.length c12_l2), (53, .slice A2 l2.length c2), (54, .int .i64 (l2.length : Int)), (55, .int .i64 x55_l2), (56, .bool (decide (x55_l2 < (l2.length : Int))))]) (w' := w) (by kernel_rfl) ?_
    refine WR.nil ?_
    refine At.go ?_
    refine WC.seq (by kernel_rfl) ?_
    refine WC.cond (by kernel_rfl) (decide (x55_l2 < (l2.length : Int))) (by kernel_rfl) (by kernel_rfl) (fun hb49 => ?_) (fun hb49 => ?_)
    · replace H := ite_t H hb49
      refine WC.skip (by kernel_rfl) ?_
      refine At.go ?_
      refine WC.seq (by kernel_rfl) ?_
      refine WC.block (by kernel_rfl) ?_
      refine WC.seq (by kernel_rfl) ?_
      refine WC.reg [0, 1, 2, 3, 4] (by kernel_rfl) (by kernel_rfl) ?_
      refine WR.runk [0] [1, 2, 3, 4] [7, 10, 12, 53, 54, 55, 57] (L' := [(7, .slice A7_q24 o22.length c7_q24), (10, .pointer (some ⟨b47, 0, none⟩)), (12, .slice A12_l2 x12_l2.length c12_l2), (53, .slice A2 l2.length c2), (54, .int .i64 (l2.length : Int)), (55, .int .i64 x55_l2), (57, .int .i64 x55_l2)]) (w' := w) (by kernel_rfl) ?_
      obtain ⟨v50, e51, H⟩ := bind_ex H
      refine WR.st (St.ofP (PSt.idx (k := .i64) (.tmp 53) (.tmp 55) (by kernel_rfl) (by kernel_rfl) E23 (by kernel_rfl) (by kernel_rfl) (rdS.up R2 hS.sub0) e51 ?_))
      refine WR.runk [] [2, 3, 4] [7, 10, 12, 53, 54, 55, 57, 58] (L' := [(7, .slice A7_q24 o22.length c7_q24), (10, .pointer (some ⟨b47, 0, none⟩)), (12, .slice A12_l2 x12_l2.length c12_l2), (53, .slice A2 l2.length c2), (54, .int .i64 (l2.length : Int)), (55, .int .i64 x55_l2), (57, .int .i64 x55_l2), (58, .pointer (some (adr A2 x55_l2.toNat 1)))]) (w' := w) (by kernel_rfl) ?_
      refine WR.st (St.ofR (RSt.loadInt (t := 3) (.tmp 58) (by kernel_rfl) (by kernel_rfl) (by kernel_rfl) (by kernel_rfl) (rdS.up R2 hS.sub0) e51 ?_))
      refine WR.runk [3, 4] [] [7, 10, 12, 13, 14, 53, 54, 55] (L' := [(7, .slice A7_q24 o22.length c7_q24), (10, .pointer (some ⟨b47, 0, none⟩)), (12, .slice A12_l2 x12_l2.length c12_l2), (13, .int .i64 x55_l2), (14, .int .i64 v50), (53, .slice A2 l2.length c2), (54, .int .i64 (l2.length : Int)), (55, .int .i64 x55_l2)]) (w' := w) (by kernel_rfl) ?_
      refine WR.nil ?_
      refine At.go ?_
      refine WC.seq (by kernel_rfl) ?_
      refine WC.reg [0, 1, 2, 3, 4, 5, 6, 7] (by kernel_rfl) (by kernel_rfl) ?_
      refine WR.runk [0, 1, 2, 3, 4] [5, 6, 7] [7, 10, 12, 13, 53, 54, 55, 61, 64] (L' := [(7, .slice A7_q24 o22.length c7_q24), (10, .pointer (some ⟨b47, 0, none⟩)), (12, .slice A12_l2 x12_l2.length c12_l2), (13, .int .i64 x55_l2), (53, .slice A2 l2.length c2), (54, .int .i64 (l2.length : Int)), (55, .int .i64 x55_l2), (61, .int .u64 (IntKind.wrap .u64 v50)), (64, .int .u64 (IntKind.wrap .u64 (o22.length : Int)))]) (w' := w) (by kernel_rfl) ?_
      obtain ⟨_, e52, H⟩ := bind_ex H
      refine WR.st (St.ofP (PSt.div (k := .u64) (t := 32) (t2 := 32) (a := (IntKind.wrap .u64 v50)) (b := (IntKind.wrap .u64 (o22.length : Int))) .rem (by decide) (.tmp 61) (.tmp 64) (by kernel_rfl) (by kernel_rfl) (by kernel_rfl) (by kernel_rfl) (of_decide_eq_true (chk?_some e52)) ?_))
      refine WR.runk [6, 7] [] [7, 10, 12, 13, 15, 53, 54, 55] (L' := [(7, .slice A7_q24 o22.length c7_q24), (10, .pointer (some ⟨b47, 0, none⟩)), (12, .slice A12_l2 x12_l2.length c12_l2), (13, .int .i64 x55_l2), (15, .int .i64 (wi (Int.tmod (IntKind.wrap .u64 v50) (IntKind.wrap .u64 (o22.length : Int))))), (53, .slice A2 l2.length c2), (54, .int .i64 (l2.length : Int)), (55, .int .i64 x55_l2)]) (w' := w) (by kernel_rfl) ?_
      refine WR.nil ?_
      refine At.go ?_
      refine WC.seq (by kernel_rfl) ?_
      refine WC.reg [0, 1, 2, 3, 4, 5, 6, 7] (by kernel_rfl) (by kernel_rfl) ?_
      refine WR.runk [0, 1, 2] [3, 4, 5, 6, 7] [7, 10, 12, 15, 53, 54, 55, 69] (L' := [(7, .slice A7_q24 o22.length c7_q24), (10, .pointer (some ⟨b47, 0, none⟩)), (12, .slice A12_l2 x12_l2.length c12_l2), (15, .int .i64 (wi (Int.tmod (IntKind.wrap .u64 v50) (IntKind.wrap .u64 (o22.length : Int))))), (53, .slice A2 l2.length c2), (54, .int .i64 (l2.length : Int)), (55, .int .i64 x55_l2), (69, .bool (decide (x55_l2 < 60)))]) (w' := w) (by kernel_rfl) ?_
      refine WR.split 69 (b := decide (x55_l2 < 60)) (by kernel_rfl) (fun hb53 => ?_) (fun hb53 => ?_)
      · replace H := ite_t H hb53
        refine WR.runk [3, 4] [5, 6, 7] [7, 10, 12, 15, 53, 54, 55, 69, 70, 71] (L' := [(7, .slice A7_q24 o22.length c7_q24), (10, .pointer (some ⟨b47, 0, none⟩)), (12, .slice A12_l2 x12_l2.length c12_l2), (15, .int .i64 (wi (Int.tmod (IntKind.wrap .u64 v50) (IntKind.wrap .u64 (o22.length : Int))))), (53, .slice A2 l2.length c2), (54, .int .i64 (l2.length : Int)), (55, .int .i64 x55_l2), (69, .bool true), (70, .pointer (some ⟨b47, 0, none⟩)), (71, .int .i64 (wi (Int.tmod (IntKind.wrap .u64 v50) (IntKind.wrap .u64 (o22.length : Int)))))]) (w' := w) (by kernel_rfl) ?_
        have hS : Sat w (rf w0) [O49 b47 q48_l2, osl 27 (r0 (.pair (.int .i64) (.int .i64))) 2 A7_q24 c7_q24 o22, osl 3 (r0 (.int .i64)) 1 A12_l2 c12_l2 x12_l2] := hS.sel [2, 0, 1] (by kernel_rfl)
        obtain ⟨r54, e55, H⟩ := bind_ex H
        obtain ⟨B60, hso59, hsub57, hcs58, hb56⟩ := Sat.lend [O49 b47 q48_l2] (cs := [osl 27 (r0 (.pair (.int .i64) (.int .i64))) 2 A7_q24 c7_q24 o22, osl 3 (r0 (.int .i64)) 1 A12_l2 c12_l2 x12_l2]) hS
        refine WR.st (St.call (by kernel_rfl) (f := 7) (args := #[.pointer (some ⟨b47, 0, none⟩), .int .i64 (wi (Int.tmod (IntKind.wrap .u64 v50) (IntKind.wrap .u64 (o22.length : Int))))]) (by kernel_rfl) (quota_Gate_Enter.calls B60 w b47 q48_l2 hso59 (wi (Int.tmod (IntKind.wrap .u64 v50) (IntKind.wrap .u64 (o22.length : Int)))) r54 e55) ?_)
        rintro _ w61 ⟨rfl, hS62⟩
        have hS : Sat w61 (rf w0) [O49 b47 r54.2, osl 27 (r0 (.pair (.int .i64) (.int .i64))) 2 A7_q24 c7_q24 o22, osl 3 (r0 (.int .i64)) 1 A12_l2 c12_l2 x12_l2] := hb56 _ _ hS62
        refine WR.runk [6, 7] [] [7, 10, 12, 15, 53, 54, 55, 70, 71, 72, 73, 74] (L' := [(7, .slice A7_q24 o22.length c7_q24), (10, .pointer (some ⟨b47, 0, none⟩)), (12, .slice A12_l2 x12_l2.length c12_l2), (15, .int .i64 (wi (Int.tmod (IntKind.wrap .u64 v50) (IntKind.wrap .u64 (o22.length : Int))))), (53, .slice A2 l2.length c2), (54, .int .i64 (l2.length : Int)), (55, .int .i64 x55_l2), (70, .pointer (some ⟨b47, 0, none⟩)), (71, .int .i64 (wi (Int.tmod (IntKind.wrap .u64 v50) (IntKind.wrap .u64 (o22.length : Int))))), (72, .int .i64 r54.1), (73, .bool (r54.1 == 0)), (74, .bool (r54.1 == 0))]) (w' := w61) (by kernel_rfl) ?_
        refine WR.nil ?_
        refine At.go ?_
        refine WC.cond (by kernel_rfl) (r54.1 == 0) (by kernel_rfl) (by kernel_rfl) (fun hb63 => ?_) (fun hb63 => ?_)
        · replace H := ite_t H hb63
          refine WC.reg [0, 1, 2, 3, 4] (by kernel_rfl) (by kernel_rfl) ?_
          refine WR.runk [0, 1] [2, 3, 4] [7, 10, 12, 53, 54, 55, 70, 71, 72, 75, 76] (L' := [(7, .slice A7_q24 o22.length c7_q24), (10, .pointer (some ⟨b47, 0, none⟩)), (12, .slice A12_l2 x12_l2.length c12_l2), (53, .slice A2 l2.length c2), (54, .int .i64 (l2.length : Int)), (55, .int .i64 x55_l2), (70, .pointer (some ⟨b47, 0, none⟩)), (71, .int .i64 (wi (Int.tmod (IntKind.wrap .u64 v50) (IntKind.wrap .u64 (o22.length : Int))))), (72, .int .i64 r54.1), (75, .slice A12_l2 x12_l2.length c12_l2), (76, .int .i64 (wi (Int.tmod (IntKind.wrap .u64 v50) (IntKind.wrap .u64 (o22.length : Int)))))]) (w' := w61) (by kernel_rfl) ?_
          refine WR.st (St.box hS (by kernel_rfl) (.cells #[.int .i64 (wi (Int.tmod (IntKind.wrap .u64 v50) (IntKind.wrap .u64 (o22.length : Int))))] 3) (fun b64 => .slice (some ⟨b64, 0, none⟩) 1 1) (fun _ => by kernel_rfl) (fun b64 w65 hS => ?_))
          refine WR.runk [] [3, 4] [7, 10, 12, 53, 54, 55, 70, 71, 72, 75, 77] (L' := [(7, .slice A7_q24 o22.length c7_q24), (10, .pointer (some ⟨b47, 0, none⟩)), (12, .slice A12_l2 x12_l2.length c12_l2), (53, .slice A2 l2.length c2), (54, .int .i64 (l2.length : Int)), (55, .int .i64 x55_l2), (70, .pointer (some ⟨b47, 0, none⟩)), (71, .int .i64 (wi (Int.tmod (IntKind.wrap .u64 v50) (IntKind.wrap .u64 (o22.length : Int))))), (72, .int .i64 r54.1), (75, .slice A12_l2 x12_l2.length c12_l2), (77, .slice (some ⟨b64, 0, none⟩) 1 1)]) (w' := w65) (by kernel_rfl) ?_
          have hS : Sat w65 (rf w0) [osl 3 (r0 (.int .i64)) 1 A12_l2 c12_l2 x12_l2, pts b64 (.cells #[.int .i64 (wi (Int.tmod (IntKind.wrap .u64 v50) (IntKind.wrap .u64 (o22.length : Int))))] 3 (0, 0)), O49 b47 r54.2, osl 27 (r0 (.pair (.int .i64) (.int .i64))) 2 A7_q24 c7_q24 o22] := hS.sel [3, 0, 1, 2] (by kernel_rfl)
          obtain ⟨y67, e66, H⟩ := bind_ex H
          refine WR.st (St.append' (.tmp 75) (.tmp 77) (by kernel_rfl) (by kernel_rfl) E23 (r0_one _) hS (by kernel_rfl) (by kernel_rfl) (Sat.ptsAt 1 (r0 (.int .i64)) 1 ([wi (Int.tmod (IntKind.wrap .u64 v50) (IntKind.wrap .u64 (o22.length : Int)))] : List Int) hS rfl rfl (rdL.cons1 rfl (rdL.nil _ _))) 17592186044416 (by kernel_rfl) (by kernel_rfl) e66 (fun A68 c69 w70 hS => ?_))
          refine WR.runk [4] [] [7, 10, 12, 53, 54, 55, 70, 71, 72] (L' := [(7, .slice A7_q24 o22.length c7_q24), (10, .pointer (some ⟨b47, 0, none⟩)), (12, .slice A68 y67.length c69), (53, .slice A2 l2.length c2), (54, .int .i64 (l2.length : Int)), (55, .int .i64 x55_l2), (70, .pointer (some ⟨b47, 0, none⟩)), (71, .int .i64 (wi (Int.tmod (IntKind.wrap .u64 v50) (IntKind.wrap .u64 (o22.length : Int))))), (72, .int .i64 r54.1)]) (w' := w70) (by kernel_rfl) ?_
          refine WR.nil ?_
          refine At.blockNormal ?_
          refine At.go ?_
          refine WC.reg [0, 1] (by kernel_rfl) (by kernel_rfl) ?_
          refine WR.runk [0, 1] [] [7, 10, 12, 53, 54, 55, 70, 71, 72] (L' := [(7, .slice A7_q24 o22.length c7_q24), (10, .pointer (some ⟨b47, 0, none⟩)), (12, .slice A68 y67.length c69), (53, .slice A2 l2.length c2), (54, .int .i64 (l2.length : Int)), (55, .int .i64 (wi (x55_l2 + 1))), (70, .pointer (some ⟨b47, 0, none⟩)), (71, .int .i64 (wi (Int.tmod (IntKind.wrap .u64 v50) (IntKind.wrap .u64 (o22.length : Int))))), (72, .int .i64 r54.1)]) (w' := w70) (by kernel_rfl) ?_
          refine WR.nil ?_
          have hS : Sat w70 (rf w0) [osl 27 (r0 (.pair (.int .i64) (.int .i64))) 2 A7_q24 c7_q24 o22, osl 3 (r0 (.int .i64)) 1 A68 c69 y67, O49 b47 r54.2] := hS.sel [3, 0, 2] (by kernel_rfl)
          refine At.again ?_
          refine WL.weaken [7, 10, 12, 53, 54, 55] (L' := [(7, .slice A7_q24 o22.length c7_q24), (10, .pointer (some ⟨b47, 0, none⟩)), (12, .slice A68 y67.length c69), (53, .slice A2 l2.length c2), (54, .int .i64 (l2.length : Int)), (55, .int .i64 (wi (x55_l2 + 1)))]) (by kernel_rfl) ?_
          exact ih y67 (wi (x55_l2 + 1)) r54.2 A68 c69 _ hS H
        · replace H := ite_f H hb63
          refine WC.skip (by kernel_rfl) ?_
          refine At.blockNormal ?_
          refine At.go ?_
          refine WC.reg [0, 1] (by kernel_rfl) (by kernel_rfl) ?_
          refine WR.runk [0, 1] [] [7, 10, 12, 53, 54, 55, 70, 71, 72] (L' := [(7, .slice A7_q24 o22.length c7_q24), (10, .pointer (some ⟨b47, 0, none⟩)), (12, .slice A12_l2 x12_l2.length c12_l2), (53, .slice A2 l2.length c2), (54, .int .i64 (l2.length : Int)), (55, .int .i64 (wi (x55_l2 + 1))), (70, .pointer (some ⟨b47, 0, none⟩)), (71, .int .i64 (wi (Int.tmod (IntKind.wrap .u64 v50) (IntKind.wrap .u64 (o22.length : Int))))), (72, .int .i64 r54.1)]) (w' := w61) (by kernel_rfl) ?_
          refine WR.nil ?_
          have hS : Sat w61 (rf w0) [osl 27 (r0 (.pair (.int .i64) (.int .i64))) 2 A7_q24 c7_q24 o22, osl 3 (r0 (.int .i64)) 1 A12_l2 c12_l2 x12_l2, O49 b47 r54.2] := hS.sel [1, 2, 0] (by kernel_rfl)
          refine At.again ?_
          refine WL.weaken [7, 10, 12, 53, 54, 55] (L' := [(7, .slice A7_q24 o22.length c7_q24), (10, .pointer (some ⟨b47, 0, none⟩)), (12, .slice A12_l2 x12_l2.length c12_l2), (53, .slice A2 l2.length c2), (54, .int .i64 (l2.length : Int)), (55, .int .i64 (wi (x55_l2 + 1)))]) (by kernel_rfl) ?_
          exact ih x12_l2 (wi (x55_l2 + 1)) r54.2 A12_l2 c12_l2 _ hS H
      · replace H := ite_f H hb53
        refine WR.runk [3, 4, 5, 6, 7] [] [7, 10, 12, 15, 53, 54, 55, 70, 71, 72, 73, 74] (L' := [(7, .slice A7_q24 o22.length c7_q24), (10, .pointer (some ⟨b47, 0, none⟩)), (12, .slice A12_l2 x12_l2.length c12_l2), (15, .int .i64 (wi (Int.tmod (IntKind.wrap .u64 v50) (IntKind.wrap .u64 (o22.length : Int))))), (53, .slice A2 l2.length c2), (54, .int .i64 (l2.length : Int)), (55, .int .i64 x55_l2), (70, undef), (71, undef), (72, undef), (73, undef), (74, .bool false)]) (w' := w) (by kernel_rfl) ?_
        refine WR.nil ?_
        refine At.go ?_
        refine WC.condF (by kernel_rfl) (by kernel_rfl) (by kernel_rfl) ?_
        refine WC.skip (by kernel_rfl) ?_
        refine At.blockNormal ?_
        refine At.go ?_
        refine WC.reg [0, 1] (by kernel_rfl) (by kernel_rfl) ?_
        refine WR.runk [0, 1] [] [7, 10, 12, 53, 54, 55, 70, 71, 72, 73] (L' := [(7, .slice A7_q24 o22.length c7_q24), (10, .pointer (some ⟨b47, 0, none⟩)), (12, .slice A12_l2 x12_l2.length c12_l2), (53, .slice A2 l2.length c2), (54, .int .i64 (l2.length : Int)), (55, .int .i64 (wi (x55_l2 + 1))), (70, undef), (71, undef), (72, undef), (73, undef)]) (w' := w) (by kernel_rfl) ?_
        refine WR.nil ?_
        have hS : Sat w (rf w0) [osl 27 (r0 (.pair (.int .i64) (.int .i64))) 2 A7_q24 c7_q24 o22, osl 3 (r0 (.int .i64)) 1 A12_l2 c12_l2 x12_l2, O49 b47 q48_l2] := hS.sel [0, 1, 2] (by kernel_rfl)
        refine At.again ?_
        refine WL.weaken [7, 10, 12, 53, 54, 55] (L' := [(7, .slice A7_q24 o22.length c7_q24), (10, .pointer (some ⟨b47, 0, none⟩)), (12, .slice A12_l2 x12_l2.length c12_l2), (53, .slice A2 l2.length c2), (54, .int .i64 (l2.length : Int)), (55, .int .i64 (wi (x55_l2 + 1)))]) (by kernel_rfl) ?_
        exact ih x12_l2 (wi (x55_l2 + 1)) q48_l2 A12_l2 c12_l2 _ hS H
    · replace H := ite_f H hb49
      refine WC.exit (by kernel_rfl) ?_
      refine At.thenExit ?_
      refine At.thenExit ?_
      obtain rfl := Option.some.inj H
      have hS : Sat w (rf w0) [osl 27 (r0 (.pair (.int .i64) (.int .i64))) 2 A7_q24 c7_q24 o22, osl 3 (r0 (.int .i64)) 1 A12_l2 c12_l2 x12_l2, O49 b47 q48_l2] := hS.sel [0, 1, 2] (by kernel_rfl)
      refine At.weaken [7, 10, 12] (L' := [(7, .slice A7_q24 o22.length c7_q24), (10, .pointer (some ⟨b47, 0, none⟩)), (12, .slice A12_l2 x12_l2.length c12_l2)]) (by kernel_rfl) ?_
      exact hn0 A12_l2 c12_l2 _ hS
theorem colophonlaw22_QuotaBack.l3_ok {Q} (w0 : World) (o22 : (List (Int × Int))) (A7_q24 : Option Addr) (c7_q24 : Nat) (b47 : Nat) (o71 : (List Int) × (Int × (List (Int × Int)) × (List (Int × Int)))) (A12_q73 : Option Addr) (c12_q73 : Nat) (out : Sum (Bool × (Int × (List (Int × Int)) × (List (Int × Int)))) (Int × (List (Int × Int)) × (List (Int × Int)))) (hn0 : ∀ (o0 : Bool × (Int × (List (Int × Int)) × (List (Int × Int)))) (w : World), out = (.inl o0) → Sat w (rf w0) [O49 b47 o0.2] → At Q .ret 130 [(6, .bool o0.1)] w) (hn1 : ∀ (o1 : (Int × (List (Int × Int)) × (List (Int × Int)))) (w : World), out = (.inr o1) → Sat w (rf w0) [osl 27 (r0 (.pair (.int .i64) (.int .i64))) 2 A7_q24 c7_q24 o22, O49 b47 o1] → At Q (.exit 4) 130 [(7, .slice A7_q24 o22.length c7_q24), (10, .pointer (some ⟨b47, 0, none⟩))] w) :
    ∀ (k : Nat) (x87_l3 : Int) (q48_l3 : Int × (List (Int × Int)) × (List (Int × Int))) (w : World), Sat w (rf w0) [osl 27 (r0 (.pair (.int .i64) (.int .i64))) 2 A7_q24 c7_q24 o22, osl 3 (r0 (.int .i64)) 1 A12_q73 c12_q73 o71.1, O49 b47 q48_l3] → colophonlaw22_QuotaBack.l3 o71 k x87_l3 q48_l3 = some out → WL Try.prog (cbody (cbody (cr (cl (cr (cr (cr (cr (cr (cr (cr (cr (cr C3))))))))))))) Q 130 [(7, .slice A7_q24 o22.length c7_q24), (10, .pointer (some ⟨b47, 0, none⟩)), (12, .slice A12_q73 o71.1.length c12_q73), (86, .int .i64 (o71.1.length : Int)), (87, .int .i64 x87_l3)] w := by
  intro k
  induction k with
  | zero => intro x87_l3 q48_l3 w hS H; exact absurd (show none = some out from H) (by simp)
  | succ k ih =>
    intro x87_l3 q48_l3 w hS H
    unfold colophonlaw22_QuotaBack.l3 at H
    refine WL.round ?_
    refine WC.seq (by kernel_rfl) ?_
    refine WC.reg [0] (by kernel_rfl) (by kernel_rfl) ?_
    refine WR.runk [0] [] [7, 10, 12, 86, 87, 88] (L' := [(7, .slice A7_q24 o22.length c7_q24), (10, .pointer (some ⟨b47, 0, none⟩)), (12, .slice A12_q73 o71.1.length c12_q73), (86, .int .i64 (o71.1.length : Int)), (87, .int .i64 x87_l3), (88, .bool (decide (x87_l3 < (o71.1.length : Int))))]) (w' := w) (by kernel_rfl) ?_
    refine WR.nil ?_
    refine At.go ?_
    refine WC.seq (by kernel_rfl) ?_
    refine WC.cond (by kernel_rfl) (decide (x87_l3 < (o71.1.length : Int))) (by kernel_rfl) (by kernel_rfl) (fun hb86 => ?_) (fun hb86 => ?_)
    · replace H := ite_t H hb86
      refine WC.skip (by kernel_rfl) ?_
      refine At.go ?_
      refine WC.seq (by kernel_rfl) ?_
      refine WC.block (by kernel_rfl) ?_
      refine WC.seq (by kernel_rfl) ?_
      refine WC.reg [0, 1] (by kernel_rfl) (by kernel_rfl) ?_
      refine WR.runk [0, 1] [] [7, 10, 12, 16, 86, 87] (L' := [(7, .slice A7_q24 o22.length c7_q24), (10, .pointer (some ⟨b47, 0, none⟩)), (12, .slice A12_q73 o71.1.length c12_q73), (16, .int .i64 x87_l3), (86, .int .i64 (o71.1.length : Int)), (87, .int .i64 x87_l3)]) (w' := w) (by kernel_rfl) ?_
      refine WR.nil ?_
      refine At.go ?_
      refine WC.seq (by kernel_rfl) ?_
      refine WC.reg [0, 1, 2, 3, 4, 5, 6, 7, 8, 9] (by kernel_rfl) (by kernel_rfl) ?_
      refine WR.runk [0, 1, 2, 3, 4, 5] [6, 7, 8, 9] [7, 10, 12, 16, 86, 87, 90, 93, 95] (L' := [(7, .slice A7_q24 o22.length c7_q24), (10, .pointer (some ⟨b47, 0, none⟩)), (12, .slice A12_q73 o71.1.length c12_q73), (16, .int .i64 x87_l3), (86, .int .i64 (o71.1.length : Int)), (87, .int .i64 x87_l3), (90, .slice A12_q73 o71.1.length c12_q73), (93, .int .i64 (wi ((wi (x87_l3 * 7)) + 3))), (95, .int .i64 (o71.1.length : Int))]) (w' := w) (by kernel_rfl) ?_
      obtain ⟨_, e87, H⟩ := bind_ex H
      refine WR.st (St.ofP (PSt.div (k := .i64) (t := 3) (t2 := 3) (a := (wi ((wi (x87_l3 * 7)) + 3))) (b := (o71.1.length : Int)) .rem (by decide) (.tmp 93) (.tmp 95) (by kernel_rfl) (by kernel_rfl) (by kernel_rfl) (by kernel_rfl) (of_decide_eq_true (chk?_some e87)) ?_))
      refine WR.runk [] [7, 8, 9] [7, 10, 12, 16, 86, 87, 90, 96] (L' := [(7, .slice A7_q24 o22.length c7_q24), (10, .pointer (some ⟨b47, 0, none⟩)), (12, .slice A12_q73 o71.1.length c12_q73), (16, .int .i64 x87_l3), (86, .int .i64 (o71.1.length : Int)), (87, .int .i64 x87_l3), (90, .slice A12_q73 o71.1.length c12_q73), (96, .int .i64 (Int.tmod (wi ((wi (x87_l3 * 7)) + 3)) (o71.1.length : Int)))]) (w' := w) (by kernel_rfl) ?_
      obtain ⟨v88, e89, H⟩ := bind_ex H
      refine WR.st (St.ofP (PSt.idx (k := .i64) (.tmp 90) (.tmp 96) (by kernel_rfl) (by kernel_rfl) E23 (by kernel_rfl) (by kernel_rfl) (Sat.rdAt 1 hS rfl) e89 ?_))
      refine WR.runk [] [8, 9] [7, 10, 12, 16, 86, 87, 97] (L' := [(7, .slice A7_q24 o22.length c7_q24), (10, .pointer (some ⟨b47, 0, none⟩)), (12, .slice A12_q73 o71.1.length c12_q73), (16, .int .i64 x87_l3), (86, .int .i64 (o71.1.length : Int)), (87, .int .i64 x87_l3), (97, .pointer (some (adr A12_q73 (Int.tmod (wi ((wi (x87_l3 * 7)) + 3)) (o71.1.length : Int)).toNat 1)))]) (w' := w) (by kernel_rfl) ?_
      refine WR.st (St.ofR (RSt.loadInt (t := 3) (.tmp 97) (by kernel_rfl) (by kernel_rfl) (by kernel_rfl) (by kernel_rfl) (Sat.rdAt 1 hS rfl) e89 ?_))
      refine WR.runk [9] [] [7, 10, 12, 16, 17, 86, 87] (L' := [(7, .slice A7_q24 o22.length c7_q24), (10, .pointer (some ⟨b47, 0, none⟩)), (12, .slice A12_q73 o71.1.length c12_q73), (16, .int .i64 x87_l3), (17, .int .i64 v88), (86, .int .i64 (o71.1.length : Int)), (87, .int .i64 x87_l3)]) (w' := w) (by kernel_rfl) ?_
      refine WR.nil ?_
      refine At.go ?_
      refine WC.seq (by kernel_rfl) ?_
      refine WC.seq (by kernel_rfl) ?_
      refine WC.reg [0, 1, 2, 3] (by kernel_rfl) (by kernel_rfl) ?_
      refine WR.runk [0, 1, 2, 3] [] [7, 10, 12, 16, 17, 86, 87, 102] (L' := [(7, .slice A7_q24 o22.length c7_q24), (10, .pointer (some ⟨b47, 0, none⟩)), (12, .slice A12_q73 o71.1.length c12_q73), (16, .int .i64 x87_l3), (17, .int .i64 v88), (86, .int .i64 (o71.1.length : Int)), (87, .int .i64 x87_l3), (102, .bool ((Int.tmod (o71.1.length : Int) 7) == 0))]) (w' := w) (by kernel_rfl) ?_
      refine WR.nil ?_
      refine At.go ?_
      refine WC.cond (by kernel_rfl) ((Int.tmod (o71.1.length : Int) 7) == 0) (by kernel_rfl) (by kernel_rfl) (fun hb90 => ?_) (fun hb90 => ?_)
      · replace H := ite_t H hb90
        refine WC.reg [0, 1, 2, 3, 4] (by kernel_rfl) (by kernel_rfl) ?_
        refine WR.runk [0, 1] [2, 3, 4] [7, 10, 12, 17, 86, 87, 103, 104] (L' := [(7, .slice A7_q24 o22.length c7_q24), (10, .pointer (some ⟨b47, 0, none⟩)), (12, .slice A12_q73 o71.1.length c12_q73), (17, .int .i64 v88), (86, .int .i64 (o71.1.length : Int)), (87, .int .i64 x87_l3), (103, .slice A12_q73 o71.1.length c12_q73), (104, .int .i64 x87_l3)]) (w' := w) (by kernel_rfl) ?_
        obtain ⟨v91, e92, H⟩ := bind_ex H
        refine WR.st (St.ofP (PSt.idx (k := .i64) (.tmp 103) (.tmp 104) (by kernel_rfl) (by kernel_rfl) E23 (by kernel_rfl) (by kernel_rfl) (Sat.rdAt 1 hS rfl) e92 ?_))
        refine WR.runk [] [3, 4] [7, 10, 12, 17, 86, 87, 105] (L' := [(7, .slice A7_q24 o22.length c7_q24), (10, .pointer (some ⟨b47, 0, none⟩)), (12, .slice A12_q73 o71.1.length c12_q73), (17, .int .i64 v88), (86, .int .i64 (o71.1.length : Int)), (87, .int .i64 x87_l3), (105, .pointer (some (adr A12_q73 x87_l3.toNat 1)))]) (w' := w) (by kernel_rfl) ?_
        refine WR.st (St.ofR (RSt.loadInt (t := 3) (.tmp 105) (by kernel_rfl) (by kernel_rfl) (by kernel_rfl) (by kernel_rfl) (Sat.rdAt 1 hS rfl) e92 ?_))
        refine WR.runk [4] [] [7, 10, 12, 17, 86, 87] (L' := [(7, .slice A7_q24 o22.length c7_q24), (10, .pointer (some ⟨b47, 0, none⟩)), (12, .slice A12_q73 o71.1.length c12_q73), (17, .int .i64 v91), (86, .int .i64 (o71.1.length : Int)), (87, .int .i64 x87_l3)]) (w' := w) (by kernel_rfl) ?_
        refine WR.nil ?_
        refine At.go ?_
        refine WC.seq (by kernel_rfl) ?_
        refine WC.reg [0, 1, 2, 3] (by kernel_rfl) (by kernel_rfl) ?_
        refine WR.runk [0, 1] [2, 3] [7, 10, 12, 86, 87, 107, 108] (L' := [(7, .slice A7_q24 o22.length c7_q24), (10, .pointer (some ⟨b47, 0, none⟩)), (12, .slice A12_q73 o71.1.length c12_q73), (86, .int .i64 (o71.1.length : Int)), (87, .int .i64 x87_l3), (107, .pointer (some ⟨b47, 0, none⟩)), (108, .int .i64 v91)]) (w' := w) (by kernel_rfl) ?_
        have hS : Sat w (rf w0) [O49 b47 q48_l3, osl 27 (r0 (.pair (.int .i64) (.int .i64))) 2 A7_q24 c7_q24 o22, osl 3 (r0 (.int .i64)) 1 A12_q73 c12_q73 o71.1] := hS.sel [2, 0, 1] (by kernel_rfl)
        obtain ⟨r93, e94, H⟩ := bind_ex H
        obtain ⟨B99, hso98, hsub96, hcs97, hb95⟩ := Sat.lend [O49 b47 q48_l3] (cs := [osl 27 (r0 (.pair (.int .i64) (.int .i64))) 2 A7_q24 c7_q24 o22, osl 3 (r0 (.int .i64)) 1 A12_q73 c12_q73 o71.1]) hS
        refine WR.st (St.call (by kernel_rfl) (f := 9) (args := #[.pointer (some ⟨b47, 0, none⟩), .int .i64 v91]) (by kernel_rfl) (quota_Gate_Leave.calls B99 w b47 q48_l3 hso98 v91 r93 e94) ?_)
        rintro _ w100 ⟨rfl, hS101⟩
        have hS : Sat w100 (rf w0) [O49 b47 r93.2, osl 27 (r0 (.pair (.int .i64) (.int .i64))) 2 A7_q24 c7_q24 o22, osl 3 (r0 (.int .i64)) 1 A12_q73 c12_q73 o71.1] := hb95 _ _ hS101
        refine WR.runk [3] [] [7, 10, 12, 86, 87, 110] (L' := [(7, .slice A7_q24 o22.length c7_q24), (10, .pointer (some ⟨b47, 0, none⟩)), (12, .slice A12_q73 o71.1.length c12_q73), (86, .int .i64 (o71.1.length : Int)), (87, .int .i64 x87_l3), (110, .bool (!r93.1))]) (w' := w100) (by kernel_rfl) ?_
        refine WR.nil ?_
        refine At.go ?_
        refine WC.cond (by kernel_rfl) (!r93.1) (by kernel_rfl) (by kernel_rfl) (fun hb102 => ?_) (fun hb102 => ?_)
        · replace H := ite_t H hb102
          refine WC.seq (by kernel_rfl) ?_
          refine WC.reg [0] (by kernel_rfl) (by kernel_rfl) ?_
          refine WR.runk [0] [] [6] (L' := [(6, .bool false)]) (w' := w100) (by kernel_rfl) ?_
          refine WR.nil ?_
          refine At.go ?_
          refine WC.ret (by kernel_rfl) ?_
          refine At.blockRet ?_
          refine At.thenRet ?_
          refine At.thenRet ?_
          obtain rfl := Option.some.inj H
          have hS : Sat w100 (rf w0) [O49 b47 r93.2] := hS.sel [0] (by kernel_rfl)
          refine At.weaken [6] (L' := [(6, .bool false)]) (by kernel_rfl) ?_
          exact hn0 (false, r93.2) _ rfl hS
        · replace H := ite_f H hb102
          refine WC.skip (by kernel_rfl) ?_
          refine At.blockNormal ?_
          refine At.go ?_
          refine WC.reg [0, 1] (by kernel_rfl) (by kernel_rfl) ?_
          refine WR.runk [0, 1] [] [7, 10, 12, 86, 87] (L' := [(7, .slice A7_q24 o22.length c7_q24), (10, .pointer (some ⟨b47, 0, none⟩)), (12, .slice A12_q73 o71.1.length c12_q73), (86, .int .i64 (o71.1.length : Int)), (87, .int .i64 (wi (x87_l3 + 1)))]) (w' := w100) (by kernel_rfl) ?_
          refine WR.nil ?_
          have hS : Sat w100 (rf w0) [osl 27 (r0 (.pair (.int .i64) (.int .i64))) 2 A7_q24 c7_q24 o22, osl 3 (r0 (.int .i64)) 1 A12_q73 c12_q73 o71.1, O49 b47 r93.2] := hS.sel [1, 2, 0] (by kernel_rfl)
          refine At.again ?_
          refine WL.weaken [7, 10, 12, 86, 87] (L' := [(7, .slice A7_q24 o22.length c7_q24), (10, .pointer (some ⟨b47, 0, none⟩)), (12, .slice A12_q73 o71.1.length c12_q73), (86, .int .i64 (o71.1.length : Int)), (87, .int .i64 (wi (x87_l3 + 1)))]) (by kernel_rfl) ?_
          exact ih (wi (x87_l3 + 1)) r93.2 _ hS H
      · replace H := ite_f H hb90
        refine WC.skip (by kernel_rfl) ?_
        refine At.go ?_
        refine WC.seq (by kernel_rfl) ?_
        refine WC.reg [0, 1, 2, 3] (by kernel_rfl) (by kernel_rfl) ?_
        refine WR.runk [0, 1] [2, 3] [7, 10, 12, 86, 87, 107, 108] (L' := [(7, .slice A7_q24 o22.length c7_q24), (10, .pointer (some ⟨b47, 0, none⟩)), (12, .slice A12_q73 o71.1.length c12_q73), (86, .int .i64 (o71.1.length : Int)), (87, .int .i64 x87_l3), (107, .pointer (some ⟨b47, 0, none⟩)), (108, .int .i64 v88)]) (w' := w) (by kernel_rfl) ?_
        have hS : Sat w (rf w0) [O49 b47 q48_l3, osl 27 (r0 (.pair (.int .i64) (.int .i64))) 2 A7_q24 c7_q24 o22, osl 3 (r0 (.int .i64)) 1 A12_q73 c12_q73 o71.1] := hS.sel [2, 0, 1] (by kernel_rfl)
        obtain ⟨r103, e104, H⟩ := bind_ex H
        obtain ⟨B109, hso108, hsub106, hcs107, hb105⟩ := Sat.lend [O49 b47 q48_l3] (cs := [osl 27 (r0 (.pair (.int .i64) (.int .i64))) 2 A7_q24 c7_q24 o22, osl 3 (r0 (.int .i64)) 1 A12_q73 c12_q73 o71.1]) hS
        refine WR.st (St.call (by kernel_rfl) (f := 9) (args := #[.pointer (some ⟨b47, 0, none⟩), .int .i64 v88]) (by kernel_rfl) (quota_Gate_Leave.calls B109 w b47 q48_l3 hso108 v88 r103 e104) ?_)
        rintro _ w110 ⟨rfl, hS111⟩
        have hS : Sat w110 (rf w0) [O49 b47 r103.2, osl 27 (r0 (.pair (.int .i64) (.int .i64))) 2 A7_q24 c7_q24 o22, osl 3 (r0 (.int .i64)) 1 A12_q73 c12_q73 o71.1] := hb105 _ _ hS111
        refine WR.runk [3] [] [7, 10, 12, 86, 87, 110] (L' := [(7, .slice A7_q24 o22.length c7_q24), (10, .pointer (some ⟨b47, 0, none⟩)), (12, .slice A12_q73 o71.1.length c12_q73), (86, .int .i64 (o71.1.length : Int)), (87, .int .i64 x87_l3), (110, .bool (!r103.1))]) (w' := w110) (by kernel_rfl) ?_
        refine WR.nil ?_
        refine At.go ?_
        refine WC.cond (by kernel_rfl) (!r103.1) (by kernel_rfl) (by kernel_rfl) (fun hb112 => ?_) (fun hb112 => ?_)
        · replace H := ite_t H hb112
          refine WC.seq (by kernel_rfl) ?_
          refine WC.reg [0] (by kernel_rfl) (by kernel_rfl) ?_
          refine WR.runk [0] [] [6] (L' := [(6, .bool false)]) (w' := w110) (by kernel_rfl) ?_
          refine WR.nil ?_
          refine At.go ?_
          refine WC.ret (by kernel_rfl) ?_
          refine At.blockRet ?_
          refine At.thenRet ?_
          refine At.thenRet ?_
          obtain rfl := Option.some.inj H
          have hS : Sat w110 (rf w0) [O49 b47 r103.2] := hS.sel [0] (by kernel_rfl)
          refine At.weaken [6] (L' := [(6, .bool false)]) (by kernel_rfl) ?_
          exact hn0 (false, r103.2) _ rfl hS
        · replace H := ite_f H hb112
          refine WC.skip (by kernel_rfl) ?_
          refine At.blockNormal ?_
          refine At.go ?_
          refine WC.reg [0, 1] (by kernel_rfl) (by kernel_rfl) ?_
          refine WR.runk [0, 1] [] [7, 10, 12, 86, 87] (L' := [(7, .slice A7_q24 o22.length c7_q24), (10, .pointer (some ⟨b47, 0, none⟩)), (12, .slice A12_q73 o71.1.length c12_q73), (86, .int .i64 (o71.1.length : Int)), (87, .int .i64 (wi (x87_l3 + 1)))]) (w' := w110) (by kernel_rfl) ?_
          refine WR.nil ?_
          have hS : Sat w110 (rf w0) [osl 27 (r0 (.pair (.int .i64) (.int .i64))) 2 A7_q24 c7_q24 o22, osl 3 (r0 (.int .i64)) 1 A12_q73 c12_q73 o71.1, O49 b47 r103.2] := hS.sel [1, 2, 0] (by kernel_rfl)
          refine At.again ?_
          refine WL.weaken [7, 10, 12, 86, 87] (L' := [(7, .slice A7_q24 o22.length c7_q24), (10, .pointer (some ⟨b47, 0, none⟩)), (12, .slice A12_q73 o71.1.length c12_q73), (86, .int .i64 (o71.1.length : Int)), (87, .int .i64 (wi (x87_l3 + 1)))]) (by kernel_rfl) ?_
          exact ih (wi (x87_l3 + 1)) r103.2 _ hS H
    · replace H := ite_f H hb86
      refine WC.exit (by kernel_rfl) ?_
      refine At.thenExit ?_
      refine At.thenExit ?_
      obtain rfl := Option.some.inj H
      have hS : Sat w (rf w0) [osl 27 (r0 (.pair (.int .i64) (.int .i64))) 2 A7_q24 c7_q24 o22, O49 b47 q48_l3] := hS.sel [0, 2] (by kernel_rfl)
      refine At.weaken [7, 10] (L' := [(7, .slice A7_q24 o22.length c7_q24), (10, .pointer (some ⟨b47, 0, none⟩))]) (by kernel_rfl) ?_
      exact hn1 q48_l3 _ rfl hS
theorem colophonlaw22_QuotaBack.l4_ok {Q} (w0 : World) (o22 : (List (Int × Int))) (b47 : Nat) (out : Sum (Bool × (Int × (List (Int × Int)) × (List (Int × Int)))) (Int × (List (Int × Int)) × (List (Int × Int)))) (hn0 : ∀ (o0 : Bool × (Int × (List (Int × Int)) × (List (Int × Int)))) (w : World), out = (.inl o0) → Sat w (rf w0) [O49 b47 o0.2] → At Q .ret 130 [(6, .bool o0.1)] w) (hn1 : ∀ (o1 : (Int × (List (Int × Int)) × (List (Int × Int)))) (w : World), out = (.inr o1) → Sat w (rf w0) [O49 b47 o1] → At Q (.exit 6) 130 [(10, .pointer (some ⟨b47, 0, none⟩))] w) :
    ∀ (k : Nat) (x114_l4 : Int) (q48_l4 : Int × (List (Int × Int)) × (List (Int × Int))) (w : World), Sat w (rf w0) [O49 b47 q48_l4] → colophonlaw22_QuotaBack.l4 o22 k x114_l4 q48_l4 = some out → WL Try.prog (cbody (cbody (cr (cl (cr (cr (cr (cr (cr (cr (cr (cr (cr (cr C3)))))))))))))) Q 130 [(10, .pointer (some ⟨b47, 0, none⟩)), (113, .int .i64 (o22.length : Int)), (114, .int .i64 x114_l4)] w := by
  intro k
  induction k with
  | zero => intro x114_l4 q48_l4 w hS H; exact absurd (show none = some out from H) (by simp)
  | succ k ih =>
    intro x114_l4 q48_l4 w hS H
    unfold colophonlaw22_QuotaBack.l4 at H
    refine WL.round ?_
    refine WC.seq (by kernel_rfl) ?_
    refine WC.reg [0] (by kernel_rfl) (by kernel_rfl) ?_
    refine WR.runk [0] [] [10, 113, 114, 115] (L' := [(10, .pointer (some ⟨b47, 0, none⟩)), (113, .int .i64 (o22.length : Int)), (114, .int .i64 x114_l4), (115, .bool (decide (x114_l4 < (o22.length : Int))))]) (w' := w) (by kernel_rfl) ?_
    refine WR.nil ?_
    refine At.go ?_
    refine WC.seq (by kernel_rfl) ?_
    refine WC.cond (by kernel_rfl) (decide (x114_l4 < (o22.length : Int))) (by kernel_rfl) (by kernel_rfl) (fun hb123 => ?_) (fun hb123 => ?_)
    · replace H := ite_t H hb123
      refine WC.skip (by kernel_rfl) ?_
      refine At.go ?_
      refine WC.seq (by kernel_rfl) ?_
      refine WC.block (by kernel_rfl) ?_
      refine WC.seq (by kernel_rfl) ?_
      refine WC.reg [0, 1] (by kernel_rfl) (by kernel_rfl) ?_
      refine WR.runk [0, 1] [] [10, 18, 113, 114] (L' := [(10, .pointer (some ⟨b47, 0, none⟩)), (18, .int .i64 x114_l4), (113, .int .i64 (o22.length : Int)), (114, .int .i64 x114_l4)]) (w' := w) (by kernel_rfl) ?_
      refine WR.nil ?_
      refine At.go ?_
      refine WC.seq (by kernel_rfl) ?_
      refine WC.reg [0, 1, 2, 3, 4, 5, 6, 7, 8] (by kernel_rfl) (by kernel_rfl) ?_
      refine WR.runk [0, 1] [2, 3, 4, 5, 6, 7, 8] [10, 18, 113, 114, 117, 118] (L' := [(10, .pointer (some ⟨b47, 0, none⟩)), (18, .int .i64 x114_l4), (113, .int .i64 (o22.length : Int)), (114, .int .i64 x114_l4), (117, .pointer (some ⟨b47, 0, none⟩)), (118, .int .i64 x114_l4)]) (w' := w) (by kernel_rfl) ?_
      obtain ⟨r124, e125, H⟩ := bind_ex H
      obtain ⟨B130, hso129, hsub127, hcs128, hb126⟩ := Sat.lend [O49 b47 q48_l4] (cs := []) hS
      refine WR.st (St.call (by kernel_rfl) (f := 10) (args := #[.pointer (some ⟨b47, 0, none⟩), .int .i64 x114_l4]) (by kernel_rfl) (quota_Gate_Live.calls B130 w b47 q48_l4 hso129 x114_l4 r124 e125) ?_)
      rintro _ w131 ⟨rfl, hS132⟩
      have hS : Sat w131 (rf w0) [O49 b47 q48_l4] := hb126 _ _ hS132
      refine WR.runk [3, 4] [5, 6, 7, 8] [10, 18, 113, 114, 121] (L' := [(10, .pointer (some ⟨b47, 0, none⟩)), (18, .int .i64 x114_l4), (113, .int .i64 (o22.length : Int)), (114, .int .i64 x114_l4), (121, .bool (r124 != 0))]) (w' := w131) (by kernel_rfl) ?_
      refine WR.split 121 (b := (r124 != 0)) (by kernel_rfl) (fun hb133 => ?_) (fun hb133 => ?_)
      · replace H := ite_t H hb133
        refine WR.runk [5, 6, 7, 8] [] [10, 113, 114, 122, 123, 124, 125] (L' := [(10, .pointer (some ⟨b47, 0, none⟩)), (113, .int .i64 (o22.length : Int)), (114, .int .i64 x114_l4), (122, undef), (123, undef), (124, undef), (125, .bool true)]) (w' := w131) (by kernel_rfl) ?_
        refine WR.nil ?_
        refine At.go ?_
        refine WC.condT (by kernel_rfl) (by kernel_rfl) (by kernel_rfl) ?_
        refine WC.seq (by kernel_rfl) ?_
        refine WC.reg [0] (by kernel_rfl) (by kernel_rfl) ?_
        refine WR.runk [0] [] [6] (L' := [(6, .bool false)]) (w' := w131) (by kernel_rfl) ?_
        refine WR.nil ?_
        refine At.go ?_
        refine WC.ret (by kernel_rfl) ?_
        refine At.blockRet ?_
        refine At.thenRet ?_
        refine At.thenRet ?_
        obtain rfl := Option.some.inj H
        have hS : Sat w131 (rf w0) [O49 b47 q48_l4] := hS.sel [0] (by kernel_rfl)
        refine At.weaken [6] (L' := [(6, .bool false)]) (by kernel_rfl) ?_
        exact hn0 (false, q48_l4) _ rfl hS
      · replace H := ite_f H hb133
        refine WR.runk [5, 6] [7, 8] [10, 113, 114, 121, 122, 123] (L' := [(10, .pointer (some ⟨b47, 0, none⟩)), (113, .int .i64 (o22.length : Int)), (114, .int .i64 x114_l4), (121, .bool false), (122, .pointer (some ⟨b47, 0, none⟩)), (123, .int .i64 x114_l4)]) (w' := w131) (by kernel_rfl) ?_
        obtain ⟨r134, e135, H⟩ := bind_ex H
        obtain ⟨B140, hso139, hsub137, hcs138, hb136⟩ := Sat.lend [O49 b47 q48_l4] (cs := []) hS
        refine WR.st (St.call (by kernel_rfl) (f := 9) (args := #[.pointer (some ⟨b47, 0, none⟩), .int .i64 x114_l4]) (by kernel_rfl) (quota_Gate_Leave.calls B140 w131 b47 q48_l4 hso139 x114_l4 r134 e135) ?_)
        rintro _ w141 ⟨rfl, hS142⟩
        have hS : Sat w141 (rf w0) [O49 b47 r134.2] := hb136 _ _ hS142
        refine WR.runk [8] [] [10, 113, 114, 122, 123, 124, 125] (L' := [(10, .pointer (some ⟨b47, 0, none⟩)), (113, .int .i64 (o22.length : Int)), (114, .int .i64 x114_l4), (122, .pointer (some ⟨b47, 0, none⟩)), (123, .int .i64 x114_l4), (124, .bool r134.1), (125, .bool r134.1)]) (w' := w141) (by kernel_rfl) ?_
        refine WR.nil ?_
        refine At.go ?_
        refine WC.cond (by kernel_rfl) r134.1 (by kernel_rfl) (by kernel_rfl) (fun hb143 => ?_) (fun hb143 => ?_)
        · replace H := ite_t H hb143
          refine WC.seq (by kernel_rfl) ?_
          refine WC.reg [0] (by kernel_rfl) (by kernel_rfl) ?_
          refine WR.runk [0] [] [6] (L' := [(6, .bool false)]) (w' := w141) (by kernel_rfl) ?_
          refine WR.nil ?_
          refine At.go ?_
          refine WC.ret (by kernel_rfl) ?_
          refine At.blockRet ?_
          refine At.thenRet ?_
          refine At.thenRet ?_
          obtain rfl := Option.some.inj H
          have hS : Sat w141 (rf w0) [O49 b47 r134.2] := hS.sel [0] (by kernel_rfl)
          refine At.weaken [6] (L' := [(6, .bool false)]) (by kernel_rfl) ?_
          exact hn0 (false, r134.2) _ rfl hS
        · replace H := ite_f H hb143
          refine WC.skip (by kernel_rfl) ?_
          refine At.blockNormal ?_
          refine At.go ?_
          refine WC.reg [0, 1] (by kernel_rfl) (by kernel_rfl) ?_
          refine WR.runk [0, 1] [] [10, 113, 114, 122, 123] (L' := [(10, .pointer (some ⟨b47, 0, none⟩)), (113, .int .i64 (o22.length : Int)), (114, .int .i64 (wi (x114_l4 + 1))), (122, .pointer (some ⟨b47, 0, none⟩)), (123, .int .i64 x114_l4)]) (w' := w141) (by kernel_rfl) ?_
          refine WR.nil ?_
          have hS : Sat w141 (rf w0) [O49 b47 r134.2] := hS.sel [0] (by kernel_rfl)
          refine At.again ?_
          refine WL.weaken [10, 113, 114] (L' := [(10, .pointer (some ⟨b47, 0, none⟩)), (113, .int .i64 (o22.length : Int)), (114, .int .i64 (wi (x114_l4 + 1)))]) (by kernel_rfl) ?_
          exact ih (wi (x114_l4 + 1)) r134.2 _ hS H
    · replace H := ite_f H hb123
      refine WC.exit (by kernel_rfl) ?_
      refine At.thenExit ?_
      refine At.thenExit ?_
      obtain rfl := Option.some.inj H
      have hS : Sat w (rf w0) [O49 b47 q48_l4] := hS.sel [0] (by kernel_rfl)
      refine At.weaken [10] (L' := [(10, .pointer (some ⟨b47, 0, none⟩))]) (by kernel_rfl) ?_
      exact hn1 q48_l4 _ rfl hS
theorem colophonlaw22_QuotaBack.calls (w0 : World) (a0 : Int) (A1 : Option Addr) (c1 : Nat) (l1 : List Int) (R1 : rdS (r0 (.int .u8)) 1 (hp w0) A1 c1 l1) (A2 : Option Addr) (c2 : Nat) (l2 : List Int) (R2 : rdS (r0 (.int .i64)) 1 (hp w0) A2 c2 l2) (r : Bool) (H : colophonlaw22_QuotaBack.f a0 l1 l2 = some r) :
    Calls Try.prog 3 #[.int .i64 a0, .slice A1 l1.length c1, .slice A2 l2.length c2] w0 (fun e w' => ∃ v, e = .returned v ∧ colophonlaw22_QuotaBack.post w0 r v w') := by
  have hS : Sat w0 (rf w0) [] := Sat.start w0
  unfold colophonlaw22_QuotaBack.f at H
  refine calls_of_WC (vs := [.int .i64 a0, .slice A1 l1.length c1, .slice A2 l2.length c2]) Try.func3 (c := C3) (n := 130) (by kernel_rfl) (by kernel_rfl) (by kernel_rfl) ?_
  refine WC.seq (by kernel_rfl) ?_
  refine WC.reg [0] (by kernel_rfl) (by kernel_rfl) ?_
  refine WR.runk [0] [] [0, 1, 2] (L' := [(0, .int .i64 a0), (1, .slice A1 l1.length c1), (2, .slice A2 l2.length c2)]) (w' := w0) (by kernel_rfl) ?_
  refine WR.nil ?_
  refine At.go ?_
  refine WC.seq (by kernel_rfl) ?_
  refine WC.seq (by kernel_rfl) ?_
  refine WC.reg [0, 1] (by kernel_rfl) (by kernel_rfl) ?_
  obtain ⟨r1, e2, H⟩ := bind_ex H
  refine WR.st (St.call (by kernel_rfl) (f := 5) (args := #[]) (by kernel_rfl) (colophonlaw22_first.calls w0  r1 e2) ?_)
  rintro _ w8 ⟨rfl, hS9⟩
  have hS : Sat w8 (rf w0) [] := hS.ext hS9
  refine WR.runk [1] [] [0, 1, 2, 20] (L' := [(0, .int .i64 a0), (1, .slice A1 l1.length c1), (2, .slice A2 l2.length c2), (20, .bool (!r1))]) (w' := w8) (by kernel_rfl) ?_
  refine WR.nil ?_
  refine At.go ?_
  refine WC.cond (by kernel_rfl) (!r1) (by kernel_rfl) (by kernel_rfl) (fun hb10 => ?_) (fun hb10 => ?_)
  · replace H := ite_t H hb10
    refine WC.seq (by kernel_rfl) ?_
    refine WC.reg [0] (by kernel_rfl) (by kernel_rfl) ?_
    refine WR.runk [0] [] [6] (L' := [(6, .bool false)]) (w' := w8) (by kernel_rfl) ?_
    refine WR.nil ?_
    refine At.go ?_
    refine WC.ret (by kernel_rfl) ?_
    refine At.thenRet ?_
    obtain rfl := Option.some.inj H
    have hS : Sat w8 (rf w0) [] := hS.sel [] (by kernel_rfl)
    exact At.body [.bool false] (by kernel_rfl) ⟨_, rfl, rfl, hS⟩
  · replace H := ite_f H hb10
    refine WC.skip (by kernel_rfl) ?_
    refine At.go ?_
    refine WC.seq (by kernel_rfl) ?_
    refine WC.reg [0] (by kernel_rfl) (by kernel_rfl) ?_
    refine WR.runk [0] [] [0, 1, 2, 7] (L' := [(0, .int .i64 a0), (1, .slice A1 l1.length c1), (2, .slice A2 l2.length c2), (7, .slice none 0 0)]) (w' := w8) (by kernel_rfl) ?_
    refine WR.nil ?_
    refine At.go ?_
    refine WC.seq (by kernel_rfl) ?_
    refine WC.seq (by kernel_rfl) ?_
    refine WC.reg [0, 1, 2] (by kernel_rfl) (by kernel_rfl) ?_
    refine WR.runk [0, 1, 2] [] [0, 2, 7, 21, 22, 23] (L' := [(0, .int .i64 a0), (2, .slice A2 l2.length c2), (7, .slice none 0 0), (21, .slice A1 l1.length c1), (22, .int .i64 (l1.length : Int)), (23, .int .i64 0)]) (w' := w8) (by kernel_rfl) ?_
    refine WR.nil ?_
    refine At.go ?_
    refine WC.block (by kernel_rfl) ?_
    have hS := hS.addNil (α := (Int × Int)) 27 (r0 (.pair (.int .i64) (.int .i64))) 2
    have hS : Sat w8 (rf w0) [osl 27 (r0 (.pair (.int .i64) (.int .i64))) 2 none 0 ([] : List (Int × Int))] := hS.sel [0] (by kernel_rfl)
    obtain ⟨o22, e23, H⟩ := bind_ex H
    refine WC.loop (by kernel_rfl) ?_
    refine WL.weaken [0, 2, 7, 21, 22, 23] (L' := [(0, .int .i64 a0), (2, .slice A2 l2.length c2), (7, .slice none 0 0), (21, .slice A1 l1.length c1), (22, .int .i64 (l1.length : Int)), (23, .int .i64 0)]) (by kernel_rfl) ?_
    refine colophonlaw22_QuotaBack.l1_ok w0 a0 A1 c1 l1 A2 c2 l2 R1 o22 (fun A7_q24 c7_q24 w25 hS => ?_) FU ([] : List (Int × Int)) 0 none 0 _ hS e23
    refine At.hit ?_
    refine At.go ?_
    refine WC.seq (by kernel_rfl) ?_
    refine WC.reg [0, 1, 2, 3, 4, 5, 6, 7, 8, 9, 10, 11] (by kernel_rfl) (by kernel_rfl) ?_
    refine WR.runk [0, 1, 2, 3, 4, 5] [6, 7, 8, 9, 10, 11] [2, 7, 43, 44] (L' := [(2, .slice A2 l2.length c2), (7, .slice A7_q24 o22.length c7_q24), (43, .int .i64 (wi (1 + (wi (Int.tmod (IntKind.wrap .u64 a0) 20))))), (44, .slice A7_q24 o22.length c7_q24)]) (w' := w25) (by kernel_rfl) ?_
    obtain ⟨r27, e28, H⟩ := bind_ex H
    refine WR.st (St.call (by kernel_rfl) (f := 6) (args := #[.int .i64 (wi (1 + (wi (Int.tmod (IntKind.wrap .u64 a0) 20)))), .slice A7_q24 o22.length c7_q24]) (by kernel_rfl) (quota_New.calls w25 (wi (1 + (wi (Int.tmod (IntKind.wrap .u64 a0) 20)))) A7_q24 c7_q24 o22 (Sat.rdAt 0 hS rfl) r27 e28) ?_)
    rintro _ w34 ⟨pv36, rfl, hS35⟩
    have hS : Sat w34 (rf w0) [optP O49 pv36 r27.1, osl 27 (r0 (.pair (.int .i64) (.int .i64))) 2 A7_q24 c7_q24 o22] := hS.ext hS35
    refine WR.runk [7, 8, 9, 10, 11] [] [2, 7, 10] (L' := [(2, .slice A2 l2.length c2), (7, .slice A7_q24 o22.length c7_q24), (10, pv36)]) (w' := w34) (by kernel_rfl) ?_
    refine WR.nil ?_
    refine At.go ?_
    refine WC.seq (by kernel_rfl) ?_
    refine WC.seq (by kernel_rfl) ?_
    refine WC.reg [0, 1, 2] (by kernel_rfl) (by kernel_rfl) ?_
    refine WR.runk [0, 1, 2] [] [2, 7, 10, 50] (L' := [(2, .slice A2 l2.length c2), (7, .slice A7_q24 o22.length c7_q24), (10, pv36), (50, .bool ((o22.length : Int) == 0))]) (w' := w34) (by kernel_rfl) ?_
    refine WR.nil ?_
    refine At.go ?_
    refine WC.cond (by kernel_rfl) ((o22.length : Int) == 0) (by kernel_rfl) (by kernel_rfl) (fun hb37 => ?_) (fun hb37 => ?_)
    · replace H := ite_t H hb37
      refine WC.seq (by kernel_rfl) ?_
      refine WC.reg [0, 1, 2] (by kernel_rfl) (by kernel_rfl) ?_
      refine WR.runk [0] [1, 2] [51] (L' := [(51, pv36)]) (w' := w34) (by kernel_rfl) ?_
      rcases hr39 : r27.1 with _ | y38
      · rw [hr39] at H
        dsimp only at H
        have hv40 := optP.none hS hr39
        subst hv40
        have hS : Sat w34 (rf w0) [osl 27 (r0 (.pair (.int .i64) (.int .i64))) 2 A7_q24 c7_q24 o22] := hS.sel [1] (by kernel_rfl)
        refine WR.runk [1, 2] [] [6] (L' := [(6, .bool true)]) (w' := w34) (by kernel_rfl) ?_
        refine WR.nil ?_
        refine At.go ?_
        refine WC.ret (by kernel_rfl) ?_
        refine At.thenRet ?_
        obtain rfl := Option.some.inj H
        have hS : Sat w34 (rf w0) [] := hS.sel [] (by kernel_rfl)
        exact At.body [.bool true] (by kernel_rfl) ⟨_, rfl, rfl, hS⟩
      · rw [hr39] at H
        dsimp only at H
        obtain ⟨b41, hv40, hN43⟩ := optP.some hS hr39
        subst hv40
        have hS : Sat w34 (rf w0) [O49 b41 y38, osl 27 (r0 (.pair (.int .i64) (.int .i64))) 2 A7_q24 c7_q24 o22] := hN43
        refine WR.runk [1, 2] [] [6] (L' := [(6, .bool false)]) (w' := w34) (by kernel_rfl) ?_
        refine WR.nil ?_
        refine At.go ?_
        refine WC.ret (by kernel_rfl) ?_
        refine At.thenRet ?_
        obtain rfl := Option.some.inj H
        have hS : Sat w34 (rf w0) [] := hS.sel [] (by kernel_rfl)
        exact At.body [.bool false] (by kernel_rfl) ⟨_, rfl, rfl, hS⟩
    · replace H := ite_f H hb37
      refine WC.skip (by kernel_rfl) ?_
      refine At.go ?_
      refine WC.seq (by kernel_rfl) ?_
      refine WC.reg [0] (by kernel_rfl) (by kernel_rfl) ?_
      refine WR.runk [0] [] [2, 7, 10, 12] (L' := [(2, .slice A2 l2.length c2), (7, .slice A7_q24 o22.length c7_q24), (10, pv36), (12, .slice none 0 0)]) (w' := w34) (by kernel_rfl) ?_
      refine WR.nil ?_
      refine At.go ?_
      refine WC.seq (by kernel_rfl) ?_
      refine WC.seq (by kernel_rfl) ?_
      refine WC.reg [0, 1, 2] (by kernel_rfl) (by kernel_rfl) ?_
      refine WR.runk [0, 1, 2] [] [7, 10, 12, 53, 54, 55] (L' := [(7, .slice A7_q24 o22.length c7_q24), (10, pv36), (12, .slice none 0 0), (53, .slice A2 l2.length c2), (54, .int .i64 (l2.length : Int)), (55, .int .i64 0)]) (w' := w34) (by kernel_rfl) ?_
      refine WR.nil ?_
      refine At.go ?_
      refine WC.block (by kernel_rfl) ?_
      obtain ⟨y44, hr45, H⟩ := bind_ex H
      obtain ⟨b47, hv46, hN163⟩ := optP.some hS hr45
      subst hv46
      have hS : Sat w34 (rf w0) [O49 b47 y44, osl 27 (r0 (.pair (.int .i64) (.int .i64))) 2 A7_q24 c7_q24 o22] := hN163
      have hS := hS.addNil (α := Int) 3 (r0 (.int .i64)) 1
      have hS : Sat w34 (rf w0) [osl 27 (r0 (.pair (.int .i64) (.int .i64))) 2 A7_q24 c7_q24 o22, osl 3 (r0 (.int .i64)) 1 none 0 ([] : List Int), O49 b47 y44] := hS.sel [2, 0, 1] (by kernel_rfl)
      obtain ⟨o71, e72, H⟩ := bind_ex H
      refine WC.loop (by kernel_rfl) ?_
      refine WL.weaken [7, 10, 12, 53, 54, 55] (L' := [(7, .slice A7_q24 o22.length c7_q24), (10, .pointer (some ⟨b47, 0, none⟩)), (12, .slice none 0 0), (53, .slice A2 l2.length c2), (54, .int .i64 (l2.length : Int)), (55, .int .i64 0)]) (by kernel_rfl) ?_
      refine colophonlaw22_QuotaBack.l2_ok w0 A2 c2 l2 o22 A7_q24 c7_q24 b47 R2 o71 (fun A12_q73 c12_q73 w74 hS => ?_) FU ([] : List Int) 0 y44 none 0 _ hS e72
      refine At.hit ?_
      refine At.go ?_
      refine WC.seq (by kernel_rfl) ?_
      refine WC.seq (by kernel_rfl) ?_
      refine WC.reg [0, 1, 2, 3, 4] (by kernel_rfl) (by kernel_rfl) ?_
      refine WR.runk [0] [1, 2, 3, 4] [7, 10, 12, 80] (L' := [(7, .slice A7_q24 o22.length c7_q24), (10, .pointer (some ⟨b47, 0, none⟩)), (12, .slice A12_q73 o71.1.length c12_q73), (80, .pointer (some ⟨b47, 0, none⟩))]) (w' := w74) (by kernel_rfl) ?_
      have hS : Sat w74 (rf w0) [O49 b47 o71.2, osl 27 (r0 (.pair (.int .i64) (.int .i64))) 2 A7_q24 c7_q24 o22, osl 3 (r0 (.int .i64)) 1 A12_q73 c12_q73 o71.1] := hS.sel [2, 0, 1] (by kernel_rfl)
      obtain ⟨r76, e77, H⟩ := bind_ex H
      obtain ⟨B82, hso81, hsub79, hcs80, hb78⟩ := Sat.lend [O49 b47 o71.2] (cs := [osl 27 (r0 (.pair (.int .i64) (.int .i64))) 2 A7_q24 c7_q24 o22, osl 3 (r0 (.int .i64)) 1 A12_q73 c12_q73 o71.1]) hS
      refine WR.st (St.call (by kernel_rfl) (f := 8) (args := #[.pointer (some ⟨b47, 0, none⟩)]) (by kernel_rfl) (quota_Gate_All.calls B82 w74 b47 o71.2 hso81  r76 e77) ?_)
      rintro _ w83 ⟨rfl, hS84⟩
      have hS : Sat w83 (rf w0) [O49 b47 o71.2, osl 27 (r0 (.pair (.int .i64) (.int .i64))) 2 A7_q24 c7_q24 o22, osl 3 (r0 (.int .i64)) 1 A12_q73 c12_q73 o71.1] := hb78 _ _ hS84
      refine WR.runk [2, 3, 4] [] [7, 10, 12, 84] (L' := [(7, .slice A7_q24 o22.length c7_q24), (10, .pointer (some ⟨b47, 0, none⟩)), (12, .slice A12_q73 o71.1.length c12_q73), (84, .bool (r76 != (o71.1.length : Int)))]) (w' := w83) (by kernel_rfl) ?_
      refine WR.nil ?_
      refine At.go ?_
      refine WC.cond (by kernel_rfl) (r76 != (o71.1.length : Int)) (by kernel_rfl) (by kernel_rfl) (fun hb85 => ?_) (fun hb85 => ?_)
      · replace H := ite_t H hb85
        refine WC.seq (by kernel_rfl) ?_
        refine WC.reg [0] (by kernel_rfl) (by kernel_rfl) ?_
        refine WR.runk [0] [] [6] (L' := [(6, .bool false)]) (w' := w83) (by kernel_rfl) ?_
        refine WR.nil ?_
        refine At.go ?_
        refine WC.ret (by kernel_rfl) ?_
        refine At.thenRet ?_
        obtain rfl := Option.some.inj H
        have hS : Sat w83 (rf w0) [] := hS.sel [] (by kernel_rfl)
        exact At.body [.bool false] (by kernel_rfl) ⟨_, rfl, rfl, hS⟩
      · replace H := ite_f H hb85
        refine WC.skip (by kernel_rfl) ?_
        refine At.go ?_
        refine WC.seq (by kernel_rfl) ?_
        refine WC.seq (by kernel_rfl) ?_
        refine WC.reg [0, 1, 2] (by kernel_rfl) (by kernel_rfl) ?_
        refine WR.runk [0, 1, 2] [] [7, 10, 12, 86, 87] (L' := [(7, .slice A7_q24 o22.length c7_q24), (10, .pointer (some ⟨b47, 0, none⟩)), (12, .slice A12_q73 o71.1.length c12_q73), (86, .int .i64 (o71.1.length : Int)), (87, .int .i64 0)]) (w' := w83) (by kernel_rfl) ?_
        refine WR.nil ?_
        refine At.go ?_
        refine WC.block (by kernel_rfl) ?_
        have hS : Sat w83 (rf w0) [osl 27 (r0 (.pair (.int .i64) (.int .i64))) 2 A7_q24 c7_q24 o22, osl 3 (r0 (.int .i64)) 1 A12_q73 c12_q73 o71.1, O49 b47 o71.2] := hS.sel [1, 2, 0] (by kernel_rfl)
        obtain ⟨o113, e114, H⟩ := bind_ex H
        refine WC.loop (by kernel_rfl) ?_
        refine WL.weaken [7, 10, 12, 86, 87] (L' := [(7, .slice A7_q24 o22.length c7_q24), (10, .pointer (some ⟨b47, 0, none⟩)), (12, .slice A12_q73 o71.1.length c12_q73), (86, .int .i64 (o71.1.length : Int)), (87, .int .i64 0)]) (by kernel_rfl) ?_
        refine colophonlaw22_QuotaBack.l3_ok w0 o22 A7_q24 c7_q24 b47 o71 A12_q73 c12_q73 o113 (fun o115 w117 ho118 hS => ?_) (fun o119 w121 ho122 hS => ?_) FU 0 o71.2 _ hS e114
        · subst ho118
          dsimp only at H
          refine At.blockRet ?_
          refine At.thenRet ?_
          obtain rfl := Option.some.inj H
          have hS : Sat w117 (rf w0) [] := hS.sel [] (by kernel_rfl)
          exact At.body [.bool o115.1] (by kernel_rfl) ⟨_, rfl, rfl, hS⟩
        · subst ho122
          dsimp only at H
          refine At.hit ?_
          refine At.go ?_
          refine WC.seq (by kernel_rfl) ?_
          refine WC.seq (by kernel_rfl) ?_
          refine WC.reg [0, 1, 2] (by kernel_rfl) (by kernel_rfl) ?_
          refine WR.runk [0, 1, 2] [] [10, 113, 114] (L' := [(10, .pointer (some ⟨b47, 0, none⟩)), (113, .int .i64 (o22.length : Int)), (114, .int .i64 0)]) (w' := w121) (by kernel_rfl) ?_
          refine WR.nil ?_
          refine At.go ?_
          refine WC.block (by kernel_rfl) ?_
          have hS : Sat w121 (rf w0) [O49 b47 o119] := hS.sel [1] (by kernel_rfl)
          obtain ⟨o144, e145, H⟩ := bind_ex H
          refine WC.loop (by kernel_rfl) ?_
          refine WL.weaken [10, 113, 114] (L' := [(10, .pointer (some ⟨b47, 0, none⟩)), (113, .int .i64 (o22.length : Int)), (114, .int .i64 0)]) (by kernel_rfl) ?_
          refine colophonlaw22_QuotaBack.l4_ok w0 o22 b47 o144 (fun o146 w148 ho149 hS => ?_) (fun o150 w152 ho153 hS => ?_) FU 0 o119 _ hS e145
          · subst ho149
            dsimp only at H
            refine At.blockRet ?_
            refine At.thenRet ?_
            obtain rfl := Option.some.inj H
            have hS : Sat w148 (rf w0) [] := hS.sel [] (by kernel_rfl)
            exact At.body [.bool o146.1] (by kernel_rfl) ⟨_, rfl, rfl, hS⟩
          · subst ho153
            dsimp only at H
            refine At.hit ?_
            refine At.go ?_
            refine WC.seq (by kernel_rfl) ?_
            refine WC.reg [0, 1, 2, 3] (by kernel_rfl) (by kernel_rfl) ?_
            refine WR.runk [0] [1, 2, 3] [127] (L' := [(127, .pointer (some ⟨b47, 0, none⟩))]) (w' := w152) (by kernel_rfl) ?_
            obtain ⟨r154, e155, H⟩ := bind_ex H
            obtain ⟨B160, hso159, hsub157, hcs158, hb156⟩ := Sat.lend [O49 b47 o150] (cs := []) hS
            refine WR.st (St.call (by kernel_rfl) (f := 8) (args := #[.pointer (some ⟨b47, 0, none⟩)]) (by kernel_rfl) (quota_Gate_All.calls B160 w152 b47 o150 hso159  r154 e155) ?_)
            rintro _ w161 ⟨rfl, hS162⟩
            have hS : Sat w161 (rf w0) [O49 b47 o150] := hb156 _ _ hS162
            refine WR.runk [2, 3] [] [6] (L' := [(6, .bool (r154 == 0))]) (w' := w161) (by kernel_rfl) ?_
            refine WR.nil ?_
            refine At.go ?_
            refine WC.ret (by kernel_rfl) ?_
            obtain rfl := Option.some.inj H
            have hS : Sat w161 (rf w0) [] := hS.sel [] (by kernel_rfl)
            exact At.body [.bool (r154 == 0)] (by kernel_rfl) ⟨_, rfl, rfl, hS⟩
end Go.Proofs.Ythlbebgmphnniaa
