/-
  Printed by gen.py (my own tool): for each Go function a plain Lean function and the proof that a call of it does what that function says.
-/
import Derived.Test.YtadmnacpjjgdnaaGP1
set_option linter.unusedVariables false
set_option linter.unusedSimpArgs false
set_option maxRecDepth 100000
namespace Go.Proofs.Ytadmnacpjjgdnaa
open Go Go.Gol
/-! ### 5 colophon/colophonlaw14.RmqMoves -/
def colophonlaw14_RmqMoves.l1 (l0 : List Int) : Nat → (List Int) → (List Int) → (List Int) → Int → Option ((List Int) × (List Int) × (List Int))
  | 0, _, _, _, _ => none
  | k + 1, x7_l1, x8_l1, x9_l1, x32_l1 => (if decide (x32_l1 < (l0.length : Int)) then ((at? l0 x32_l1).bind fun v17 => ((app? 17592186044416 x7_l1 ([wi v17] : List Int)).bind fun y22 => ((app? 17592186044416 x8_l1 ([wi ((wi v17) + 1000)] : List Int)).bind fun y29 => ((app? 17592186044416 x9_l1 ([wi v17] : List Int)).bind fun y36 => colophonlaw14_RmqMoves.l1 l0 k y22 y29 y36 (wi (x32_l1 + 1)))))) else some (x7_l1, x8_l1, x9_l1))
def colophonlaw14_RmqMoves.f (l0 : List Int) (a1_0 : Int) (a1_1 : Int) (a2 : Int) : Option Bool := (colophonlaw14_first.f.bind fun r4 => (if (!r4) then some false else (if decide ((l0.length : Int) > 500) then some true else (if ((l0.length : Int) == 0) then some true else ((colophonlaw14_RmqMoves.l1 l0 FU ([] : List Int) ([] : List Int) ([] : List Int) 0).bind fun o40 => ((chk? (decide ((IntKind.wrap .u64 (l0.length : Int)) ≠ 0))).bind fun _ => ((at? o40.2.2 (wi (Int.tmod (IntKind.wrap .u64 a2) (IntKind.wrap .u64 (l0.length : Int))))).bind fun v46 => ((set? o40.2.2 (wi (Int.tmod (IntKind.wrap .u64 a2) (IntKind.wrap .u64 (l0.length : Int)))) (-500)).bind fun y48 => ((rmq_New.f o40.1).bind fun r52 => ((rmq_New.f o40.2.1).bind fun r62 => ((rmq_New.f y48).bind fun r72 => ((rmq_Table_Least.f r52.1 a1_0 a1_1).bind fun r82 => (if decide (wi (Int.tmod (IntKind.wrap .u64 a2) (IntKind.wrap .u64 (l0.length : Int))) ≥ a1_0) then (if decide (wi (Int.tmod (IntKind.wrap .u64 a2) (IntKind.wrap .u64 (l0.length : Int))) < a1_1) then ((rmq_Table_Least.f r52.1 a1_0 a1_1).bind fun r95 => ((rmq_Table_Least.f r62.1 a1_0 a1_1).bind fun r104 => (if (r95 == r104) then ((rmq_Table_Least.f r72.1 a1_0 a1_1).bind fun r114 => some (r114 == (wi (Int.tmod (IntKind.wrap .u64 a2) (IntKind.wrap .u64 (l0.length : Int)))))) else some false))) else ((rmq_Table_Least.f r52.1 a1_0 a1_1).bind fun r125 => ((rmq_Table_Least.f r62.1 a1_0 a1_1).bind fun r134 => (if (r125 == r134) then ((rmq_Table_Least.f r72.1 a1_0 a1_1).bind fun r144 => some (r144 == r82)) else some false)))) else ((rmq_Table_Least.f r52.1 a1_0 a1_1).bind fun r155 => ((rmq_Table_Least.f r62.1 a1_0 a1_1).bind fun r164 => (if (r155 == r164) then ((rmq_Table_Least.f r72.1 a1_0 a1_1).bind fun r174 => some (r174 == r82)) else some false))))))))))))))))
def colophonlaw14_RmqMoves.post (w : World) (r : Bool) (v : Value) (w' : World) : Prop := v = (.bool r : Value) ∧ Sat w' (rf w) []
theorem colophonlaw14_RmqMoves.l1_ok {Q} (w0 : World) (A0 : Option Addr) (c0 : Nat) (l0 : List Int) (a1_0 : Int) (a1_1 : Int) (a2 : Int) (b1 : Nat) (R0 : rdS (r0 (.int .i8)) 1 (hp w0) A0 c0 l0) (out : (List Int) × (List Int) × (List Int)) (hn0 : ∀ (A7_q : Option Addr) (c7_q : Nat) (A8_q : Option Addr) (c8_q : Nat) (A9_q : Option Addr) (c9_q : Nat) (w : World), Sat w (rf w0) [osl 3 (r0 (.int .i64)) 1 A7_q c7_q out.1, osl 3 (r0 (.int .i64)) 1 A8_q c8_q out.2.1, osl 3 (r0 (.int .i64)) 1 A9_q c9_q out.2.2, pts b1 (.cells #[.int .i64 a1_0, .int .i64 a1_1] 36 (0, 0))] → At Q (.exit 0) 118 [(0, .slice A0 l0.length c0), (2, .int .i64 a2), (4, .pointer (some ⟨b1, 0, none⟩)), (7, .slice A7_q out.1.length c7_q), (8, .slice A8_q out.2.1.length c8_q), (9, .slice A9_q out.2.2.length c9_q)] w) :
    ∀ (k : Nat) (x7_l1 : List Int) (x8_l1 : List Int) (x9_l1 : List Int) (x32_l1 : Int) (A7_l1 : Option Addr) (c7_l1 : Nat) (A8_l1 : Option Addr) (c8_l1 : Nat) (A9_l1 : Option Addr) (c9_l1 : Nat) (w : World), Sat w (rf w0) [osl 3 (r0 (.int .i64)) 1 A7_l1 c7_l1 x7_l1, osl 3 (r0 (.int .i64)) 1 A8_l1 c8_l1 x8_l1, osl 3 (r0 (.int .i64)) 1 A9_l1 c9_l1 x9_l1, pts b1 (.cells #[.int .i64 a1_0, .int .i64 a1_1] 36 (0, 0))] → colophonlaw14_RmqMoves.l1 l0 k x7_l1 x8_l1 x9_l1 x32_l1 = some out → WL Try.prog (cbody (cbody (cr (cl (cr (cr (cr (cr C5)))))))) Q 118 [(0, .slice A0 l0.length c0), (2, .int .i64 a2), (4, .pointer (some ⟨b1, 0, none⟩)), (7, .slice A7_l1 x7_l1.length c7_l1), (8, .slice A8_l1 x8_l1.length c8_l1), (9, .slice A9_l1 x9_l1.length c9_l1), (30, .slice A0 l0.length c0), (31, .int .i64 (l0.length : Int)), (32, .int .i64 x32_l1)] w := by
  intro k
  induction k with
  | zero => intro x7_l1 x8_l1 x9_l1 x32_l1 A7_l1 c7_l1 A8_l1 c8_l1 A9_l1 c9_l1 w hS H; exact absurd (show none = some out from H) (by simp)
  | succ k ih =>
    intro x7_l1 x8_l1 x9_l1 x32_l1 A7_l1 c7_l1 A8_l1 c8_l1 A9_l1 c9_l1 w hS H
    unfold colophonlaw14_RmqMoves.l1 at H
    refine WL.round ?_
    refine WC.seq (by kernel_rfl) ?_
    refine WC.reg [0] (by kernel_rfl) (by kernel_rfl) ?_
    refine WR.runk [0] [] [0, 2, 4, 7, 8, 9, 30, 31, 32, 33] (L' := [(0, .slice A0 l0.length c0), (2, .int .i64 a2), (4, .pointer (some ⟨b1, 0, none⟩)), (7, .slice A7_l1 x7_l1.length c7_l1), (8, .slice A8_l1 x8_l1.length c8_l1), (9, .slice A9_l1 x9_l1.length c9_l1), (30, .slice A0 l0.length c0), (31, .int .i64 (l0.length : Int)), (32, .int .i64 x32_l1), (33, .bool (decide (x32_l1 < (l0.length : Int))))]) (w' := w) (by kernel_rfl) ?_
    refine WR.nil ?_
    refine At.go ?_
    refine WC.seq (by kernel_rfl) ?_
    refine WC.cond (by kernel_rfl) (decide (x32_l1 < (l0.length : Int))) (by kernel_rfl) (by kernel_rfl) (fun hb16 => ?_) (fun hb16 => ?_)
    · replace H := ite_t H hb16
      refine WC.skip (by kernel_rfl) ?_
      refine At.go ?_
      refine WC.seq (by kernel_rfl) ?_
      refine WC.block (by kernel_rfl) ?_
      refine WC.seq (by kernel_rfl) ?_
      refine WC.reg [0, 1, 2] (by kernel_rfl) (by kernel_rfl) ?_
      refine WR.runk [] [0, 1, 2] [0, 2, 4, 7, 8, 9, 30, 31, 32] (L' := [(0, .slice A0 l0.length c0), (2, .int .i64 a2), (4, .pointer (some ⟨b1, 0, none⟩)), (7, .slice A7_l1 x7_l1.length c7_l1), (8, .slice A8_l1 x8_l1.length c8_l1), (9, .slice A9_l1 x9_l1.length c9_l1), (30, .slice A0 l0.length c0), (31, .int .i64 (l0.length : Int)), (32, .int .i64 x32_l1)]) (w' := w) (by kernel_rfl) ?_
      obtain ⟨v17, e18, H⟩ := bind_ex H
      refine WR.st (St.ofP (PSt.idx (k := .i64) (.tmp 30) (.tmp 32) (by kernel_rfl) (by kernel_rfl) E32 (by kernel_rfl) (by kernel_rfl) (rdS.up R0 hS.sub0) e18 ?_))
      refine WR.runk [] [1, 2] [0, 2, 4, 7, 8, 9, 30, 31, 32, 34] (L' := [(0, .slice A0 l0.length c0), (2, .int .i64 a2), (4, .pointer (some ⟨b1, 0, none⟩)), (7, .slice A7_l1 x7_l1.length c7_l1), (8, .slice A8_l1 x8_l1.length c8_l1), (9, .slice A9_l1 x9_l1.length c9_l1), (30, .slice A0 l0.length c0), (31, .int .i64 (l0.length : Int)), (32, .int .i64 x32_l1), (34, .pointer (some (adr A0 x32_l1.toNat 1)))]) (w' := w) (by kernel_rfl) ?_
      refine WR.st (St.ofR (RSt.loadInt (t := 34) (.tmp 34) (by kernel_rfl) (by kernel_rfl) (by kernel_rfl) (by kernel_rfl) (rdS.up R0 hS.sub0) e18 ?_))
      refine WR.runk [2] [] [0, 2, 4, 7, 8, 9, 11, 30, 31, 32] (L' := [(0, .slice A0 l0.length c0), (2, .int .i64 a2), (4, .pointer (some ⟨b1, 0, none⟩)), (7, .slice A7_l1 x7_l1.length c7_l1), (8, .slice A8_l1 x8_l1.length c8_l1), (9, .slice A9_l1 x9_l1.length c9_l1), (11, .int .i8 v17), (30, .slice A0 l0.length c0), (31, .int .i64 (l0.length : Int)), (32, .int .i64 x32_l1)]) (w' := w) (by kernel_rfl) ?_
      refine WR.nil ?_
      refine At.go ?_
      refine WC.reg [0, 1, 2, 3, 4, 5, 6, 7, 8, 9, 10, 11, 12, 13, 14, 15, 16, 17, 18] (by kernel_rfl) (by kernel_rfl) ?_
      refine WR.runk [0, 1, 2] [3, 4, 5, 6, 7, 8, 9, 10, 11, 12, 13, 14, 15, 16, 17, 18] [0, 2, 4, 7, 8, 9, 11, 30, 31, 32, 36, 38] (L' := [(0, .slice A0 l0.length c0), (2, .int .i64 a2), (4, .pointer (some ⟨b1, 0, none⟩)), (7, .slice A7_l1 x7_l1.length c7_l1), (8, .slice A8_l1 x8_l1.length c8_l1), (9, .slice A9_l1 x9_l1.length c9_l1), (11, .int .i8 v17), (30, .slice A0 l0.length c0), (31, .int .i64 (l0.length : Int)), (32, .int .i64 x32_l1), (36, .slice A7_l1 x7_l1.length c7_l1), (38, .int .i64 (wi v17))]) (w' := w) (by kernel_rfl) ?_
      refine WR.st (St.box hS (by kernel_rfl) (.cells #[.int .i64 (wi v17)] 3) (fun b19 => .slice (some ⟨b19, 0, none⟩) 1 1) (fun _ => by kernel_rfl) (fun b19 w20 hS => ?_))
      refine WR.runk [] [4, 5, 6, 7, 8, 9, 10, 11, 12, 13, 14, 15, 16, 17, 18] [0, 2, 4, 7, 8, 9, 11, 30, 31, 32, 36, 39] (L' := [(0, .slice A0 l0.length c0), (2, .int .i64 a2), (4, .pointer (some ⟨b1, 0, none⟩)), (7, .slice A7_l1 x7_l1.length c7_l1), (8, .slice A8_l1 x8_l1.length c8_l1), (9, .slice A9_l1 x9_l1.length c9_l1), (11, .int .i8 v17), (30, .slice A0 l0.length c0), (31, .int .i64 (l0.length : Int)), (32, .int .i64 x32_l1), (36, .slice A7_l1 x7_l1.length c7_l1), (39, .slice (some ⟨b19, 0, none⟩) 1 1)]) (w' := w20) (by kernel_rfl) ?_
      have hS : Sat w20 (rf w0) [osl 3 (r0 (.int .i64)) 1 A7_l1 c7_l1 x7_l1, pts b19 (.cells #[.int .i64 (wi v17)] 3 (0, 0)), osl 3 (r0 (.int .i64)) 1 A8_l1 c8_l1 x8_l1, osl 3 (r0 (.int .i64)) 1 A9_l1 c9_l1 x9_l1, pts b1 (.cells #[.int .i64 a1_0, .int .i64 a1_1] 36 (0, 0))] := hS.sel [1, 0, 2, 3, 4] (by kernel_rfl)
      obtain ⟨y22, e21, H⟩ := bind_ex H
      refine WR.st (St.append' (.tmp 36) (.tmp 39) (by kernel_rfl) (by kernel_rfl) E22 (r0_one _) hS (by kernel_rfl) (by kernel_rfl) (Sat.ptsAt 1 (r0 (.int .i64)) 1 ([wi v17] : List Int) hS rfl rfl (rdL.cons1 rfl (rdL.nil _ _))) 17592186044416 (by kernel_rfl) (by kernel_rfl) e21 (fun A23 c24 w25 hS => ?_))
      refine WR.runk [5, 6, 7, 8] [9, 10, 11, 12, 13, 14, 15, 16, 17, 18] [0, 2, 4, 8, 9, 11, 30, 31, 32, 40, 41, 44] (L' := [(0, .slice A0 l0.length c0), (2, .int .i64 a2), (4, .pointer (some ⟨b1, 0, none⟩)), (8, .slice A8_l1 x8_l1.length c8_l1), (9, .slice A9_l1 x9_l1.length c9_l1), (11, .int .i8 v17), (30, .slice A0 l0.length c0), (31, .int .i64 (l0.length : Int)), (32, .int .i64 x32_l1), (40, .slice A23 y22.length c24), (41, .slice A8_l1 x8_l1.length c8_l1), (44, .int .i64 (wi ((wi v17) + 1000)))]) (w' := w25) (by kernel_rfl) ?_
      refine WR.st (St.box hS (by kernel_rfl) (.cells #[.int .i64 (wi ((wi v17) + 1000))] 3) (fun b26 => .slice (some ⟨b26, 0, none⟩) 1 1) (fun _ => by kernel_rfl) (fun b26 w27 hS => ?_))
      refine WR.runk [] [10, 11, 12, 13, 14, 15, 16, 17, 18] [0, 2, 4, 8, 9, 11, 30, 31, 32, 40, 41, 45] (L' := [(0, .slice A0 l0.length c0), (2, .int .i64 a2), (4, .pointer (some ⟨b1, 0, none⟩)), (8, .slice A8_l1 x8_l1.length c8_l1), (9, .slice A9_l1 x9_l1.length c9_l1), (11, .int .i8 v17), (30, .slice A0 l0.length c0), (31, .int .i64 (l0.length : Int)), (32, .int .i64 x32_l1), (40, .slice A23 y22.length c24), (41, .slice A8_l1 x8_l1.length c8_l1), (45, .slice (some ⟨b26, 0, none⟩) 1 1)]) (w' := w27) (by kernel_rfl) ?_
      have hS : Sat w27 (rf w0) [osl 3 (r0 (.int .i64)) 1 A8_l1 c8_l1 x8_l1, pts b26 (.cells #[.int .i64 (wi ((wi v17) + 1000))] 3 (0, 0)), osl 3 (r0 (.int .i64)) 1 A23 c24 y22, pts b19 (.cells #[.int .i64 (wi v17)] 3 (0, 0)), osl 3 (r0 (.int .i64)) 1 A9_l1 c9_l1 x9_l1, pts b1 (.cells #[.int .i64 a1_0, .int .i64 a1_1] 36 (0, 0))] := hS.sel [3, 0, 1, 2, 4, 5] (by kernel_rfl)
      obtain ⟨y29, e28, H⟩ := bind_ex H
      refine WR.st (St.append' (.tmp 41) (.tmp 45) (by kernel_rfl) (by kernel_rfl) E22 (r0_one _) hS (by kernel_rfl) (by kernel_rfl) (Sat.ptsAt 1 (r0 (.int .i64)) 1 ([wi ((wi v17) + 1000)] : List Int) hS rfl rfl (rdL.cons1 rfl (rdL.nil _ _))) 17592186044416 (by kernel_rfl) (by kernel_rfl) e28 (fun A30 c31 w32 hS => ?_))
      refine WR.runk [11, 12, 13] [14, 15, 16, 17, 18] [0, 2, 4, 9, 30, 31, 32, 40, 46, 47, 49] (L' := [(0, .slice A0 l0.length c0), (2, .int .i64 a2), (4, .pointer (some ⟨b1, 0, none⟩)), (9, .slice A9_l1 x9_l1.length c9_l1), (30, .slice A0 l0.length c0), (31, .int .i64 (l0.length : Int)), (32, .int .i64 x32_l1), (40, .slice A23 y22.length c24), (46, .slice A30 y29.length c31), (47, .slice A9_l1 x9_l1.length c9_l1), (49, .int .i64 (wi v17))]) (w' := w32) (by kernel_rfl) ?_
      refine WR.st (St.box hS (by kernel_rfl) (.cells #[.int .i64 (wi v17)] 3) (fun b33 => .slice (some ⟨b33, 0, none⟩) 1 1) (fun _ => by kernel_rfl) (fun b33 w34 hS => ?_))
      refine WR.runk [] [15, 16, 17, 18] [0, 2, 4, 9, 30, 31, 32, 40, 46, 47, 50] (L' := [(0, .slice A0 l0.length c0), (2, .int .i64 a2), (4, .pointer (some ⟨b1, 0, none⟩)), (9, .slice A9_l1 x9_l1.length c9_l1), (30, .slice A0 l0.length c0), (31, .int .i64 (l0.length : Int)), (32, .int .i64 x32_l1), (40, .slice A23 y22.length c24), (46, .slice A30 y29.length c31), (47, .slice A9_l1 x9_l1.length c9_l1), (50, .slice (some ⟨b33, 0, none⟩) 1 1)]) (w' := w34) (by kernel_rfl) ?_
      have hS : Sat w34 (rf w0) [osl 3 (r0 (.int .i64)) 1 A9_l1 c9_l1 x9_l1, pts b33 (.cells #[.int .i64 (wi v17)] 3 (0, 0)), osl 3 (r0 (.int .i64)) 1 A30 c31 y29, pts b26 (.cells #[.int .i64 (wi ((wi v17) + 1000))] 3 (0, 0)), osl 3 (r0 (.int .i64)) 1 A23 c24 y22, pts b19 (.cells #[.int .i64 (wi v17)] 3 (0, 0)), pts b1 (.cells #[.int .i64 a1_0, .int .i64 a1_1] 36 (0, 0))] := hS.sel [5, 0, 1, 2, 3, 4, 6] (by kernel_rfl)
      obtain ⟨y36, e35, H⟩ := bind_ex H
      refine WR.st (St.append' (.tmp 47) (.tmp 50) (by kernel_rfl) (by kernel_rfl) E22 (r0_one _) hS (by kernel_rfl) (by kernel_rfl) (Sat.ptsAt 1 (r0 (.int .i64)) 1 ([wi v17] : List Int) hS rfl rfl (rdL.cons1 rfl (rdL.nil _ _))) 17592186044416 (by kernel_rfl) (by kernel_rfl) e35 (fun A37 c38 w39 hS => ?_))
      refine WR.runk [16, 17, 18] [] [0, 2, 4, 7, 8, 9, 30, 31, 32] (L' := [(0, .slice A0 l0.length c0), (2, .int .i64 a2), (4, .pointer (some ⟨b1, 0, none⟩)), (7, .slice A23 y22.length c24), (8, .slice A30 y29.length c31), (9, .slice A37 y36.length c38), (30, .slice A0 l0.length c0), (31, .int .i64 (l0.length : Int)), (32, .int .i64 x32_l1)]) (w' := w39) (by kernel_rfl) ?_
      refine WR.nil ?_
      refine At.blockNormal ?_
      refine At.go ?_
      refine WC.reg [0, 1] (by kernel_rfl) (by kernel_rfl) ?_
      refine WR.runk [0, 1] [] [0, 2, 4, 7, 8, 9, 30, 31, 32] (L' := [(0, .slice A0 l0.length c0), (2, .int .i64 a2), (4, .pointer (some ⟨b1, 0, none⟩)), (7, .slice A23 y22.length c24), (8, .slice A30 y29.length c31), (9, .slice A37 y36.length c38), (30, .slice A0 l0.length c0), (31, .int .i64 (l0.length : Int)), (32, .int .i64 (wi (x32_l1 + 1)))]) (w' := w39) (by kernel_rfl) ?_
      refine WR.nil ?_
      have hS : Sat w39 (rf w0) [osl 3 (r0 (.int .i64)) 1 A23 c24 y22, osl 3 (r0 (.int .i64)) 1 A30 c31 y29, osl 3 (r0 (.int .i64)) 1 A37 c38 y36, pts b1 (.cells #[.int .i64 a1_0, .int .i64 a1_1] 36 (0, 0))] := hS.sel [4, 2, 0, 6] (by kernel_rfl)
      refine At.again ?_
      refine WL.weaken [0, 2, 4, 7, 8, 9, 30, 31, 32] (L' := [(0, .slice A0 l0.length c0), (2, .int .i64 a2), (4, .pointer (some ⟨b1, 0, none⟩)), (7, .slice A23 y22.length c24), (8, .slice A30 y29.length c31), (9, .slice A37 y36.length c38), (30, .slice A0 l0.length c0), (31, .int .i64 (l0.length : Int)), (32, .int .i64 (wi (x32_l1 + 1)))]) (by kernel_rfl) ?_
      exact ih y22 y29 y36 (wi (x32_l1 + 1)) A23 c24 A30 c31 A37 c38 _ hS H
    · replace H := ite_f H hb16
      refine WC.exit (by kernel_rfl) ?_
      refine At.thenExit ?_
      refine At.thenExit ?_
      obtain rfl := Option.some.inj H
      have hS : Sat w (rf w0) [osl 3 (r0 (.int .i64)) 1 A7_l1 c7_l1 x7_l1, osl 3 (r0 (.int .i64)) 1 A8_l1 c8_l1 x8_l1, osl 3 (r0 (.int .i64)) 1 A9_l1 c9_l1 x9_l1, pts b1 (.cells #[.int .i64 a1_0, .int .i64 a1_1] 36 (0, 0))] := hS.sel [0, 1, 2, 3] (by kernel_rfl)
      refine At.weaken [0, 2, 4, 7, 8, 9] (L' := [(0, .slice A0 l0.length c0), (2, .int .i64 a2), (4, .pointer (some ⟨b1, 0, none⟩)), (7, .slice A7_l1 x7_l1.length c7_l1), (8, .slice A8_l1 x8_l1.length c8_l1), (9, .slice A9_l1 x9_l1.length c9_l1)]) (by kernel_rfl) ?_
      exact hn0 A7_l1 c7_l1 A8_l1 c8_l1 A9_l1 c9_l1 _ hS
theorem colophonlaw14_RmqMoves.calls (w0 : World) (A0 : Option Addr) (c0 : Nat) (l0 : List Int) (R0 : rdS (r0 (.int .i8)) 1 (hp w0) A0 c0 l0) (a1_0 : Int) (a1_1 : Int) (a2 : Int) (r : Bool) (H : colophonlaw14_RmqMoves.f l0 a1_0 a1_1 a2 = some r) :
    Calls Try.prog 5 #[.slice A0 l0.length c0, .agg #[.int .i64 a1_0, .int .i64 a1_1], .int .i64 a2] w0 (fun e w' => ∃ v, e = .returned v ∧ colophonlaw14_RmqMoves.post w0 r v w') := by
  have hS : Sat w0 (rf w0) [] := Sat.start w0
  unfold colophonlaw14_RmqMoves.f at H
  refine calls_of_WC (vs := [.slice A0 l0.length c0, .agg #[.int .i64 a1_0, .int .i64 a1_1], .int .i64 a2]) Try.func5 (c := C5) (n := 118) (by kernel_rfl) (by kernel_rfl) (by kernel_rfl) ?_
  refine WC.seq (by kernel_rfl) ?_
  refine WC.reg [0, 1] (by kernel_rfl) (by kernel_rfl) ?_
  refine WR.runk [] [0, 1] [0, 1, 2] (L' := [(0, .slice A0 l0.length c0), (1, .agg #[.int .i64 a1_0, .int .i64 a1_1]), (2, .int .i64 a2)]) (w' := w0) (by kernel_rfl) ?_
  refine WR.st (St.box hS (by kernel_rfl) (.cells #[.int .i64 a1_0, .int .i64 a1_1] 36) (fun b1 => .pointer (some ⟨b1, 0, none⟩)) (fun _ => by kernel_rfl) (fun b1 w2 hS => ?_))
  refine WR.runk [1] [] [0, 2, 4] (L' := [(0, .slice A0 l0.length c0), (2, .int .i64 a2), (4, .pointer (some ⟨b1, 0, none⟩))]) (w' := w2) (by kernel_rfl) ?_
  refine WR.nil ?_
  refine At.go ?_
  refine WC.seq (by kernel_rfl) ?_
  refine WC.seq (by kernel_rfl) ?_
  refine WC.reg [0, 1] (by kernel_rfl) (by kernel_rfl) ?_
  obtain ⟨r4, e5, H⟩ := bind_ex H
  refine WR.st (St.call (by kernel_rfl) (f := 7) (args := #[]) (by kernel_rfl) (colophonlaw14_first.calls w2  r4 e5) ?_)
  rintro _ w11 ⟨rfl, hS12⟩
  have hS : Sat w11 (rf w0) [pts b1 (.cells #[.int .i64 a1_0, .int .i64 a1_1] 36 (0, 0))] := hS.ext hS12
  refine WR.runk [1] [] [0, 2, 4, 21] (L' := [(0, .slice A0 l0.length c0), (2, .int .i64 a2), (4, .pointer (some ⟨b1, 0, none⟩)), (21, .bool (!r4))]) (w' := w11) (by kernel_rfl) ?_
  refine WR.nil ?_
  refine At.go ?_
  refine WC.cond (by kernel_rfl) (!r4) (by kernel_rfl) (by kernel_rfl) (fun hb13 => ?_) (fun hb13 => ?_)
  · replace H := ite_t H hb13
    refine WC.seq (by kernel_rfl) ?_
    refine WC.reg [0] (by kernel_rfl) (by kernel_rfl) ?_
    refine WR.runk [0] [] [6] (L' := [(6, .bool false)]) (w' := w11) (by kernel_rfl) ?_
    refine WR.nil ?_
    refine At.go ?_
    refine WC.ret (by kernel_rfl) ?_
    refine At.thenRet ?_
    obtain rfl := Option.some.inj H
    have hS : Sat w11 (rf w0) [] := hS.sel [] (by kernel_rfl)
    exact At.body [.bool false] (by kernel_rfl) ⟨_, rfl, rfl, hS⟩
  · replace H := ite_f H hb13
    refine WC.skip (by kernel_rfl) ?_
    refine At.go ?_
    refine WC.seq (by kernel_rfl) ?_
    refine WC.seq (by kernel_rfl) ?_
    refine WC.reg [0, 1, 2, 3, 4, 5, 6, 7] (by kernel_rfl) (by kernel_rfl) ?_
    refine WR.runk [0, 1, 2, 3] [4, 5, 6, 7] [0, 2, 4, 25] (L' := [(0, .slice A0 l0.length c0), (2, .int .i64 a2), (4, .pointer (some ⟨b1, 0, none⟩)), (25, .bool (decide ((l0.length : Int) > 500)))]) (w' := w11) (by kernel_rfl) ?_
    refine WR.split 25 (b := decide ((l0.length : Int) > 500)) (by kernel_rfl) (fun hb14 => ?_) (fun hb14 => ?_)
    · replace H := ite_t H hb14
      refine WR.runk [4, 5, 6, 7] [] [0, 2, 4, 29] (L' := [(0, .slice A0 l0.length c0), (2, .int .i64 a2), (4, .pointer (some ⟨b1, 0, none⟩)), (29, .bool true)]) (w' := w11) (by kernel_rfl) ?_
      refine WR.nil ?_
      refine At.go ?_
      refine WC.condT (by kernel_rfl) (by kernel_rfl) (by kernel_rfl) ?_
      refine WC.seq (by kernel_rfl) ?_
      refine WC.reg [0] (by kernel_rfl) (by kernel_rfl) ?_
      refine WR.runk [0] [] [6] (L' := [(6, .bool true)]) (w' := w11) (by kernel_rfl) ?_
      refine WR.nil ?_
      refine At.go ?_
      refine WC.ret (by kernel_rfl) ?_
      refine At.thenRet ?_
      obtain rfl := Option.some.inj H
      have hS : Sat w11 (rf w0) [] := hS.sel [] (by kernel_rfl)
      exact At.body [.bool true] (by kernel_rfl) ⟨_, rfl, rfl, hS⟩
    · replace H := ite_f H hb14
      refine WR.runk [4, 5, 6, 7] [] [0, 2, 4, 29] (L' := [(0, .slice A0 l0.length c0), (2, .int .i64 a2), (4, .pointer (some ⟨b1, 0, none⟩)), (29, .bool ((l0.length : Int) == 0))]) (w' := w11) (by kernel_rfl) ?_
      refine WR.nil ?_
      refine At.go ?_
      refine WC.cond (by kernel_rfl) ((l0.length : Int) == 0) (by kernel_rfl) (by kernel_rfl) (fun hb15 => ?_) (fun hb15 => ?_)
      · replace H := ite_t H hb15
        refine WC.seq (by kernel_rfl) ?_
        refine WC.reg [0] (by kernel_rfl) (by kernel_rfl) ?_
        refine WR.runk [0] [] [6] (L' := [(6, .bool true)]) (w' := w11) (by kernel_rfl) ?_
        refine WR.nil ?_
        refine At.go ?_
        refine WC.ret (by kernel_rfl) ?_
        refine At.thenRet ?_
        obtain rfl := Option.some.inj H
        have hS : Sat w11 (rf w0) [] := hS.sel [] (by kernel_rfl)
        exact At.body [.bool true] (by kernel_rfl) ⟨_, rfl, rfl, hS⟩
      · replace H := ite_f H hb15
        refine WC.skip (by kernel_rfl) ?_
        refine At.go ?_
        refine WC.seq (by kernel_rfl) ?_
        refine WC.reg [0, 1, 2] (by kernel_rfl) (by kernel_rfl) ?_
        refine WR.runk [0, 1, 2] [] [0, 2, 4, 7, 8, 9] (L' := [(0, .slice A0 l0.length c0), (2, .int .i64 a2), (4, .pointer (some ⟨b1, 0, none⟩)), (7, .slice none 0 0), (8, .slice none 0 0), (9, .slice none 0 0)]) (w' := w11) (by kernel_rfl) ?_
        refine WR.nil ?_
        refine At.go ?_
        refine WC.seq (by kernel_rfl) ?_
        refine WC.seq (by kernel_rfl) ?_
        refine WC.reg [0, 1, 2] (by kernel_rfl) (by kernel_rfl) ?_
        refine WR.runk [0, 1, 2] [] [0, 2, 4, 7, 8, 9, 30, 31, 32] (L' := [(0, .slice A0 l0.length c0), (2, .int .i64 a2), (4, .pointer (some ⟨b1, 0, none⟩)), (7, .slice none 0 0), (8, .slice none 0 0), (9, .slice none 0 0), (30, .slice A0 l0.length c0), (31, .int .i64 (l0.length : Int)), (32, .int .i64 0)]) (w' := w11) (by kernel_rfl) ?_
        refine WR.nil ?_
        refine At.go ?_
        refine WC.block (by kernel_rfl) ?_
        have hS := hS.addNil (α := Int) 3 (r0 (.int .i64)) 1
        have hS := hS.addNil (α := Int) 3 (r0 (.int .i64)) 1
        have hS := hS.addNil (α := Int) 3 (r0 (.int .i64)) 1
        have hS : Sat w11 (rf w0) [osl 3 (r0 (.int .i64)) 1 none 0 ([] : List Int), osl 3 (r0 (.int .i64)) 1 none 0 ([] : List Int), osl 3 (r0 (.int .i64)) 1 none 0 ([] : List Int), pts b1 (.cells #[.int .i64 a1_0, .int .i64 a1_1] 36 (0, 0))] := hS.sel [2, 1, 0, 3] (by kernel_rfl)
        obtain ⟨o40, e41, H⟩ := bind_ex H
        refine WC.loop (by kernel_rfl) ?_
        refine WL.weaken [0, 2, 4, 7, 8, 9, 30, 31, 32] (L' := [(0, .slice A0 l0.length c0), (2, .int .i64 a2), (4, .pointer (some ⟨b1, 0, none⟩)), (7, .slice none 0 0), (8, .slice none 0 0), (9, .slice none 0 0), (30, .slice A0 l0.length c0), (31, .int .i64 (l0.length : Int)), (32, .int .i64 0)]) (by kernel_rfl) ?_
        refine colophonlaw14_RmqMoves.l1_ok w0 A0 c0 l0 a1_0 a1_1 a2 b1 R0 o40 (fun A7_q42 c7_q42 A8_q42 c8_q42 A9_q42 c9_q42 w43 hS => ?_) FU ([] : List Int) ([] : List Int) ([] : List Int) 0 none 0 none 0 none 0 _ hS e41
        refine At.hit ?_
        refine At.go ?_
        refine WC.seq (by kernel_rfl) ?_
        refine WC.reg [0, 1, 2, 3, 4, 5, 6, 7] (by kernel_rfl) (by kernel_rfl) ?_
        refine WR.runk [0, 1, 2, 3, 4] [5, 6, 7] [4, 7, 8, 9, 54, 57] (L' := [(4, .pointer (some ⟨b1, 0, none⟩)), (7, .slice A7_q42 o40.1.length c7_q42), (8, .slice A8_q42 o40.2.1.length c8_q42), (9, .slice A9_q42 o40.2.2.length c9_q42), (54, .int .u64 (IntKind.wrap .u64 a2)), (57, .int .u64 (IntKind.wrap .u64 (l0.length : Int)))]) (w' := w43) (by kernel_rfl) ?_
        obtain ⟨_, e45, H⟩ := bind_ex H
        refine WR.st (St.ofP (PSt.div (k := .u64) (t := 33) (t2 := 33) (a := (IntKind.wrap .u64 a2)) (b := (IntKind.wrap .u64 (l0.length : Int))) .rem (by decide) (.tmp 54) (.tmp 57) (by kernel_rfl) (by kernel_rfl) (by kernel_rfl) (by kernel_rfl) (of_decide_eq_true (chk?_some e45)) ?_))
        refine WR.runk [6, 7] [] [4, 7, 8, 9, 12] (L' := [(4, .pointer (some ⟨b1, 0, none⟩)), (7, .slice A7_q42 o40.1.length c7_q42), (8, .slice A8_q42 o40.2.1.length c8_q42), (9, .slice A9_q42 o40.2.2.length c9_q42), (12, .int .i64 (wi (Int.tmod (IntKind.wrap .u64 a2) (IntKind.wrap .u64 (l0.length : Int)))))]) (w' := w43) (by kernel_rfl) ?_
        refine WR.nil ?_
        refine At.go ?_
        refine WC.seq (by kernel_rfl) ?_
        refine WC.reg [0, 1, 2, 3] (by kernel_rfl) (by kernel_rfl) ?_
        refine WR.runk [0, 1] [2, 3] [4, 7, 8, 9, 12, 60, 61] (L' := [(4, .pointer (some ⟨b1, 0, none⟩)), (7, .slice A7_q42 o40.1.length c7_q42), (8, .slice A8_q42 o40.2.1.length c8_q42), (9, .slice A9_q42 o40.2.2.length c9_q42), (12, .int .i64 (wi (Int.tmod (IntKind.wrap .u64 a2) (IntKind.wrap .u64 (l0.length : Int))))), (60, .slice A9_q42 o40.2.2.length c9_q42), (61, .int .i64 (wi (Int.tmod (IntKind.wrap .u64 a2) (IntKind.wrap .u64 (l0.length : Int)))))]) (w' := w43) (by kernel_rfl) ?_
        obtain ⟨v46, e47, H⟩ := bind_ex H
        refine WR.st (St.ofP (PSt.idx (k := .i64) (.tmp 60) (.tmp 61) (by kernel_rfl) (by kernel_rfl) E22 (by kernel_rfl) (by kernel_rfl) (Sat.rdAt 2 hS rfl) e47 ?_))
        refine WR.runk [] [3] [4, 7, 8, 9, 12, 62] (L' := [(4, .pointer (some ⟨b1, 0, none⟩)), (7, .slice A7_q42 o40.1.length c7_q42), (8, .slice A8_q42 o40.2.1.length c8_q42), (9, .slice A9_q42 o40.2.2.length c9_q42), (12, .int .i64 (wi (Int.tmod (IntKind.wrap .u64 a2) (IntKind.wrap .u64 (l0.length : Int))))), (62, .pointer (some (adr A9_q42 (wi (Int.tmod (IntKind.wrap .u64 a2) (IntKind.wrap .u64 (l0.length : Int)))).toNat 1)))]) (w' := w43) (by kernel_rfl) ?_
        have hS : Sat w43 (rf w0) [osl 3 (r0 (.int .i64)) 1 A9_q42 c9_q42 o40.2.2, osl 3 (r0 (.int .i64)) 1 A7_q42 c7_q42 o40.1, osl 3 (r0 (.int .i64)) 1 A8_q42 c8_q42 o40.2.1, pts b1 (.cells #[.int .i64 a1_0, .int .i64 a1_1] 36 (0, 0))] := hS.sel [2, 0, 1, 3] (by kernel_rfl)
        obtain ⟨y48, e49, H⟩ := bind_ex H
        refine WR.st (St.storeElem' (t := 3) (.tmp 62) (.const (.int .i64 (-500))) (by kernel_rfl) (by kernel_rfl) (by kernel_rfl) hS (by kernel_rfl) (by kernel_rfl) rfl e49 rfl (fun w50 hS => ?_))
        have hl51 := set?_len e49
        refine WR.know 9 (.slice A9_q42 y48.length c9_q42) (.slice A9_q42 o40.2.2.length c9_q42) (by kernel_rfl) (by rw [hl51]) ?_
        refine WR.runk [] [] [4, 7, 8, 9, 12] (L' := [(4, .pointer (some ⟨b1, 0, none⟩)), (7, .slice A7_q42 o40.1.length c7_q42), (8, .slice A8_q42 o40.2.1.length c8_q42), (9, .slice A9_q42 y48.length c9_q42), (12, .int .i64 (wi (Int.tmod (IntKind.wrap .u64 a2) (IntKind.wrap .u64 (l0.length : Int)))))]) (w' := w50) (by kernel_rfl) ?_
        refine WR.nil ?_
        refine At.go ?_
        refine WC.seq (by kernel_rfl) ?_
        refine WC.reg [0, 1, 2, 3, 4, 5, 6] (by kernel_rfl) (by kernel_rfl) ?_
        refine WR.runk [0] [1, 2, 3, 4, 5, 6] [4, 8, 9, 12, 64] (L' := [(4, .pointer (some ⟨b1, 0, none⟩)), (8, .slice A8_q42 o40.2.1.length c8_q42), (9, .slice A9_q42 y48.length c9_q42), (12, .int .i64 (wi (Int.tmod (IntKind.wrap .u64 a2) (IntKind.wrap .u64 (l0.length : Int))))), (64, .slice A7_q42 o40.1.length c7_q42)]) (w' := w50) (by kernel_rfl) ?_
        obtain ⟨r52, e53, H⟩ := bind_ex H
        refine WR.st (St.call (by kernel_rfl) (f := 8) (args := #[.slice A7_q42 o40.1.length c7_q42]) (by kernel_rfl) (rmq_New.calls w50 A7_q42 c7_q42 o40.1 (Sat.rdAt 1 hS rfl) r52 e53) ?_)
        rintro _ w59 ⟨pv61, rfl, hS60⟩
        have hS : Sat w59 (rf w0) [optP O43 pv61 r52.1, osl 3 (r0 (.int .i64)) 1 A9_q42 c9_q42 y48, osl 3 (r0 (.int .i64)) 1 A7_q42 c7_q42 o40.1, osl 3 (r0 (.int .i64)) 1 A8_q42 c8_q42 o40.2.1, pts b1 (.cells #[.int .i64 a1_0, .int .i64 a1_1] 36 (0, 0))] := hS.ext hS60
        refine WR.runk [2, 3, 4, 5, 6] [] [4, 8, 9, 12, 13] (L' := [(4, .pointer (some ⟨b1, 0, none⟩)), (8, .slice A8_q42 o40.2.1.length c8_q42), (9, .slice A9_q42 y48.length c9_q42), (12, .int .i64 (wi (Int.tmod (IntKind.wrap .u64 a2) (IntKind.wrap .u64 (l0.length : Int))))), (13, pv61)]) (w' := w59) (by kernel_rfl) ?_
        refine WR.nil ?_
        refine At.go ?_
        refine WC.seq (by kernel_rfl) ?_
        refine WC.reg [0, 1, 2, 3, 4, 5, 6] (by kernel_rfl) (by kernel_rfl) ?_
        refine WR.runk [0] [1, 2, 3, 4, 5, 6] [4, 9, 12, 13, 69] (L' := [(4, .pointer (some ⟨b1, 0, none⟩)), (9, .slice A9_q42 y48.length c9_q42), (12, .int .i64 (wi (Int.tmod (IntKind.wrap .u64 a2) (IntKind.wrap .u64 (l0.length : Int))))), (13, pv61), (69, .slice A8_q42 o40.2.1.length c8_q42)]) (w' := w59) (by kernel_rfl) ?_
        obtain ⟨r62, e63, H⟩ := bind_ex H
        refine WR.st (St.call (by kernel_rfl) (f := 8) (args := #[.slice A8_q42 o40.2.1.length c8_q42]) (by kernel_rfl) (rmq_New.calls w59 A8_q42 c8_q42 o40.2.1 (Sat.rdAt 3 hS rfl) r62 e63) ?_)
        rintro _ w69 ⟨pv71, rfl, hS70⟩
        have hS : Sat w69 (rf w0) [optP O43 pv71 r62.1, optP O43 pv61 r52.1, osl 3 (r0 (.int .i64)) 1 A9_q42 c9_q42 y48, osl 3 (r0 (.int .i64)) 1 A7_q42 c7_q42 o40.1, osl 3 (r0 (.int .i64)) 1 A8_q42 c8_q42 o40.2.1, pts b1 (.cells #[.int .i64 a1_0, .int .i64 a1_1] 36 (0, 0))] := hS.ext hS70
        refine WR.runk [2, 3, 4, 5, 6] [] [4, 9, 12, 13, 15] (L' := [(4, .pointer (some ⟨b1, 0, none⟩)), (9, .slice A9_q42 y48.length c9_q42), (12, .int .i64 (wi (Int.tmod (IntKind.wrap .u64 a2) (IntKind.wrap .u64 (l0.length : Int))))), (13, pv61), (15, pv71)]) (w' := w69) (by kernel_rfl) ?_
        refine WR.nil ?_
        refine At.go ?_
        refine WC.seq (by kernel_rfl) ?_
        refine WC.reg [0, 1, 2, 3, 4, 5, 6] (by kernel_rfl) (by kernel_rfl) ?_
        refine WR.runk [0] [1, 2, 3, 4, 5, 6] [4, 12, 13, 15, 74] (L' := [(4, .pointer (some ⟨b1, 0, none⟩)), (12, .int .i64 (wi (Int.tmod (IntKind.wrap .u64 a2) (IntKind.wrap .u64 (l0.length : Int))))), (13, pv61), (15, pv71), (74, .slice A9_q42 y48.length c9_q42)]) (w' := w69) (by kernel_rfl) ?_
        obtain ⟨r72, e73, H⟩ := bind_ex H
        refine WR.st (St.call (by kernel_rfl) (f := 8) (args := #[.slice A9_q42 y48.length c9_q42]) (by kernel_rfl) (rmq_New.calls w69 A9_q42 c9_q42 y48 (Sat.rdAt 2 hS rfl) r72 e73) ?_)
        rintro _ w79 ⟨pv81, rfl, hS80⟩
        have hS : Sat w79 (rf w0) [optP O43 pv81 r72.1, optP O43 pv71 r62.1, optP O43 pv61 r52.1, osl 3 (r0 (.int .i64)) 1 A9_q42 c9_q42 y48, osl 3 (r0 (.int .i64)) 1 A7_q42 c7_q42 o40.1, osl 3 (r0 (.int .i64)) 1 A8_q42 c8_q42 o40.2.1, pts b1 (.cells #[.int .i64 a1_0, .int .i64 a1_1] 36 (0, 0))] := hS.ext hS80
        refine WR.runk [2, 3, 4, 5, 6] [] [4, 12, 13, 15, 17] (L' := [(4, .pointer (some ⟨b1, 0, none⟩)), (12, .int .i64 (wi (Int.tmod (IntKind.wrap .u64 a2) (IntKind.wrap .u64 (l0.length : Int))))), (13, pv61), (15, pv71), (17, pv81)]) (w' := w79) (by kernel_rfl) ?_
        refine WR.nil ?_
        refine At.go ?_
        refine WC.seq (by kernel_rfl) ?_
        refine WC.reg [0, 1, 2, 3, 4, 5, 6] (by kernel_rfl) (by kernel_rfl) ?_
        refine WR.runk [0, 1] [2, 3, 4, 5, 6] [4, 12, 13, 15, 17, 78, 79] (L' := [(4, .pointer (some ⟨b1, 0, none⟩)), (12, .int .i64 (wi (Int.tmod (IntKind.wrap .u64 a2) (IntKind.wrap .u64 (l0.length : Int))))), (13, pv61), (15, pv71), (17, pv81), (78, pv61), (79, .pointer (some ⟨b1, 0, none⟩))]) (w' := w79) (by kernel_rfl) ?_
        refine WR.st (St.ofR (RSt.loadObj (t := 3) (k := 0) (v := .int .i64 a1_0) (.tmp 79) (by kernel_rfl) (by kernel_rfl) (by kernel_rfl) 6 hS rfl (by kernel_rfl) rfl ?_))
        refine WR.runk [3] [4, 5, 6] [4, 12, 13, 15, 17, 78, 80, 81] (L' := [(4, .pointer (some ⟨b1, 0, none⟩)), (12, .int .i64 (wi (Int.tmod (IntKind.wrap .u64 a2) (IntKind.wrap .u64 (l0.length : Int))))), (13, pv61), (15, pv71), (17, pv81), (78, pv61), (80, .int .i64 a1_0), (81, .pointer (some ⟨b1, 1, none⟩))]) (w' := w79) (by kernel_rfl) ?_
        refine WR.st (St.ofR (RSt.loadObj (t := 3) (k := 1) (v := .int .i64 a1_1) (.tmp 81) (by kernel_rfl) (by kernel_rfl) (by kernel_rfl) 6 hS rfl (by kernel_rfl) rfl ?_))
        refine WR.runk [] [5, 6] [4, 12, 13, 15, 17, 78, 80, 82] (L' := [(4, .pointer (some ⟨b1, 0, none⟩)), (12, .int .i64 (wi (Int.tmod (IntKind.wrap .u64 a2) (IntKind.wrap .u64 (l0.length : Int))))), (13, pv61), (15, pv71), (17, pv81), (78, pv61), (80, .int .i64 a1_0), (82, .int .i64 a1_1)]) (w' := w79) (by kernel_rfl) ?_
        obtain ⟨r82, e83, H⟩ := bind_ex H
        refine WR.st (St.call (by kernel_rfl) (f := 10) (args := #[pv61, .int .i64 a1_0, .int .i64 a1_1]) (by kernel_rfl) (rmq_Table_Least.calls w79 (pv61) r52.1 (Sat.rdAny 2 hS rfl (fun _ h => optP.rdd (t := 43) (κ := (.pair (.slice 3 (.int .i64)) (.slice 22 (.slice 3 (.int .i64))))) (O := O43) O43.rd h)) a1_0 a1_1 r82 e83) ?_)
        rintro _ w89 ⟨rfl, hS90⟩
        have hS : Sat w89 (rf w0) [optP O43 pv81 r72.1, optP O43 pv71 r62.1, optP O43 pv61 r52.1, osl 3 (r0 (.int .i64)) 1 A9_q42 c9_q42 y48, osl 3 (r0 (.int .i64)) 1 A7_q42 c7_q42 o40.1, osl 3 (r0 (.int .i64)) 1 A8_q42 c8_q42 o40.2.1, pts b1 (.cells #[.int .i64 a1_0, .int .i64 a1_1] 36 (0, 0))] := hS.ext hS90
        refine WR.runk [6] [] [4, 12, 13, 15, 17, 19] (L' := [(4, .pointer (some ⟨b1, 0, none⟩)), (12, .int .i64 (wi (Int.tmod (IntKind.wrap .u64 a2) (IntKind.wrap .u64 (l0.length : Int))))), (13, pv61), (15, pv71), (17, pv81), (19, .int .i64 r82)]) (w' := w89) (by kernel_rfl) ?_
        refine WR.nil ?_
        refine At.go ?_
        refine WC.seq (by kernel_rfl) ?_
        refine WC.seq (by kernel_rfl) ?_
        refine WC.reg [0, 1, 2, 3, 4, 5, 6, 7, 8, 9] (by kernel_rfl) (by kernel_rfl) ?_
        refine WR.runk [0, 1] [2, 3, 4, 5, 6, 7, 8, 9] [4, 12, 13, 15, 17, 19, 84, 85] (L' := [(4, .pointer (some ⟨b1, 0, none⟩)), (12, .int .i64 (wi (Int.tmod (IntKind.wrap .u64 a2) (IntKind.wrap .u64 (l0.length : Int))))), (13, pv61), (15, pv71), (17, pv81), (19, .int .i64 r82), (84, .int .i64 (wi (Int.tmod (IntKind.wrap .u64 a2) (IntKind.wrap .u64 (l0.length : Int))))), (85, .pointer (some ⟨b1, 0, none⟩))]) (w' := w89) (by kernel_rfl) ?_
        refine WR.st (St.ofR (RSt.loadObj (t := 3) (k := 0) (v := .int .i64 a1_0) (.tmp 85) (by kernel_rfl) (by kernel_rfl) (by kernel_rfl) 6 hS rfl (by kernel_rfl) rfl ?_))
        refine WR.runk [3, 4] [5, 6, 7, 8, 9] [4, 12, 13, 15, 17, 19, 88] (L' := [(4, .pointer (some ⟨b1, 0, none⟩)), (12, .int .i64 (wi (Int.tmod (IntKind.wrap .u64 a2) (IntKind.wrap .u64 (l0.length : Int))))), (13, pv61), (15, pv71), (17, pv81), (19, .int .i64 r82), (88, .bool (decide (wi (Int.tmod (IntKind.wrap .u64 a2) (IntKind.wrap .u64 (l0.length : Int))) ≥ a1_0)))]) (w' := w89) (by kernel_rfl) ?_
        refine WR.split 88 (b := decide (wi (Int.tmod (IntKind.wrap .u64 a2) (IntKind.wrap .u64 (l0.length : Int))) ≥ a1_0)) (by kernel_rfl) (fun hb91 => ?_) (fun hb91 => ?_)
        · replace H := ite_t H hb91
          refine WR.runk [5, 6] [7, 8, 9] [4, 12, 13, 15, 17, 19, 88, 89, 90] (L' := [(4, .pointer (some ⟨b1, 0, none⟩)), (12, .int .i64 (wi (Int.tmod (IntKind.wrap .u64 a2) (IntKind.wrap .u64 (l0.length : Int))))), (13, pv61), (15, pv71), (17, pv81), (19, .int .i64 r82), (88, .bool true), (89, .int .i64 (wi (Int.tmod (IntKind.wrap .u64 a2) (IntKind.wrap .u64 (l0.length : Int))))), (90, .pointer (some ⟨b1, 1, none⟩))]) (w' := w89) (by kernel_rfl) ?_
          refine WR.st (St.ofR (RSt.loadObj (t := 3) (k := 1) (v := .int .i64 a1_1) (.tmp 90) (by kernel_rfl) (by kernel_rfl) (by kernel_rfl) 6 hS rfl (by kernel_rfl) rfl ?_))
          refine WR.runk [8, 9] [] [4, 12, 13, 15, 17, 19, 93] (L' := [(4, .pointer (some ⟨b1, 0, none⟩)), (12, .int .i64 (wi (Int.tmod (IntKind.wrap .u64 a2) (IntKind.wrap .u64 (l0.length : Int))))), (13, pv61), (15, pv71), (17, pv81), (19, .int .i64 r82), (93, .bool (decide (wi (Int.tmod (IntKind.wrap .u64 a2) (IntKind.wrap .u64 (l0.length : Int))) < a1_1)))]) (w' := w89) (by kernel_rfl) ?_
          refine WR.nil ?_
          refine At.go ?_
          refine WC.cond (by kernel_rfl) (decide (wi (Int.tmod (IntKind.wrap .u64 a2) (IntKind.wrap .u64 (l0.length : Int))) < a1_1)) (by kernel_rfl) (by kernel_rfl) (fun hb92 => ?_) (fun hb92 => ?_)
          · replace H := ite_t H hb92
            refine WC.reg [0, 1] (by kernel_rfl) (by kernel_rfl) ?_
            refine WR.runk [0, 1] [] [4, 13, 15, 17, 19] (L' := [(4, .pointer (some ⟨b1, 0, none⟩)), (13, pv61), (15, pv71), (17, pv81), (19, .int .i64 (wi (Int.tmod (IntKind.wrap .u64 a2) (IntKind.wrap .u64 (l0.length : Int)))))]) (w' := w89) (by kernel_rfl) ?_
            refine WR.nil ?_
            refine At.go ?_
            refine WC.seq (by kernel_rfl) ?_
            refine WC.drawn (by kernel_rfl) (by kernel_rfl) 24 (by kernel_rfl) (fun w93 hw94 => ?_)
            have hS := hS.heap hw94.1 hw94.2
            refine WD.weaken [4, 13, 15, 17, 19] (L' := [(4, .pointer (some ⟨b1, 0, none⟩)), (13, pv61), (15, pv71), (17, pv81), (19, .int .i64 (wi (Int.tmod (IntKind.wrap .u64 a2) (IntKind.wrap .u64 (l0.length : Int)))))]) (by kernel_rfl) ?_
            refine WD.pure (i := 0) (v := pv61) (by kernel_rfl) (by kernel_rfl) (fun _ => by kernel_rfl) ?_
            refine WD.weaken [4, 15, 17, 19, 95] (L' := [(4, .pointer (some ⟨b1, 0, none⟩)), (15, pv71), (17, pv81), (19, .int .i64 (wi (Int.tmod (IntKind.wrap .u64 a2) (IntKind.wrap .u64 (l0.length : Int))))), (95, pv61)]) (by kernel_rfl) ?_
            refine WD.pure (i := 1) (v := .pointer (some ⟨b1, 0, none⟩)) (by kernel_rfl) (by kernel_rfl) (fun _ => by kernel_rfl) ?_
            refine WD.weaken [4, 15, 17, 19, 95, 96] (L' := [(4, .pointer (some ⟨b1, 0, none⟩)), (15, pv71), (17, pv81), (19, .int .i64 (wi (Int.tmod (IntKind.wrap .u64 a2) (IntKind.wrap .u64 (l0.length : Int))))), (95, pv61), (96, .pointer (some ⟨b1, 0, none⟩))]) (by kernel_rfl) ?_
            refine WD.ofR (i := 2) (by kernel_rfl) (RSt.loadObj (t := 3) (k := 0) (v := .int .i64 a1_0) (.tmp 96) (by kernel_rfl) (by kernel_rfl) (by kernel_rfl) 6 hS rfl (by kernel_rfl) rfl ?_)
            refine WD.weaken [4, 15, 17, 19, 95, 97] (L' := [(4, .pointer (some ⟨b1, 0, none⟩)), (15, pv71), (17, pv81), (19, .int .i64 (wi (Int.tmod (IntKind.wrap .u64 a2) (IntKind.wrap .u64 (l0.length : Int))))), (95, pv61), (97, .int .i64 a1_0)]) (by kernel_rfl) ?_
            refine WD.pure (i := 3) (v := .pointer (some ⟨b1, 1, none⟩)) (by kernel_rfl) (by kernel_rfl) (fun _ => by kernel_rfl) ?_
            refine WD.weaken [4, 15, 17, 19, 95, 97, 98] (L' := [(4, .pointer (some ⟨b1, 0, none⟩)), (15, pv71), (17, pv81), (19, .int .i64 (wi (Int.tmod (IntKind.wrap .u64 a2) (IntKind.wrap .u64 (l0.length : Int))))), (95, pv61), (97, .int .i64 a1_0), (98, .pointer (some ⟨b1, 1, none⟩))]) (by kernel_rfl) ?_
            refine WD.ofR (i := 4) (by kernel_rfl) (RSt.loadObj (t := 3) (k := 1) (v := .int .i64 a1_1) (.tmp 98) (by kernel_rfl) (by kernel_rfl) (by kernel_rfl) 6 hS rfl (by kernel_rfl) rfl ?_)
            refine WD.weaken [4, 15, 17, 19, 95, 97, 99] (L' := [(4, .pointer (some ⟨b1, 0, none⟩)), (15, pv71), (17, pv81), (19, .int .i64 (wi (Int.tmod (IntKind.wrap .u64 a2) (IntKind.wrap .u64 (l0.length : Int))))), (95, pv61), (97, .int .i64 a1_0), (99, .int .i64 a1_1)]) (by kernel_rfl) ?_
            refine WD.pure (i := 6) (v := pv71) (by kernel_rfl) (by kernel_rfl) (fun _ => by kernel_rfl) ?_
            refine WD.weaken [4, 17, 19, 95, 97, 99, 101] (L' := [(4, .pointer (some ⟨b1, 0, none⟩)), (17, pv81), (19, .int .i64 (wi (Int.tmod (IntKind.wrap .u64 a2) (IntKind.wrap .u64 (l0.length : Int))))), (95, pv61), (97, .int .i64 a1_0), (99, .int .i64 a1_1), (101, pv71)]) (by kernel_rfl) ?_
            refine WD.pure (i := 7) (v := .pointer (some ⟨b1, 0, none⟩)) (by kernel_rfl) (by kernel_rfl) (fun _ => by kernel_rfl) ?_
            refine WD.weaken [4, 17, 19, 95, 97, 99, 101, 102] (L' := [(4, .pointer (some ⟨b1, 0, none⟩)), (17, pv81), (19, .int .i64 (wi (Int.tmod (IntKind.wrap .u64 a2) (IntKind.wrap .u64 (l0.length : Int))))), (95, pv61), (97, .int .i64 a1_0), (99, .int .i64 a1_1), (101, pv71), (102, .pointer (some ⟨b1, 0, none⟩))]) (by kernel_rfl) ?_
            refine WD.ofR (i := 8) (by kernel_rfl) (RSt.loadObj (t := 3) (k := 0) (v := .int .i64 a1_0) (.tmp 102) (by kernel_rfl) (by kernel_rfl) (by kernel_rfl) 6 hS rfl (by kernel_rfl) rfl ?_)
            refine WD.weaken [4, 17, 19, 95, 97, 99, 101, 103] (L' := [(4, .pointer (some ⟨b1, 0, none⟩)), (17, pv81), (19, .int .i64 (wi (Int.tmod (IntKind.wrap .u64 a2) (IntKind.wrap .u64 (l0.length : Int))))), (95, pv61), (97, .int .i64 a1_0), (99, .int .i64 a1_1), (101, pv71), (103, .int .i64 a1_0)]) (by kernel_rfl) ?_
            refine WD.pure (i := 9) (v := .pointer (some ⟨b1, 1, none⟩)) (by kernel_rfl) (by kernel_rfl) (fun _ => by kernel_rfl) ?_
            refine WD.weaken [4, 17, 19, 95, 97, 99, 101, 103, 104] (L' := [(4, .pointer (some ⟨b1, 0, none⟩)), (17, pv81), (19, .int .i64 (wi (Int.tmod (IntKind.wrap .u64 a2) (IntKind.wrap .u64 (l0.length : Int))))), (95, pv61), (97, .int .i64 a1_0), (99, .int .i64 a1_1), (101, pv71), (103, .int .i64 a1_0), (104, .pointer (some ⟨b1, 1, none⟩))]) (by kernel_rfl) ?_
            refine WD.ofR (i := 10) (by kernel_rfl) (RSt.loadObj (t := 3) (k := 1) (v := .int .i64 a1_1) (.tmp 104) (by kernel_rfl) (by kernel_rfl) (by kernel_rfl) 6 hS rfl (by kernel_rfl) rfl ?_)
            refine WD.weaken [4, 17, 19, 95, 97, 99, 101, 103, 105] (L' := [(4, .pointer (some ⟨b1, 0, none⟩)), (17, pv81), (19, .int .i64 (wi (Int.tmod (IntKind.wrap .u64 a2) (IntKind.wrap .u64 (l0.length : Int))))), (95, pv61), (97, .int .i64 a1_0), (99, .int .i64 a1_1), (101, pv71), (103, .int .i64 a1_0), (105, .int .i64 a1_1)]) (by kernel_rfl) ?_
            obtain ⟨r95, e96, H⟩ := bind_ex H
            refine WD.act (i := 5) (by kernel_rfl) (St.call (by kernel_rfl) (f := 10) (args := #[pv61, .int .i64 a1_0, .int .i64 a1_1]) (by kernel_rfl) (rmq_Table_Least.calls w93 (pv61) r52.1 (Sat.rdAny 2 hS rfl (fun _ h => optP.rdd (t := 43) (κ := (.pair (.slice 3 (.int .i64)) (.slice 22 (.slice 3 (.int .i64))))) (O := O43) O43.rd h)) a1_0 a1_1 r95 e96) ?_)
            rintro _ w102 ⟨rfl, hS103⟩
            have hS : Sat w102 (rf w0) [optP O43 pv81 r72.1, optP O43 pv71 r62.1, optP O43 pv61 r52.1, osl 3 (r0 (.int .i64)) 1 A9_q42 c9_q42 y48, osl 3 (r0 (.int .i64)) 1 A7_q42 c7_q42 o40.1, osl 3 (r0 (.int .i64)) 1 A8_q42 c8_q42 o40.2.1, pts b1 (.cells #[.int .i64 a1_0, .int .i64 a1_1] 36 (0, 0))] := hS.ext hS103
            refine ⟨(asked.cons (RSt.run (n := 118) (RSt.loadObj (t := 3) (k := 1) (v := .int .i64 a1_1) (.tmp 104) (by kernel_rfl) (by kernel_rfl) (by kernel_rfl) 6 hS rfl (by kernel_rfl) rfl rfl)) (asked.cons (RSt.run (n := 118) (RSt.loadObj (t := 3) (k := 0) (v := .int .i64 a1_0) (.tmp 102) (by kernel_rfl) (by kernel_rfl) (by kernel_rfl) 6 hS rfl (by kernel_rfl) rfl rfl)) (asked.anc (by kernel_rfl) (asked.anc (by kernel_rfl) (asked.nil _ _))))), ?_⟩
            refine WD.weaken [4, 17, 19, 100, 101, 103, 105] (L' := [(4, .pointer (some ⟨b1, 0, none⟩)), (17, pv81), (19, .int .i64 (wi (Int.tmod (IntKind.wrap .u64 a2) (IntKind.wrap .u64 (l0.length : Int))))), (100, .int .i64 r95), (101, pv71), (103, .int .i64 a1_0), (105, .int .i64 a1_1)]) (by kernel_rfl) ?_
            obtain ⟨r104, e105, H⟩ := bind_ex H
            refine WD.act (i := 11) (by kernel_rfl) (St.call (by kernel_rfl) (f := 10) (args := #[pv71, .int .i64 a1_0, .int .i64 a1_1]) (by kernel_rfl) (rmq_Table_Least.calls w102 (pv71) r62.1 (Sat.rdAny 1 hS rfl (fun _ h => optP.rdd (t := 43) (κ := (.pair (.slice 3 (.int .i64)) (.slice 22 (.slice 3 (.int .i64))))) (O := O43) O43.rd h)) a1_0 a1_1 r104 e105) ?_)
            rintro _ w111 ⟨rfl, hS112⟩
            have hS : Sat w111 (rf w0) [optP O43 pv81 r72.1, optP O43 pv71 r62.1, optP O43 pv61 r52.1, osl 3 (r0 (.int .i64)) 1 A9_q42 c9_q42 y48, osl 3 (r0 (.int .i64)) 1 A7_q42 c7_q42 o40.1, osl 3 (r0 (.int .i64)) 1 A8_q42 c8_q42 o40.2.1, pts b1 (.cells #[.int .i64 a1_0, .int .i64 a1_1] 36 (0, 0))] := hS.ext hS112
            refine ⟨(asked.anc (by kernel_rfl) (asked.anc (by kernel_rfl) (asked.anc (by kernel_rfl) (asked.anc (by kernel_rfl) (asked.nil _ _))))), ?_⟩
            refine WD.weaken [4, 17, 19, 100, 106] (L' := [(4, .pointer (some ⟨b1, 0, none⟩)), (17, pv81), (19, .int .i64 (wi (Int.tmod (IntKind.wrap .u64 a2) (IntKind.wrap .u64 (l0.length : Int))))), (100, .int .i64 r95), (106, .int .i64 r104)]) (by kernel_rfl) ?_
            refine WD.pure (i := 12) (v := .bool (r95 == r104)) (by kernel_rfl) (by kernel_rfl) (fun _ => by kernel_rfl) ?_
            refine WD.weaken [4, 17, 19, 107] (L' := [(4, .pointer (some ⟨b1, 0, none⟩)), (17, pv81), (19, .int .i64 (wi (Int.tmod (IntKind.wrap .u64 a2) (IntKind.wrap .u64 (l0.length : Int))))), (107, .bool (r95 == r104))]) (by kernel_rfl) ?_
            refine WD.pure (i := 13) (v := .bool (r95 == r104)) (by kernel_rfl) (by kernel_rfl) (fun _ => by kernel_rfl) ?_
            refine WD.weaken [4, 17, 19, 108] (L' := [(4, .pointer (some ⟨b1, 0, none⟩)), (17, pv81), (19, .int .i64 (wi (Int.tmod (IntKind.wrap .u64 a2) (IntKind.wrap .u64 (l0.length : Int))))), (108, .bool (r95 == r104))]) (by kernel_rfl) ?_
            refine WD.split 108 (b := (r95 == r104)) (by kernel_rfl) (fun hb113 => ?_) (fun hb113 => ?_)
            · replace H := ite_t H hb113
              refine WD.weaken [4, 17, 19, 108] (L' := [(4, .pointer (some ⟨b1, 0, none⟩)), (17, pv81), (19, .int .i64 (wi (Int.tmod (IntKind.wrap .u64 a2) (IntKind.wrap .u64 (l0.length : Int))))), (108, .bool true)]) (by kernel_rfl) ?_
              refine WD.pure (i := 14) (v := pv81) (by kernel_rfl) (by kernel_rfl) (fun _ => by kernel_rfl) ?_
              refine WD.weaken [4, 19, 108, 109] (L' := [(4, .pointer (some ⟨b1, 0, none⟩)), (19, .int .i64 (wi (Int.tmod (IntKind.wrap .u64 a2) (IntKind.wrap .u64 (l0.length : Int))))), (108, .bool true), (109, pv81)]) (by kernel_rfl) ?_
              refine WD.pure (i := 15) (v := .pointer (some ⟨b1, 0, none⟩)) (by kernel_rfl) (by kernel_rfl) (fun _ => by kernel_rfl) ?_
              refine WD.weaken [4, 19, 108, 109, 110] (L' := [(4, .pointer (some ⟨b1, 0, none⟩)), (19, .int .i64 (wi (Int.tmod (IntKind.wrap .u64 a2) (IntKind.wrap .u64 (l0.length : Int))))), (108, .bool true), (109, pv81), (110, .pointer (some ⟨b1, 0, none⟩))]) (by kernel_rfl) ?_
              refine WD.ofR (i := 16) (by kernel_rfl) (RSt.loadObj (t := 3) (k := 0) (v := .int .i64 a1_0) (.tmp 110) (by kernel_rfl) (by kernel_rfl) (by kernel_rfl) 6 hS rfl (by kernel_rfl) rfl ?_)
              refine WD.weaken [4, 19, 108, 109, 111] (L' := [(4, .pointer (some ⟨b1, 0, none⟩)), (19, .int .i64 (wi (Int.tmod (IntKind.wrap .u64 a2) (IntKind.wrap .u64 (l0.length : Int))))), (108, .bool true), (109, pv81), (111, .int .i64 a1_0)]) (by kernel_rfl) ?_
              refine WD.pure (i := 17) (v := .pointer (some ⟨b1, 1, none⟩)) (by kernel_rfl) (by kernel_rfl) (fun _ => by kernel_rfl) ?_
              refine WD.weaken [19, 108, 109, 111, 112] (L' := [(19, .int .i64 (wi (Int.tmod (IntKind.wrap .u64 a2) (IntKind.wrap .u64 (l0.length : Int))))), (108, .bool true), (109, pv81), (111, .int .i64 a1_0), (112, .pointer (some ⟨b1, 1, none⟩))]) (by kernel_rfl) ?_
              refine WD.ofR (i := 18) (by kernel_rfl) (RSt.loadObj (t := 3) (k := 1) (v := .int .i64 a1_1) (.tmp 112) (by kernel_rfl) (by kernel_rfl) (by kernel_rfl) 6 hS rfl (by kernel_rfl) rfl ?_)
              refine WD.weaken [19, 108, 109, 111, 113] (L' := [(19, .int .i64 (wi (Int.tmod (IntKind.wrap .u64 a2) (IntKind.wrap .u64 (l0.length : Int))))), (108, .bool true), (109, pv81), (111, .int .i64 a1_0), (113, .int .i64 a1_1)]) (by kernel_rfl) ?_
              refine WD.pure (i := 20) (v := .int .i64 (wi (Int.tmod (IntKind.wrap .u64 a2) (IntKind.wrap .u64 (l0.length : Int))))) (by kernel_rfl) (by kernel_rfl) (fun _ => by kernel_rfl) ?_
              refine WD.weaken [108, 109, 111, 113, 115] (L' := [(108, .bool true), (109, pv81), (111, .int .i64 a1_0), (113, .int .i64 a1_1), (115, .int .i64 (wi (Int.tmod (IntKind.wrap .u64 a2) (IntKind.wrap .u64 (l0.length : Int)))))]) (by kernel_rfl) ?_
              obtain ⟨r114, e115, H⟩ := bind_ex H
              refine WD.act (i := 19) (by kernel_rfl) (St.call (by kernel_rfl) (f := 10) (args := #[pv81, .int .i64 a1_0, .int .i64 a1_1]) (by kernel_rfl) (rmq_Table_Least.calls w111 (pv81) r72.1 (Sat.rdAny 0 hS rfl (fun _ h => optP.rdd (t := 43) (κ := (.pair (.slice 3 (.int .i64)) (.slice 22 (.slice 3 (.int .i64))))) (O := O43) O43.rd h)) a1_0 a1_1 r114 e115) ?_)
              rintro _ w121 ⟨rfl, hS122⟩
              have hS : Sat w121 (rf w0) [optP O43 pv81 r72.1, optP O43 pv71 r62.1, optP O43 pv61 r52.1, osl 3 (r0 (.int .i64)) 1 A9_q42 c9_q42 y48, osl 3 (r0 (.int .i64)) 1 A7_q42 c7_q42 o40.1, osl 3 (r0 (.int .i64)) 1 A8_q42 c8_q42 o40.2.1, pts b1 (.cells #[.int .i64 a1_0, .int .i64 a1_1] 36 (0, 0))] := hS.ext hS122
              refine ⟨(asked.anc (by kernel_rfl) (asked.anc (by kernel_rfl) (asked.anc (by kernel_rfl) (asked.anc (by kernel_rfl) (asked.anc (by kernel_rfl) (asked.anc (by kernel_rfl) (asked.nil _ _))))))), ?_⟩
              refine WD.weaken [108, 114, 115] (L' := [(108, .bool true), (114, .int .i64 r114), (115, .int .i64 (wi (Int.tmod (IntKind.wrap .u64 a2) (IntKind.wrap .u64 (l0.length : Int)))))]) (by kernel_rfl) ?_
              refine WD.pure (i := 21) (v := .bool (r114 == (wi (Int.tmod (IntKind.wrap .u64 a2) (IntKind.wrap .u64 (l0.length : Int)))))) (by kernel_rfl) (by kernel_rfl) (fun _ => by kernel_rfl) ?_
              refine WD.weaken [108, 116] (L' := [(108, .bool true), (116, .bool (r114 == (wi (Int.tmod (IntKind.wrap .u64 a2) (IntKind.wrap .u64 (l0.length : Int))))))]) (by kernel_rfl) ?_
              refine WD.pure (i := 22) (v := .bool (r114 == (wi (Int.tmod (IntKind.wrap .u64 a2) (IntKind.wrap .u64 (l0.length : Int)))))) (by kernel_rfl) (by kernel_rfl) (fun _ => by kernel_rfl) ?_
              refine WD.weaken [117] (L' := [(117, .bool (r114 == (wi (Int.tmod (IntKind.wrap .u64 a2) (IntKind.wrap .u64 (l0.length : Int))))))]) (by kernel_rfl) ?_
              refine WD.pure (i := 23) (v := .bool (r114 == (wi (Int.tmod (IntKind.wrap .u64 a2) (IntKind.wrap .u64 (l0.length : Int)))))) (by kernel_rfl) (by kernel_rfl) (fun _ => by kernel_rfl) ?_
              refine WD.weaken [6] (L' := [(6, .bool (r114 == (wi (Int.tmod (IntKind.wrap .u64 a2) (IntKind.wrap .u64 (l0.length : Int))))))]) (by kernel_rfl) ?_
              refine WD.nil (by kernel_rfl) ?_
              refine At.go ?_
              refine WC.ret (by kernel_rfl) ?_
              obtain rfl := Option.some.inj H
              have hS : Sat w121 (rf w0) [] := hS.sel [] (by kernel_rfl)
              exact At.body [.bool (r114 == (wi (Int.tmod (IntKind.wrap .u64 a2) (IntKind.wrap .u64 (l0.length : Int)))))] (by kernel_rfl) ⟨_, rfl, rfl, hS⟩
            · replace H := ite_f H hb113
              refine WD.weaken [4, 17, 19, 108] (L' := [(4, .pointer (some ⟨b1, 0, none⟩)), (17, pv81), (19, .int .i64 (wi (Int.tmod (IntKind.wrap .u64 a2) (IntKind.wrap .u64 (l0.length : Int))))), (108, .bool false)]) (by kernel_rfl) ?_
              refine WD.skip (i := 14) (by kernel_rfl) (by kernel_rfl) ?_
              refine WD.weaken [4, 19, 108, 109] (L' := [(4, .pointer (some ⟨b1, 0, none⟩)), (19, .int .i64 (wi (Int.tmod (IntKind.wrap .u64 a2) (IntKind.wrap .u64 (l0.length : Int))))), (108, .bool false), (109, undef)]) (by kernel_rfl) ?_
              refine WD.skip (i := 15) (by kernel_rfl) (by kernel_rfl) ?_
              refine WD.weaken [4, 19, 108, 109, 110] (L' := [(4, .pointer (some ⟨b1, 0, none⟩)), (19, .int .i64 (wi (Int.tmod (IntKind.wrap .u64 a2) (IntKind.wrap .u64 (l0.length : Int))))), (108, .bool false), (109, undef), (110, undef)]) (by kernel_rfl) ?_
              refine WD.skip (i := 16) (by kernel_rfl) (by kernel_rfl) ?_
              refine WD.weaken [4, 19, 108, 109, 111] (L' := [(4, .pointer (some ⟨b1, 0, none⟩)), (19, .int .i64 (wi (Int.tmod (IntKind.wrap .u64 a2) (IntKind.wrap .u64 (l0.length : Int))))), (108, .bool false), (109, undef), (111, undef)]) (by kernel_rfl) ?_
              refine WD.skip (i := 17) (by kernel_rfl) (by kernel_rfl) ?_
              refine WD.weaken [19, 108, 109, 111, 112] (L' := [(19, .int .i64 (wi (Int.tmod (IntKind.wrap .u64 a2) (IntKind.wrap .u64 (l0.length : Int))))), (108, .bool false), (109, undef), (111, undef), (112, undef)]) (by kernel_rfl) ?_
              refine WD.skip (i := 18) (by kernel_rfl) (by kernel_rfl) ?_
              refine WD.weaken [19, 108, 109, 111, 113] (L' := [(19, .int .i64 (wi (Int.tmod (IntKind.wrap .u64 a2) (IntKind.wrap .u64 (l0.length : Int))))), (108, .bool false), (109, undef), (111, undef), (113, undef)]) (by kernel_rfl) ?_
              refine WD.skip (i := 20) (by kernel_rfl) (by kernel_rfl) ?_
              refine WD.weaken [108, 109, 111, 113, 115] (L' := [(108, .bool false), (109, undef), (111, undef), (113, undef), (115, undef)]) (by kernel_rfl) ?_
              refine WD.skip (i := 19) (by kernel_rfl) (by kernel_rfl) ?_
              refine WD.weaken [108, 114, 115] (L' := [(108, .bool false), (114, undef), (115, undef)]) (by kernel_rfl) ?_
              refine WD.skip (i := 21) (by kernel_rfl) (by kernel_rfl) ?_
              refine WD.weaken [108, 116] (L' := [(108, .bool false), (116, undef)]) (by kernel_rfl) ?_
              refine WD.pure (i := 22) (v := .bool false) (by kernel_rfl) (by kernel_rfl) (fun _ => by kernel_rfl) ?_
              refine WD.weaken [117] (L' := [(117, .bool false)]) (by kernel_rfl) ?_
              refine WD.pure (i := 23) (v := .bool false) (by kernel_rfl) (by kernel_rfl) (fun _ => by kernel_rfl) ?_
              refine WD.weaken [6] (L' := [(6, .bool false)]) (by kernel_rfl) ?_
              refine WD.nil (by kernel_rfl) ?_
              refine At.go ?_
              refine WC.ret (by kernel_rfl) ?_
              obtain rfl := Option.some.inj H
              have hS : Sat w111 (rf w0) [] := hS.sel [] (by kernel_rfl)
              exact At.body [.bool false] (by kernel_rfl) ⟨_, rfl, rfl, hS⟩
          · replace H := ite_f H hb92
            refine WC.skip (by kernel_rfl) ?_
            refine At.go ?_
            refine WC.seq (by kernel_rfl) ?_
            refine WC.drawn (by kernel_rfl) (by kernel_rfl) 24 (by kernel_rfl) (fun w123 hw124 => ?_)
            have hS := hS.heap hw124.1 hw124.2
            refine WD.weaken [4, 13, 15, 17, 19] (L' := [(4, .pointer (some ⟨b1, 0, none⟩)), (13, pv61), (15, pv71), (17, pv81), (19, .int .i64 r82)]) (by kernel_rfl) ?_
            refine WD.pure (i := 0) (v := pv61) (by kernel_rfl) (by kernel_rfl) (fun _ => by kernel_rfl) ?_
            refine WD.weaken [4, 15, 17, 19, 95] (L' := [(4, .pointer (some ⟨b1, 0, none⟩)), (15, pv71), (17, pv81), (19, .int .i64 r82), (95, pv61)]) (by kernel_rfl) ?_
            refine WD.pure (i := 1) (v := .pointer (some ⟨b1, 0, none⟩)) (by kernel_rfl) (by kernel_rfl) (fun _ => by kernel_rfl) ?_
            refine WD.weaken [4, 15, 17, 19, 95, 96] (L' := [(4, .pointer (some ⟨b1, 0, none⟩)), (15, pv71), (17, pv81), (19, .int .i64 r82), (95, pv61), (96, .pointer (some ⟨b1, 0, none⟩))]) (by kernel_rfl) ?_
            refine WD.ofR (i := 2) (by kernel_rfl) (RSt.loadObj (t := 3) (k := 0) (v := .int .i64 a1_0) (.tmp 96) (by kernel_rfl) (by kernel_rfl) (by kernel_rfl) 6 hS rfl (by kernel_rfl) rfl ?_)
            refine WD.weaken [4, 15, 17, 19, 95, 97] (L' := [(4, .pointer (some ⟨b1, 0, none⟩)), (15, pv71), (17, pv81), (19, .int .i64 r82), (95, pv61), (97, .int .i64 a1_0)]) (by kernel_rfl) ?_
            refine WD.pure (i := 3) (v := .pointer (some ⟨b1, 1, none⟩)) (by kernel_rfl) (by kernel_rfl) (fun _ => by kernel_rfl) ?_
            refine WD.weaken [4, 15, 17, 19, 95, 97, 98] (L' := [(4, .pointer (some ⟨b1, 0, none⟩)), (15, pv71), (17, pv81), (19, .int .i64 r82), (95, pv61), (97, .int .i64 a1_0), (98, .pointer (some ⟨b1, 1, none⟩))]) (by kernel_rfl) ?_
            refine WD.ofR (i := 4) (by kernel_rfl) (RSt.loadObj (t := 3) (k := 1) (v := .int .i64 a1_1) (.tmp 98) (by kernel_rfl) (by kernel_rfl) (by kernel_rfl) 6 hS rfl (by kernel_rfl) rfl ?_)
            refine WD.weaken [4, 15, 17, 19, 95, 97, 99] (L' := [(4, .pointer (some ⟨b1, 0, none⟩)), (15, pv71), (17, pv81), (19, .int .i64 r82), (95, pv61), (97, .int .i64 a1_0), (99, .int .i64 a1_1)]) (by kernel_rfl) ?_
            refine WD.pure (i := 6) (v := pv71) (by kernel_rfl) (by kernel_rfl) (fun _ => by kernel_rfl) ?_
            refine WD.weaken [4, 17, 19, 95, 97, 99, 101] (L' := [(4, .pointer (some ⟨b1, 0, none⟩)), (17, pv81), (19, .int .i64 r82), (95, pv61), (97, .int .i64 a1_0), (99, .int .i64 a1_1), (101, pv71)]) (by kernel_rfl) ?_
            refine WD.pure (i := 7) (v := .pointer (some ⟨b1, 0, none⟩)) (by kernel_rfl) (by kernel_rfl) (fun _ => by kernel_rfl) ?_
            refine WD.weaken [4, 17, 19, 95, 97, 99, 101, 102] (L' := [(4, .pointer (some ⟨b1, 0, none⟩)), (17, pv81), (19, .int .i64 r82), (95, pv61), (97, .int .i64 a1_0), (99, .int .i64 a1_1), (101, pv71), (102, .pointer (some ⟨b1, 0, none⟩))]) (by kernel_rfl) ?_
            refine WD.ofR (i := 8) (by kernel_rfl) (RSt.loadObj (t := 3) (k := 0) (v := .int .i64 a1_0) (.tmp 102) (by kernel_rfl) (by kernel_rfl) (by kernel_rfl) 6 hS rfl (by kernel_rfl) rfl ?_)
            refine WD.weaken [4, 17, 19, 95, 97, 99, 101, 103] (L' := [(4, .pointer (some ⟨b1, 0, none⟩)), (17, pv81), (19, .int .i64 r82), (95, pv61), (97, .int .i64 a1_0), (99, .int .i64 a1_1), (101, pv71), (103, .int .i64 a1_0)]) (by kernel_rfl) ?_
            refine WD.pure (i := 9) (v := .pointer (some ⟨b1, 1, none⟩)) (by kernel_rfl) (by kernel_rfl) (fun _ => by kernel_rfl) ?_
            refine WD.weaken [4, 17, 19, 95, 97, 99, 101, 103, 104] (L' := [(4, .pointer (some ⟨b1, 0, none⟩)), (17, pv81), (19, .int .i64 r82), (95, pv61), (97, .int .i64 a1_0), (99, .int .i64 a1_1), (101, pv71), (103, .int .i64 a1_0), (104, .pointer (some ⟨b1, 1, none⟩))]) (by kernel_rfl) ?_
            refine WD.ofR (i := 10) (by kernel_rfl) (RSt.loadObj (t := 3) (k := 1) (v := .int .i64 a1_1) (.tmp 104) (by kernel_rfl) (by kernel_rfl) (by kernel_rfl) 6 hS rfl (by kernel_rfl) rfl ?_)
            refine WD.weaken [4, 17, 19, 95, 97, 99, 101, 103, 105] (L' := [(4, .pointer (some ⟨b1, 0, none⟩)), (17, pv81), (19, .int .i64 r82), (95, pv61), (97, .int .i64 a1_0), (99, .int .i64 a1_1), (101, pv71), (103, .int .i64 a1_0), (105, .int .i64 a1_1)]) (by kernel_rfl) ?_
            obtain ⟨r125, e126, H⟩ := bind_ex H
            refine WD.act (i := 5) (by kernel_rfl) (St.call (by kernel_rfl) (f := 10) (args := #[pv61, .int .i64 a1_0, .int .i64 a1_1]) (by kernel_rfl) (rmq_Table_Least.calls w123 (pv61) r52.1 (Sat.rdAny 2 hS rfl (fun _ h => optP.rdd (t := 43) (κ := (.pair (.slice 3 (.int .i64)) (.slice 22 (.slice 3 (.int .i64))))) (O := O43) O43.rd h)) a1_0 a1_1 r125 e126) ?_)
            rintro _ w132 ⟨rfl, hS133⟩
            have hS : Sat w132 (rf w0) [optP O43 pv81 r72.1, optP O43 pv71 r62.1, optP O43 pv61 r52.1, osl 3 (r0 (.int .i64)) 1 A9_q42 c9_q42 y48, osl 3 (r0 (.int .i64)) 1 A7_q42 c7_q42 o40.1, osl 3 (r0 (.int .i64)) 1 A8_q42 c8_q42 o40.2.1, pts b1 (.cells #[.int .i64 a1_0, .int .i64 a1_1] 36 (0, 0))] := hS.ext hS133
            refine ⟨(asked.cons (RSt.run (n := 118) (RSt.loadObj (t := 3) (k := 1) (v := .int .i64 a1_1) (.tmp 104) (by kernel_rfl) (by kernel_rfl) (by kernel_rfl) 6 hS rfl (by kernel_rfl) rfl rfl)) (asked.cons (RSt.run (n := 118) (RSt.loadObj (t := 3) (k := 0) (v := .int .i64 a1_0) (.tmp 102) (by kernel_rfl) (by kernel_rfl) (by kernel_rfl) 6 hS rfl (by kernel_rfl) rfl rfl)) (asked.anc (by kernel_rfl) (asked.anc (by kernel_rfl) (asked.nil _ _))))), ?_⟩
            refine WD.weaken [4, 17, 19, 100, 101, 103, 105] (L' := [(4, .pointer (some ⟨b1, 0, none⟩)), (17, pv81), (19, .int .i64 r82), (100, .int .i64 r125), (101, pv71), (103, .int .i64 a1_0), (105, .int .i64 a1_1)]) (by kernel_rfl) ?_
            obtain ⟨r134, e135, H⟩ := bind_ex H
            refine WD.act (i := 11) (by kernel_rfl) (St.call (by kernel_rfl) (f := 10) (args := #[pv71, .int .i64 a1_0, .int .i64 a1_1]) (by kernel_rfl) (rmq_Table_Least.calls w132 (pv71) r62.1 (Sat.rdAny 1 hS rfl (fun _ h => optP.rdd (t := 43) (κ := (.pair (.slice 3 (.int .i64)) (.slice 22 (.slice 3 (.int .i64))))) (O := O43) O43.rd h)) a1_0 a1_1 r134 e135) ?_)
            rintro _ w141 ⟨rfl, hS142⟩
            have hS : Sat w141 (rf w0) [optP O43 pv81 r72.1, optP O43 pv71 r62.1, optP O43 pv61 r52.1, osl 3 (r0 (.int .i64)) 1 A9_q42 c9_q42 y48, osl 3 (r0 (.int .i64)) 1 A7_q42 c7_q42 o40.1, osl 3 (r0 (.int .i64)) 1 A8_q42 c8_q42 o40.2.1, pts b1 (.cells #[.int .i64 a1_0, .int .i64 a1_1] 36 (0, 0))] := hS.ext hS142
            refine ⟨(asked.anc (by kernel_rfl) (asked.anc (by kernel_rfl) (asked.anc (by kernel_rfl) (asked.anc (by kernel_rfl) (asked.nil _ _))))), ?_⟩
            refine WD.weaken [4, 17, 19, 100, 106] (L' := [(4, .pointer (some ⟨b1, 0, none⟩)), (17, pv81), (19, .int .i64 r82), (100, .int .i64 r125), (106, .int .i64 r134)]) (by kernel_rfl) ?_
            refine WD.pure (i := 12) (v := .bool (r125 == r134)) (by kernel_rfl) (by kernel_rfl) (fun _ => by kernel_rfl) ?_
            refine WD.weaken [4, 17, 19, 107] (L' := [(4, .pointer (some ⟨b1, 0, none⟩)), (17, pv81), (19, .int .i64 r82), (107, .bool (r125 == r134))]) (by kernel_rfl) ?_
            refine WD.pure (i := 13) (v := .bool (r125 == r134)) (by kernel_rfl) (by kernel_rfl) (fun _ => by kernel_rfl) ?_
            refine WD.weaken [4, 17, 19, 108] (L' := [(4, .pointer (some ⟨b1, 0, none⟩)), (17, pv81), (19, .int .i64 r82), (108, .bool (r125 == r134))]) (by kernel_rfl) ?_
            refine WD.split 108 (b := (r125 == r134)) (by kernel_rfl) (fun hb143 => ?_) (fun hb143 => ?_)
            · replace H := ite_t H hb143
              refine WD.weaken [4, 17, 19, 108] (L' := [(4, .pointer (some ⟨b1, 0, none⟩)), (17, pv81), (19, .int .i64 r82), (108, .bool true)]) (by kernel_rfl) ?_
              refine WD.pure (i := 14) (v := pv81) (by kernel_rfl) (by kernel_rfl) (fun _ => by kernel_rfl) ?_
              refine WD.weaken [4, 19, 108, 109] (L' := [(4, .pointer (some ⟨b1, 0, none⟩)), (19, .int .i64 r82), (108, .bool true), (109, pv81)]) (by kernel_rfl) ?_
              refine WD.pure (i := 15) (v := .pointer (some ⟨b1, 0, none⟩)) (by kernel_rfl) (by kernel_rfl) (fun _ => by kernel_rfl) ?_
              refine WD.weaken [4, 19, 108, 109, 110] (L' := [(4, .pointer (some ⟨b1, 0, none⟩)), (19, .int .i64 r82), (108, .bool true), (109, pv81), (110, .pointer (some ⟨b1, 0, none⟩))]) (by kernel_rfl) ?_
              refine WD.ofR (i := 16) (by kernel_rfl) (RSt.loadObj (t := 3) (k := 0) (v := .int .i64 a1_0) (.tmp 110) (by kernel_rfl) (by kernel_rfl) (by kernel_rfl) 6 hS rfl (by kernel_rfl) rfl ?_)
              refine WD.weaken [4, 19, 108, 109, 111] (L' := [(4, .pointer (some ⟨b1, 0, none⟩)), (19, .int .i64 r82), (108, .bool true), (109, pv81), (111, .int .i64 a1_0)]) (by kernel_rfl) ?_
              refine WD.pure (i := 17) (v := .pointer (some ⟨b1, 1, none⟩)) (by kernel_rfl) (by kernel_rfl) (fun _ => by kernel_rfl) ?_
              refine WD.weaken [19, 108, 109, 111, 112] (L' := [(19, .int .i64 r82), (108, .bool true), (109, pv81), (111, .int .i64 a1_0), (112, .pointer (some ⟨b1, 1, none⟩))]) (by kernel_rfl) ?_
              refine WD.ofR (i := 18) (by kernel_rfl) (RSt.loadObj (t := 3) (k := 1) (v := .int .i64 a1_1) (.tmp 112) (by kernel_rfl) (by kernel_rfl) (by kernel_rfl) 6 hS rfl (by kernel_rfl) rfl ?_)
              refine WD.weaken [19, 108, 109, 111, 113] (L' := [(19, .int .i64 r82), (108, .bool true), (109, pv81), (111, .int .i64 a1_0), (113, .int .i64 a1_1)]) (by kernel_rfl) ?_
              refine WD.pure (i := 20) (v := .int .i64 r82) (by kernel_rfl) (by kernel_rfl) (fun _ => by kernel_rfl) ?_
              refine WD.weaken [108, 109, 111, 113, 115] (L' := [(108, .bool true), (109, pv81), (111, .int .i64 a1_0), (113, .int .i64 a1_1), (115, .int .i64 r82)]) (by kernel_rfl) ?_
              obtain ⟨r144, e145, H⟩ := bind_ex H
              refine WD.act (i := 19) (by kernel_rfl) (St.call (by kernel_rfl) (f := 10) (args := #[pv81, .int .i64 a1_0, .int .i64 a1_1]) (by kernel_rfl) (rmq_Table_Least.calls w141 (pv81) r72.1 (Sat.rdAny 0 hS rfl (fun _ h => optP.rdd (t := 43) (κ := (.pair (.slice 3 (.int .i64)) (.slice 22 (.slice 3 (.int .i64))))) (O := O43) O43.rd h)) a1_0 a1_1 r144 e145) ?_)
              rintro _ w151 ⟨rfl, hS152⟩
              have hS : Sat w151 (rf w0) [optP O43 pv81 r72.1, optP O43 pv71 r62.1, optP O43 pv61 r52.1, osl 3 (r0 (.int .i64)) 1 A9_q42 c9_q42 y48, osl 3 (r0 (.int .i64)) 1 A7_q42 c7_q42 o40.1, osl 3 (r0 (.int .i64)) 1 A8_q42 c8_q42 o40.2.1, pts b1 (.cells #[.int .i64 a1_0, .int .i64 a1_1] 36 (0, 0))] := hS.ext hS152
              refine ⟨(asked.anc (by kernel_rfl) (asked.anc (by kernel_rfl) (asked.anc (by kernel_rfl) (asked.anc (by kernel_rfl) (asked.anc (by kernel_rfl) (asked.anc (by kernel_rfl) (asked.nil _ _))))))), ?_⟩
              refine WD.weaken [108, 114, 115] (L' := [(108, .bool true), (114, .int .i64 r144), (115, .int .i64 r82)]) (by kernel_rfl) ?_
              refine WD.pure (i := 21) (v := .bool (r144 == r82)) (by kernel_rfl) (by kernel_rfl) (fun _ => by kernel_rfl) ?_
              refine WD.weaken [108, 116] (L' := [(108, .bool true), (116, .bool (r144 == r82))]) (by kernel_rfl) ?_
              refine WD.pure (i := 22) (v := .bool (r144 == r82)) (by kernel_rfl) (by kernel_rfl) (fun _ => by kernel_rfl) ?_
              refine WD.weaken [117] (L' := [(117, .bool (r144 == r82))]) (by kernel_rfl) ?_
              refine WD.pure (i := 23) (v := .bool (r144 == r82)) (by kernel_rfl) (by kernel_rfl) (fun _ => by kernel_rfl) ?_
              refine WD.weaken [6] (L' := [(6, .bool (r144 == r82))]) (by kernel_rfl) ?_
              refine WD.nil (by kernel_rfl) ?_
              refine At.go ?_
              refine WC.ret (by kernel_rfl) ?_
              obtain rfl := Option.some.inj H
              have hS : Sat w151 (rf w0) [] := hS.sel [] (by kernel_rfl)
              exact At.body [.bool (r144 == r82)] (by kernel_rfl) ⟨_, rfl, rfl, hS⟩
            · replace H := ite_f H hb143
              refine WD.weaken [4, 17, 19, 108] (L' := [(4, .pointer (some ⟨b1, 0, none⟩)), (17, pv81), (19, .int .i64 r82), (108, .bool false)]) (by kernel_rfl) ?_
              refine WD.skip (i := 14) (by kernel_rfl) (by kernel_rfl) ?_
              refine WD.weaken [4, 19, 108, 109] (L' := [(4, .pointer (some ⟨b1, 0, none⟩)), (19, .int .i64 r82), (108, .bool false), (109, undef)]) (by kernel_rfl) ?_
              refine WD.skip (i := 15) (by kernel_rfl) (by kernel_rfl) ?_
              refine WD.weaken [4, 19, 108, 109, 110] (L' := [(4, .pointer (some ⟨b1, 0, none⟩)), (19, .int .i64 r82), (108, .bool false), (109, undef), (110, undef)]) (by kernel_rfl) ?_
              refine WD.skip (i := 16) (by kernel_rfl) (by kernel_rfl) ?_
              refine WD.weaken [4, 19, 108, 109, 111] (L' := [(4, .pointer (some ⟨b1, 0, none⟩)), (19, .int .i64 r82), (108, .bool false), (109, undef), (111, undef)]) (by kernel_rfl) ?_
              refine WD.skip (i := 17) (by kernel_rfl) (by kernel_rfl) ?_
              refine WD.weaken [19, 108, 109, 111, 112] (L' := [(19, .int .i64 r82), (108, .bool false), (109, undef), (111, undef), (112, undef)]) (by kernel_rfl) ?_
              refine WD.skip (i := 18) (by kernel_rfl) (by kernel_rfl) ?_
              refine WD.weaken [19, 108, 109, 111, 113] (L' := [(19, .int .i64 r82), (108, .bool false), (109, undef), (111, undef), (113, undef)]) (by kernel_rfl) ?_
              refine WD.skip (i := 20) (by kernel_rfl) (by kernel_rfl) ?_
              refine WD.weaken [108, 109, 111, 113, 115] (L' := [(108, .bool false), (109, undef), (111, undef), (113, undef), (115, undef)]) (by kernel_rfl) ?_
              refine WD.skip (i := 19) (by kernel_rfl) (by kernel_rfl) ?_
              refine WD.weaken [108, 114, 115] (L' := [(108, .bool false), (114, undef), (115, undef)]) (by kernel_rfl) ?_
              refine WD.skip (i := 21) (by kernel_rfl) (by kernel_rfl) ?_
              refine WD.weaken [108, 116] (L' := [(108, .bool false), (116, undef)]) (by kernel_rfl) ?_
              refine WD.pure (i := 22) (v := .bool false) (by kernel_rfl) (by kernel_rfl) (fun _ => by kernel_rfl) ?_
              refine WD.weaken [117] (L' := [(117, .bool false)]) (by kernel_rfl) ?_
              refine WD.pure (i := 23) (v := .bool false) (by kernel_rfl) (by kernel_rfl) (fun _ => by kernel_rfl) ?_
              refine WD.weaken [6] (L' := [(6, .bool false)]) (by kernel_rfl) ?_
              refine WD.nil (by kernel_rfl) ?_
              refine At.go ?_
              refine WC.ret (by kernel_rfl) ?_
              obtain rfl := Option.some.inj H
              have hS : Sat w141 (rf w0) [] := hS.sel [] (by kernel_rfl)
              exact At.body [.bool false] (by kernel_rfl) ⟨_, rfl, rfl, hS⟩
        · replace H := ite_f H hb91
          refine WR.runk [5, 6, 7, 8, 9] [] [4, 12, 13, 15, 17, 19, 93] (L' := [(4, .pointer (some ⟨b1, 0, none⟩)), (12, .int .i64 (wi (Int.tmod (IntKind.wrap .u64 a2) (IntKind.wrap .u64 (l0.length : Int))))), (13, pv61), (15, pv71), (17, pv81), (19, .int .i64 r82), (93, .bool false)]) (w' := w89) (by kernel_rfl) ?_
          refine WR.nil ?_
          refine At.go ?_
          refine WC.condF (by kernel_rfl) (by kernel_rfl) (by kernel_rfl) ?_
          refine WC.skip (by kernel_rfl) ?_
          refine At.go ?_
          refine WC.seq (by kernel_rfl) ?_
          refine WC.drawn (by kernel_rfl) (by kernel_rfl) 24 (by kernel_rfl) (fun w153 hw154 => ?_)
          have hS := hS.heap hw154.1 hw154.2
          refine WD.weaken [4, 13, 15, 17, 19] (L' := [(4, .pointer (some ⟨b1, 0, none⟩)), (13, pv61), (15, pv71), (17, pv81), (19, .int .i64 r82)]) (by kernel_rfl) ?_
          refine WD.pure (i := 0) (v := pv61) (by kernel_rfl) (by kernel_rfl) (fun _ => by kernel_rfl) ?_
          refine WD.weaken [4, 15, 17, 19, 95] (L' := [(4, .pointer (some ⟨b1, 0, none⟩)), (15, pv71), (17, pv81), (19, .int .i64 r82), (95, pv61)]) (by kernel_rfl) ?_
          refine WD.pure (i := 1) (v := .pointer (some ⟨b1, 0, none⟩)) (by kernel_rfl) (by kernel_rfl) (fun _ => by kernel_rfl) ?_
          refine WD.weaken [4, 15, 17, 19, 95, 96] (L' := [(4, .pointer (some ⟨b1, 0, none⟩)), (15, pv71), (17, pv81), (19, .int .i64 r82), (95, pv61), (96, .pointer (some ⟨b1, 0, none⟩))]) (by kernel_rfl) ?_
          refine WD.ofR (i := 2) (by kernel_rfl) (RSt.loadObj (t := 3) (k := 0) (v := .int .i64 a1_0) (.tmp 96) (by kernel_rfl) (by kernel_rfl) (by kernel_rfl) 6 hS rfl (by kernel_rfl) rfl ?_)
          refine WD.weaken [4, 15, 17, 19, 95, 97] (L' := [(4, .pointer (some ⟨b1, 0, none⟩)), (15, pv71), (17, pv81), (19, .int .i64 r82), (95, pv61), (97, .int .i64 a1_0)]) (by kernel_rfl) ?_
          refine WD.pure (i := 3) (v := .pointer (some ⟨b1, 1, none⟩)) (by kernel_rfl) (by kernel_rfl) (fun _ => by kernel_rfl) ?_
          refine WD.weaken [4, 15, 17, 19, 95, 97, 98] (L' := [(4, .pointer (some ⟨b1, 0, none⟩)), (15, pv71), (17, pv81), (19, .int .i64 r82), (95, pv61), (97, .int .i64 a1_0), (98, .pointer (some ⟨b1, 1, none⟩))]) (by kernel_rfl) ?_
          refine WD.ofR (i := 4) (by kernel_rfl) (RSt.loadObj (t := 3) (k := 1) (v := .int .i64 a1_1) (.tmp 98) (by kernel_rfl) (by kernel_rfl) (by kernel_rfl) 6 hS rfl (by kernel_rfl) rfl ?_)
          refine WD.weaken [4, 15, 17, 19, 95, 97, 99] (L' := [(4, .pointer (some ⟨b1, 0, none⟩)), (15, pv71), (17, pv81), (19, .int .i64 r82), (95, pv61), (97, .int .i64 a1_0), (99, .int .i64 a1_1)]) (by kernel_rfl) ?_
          refine WD.pure (i := 6) (v := pv71) (by kernel_rfl) (by kernel_rfl) (fun _ => by kernel_rfl) ?_
          refine WD.weaken [4, 17, 19, 95, 97, 99, 101] (L' := [(4, .pointer (some ⟨b1, 0, none⟩)), (17, pv81), (19, .int .i64 r82), (95, pv61), (97, .int .i64 a1_0), (99, .int .i64 a1_1), (101, pv71)]) (by kernel_rfl) ?_
          refine WD.pure (i := 7) (v := .pointer (some ⟨b1, 0, none⟩)) (by kernel_rfl) (by kernel_rfl) (fun _ => by kernel_rfl) ?_
          refine WD.weaken [4, 17, 19, 95, 97, 99, 101, 102] (L' := [(4, .pointer (some ⟨b1, 0, none⟩)), (17, pv81), (19, .int .i64 r82), (95, pv61), (97, .int .i64 a1_0), (99, .int .i64 a1_1), (101, pv71), (102, .pointer (some ⟨b1, 0, none⟩))]) (by kernel_rfl) ?_
          refine WD.ofR (i := 8) (by kernel_rfl) (RSt.loadObj (t := 3) (k := 0) (v := .int .i64 a1_0) (.tmp 102) (by kernel_rfl) (by kernel_rfl) (by kernel_rfl) 6 hS rfl (by kernel_rfl) rfl ?_)
          refine WD.weaken [4, 17, 19, 95, 97, 99, 101, 103] (L' := [(4, .pointer (some ⟨b1, 0, none⟩)), (17, pv81), (19, .int .i64 r82), (95, pv61), (97, .int .i64 a1_0), (99, .int .i64 a1_1), (101, pv71), (103, .int .i64 a1_0)]) (by kernel_rfl) ?_
          refine WD.pure (i := 9) (v := .pointer (some ⟨b1, 1, none⟩)) (by kernel_rfl) (by kernel_rfl) (fun _ => by kernel_rfl) ?_
          refine WD.weaken [4, 17, 19, 95, 97, 99, 101, 103, 104] (L' := [(4, .pointer (some ⟨b1, 0, none⟩)), (17, pv81), (19, .int .i64 r82), (95, pv61), (97, .int .i64 a1_0), (99, .int .i64 a1_1), (101, pv71), (103, .int .i64 a1_0), (104, .pointer (some ⟨b1, 1, none⟩))]) (by kernel_rfl) ?_
          refine WD.ofR (i := 10) (by kernel_rfl) (RSt.loadObj (t := 3) (k := 1) (v := .int .i64 a1_1) (.tmp 104) (by kernel_rfl) (by kernel_rfl) (by kernel_rfl) 6 hS rfl (by kernel_rfl) rfl ?_)
          refine WD.weaken [4, 17, 19, 95, 97, 99, 101, 103, 105] (L' := [(4, .pointer (some ⟨b1, 0, none⟩)), (17, pv81), (19, .int .i64 r82), (95, pv61), (97, .int .i64 a1_0), (99, .int .i64 a1_1), (101, pv71), (103, .int .i64 a1_0), (105, .int .i64 a1_1)]) (by kernel_rfl) ?_
          obtain ⟨r155, e156, H⟩ := bind_ex H
          refine WD.act (i := 5) (by kernel_rfl) (St.call (by kernel_rfl) (f := 10) (args := #[pv61, .int .i64 a1_0, .int .i64 a1_1]) (by kernel_rfl) (rmq_Table_Least.calls w153 (pv61) r52.1 (Sat.rdAny 2 hS rfl (fun _ h => optP.rdd (t := 43) (κ := (.pair (.slice 3 (.int .i64)) (.slice 22 (.slice 3 (.int .i64))))) (O := O43) O43.rd h)) a1_0 a1_1 r155 e156) ?_)
          rintro _ w162 ⟨rfl, hS163⟩
          have hS : Sat w162 (rf w0) [optP O43 pv81 r72.1, optP O43 pv71 r62.1, optP O43 pv61 r52.1, osl 3 (r0 (.int .i64)) 1 A9_q42 c9_q42 y48, osl 3 (r0 (.int .i64)) 1 A7_q42 c7_q42 o40.1, osl 3 (r0 (.int .i64)) 1 A8_q42 c8_q42 o40.2.1, pts b1 (.cells #[.int .i64 a1_0, .int .i64 a1_1] 36 (0, 0))] := hS.ext hS163
          refine ⟨(asked.cons (RSt.run (n := 118) (RSt.loadObj (t := 3) (k := 1) (v := .int .i64 a1_1) (.tmp 104) (by kernel_rfl) (by kernel_rfl) (by kernel_rfl) 6 hS rfl (by kernel_rfl) rfl rfl)) (asked.cons (RSt.run (n := 118) (RSt.loadObj (t := 3) (k := 0) (v := .int .i64 a1_0) (.tmp 102) (by kernel_rfl) (by kernel_rfl) (by kernel_rfl) 6 hS rfl (by kernel_rfl) rfl rfl)) (asked.anc (by kernel_rfl) (asked.anc (by kernel_rfl) (asked.nil _ _))))), ?_⟩
          refine WD.weaken [4, 17, 19, 100, 101, 103, 105] (L' := [(4, .pointer (some ⟨b1, 0, none⟩)), (17, pv81), (19, .int .i64 r82), (100, .int .i64 r155), (101, pv71), (103, .int .i64 a1_0), (105, .int .i64 a1_1)]) (by kernel_rfl) ?_
          obtain ⟨r164, e165, H⟩ := bind_ex H
          refine WD.act (i := 11) (by kernel_rfl) (St.call (by kernel_rfl) (f := 10) (args := #[pv71, .int .i64 a1_0, .int .i64 a1_1]) (by kernel_rfl) (rmq_Table_Least.calls w162 (pv71) r62.1 (Sat.rdAny 1 hS rfl (fun _ h => optP.rdd (t := 43) (κ := (.pair (.slice 3 (.int .i64)) (.slice 22 (.slice 3 (.int .i64))))) (O := O43) O43.rd h)) a1_0 a1_1 r164 e165) ?_)
          rintro _ w171 ⟨rfl, hS172⟩
          have hS : Sat w171 (rf w0) [optP O43 pv81 r72.1, optP O43 pv71 r62.1, optP O43 pv61 r52.1, osl 3 (r0 (.int .i64)) 1 A9_q42 c9_q42 y48, osl 3 (r0 (.int .i64)) 1 A7_q42 c7_q42 o40.1, osl 3 (r0 (.int .i64)) 1 A8_q42 c8_q42 o40.2.1, pts b1 (.cells #[.int .i64 a1_0, .int .i64 a1_1] 36 (0, 0))] := hS.ext hS172
          refine ⟨(asked.anc (by kernel_rfl) (asked.anc (by kernel_rfl) (asked.anc (by kernel_rfl) (asked.anc (by kernel_rfl) (asked.nil _ _))))), ?_⟩
          refine WD.weaken [4, 17, 19, 100, 106] (L' := [(4, .pointer (some ⟨b1, 0, none⟩)), (17, pv81), (19, .int .i64 r82), (100, .int .i64 r155), (106, .int .i64 r164)]) (by kernel_rfl) ?_
          refine WD.pure (i := 12) (v := .bool (r155 == r164)) (by kernel_rfl) (by kernel_rfl) (fun _ => by kernel_rfl) ?_
          refine WD.weaken [4, 17, 19, 107] (L' := [(4, .pointer (some ⟨b1, 0, none⟩)), (17, pv81), (19, .int .i64 r82), (107, .bool (r155 == r164))]) (by kernel_rfl) ?_
          refine WD.pure (i := 13) (v := .bool (r155 == r164)) (by kernel_rfl) (by kernel_rfl) (fun _ => by kernel_rfl) ?_
          refine WD.weaken [4, 17, 19, 108] (L' := [(4, .pointer (some ⟨b1, 0, none⟩)), (17, pv81), (19, .int .i64 r82), (108, .bool (r155 == r164))]) (by kernel_rfl) ?_
          refine WD.split 108 (b := (r155 == r164)) (by kernel_rfl) (fun hb173 => ?_) (fun hb173 => ?_)
          · replace H := ite_t H hb173
            refine WD.weaken [4, 17, 19, 108] (L' := [(4, .pointer (some ⟨b1, 0, none⟩)), (17, pv81), (19, .int .i64 r82), (108, .bool true)]) (by kernel_rfl) ?_
            refine WD.pure (i := 14) (v := pv81) (by kernel_rfl) (by kernel_rfl) (fun _ => by kernel_rfl) ?_
            refine WD.weaken [4, 19, 108, 109] (L' := [(4, .pointer (some ⟨b1, 0, none⟩)), (19, .int .i64 r82), (108, .bool true), (109, pv81)]) (by kernel_rfl) ?_
            refine WD.pure (i := 15) (v := .pointer (some ⟨b1, 0, none⟩)) (by kernel_rfl) (by kernel_rfl) (fun _ => by kernel_rfl) ?_
            refine WD.weaken [4, 19, 108, 109, 110] (L' := [(4, .pointer (some ⟨b1, 0, none⟩)), (19, .int .i64 r82), (108, .bool true), (109, pv81), (110, .pointer (some ⟨b1, 0, none⟩))]) (by kernel_rfl) ?_
            refine WD.ofR (i := 16) (by kernel_rfl) (RSt.loadObj (t := 3) (k := 0) (v := .int .i64 a1_0) (.tmp 110) (by kernel_rfl) (by kernel_rfl) (by kernel_rfl) 6 hS rfl (by kernel_rfl) rfl ?_)
            refine WD.weaken [4, 19, 108, 109, 111] (L' := [(4, .pointer (some ⟨b1, 0, none⟩)), (19, .int .i64 r82), (108, .bool true), (109, pv81), (111, .int .i64 a1_0)]) (by kernel_rfl) ?_
            refine WD.pure (i := 17) (v := .pointer (some ⟨b1, 1, none⟩)) (by kernel_rfl) (by kernel_rfl) (fun _ => by kernel_rfl) ?_
            refine WD.weaken [19, 108, 109, 111, 112] (L' := [(19, .int .i64 r82), (108, .bool true), (109, pv81), (111, .int .i64 a1_0), (112, .pointer (some ⟨b1, 1, none⟩))]) (by kernel_rfl) ?_
            refine WD.ofR (i := 18) (by kernel_rfl) (RSt.loadObj (t := 3) (k := 1) (v := .int .i64 a1_1) (.tmp 112) (by kernel_rfl) (by kernel_rfl) (by kernel_rfl) 6 hS rfl (by kernel_rfl) rfl ?_)
            refine WD.weaken [19, 108, 109, 111, 113] (L' := [(19, .int .i64 r82), (108, .bool true), (109, pv81), (111, .int .i64 a1_0), (113, .int .i64 a1_1)]) (by kernel_rfl) ?_
            refine WD.pure (i := 20) (v := .int .i64 r82) (by kernel_rfl) (by kernel_rfl) (fun _ => by kernel_rfl) ?_
            refine WD.weaken [108, 109, 111, 113, 115] (L' := [(108, .bool true), (109, pv81), (111, .int .i64 a1_0), (113, .int .i64 a1_1), (115, .int .i64 r82)]) (by kernel_rfl) ?_
            obtain ⟨r174, e175, H⟩ := bind_ex H
            refine WD.act (i := 19) (by kernel_rfl) (St.call (by kernel_rfl) (f := 10) (args := #[pv81, .int .i64 a1_0, .int .i64 a1_1]) (by kernel_rfl) (rmq_Table_Least.calls w171 (pv81) r72.1 (Sat.rdAny 0 hS rfl (fun _ h => optP.rdd (t := 43) (κ := (.pair (.slice 3 (.int .i64)) (.slice 22 (.slice 3 (.int .i64))))) (O := O43) O43.rd h)) a1_0 a1_1 r174 e175) ?_)
            rintro _ w181 ⟨rfl, hS182⟩
            have hS : Sat w181 (rf w0) [optP O43 pv81 r72.1, optP O43 pv71 r62.1, optP O43 pv61 r52.1, osl 3 (r0 (.int .i64)) 1 A9_q42 c9_q42 y48, osl 3 (r0 (.int .i64)) 1 A7_q42 c7_q42 o40.1, osl 3 (r0 (.int .i64)) 1 A8_q42 c8_q42 o40.2.1, pts b1 (.cells #[.int .i64 a1_0, .int .i64 a1_1] 36 (0, 0))] := hS.ext hS182
            refine ⟨(asked.anc (by kernel_rfl) (asked.anc (by kernel_rfl) (asked.anc (by kernel_rfl) (asked.anc (by kernel_rfl) (asked.anc (by kernel_rfl) (asked.anc (by kernel_rfl) (asked.nil _ _))))))), ?_⟩
            refine WD.weaken [108, 114, 115] (L' := [(108, .bool true), (114, .int .i64 r174), (115, .int .i64 r82)]) (by kernel_rfl) ?_
            refine WD.pure (i := 21) (v := .bool (r174 == r82)) (by kernel_rfl) (by kernel_rfl) (fun _ => by kernel_rfl) ?_
            refine WD.weaken [108, 116] (L' := [(108, .bool true), (116, .bool (r174 == r82))]) (by kernel_rfl) ?_
            refine WD.pure (i := 22) (v := .bool (r174 == r82)) (by kernel_rfl) (by kernel_rfl) (fun _ => by kernel_rfl) ?_
            refine WD.weaken [117] (L' := [(117, .bool (r174 == r82))]) (by kernel_rfl) ?_
            refine WD.pure (i := 23) (v := .bool (r174 == r82)) (by kernel_rfl) (by kernel_rfl) (fun _ => by kernel_rfl) ?_
            refine WD.weaken [6] (L' := [(6, .bool (r174 == r82))]) (by kernel_rfl) ?_
            refine WD.nil (by kernel_rfl) ?_
            refine At.go ?_
            refine WC.ret (by kernel_rfl) ?_
            obtain rfl := Option.some.inj H
            have hS : Sat w181 (rf w0) [] := hS.sel [] (by kernel_rfl)
            exact At.body [.bool (r174 == r82)] (by kernel_rfl) ⟨_, rfl, rfl, hS⟩
          · replace H := ite_f H hb173
            refine WD.weaken [4, 17, 19, 108] (L' := [(4, .pointer (some ⟨b1, 0, none⟩)), (17, pv81), (19, .int .i64 r82), (108, .bool false)]) (by kernel_rfl) ?_
            refine WD.skip (i := 14) (by kernel_rfl) (by kernel_rfl) ?_
            refine WD.weaken [4, 19, 108, 109] (L' := [(4, .pointer (some ⟨b1, 0, none⟩)), (19, .int .i64 r82), (108, .bool false), (109, undef)]) (by kernel_rfl) ?_
            refine WD.skip (i := 15) (by kernel_rfl) (by kernel_rfl) ?_
            refine WD.weaken [4, 19, 108, 109, 110] (L' := [(4, .pointer (some ⟨b1, 0, none⟩)), (19, .int .i64 r82), (108, .bool false), (109, undef), (110, undef)]) (by kernel_rfl) ?_
            refine WD.skip (i := 16) (by kernel_rfl) (by kernel_rfl) ?_
            refine WD.weaken [4, 19, 108, 109, 111] (L' := [(4, .pointer (some ⟨b1, 0, none⟩)), (19, .int .i64 r82), (108, .bool false), (109, undef), (111, undef)]) (by kernel_rfl) ?_
            refine WD.skip (i := 17) (by kernel_rfl) (by kernel_rfl) ?_
            refine WD.weaken [19, 108, 109, 111, 112] (L' := [(19, .int .i64 r82), (108, .bool false), (109, undef), (111, undef), (112, undef)]) (by kernel_rfl) ?_
            refine WD.skip (i := 18) (by kernel_rfl) (by kernel_rfl) ?_
            refine WD.weaken [19, 108, 109, 111, 113] (L' := [(19, .int .i64 r82), (108, .bool false), (109, undef), (111, undef), (113, undef)]) (by kernel_rfl) ?_
            refine WD.skip (i := 20) (by kernel_rfl) (by kernel_rfl) ?_
            refine WD.weaken [108, 109, 111, 113, 115] (L' := [(108, .bool false), (109, undef), (111, undef), (113, undef), (115, undef)]) (by kernel_rfl) ?_
            refine WD.skip (i := 19) (by kernel_rfl) (by kernel_rfl) ?_
            refine WD.weaken [108, 114, 115] (L' := [(108, .bool false), (114, undef), (115, undef)]) (by kernel_rfl) ?_
            refine WD.skip (i := 21) (by kernel_rfl) (by kernel_rfl) ?_
            refine WD.weaken [108, 116] (L' := [(108, .bool false), (116, undef)]) (by kernel_rfl) ?_
            refine WD.pure (i := 22) (v := .bool false) (by kernel_rfl) (by kernel_rfl) (fun _ => by kernel_rfl) ?_
            refine WD.weaken [117] (L' := [(117, .bool false)]) (by kernel_rfl) ?_
            refine WD.pure (i := 23) (v := .bool false) (by kernel_rfl) (by kernel_rfl) (fun _ => by kernel_rfl) ?_
            refine WD.weaken [6] (L' := [(6, .bool false)]) (by kernel_rfl) ?_
            refine WD.nil (by kernel_rfl) ?_
            refine At.go ?_
            refine WC.ret (by kernel_rfl) ?_
            obtain rfl := Option.some.inj H
            have hS : Sat w171 (rf w0) [] := hS.sel [] (by kernel_rfl)
            exact At.body [.bool false] (by kernel_rfl) ⟨_, rfl, rfl, hS⟩
end Go.Proofs.Ytadmnacpjjgdnaa
