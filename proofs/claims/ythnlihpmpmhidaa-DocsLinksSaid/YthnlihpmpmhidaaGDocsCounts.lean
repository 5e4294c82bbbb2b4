/-
  Printed by gen.py (my own tool): for each Go function a plain Lean function and the proof that a call of it does what that function says.
-/
import Derived.Test.YthnlihpmpmhidaaGP1b
set_option linter.unusedVariables false
set_option linter.unusedSimpArgs false
set_option maxRecDepth 100000
namespace Go.Proofs.Ythnlihpmpmhidaa
open Go Go.Gol
/-! ### 5 colophon/colophonlaw12.DocsCounts -/
def colophonlaw12_DocsCounts.l1 (l0 : List Int) (a1 : Int) (a2_0 : Int) (a2_1 : Int) (r34 : (List Int)) : Nat → Int → Int → Option Int
  | 0, _, _ => none
  | k + 1, x8_l1, x35_l1 => (if decide (x35_l1 < (r34.length : Int)) then ((at? r34 x35_l1).bind fun v46 => (if decide (x35_l1 ≥ a2_0) then (if decide (x35_l1 < a2_1) then ((at? l0 x35_l1).bind fun v50 => (if (v50 == a1) then (if decide (v46 < a2_0) then colophonlaw12_DocsCounts.l1 l0 a1 a2_0 a2_1 r34 k (wi (x8_l1 + 1)) (wi (x35_l1 + 1)) else colophonlaw12_DocsCounts.l1 l0 a1 a2_0 a2_1 r34 k x8_l1 (wi (x35_l1 + 1))) else colophonlaw12_DocsCounts.l1 l0 a1 a2_0 a2_1 r34 k x8_l1 (wi (x35_l1 + 1)))) else colophonlaw12_DocsCounts.l1 l0 a1 a2_0 a2_1 r34 k x8_l1 (wi (x35_l1 + 1))) else colophonlaw12_DocsCounts.l1 l0 a1 a2_0 a2_1 r34 k x8_l1 (wi (x35_l1 + 1)))) else some x8_l1)
def colophonlaw12_DocsCounts.f (l0 : List Int) (a1 : Int) (a2_0 : Int) (a2_1 : Int) : Option Bool := (colophonlaw12_first.f.bind fun r4 => (if (!r4) then some false else (if decide ((l0.length : Int) > 1500) then some true else ((docs_Count.f l0 a1 a2_0 a2_1).bind fun r15 => ((colophonref12_Count.f l0 a1 a2_0 a2_1).bind fun r24 => (if (r15 != r24) then some false else ((docs_Back.f l0).bind fun r34 => ((colophonlaw12_DocsCounts.l1 l0 a1 a2_0 a2_1 r34 FU 0 0).bind fun o54 => (if decide (a2_0 < 0) then some true else some (o54 == (imin r15 1)))))))))))
def colophonlaw12_DocsCounts.post (w : World) (r : Bool) (v : Value) (w' : World) : Prop := v = (.bool r : Value) ∧ Sat w' (rf w) []
theorem colophonlaw12_DocsCounts.l1_ok {Q} (w0 : World) (A0 : Option Addr) (c0 : Nat) (l0 : List Int) (a1 : Int) (a2_0 : Int) (a2_1 : Int) (b1 : Nat) (r15 : Int) (r34 : (List Int)) (A43 : Option Addr) (c44 : Nat) (R0 : rdS (r0 (.int .i64)) 1 (hp w0) A0 c0 l0) (out : Int) (hn0 : ∀ (w : World), Sat w (rf w0) [pts b1 (.cells #[.int .i64 a2_0, .int .i64 a2_1] 41 (0, 0))] → At Q (.exit 0) 76 [(5, .pointer (some ⟨b1, 0, none⟩)), (7, .int .i64 r15), (8, .int .i64 out)] w) :
    ∀ (k : Nat) (x8_l1 : Int) (x35_l1 : Int) (w : World), Sat w (rf w0) [osl 3 (r0 (.int .i64)) 1 A43 c44 r34, pts b1 (.cells #[.int .i64 a2_0, .int .i64 a2_1] 41 (0, 0))] → colophonlaw12_DocsCounts.l1 l0 a1 a2_0 a2_1 r34 k x8_l1 x35_l1 = some out → WL Try.prog (cbody (cbody (cr (cl (cr (cr (cr (cr (cr (cr C5)))))))))) Q 76 [(0, .slice A0 l0.length c0), (1, .int .i64 a1), (5, .pointer (some ⟨b1, 0, none⟩)), (7, .int .i64 r15), (8, .int .i64 x8_l1), (33, .slice A43 r34.length c44), (34, .int .i64 (r34.length : Int)), (35, .int .i64 x35_l1)] w := by
  intro k
  induction k with
  | zero => intro x8_l1 x35_l1 w hS H; exact absurd (show none = some out from H) (by simp)
  | succ k ih =>
    intro x8_l1 x35_l1 w hS H
    unfold colophonlaw12_DocsCounts.l1 at H
    refine WL.round ?_
    refine WC.seq (by kernel_rfl) ?_
    refine WC.reg [0] (by kernel_rfl) (by kernel_rfl) ?_
    refine WR.runk [0] [] [0, 1, 5, 7, 8, 33, 34, 35, 36] (L' := [(0, .slice A0 l0.length c0), (1, .int .i64 a1), (5, .pointer (some ⟨b1, 0, none⟩)), (7, .int .i64 r15), (8, .int .i64 x8_l1), (33, .slice A43 r34.length c44), (34, .int .i64 (r34.length : Int)), (35, .int .i64 x35_l1), (36, .bool (decide (x35_l1 < (r34.length : Int))))]) (w' := w) (by kernel_rfl) ?_
    refine WR.nil ?_
    refine At.go ?_
    refine WC.seq (by kernel_rfl) ?_
    refine WC.cond (by kernel_rfl) (decide (x35_l1 < (r34.length : Int))) (by kernel_rfl) (by kernel_rfl) (fun hb45 => ?_) (fun hb45 => ?_)
    · replace H := ite_t H hb45
      refine WC.skip (by kernel_rfl) ?_
      refine At.go ?_
      refine WC.seq (by kernel_rfl) ?_
      refine WC.block (by kernel_rfl) ?_
      refine WC.seq (by kernel_rfl) ?_
      refine WC.reg [0, 1, 2, 3, 4] (by kernel_rfl) (by kernel_rfl) ?_
      refine WR.runk [0] [1, 2, 3, 4] [0, 1, 5, 7, 8, 33, 34, 35, 37] (L' := [(0, .slice A0 l0.length c0), (1, .int .i64 a1), (5, .pointer (some ⟨b1, 0, none⟩)), (7, .int .i64 r15), (8, .int .i64 x8_l1), (33, .slice A43 r34.length c44), (34, .int .i64 (r34.length : Int)), (35, .int .i64 x35_l1), (37, .int .i64 x35_l1)]) (w' := w) (by kernel_rfl) ?_
      obtain ⟨v46, e47, H⟩ := bind_ex H
      refine WR.st (St.ofP (PSt.idx (k := .i64) (.tmp 33) (.tmp 35) (by kernel_rfl) (by kernel_rfl) E23 (by kernel_rfl) (by kernel_rfl) (Sat.rdAt 0 hS rfl) e47 ?_))
      refine WR.runk [] [2, 3, 4] [0, 1, 5, 7, 8, 33, 34, 35, 37, 38] (L' := [(0, .slice A0 l0.length c0), (1, .int .i64 a1), (5, .pointer (some ⟨b1, 0, none⟩)), (7, .int .i64 r15), (8, .int .i64 x8_l1), (33, .slice A43 r34.length c44), (34, .int .i64 (r34.length : Int)), (35, .int .i64 x35_l1), (37, .int .i64 x35_l1), (38, .pointer (some (adr A43 x35_l1.toNat 1)))]) (w' := w) (by kernel_rfl) ?_
      refine WR.st (St.ofR (RSt.loadInt (t := 3) (.tmp 38) (by kernel_rfl) (by kernel_rfl) (by kernel_rfl) (by kernel_rfl) (Sat.rdAt 0 hS rfl) e47 ?_))
      refine WR.runk [3, 4] [] [0, 1, 5, 7, 8, 9, 10, 33, 34, 35] (L' := [(0, .slice A0 l0.length c0), (1, .int .i64 a1), (5, .pointer (some ⟨b1, 0, none⟩)), (7, .int .i64 r15), (8, .int .i64 x8_l1), (9, .int .i64 x35_l1), (10, .int .i64 v46), (33, .slice A43 r34.length c44), (34, .int .i64 (r34.length : Int)), (35, .int .i64 x35_l1)]) (w' := w) (by kernel_rfl) ?_
      refine WR.nil ?_
      refine At.go ?_
      refine WC.seq (by kernel_rfl) ?_
      refine WC.reg [0, 1, 2, 3, 4, 5, 6, 7, 8, 9, 10, 11, 12, 13, 14, 15, 16, 17, 18, 19, 20, 21, 22, 23] (by kernel_rfl) (by kernel_rfl) ?_
      refine WR.runk [0, 1] [2, 3, 4, 5, 6, 7, 8, 9, 10, 11, 12, 13, 14, 15, 16, 17, 18, 19, 20, 21, 22, 23] [0, 1, 5, 7, 8, 9, 10, 33, 34, 35, 40, 41] (L' := [(0, .slice A0 l0.length c0), (1, .int .i64 a1), (5, .pointer (some ⟨b1, 0, none⟩)), (7, .int .i64 r15), (8, .int .i64 x8_l1), (9, .int .i64 x35_l1), (10, .int .i64 v46), (33, .slice A43 r34.length c44), (34, .int .i64 (r34.length : Int)), (35, .int .i64 x35_l1), (40, .int .i64 x35_l1), (41, .pointer (some ⟨b1, 0, none⟩))]) (w' := w) (by kernel_rfl) ?_
      refine WR.st (St.ofR (RSt.loadObj (t := 3) (k := 0) (v := .int .i64 a2_0) (.tmp 41) (by kernel_rfl) (by kernel_rfl) (by kernel_rfl) 1 hS rfl (by kernel_rfl) rfl ?_))
      refine WR.runk [3, 4] [5, 6, 7, 8, 9, 10, 11, 12, 13, 14, 15, 16, 17, 18, 19, 20, 21, 22, 23] [0, 1, 5, 7, 8, 9, 10, 33, 34, 35, 44] (L' := [(0, .slice A0 l0.length c0), (1, .int .i64 a1), (5, .pointer (some ⟨b1, 0, none⟩)), (7, .int .i64 r15), (8, .int .i64 x8_l1), (9, .int .i64 x35_l1), (10, .int .i64 v46), (33, .slice A43 r34.length c44), (34, .int .i64 (r34.length : Int)), (35, .int .i64 x35_l1), (44, .bool (decide (x35_l1 ≥ a2_0)))]) (w' := w) (by kernel_rfl) ?_
      refine WR.split 44 (b := decide (x35_l1 ≥ a2_0)) (by kernel_rfl) (fun hb48 => ?_) (fun hb48 => ?_)
      · replace H := ite_t H hb48
        refine WR.runk [5, 6] [7, 8, 9, 10, 11, 12, 13, 14, 15, 16, 17, 18, 19, 20, 21, 22, 23] [0, 1, 5, 7, 8, 9, 10, 33, 34, 35, 44, 45, 46] (L' := [(0, .slice A0 l0.length c0), (1, .int .i64 a1), (5, .pointer (some ⟨b1, 0, none⟩)), (7, .int .i64 r15), (8, .int .i64 x8_l1), (9, .int .i64 x35_l1), (10, .int .i64 v46), (33, .slice A43 r34.length c44), (34, .int .i64 (r34.length : Int)), (35, .int .i64 x35_l1), (44, .bool true), (45, .int .i64 x35_l1), (46, .pointer (some ⟨b1, 1, none⟩))]) (w' := w) (by kernel_rfl) ?_
        refine WR.st (St.ofR (RSt.loadObj (t := 3) (k := 1) (v := .int .i64 a2_1) (.tmp 46) (by kernel_rfl) (by kernel_rfl) (by kernel_rfl) 1 hS rfl (by kernel_rfl) rfl ?_))
        refine WR.runk [8, 9, 10] [11, 12, 13, 14, 15, 16, 17, 18, 19, 20, 21, 22, 23] [0, 1, 5, 7, 8, 9, 10, 33, 34, 35, 45, 46, 47, 48, 50] (L' := [(0, .slice A0 l0.length c0), (1, .int .i64 a1), (5, .pointer (some ⟨b1, 0, none⟩)), (7, .int .i64 r15), (8, .int .i64 x8_l1), (9, .int .i64 x35_l1), (10, .int .i64 v46), (33, .slice A43 r34.length c44), (34, .int .i64 (r34.length : Int)), (35, .int .i64 x35_l1), (45, .int .i64 x35_l1), (46, .pointer (some ⟨b1, 1, none⟩)), (47, .int .i64 a2_1), (48, .bool (decide (x35_l1 < a2_1))), (50, .bool (decide (x35_l1 < a2_1)))]) (w' := w) (by kernel_rfl) ?_
        refine WR.split 50 (b := decide (x35_l1 < a2_1)) (by kernel_rfl) (fun hb49 => ?_) (fun hb49 => ?_)
        · replace H := ite_t H hb49
          refine WR.runk [11, 12] [13, 14, 15, 16, 17, 18, 19, 20, 21, 22, 23] [0, 1, 5, 7, 8, 10, 33, 34, 35, 45, 46, 47, 48, 50, 51, 52] (L' := [(0, .slice A0 l0.length c0), (1, .int .i64 a1), (5, .pointer (some ⟨b1, 0, none⟩)), (7, .int .i64 r15), (8, .int .i64 x8_l1), (10, .int .i64 v46), (33, .slice A43 r34.length c44), (34, .int .i64 (r34.length : Int)), (35, .int .i64 x35_l1), (45, .int .i64 x35_l1), (46, .pointer (some ⟨b1, 1, none⟩)), (47, .int .i64 a2_1), (48, .bool (decide (x35_l1 < a2_1))), (50, .bool true), (51, .slice A0 l0.length c0), (52, .int .i64 x35_l1)]) (w' := w) (by kernel_rfl) ?_
          obtain ⟨v50, e51, H⟩ := bind_ex H
          refine WR.st (St.ofP (PSt.idx (k := .i64) (.tmp 51) (.tmp 52) (by kernel_rfl) (by kernel_rfl) E23 (by kernel_rfl) (by kernel_rfl) (rdS.up R0 hS.sub0) e51 ?_))
          refine WR.runk [] [14, 15, 16, 17, 18, 19, 20, 21, 22, 23] [0, 1, 5, 7, 8, 10, 33, 34, 35, 45, 46, 47, 48, 50, 51, 52, 53] (L' := [(0, .slice A0 l0.length c0), (1, .int .i64 a1), (5, .pointer (some ⟨b1, 0, none⟩)), (7, .int .i64 r15), (8, .int .i64 x8_l1), (10, .int .i64 v46), (33, .slice A43 r34.length c44), (34, .int .i64 (r34.length : Int)), (35, .int .i64 x35_l1), (45, .int .i64 x35_l1), (46, .pointer (some ⟨b1, 1, none⟩)), (47, .int .i64 a2_1), (48, .bool (decide (x35_l1 < a2_1))), (50, .bool true), (51, .slice A0 l0.length c0), (52, .int .i64 x35_l1), (53, .pointer (some (adr A0 x35_l1.toNat 1)))]) (w' := w) (by kernel_rfl) ?_
          refine WR.st (St.ofR (RSt.loadInt (t := 3) (.tmp 53) (by kernel_rfl) (by kernel_rfl) (by kernel_rfl) (by kernel_rfl) (rdS.up R0 hS.sub0) e51 ?_))
          refine WR.runk [15, 16, 17, 18] [19, 20, 21, 22, 23] [0, 1, 5, 7, 8, 10, 33, 34, 35, 45, 46, 47, 48, 51, 52, 53, 54, 55, 56, 58] (L' := [(0, .slice A0 l0.length c0), (1, .int .i64 a1), (5, .pointer (some ⟨b1, 0, none⟩)), (7, .int .i64 r15), (8, .int .i64 x8_l1), (10, .int .i64 v46), (33, .slice A43 r34.length c44), (34, .int .i64 (r34.length : Int)), (35, .int .i64 x35_l1), (45, .int .i64 x35_l1), (46, .pointer (some ⟨b1, 1, none⟩)), (47, .int .i64 a2_1), (48, .bool (decide (x35_l1 < a2_1))), (51, .slice A0 l0.length c0), (52, .int .i64 x35_l1), (53, .pointer (some (adr A0 x35_l1.toNat 1))), (54, .int .i64 v50), (55, .int .i64 a1), (56, .bool (v50 == a1)), (58, .bool (v50 == a1))]) (w' := w) (by kernel_rfl) ?_
          refine WR.split 58 (b := (v50 == a1)) (by kernel_rfl) (fun hb52 => ?_) (fun hb52 => ?_)
          · replace H := ite_t H hb52
            refine WR.runk [19, 20] [21, 22, 23] [0, 1, 5, 7, 8, 33, 34, 35, 45, 46, 47, 48, 51, 52, 53, 54, 55, 56, 58, 59, 60] (L' := [(0, .slice A0 l0.length c0), (1, .int .i64 a1), (5, .pointer (some ⟨b1, 0, none⟩)), (7, .int .i64 r15), (8, .int .i64 x8_l1), (33, .slice A43 r34.length c44), (34, .int .i64 (r34.length : Int)), (35, .int .i64 x35_l1), (45, .int .i64 x35_l1), (46, .pointer (some ⟨b1, 1, none⟩)), (47, .int .i64 a2_1), (48, .bool (decide (x35_l1 < a2_1))), (51, .slice A0 l0.length c0), (52, .int .i64 x35_l1), (53, .pointer (some (adr A0 x35_l1.toNat 1))), (54, .int .i64 v50), (55, .int .i64 a1), (56, .bool (v50 == a1)), (58, .bool true), (59, .int .i64 v46), (60, .pointer (some ⟨b1, 0, none⟩))]) (w' := w) (by kernel_rfl) ?_
            refine WR.st (St.ofR (RSt.loadObj (t := 3) (k := 0) (v := .int .i64 a2_0) (.tmp 60) (by kernel_rfl) (by kernel_rfl) (by kernel_rfl) 1 hS rfl (by kernel_rfl) rfl ?_))
            refine WR.runk [22, 23] [] [0, 1, 5, 7, 8, 33, 34, 35, 45, 46, 47, 48, 51, 52, 53, 54, 55, 56, 59, 60, 61, 62, 63] (L' := [(0, .slice A0 l0.length c0), (1, .int .i64 a1), (5, .pointer (some ⟨b1, 0, none⟩)), (7, .int .i64 r15), (8, .int .i64 x8_l1), (33, .slice A43 r34.length c44), (34, .int .i64 (r34.length : Int)), (35, .int .i64 x35_l1), (45, .int .i64 x35_l1), (46, .pointer (some ⟨b1, 1, none⟩)), (47, .int .i64 a2_1), (48, .bool (decide (x35_l1 < a2_1))), (51, .slice A0 l0.length c0), (52, .int .i64 x35_l1), (53, .pointer (some (adr A0 x35_l1.toNat 1))), (54, .int .i64 v50), (55, .int .i64 a1), (56, .bool (v50 == a1)), (59, .int .i64 v46), (60, .pointer (some ⟨b1, 0, none⟩)), (61, .int .i64 a2_0), (62, .bool (decide (v46 < a2_0))), (63, .bool (decide (v46 < a2_0)))]) (w' := w) (by kernel_rfl) ?_
            refine WR.nil ?_
            refine At.go ?_
            refine WC.cond (by kernel_rfl) (decide (v46 < a2_0)) (by kernel_rfl) (by kernel_rfl) (fun hb53 => ?_) (fun hb53 => ?_)
            · replace H := ite_t H hb53
              refine WC.reg [0, 1, 2] (by kernel_rfl) (by kernel_rfl) ?_
              refine WR.runk [0, 1, 2] [] [0, 1, 5, 7, 8, 33, 34, 35, 45, 46, 47, 48, 51, 52, 53, 54, 55, 56, 59, 60, 61] (L' := [(0, .slice A0 l0.length c0), (1, .int .i64 a1), (5, .pointer (some ⟨b1, 0, none⟩)), (7, .int .i64 r15), (8, .int .i64 (wi (x8_l1 + 1))), (33, .slice A43 r34.length c44), (34, .int .i64 (r34.length : Int)), (35, .int .i64 x35_l1), (45, .int .i64 x35_l1), (46, .pointer (some ⟨b1, 1, none⟩)), (47, .int .i64 a2_1), (48, .bool (decide (x35_l1 < a2_1))), (51, .slice A0 l0.length c0), (52, .int .i64 x35_l1), (53, .pointer (some (adr A0 x35_l1.toNat 1))), (54, .int .i64 v50), (55, .int .i64 a1), (56, .bool (v50 == a1)), (59, .int .i64 v46), (60, .pointer (some ⟨b1, 0, none⟩)), (61, .int .i64 a2_0)]) (w' := w) (by kernel_rfl) ?_
              refine WR.nil ?_
              refine At.blockNormal ?_
              refine At.go ?_
              refine WC.reg [0, 1] (by kernel_rfl) (by kernel_rfl) ?_
              refine WR.runk [0, 1] [] [0, 1, 5, 7, 8, 33, 34, 35, 45, 46, 47, 48, 51, 52, 53, 54, 55, 56, 59, 60, 61] (L' := [(0, .slice A0 l0.length c0), (1, .int .i64 a1), (5, .pointer (some ⟨b1, 0, none⟩)), (7, .int .i64 r15), (8, .int .i64 (wi (x8_l1 + 1))), (33, .slice A43 r34.length c44), (34, .int .i64 (r34.length : Int)), (35, .int .i64 (wi (x35_l1 + 1))), (45, .int .i64 x35_l1), (46, .pointer (some ⟨b1, 1, none⟩)), (47, .int .i64 a2_1), (48, .bool (decide (x35_l1 < a2_1))), (51, .slice A0 l0.length c0), (52, .int .i64 x35_l1), (53, .pointer (some (adr A0 x35_l1.toNat 1))), (54, .int .i64 v50), (55, .int .i64 a1), (56, .bool (v50 == a1)), (59, .int .i64 v46), (60, .pointer (some ⟨b1, 0, none⟩)), (61, .int .i64 a2_0)]) (w' := w) (by kernel_rfl) ?_
              refine WR.nil ?_
              have hS : Sat w (rf w0) [osl 3 (r0 (.int .i64)) 1 A43 c44 r34, pts b1 (.cells #[.int .i64 a2_0, .int .i64 a2_1] 41 (0, 0))] := hS.sel [0, 1] (by kernel_rfl)
              refine At.again ?_
              refine WL.weaken [0, 1, 5, 7, 8, 33, 34, 35] (L' := [(0, .slice A0 l0.length c0), (1, .int .i64 a1), (5, .pointer (some ⟨b1, 0, none⟩)), (7, .int .i64 r15), (8, .int .i64 (wi (x8_l1 + 1))), (33, .slice A43 r34.length c44), (34, .int .i64 (r34.length : Int)), (35, .int .i64 (wi (x35_l1 + 1)))]) (by kernel_rfl) ?_
              exact ih (wi (x8_l1 + 1)) (wi (x35_l1 + 1)) _ hS H
            · replace H := ite_f H hb53
              refine WC.skip (by kernel_rfl) ?_
              refine At.blockNormal ?_
              refine At.go ?_
              refine WC.reg [0, 1] (by kernel_rfl) (by kernel_rfl) ?_
              refine WR.runk [0, 1] [] [0, 1, 5, 7, 8, 33, 34, 35, 45, 46, 47, 48, 51, 52, 53, 54, 55, 56, 59, 60, 61] (L' := [(0, .slice A0 l0.length c0), (1, .int .i64 a1), (5, .pointer (some ⟨b1, 0, none⟩)), (7, .int .i64 r15), (8, .int .i64 x8_l1), (33, .slice A43 r34.length c44), (34, .int .i64 (r34.length : Int)), (35, .int .i64 (wi (x35_l1 + 1))), (45, .int .i64 x35_l1), (46, .pointer (some ⟨b1, 1, none⟩)), (47, .int .i64 a2_1), (48, .bool (decide (x35_l1 < a2_1))), (51, .slice A0 l0.length c0), (52, .int .i64 x35_l1), (53, .pointer (some (adr A0 x35_l1.toNat 1))), (54, .int .i64 v50), (55, .int .i64 a1), (56, .bool (v50 == a1)), (59, .int .i64 v46), (60, .pointer (some ⟨b1, 0, none⟩)), (61, .int .i64 a2_0)]) (w' := w) (by kernel_rfl) ?_
              refine WR.nil ?_
              have hS : Sat w (rf w0) [osl 3 (r0 (.int .i64)) 1 A43 c44 r34, pts b1 (.cells #[.int .i64 a2_0, .int .i64 a2_1] 41 (0, 0))] := hS.sel [0, 1] (by kernel_rfl)
              refine At.again ?_
              refine WL.weaken [0, 1, 5, 7, 8, 33, 34, 35] (L' := [(0, .slice A0 l0.length c0), (1, .int .i64 a1), (5, .pointer (some ⟨b1, 0, none⟩)), (7, .int .i64 r15), (8, .int .i64 x8_l1), (33, .slice A43 r34.length c44), (34, .int .i64 (r34.length : Int)), (35, .int .i64 (wi (x35_l1 + 1)))]) (by kernel_rfl) ?_
              exact ih x8_l1 (wi (x35_l1 + 1)) _ hS H
          · replace H := ite_f H hb52
            refine WR.runk [19, 20, 21, 22, 23] [] [0, 1, 5, 7, 8, 33, 34, 35, 45, 46, 47, 48, 51, 52, 53, 54, 55, 56, 59, 60, 61, 62, 63] (L' := [(0, .slice A0 l0.length c0), (1, .int .i64 a1), (5, .pointer (some ⟨b1, 0, none⟩)), (7, .int .i64 r15), (8, .int .i64 x8_l1), (33, .slice A43 r34.length c44), (34, .int .i64 (r34.length : Int)), (35, .int .i64 x35_l1), (45, .int .i64 x35_l1), (46, .pointer (some ⟨b1, 1, none⟩)), (47, .int .i64 a2_1), (48, .bool (decide (x35_l1 < a2_1))), (51, .slice A0 l0.length c0), (52, .int .i64 x35_l1), (53, .pointer (some (adr A0 x35_l1.toNat 1))), (54, .int .i64 v50), (55, .int .i64 a1), (56, .bool (v50 == a1)), (59, undef), (60, undef), (61, undef), (62, undef), (63, .bool false)]) (w' := w) (by kernel_rfl) ?_
            refine WR.nil ?_
            refine At.go ?_
            refine WC.condF (by kernel_rfl) (by kernel_rfl) (by kernel_rfl) ?_
            refine WC.skip (by kernel_rfl) ?_
            refine At.blockNormal ?_
            refine At.go ?_
            refine WC.reg [0, 1] (by kernel_rfl) (by kernel_rfl) ?_
            refine WR.runk [0, 1] [] [0, 1, 5, 7, 8, 33, 34, 35, 45, 46, 47, 48, 51, 52, 53, 54, 55, 56, 59, 60, 61, 62] (L' := [(0, .slice A0 l0.length c0), (1, .int .i64 a1), (5, .pointer (some ⟨b1, 0, none⟩)), (7, .int .i64 r15), (8, .int .i64 x8_l1), (33, .slice A43 r34.length c44), (34, .int .i64 (r34.length : Int)), (35, .int .i64 (wi (x35_l1 + 1))), (45, .int .i64 x35_l1), (46, .pointer (some ⟨b1, 1, none⟩)), (47, .int .i64 a2_1), (48, .bool (decide (x35_l1 < a2_1))), (51, .slice A0 l0.length c0), (52, .int .i64 x35_l1), (53, .pointer (some (adr A0 x35_l1.toNat 1))), (54, .int .i64 v50), (55, .int .i64 a1), (56, .bool (v50 == a1)), (59, undef), (60, undef), (61, undef), (62, undef)]) (w' := w) (by kernel_rfl) ?_
            refine WR.nil ?_
            have hS : Sat w (rf w0) [osl 3 (r0 (.int .i64)) 1 A43 c44 r34, pts b1 (.cells #[.int .i64 a2_0, .int .i64 a2_1] 41 (0, 0))] := hS.sel [0, 1] (by kernel_rfl)
            refine At.again ?_
            refine WL.weaken [0, 1, 5, 7, 8, 33, 34, 35] (L' := [(0, .slice A0 l0.length c0), (1, .int .i64 a1), (5, .pointer (some ⟨b1, 0, none⟩)), (7, .int .i64 r15), (8, .int .i64 x8_l1), (33, .slice A43 r34.length c44), (34, .int .i64 (r34.length : Int)), (35, .int .i64 (wi (x35_l1 + 1)))]) (by kernel_rfl) ?_
            exact ih x8_l1 (wi (x35_l1 + 1)) _ hS H
        · replace H := ite_f H hb49
          refine WR.runk [11, 12, 13, 14, 15, 16, 17, 18, 19, 20, 21, 22, 23] [] [0, 1, 5, 7, 8, 33, 34, 35, 45, 46, 47, 48, 51, 52, 53, 54, 55, 56, 59, 60, 61, 62, 63] (L' := [(0, .slice A0 l0.length c0), (1, .int .i64 a1), (5, .pointer (some ⟨b1, 0, none⟩)), (7, .int .i64 r15), (8, .int .i64 x8_l1), (33, .slice A43 r34.length c44), (34, .int .i64 (r34.length : Int)), (35, .int .i64 x35_l1), (45, .int .i64 x35_l1), (46, .pointer (some ⟨b1, 1, none⟩)), (47, .int .i64 a2_1), (48, .bool (decide (x35_l1 < a2_1))), (51, undef), (52, undef), (53, undef), (54, undef), (55, undef), (56, undef), (59, undef), (60, undef), (61, undef), (62, undef), (63, .bool false)]) (w' := w) (by kernel_rfl) ?_
          refine WR.nil ?_
          refine At.go ?_
          refine WC.condF (by kernel_rfl) (by kernel_rfl) (by kernel_rfl) ?_
          refine WC.skip (by kernel_rfl) ?_
          refine At.blockNormal ?_
          refine At.go ?_
          refine WC.reg [0, 1] (by kernel_rfl) (by kernel_rfl) ?_
          refine WR.runk [0, 1] [] [0, 1, 5, 7, 8, 33, 34, 35, 45, 46, 47, 48, 51, 52, 53, 54, 55, 56, 59, 60, 61, 62] (L' := [(0, .slice A0 l0.length c0), (1, .int .i64 a1), (5, .pointer (some ⟨b1, 0, none⟩)), (7, .int .i64 r15), (8, .int .i64 x8_l1), (33, .slice A43 r34.length c44), (34, .int .i64 (r34.length : Int)), (35, .int .i64 (wi (x35_l1 + 1))), (45, .int .i64 x35_l1), (46, .pointer (some ⟨b1, 1, none⟩)), (47, .int .i64 a2_1), (48, .bool (decide (x35_l1 < a2_1))), (51, undef), (52, undef), (53, undef), (54, undef), (55, undef), (56, undef), (59, undef), (60, undef), (61, undef), (62, undef)]) (w' := w) (by kernel_rfl) ?_
          refine WR.nil ?_
          have hS : Sat w (rf w0) [osl 3 (r0 (.int .i64)) 1 A43 c44 r34, pts b1 (.cells #[.int .i64 a2_0, .int .i64 a2_1] 41 (0, 0))] := hS.sel [0, 1] (by kernel_rfl)
          refine At.again ?_
          refine WL.weaken [0, 1, 5, 7, 8, 33, 34, 35] (L' := [(0, .slice A0 l0.length c0), (1, .int .i64 a1), (5, .pointer (some ⟨b1, 0, none⟩)), (7, .int .i64 r15), (8, .int .i64 x8_l1), (33, .slice A43 r34.length c44), (34, .int .i64 (r34.length : Int)), (35, .int .i64 (wi (x35_l1 + 1)))]) (by kernel_rfl) ?_
          exact ih x8_l1 (wi (x35_l1 + 1)) _ hS H
      · replace H := ite_f H hb48
        refine WR.runk [5, 6, 7, 8, 9, 10, 11, 12, 13, 14, 15, 16, 17, 18, 19, 20, 21, 22, 23] [] [0, 1, 5, 7, 8, 33, 34, 35, 45, 46, 47, 48, 51, 52, 53, 54, 55, 56, 59, 60, 61, 62, 63] (L' := [(0, .slice A0 l0.length c0), (1, .int .i64 a1), (5, .pointer (some ⟨b1, 0, none⟩)), (7, .int .i64 r15), (8, .int .i64 x8_l1), (33, .slice A43 r34.length c44), (34, .int .i64 (r34.length : Int)), (35, .int .i64 x35_l1), (45, undef), (46, undef), (47, undef), (48, undef), (51, undef), (52, undef), (53, undef), (54, undef), (55, undef), (56, undef), (59, undef), (60, undef), (61, undef), (62, undef), (63, .bool false)]) (w' := w) (by kernel_rfl) ?_
        refine WR.nil ?_
        refine At.go ?_
        refine WC.condF (by kernel_rfl) (by kernel_rfl) (by kernel_rfl) ?_
        refine WC.skip (by kernel_rfl) ?_
        refine At.blockNormal ?_
        refine At.go ?_
        refine WC.reg [0, 1] (by kernel_rfl) (by kernel_rfl) ?_
        refine WR.runk [0, 1] [] [0, 1, 5, 7, 8, 33, 34, 35, 45, 46, 47, 48, 51, 52, 53, 54, 55, 56, 59, 60, 61, 62] (L' := [(0, .slice A0 l0.length c0), (1, .int .i64 a1), (5, .pointer (some ⟨b1, 0, none⟩)), (7, .int .i64 r15), (8, .int .i64 x8_l1), (33, .slice A43 r34.length c44), (34, .int .i64 (r34.length : Int)), (35, .int .i64 (wi (x35_l1 + 1))), (45, undef), (46, undef), (47, undef), (48, undef), (51, undef), (52, undef), (53, undef), (54, undef), (55, undef), (56, undef), (59, undef), (60, undef), (61, undef), (62, undef)]) (w' := w) (by kernel_rfl) ?_
        refine WR.nil ?_
        have hS : Sat w (rf w0) [osl 3 (r0 (.int .i64)) 1 A43 c44 r34, pts b1 (.cells #[.int .i64 a2_0, .int .i64 a2_1] 41 (0, 0))] := hS.sel [0, 1] (by kernel_rfl)
        refine At.again ?_
        refine WL.weaken [0, 1, 5, 7, 8, 33, 34, 35] (L' := [(0, .slice A0 l0.length c0), (1, .int .i64 a1), (5, .pointer (some ⟨b1, 0, none⟩)), (7, .int .i64 r15), (8, .int .i64 x8_l1), (33, .slice A43 r34.length c44), (34, .int .i64 (r34.length : Int)), (35, .int .i64 (wi (x35_l1 + 1)))]) (by kernel_rfl) ?_
        exact ih x8_l1 (wi (x35_l1 + 1)) _ hS H
    · replace H := ite_f H hb45
      refine WC.exit (by kernel_rfl) ?_
      refine At.thenExit ?_
      refine At.thenExit ?_
      obtain rfl := Option.some.inj H
      have hS : Sat w (rf w0) [pts b1 (.cells #[.int .i64 a2_0, .int .i64 a2_1] 41 (0, 0))] := hS.sel [1] (by kernel_rfl)
      refine At.weaken [5, 7, 8] (L' := [(5, .pointer (some ⟨b1, 0, none⟩)), (7, .int .i64 r15), (8, .int .i64 x8_l1)]) (by kernel_rfl) ?_
      exact hn0 _ hS
theorem colophonlaw12_DocsCounts.calls (w0 : World) (A0 : Option Addr) (c0 : Nat) (l0 : List Int) (R0 : rdS (r0 (.int .i64)) 1 (hp w0) A0 c0 l0) (a1 : Int) (a2_0 : Int) (a2_1 : Int) (r : Bool) (H : colophonlaw12_DocsCounts.f l0 a1 a2_0 a2_1 = some r) :
    Calls Try.prog 5 #[.slice A0 l0.length c0, .int .i64 a1, .agg #[.int .i64 a2_0, .int .i64 a2_1]] w0 (fun e w' => ∃ v, e = .returned v ∧ colophonlaw12_DocsCounts.post w0 r v w') := by
  have hS : Sat w0 (rf w0) [] := Sat.start w0
  unfold colophonlaw12_DocsCounts.f at H
  refine calls_of_WC (vs := [.slice A0 l0.length c0, .int .i64 a1, .agg #[.int .i64 a2_0, .int .i64 a2_1]]) Try.func5 (c := C5) (n := 76) (by kernel_rfl) (by kernel_rfl) (by kernel_rfl) ?_
  refine WC.seq (by kernel_rfl) ?_
  refine WC.reg [0, 1] (by kernel_rfl) (by kernel_rfl) ?_
  refine WR.runk [] [0, 1] [0, 1, 2] (L' := [(0, .slice A0 l0.length c0), (1, .int .i64 a1), (2, .agg #[.int .i64 a2_0, .int .i64 a2_1])]) (w' := w0) (by kernel_rfl) ?_
  refine WR.st (St.box hS (by kernel_rfl) (.cells #[.int .i64 a2_0, .int .i64 a2_1] 41) (fun b1 => .pointer (some ⟨b1, 0, none⟩)) (fun _ => by kernel_rfl) (fun b1 w2 hS => ?_))
  refine WR.runk [1] [] [0, 1, 5] (L' := [(0, .slice A0 l0.length c0), (1, .int .i64 a1), (5, .pointer (some ⟨b1, 0, none⟩))]) (w' := w2) (by kernel_rfl) ?_
  refine WR.nil ?_
  refine At.go ?_
  refine WC.seq (by kernel_rfl) ?_
  refine WC.seq (by kernel_rfl) ?_
  refine WC.reg [0, 1] (by kernel_rfl) (by kernel_rfl) ?_
  obtain ⟨r4, e5, H⟩ := bind_ex H
  refine WR.st (St.call (by kernel_rfl) (f := 7) (args := #[]) (by kernel_rfl) (colophonlaw12_first.calls w2  r4 e5) ?_)
  rintro _ w11 ⟨rfl, hS12⟩
  have hS : Sat w11 (rf w0) [pts b1 (.cells #[.int .i64 a2_0, .int .i64 a2_1] 41 (0, 0))] := hS.ext hS12
  refine WR.runk [1] [] [0, 1, 5, 12] (L' := [(0, .slice A0 l0.length c0), (1, .int .i64 a1), (5, .pointer (some ⟨b1, 0, none⟩)), (12, .bool (!r4))]) (w' := w11) (by kernel_rfl) ?_
  refine WR.nil ?_
  refine At.go ?_
  refine WC.cond (by kernel_rfl) (!r4) (by kernel_rfl) (by kernel_rfl) (fun hb13 => ?_) (fun hb13 => ?_)
  · replace H := ite_t H hb13
    refine WC.seq (by kernel_rfl) ?_
    refine WC.reg [0] (by kernel_rfl) (by kernel_rfl) ?_
    refine WR.runk [0] [] [6] (L' := [(6, .bool false)]) (w' := w11) (by kernel_rfl) ?_
    refine WR.nil ?_
    refine At.go ?_
    refine WC.ret (by kernel_rfl) ?_
    refine At.thenRet ?_
    obtain rfl := Option.some.inj H
    have hS : Sat w11 (rf w0) [] := hS.sel [] (by kernel_rfl)
    exact At.body [.bool false] (by kernel_rfl) ⟨_, rfl, rfl, hS⟩
  · replace H := ite_f H hb13
    refine WC.skip (by kernel_rfl) ?_
    refine At.go ?_
    refine WC.seq (by kernel_rfl) ?_
    refine WC.seq (by kernel_rfl) ?_
    refine WC.reg [0, 1, 2] (by kernel_rfl) (by kernel_rfl) ?_
    refine WR.runk [0, 1, 2] [] [0, 1, 5, 15] (L' := [(0, .slice A0 l0.length c0), (1, .int .i64 a1), (5, .pointer (some ⟨b1, 0, none⟩)), (15, .bool (decide ((l0.length : Int) > 1500)))]) (w' := w11) (by kernel_rfl) ?_
    refine WR.nil ?_
    refine At.go ?_
    refine WC.cond (by kernel_rfl) (decide ((l0.length : Int) > 1500)) (by kernel_rfl) (by kernel_rfl) (fun hb14 => ?_) (fun hb14 => ?_)
    · replace H := ite_t H hb14
      refine WC.seq (by kernel_rfl) ?_
      refine WC.reg [0] (by kernel_rfl) (by kernel_rfl) ?_
      refine WR.runk [0] [] [6] (L' := [(6, .bool true)]) (w' := w11) (by kernel_rfl) ?_
      refine WR.nil ?_
      refine At.go ?_
      refine WC.ret (by kernel_rfl) ?_
      refine At.thenRet ?_
      obtain rfl := Option.some.inj H
      have hS : Sat w11 (rf w0) [] := hS.sel [] (by kernel_rfl)
      exact At.body [.bool true] (by kernel_rfl) ⟨_, rfl, rfl, hS⟩
    · replace H := ite_f H hb14
      refine WC.skip (by kernel_rfl) ?_
      refine At.go ?_
      refine WC.seq (by kernel_rfl) ?_
      refine WC.reg [0, 1, 2, 3, 4, 5, 6, 7] (by kernel_rfl) (by kernel_rfl) ?_
      refine WR.runk [0, 1, 2] [3, 4, 5, 6, 7] [0, 1, 5, 16, 17, 18] (L' := [(0, .slice A0 l0.length c0), (1, .int .i64 a1), (5, .pointer (some ⟨b1, 0, none⟩)), (16, .slice A0 l0.length c0), (17, .int .i64 a1), (18, .pointer (some ⟨b1, 0, none⟩))]) (w' := w11) (by kernel_rfl) ?_
      refine WR.st (St.ofR (RSt.loadObj (t := 3) (k := 0) (v := .int .i64 a2_0) (.tmp 18) (by kernel_rfl) (by kernel_rfl) (by kernel_rfl) 0 hS rfl (by kernel_rfl) rfl ?_))
      refine WR.runk [4] [5, 6, 7] [0, 1, 5, 16, 17, 19, 20] (L' := [(0, .slice A0 l0.length c0), (1, .int .i64 a1), (5, .pointer (some ⟨b1, 0, none⟩)), (16, .slice A0 l0.length c0), (17, .int .i64 a1), (19, .int .i64 a2_0), (20, .pointer (some ⟨b1, 1, none⟩))]) (w' := w11) (by kernel_rfl) ?_
      refine WR.st (St.ofR (RSt.loadObj (t := 3) (k := 1) (v := .int .i64 a2_1) (.tmp 20) (by kernel_rfl) (by kernel_rfl) (by kernel_rfl) 0 hS rfl (by kernel_rfl) rfl ?_))
      refine WR.runk [] [6, 7] [0, 1, 5, 16, 17, 19, 21] (L' := [(0, .slice A0 l0.length c0), (1, .int .i64 a1), (5, .pointer (some ⟨b1, 0, none⟩)), (16, .slice A0 l0.length c0), (17, .int .i64 a1), (19, .int .i64 a2_0), (21, .int .i64 a2_1)]) (w' := w11) (by kernel_rfl) ?_
      obtain ⟨r15, e16, H⟩ := bind_ex H
      refine WR.st (St.call (by kernel_rfl) (f := 19) (args := #[.slice A0 l0.length c0, .int .i64 a1, .int .i64 a2_0, .int .i64 a2_1]) (by kernel_rfl) (docs_Count.calls w11 A0 c0 l0 (rdS.up R0 hS.sub0) a1 a2_0 a2_1 r15 e16) ?_)
      rintro _ w22 ⟨rfl, hS23⟩
      have hS : Sat w22 (rf w0) [pts b1 (.cells #[.int .i64 a2_0, .int .i64 a2_1] 41 (0, 0))] := hS.ext hS23
      refine WR.runk [7] [] [0, 1, 5, 7] (L' := [(0, .slice A0 l0.length c0), (1, .int .i64 a1), (5, .pointer (some ⟨b1, 0, none⟩)), (7, .int .i64 r15)]) (w' := w22) (by kernel_rfl) ?_
      refine WR.nil ?_
      refine At.go ?_
      refine WC.seq (by kernel_rfl) ?_
      refine WC.seq (by kernel_rfl) ?_
      refine WC.reg [0, 1, 2, 3, 4, 5, 6, 7, 8] (by kernel_rfl) (by kernel_rfl) ?_
      refine WR.runk [0, 1, 2, 3] [4, 5, 6, 7, 8] [0, 1, 5, 7, 23, 24, 25, 26] (L' := [(0, .slice A0 l0.length c0), (1, .int .i64 a1), (5, .pointer (some ⟨b1, 0, none⟩)), (7, .int .i64 r15), (23, .int .i64 r15), (24, .slice A0 l0.length c0), (25, .int .i64 a1), (26, .pointer (some ⟨b1, 0, none⟩))]) (w' := w22) (by kernel_rfl) ?_
      refine WR.st (St.ofR (RSt.loadObj (t := 3) (k := 0) (v := .int .i64 a2_0) (.tmp 26) (by kernel_rfl) (by kernel_rfl) (by kernel_rfl) 0 hS rfl (by kernel_rfl) rfl ?_))
      refine WR.runk [5] [6, 7, 8] [0, 1, 5, 7, 23, 24, 25, 27, 28] (L' := [(0, .slice A0 l0.length c0), (1, .int .i64 a1), (5, .pointer (some ⟨b1, 0, none⟩)), (7, .int .i64 r15), (23, .int .i64 r15), (24, .slice A0 l0.length c0), (25, .int .i64 a1), (27, .int .i64 a2_0), (28, .pointer (some ⟨b1, 1, none⟩))]) (w' := w22) (by kernel_rfl) ?_
      refine WR.st (St.ofR (RSt.loadObj (t := 3) (k := 1) (v := .int .i64 a2_1) (.tmp 28) (by kernel_rfl) (by kernel_rfl) (by kernel_rfl) 0 hS rfl (by kernel_rfl) rfl ?_))
      refine WR.runk [] [7, 8] [0, 1, 5, 7, 23, 24, 25, 27, 29] (L' := [(0, .slice A0 l0.length c0), (1, .int .i64 a1), (5, .pointer (some ⟨b1, 0, none⟩)), (7, .int .i64 r15), (23, .int .i64 r15), (24, .slice A0 l0.length c0), (25, .int .i64 a1), (27, .int .i64 a2_0), (29, .int .i64 a2_1)]) (w' := w22) (by kernel_rfl) ?_
      obtain ⟨r24, e25, H⟩ := bind_ex H
      refine WR.st (St.call (by kernel_rfl) (f := 20) (args := #[.slice A0 l0.length c0, .int .i64 a1, .int .i64 a2_0, .int .i64 a2_1]) (by kernel_rfl) (colophonref12_Count.calls w22 A0 c0 l0 (rdS.up R0 hS.sub0) a1 a2_0 a2_1 r24 e25) ?_)
      rintro _ w31 ⟨rfl, hS32⟩
      have hS : Sat w31 (rf w0) [pts b1 (.cells #[.int .i64 a2_0, .int .i64 a2_1] 41 (0, 0))] := hS.ext hS32
      refine WR.runk [8] [] [0, 1, 5, 7, 31] (L' := [(0, .slice A0 l0.length c0), (1, .int .i64 a1), (5, .pointer (some ⟨b1, 0, none⟩)), (7, .int .i64 r15), (31, .bool (r15 != r24))]) (w' := w31) (by kernel_rfl) ?_
      refine WR.nil ?_
      refine At.go ?_
      refine WC.cond (by kernel_rfl) (r15 != r24) (by kernel_rfl) (by kernel_rfl) (fun hb33 => ?_) (fun hb33 => ?_)
      · replace H := ite_t H hb33
        refine WC.seq (by kernel_rfl) ?_
        refine WC.reg [0] (by kernel_rfl) (by kernel_rfl) ?_
        refine WR.runk [0] [] [6] (L' := [(6, .bool false)]) (w' := w31) (by kernel_rfl) ?_
        refine WR.nil ?_
        refine At.go ?_
        refine WC.ret (by kernel_rfl) ?_
        refine At.thenRet ?_
        obtain rfl := Option.some.inj H
        have hS : Sat w31 (rf w0) [] := hS.sel [] (by kernel_rfl)
        exact At.body [.bool false] (by kernel_rfl) ⟨_, rfl, rfl, hS⟩
      · replace H := ite_f H hb33
        refine WC.skip (by kernel_rfl) ?_
        refine At.go ?_
        refine WC.seq (by kernel_rfl) ?_
        refine WC.reg [0] (by kernel_rfl) (by kernel_rfl) ?_
        refine WR.runk [0] [] [0, 1, 5, 7, 8] (L' := [(0, .slice A0 l0.length c0), (1, .int .i64 a1), (5, .pointer (some ⟨b1, 0, none⟩)), (7, .int .i64 r15), (8, .int .i64 0)]) (w' := w31) (by kernel_rfl) ?_
        refine WR.nil ?_
        refine At.go ?_
        refine WC.seq (by kernel_rfl) ?_
        refine WC.seq (by kernel_rfl) ?_
        refine WC.reg [0, 1, 2, 3] (by kernel_rfl) (by kernel_rfl) ?_
        refine WR.runk [0] [1, 2, 3] [0, 1, 5, 7, 8, 32] (L' := [(0, .slice A0 l0.length c0), (1, .int .i64 a1), (5, .pointer (some ⟨b1, 0, none⟩)), (7, .int .i64 r15), (8, .int .i64 0), (32, .slice A0 l0.length c0)]) (w' := w31) (by kernel_rfl) ?_
        obtain ⟨r34, e35, H⟩ := bind_ex H
        refine WR.st (St.call (by kernel_rfl) (f := 14) (args := #[.slice A0 l0.length c0]) (by kernel_rfl) (docs_Back.calls w31 A0 c0 l0 (rdS.up R0 hS.sub0) r34 e35) ?_)
        rintro _ w41 ⟨A43, c44, rfl, hS42⟩
        have hS : Sat w41 (rf w0) [osl 3 (r0 (.int .i64)) 1 A43 c44 r34, pts b1 (.cells #[.int .i64 a2_0, .int .i64 a2_1] 41 (0, 0))] := hS.ext hS42
        refine WR.runk [2, 3] [] [0, 1, 5, 7, 8, 33, 34, 35] (L' := [(0, .slice A0 l0.length c0), (1, .int .i64 a1), (5, .pointer (some ⟨b1, 0, none⟩)), (7, .int .i64 r15), (8, .int .i64 0), (33, .slice A43 r34.length c44), (34, .int .i64 (r34.length : Int)), (35, .int .i64 0)]) (w' := w41) (by kernel_rfl) ?_
        refine WR.nil ?_
        refine At.go ?_
        refine WC.block (by kernel_rfl) ?_
        have hS : Sat w41 (rf w0) [osl 3 (r0 (.int .i64)) 1 A43 c44 r34, pts b1 (.cells #[.int .i64 a2_0, .int .i64 a2_1] 41 (0, 0))] := hS.sel [0, 1] (by kernel_rfl)
        obtain ⟨o54, e55, H⟩ := bind_ex H
        refine WC.loop (by kernel_rfl) ?_
        refine WL.weaken [0, 1, 5, 7, 8, 33, 34, 35] (L' := [(0, .slice A0 l0.length c0), (1, .int .i64 a1), (5, .pointer (some ⟨b1, 0, none⟩)), (7, .int .i64 r15), (8, .int .i64 0), (33, .slice A43 r34.length c44), (34, .int .i64 (r34.length : Int)), (35, .int .i64 0)]) (by kernel_rfl) ?_
        refine colophonlaw12_DocsCounts.l1_ok w0 A0 c0 l0 a1 a2_0 a2_1 b1 r15 r34 A43 c44 R0 o54 (fun w57 hS => ?_) FU 0 0 _ hS e55
        refine At.hit ?_
        refine At.go ?_
        refine WC.seq (by kernel_rfl) ?_
        refine WC.reg [0, 1, 2, 3, 4, 5, 6, 7, 8, 9] (by kernel_rfl) (by kernel_rfl) ?_
        refine WR.runk [0] [1, 2, 3, 4, 5, 6, 7, 8, 9] [7, 8, 67] (L' := [(7, .int .i64 r15), (8, .int .i64 o54), (67, .pointer (some ⟨b1, 0, none⟩))]) (w' := w57) (by kernel_rfl) ?_
        refine WR.st (St.ofR (RSt.loadObj (t := 3) (k := 0) (v := .int .i64 a2_0) (.tmp 67) (by kernel_rfl) (by kernel_rfl) (by kernel_rfl) 0 hS rfl (by kernel_rfl) rfl ?_))
        refine WR.runk [2, 3] [4, 5, 6, 7, 8, 9] [7, 8, 70] (L' := [(7, .int .i64 r15), (8, .int .i64 o54), (70, .bool (decide (a2_0 < 0)))]) (w' := w57) (by kernel_rfl) ?_
        refine WR.split 70 (b := decide (a2_0 < 0)) (by kernel_rfl) (fun hb59 => ?_) (fun hb59 => ?_)
        · replace H := ite_t H hb59
          refine WR.runk [4, 5, 6, 7, 8, 9] [] [6] (L' := [(6, .bool true)]) (w' := w57) (by kernel_rfl) ?_
          refine WR.nil ?_
          refine At.go ?_
          refine WC.ret (by kernel_rfl) ?_
          obtain rfl := Option.some.inj H
          have hS : Sat w57 (rf w0) [] := hS.sel [] (by kernel_rfl)
          exact At.body [.bool true] (by kernel_rfl) ⟨_, rfl, rfl, hS⟩
        · replace H := ite_f H hb59
          refine WR.runk [4, 5, 6, 7, 8, 9] [] [6] (L' := [(6, .bool (o54 == (imin r15 1)))]) (w' := w57) (by kernel_rfl) ?_
          refine WR.nil ?_
          refine At.go ?_
          refine WC.ret (by kernel_rfl) ?_
          obtain rfl := Option.some.inj H
          have hS : Sat w57 (rf w0) [] := hS.sel [] (by kernel_rfl)
          exact At.body [.bool (o54 == (imin r15 1))] (by kernel_rfl) ⟨_, rfl, rfl, hS⟩
end Go.Proofs.Ythnlihpmpmhidaa
