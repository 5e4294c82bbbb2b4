/-
  Printed by gen.py (my own tool): for each Go function a plain Lean function and the proof that a call of it does what that function says.
-/
import Derived.Test.YthnlihpmpmhidaaGP1b
set_option linter.unusedVariables false
set_option linter.unusedSimpArgs false
set_option maxRecDepth 100000
namespace Go.Proofs.Ythnlihpmpmhidaa
open Go Go.Gol
/-! ### 4 colophon/colophonlaw12.DocsLinks -/
def colophonlaw12_DocsLinks.l1 (l0 : List Int) (r19 : (List Int)) (r30 : (List Int)) : Nat → Int → Option (Sum Bool Unit)
  | 0, _ => none
  | k + 1, x39_l1 => (if decide (x39_l1 < (l0.length : Int)) then ((at? r19 x39_l1).bind fun v94 => (if decide (v94 ≥ 0) then ((at? r30 v94).bind fun v97 => (if (v97 != x39_l1) then some (.inl false) else ((at? r30 x39_l1).bind fun v100 => (if decide (v100 < (l0.length : Int)) then ((at? r19 v100).bind fun v103 => (if (v103 != x39_l1) then some (.inl false) else colophonlaw12_DocsLinks.l1 l0 r19 r30 k (wi (x39_l1 + 1)))) else colophonlaw12_DocsLinks.l1 l0 r19 r30 k (wi (x39_l1 + 1)))))) else ((at? r30 x39_l1).bind fun v106 => (if decide (v106 < (l0.length : Int)) then ((at? r19 v106).bind fun v109 => (if (v109 != x39_l1) then some (.inl false) else colophonlaw12_DocsLinks.l1 l0 r19 r30 k (wi (x39_l1 + 1)))) else colophonlaw12_DocsLinks.l1 l0 r19 r30 k (wi (x39_l1 + 1)))))) else some (.inr ()))
def colophonlaw12_DocsLinks.f (l0 : List Int) : Option Bool := (colophonlaw12_first.f.bind fun r1 => (if (!r1) then some false else (if decide ((l0.length : Int) > 800) then some true else ((app? 17592186044416 (([] : List Int) : List Int) l0).bind fun y15 => ((docs_Back.f y15).bind fun r19 => ((docs_Ahead.f y15).bind fun r30 => ((colophonref08_Same.f y15 l0).bind fun r41 => (if (!r41) then some false else ((colophonref12_Back.f l0).bind fun r51 => ((colophonref08_Same.f r19 r51).bind fun r62 => (if (!r62) then some false else ((colophonref12_Ahead.f l0).bind fun r72 => ((colophonref08_Same.f r30 r72).bind fun r83 => (if (!r83) then some false else ((colophonlaw12_DocsLinks.l1 l0 r19 r30 FU 0).bind fun o112 => (match o112 with | .inl o114 => some o114 | .inr o118 => some true))))))))))))))))
def colophonlaw12_DocsLinks.post (w : World) (r : Bool) (v : Value) (w' : World) : Prop := v = (.bool r : Value) ∧ Sat w' (rf w) []
theorem colophonlaw12_DocsLinks.l1_ok {Q} (w0 : World) (A0 : Option Addr) (c0 : Nat) (l0 : List Int) (r19 : (List Int)) (A28 : Option Addr) (c29 : Nat) (r30 : (List Int)) (A39 : Option Addr) (c40 : Nat) (out : Sum Bool Unit) (hn0 : ∀ (o0 : Bool) (w : World), out = (.inl o0) → Sat w (rf w0) [] → At Q .ret 79 [(2, .bool o0)] w) (hn1 : ∀ (o1 : Unit) (w : World), out = (.inr o1) → Sat w (rf w0) [] → At Q (.exit 0) 79 [] w) :
    ∀ (k : Nat) (x39_l1 : Int) (w : World), Sat w (rf w0) [osl 3 (r0 (.int .i64)) 1 A28 c29 r19, osl 3 (r0 (.int .i64)) 1 A39 c40 r30] → colophonlaw12_DocsLinks.l1 l0 r19 r30 k x39_l1 = some out → WL Try.prog (cbody (cbody (cr (cl (cr (cr (cr (cr (cr (cr C4)))))))))) Q 79 [(0, .slice A0 l0.length c0), (4, .slice A28 r19.length c29), (5, .slice A39 r30.length c40), (38, .int .i64 (l0.length : Int)), (39, .int .i64 x39_l1)] w := by
  intro k
  induction k with
  | zero => intro x39_l1 w hS H; exact absurd (show none = some out from H) (by simp)
  | succ k ih =>
    intro x39_l1 w hS H
    unfold colophonlaw12_DocsLinks.l1 at H
    refine WL.round ?_
    refine WC.seq (by kernel_rfl) ?_
    refine WC.reg [0] (by kernel_rfl) (by kernel_rfl) ?_
    refine WR.runk [0] [] [0, 4, 5, 38, 39, 40] (L' := [(0, .slice A0 l0.length c0), (4, .slice A28 r19.length c29), (5, .slice A39 r30.length c40), (38, .int .i64 (l0.length : Int)), (39, .int .i64 x39_l1), (40, .bool (decide (x39_l1 < (l0.length : Int))))]) (w' := w) (by kernel_rfl) ?_
    refine WR.nil ?_
    refine At.go ?_
    refine WC.seq (by kernel_rfl) ?_
    refine WC.cond (by kernel_rfl) (decide (x39_l1 < (l0.length : Int))) (by kernel_rfl) (by kernel_rfl) (fun hb93 => ?_) (fun hb93 => ?_)
    · replace H := ite_t H hb93
      refine WC.skip (by kernel_rfl) ?_
      refine At.go ?_
      refine WC.seq (by kernel_rfl) ?_
      refine WC.block (by kernel_rfl) ?_
      refine WC.seq (by kernel_rfl) ?_
      refine WC.reg [0, 1] (by kernel_rfl) (by kernel_rfl) ?_
      refine WR.runk [0, 1] [] [0, 4, 5, 6, 38, 39] (L' := [(0, .slice A0 l0.length c0), (4, .slice A28 r19.length c29), (5, .slice A39 r30.length c40), (6, .int .i64 x39_l1), (38, .int .i64 (l0.length : Int)), (39, .int .i64 x39_l1)]) (w' := w) (by kernel_rfl) ?_
      refine WR.nil ?_
      refine At.go ?_
      refine WC.seq (by kernel_rfl) ?_
      refine WC.reg [0, 1, 2, 3, 4, 5, 6, 7, 8, 9, 10, 11, 12, 13, 14, 15, 16, 17, 18, 19, 20, 21, 22, 23, 24, 25, 26, 27, 28, 29, 30, 31, 32, 33, 34, 35] (by kernel_rfl) (by kernel_rfl) ?_
      refine WR.runk [0, 1] [2, 3, 4, 5, 6, 7, 8, 9, 10, 11, 12, 13, 14, 15, 16, 17, 18, 19, 20, 21, 22, 23, 24, 25, 26, 27, 28, 29, 30, 31, 32, 33, 34, 35] [0, 4, 5, 6, 38, 39, 42, 43] (L' := [(0, .slice A0 l0.length c0), (4, .slice A28 r19.length c29), (5, .slice A39 r30.length c40), (6, .int .i64 x39_l1), (38, .int .i64 (l0.length : Int)), (39, .int .i64 x39_l1), (42, .slice A28 r19.length c29), (43, .int .i64 x39_l1)]) (w' := w) (by kernel_rfl) ?_
      obtain ⟨v94, e95, H⟩ := bind_ex H
      refine WR.st (St.ofP (PSt.idx (k := .i64) (.tmp 42) (.tmp 43) (by kernel_rfl) (by kernel_rfl) E23 (by kernel_rfl) (by kernel_rfl) (Sat.rdAt 0 hS rfl) e95 ?_))
      refine WR.runk [] [3, 4, 5, 6, 7, 8, 9, 10, 11, 12, 13, 14, 15, 16, 17, 18, 19, 20, 21, 22, 23, 24, 25, 26, 27, 28, 29, 30, 31, 32, 33, 34, 35] [0, 4, 5, 6, 38, 39, 44] (L' := [(0, .slice A0 l0.length c0), (4, .slice A28 r19.length c29), (5, .slice A39 r30.length c40), (6, .int .i64 x39_l1), (38, .int .i64 (l0.length : Int)), (39, .int .i64 x39_l1), (44, .pointer (some (adr A28 x39_l1.toNat 1)))]) (w' := w) (by kernel_rfl) ?_
      refine WR.st (St.ofR (RSt.loadInt (t := 3) (.tmp 44) (by kernel_rfl) (by kernel_rfl) (by kernel_rfl) (by kernel_rfl) (Sat.rdAt 0 hS rfl) e95 ?_))
      refine WR.runk [4, 5] [6, 7, 8, 9, 10, 11, 12, 13, 14, 15, 16, 17, 18, 19, 20, 21, 22, 23, 24, 25, 26, 27, 28, 29, 30, 31, 32, 33, 34, 35] [0, 4, 5, 6, 38, 39, 47] (L' := [(0, .slice A0 l0.length c0), (4, .slice A28 r19.length c29), (5, .slice A39 r30.length c40), (6, .int .i64 x39_l1), (38, .int .i64 (l0.length : Int)), (39, .int .i64 x39_l1), (47, .bool (decide (v94 ≥ 0)))]) (w' := w) (by kernel_rfl) ?_
      refine WR.split 47 (b := decide (v94 ≥ 0)) (by kernel_rfl) (fun hb96 => ?_) (fun hb96 => ?_)
      · replace H := ite_t H hb96
        refine WR.runk [6, 7, 8] [9, 10, 11, 12, 13, 14, 15, 16, 17, 18, 19, 20, 21, 22, 23, 24, 25, 26, 27, 28, 29, 30, 31, 32, 33, 34, 35] [0, 4, 5, 6, 38, 39, 47, 48, 49, 50] (L' := [(0, .slice A0 l0.length c0), (4, .slice A28 r19.length c29), (5, .slice A39 r30.length c40), (6, .int .i64 x39_l1), (38, .int .i64 (l0.length : Int)), (39, .int .i64 x39_l1), (47, .bool true), (48, .slice A39 r30.length c40), (49, .slice A28 r19.length c29), (50, .int .i64 x39_l1)]) (w' := w) (by kernel_rfl) ?_
        refine WR.st (St.ofP (PSt.idx (k := .i64) (.tmp 49) (.tmp 50) (by kernel_rfl) (by kernel_rfl) E23 (by kernel_rfl) (by kernel_rfl) (Sat.rdAt 0 hS rfl) e95 ?_))
        refine WR.runk [] [10, 11, 12, 13, 14, 15, 16, 17, 18, 19, 20, 21, 22, 23, 24, 25, 26, 27, 28, 29, 30, 31, 32, 33, 34, 35] [0, 4, 5, 6, 38, 39, 47, 48, 49, 50, 51] (L' := [(0, .slice A0 l0.length c0), (4, .slice A28 r19.length c29), (5, .slice A39 r30.length c40), (6, .int .i64 x39_l1), (38, .int .i64 (l0.length : Int)), (39, .int .i64 x39_l1), (47, .bool true), (48, .slice A39 r30.length c40), (49, .slice A28 r19.length c29), (50, .int .i64 x39_l1), (51, .pointer (some (adr A28 x39_l1.toNat 1)))]) (w' := w) (by kernel_rfl) ?_
        refine WR.st (St.ofR (RSt.loadInt (t := 3) (.tmp 51) (by kernel_rfl) (by kernel_rfl) (by kernel_rfl) (by kernel_rfl) (Sat.rdAt 0 hS rfl) e95 ?_))
        refine WR.runk [] [11, 12, 13, 14, 15, 16, 17, 18, 19, 20, 21, 22, 23, 24, 25, 26, 27, 28, 29, 30, 31, 32, 33, 34, 35] [0, 4, 5, 6, 38, 39, 47, 48, 49, 50, 51, 52] (L' := [(0, .slice A0 l0.length c0), (4, .slice A28 r19.length c29), (5, .slice A39 r30.length c40), (6, .int .i64 x39_l1), (38, .int .i64 (l0.length : Int)), (39, .int .i64 x39_l1), (47, .bool true), (48, .slice A39 r30.length c40), (49, .slice A28 r19.length c29), (50, .int .i64 x39_l1), (51, .pointer (some (adr A28 x39_l1.toNat 1))), (52, .int .i64 v94)]) (w' := w) (by kernel_rfl) ?_
        obtain ⟨v97, e98, H⟩ := bind_ex H
        refine WR.st (St.ofP (PSt.idx (k := .i64) (.tmp 48) (.tmp 52) (by kernel_rfl) (by kernel_rfl) E23 (by kernel_rfl) (by kernel_rfl) (Sat.rdAt 1 hS rfl) e98 ?_))
        refine WR.runk [] [12, 13, 14, 15, 16, 17, 18, 19, 20, 21, 22, 23, 24, 25, 26, 27, 28, 29, 30, 31, 32, 33, 34, 35] [0, 4, 5, 6, 38, 39, 47, 48, 49, 50, 51, 52, 53] (L' := [(0, .slice A0 l0.length c0), (4, .slice A28 r19.length c29), (5, .slice A39 r30.length c40), (6, .int .i64 x39_l1), (38, .int .i64 (l0.length : Int)), (39, .int .i64 x39_l1), (47, .bool true), (48, .slice A39 r30.length c40), (49, .slice A28 r19.length c29), (50, .int .i64 x39_l1), (51, .pointer (some (adr A28 x39_l1.toNat 1))), (52, .int .i64 v94), (53, .pointer (some (adr A39 v94.toNat 1)))]) (w' := w) (by kernel_rfl) ?_
        refine WR.st (St.ofR (RSt.loadInt (t := 3) (.tmp 53) (by kernel_rfl) (by kernel_rfl) (by kernel_rfl) (by kernel_rfl) (Sat.rdAt 1 hS rfl) e98 ?_))
        refine WR.runk [13, 14, 15, 16] [17, 18, 19, 20, 21, 22, 23, 24, 25, 26, 27, 28, 29, 30, 31, 32, 33, 34, 35] [0, 4, 5, 6, 38, 39, 48, 49, 50, 51, 52, 53, 54, 55, 56, 58] (L' := [(0, .slice A0 l0.length c0), (4, .slice A28 r19.length c29), (5, .slice A39 r30.length c40), (6, .int .i64 x39_l1), (38, .int .i64 (l0.length : Int)), (39, .int .i64 x39_l1), (48, .slice A39 r30.length c40), (49, .slice A28 r19.length c29), (50, .int .i64 x39_l1), (51, .pointer (some (adr A28 x39_l1.toNat 1))), (52, .int .i64 v94), (53, .pointer (some (adr A39 v94.toNat 1))), (54, .int .i64 v97), (55, .int .i64 x39_l1), (56, .bool (v97 != x39_l1)), (58, .bool (v97 != x39_l1))]) (w' := w) (by kernel_rfl) ?_
        refine WR.split 58 (b := (v97 != x39_l1)) (by kernel_rfl) (fun hb99 => ?_) (fun hb99 => ?_)
        · replace H := ite_t H hb99
          refine WR.runk [17, 18, 19, 20, 21, 22, 23, 24, 25, 26, 27, 28, 29, 30, 31, 32, 33, 34, 35] [] [0, 4, 5, 38, 39, 48, 49, 50, 51, 52, 53, 54, 55, 56, 59, 60, 61, 62, 63, 64, 65, 66, 67, 68, 69, 70, 71, 72, 73, 74, 75, 76, 77] (L' := [(0, .slice A0 l0.length c0), (4, .slice A28 r19.length c29), (5, .slice A39 r30.length c40), (38, .int .i64 (l0.length : Int)), (39, .int .i64 x39_l1), (48, .slice A39 r30.length c40), (49, .slice A28 r19.length c29), (50, .int .i64 x39_l1), (51, .pointer (some (adr A28 x39_l1.toNat 1))), (52, .int .i64 v94), (53, .pointer (some (adr A39 v94.toNat 1))), (54, .int .i64 v97), (55, .int .i64 x39_l1), (56, .bool (v97 != x39_l1)), (59, undef), (60, undef), (61, undef), (62, undef), (63, undef), (64, undef), (65, undef), (66, undef), (67, undef), (68, undef), (69, undef), (70, undef), (71, undef), (72, undef), (73, undef), (74, undef), (75, undef), (76, undef), (77, .bool true)]) (w' := w) (by kernel_rfl) ?_
          refine WR.nil ?_
          refine At.go ?_
          refine WC.condT (by kernel_rfl) (by kernel_rfl) (by kernel_rfl) ?_
          refine WC.seq (by kernel_rfl) ?_
          refine WC.reg [0] (by kernel_rfl) (by kernel_rfl) ?_
          refine WR.runk [0] [] [2] (L' := [(2, .bool false)]) (w' := w) (by kernel_rfl) ?_
          refine WR.nil ?_
          refine At.go ?_
          refine WC.ret (by kernel_rfl) ?_
          refine At.blockRet ?_
          refine At.thenRet ?_
          refine At.thenRet ?_
          obtain rfl := Option.some.inj H
          have hS : Sat w (rf w0) [] := hS.sel [] (by kernel_rfl)
          refine At.weaken [2] (L' := [(2, .bool false)]) (by kernel_rfl) ?_
          exact hn0 false _ rfl hS
        · replace H := ite_f H hb99
          refine WR.runk [17, 18] [19, 20, 21, 22, 23, 24, 25, 26, 27, 28, 29, 30, 31, 32, 33, 34, 35] [0, 4, 5, 6, 38, 39, 48, 49, 50, 51, 52, 53, 54, 55, 56, 58, 59, 60] (L' := [(0, .slice A0 l0.length c0), (4, .slice A28 r19.length c29), (5, .slice A39 r30.length c40), (6, .int .i64 x39_l1), (38, .int .i64 (l0.length : Int)), (39, .int .i64 x39_l1), (48, .slice A39 r30.length c40), (49, .slice A28 r19.length c29), (50, .int .i64 x39_l1), (51, .pointer (some (adr A28 x39_l1.toNat 1))), (52, .int .i64 v94), (53, .pointer (some (adr A39 v94.toNat 1))), (54, .int .i64 v97), (55, .int .i64 x39_l1), (56, .bool (v97 != x39_l1)), (58, .bool false), (59, .slice A39 r30.length c40), (60, .int .i64 x39_l1)]) (w' := w) (by kernel_rfl) ?_
          obtain ⟨v100, e101, H⟩ := bind_ex H
          refine WR.st (St.ofP (PSt.idx (k := .i64) (.tmp 59) (.tmp 60) (by kernel_rfl) (by kernel_rfl) E23 (by kernel_rfl) (by kernel_rfl) (Sat.rdAt 1 hS rfl) e101 ?_))
          refine WR.runk [] [20, 21, 22, 23, 24, 25, 26, 27, 28, 29, 30, 31, 32, 33, 34, 35] [0, 4, 5, 6, 38, 39, 48, 49, 50, 51, 52, 53, 54, 55, 56, 58, 59, 60, 61] (L' := [(0, .slice A0 l0.length c0), (4, .slice A28 r19.length c29), (5, .slice A39 r30.length c40), (6, .int .i64 x39_l1), (38, .int .i64 (l0.length : Int)), (39, .int .i64 x39_l1), (48, .slice A39 r30.length c40), (49, .slice A28 r19.length c29), (50, .int .i64 x39_l1), (51, .pointer (some (adr A28 x39_l1.toNat 1))), (52, .int .i64 v94), (53, .pointer (some (adr A39 v94.toNat 1))), (54, .int .i64 v97), (55, .int .i64 x39_l1), (56, .bool (v97 != x39_l1)), (58, .bool false), (59, .slice A39 r30.length c40), (60, .int .i64 x39_l1), (61, .pointer (some (adr A39 x39_l1.toNat 1)))]) (w' := w) (by kernel_rfl) ?_
          refine WR.st (St.ofR (RSt.loadInt (t := 3) (.tmp 61) (by kernel_rfl) (by kernel_rfl) (by kernel_rfl) (by kernel_rfl) (Sat.rdAt 1 hS rfl) e101 ?_))
          refine WR.runk [21, 22, 23, 24] [25, 26, 27, 28, 29, 30, 31, 32, 33, 34, 35] [0, 4, 5, 6, 38, 39, 48, 49, 50, 51, 52, 53, 54, 55, 56, 58, 59, 60, 61, 62, 63, 64, 65, 66] (L' := [(0, .slice A0 l0.length c0), (4, .slice A28 r19.length c29), (5, .slice A39 r30.length c40), (6, .int .i64 x39_l1), (38, .int .i64 (l0.length : Int)), (39, .int .i64 x39_l1), (48, .slice A39 r30.length c40), (49, .slice A28 r19.length c29), (50, .int .i64 x39_l1), (51, .pointer (some (adr A28 x39_l1.toNat 1))), (52, .int .i64 v94), (53, .pointer (some (adr A39 v94.toNat 1))), (54, .int .i64 v97), (55, .int .i64 x39_l1), (56, .bool (v97 != x39_l1)), (58, .bool false), (59, .slice A39 r30.length c40), (60, .int .i64 x39_l1), (61, .pointer (some (adr A39 x39_l1.toNat 1))), (62, .int .i64 v100), (63, .slice A0 l0.length c0), (64, .int .i64 (l0.length : Int)), (65, .bool (decide (v100 < (l0.length : Int)))), (66, .bool (decide (v100 < (l0.length : Int))))]) (w' := w) (by kernel_rfl) ?_
          refine WR.split 66 (b := decide (v100 < (l0.length : Int))) (by kernel_rfl) (fun hb102 => ?_) (fun hb102 => ?_)
          · replace H := ite_t H hb102
            refine WR.runk [25, 26, 27] [28, 29, 30, 31, 32, 33, 34, 35] [0, 4, 5, 6, 38, 39, 48, 49, 50, 51, 52, 53, 54, 55, 56, 58, 59, 60, 61, 62, 63, 64, 65, 66, 67, 68, 69] (L' := [(0, .slice A0 l0.length c0), (4, .slice A28 r19.length c29), (5, .slice A39 r30.length c40), (6, .int .i64 x39_l1), (38, .int .i64 (l0.length : Int)), (39, .int .i64 x39_l1), (48, .slice A39 r30.length c40), (49, .slice A28 r19.length c29), (50, .int .i64 x39_l1), (51, .pointer (some (adr A28 x39_l1.toNat 1))), (52, .int .i64 v94), (53, .pointer (some (adr A39 v94.toNat 1))), (54, .int .i64 v97), (55, .int .i64 x39_l1), (56, .bool (v97 != x39_l1)), (58, .bool false), (59, .slice A39 r30.length c40), (60, .int .i64 x39_l1), (61, .pointer (some (adr A39 x39_l1.toNat 1))), (62, .int .i64 v100), (63, .slice A0 l0.length c0), (64, .int .i64 (l0.length : Int)), (65, .bool (decide (v100 < (l0.length : Int)))), (66, .bool true), (67, .slice A28 r19.length c29), (68, .slice A39 r30.length c40), (69, .int .i64 x39_l1)]) (w' := w) (by kernel_rfl) ?_
            refine WR.st (St.ofP (PSt.idx (k := .i64) (.tmp 68) (.tmp 69) (by kernel_rfl) (by kernel_rfl) E23 (by kernel_rfl) (by kernel_rfl) (Sat.rdAt 1 hS rfl) e101 ?_))
            refine WR.runk [] [29, 30, 31, 32, 33, 34, 35] [0, 4, 5, 6, 38, 39, 48, 49, 50, 51, 52, 53, 54, 55, 56, 58, 59, 60, 61, 62, 63, 64, 65, 66, 67, 68, 69, 70] (L' := [(0, .slice A0 l0.length c0), (4, .slice A28 r19.length c29), (5, .slice A39 r30.length c40), (6, .int .i64 x39_l1), (38, .int .i64 (l0.length : Int)), (39, .int .i64 x39_l1), (48, .slice A39 r30.length c40), (49, .slice A28 r19.length c29), (50, .int .i64 x39_l1), (51, .pointer (some (adr A28 x39_l1.toNat 1))), (52, .int .i64 v94), (53, .pointer (some (adr A39 v94.toNat 1))), (54, .int .i64 v97), (55, .int .i64 x39_l1), (56, .bool (v97 != x39_l1)), (58, .bool false), (59, .slice A39 r30.length c40), (60, .int .i64 x39_l1), (61, .pointer (some (adr A39 x39_l1.toNat 1))), (62, .int .i64 v100), (63, .slice A0 l0.length c0), (64, .int .i64 (l0.length : Int)), (65, .bool (decide (v100 < (l0.length : Int)))), (66, .bool true), (67, .slice A28 r19.length c29), (68, .slice A39 r30.length c40), (69, .int .i64 x39_l1), (70, .pointer (some (adr A39 x39_l1.toNat 1)))]) (w' := w) (by kernel_rfl) ?_
            refine WR.st (St.ofR (RSt.loadInt (t := 3) (.tmp 70) (by kernel_rfl) (by kernel_rfl) (by kernel_rfl) (by kernel_rfl) (Sat.rdAt 1 hS rfl) e101 ?_))
            refine WR.runk [] [30, 31, 32, 33, 34, 35] [0, 4, 5, 6, 38, 39, 48, 49, 50, 51, 52, 53, 54, 55, 56, 58, 59, 60, 61, 62, 63, 64, 65, 66, 67, 68, 69, 70, 71] (L' := [(0, .slice A0 l0.length c0), (4, .slice A28 r19.length c29), (5, .slice A39 r30.length c40), (6, .int .i64 x39_l1), (38, .int .i64 (l0.length : Int)), (39, .int .i64 x39_l1), (48, .slice A39 r30.length c40), (49, .slice A28 r19.length c29), (50, .int .i64 x39_l1), (51, .pointer (some (adr A28 x39_l1.toNat 1))), (52, .int .i64 v94), (53, .pointer (some (adr A39 v94.toNat 1))), (54, .int .i64 v97), (55, .int .i64 x39_l1), (56, .bool (v97 != x39_l1)), (58, .bool false), (59, .slice A39 r30.length c40), (60, .int .i64 x39_l1), (61, .pointer (some (adr A39 x39_l1.toNat 1))), (62, .int .i64 v100), (63, .slice A0 l0.length c0), (64, .int .i64 (l0.length : Int)), (65, .bool (decide (v100 < (l0.length : Int)))), (66, .bool true), (67, .slice A28 r19.length c29), (68, .slice A39 r30.length c40), (69, .int .i64 x39_l1), (70, .pointer (some (adr A39 x39_l1.toNat 1))), (71, .int .i64 v100)]) (w' := w) (by kernel_rfl) ?_
            obtain ⟨v103, e104, H⟩ := bind_ex H
            refine WR.st (St.ofP (PSt.idx (k := .i64) (.tmp 67) (.tmp 71) (by kernel_rfl) (by kernel_rfl) E23 (by kernel_rfl) (by kernel_rfl) (Sat.rdAt 0 hS rfl) e104 ?_))
            refine WR.runk [] [31, 32, 33, 34, 35] [0, 4, 5, 6, 38, 39, 48, 49, 50, 51, 52, 53, 54, 55, 56, 58, 59, 60, 61, 62, 63, 64, 65, 66, 67, 68, 69, 70, 71, 72] (L' := [(0, .slice A0 l0.length c0), (4, .slice A28 r19.length c29), (5, .slice A39 r30.length c40), (6, .int .i64 x39_l1), (38, .int .i64 (l0.length : Int)), (39, .int .i64 x39_l1), (48, .slice A39 r30.length c40), (49, .slice A28 r19.length c29), (50, .int .i64 x39_l1), (51, .pointer (some (adr A28 x39_l1.toNat 1))), (52, .int .i64 v94), (53, .pointer (some (adr A39 v94.toNat 1))), (54, .int .i64 v97), (55, .int .i64 x39_l1), (56, .bool (v97 != x39_l1)), (58, .bool false), (59, .slice A39 r30.length c40), (60, .int .i64 x39_l1), (61, .pointer (some (adr A39 x39_l1.toNat 1))), (62, .int .i64 v100), (63, .slice A0 l0.length c0), (64, .int .i64 (l0.length : Int)), (65, .bool (decide (v100 < (l0.length : Int)))), (66, .bool true), (67, .slice A28 r19.length c29), (68, .slice A39 r30.length c40), (69, .int .i64 x39_l1), (70, .pointer (some (adr A39 x39_l1.toNat 1))), (71, .int .i64 v100), (72, .pointer (some (adr A28 v100.toNat 1)))]) (w' := w) (by kernel_rfl) ?_
            refine WR.st (St.ofR (RSt.loadInt (t := 3) (.tmp 72) (by kernel_rfl) (by kernel_rfl) (by kernel_rfl) (by kernel_rfl) (Sat.rdAt 0 hS rfl) e104 ?_))
            refine WR.runk [32, 33, 34, 35] [] [0, 4, 5, 38, 39, 48, 49, 50, 51, 52, 53, 54, 55, 56, 59, 60, 61, 62, 63, 64, 65, 66, 67, 68, 69, 70, 71, 72, 73, 74, 75, 76, 77] (L' := [(0, .slice A0 l0.length c0), (4, .slice A28 r19.length c29), (5, .slice A39 r30.length c40), (38, .int .i64 (l0.length : Int)), (39, .int .i64 x39_l1), (48, .slice A39 r30.length c40), (49, .slice A28 r19.length c29), (50, .int .i64 x39_l1), (51, .pointer (some (adr A28 x39_l1.toNat 1))), (52, .int .i64 v94), (53, .pointer (some (adr A39 v94.toNat 1))), (54, .int .i64 v97), (55, .int .i64 x39_l1), (56, .bool (v97 != x39_l1)), (59, .slice A39 r30.length c40), (60, .int .i64 x39_l1), (61, .pointer (some (adr A39 x39_l1.toNat 1))), (62, .int .i64 v100), (63, .slice A0 l0.length c0), (64, .int .i64 (l0.length : Int)), (65, .bool (decide (v100 < (l0.length : Int)))), (66, .bool true), (67, .slice A28 r19.length c29), (68, .slice A39 r30.length c40), (69, .int .i64 x39_l1), (70, .pointer (some (adr A39 x39_l1.toNat 1))), (71, .int .i64 v100), (72, .pointer (some (adr A28 v100.toNat 1))), (73, .int .i64 v103), (74, .int .i64 x39_l1), (75, .bool (v103 != x39_l1)), (76, .bool (v103 != x39_l1)), (77, .bool (v103 != x39_l1))]) (w' := w) (by kernel_rfl) ?_
            refine WR.nil ?_
            refine At.go ?_
            refine WC.cond (by kernel_rfl) (v103 != x39_l1) (by kernel_rfl) (by kernel_rfl) (fun hb105 => ?_) (fun hb105 => ?_)
            · replace H := ite_t H hb105
              refine WC.seq (by kernel_rfl) ?_
              refine WC.reg [0] (by kernel_rfl) (by kernel_rfl) ?_
              refine WR.runk [0] [] [2] (L' := [(2, .bool false)]) (w' := w) (by kernel_rfl) ?_
              refine WR.nil ?_
              refine At.go ?_
              refine WC.ret (by kernel_rfl) ?_
              refine At.blockRet ?_
              refine At.thenRet ?_
              refine At.thenRet ?_
              obtain rfl := Option.some.inj H
              have hS : Sat w (rf w0) [] := hS.sel [] (by kernel_rfl)
              refine At.weaken [2] (L' := [(2, .bool false)]) (by kernel_rfl) ?_
              exact hn0 false _ rfl hS
            · replace H := ite_f H hb105
              refine WC.skip (by kernel_rfl) ?_
              refine At.blockNormal ?_
              refine At.go ?_
              refine WC.reg [0, 1] (by kernel_rfl) (by kernel_rfl) ?_
              refine WR.runk [0, 1] [] [0, 4, 5, 38, 39, 48, 49, 50, 51, 52, 53, 54, 55, 56, 59, 60, 61, 62, 63, 64, 65, 66, 67, 68, 69, 70, 71, 72, 73, 74] (L' := [(0, .slice A0 l0.length c0), (4, .slice A28 r19.length c29), (5, .slice A39 r30.length c40), (38, .int .i64 (l0.length : Int)), (39, .int .i64 (wi (x39_l1 + 1))), (48, .slice A39 r30.length c40), (49, .slice A28 r19.length c29), (50, .int .i64 x39_l1), (51, .pointer (some (adr A28 x39_l1.toNat 1))), (52, .int .i64 v94), (53, .pointer (some (adr A39 v94.toNat 1))), (54, .int .i64 v97), (55, .int .i64 x39_l1), (56, .bool (v97 != x39_l1)), (59, .slice A39 r30.length c40), (60, .int .i64 x39_l1), (61, .pointer (some (adr A39 x39_l1.toNat 1))), (62, .int .i64 v100), (63, .slice A0 l0.length c0), (64, .int .i64 (l0.length : Int)), (65, .bool (decide (v100 < (l0.length : Int)))), (66, .bool true), (67, .slice A28 r19.length c29), (68, .slice A39 r30.length c40), (69, .int .i64 x39_l1), (70, .pointer (some (adr A39 x39_l1.toNat 1))), (71, .int .i64 v100), (72, .pointer (some (adr A28 v100.toNat 1))), (73, .int .i64 v103), (74, .int .i64 x39_l1)]) (w' := w) (by kernel_rfl) ?_
              refine WR.nil ?_
              have hS : Sat w (rf w0) [osl 3 (r0 (.int .i64)) 1 A28 c29 r19, osl 3 (r0 (.int .i64)) 1 A39 c40 r30] := hS.sel [0, 1] (by kernel_rfl)
              refine At.again ?_
              refine WL.weaken [0, 4, 5, 38, 39] (L' := [(0, .slice A0 l0.length c0), (4, .slice A28 r19.length c29), (5, .slice A39 r30.length c40), (38, .int .i64 (l0.length : Int)), (39, .int .i64 (wi (x39_l1 + 1)))]) (by kernel_rfl) ?_
              exact ih (wi (x39_l1 + 1)) _ hS H
          · replace H := ite_f H hb102
            refine WR.runk [25, 26, 27, 28, 29, 30, 31, 32, 33, 34, 35] [] [0, 4, 5, 38, 39, 48, 49, 50, 51, 52, 53, 54, 55, 56, 59, 60, 61, 62, 63, 64, 65, 66, 67, 68, 69, 70, 71, 72, 73, 74, 75, 76, 77] (L' := [(0, .slice A0 l0.length c0), (4, .slice A28 r19.length c29), (5, .slice A39 r30.length c40), (38, .int .i64 (l0.length : Int)), (39, .int .i64 x39_l1), (48, .slice A39 r30.length c40), (49, .slice A28 r19.length c29), (50, .int .i64 x39_l1), (51, .pointer (some (adr A28 x39_l1.toNat 1))), (52, .int .i64 v94), (53, .pointer (some (adr A39 v94.toNat 1))), (54, .int .i64 v97), (55, .int .i64 x39_l1), (56, .bool (v97 != x39_l1)), (59, .slice A39 r30.length c40), (60, .int .i64 x39_l1), (61, .pointer (some (adr A39 x39_l1.toNat 1))), (62, .int .i64 v100), (63, .slice A0 l0.length c0), (64, .int .i64 (l0.length : Int)), (65, .bool (decide (v100 < (l0.length : Int)))), (66, .bool false), (67, undef), (68, undef), (69, undef), (70, undef), (71, undef), (72, undef), (73, undef), (74, undef), (75, undef), (76, .bool false), (77, .bool false)]) (w' := w) (by kernel_rfl) ?_
            refine WR.nil ?_
            refine At.go ?_
            refine WC.condF (by kernel_rfl) (by kernel_rfl) (by kernel_rfl) ?_
            refine WC.skip (by kernel_rfl) ?_
            refine At.blockNormal ?_
            refine At.go ?_
            refine WC.reg [0, 1] (by kernel_rfl) (by kernel_rfl) ?_
            refine WR.runk [0, 1] [] [0, 4, 5, 38, 39, 48, 49, 50, 51, 52, 53, 54, 55, 56, 59, 60, 61, 62, 63, 64, 65, 66, 67, 68, 69, 70, 71, 72, 73, 74, 75, 76] (L' := [(0, .slice A0 l0.length c0), (4, .slice A28 r19.length c29), (5, .slice A39 r30.length c40), (38, .int .i64 (l0.length : Int)), (39, .int .i64 (wi (x39_l1 + 1))), (48, .slice A39 r30.length c40), (49, .slice A28 r19.length c29), (50, .int .i64 x39_l1), (51, .pointer (some (adr A28 x39_l1.toNat 1))), (52, .int .i64 v94), (53, .pointer (some (adr A39 v94.toNat 1))), (54, .int .i64 v97), (55, .int .i64 x39_l1), (56, .bool (v97 != x39_l1)), (59, .slice A39 r30.length c40), (60, .int .i64 x39_l1), (61, .pointer (some (adr A39 x39_l1.toNat 1))), (62, .int .i64 v100), (63, .slice A0 l0.length c0), (64, .int .i64 (l0.length : Int)), (65, .bool (decide (v100 < (l0.length : Int)))), (66, .bool false), (67, undef), (68, undef), (69, undef), (70, undef), (71, undef), (72, undef), (73, undef), (74, undef), (75, undef), (76, .bool false)]) (w' := w) (by kernel_rfl) ?_
            refine WR.nil ?_
            have hS : Sat w (rf w0) [osl 3 (r0 (.int .i64)) 1 A28 c29 r19, osl 3 (r0 (.int .i64)) 1 A39 c40 r30] := hS.sel [0, 1] (by kernel_rfl)
            refine At.again ?_
            refine WL.weaken [0, 4, 5, 38, 39] (L' := [(0, .slice A0 l0.length c0), (4, .slice A28 r19.length c29), (5, .slice A39 r30.length c40), (38, .int .i64 (l0.length : Int)), (39, .int .i64 (wi (x39_l1 + 1)))]) (by kernel_rfl) ?_
            exact ih (wi (x39_l1 + 1)) _ hS H
      · replace H := ite_f H hb96
        refine WR.runk [6, 7, 8, 9, 10, 11, 12, 13, 14, 15, 16, 17, 18] [19, 20, 21, 22, 23, 24, 25, 26, 27, 28, 29, 30, 31, 32, 33, 34, 35] [0, 4, 5, 6, 38, 39, 48, 49, 50, 51, 52, 53, 54, 55, 56, 58, 59, 60] (L' := [(0, .slice A0 l0.length c0), (4, .slice A28 r19.length c29), (5, .slice A39 r30.length c40), (6, .int .i64 x39_l1), (38, .int .i64 (l0.length : Int)), (39, .int .i64 x39_l1), (48, undef), (49, undef), (50, undef), (51, undef), (52, undef), (53, undef), (54, undef), (55, undef), (56, undef), (58, .bool false), (59, .slice A39 r30.length c40), (60, .int .i64 x39_l1)]) (w' := w) (by kernel_rfl) ?_
        obtain ⟨v106, e107, H⟩ := bind_ex H
        refine WR.st (St.ofP (PSt.idx (k := .i64) (.tmp 59) (.tmp 60) (by kernel_rfl) (by kernel_rfl) E23 (by kernel_rfl) (by kernel_rfl) (Sat.rdAt 1 hS rfl) e107 ?_))
        refine WR.runk [] [20, 21, 22, 23, 24, 25, 26, 27, 28, 29, 30, 31, 32, 33, 34, 35] [0, 4, 5, 6, 38, 39, 48, 49, 50, 51, 52, 53, 54, 55, 56, 58, 59, 60, 61] (L' := [(0, .slice A0 l0.length c0), (4, .slice A28 r19.length c29), (5, .slice A39 r30.length c40), (6, .int .i64 x39_l1), (38, .int .i64 (l0.length : Int)), (39, .int .i64 x39_l1), (48, undef), (49, undef), (50, undef), (51, undef), (52, undef), (53, undef), (54, undef), (55, undef), (56, undef), (58, .bool false), (59, .slice A39 r30.length c40), (60, .int .i64 x39_l1), (61, .pointer (some (adr A39 x39_l1.toNat 1)))]) (w' := w) (by kernel_rfl) ?_
        refine WR.st (St.ofR (RSt.loadInt (t := 3) (.tmp 61) (by kernel_rfl) (by kernel_rfl) (by kernel_rfl) (by kernel_rfl) (Sat.rdAt 1 hS rfl) e107 ?_))
        refine WR.runk [21, 22, 23, 24] [25, 26, 27, 28, 29, 30, 31, 32, 33, 34, 35] [0, 4, 5, 6, 38, 39, 48, 49, 50, 51, 52, 53, 54, 55, 56, 58, 59, 60, 61, 62, 63, 64, 65, 66] (L' := [(0, .slice A0 l0.length c0), (4, .slice A28 r19.length c29), (5, .slice A39 r30.length c40), (6, .int .i64 x39_l1), (38, .int .i64 (l0.length : Int)), (39, .int .i64 x39_l1), (48, undef), (49, undef), (50, undef), (51, undef), (52, undef), (53, undef), (54, undef), (55, undef), (56, undef), (58, .bool false), (59, .slice A39 r30.length c40), (60, .int .i64 x39_l1), (61, .pointer (some (adr A39 x39_l1.toNat 1))), (62, .int .i64 v106), (63, .slice A0 l0.length c0), (64, .int .i64 (l0.length : Int)), (65, .bool (decide (v106 < (l0.length : Int)))), (66, .bool (decide (v106 < (l0.length : Int))))]) (w' := w) (by kernel_rfl) ?_
        refine WR.split 66 (b := decide (v106 < (l0.length : Int))) (by kernel_rfl) (fun hb108 => ?_) (fun hb108 => ?_)
        · replace H := ite_t H hb108
          refine WR.runk [25, 26, 27] [28, 29, 30, 31, 32, 33, 34, 35] [0, 4, 5, 6, 38, 39, 48, 49, 50, 51, 52, 53, 54, 55, 56, 58, 59, 60, 61, 62, 63, 64, 65, 66, 67, 68, 69] (L' := [(0, .slice A0 l0.length c0), (4, .slice A28 r19.length c29), (5, .slice A39 r30.length c40), (6, .int .i64 x39_l1), (38, .int .i64 (l0.length : Int)), (39, .int .i64 x39_l1), (48, undef), (49, undef), (50, undef), (51, undef), (52, undef), (53, undef), (54, undef), (55, undef), (56, undef), (58, .bool false), (59, .slice A39 r30.length c40), (60, .int .i64 x39_l1), (61, .pointer (some (adr A39 x39_l1.toNat 1))), (62, .int .i64 v106), (63, .slice A0 l0.length c0), (64, .int .i64 (l0.length : Int)), (65, .bool (decide (v106 < (l0.length : Int)))), (66, .bool true), (67, .slice A28 r19.length c29), (68, .slice A39 r30.length c40), (69, .int .i64 x39_l1)]) (w' := w) (by kernel_rfl) ?_
          refine WR.st (St.ofP (PSt.idx (k := .i64) (.tmp 68) (.tmp 69) (by kernel_rfl) (by kernel_rfl) E23 (by kernel_rfl) (by kernel_rfl) (Sat.rdAt 1 hS rfl) e107 ?_))
          refine WR.runk [] [29, 30, 31, 32, 33, 34, 35] [0, 4, 5, 6, 38, 39, 48, 49, 50, 51, 52, 53, 54, 55, 56, 58, 59, 60, 61, 62, 63, 64, 65, 66, 67, 68, 69, 70] (L' := [(0, .slice A0 l0.length c0), (4, .slice A28 r19.length c29), (5, .slice A39 r30.length c40), (6, .int .i64 x39_l1), (38, .int .i64 (l0.length : Int)), (39, .int .i64 x39_l1), (48, undef), (49, undef), (50, undef), (51, undef), (52, undef), (53, undef), (54, undef), (55, undef), (56, undef), (58, .bool false), (59, .slice A39 r30.length c40), (60, .int .i64 x39_l1), (61, .pointer (some (adr A39 x39_l1.toNat 1))), (62, .int .i64 v106), (63, .slice A0 l0.length c0), (64, .int .i64 (l0.length : Int)), (65, .bool (decide (v106 < (l0.length : Int)))), (66, .bool true), (67, .slice A28 r19.length c29), (68, .slice A39 r30.length c40), (69, .int .i64 x39_l1), (70, .pointer (some (adr A39 x39_l1.toNat 1)))]) (w' := w) (by kernel_rfl) ?_
          refine WR.st (St.ofR (RSt.loadInt (t := 3) (.tmp 70) (by kernel_rfl) (by kernel_rfl) (by kernel_rfl) (by kernel_rfl) (Sat.rdAt 1 hS rfl) e107 ?_))
          refine WR.runk [] [30, 31, 32, 33, 34, 35] [0, 4, 5, 6, 38, 39, 48, 49, 50, 51, 52, 53, 54, 55, 56, 58, 59, 60, 61, 62, 63, 64, 65, 66, 67, 68, 69, 70, 71] (L' := [(0, .slice A0 l0.length c0), (4, .slice A28 r19.length c29), (5, .slice A39 r30.length c40), (6, .int .i64 x39_l1), (38, .int .i64 (l0.length : Int)), (39, .int .i64 x39_l1), (48, undef), (49, undef), (50, undef), (51, undef), (52, undef), (53, undef), (54, undef), (55, undef), (56, undef), (58, .bool false), (59, .slice A39 r30.length c40), (60, .int .i64 x39_l1), (61, .pointer (some (adr A39 x39_l1.toNat 1))), (62, .int .i64 v106), (63, .slice A0 l0.length c0), (64, .int .i64 (l0.length : Int)), (65, .bool (decide (v106 < (l0.length : Int)))), (66, .bool true), (67, .slice A28 r19.length c29), (68, .slice A39 r30.length c40), (69, .int .i64 x39_l1), (70, .pointer (some (adr A39 x39_l1.toNat 1))), (71, .int .i64 v106)]) (w' := w) (by kernel_rfl) ?_
          obtain ⟨v109, e110, H⟩ := bind_ex H
          refine WR.st (St.ofP (PSt.idx (k := .i64) (.tmp 67) (.tmp 71) (by kernel_rfl) (by kernel_rfl) E23 (by kernel_rfl) (by kernel_rfl) (Sat.rdAt 0 hS rfl) e110 ?_))
          refine WR.runk [] [31, 32, 33, 34, 35] [0, 4, 5, 6, 38, 39, 48, 49, 50, 51, 52, 53, 54, 55, 56, 58, 59, 60, 61, 62, 63, 64, 65, 66, 67, 68, 69, 70, 71, 72] (L' := [(0, .slice A0 l0.length c0), (4, .slice A28 r19.length c29), (5, .slice A39 r30.length c40), (6, .int .i64 x39_l1), (38, .int .i64 (l0.length : Int)), (39, .int .i64 x39_l1), (48, undef), (49, undef), (50, undef), (51, undef), (52, undef), (53, undef), (54, undef), (55, undef), (56, undef), (58, .bool false), (59, .slice A39 r30.length c40), (60, .int .i64 x39_l1), (61, .pointer (some (adr A39 x39_l1.toNat 1))), (62, .int .i64 v106), (63, .slice A0 l0.length c0), (64, .int .i64 (l0.length : Int)), (65, .bool (decide (v106 < (l0.length : Int)))), (66, .bool true), (67, .slice A28 r19.length c29), (68, .slice A39 r30.length c40), (69, .int .i64 x39_l1), (70, .pointer (some (adr A39 x39_l1.toNat 1))), (71, .int .i64 v106), (72, .pointer (some (adr A28 v106.toNat 1)))]) (w' := w) (by kernel_rfl) ?_
          refine WR.st (St.ofR (RSt.loadInt (t := 3) (.tmp 72) (by kernel_rfl) (by kernel_rfl) (by kernel_rfl) (by kernel_rfl) (Sat.rdAt 0 hS rfl) e110 ?_))
          refine WR.runk [32, 33, 34, 35] [] [0, 4, 5, 38, 39, 48, 49, 50, 51, 52, 53, 54, 55, 56, 59, 60, 61, 62, 63, 64, 65, 66, 67, 68, 69, 70, 71, 72, 73, 74, 75, 76, 77] (L' := [(0, .slice A0 l0.length c0), (4, .slice A28 r19.length c29), (5, .slice A39 r30.length c40), (38, .int .i64 (l0.length : Int)), (39, .int .i64 x39_l1), (48, undef), (49, undef), (50, undef), (51, undef), (52, undef), (53, undef), (54, undef), (55, undef), (56, undef), (59, .slice A39 r30.length c40), (60, .int .i64 x39_l1), (61, .pointer (some (adr A39 x39_l1.toNat 1))), (62, .int .i64 v106), (63, .slice A0 l0.length c0), (64, .int .i64 (l0.length : Int)), (65, .bool (decide (v106 < (l0.length : Int)))), (66, .bool true), (67, .slice A28 r19.length c29), (68, .slice A39 r30.length c40), (69, .int .i64 x39_l1), (70, .pointer (some (adr A39 x39_l1.toNat 1))), (71, .int .i64 v106), (72, .pointer (some (adr A28 v106.toNat 1))), (73, .int .i64 v109), (74, .int .i64 x39_l1), (75, .bool (v109 != x39_l1)), (76, .bool (v109 != x39_l1)), (77, .bool (v109 != x39_l1))]) (w' := w) (by kernel_rfl) ?_
          refine WR.nil ?_
          refine At.go ?_
          refine WC.cond (by kernel_rfl) (v109 != x39_l1) (by kernel_rfl) (by kernel_rfl) (fun hb111 => ?_) (fun hb111 => ?_)
          · replace H := ite_t H hb111
            refine WC.seq (by kernel_rfl) ?_
            refine WC.reg [0] (by kernel_rfl) (by kernel_rfl) ?_
            refine WR.runk [0] [] [2] (L' := [(2, .bool false)]) (w' := w) (by kernel_rfl) ?_
            refine WR.nil ?_
            refine At.go ?_
            refine WC.ret (by kernel_rfl) ?_
            refine At.blockRet ?_
            refine At.thenRet ?_
            refine At.thenRet ?_
            obtain rfl := Option.some.inj H
            have hS : Sat w (rf w0) [] := hS.sel [] (by kernel_rfl)
            refine At.weaken [2] (L' := [(2, .bool false)]) (by kernel_rfl) ?_
            exact hn0 false _ rfl hS
          · replace H := ite_f H hb111
            refine WC.skip (by kernel_rfl) ?_
            refine At.blockNormal ?_
            refine At.go ?_
            refine WC.reg [0, 1] (by kernel_rfl) (by kernel_rfl) ?_
            refine WR.runk [0, 1] [] [0, 4, 5, 38, 39, 48, 49, 50, 51, 52, 53, 54, 55, 56, 59, 60, 61, 62, 63, 64, 65, 66, 67, 68, 69, 70, 71, 72, 73, 74] (L' := [(0, .slice A0 l0.length c0), (4, .slice A28 r19.length c29), (5, .slice A39 r30.length c40), (38, .int .i64 (l0.length : Int)), (39, .int .i64 (wi (x39_l1 + 1))), (48, undef), (49, undef), (50, undef), (51, undef), (52, undef), (53, undef), (54, undef), (55, undef), (56, undef), (59, .slice A39 r30.length c40), (60, .int .i64 x39_l1), (61, .pointer (some (adr A39 x39_l1.toNat 1))), (62, .int .i64 v106), (63, .slice A0 l0.length c0), (64, .int .i64 (l0.length : Int)), (65, .bool (decide (v106 < (l0.length : Int)))), (66, .bool true), (67, .slice A28 r19.length c29), (68, .slice A39 r30.length c40), (69, .int .i64 x39_l1), (70, .pointer (some (adr A39 x39_l1.toNat 1))), (71, .int .i64 v106), (72, .pointer (some (adr A28 v106.toNat 1))), (73, .int .i64 v109), (74, .int .i64 x39_l1)]) (w' := w) (by kernel_rfl) ?_
            refine WR.nil ?_
            have hS : Sat w (rf w0) [osl 3 (r0 (.int .i64)) 1 A28 c29 r19, osl 3 (r0 (.int .i64)) 1 A39 c40 r30] := hS.sel [0, 1] (by kernel_rfl)
            refine At.again ?_
            refine WL.weaken [0, 4, 5, 38, 39] (L' := [(0, .slice A0 l0.length c0), (4, .slice A28 r19.length c29), (5, .slice A39 r30.length c40), (38, .int .i64 (l0.length : Int)), (39, .int .i64 (wi (x39_l1 + 1)))]) (by kernel_rfl) ?_
            exact ih (wi (x39_l1 + 1)) _ hS H
        · replace H := ite_f H hb108
          refine WR.runk [25, 26, 27, 28, 29, 30, 31, 32, 33, 34, 35] [] [0, 4, 5, 38, 39, 48, 49, 50, 51, 52, 53, 54, 55, 56, 59, 60, 61, 62, 63, 64, 65, 66, 67, 68, 69, 70, 71, 72, 73, 74, 75, 76, 77] (L' := [(0, .slice A0 l0.length c0), (4, .slice A28 r19.length c29), (5, .slice A39 r30.length c40), (38, .int .i64 (l0.length : Int)), (39, .int .i64 x39_l1), (48, undef), (49, undef), (50, undef), (51, undef), (52, undef), (53, undef), (54, undef), (55, undef), (56, undef), (59, .slice A39 r30.length c40), (60, .int .i64 x39_l1), (61, .pointer (some (adr A39 x39_l1.toNat 1))), (62, .int .i64 v106), (63, .slice A0 l0.length c0), (64, .int .i64 (l0.length : Int)), (65, .bool (decide (v106 < (l0.length : Int)))), (66, .bool false), (67, undef), (68, undef), (69, undef), (70, undef), (71, undef), (72, undef), (73, undef), (74, undef), (75, undef), (76, .bool false), (77, .bool false)]) (w' := w) (by kernel_rfl) ?_
          refine WR.nil ?_
          refine At.go ?_
          refine WC.condF (by kernel_rfl) (by kernel_rfl) (by kernel_rfl) ?_
          refine WC.skip (by kernel_rfl) ?_
          refine At.blockNormal ?_
          refine At.go ?_
          refine WC.reg [0, 1] (by kernel_rfl) (by kernel_rfl) ?_
          refine WR.runk [0, 1] [] [0, 4, 5, 38, 39, 48, 49, 50, 51, 52, 53, 54, 55, 56, 59, 60, 61, 62, 63, 64, 65, 66, 67, 68, 69, 70, 71, 72, 73, 74, 75, 76] (L' := [(0, .slice A0 l0.length c0), (4, .slice A28 r19.length c29), (5, .slice A39 r30.length c40), (38, .int .i64 (l0.length : Int)), (39, .int .i64 (wi (x39_l1 + 1))), (48, undef), (49, undef), (50, undef), (51, undef), (52, undef), (53, undef), (54, undef), (55, undef), (56, undef), (59, .slice A39 r30.length c40), (60, .int .i64 x39_l1), (61, .pointer (some (adr A39 x39_l1.toNat 1))), (62, .int .i64 v106), (63, .slice A0 l0.length c0), (64, .int .i64 (l0.length : Int)), (65, .bool (decide (v106 < (l0.length : Int)))), (66, .bool false), (67, undef), (68, undef), (69, undef), (70, undef), (71, undef), (72, undef), (73, undef), (74, undef), (75, undef), (76, .bool false)]) (w' := w) (by kernel_rfl) ?_
          refine WR.nil ?_
          have hS : Sat w (rf w0) [osl 3 (r0 (.int .i64)) 1 A28 c29 r19, osl 3 (r0 (.int .i64)) 1 A39 c40 r30] := hS.sel [0, 1] (by kernel_rfl)
          refine At.again ?_
          refine WL.weaken [0, 4, 5, 38, 39] (L' := [(0, .slice A0 l0.length c0), (4, .slice A28 r19.length c29), (5, .slice A39 r30.length c40), (38, .int .i64 (l0.length : Int)), (39, .int .i64 (wi (x39_l1 + 1)))]) (by kernel_rfl) ?_
          exact ih (wi (x39_l1 + 1)) _ hS H
    · replace H := ite_f H hb93
      refine WC.exit (by kernel_rfl) ?_
      refine At.thenExit ?_
      refine At.thenExit ?_
      obtain rfl := Option.some.inj H
      have hS : Sat w (rf w0) [] := hS.sel [] (by kernel_rfl)
      refine At.weaken [] (L' := []) (by kernel_rfl) ?_
      exact hn1 () _ rfl hS
theorem colophonlaw12_DocsLinks.calls (w0 : World) (A0 : Option Addr) (c0 : Nat) (l0 : List Int) (R0 : rdS (r0 (.int .i64)) 1 (hp w0) A0 c0 l0) (r : Bool) (H : colophonlaw12_DocsLinks.f l0 = some r) :
    Calls Try.prog 4 #[.slice A0 l0.length c0] w0 (fun e w' => ∃ v, e = .returned v ∧ colophonlaw12_DocsLinks.post w0 r v w') := by
  have hS : Sat w0 (rf w0) [] := Sat.start w0
  unfold colophonlaw12_DocsLinks.f at H
  refine calls_of_WC (vs := [.slice A0 l0.length c0]) Try.func4 (c := C4) (n := 79) (by kernel_rfl) (by kernel_rfl) (by kernel_rfl) ?_
  refine WC.seq (by kernel_rfl) ?_
  refine WC.reg [0] (by kernel_rfl) (by kernel_rfl) ?_
  refine WR.runk [0] [] [0] (L' := [(0, .slice A0 l0.length c0)]) (w' := w0) (by kernel_rfl) ?_
  refine WR.nil ?_
  refine At.go ?_
  refine WC.seq (by kernel_rfl) ?_
  refine WC.seq (by kernel_rfl) ?_
  refine WC.reg [0, 1] (by kernel_rfl) (by kernel_rfl) ?_
  obtain ⟨r1, e2, H⟩ := bind_ex H
  refine WR.st (St.call (by kernel_rfl) (f := 7) (args := #[]) (by kernel_rfl) (colophonlaw12_first.calls w0  r1 e2) ?_)
  rintro _ w8 ⟨rfl, hS9⟩
  have hS : Sat w8 (rf w0) [] := hS.ext hS9
  refine WR.runk [1] [] [0, 8] (L' := [(0, .slice A0 l0.length c0), (8, .bool (!r1))]) (w' := w8) (by kernel_rfl) ?_
  refine WR.nil ?_
  refine At.go ?_
  refine WC.cond (by kernel_rfl) (!r1) (by kernel_rfl) (by kernel_rfl) (fun hb10 => ?_) (fun hb10 => ?_)
  · replace H := ite_t H hb10
    refine WC.seq (by kernel_rfl) ?_
    refine WC.reg [0] (by kernel_rfl) (by kernel_rfl) ?_
    refine WR.runk [0] [] [2] (L' := [(2, .bool false)]) (w' := w8) (by kernel_rfl) ?_
    refine WR.nil ?_
    refine At.go ?_
    refine WC.ret (by kernel_rfl) ?_
    refine At.thenRet ?_
    obtain rfl := Option.some.inj H
    have hS : Sat w8 (rf w0) [] := hS.sel [] (by kernel_rfl)
    exact At.body [.bool false] (by kernel_rfl) ⟨_, rfl, rfl, hS⟩
  · replace H := ite_f H hb10
    refine WC.skip (by kernel_rfl) ?_
    refine At.go ?_
    refine WC.seq (by kernel_rfl) ?_
    refine WC.seq (by kernel_rfl) ?_
    refine WC.reg [0, 1, 2] (by kernel_rfl) (by kernel_rfl) ?_
    refine WR.runk [0, 1, 2] [] [0, 11] (L' := [(0, .slice A0 l0.length c0), (11, .bool (decide ((l0.length : Int) > 800)))]) (w' := w8) (by kernel_rfl) ?_
    refine WR.nil ?_
    refine At.go ?_
    refine WC.cond (by kernel_rfl) (decide ((l0.length : Int) > 800)) (by kernel_rfl) (by kernel_rfl) (fun hb11 => ?_) (fun hb11 => ?_)
    · replace H := ite_t H hb11
      refine WC.seq (by kernel_rfl) ?_
      refine WC.reg [0] (by kernel_rfl) (by kernel_rfl) ?_
      refine WR.runk [0] [] [2] (L' := [(2, .bool true)]) (w' := w8) (by kernel_rfl) ?_
      refine WR.nil ?_
      refine At.go ?_
      refine WC.ret (by kernel_rfl) ?_
      refine At.thenRet ?_
      obtain rfl := Option.some.inj H
      have hS : Sat w8 (rf w0) [] := hS.sel [] (by kernel_rfl)
      exact At.body [.bool true] (by kernel_rfl) ⟨_, rfl, rfl, hS⟩
    · replace H := ite_f H hb11
      refine WC.skip (by kernel_rfl) ?_
      refine At.go ?_
      refine WC.seq (by kernel_rfl) ?_
      refine WC.reg [0, 1, 2, 3] (by kernel_rfl) (by kernel_rfl) ?_
      refine WR.runk [] [0, 1, 2, 3] [0] (L' := [(0, .slice A0 l0.length c0)]) (w' := w8) (by kernel_rfl) ?_
      refine WR.st (St.box hS (by kernel_rfl) (.cells #[] 3) (fun b12 => .slice (some ⟨b12, 0, none⟩) 0 0) (fun _ => by kernel_rfl) (fun b12 w13 hS => ?_))
      refine WR.runk [1] [2, 3] [0, 12, 13] (L' := [(0, .slice A0 l0.length c0), (12, .slice (some ⟨b12, 0, none⟩) 0 0), (13, .slice A0 l0.length c0)]) (w' := w13) (by kernel_rfl) ?_
      have hS : Sat w13 (rf w0) [osl 3 (r0 (.int .i64)) 1 (some ⟨b12, 0, none⟩) (([] : List Int) : List Int).length (([] : List Int) : List Int)] := Sat.toOsl' (r0 (.int .i64)) 1 (([] : List Int) : List Int) hS rfl (rdL.nil _ _)
      obtain ⟨y15, e14, H⟩ := bind_ex H
      refine WR.st (St.append' (.tmp 12) (.tmp 13) (by kernel_rfl) (by kernel_rfl) E23 (r0_one _) hS (by kernel_rfl) (by kernel_rfl) (rdS.up R0 hS.sub0) 17592186044416 (by kernel_rfl) (by kernel_rfl) e14 (fun A16 c17 w18 hS => ?_))
      refine WR.runk [3] [] [0, 3] (L' := [(0, .slice A0 l0.length c0), (3, .slice A16 y15.length c17)]) (w' := w18) (by kernel_rfl) ?_
      refine WR.nil ?_
      refine At.go ?_
      refine WC.seq (by kernel_rfl) ?_
      refine WC.reg [0, 1, 2, 3, 4, 5] (by kernel_rfl) (by kernel_rfl) ?_
      refine WR.runk [0] [1, 2, 3, 4, 5] [0, 3, 15] (L' := [(0, .slice A0 l0.length c0), (3, .slice A16 y15.length c17), (15, .slice A16 y15.length c17)]) (w' := w18) (by kernel_rfl) ?_
      obtain ⟨r19, e20, H⟩ := bind_ex H
      refine WR.st (St.call (by kernel_rfl) (f := 14) (args := #[.slice A16 y15.length c17]) (by kernel_rfl) (docs_Back.calls w18 A16 c17 y15 (Sat.rdAt 0 hS rfl) r19 e20) ?_)
      rintro _ w26 ⟨A28, c29, rfl, hS27⟩
      have hS : Sat w26 (rf w0) [osl 3 (r0 (.int .i64)) 1 A28 c29 r19, osl 3 (r0 (.int .i64)) 1 A16 c17 y15] := hS.ext hS27
      refine WR.runk [2] [3, 4, 5] [0, 3, 16, 17] (L' := [(0, .slice A0 l0.length c0), (3, .slice A16 y15.length c17), (16, .slice A28 r19.length c29), (17, .slice A16 y15.length c17)]) (w' := w26) (by kernel_rfl) ?_
      obtain ⟨r30, e31, H⟩ := bind_ex H
      refine WR.st (St.call (by kernel_rfl) (f := 15) (args := #[.slice A16 y15.length c17]) (by kernel_rfl) (docs_Ahead.calls w26 A16 c17 y15 (Sat.rdAt 1 hS rfl) r30 e31) ?_)
      rintro _ w37 ⟨A39, c40, rfl, hS38⟩
      have hS : Sat w37 (rf w0) [osl 3 (r0 (.int .i64)) 1 A39 c40 r30, osl 3 (r0 (.int .i64)) 1 A28 c29 r19, osl 3 (r0 (.int .i64)) 1 A16 c17 y15] := hS.ext hS38
      refine WR.runk [4, 5] [] [0, 3, 4, 5] (L' := [(0, .slice A0 l0.length c0), (3, .slice A16 y15.length c17), (4, .slice A28 r19.length c29), (5, .slice A39 r30.length c40)]) (w' := w37) (by kernel_rfl) ?_
      refine WR.nil ?_
      refine At.go ?_
      refine WC.seq (by kernel_rfl) ?_
      refine WC.seq (by kernel_rfl) ?_
      refine WC.reg [0, 1, 2, 3, 4, 5, 6, 7, 8, 9, 10, 11, 12, 13, 14, 15, 16, 17] (by kernel_rfl) (by kernel_rfl) ?_
      refine WR.runk [0, 1] [2, 3, 4, 5, 6, 7, 8, 9, 10, 11, 12, 13, 14, 15, 16, 17] [0, 4, 5, 19, 20] (L' := [(0, .slice A0 l0.length c0), (4, .slice A28 r19.length c29), (5, .slice A39 r30.length c40), (19, .slice A16 y15.length c17), (20, .slice A0 l0.length c0)]) (w' := w37) (by kernel_rfl) ?_
      obtain ⟨r41, e42, H⟩ := bind_ex H
      refine WR.st (St.call (by kernel_rfl) (f := 16) (args := #[.slice A16 y15.length c17, .slice A0 l0.length c0]) (by kernel_rfl) (colophonref08_Same.calls w37 A16 c17 y15 (Sat.rdAt 2 hS rfl) A0 c0 l0 (rdS.up R0 hS.sub0) r41 e42) ?_)
      rintro _ w48 ⟨rfl, hS49⟩
      have hS : Sat w48 (rf w0) [osl 3 (r0 (.int .i64)) 1 A39 c40 r30, osl 3 (r0 (.int .i64)) 1 A28 c29 r19, osl 3 (r0 (.int .i64)) 1 A16 c17 y15] := hS.ext hS49
      refine WR.runk [3, 4] [5, 6, 7, 8, 9, 10, 11, 12, 13, 14, 15, 16, 17] [0, 4, 5, 23] (L' := [(0, .slice A0 l0.length c0), (4, .slice A28 r19.length c29), (5, .slice A39 r30.length c40), (23, .bool (!r41))]) (w' := w48) (by kernel_rfl) ?_
      refine WR.split 23 (b := (!r41)) (by kernel_rfl) (fun hb50 => ?_) (fun hb50 => ?_)
      · replace H := ite_t H hb50
        refine WR.runk [5, 6, 7, 8, 9, 10, 11, 12, 13, 14, 15, 16, 17] [] [0, 4, 5, 36] (L' := [(0, .slice A0 l0.length c0), (4, .slice A28 r19.length c29), (5, .slice A39 r30.length c40), (36, .bool true)]) (w' := w48) (by kernel_rfl) ?_
        refine WR.nil ?_
        refine At.go ?_
        refine WC.condT (by kernel_rfl) (by kernel_rfl) (by kernel_rfl) ?_
        refine WC.seq (by kernel_rfl) ?_
        refine WC.reg [0] (by kernel_rfl) (by kernel_rfl) ?_
        refine WR.runk [0] [] [2] (L' := [(2, .bool false)]) (w' := w48) (by kernel_rfl) ?_
        refine WR.nil ?_
        refine At.go ?_
        refine WC.ret (by kernel_rfl) ?_
        refine At.thenRet ?_
        obtain rfl := Option.some.inj H
        have hS : Sat w48 (rf w0) [] := hS.sel [] (by kernel_rfl)
        exact At.body [.bool false] (by kernel_rfl) ⟨_, rfl, rfl, hS⟩
      · replace H := ite_f H hb50
        refine WR.runk [5, 6] [7, 8, 9, 10, 11, 12, 13, 14, 15, 16, 17] [0, 4, 5, 23, 24, 25] (L' := [(0, .slice A0 l0.length c0), (4, .slice A28 r19.length c29), (5, .slice A39 r30.length c40), (23, .bool false), (24, .slice A28 r19.length c29), (25, .slice A0 l0.length c0)]) (w' := w48) (by kernel_rfl) ?_
        obtain ⟨r51, e52, H⟩ := bind_ex H
        refine WR.st (St.call (by kernel_rfl) (f := 17) (args := #[.slice A0 l0.length c0]) (by kernel_rfl) (colophonref12_Back.calls w48 A0 c0 l0 (rdS.up R0 hS.sub0) r51 e52) ?_)
        rintro _ w58 ⟨A60, c61, rfl, hS59⟩
        have hS : Sat w58 (rf w0) [osl 3 (r0 (.int .i64)) 1 A60 c61 r51, osl 3 (r0 (.int .i64)) 1 A39 c40 r30, osl 3 (r0 (.int .i64)) 1 A28 c29 r19, osl 3 (r0 (.int .i64)) 1 A16 c17 y15] := hS.ext hS59
        refine WR.runk [] [8, 9, 10, 11, 12, 13, 14, 15, 16, 17] [0, 4, 5, 23, 24, 26] (L' := [(0, .slice A0 l0.length c0), (4, .slice A28 r19.length c29), (5, .slice A39 r30.length c40), (23, .bool false), (24, .slice A28 r19.length c29), (26, .slice A60 r51.length c61)]) (w' := w58) (by kernel_rfl) ?_
        obtain ⟨r62, e63, H⟩ := bind_ex H
        refine WR.st (St.call (by kernel_rfl) (f := 16) (args := #[.slice A28 r19.length c29, .slice A60 r51.length c61]) (by kernel_rfl) (colophonref08_Same.calls w58 A28 c29 r19 (Sat.rdAt 2 hS rfl) A60 c61 r51 (Sat.rdAt 0 hS rfl) r62 e63) ?_)
        rintro _ w69 ⟨rfl, hS70⟩
        have hS : Sat w69 (rf w0) [osl 3 (r0 (.int .i64)) 1 A60 c61 r51, osl 3 (r0 (.int .i64)) 1 A39 c40 r30, osl 3 (r0 (.int .i64)) 1 A28 c29 r19, osl 3 (r0 (.int .i64)) 1 A16 c17 y15] := hS.ext hS70
        refine WR.runk [9, 10, 11] [12, 13, 14, 15, 16, 17] [0, 4, 5, 30] (L' := [(0, .slice A0 l0.length c0), (4, .slice A28 r19.length c29), (5, .slice A39 r30.length c40), (30, .bool (!r62))]) (w' := w69) (by kernel_rfl) ?_
        refine WR.split 30 (b := (!r62)) (by kernel_rfl) (fun hb71 => ?_) (fun hb71 => ?_)
        · replace H := ite_t H hb71
          refine WR.runk [12, 13, 14, 15, 16, 17] [] [0, 4, 5, 36] (L' := [(0, .slice A0 l0.length c0), (4, .slice A28 r19.length c29), (5, .slice A39 r30.length c40), (36, .bool true)]) (w' := w69) (by kernel_rfl) ?_
          refine WR.nil ?_
          refine At.go ?_
          refine WC.condT (by kernel_rfl) (by kernel_rfl) (by kernel_rfl) ?_
          refine WC.seq (by kernel_rfl) ?_
          refine WC.reg [0] (by kernel_rfl) (by kernel_rfl) ?_
          refine WR.runk [0] [] [2] (L' := [(2, .bool false)]) (w' := w69) (by kernel_rfl) ?_
          refine WR.nil ?_
          refine At.go ?_
          refine WC.ret (by kernel_rfl) ?_
          refine At.thenRet ?_
          obtain rfl := Option.some.inj H
          have hS : Sat w69 (rf w0) [] := hS.sel [] (by kernel_rfl)
          exact At.body [.bool false] (by kernel_rfl) ⟨_, rfl, rfl, hS⟩
        · replace H := ite_f H hb71
          refine WR.runk [12, 13] [14, 15, 16, 17] [0, 4, 5, 30, 31, 32] (L' := [(0, .slice A0 l0.length c0), (4, .slice A28 r19.length c29), (5, .slice A39 r30.length c40), (30, .bool false), (31, .slice A39 r30.length c40), (32, .slice A0 l0.length c0)]) (w' := w69) (by kernel_rfl) ?_
          obtain ⟨r72, e73, H⟩ := bind_ex H
          refine WR.st (St.call (by kernel_rfl) (f := 18) (args := #[.slice A0 l0.length c0]) (by kernel_rfl) (colophonref12_Ahead.calls w69 A0 c0 l0 (rdS.up R0 hS.sub0) r72 e73) ?_)
          rintro _ w79 ⟨A81, c82, rfl, hS80⟩
          have hS : Sat w79 (rf w0) [osl 3 (r0 (.int .i64)) 1 A81 c82 r72, osl 3 (r0 (.int .i64)) 1 A60 c61 r51, osl 3 (r0 (.int .i64)) 1 A39 c40 r30, osl 3 (r0 (.int .i64)) 1 A28 c29 r19, osl 3 (r0 (.int .i64)) 1 A16 c17 y15] := hS.ext hS80
          refine WR.runk [] [15, 16, 17] [0, 4, 5, 30, 31, 33] (L' := [(0, .slice A0 l0.length c0), (4, .slice A28 r19.length c29), (5, .slice A39 r30.length c40), (30, .bool false), (31, .slice A39 r30.length c40), (33, .slice A81 r72.length c82)]) (w' := w79) (by kernel_rfl) ?_
          obtain ⟨r83, e84, H⟩ := bind_ex H
          refine WR.st (St.call (by kernel_rfl) (f := 16) (args := #[.slice A39 r30.length c40, .slice A81 r72.length c82]) (by kernel_rfl) (colophonref08_Same.calls w79 A39 c40 r30 (Sat.rdAt 2 hS rfl) A81 c82 r72 (Sat.rdAt 0 hS rfl) r83 e84) ?_)
          rintro _ w90 ⟨rfl, hS91⟩
          have hS : Sat w90 (rf w0) [osl 3 (r0 (.int .i64)) 1 A81 c82 r72, osl 3 (r0 (.int .i64)) 1 A60 c61 r51, osl 3 (r0 (.int .i64)) 1 A39 c40 r30, osl 3 (r0 (.int .i64)) 1 A28 c29 r19, osl 3 (r0 (.int .i64)) 1 A16 c17 y15] := hS.ext hS91
          refine WR.runk [16, 17] [] [0, 4, 5, 36] (L' := [(0, .slice A0 l0.length c0), (4, .slice A28 r19.length c29), (5, .slice A39 r30.length c40), (36, .bool (!r83))]) (w' := w90) (by kernel_rfl) ?_
          refine WR.nil ?_
          refine At.go ?_
          refine WC.cond (by kernel_rfl) (!r83) (by kernel_rfl) (by kernel_rfl) (fun hb92 => ?_) (fun hb92 => ?_)
          · replace H := ite_t H hb92
            refine WC.seq (by kernel_rfl) ?_
            refine WC.reg [0] (by kernel_rfl) (by kernel_rfl) ?_
            refine WR.runk [0] [] [2] (L' := [(2, .bool false)]) (w' := w90) (by kernel_rfl) ?_
            refine WR.nil ?_
            refine At.go ?_
            refine WC.ret (by kernel_rfl) ?_
            refine At.thenRet ?_
            obtain rfl := Option.some.inj H
            have hS : Sat w90 (rf w0) [] := hS.sel [] (by kernel_rfl)
            exact At.body [.bool false] (by kernel_rfl) ⟨_, rfl, rfl, hS⟩
          · replace H := ite_f H hb92
            refine WC.skip (by kernel_rfl) ?_
            refine At.go ?_
            refine WC.seq (by kernel_rfl) ?_
            refine WC.seq (by kernel_rfl) ?_
            refine WC.reg [0, 1, 2] (by kernel_rfl) (by kernel_rfl) ?_
            refine WR.runk [0, 1, 2] [] [0, 4, 5, 38, 39] (L' := [(0, .slice A0 l0.length c0), (4, .slice A28 r19.length c29), (5, .slice A39 r30.length c40), (38, .int .i64 (l0.length : Int)), (39, .int .i64 0)]) (w' := w90) (by kernel_rfl) ?_
            refine WR.nil ?_
            refine At.go ?_
            refine WC.block (by kernel_rfl) ?_
            have hS : Sat w90 (rf w0) [osl 3 (r0 (.int .i64)) 1 A28 c29 r19, osl 3 (r0 (.int .i64)) 1 A39 c40 r30] := hS.sel [3, 2] (by kernel_rfl)
            obtain ⟨o112, e113, H⟩ := bind_ex H
            refine WC.loop (by kernel_rfl) ?_
            refine WL.weaken [0, 4, 5, 38, 39] (L' := [(0, .slice A0 l0.length c0), (4, .slice A28 r19.length c29), (5, .slice A39 r30.length c40), (38, .int .i64 (l0.length : Int)), (39, .int .i64 0)]) (by kernel_rfl) ?_
            refine colophonlaw12_DocsLinks.l1_ok w0 A0 c0 l0 r19 A28 c29 r30 A39 c40 o112 (fun o114 w116 ho117 hS => ?_) (fun o118 w120 ho121 hS => ?_) FU 0 _ hS e113
            · subst ho117
              dsimp only at H
              refine At.blockRet ?_
              refine At.thenRet ?_
              obtain rfl := Option.some.inj H
              have hS : Sat w116 (rf w0) [] := hS.sel [] (by kernel_rfl)
              exact At.body [.bool o114] (by kernel_rfl) ⟨_, rfl, rfl, hS⟩
            · subst ho121
              dsimp only at H
              refine At.hit ?_
              refine At.go ?_
              refine WC.seq (by kernel_rfl) ?_
              refine WC.reg [0] (by kernel_rfl) (by kernel_rfl) ?_
              refine WR.runk [0] [] [2] (L' := [(2, .bool true)]) (w' := w120) (by kernel_rfl) ?_
              refine WR.nil ?_
              refine At.go ?_
              refine WC.ret (by kernel_rfl) ?_
              obtain rfl := Option.some.inj H
              have hS : Sat w120 (rf w0) [] := hS.sel [] (by kernel_rfl)
              exact At.body [.bool true] (by kernel_rfl) ⟨_, rfl, rfl, hS⟩
end Go.Proofs.Ythnlihpmpmhidaa
