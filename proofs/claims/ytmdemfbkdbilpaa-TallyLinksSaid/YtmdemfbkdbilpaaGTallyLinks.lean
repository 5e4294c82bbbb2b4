/-
  Printed by gen.py (my own tool): for each Go function a plain Lean function and the proof that a call of it does what that function says.
-/
import Derived.Test.YtmdemfbkdbilpaaGP1c
import Derived.Test.YtmdemfbkdbilpaaGN
set_option linter.unusedVariables false
set_option linter.unusedSimpArgs false
set_option maxRecDepth 100000
namespace Go.Proofs.Ytmdemfbkdbilpaa
open Go Go.Gol
noncomputable abbrev C6 : Code := Try.f6.body.getD .skip
/-! ### 6 colophon/colophonlaw16.TallyLinks -/
def colophonlaw16_TallyLinks.l1 (l0 : List Int) (l1 : List Int) : Nat → (List Int) → (List Int) → Int → Int → (List Int) → Option ((List Int) × (List Int) × Int × (List Int))
  | 0, _, _, _, _, _ => none
  | k + 1, x6_l1, x7_l1, x9_l1, x23_l1, q13_l1 => (if decide (x23_l1 < imin (imin (l0.length : Int) (l1.length : Int)) 200) then ((at? l0 x23_l1).bind fun v17 => ((at? l1 x23_l1).bind fun v19 => ((app? 17592186044416 x6_l1 ([wi v17] : List Int)).bind fun y24 => ((app? 17592186044416 x7_l1 ([wi v19] : List Int)).bind fun y31 => ((at? q13_l1 v17).bind fun v35 => ((at? q13_l1 v17).bind fun v37 => ((set? q13_l1 v17 1).bind fun y39 => colophonlaw16_TallyLinks.l1 l0 l1 k y24 y31 (wi (x9_l1 + v35)) (wi (x23_l1 + 1)) y39))))))) else some (x6_l1, x7_l1, x9_l1, q13_l1))
def colophonlaw16_TallyLinks.l2 (l0 : List Int) (l1 : List Int) (y103 : Int × (Option (Int × (List Int) × (List Int) × Int))) : Nat → Int → Int → Option Int
  | 0, _, _ => none
  | k + 1, x13_l2, x63_l2 => (if decide (x63_l2 < imin (imin (l0.length : Int) (l1.length : Int)) 200) then ((tally_Tally_Doubles.f (some y103) x63_l2).bind fun r109 => colophonlaw16_TallyLinks.l2 l0 l1 y103 k (wi (x13_l2 + r109)) (wi (x63_l2 + 1))) else some x13_l2)
def colophonlaw16_TallyLinks.f (l0 : List Int) (l1 : List Int) : Option Bool := (colophonlaw16_first.f.bind fun r1 => (if (!r1) then some false else ((colophonlaw16_TallyLinks.l1 l0 l1 FU ([] : List Int) ([] : List Int) 0 0 (List.replicate 256 (0 : Int))).bind fun o88 => ((tally_New.f o88.1 o88.2.1).bind fun r93 => (r93.1.bind fun y103 => ((colophonlaw16_TallyLinks.l2 l0 l1 y103 FU 0 0).bind fun o118 => (if (r93.2 == 0) then (if (o118 == o88.2.2.1) then ((tally_Tally_Doubles.f (some y103) 0).bind fun r125 => (if (r125 == 0) then ((tally_Tally_Docs.f (some y103) 0 (imin (imin (l0.length : Int) (l1.length : Int)) 200)).bind fun r135 => some (r135 == (wi ((imin (imin (l0.length : Int) (l1.length : Int)) 200) - o88.2.2.1)))) else some false)) else some false) else some false)))))))
def colophonlaw16_TallyLinks.post (w : World) (r : Bool) (v : Value) (w' : World) : Prop := v = (.bool r : Value) ∧ Sat w' (rf w) []
theorem colophonlaw16_TallyLinks.l1_ok {Q} (w0 : World) (A0 : Option Addr) (c0 : Nat) (l0 : List Int) (A1 : Option Addr) (c1 : Nat) (l1 : List Int) (b11 : Nat) (R0 : rdS (r0 (.int .u8)) 1 (hp w0) A0 c0 l0) (R1 : rdS (r0 (.int .u8)) 1 (hp w0) A1 c1 l1) (out : (List Int) × (List Int) × Int × (List Int)) (hn0 : ∀ (A6_q : Option Addr) (c6_q : Nat) (A7_q : Option Addr) (c7_q : Nat) (w : World), Sat w (rf w0) [osl 3 (r0 (.int .i64)) 1 A6_q c6_q out.1, osl 3 (r0 (.int .i64)) 1 A7_q c7_q out.2.1, oar 45 (r0 (.int .i64)) 1 256 b11 out.2.2.2] → At Q (.exit 0) 93 [(5, .int .i64 (imin (imin (l0.length : Int) (l1.length : Int)) 200)), (6, .slice A6_q out.1.length c6_q), (7, .slice A7_q out.2.1.length c7_q), (9, .int .i64 out.2.2.1)] w) :
    ∀ (k : Nat) (x6_l1 : List Int) (x7_l1 : List Int) (x9_l1 : Int) (x23_l1 : Int) (q13_l1 : List Int) (A6_l1 : Option Addr) (c6_l1 : Nat) (A7_l1 : Option Addr) (c7_l1 : Nat) (w : World), Sat w (rf w0) [osl 3 (r0 (.int .i64)) 1 A6_l1 c6_l1 x6_l1, osl 3 (r0 (.int .i64)) 1 A7_l1 c7_l1 x7_l1, oar 45 (r0 (.int .i64)) 1 256 b11 q13_l1] → colophonlaw16_TallyLinks.l1 l0 l1 k x6_l1 x7_l1 x9_l1 x23_l1 q13_l1 = some out → WL Try.prog (cbody (cbody (cr (cl (cr (cr (cr (cr (cr (cr C6)))))))))) Q 93 [(0, .slice A0 l0.length c0), (1, .slice A1 l1.length c1), (5, .int .i64 (imin (imin (l0.length : Int) (l1.length : Int)) 200)), (6, .slice A6_l1 x6_l1.length c6_l1), (7, .slice A7_l1 x7_l1.length c7_l1), (8, .pointer (some ⟨b11, 0, none⟩)), (9, .int .i64 x9_l1), (22, .int .i64 (imin (imin (l0.length : Int) (l1.length : Int)) 200)), (23, .int .i64 x23_l1)] w := by
  intro k
  induction k with
  | zero => intro x6_l1 x7_l1 x9_l1 x23_l1 q13_l1 A6_l1 c6_l1 A7_l1 c7_l1 w hS H; exact absurd (show none = some out from H) (by simp)
  | succ k ih =>
    intro x6_l1 x7_l1 x9_l1 x23_l1 q13_l1 A6_l1 c6_l1 A7_l1 c7_l1 w hS H
    unfold colophonlaw16_TallyLinks.l1 at H
    refine WL.round ?_
    refine WC.seq (by kernel_rfl) ?_
    refine WC.reg [0] (by kernel_rfl) (by kernel_rfl) ?_
    refine WR.runk [0] [] [0, 1, 5, 6, 7, 8, 9, 22, 23, 24] (L' := [(0, .slice A0 l0.length c0), (1, .slice A1 l1.length c1), (5, .int .i64 (imin (imin (l0.length : Int) (l1.length : Int)) 200)), (6, .slice A6_l1 x6_l1.length c6_l1), (7, .slice A7_l1 x7_l1.length c7_l1), (8, .pointer (some ⟨b11, 0, none⟩)), (9, .int .i64 x9_l1), (22, .int .i64 (imin (imin (l0.length : Int) (l1.length : Int)) 200)), (23, .int .i64 x23_l1), (24, .bool (decide (x23_l1 < imin (imin (l0.length : Int) (l1.length : Int)) 200)))]) (w' := w) (by kernel_rfl) ?_
    refine WR.nil ?_
    refine At.go ?_
    refine WC.seq (by kernel_rfl) ?_
    refine WC.cond (by kernel_rfl) (decide (x23_l1 < imin (imin (l0.length : Int) (l1.length : Int)) 200)) (by kernel_rfl) (by kernel_rfl) (fun hb14 => ?_) (fun hb14 => ?_)
    · replace H := ite_t H hb14
      refine WC.skip (by kernel_rfl) ?_
      refine At.go ?_
      refine WC.seq (by kernel_rfl) ?_
      refine WC.block (by kernel_rfl) ?_
      refine WC.seq (by kernel_rfl) ?_
      refine WC.reg [0, 1] (by kernel_rfl) (by kernel_rfl) ?_
      refine WR.runk [0, 1] [] [0, 1, 5, 6, 7, 8, 9, 10, 22, 23] (L' := [(0, .slice A0 l0.length c0), (1, .slice A1 l1.length c1), (5, .int .i64 (imin (imin (l0.length : Int) (l1.length : Int)) 200)), (6, .slice A6_l1 x6_l1.length c6_l1), (7, .slice A7_l1 x7_l1.length c7_l1), (8, .pointer (some ⟨b11, 0, none⟩)), (9, .int .i64 x9_l1), (10, .int .i64 x23_l1), (22, .int .i64 (imin (imin (l0.length : Int) (l1.length : Int)) 200)), (23, .int .i64 x23_l1)]) (w' := w) (by kernel_rfl) ?_
      refine WR.nil ?_
      refine At.go ?_
      refine WC.seq (by kernel_rfl) ?_
      refine WC.drawn (by kernel_rfl) (by kernel_rfl) 18 (by kernel_rfl) (fun w15 hw16 => ?_)
      have hS := hS.heap hw16.1 hw16.2
      refine WD.weaken [0, 1, 5, 6, 7, 8, 9, 10, 22, 23] (L' := [(0, .slice A0 l0.length c0), (1, .slice A1 l1.length c1), (5, .int .i64 (imin (imin (l0.length : Int) (l1.length : Int)) 200)), (6, .slice A6_l1 x6_l1.length c6_l1), (7, .slice A7_l1 x7_l1.length c7_l1), (8, .pointer (some ⟨b11, 0, none⟩)), (9, .int .i64 x9_l1), (10, .int .i64 x23_l1), (22, .int .i64 (imin (imin (l0.length : Int) (l1.length : Int)) 200)), (23, .int .i64 x23_l1)]) (by kernel_rfl) ?_
      refine WD.pure (i := 0) (v := .slice A6_l1 x6_l1.length c6_l1) (by kernel_rfl) (by kernel_rfl) (fun _ => by kernel_rfl) ?_
      refine WD.weaken [0, 1, 5, 6, 7, 8, 9, 10, 22, 23, 26] (L' := [(0, .slice A0 l0.length c0), (1, .slice A1 l1.length c1), (5, .int .i64 (imin (imin (l0.length : Int) (l1.length : Int)) 200)), (6, .slice A6_l1 x6_l1.length c6_l1), (7, .slice A7_l1 x7_l1.length c7_l1), (8, .pointer (some ⟨b11, 0, none⟩)), (9, .int .i64 x9_l1), (10, .int .i64 x23_l1), (22, .int .i64 (imin (imin (l0.length : Int) (l1.length : Int)) 200)), (23, .int .i64 x23_l1), (26, .slice A6_l1 x6_l1.length c6_l1)]) (by kernel_rfl) ?_
      refine WD.pure (i := 1) (v := .slice A0 l0.length c0) (by kernel_rfl) (by kernel_rfl) (fun _ => by kernel_rfl) ?_
      refine WD.weaken [0, 1, 5, 6, 7, 8, 9, 10, 22, 23, 26, 27] (L' := [(0, .slice A0 l0.length c0), (1, .slice A1 l1.length c1), (5, .int .i64 (imin (imin (l0.length : Int) (l1.length : Int)) 200)), (6, .slice A6_l1 x6_l1.length c6_l1), (7, .slice A7_l1 x7_l1.length c7_l1), (8, .pointer (some ⟨b11, 0, none⟩)), (9, .int .i64 x9_l1), (10, .int .i64 x23_l1), (22, .int .i64 (imin (imin (l0.length : Int) (l1.length : Int)) 200)), (23, .int .i64 x23_l1), (26, .slice A6_l1 x6_l1.length c6_l1), (27, .slice A0 l0.length c0)]) (by kernel_rfl) ?_
      refine WD.pure (i := 2) (v := .int .i64 x23_l1) (by kernel_rfl) (by kernel_rfl) (fun _ => by kernel_rfl) ?_
      refine WD.weaken [0, 1, 5, 6, 7, 8, 9, 10, 22, 23, 26, 27, 28] (L' := [(0, .slice A0 l0.length c0), (1, .slice A1 l1.length c1), (5, .int .i64 (imin (imin (l0.length : Int) (l1.length : Int)) 200)), (6, .slice A6_l1 x6_l1.length c6_l1), (7, .slice A7_l1 x7_l1.length c7_l1), (8, .pointer (some ⟨b11, 0, none⟩)), (9, .int .i64 x9_l1), (10, .int .i64 x23_l1), (22, .int .i64 (imin (imin (l0.length : Int) (l1.length : Int)) 200)), (23, .int .i64 x23_l1), (26, .slice A6_l1 x6_l1.length c6_l1), (27, .slice A0 l0.length c0), (28, .int .i64 x23_l1)]) (by kernel_rfl) ?_
      obtain ⟨v17, e18, H⟩ := bind_ex H
      refine WD.ofP (i := 3) (by kernel_rfl) (PSt.idx (k := .i64) (.tmp 27) (.tmp 28) (by kernel_rfl) (by kernel_rfl) E34 (by kernel_rfl) (by kernel_rfl) (rdS.up R0 hS.sub0) e18 ?_)
      refine WD.weaken [0, 1, 5, 6, 7, 8, 9, 10, 22, 23, 26, 29] (L' := [(0, .slice A0 l0.length c0), (1, .slice A1 l1.length c1), (5, .int .i64 (imin (imin (l0.length : Int) (l1.length : Int)) 200)), (6, .slice A6_l1 x6_l1.length c6_l1), (7, .slice A7_l1 x7_l1.length c7_l1), (8, .pointer (some ⟨b11, 0, none⟩)), (9, .int .i64 x9_l1), (10, .int .i64 x23_l1), (22, .int .i64 (imin (imin (l0.length : Int) (l1.length : Int)) 200)), (23, .int .i64 x23_l1), (26, .slice A6_l1 x6_l1.length c6_l1), (29, .pointer (some (adr A0 x23_l1.toNat 1)))]) (by kernel_rfl) ?_
      refine WD.ofR (i := 4) (by kernel_rfl) (RSt.loadInt (t := 5) (.tmp 29) (by kernel_rfl) (by kernel_rfl) (by kernel_rfl) (by kernel_rfl) (rdS.up R0 hS.sub0) e18 ?_)
      refine WD.weaken [0, 1, 5, 6, 7, 8, 9, 10, 22, 23, 26, 30] (L' := [(0, .slice A0 l0.length c0), (1, .slice A1 l1.length c1), (5, .int .i64 (imin (imin (l0.length : Int) (l1.length : Int)) 200)), (6, .slice A6_l1 x6_l1.length c6_l1), (7, .slice A7_l1 x7_l1.length c7_l1), (8, .pointer (some ⟨b11, 0, none⟩)), (9, .int .i64 x9_l1), (10, .int .i64 x23_l1), (22, .int .i64 (imin (imin (l0.length : Int) (l1.length : Int)) 200)), (23, .int .i64 x23_l1), (26, .slice A6_l1 x6_l1.length c6_l1), (30, .int .u8 v17)]) (by kernel_rfl) ?_
      refine WD.pure (i := 5) (v := .int .i64 (wi v17)) (by kernel_rfl) (by kernel_rfl) (fun _ => by kernel_rfl) ?_
      refine WD.weaken [0, 1, 5, 6, 7, 8, 9, 10, 22, 23, 26, 31] (L' := [(0, .slice A0 l0.length c0), (1, .slice A1 l1.length c1), (5, .int .i64 (imin (imin (l0.length : Int) (l1.length : Int)) 200)), (6, .slice A6_l1 x6_l1.length c6_l1), (7, .slice A7_l1 x7_l1.length c7_l1), (8, .pointer (some ⟨b11, 0, none⟩)), (9, .int .i64 x9_l1), (10, .int .i64 x23_l1), (22, .int .i64 (imin (imin (l0.length : Int) (l1.length : Int)) 200)), (23, .int .i64 x23_l1), (26, .slice A6_l1 x6_l1.length c6_l1), (31, .int .i64 (wi v17))]) (by kernel_rfl) ?_
      refine WD.pure (i := 8) (v := .slice A7_l1 x7_l1.length c7_l1) (by kernel_rfl) (by kernel_rfl) (fun _ => by kernel_rfl) ?_
      refine WD.weaken [0, 1, 5, 6, 7, 8, 9, 10, 22, 23, 26, 31, 34] (L' := [(0, .slice A0 l0.length c0), (1, .slice A1 l1.length c1), (5, .int .i64 (imin (imin (l0.length : Int) (l1.length : Int)) 200)), (6, .slice A6_l1 x6_l1.length c6_l1), (7, .slice A7_l1 x7_l1.length c7_l1), (8, .pointer (some ⟨b11, 0, none⟩)), (9, .int .i64 x9_l1), (10, .int .i64 x23_l1), (22, .int .i64 (imin (imin (l0.length : Int) (l1.length : Int)) 200)), (23, .int .i64 x23_l1), (26, .slice A6_l1 x6_l1.length c6_l1), (31, .int .i64 (wi v17)), (34, .slice A7_l1 x7_l1.length c7_l1)]) (by kernel_rfl) ?_
      refine WD.pure (i := 9) (v := .slice A1 l1.length c1) (by kernel_rfl) (by kernel_rfl) (fun _ => by kernel_rfl) ?_
      refine WD.weaken [0, 1, 5, 6, 7, 8, 9, 10, 22, 23, 26, 31, 34, 35] (L' := [(0, .slice A0 l0.length c0), (1, .slice A1 l1.length c1), (5, .int .i64 (imin (imin (l0.length : Int) (l1.length : Int)) 200)), (6, .slice A6_l1 x6_l1.length c6_l1), (7, .slice A7_l1 x7_l1.length c7_l1), (8, .pointer (some ⟨b11, 0, none⟩)), (9, .int .i64 x9_l1), (10, .int .i64 x23_l1), (22, .int .i64 (imin (imin (l0.length : Int) (l1.length : Int)) 200)), (23, .int .i64 x23_l1), (26, .slice A6_l1 x6_l1.length c6_l1), (31, .int .i64 (wi v17)), (34, .slice A7_l1 x7_l1.length c7_l1), (35, .slice A1 l1.length c1)]) (by kernel_rfl) ?_
      refine WD.pure (i := 10) (v := .int .i64 x23_l1) (by kernel_rfl) (by kernel_rfl) (fun _ => by kernel_rfl) ?_
      refine WD.weaken [0, 1, 5, 6, 7, 8, 9, 10, 22, 23, 26, 31, 34, 35, 36] (L' := [(0, .slice A0 l0.length c0), (1, .slice A1 l1.length c1), (5, .int .i64 (imin (imin (l0.length : Int) (l1.length : Int)) 200)), (6, .slice A6_l1 x6_l1.length c6_l1), (7, .slice A7_l1 x7_l1.length c7_l1), (8, .pointer (some ⟨b11, 0, none⟩)), (9, .int .i64 x9_l1), (10, .int .i64 x23_l1), (22, .int .i64 (imin (imin (l0.length : Int) (l1.length : Int)) 200)), (23, .int .i64 x23_l1), (26, .slice A6_l1 x6_l1.length c6_l1), (31, .int .i64 (wi v17)), (34, .slice A7_l1 x7_l1.length c7_l1), (35, .slice A1 l1.length c1), (36, .int .i64 x23_l1)]) (by kernel_rfl) ?_
      obtain ⟨v19, e20, H⟩ := bind_ex H
      refine WD.ofP (i := 11) (by kernel_rfl) (PSt.idx (k := .i64) (.tmp 35) (.tmp 36) (by kernel_rfl) (by kernel_rfl) E34 (by kernel_rfl) (by kernel_rfl) (rdS.up R1 hS.sub0) e20 ?_)
      refine WD.weaken [0, 1, 5, 6, 7, 8, 9, 10, 22, 23, 26, 31, 34, 37] (L' := [(0, .slice A0 l0.length c0), (1, .slice A1 l1.length c1), (5, .int .i64 (imin (imin (l0.length : Int) (l1.length : Int)) 200)), (6, .slice A6_l1 x6_l1.length c6_l1), (7, .slice A7_l1 x7_l1.length c7_l1), (8, .pointer (some ⟨b11, 0, none⟩)), (9, .int .i64 x9_l1), (10, .int .i64 x23_l1), (22, .int .i64 (imin (imin (l0.length : Int) (l1.length : Int)) 200)), (23, .int .i64 x23_l1), (26, .slice A6_l1 x6_l1.length c6_l1), (31, .int .i64 (wi v17)), (34, .slice A7_l1 x7_l1.length c7_l1), (37, .pointer (some (adr A1 x23_l1.toNat 1)))]) (by kernel_rfl) ?_
      refine WD.ofR (i := 12) (by kernel_rfl) (RSt.loadInt (t := 5) (.tmp 37) (by kernel_rfl) (by kernel_rfl) (by kernel_rfl) (by kernel_rfl) (rdS.up R1 hS.sub0) e20 ?_)
      refine WD.weaken [0, 1, 5, 6, 7, 8, 9, 10, 22, 23, 26, 31, 34, 38] (L' := [(0, .slice A0 l0.length c0), (1, .slice A1 l1.length c1), (5, .int .i64 (imin (imin (l0.length : Int) (l1.length : Int)) 200)), (6, .slice A6_l1 x6_l1.length c6_l1), (7, .slice A7_l1 x7_l1.length c7_l1), (8, .pointer (some ⟨b11, 0, none⟩)), (9, .int .i64 x9_l1), (10, .int .i64 x23_l1), (22, .int .i64 (imin (imin (l0.length : Int) (l1.length : Int)) 200)), (23, .int .i64 x23_l1), (26, .slice A6_l1 x6_l1.length c6_l1), (31, .int .i64 (wi v17)), (34, .slice A7_l1 x7_l1.length c7_l1), (38, .int .u8 v19)]) (by kernel_rfl) ?_
      refine WD.pure (i := 13) (v := .int .i64 (wi v19)) (by kernel_rfl) (by kernel_rfl) (fun _ => by kernel_rfl) ?_
      refine WD.weaken [0, 1, 5, 6, 7, 8, 9, 10, 22, 23, 26, 31, 34, 39] (L' := [(0, .slice A0 l0.length c0), (1, .slice A1 l1.length c1), (5, .int .i64 (imin (imin (l0.length : Int) (l1.length : Int)) 200)), (6, .slice A6_l1 x6_l1.length c6_l1), (7, .slice A7_l1 x7_l1.length c7_l1), (8, .pointer (some ⟨b11, 0, none⟩)), (9, .int .i64 x9_l1), (10, .int .i64 x23_l1), (22, .int .i64 (imin (imin (l0.length : Int) (l1.length : Int)) 200)), (23, .int .i64 x23_l1), (26, .slice A6_l1 x6_l1.length c6_l1), (31, .int .i64 (wi v17)), (34, .slice A7_l1 x7_l1.length c7_l1), (39, .int .i64 (wi v19))]) (by kernel_rfl) ?_
      refine WD.two (i := 6) (j := 14) (by kernel_rfl) ?_ ?_
      · skip
        refine St.box hS (by kernel_rfl) (.cells #[.int .i64 (wi v17)] 3) (fun b21 => .slice (some ⟨b21, 0, none⟩) 1 1) (fun _ => by kernel_rfl) (fun b21 w22 hS => ?_)
        refine ⟨(asked.cons (RSt.run (n := 93) (RSt.loadInt (t := 5) (.tmp 37) (by kernel_rfl) (by kernel_rfl) (by kernel_rfl) (by kernel_rfl) (rdS.up R1 hS.sub0) e20 rfl)) (asked.anc (by kernel_rfl) (asked.nil _ _))), ?_⟩
        refine WD.weaken [0, 1, 5, 6, 7, 8, 9, 10, 22, 23, 26, 32, 34, 39] (L' := [(0, .slice A0 l0.length c0), (1, .slice A1 l1.length c1), (5, .int .i64 (imin (imin (l0.length : Int) (l1.length : Int)) 200)), (6, .slice A6_l1 x6_l1.length c6_l1), (7, .slice A7_l1 x7_l1.length c7_l1), (8, .pointer (some ⟨b11, 0, none⟩)), (9, .int .i64 x9_l1), (10, .int .i64 x23_l1), (22, .int .i64 (imin (imin (l0.length : Int) (l1.length : Int)) 200)), (23, .int .i64 x23_l1), (26, .slice A6_l1 x6_l1.length c6_l1), (32, .slice (some ⟨b21, 0, none⟩) 1 1), (34, .slice A7_l1 x7_l1.length c7_l1), (39, .int .i64 (wi v19))]) (by kernel_rfl) ?_
        refine WD.two (i := 7) (j := 14) (by kernel_rfl) ?_ ?_
        · skip
          have hS : Sat w22 (rf w0) [osl 3 (r0 (.int .i64)) 1 A6_l1 c6_l1 x6_l1, pts b21 (.cells #[.int .i64 (wi v17)] 3 (0, 0)), osl 3 (r0 (.int .i64)) 1 A7_l1 c7_l1 x7_l1, oar 45 (r0 (.int .i64)) 1 256 b11 q13_l1] := hS.sel [1, 0, 2, 3] (by kernel_rfl)
          obtain ⟨y24, e23, H⟩ := bind_ex H
          refine St.append' (.tmp 26) (.tmp 32) (by kernel_rfl) (by kernel_rfl) E22 (r0_one _) hS (by kernel_rfl) (by kernel_rfl) (Sat.ptsAt 1 (r0 (.int .i64)) 1 ([wi v17] : List Int) hS rfl rfl (rdL.cons1 rfl (rdL.nil _ _))) 17592186044416 (by kernel_rfl) (by kernel_rfl) e23 (fun A25 c26 w27 hS => ?_)
          refine ⟨(asked.cons (RSt.run (n := 93) (RSt.loadInt (t := 5) (.tmp 37) (by kernel_rfl) (by kernel_rfl) (by kernel_rfl) (by kernel_rfl) (rdS.up R1 hS.sub0) e20 rfl)) (asked.anc (by kernel_rfl) (asked.nil _ _))), ?_⟩
          refine WD.weaken [0, 1, 5, 7, 8, 9, 10, 22, 23, 33, 34, 39] (L' := [(0, .slice A0 l0.length c0), (1, .slice A1 l1.length c1), (5, .int .i64 (imin (imin (l0.length : Int) (l1.length : Int)) 200)), (7, .slice A7_l1 x7_l1.length c7_l1), (8, .pointer (some ⟨b11, 0, none⟩)), (9, .int .i64 x9_l1), (10, .int .i64 x23_l1), (22, .int .i64 (imin (imin (l0.length : Int) (l1.length : Int)) 200)), (23, .int .i64 x23_l1), (33, .slice A25 y24.length c26), (34, .slice A7_l1 x7_l1.length c7_l1), (39, .int .i64 (wi v19))]) (by kernel_rfl) ?_
          refine WD.act (i := 14) (by kernel_rfl) (St.box hS (by kernel_rfl) (.cells #[.int .i64 (wi v19)] 3) (fun b28 => .slice (some ⟨b28, 0, none⟩) 1 1) (fun _ => by kernel_rfl) (fun b28 w29 hS => ?_))
          refine ⟨(asked.anc (by kernel_rfl) (asked.cons (RSt.run (n := 93) (RSt.loadInt (t := 5) (.tmp 29) (by kernel_rfl) (by kernel_rfl) (by kernel_rfl) (by kernel_rfl) (rdS.up R0 hS.sub0) e18 rfl)) (asked.nil _ _))), ?_⟩
          refine WD.weaken [0, 1, 5, 7, 8, 9, 10, 22, 23, 33, 34, 40] (L' := [(0, .slice A0 l0.length c0), (1, .slice A1 l1.length c1), (5, .int .i64 (imin (imin (l0.length : Int) (l1.length : Int)) 200)), (7, .slice A7_l1 x7_l1.length c7_l1), (8, .pointer (some ⟨b11, 0, none⟩)), (9, .int .i64 x9_l1), (10, .int .i64 x23_l1), (22, .int .i64 (imin (imin (l0.length : Int) (l1.length : Int)) 200)), (23, .int .i64 x23_l1), (33, .slice A25 y24.length c26), (34, .slice A7_l1 x7_l1.length c7_l1), (40, .slice (some ⟨b28, 0, none⟩) 1 1)]) (by kernel_rfl) ?_
          have hS : Sat w29 (rf w0) [osl 3 (r0 (.int .i64)) 1 A7_l1 c7_l1 x7_l1, pts b28 (.cells #[.int .i64 (wi v19)] 3 (0, 0)), osl 3 (r0 (.int .i64)) 1 A25 c26 y24, pts b21 (.cells #[.int .i64 (wi v17)] 3 (0, 0)), oar 45 (r0 (.int .i64)) 1 256 b11 q13_l1] := hS.sel [3, 0, 1, 2, 4] (by kernel_rfl)
          obtain ⟨y31, e30, H⟩ := bind_ex H
          refine WD.act (i := 15) (by kernel_rfl) (St.append' (.tmp 34) (.tmp 40) (by kernel_rfl) (by kernel_rfl) E22 (r0_one _) hS (by kernel_rfl) (by kernel_rfl) (Sat.ptsAt 1 (r0 (.int .i64)) 1 ([wi v19] : List Int) hS rfl rfl (rdL.cons1 rfl (rdL.nil _ _))) 17592186044416 (by kernel_rfl) (by kernel_rfl) e30 (fun A32 c33 w34 hS => ?_))
          refine ⟨(asked.anc (by kernel_rfl) (asked.anc (by kernel_rfl) (asked.nil _ _))), ?_⟩
          refine WD.weaken [0, 1, 5, 8, 9, 10, 22, 23, 33, 41] (L' := [(0, .slice A0 l0.length c0), (1, .slice A1 l1.length c1), (5, .int .i64 (imin (imin (l0.length : Int) (l1.length : Int)) 200)), (8, .pointer (some ⟨b11, 0, none⟩)), (9, .int .i64 x9_l1), (10, .int .i64 x23_l1), (22, .int .i64 (imin (imin (l0.length : Int) (l1.length : Int)) 200)), (23, .int .i64 x23_l1), (33, .slice A25 y24.length c26), (41, .slice A32 y31.length c33)]) (by kernel_rfl) ?_
          refine WD.pure (i := 16) (v := .slice A25 y24.length c26) (by kernel_rfl) (by kernel_rfl) (fun _ => by kernel_rfl) ?_
          refine WD.weaken [0, 1, 5, 6, 8, 9, 10, 22, 23, 41] (L' := [(0, .slice A0 l0.length c0), (1, .slice A1 l1.length c1), (5, .int .i64 (imin (imin (l0.length : Int) (l1.length : Int)) 200)), (6, .slice A25 y24.length c26), (8, .pointer (some ⟨b11, 0, none⟩)), (9, .int .i64 x9_l1), (10, .int .i64 x23_l1), (22, .int .i64 (imin (imin (l0.length : Int) (l1.length : Int)) 200)), (23, .int .i64 x23_l1), (41, .slice A32 y31.length c33)]) (by kernel_rfl) ?_
          refine WD.pure (i := 17) (v := .slice A32 y31.length c33) (by kernel_rfl) (by kernel_rfl) (fun _ => by kernel_rfl) ?_
          refine WD.weaken [0, 1, 5, 6, 7, 8, 9, 10, 22, 23] (L' := [(0, .slice A0 l0.length c0), (1, .slice A1 l1.length c1), (5, .int .i64 (imin (imin (l0.length : Int) (l1.length : Int)) 200)), (6, .slice A25 y24.length c26), (7, .slice A32 y31.length c33), (8, .pointer (some ⟨b11, 0, none⟩)), (9, .int .i64 x9_l1), (10, .int .i64 x23_l1), (22, .int .i64 (imin (imin (l0.length : Int) (l1.length : Int)) 200)), (23, .int .i64 x23_l1)]) (by kernel_rfl) ?_
          refine WD.nil (by kernel_rfl) ?_
          refine At.go ?_
          refine WC.seq (by kernel_rfl) ?_
          refine WC.reg [0, 1, 2, 3, 4, 5, 6, 7, 8] (by kernel_rfl) (by kernel_rfl) ?_
          refine WR.runk [0, 1, 2] [3, 4, 5, 6, 7, 8] [0, 1, 5, 6, 7, 8, 9, 10, 22, 23, 42, 43, 44] (L' := [(0, .slice A0 l0.length c0), (1, .slice A1 l1.length c1), (5, .int .i64 (imin (imin (l0.length : Int) (l1.length : Int)) 200)), (6, .slice A25 y24.length c26), (7, .slice A32 y31.length c33), (8, .pointer (some ⟨b11, 0, none⟩)), (9, .int .i64 x9_l1), (10, .int .i64 x23_l1), (22, .int .i64 (imin (imin (l0.length : Int) (l1.length : Int)) 200)), (23, .int .i64 x23_l1), (42, .int .i64 x9_l1), (43, .slice A0 l0.length c0), (44, .int .i64 x23_l1)]) (w' := w34) (by kernel_rfl) ?_
          refine WR.st (St.ofP (PSt.idx (k := .i64) (.tmp 43) (.tmp 44) (by kernel_rfl) (by kernel_rfl) E34 (by kernel_rfl) (by kernel_rfl) (rdS.up R0 hS.sub0) e18 ?_))
          refine WR.runk [] [4, 5, 6, 7, 8] [0, 1, 5, 6, 7, 8, 9, 10, 22, 23, 42, 45] (L' := [(0, .slice A0 l0.length c0), (1, .slice A1 l1.length c1), (5, .int .i64 (imin (imin (l0.length : Int) (l1.length : Int)) 200)), (6, .slice A25 y24.length c26), (7, .slice A32 y31.length c33), (8, .pointer (some ⟨b11, 0, none⟩)), (9, .int .i64 x9_l1), (10, .int .i64 x23_l1), (22, .int .i64 (imin (imin (l0.length : Int) (l1.length : Int)) 200)), (23, .int .i64 x23_l1), (42, .int .i64 x9_l1), (45, .pointer (some (adr A0 x23_l1.toNat 1)))]) (w' := w34) (by kernel_rfl) ?_
          refine WR.st (St.ofR (RSt.loadInt (t := 5) (.tmp 45) (by kernel_rfl) (by kernel_rfl) (by kernel_rfl) (by kernel_rfl) (rdS.up R0 hS.sub0) e18 ?_))
          refine WR.runk [] [5, 6, 7, 8] [0, 1, 5, 6, 7, 8, 9, 10, 22, 23, 42, 46] (L' := [(0, .slice A0 l0.length c0), (1, .slice A1 l1.length c1), (5, .int .i64 (imin (imin (l0.length : Int) (l1.length : Int)) 200)), (6, .slice A25 y24.length c26), (7, .slice A32 y31.length c33), (8, .pointer (some ⟨b11, 0, none⟩)), (9, .int .i64 x9_l1), (10, .int .i64 x23_l1), (22, .int .i64 (imin (imin (l0.length : Int) (l1.length : Int)) 200)), (23, .int .i64 x23_l1), (42, .int .i64 x9_l1), (46, .int .u8 v17)]) (w' := w34) (by kernel_rfl) ?_
          obtain ⟨v35, e36, H⟩ := bind_ex H
          refine WR.st (St.ofP (PSt.idxArr (k := .u8) (t := 45) (e := 3) (sz := 1) (b := b11) (.tmp 8) (.tmp 46) (by kernel_rfl) (by kernel_rfl) (by kernel_rfl) (by kernel_rfl) (by kernel_rfl) (by kernel_rfl) (by kernel_rfl) (Sat.oarAt 4 hS rfl).2 e36 ?_))
          refine WR.runk [] [6, 7, 8] [0, 1, 5, 6, 7, 8, 9, 10, 22, 23, 42, 47] (L' := [(0, .slice A0 l0.length c0), (1, .slice A1 l1.length c1), (5, .int .i64 (imin (imin (l0.length : Int) (l1.length : Int)) 200)), (6, .slice A25 y24.length c26), (7, .slice A32 y31.length c33), (8, .pointer (some ⟨b11, 0, none⟩)), (9, .int .i64 x9_l1), (10, .int .i64 x23_l1), (22, .int .i64 (imin (imin (l0.length : Int) (l1.length : Int)) 200)), (23, .int .i64 x23_l1), (42, .int .i64 x9_l1), (47, .pointer (some (adr (some ⟨b11, 0, none⟩) v17.toNat 1)))]) (w' := w34) (by kernel_rfl) ?_
          refine WR.st (St.ofR (RSt.loadInt (t := 3) (.tmp 47) (by kernel_rfl) (by kernel_rfl) (by kernel_rfl) (by kernel_rfl) (Sat.oarAt 4 hS rfl).1 e36 ?_))
          refine WR.runk [7, 8] [] [0, 1, 5, 6, 7, 8, 9, 10, 22, 23] (L' := [(0, .slice A0 l0.length c0), (1, .slice A1 l1.length c1), (5, .int .i64 (imin (imin (l0.length : Int) (l1.length : Int)) 200)), (6, .slice A25 y24.length c26), (7, .slice A32 y31.length c33), (8, .pointer (some ⟨b11, 0, none⟩)), (9, .int .i64 (wi (x9_l1 + v35))), (10, .int .i64 x23_l1), (22, .int .i64 (imin (imin (l0.length : Int) (l1.length : Int)) 200)), (23, .int .i64 x23_l1)]) (w' := w34) (by kernel_rfl) ?_
          refine WR.nil ?_
          refine At.go ?_
          refine WC.reg [0, 1, 2, 3, 4, 5] (by kernel_rfl) (by kernel_rfl) ?_
          refine WR.runk [0, 1] [2, 3, 4, 5] [0, 1, 5, 6, 7, 8, 9, 22, 23, 50, 51] (L' := [(0, .slice A0 l0.length c0), (1, .slice A1 l1.length c1), (5, .int .i64 (imin (imin (l0.length : Int) (l1.length : Int)) 200)), (6, .slice A25 y24.length c26), (7, .slice A32 y31.length c33), (8, .pointer (some ⟨b11, 0, none⟩)), (9, .int .i64 (wi (x9_l1 + v35))), (22, .int .i64 (imin (imin (l0.length : Int) (l1.length : Int)) 200)), (23, .int .i64 x23_l1), (50, .slice A0 l0.length c0), (51, .int .i64 x23_l1)]) (w' := w34) (by kernel_rfl) ?_
          refine WR.st (St.ofP (PSt.idx (k := .i64) (.tmp 50) (.tmp 51) (by kernel_rfl) (by kernel_rfl) E34 (by kernel_rfl) (by kernel_rfl) (rdS.up R0 hS.sub0) e18 ?_))
          refine WR.runk [] [3, 4, 5] [0, 1, 5, 6, 7, 8, 9, 22, 23, 52] (L' := [(0, .slice A0 l0.length c0), (1, .slice A1 l1.length c1), (5, .int .i64 (imin (imin (l0.length : Int) (l1.length : Int)) 200)), (6, .slice A25 y24.length c26), (7, .slice A32 y31.length c33), (8, .pointer (some ⟨b11, 0, none⟩)), (9, .int .i64 (wi (x9_l1 + v35))), (22, .int .i64 (imin (imin (l0.length : Int) (l1.length : Int)) 200)), (23, .int .i64 x23_l1), (52, .pointer (some (adr A0 x23_l1.toNat 1)))]) (w' := w34) (by kernel_rfl) ?_
          refine WR.st (St.ofR (RSt.loadInt (t := 5) (.tmp 52) (by kernel_rfl) (by kernel_rfl) (by kernel_rfl) (by kernel_rfl) (rdS.up R0 hS.sub0) e18 ?_))
          refine WR.runk [] [4, 5] [0, 1, 5, 6, 7, 8, 9, 22, 23, 53] (L' := [(0, .slice A0 l0.length c0), (1, .slice A1 l1.length c1), (5, .int .i64 (imin (imin (l0.length : Int) (l1.length : Int)) 200)), (6, .slice A25 y24.length c26), (7, .slice A32 y31.length c33), (8, .pointer (some ⟨b11, 0, none⟩)), (9, .int .i64 (wi (x9_l1 + v35))), (22, .int .i64 (imin (imin (l0.length : Int) (l1.length : Int)) 200)), (23, .int .i64 x23_l1), (53, .int .u8 v17)]) (w' := w34) (by kernel_rfl) ?_
          obtain ⟨v37, e38, H⟩ := bind_ex H
          refine WR.st (St.ofP (PSt.idxArr (k := .u8) (t := 45) (e := 3) (sz := 1) (b := b11) (.tmp 8) (.tmp 53) (by kernel_rfl) (by kernel_rfl) (by kernel_rfl) (by kernel_rfl) (by kernel_rfl) (by kernel_rfl) (by kernel_rfl) (Sat.oarAt 4 hS rfl).2 e38 ?_))
          refine WR.runk [] [5] [0, 1, 5, 6, 7, 8, 9, 22, 23, 54] (L' := [(0, .slice A0 l0.length c0), (1, .slice A1 l1.length c1), (5, .int .i64 (imin (imin (l0.length : Int) (l1.length : Int)) 200)), (6, .slice A25 y24.length c26), (7, .slice A32 y31.length c33), (8, .pointer (some ⟨b11, 0, none⟩)), (9, .int .i64 (wi (x9_l1 + v35))), (22, .int .i64 (imin (imin (l0.length : Int) (l1.length : Int)) 200)), (23, .int .i64 x23_l1), (54, .pointer (some (adr (some ⟨b11, 0, none⟩) v17.toNat 1)))]) (w' := w34) (by kernel_rfl) ?_
          have hS : Sat w34 (rf w0) [oar 45 (r0 (.int .i64)) 1 256 b11 q13_l1, osl 3 (r0 (.int .i64)) 1 A32 c33 y31, pts b28 (.cells #[.int .i64 (wi v19)] 3 (0, 0)), osl 3 (r0 (.int .i64)) 1 A25 c26 y24, pts b21 (.cells #[.int .i64 (wi v17)] 3 (0, 0))] := hS.sel [4, 0, 1, 2, 3] (by kernel_rfl)
          obtain ⟨y39, e40, H⟩ := bind_ex H
          obtain ⟨hl42, hS⟩ := oar.op hS
          refine WR.st (St.storeElem' (t := 3) (.tmp 54) (.const (.int .i64 1)) (by kernel_rfl) (by kernel_rfl) (by kernel_rfl) hS (by kernel_rfl) (by kernel_rfl) rfl e40 rfl (fun w41 hS => ?_))
          have hl43 := (set?_len e40).trans hl42
          have hS : Sat w41 (rf w0) [oar 45 (r0 (.int .i64)) 1 256 b11 y39, osl 3 (r0 (.int .i64)) 1 A32 c33 y31, pts b28 (.cells #[.int .i64 (wi v19)] 3 (0, 0)), osl 3 (r0 (.int .i64)) 1 A25 c26 y24, pts b21 (.cells #[.int .i64 (wi v17)] 3 (0, 0))] := oar.cl hl43 hS
          refine WR.runk [] [] [0, 1, 5, 6, 7, 8, 9, 22, 23] (L' := [(0, .slice A0 l0.length c0), (1, .slice A1 l1.length c1), (5, .int .i64 (imin (imin (l0.length : Int) (l1.length : Int)) 200)), (6, .slice A25 y24.length c26), (7, .slice A32 y31.length c33), (8, .pointer (some ⟨b11, 0, none⟩)), (9, .int .i64 (wi (x9_l1 + v35))), (22, .int .i64 (imin (imin (l0.length : Int) (l1.length : Int)) 200)), (23, .int .i64 x23_l1)]) (w' := w41) (by kernel_rfl) ?_
          refine WR.nil ?_
          refine At.blockNormal ?_
          refine At.go ?_
          refine WC.reg [0, 1] (by kernel_rfl) (by kernel_rfl) ?_
          refine WR.runk [0, 1] [] [0, 1, 5, 6, 7, 8, 9, 22, 23] (L' := [(0, .slice A0 l0.length c0), (1, .slice A1 l1.length c1), (5, .int .i64 (imin (imin (l0.length : Int) (l1.length : Int)) 200)), (6, .slice A25 y24.length c26), (7, .slice A32 y31.length c33), (8, .pointer (some ⟨b11, 0, none⟩)), (9, .int .i64 (wi (x9_l1 + v35))), (22, .int .i64 (imin (imin (l0.length : Int) (l1.length : Int)) 200)), (23, .int .i64 (wi (x23_l1 + 1)))]) (w' := w41) (by kernel_rfl) ?_
          refine WR.nil ?_
          have hS : Sat w41 (rf w0) [osl 3 (r0 (.int .i64)) 1 A25 c26 y24, osl 3 (r0 (.int .i64)) 1 A32 c33 y31, oar 45 (r0 (.int .i64)) 1 256 b11 y39] := hS.sel [3, 1, 0] (by kernel_rfl)
          refine At.again ?_
          refine WL.weaken [0, 1, 5, 6, 7, 8, 9, 22, 23] (L' := [(0, .slice A0 l0.length c0), (1, .slice A1 l1.length c1), (5, .int .i64 (imin (imin (l0.length : Int) (l1.length : Int)) 200)), (6, .slice A25 y24.length c26), (7, .slice A32 y31.length c33), (8, .pointer (some ⟨b11, 0, none⟩)), (9, .int .i64 (wi (x9_l1 + v35))), (22, .int .i64 (imin (imin (l0.length : Int) (l1.length : Int)) 200)), (23, .int .i64 (wi (x23_l1 + 1)))]) (by kernel_rfl) ?_
          exact ih y24 y31 (wi (x9_l1 + v35)) (wi (x23_l1 + 1)) y39 A25 c26 A32 c33 _ hS H
        · skip
          refine St.box hS (by kernel_rfl) (.cells #[.int .i64 (wi v19)] 3) (fun b44 => .slice (some ⟨b44, 0, none⟩) 1 1) (fun _ => by kernel_rfl) (fun b44 w45 hS => ?_)
          refine ⟨(asked.anc (by kernel_rfl) (asked.cons (RSt.run (n := 93) (RSt.loadInt (t := 5) (.tmp 29) (by kernel_rfl) (by kernel_rfl) (by kernel_rfl) (by kernel_rfl) (rdS.up R0 hS.sub0) e18 rfl)) (asked.nil _ _))), ?_⟩
          refine WD.weaken [0, 1, 5, 6, 7, 8, 9, 10, 22, 23, 26, 32, 34, 40] (L' := [(0, .slice A0 l0.length c0), (1, .slice A1 l1.length c1), (5, .int .i64 (imin (imin (l0.length : Int) (l1.length : Int)) 200)), (6, .slice A6_l1 x6_l1.length c6_l1), (7, .slice A7_l1 x7_l1.length c7_l1), (8, .pointer (some ⟨b11, 0, none⟩)), (9, .int .i64 x9_l1), (10, .int .i64 x23_l1), (22, .int .i64 (imin (imin (l0.length : Int) (l1.length : Int)) 200)), (23, .int .i64 x23_l1), (26, .slice A6_l1 x6_l1.length c6_l1), (32, .slice (some ⟨b21, 0, none⟩) 1 1), (34, .slice A7_l1 x7_l1.length c7_l1), (40, .slice (some ⟨b44, 0, none⟩) 1 1)]) (by kernel_rfl) ?_
          have hS : Sat w45 (rf w0) [osl 3 (r0 (.int .i64)) 1 A6_l1 c6_l1 x6_l1, pts b44 (.cells #[.int .i64 (wi v19)] 3 (0, 0)), pts b21 (.cells #[.int .i64 (wi v17)] 3 (0, 0)), osl 3 (r0 (.int .i64)) 1 A7_l1 c7_l1 x7_l1, oar 45 (r0 (.int .i64)) 1 256 b11 q13_l1] := hS.sel [2, 0, 1, 3, 4] (by kernel_rfl)
          obtain ⟨y47, e46, H⟩ := bind_ex H
          refine WD.act (i := 7) (by kernel_rfl) (St.append' (.tmp 26) (.tmp 32) (by kernel_rfl) (by kernel_rfl) E22 (r0_one _) hS (by kernel_rfl) (by kernel_rfl) (Sat.ptsAt 2 (r0 (.int .i64)) 1 ([wi v17] : List Int) hS rfl rfl (rdL.cons1 rfl (rdL.nil _ _))) 17592186044416 (by kernel_rfl) (by kernel_rfl) e46 (fun A48 c49 w50 hS => ?_))
          refine ⟨(asked.cons (RSt.run (n := 93) (RSt.loadInt (t := 5) (.tmp 37) (by kernel_rfl) (by kernel_rfl) (by kernel_rfl) (by kernel_rfl) (rdS.up R1 hS.sub0) e20 rfl)) (asked.anc (by kernel_rfl) (asked.nil _ _))), ?_⟩
          refine WD.weaken [0, 1, 5, 7, 8, 9, 10, 22, 23, 33, 34, 40] (L' := [(0, .slice A0 l0.length c0), (1, .slice A1 l1.length c1), (5, .int .i64 (imin (imin (l0.length : Int) (l1.length : Int)) 200)), (7, .slice A7_l1 x7_l1.length c7_l1), (8, .pointer (some ⟨b11, 0, none⟩)), (9, .int .i64 x9_l1), (10, .int .i64 x23_l1), (22, .int .i64 (imin (imin (l0.length : Int) (l1.length : Int)) 200)), (23, .int .i64 x23_l1), (33, .slice A48 y47.length c49), (34, .slice A7_l1 x7_l1.length c7_l1), (40, .slice (some ⟨b44, 0, none⟩) 1 1)]) (by kernel_rfl) ?_
          have hS : Sat w50 (rf w0) [osl 3 (r0 (.int .i64)) 1 A7_l1 c7_l1 x7_l1, osl 3 (r0 (.int .i64)) 1 A48 c49 y47, pts b44 (.cells #[.int .i64 (wi v19)] 3 (0, 0)), pts b21 (.cells #[.int .i64 (wi v17)] 3 (0, 0)), oar 45 (r0 (.int .i64)) 1 256 b11 q13_l1] := hS.sel [3, 0, 1, 2, 4] (by kernel_rfl)
          obtain ⟨y52, e51, H⟩ := bind_ex H
          refine WD.act (i := 15) (by kernel_rfl) (St.append' (.tmp 34) (.tmp 40) (by kernel_rfl) (by kernel_rfl) E22 (r0_one _) hS (by kernel_rfl) (by kernel_rfl) (Sat.ptsAt 2 (r0 (.int .i64)) 1 ([wi v19] : List Int) hS rfl rfl (rdL.cons1 rfl (rdL.nil _ _))) 17592186044416 (by kernel_rfl) (by kernel_rfl) e51 (fun A53 c54 w55 hS => ?_))
          refine ⟨(asked.anc (by kernel_rfl) (asked.anc (by kernel_rfl) (asked.nil _ _))), ?_⟩
          refine WD.weaken [0, 1, 5, 8, 9, 10, 22, 23, 33, 41] (L' := [(0, .slice A0 l0.length c0), (1, .slice A1 l1.length c1), (5, .int .i64 (imin (imin (l0.length : Int) (l1.length : Int)) 200)), (8, .pointer (some ⟨b11, 0, none⟩)), (9, .int .i64 x9_l1), (10, .int .i64 x23_l1), (22, .int .i64 (imin (imin (l0.length : Int) (l1.length : Int)) 200)), (23, .int .i64 x23_l1), (33, .slice A48 y47.length c49), (41, .slice A53 y52.length c54)]) (by kernel_rfl) ?_
          refine WD.pure (i := 16) (v := .slice A48 y47.length c49) (by kernel_rfl) (by kernel_rfl) (fun _ => by kernel_rfl) ?_
          refine WD.weaken [0, 1, 5, 6, 8, 9, 10, 22, 23, 41] (L' := [(0, .slice A0 l0.length c0), (1, .slice A1 l1.length c1), (5, .int .i64 (imin (imin (l0.length : Int) (l1.length : Int)) 200)), (6, .slice A48 y47.length c49), (8, .pointer (some ⟨b11, 0, none⟩)), (9, .int .i64 x9_l1), (10, .int .i64 x23_l1), (22, .int .i64 (imin (imin (l0.length : Int) (l1.length : Int)) 200)), (23, .int .i64 x23_l1), (41, .slice A53 y52.length c54)]) (by kernel_rfl) ?_
          refine WD.pure (i := 17) (v := .slice A53 y52.length c54) (by kernel_rfl) (by kernel_rfl) (fun _ => by kernel_rfl) ?_
          refine WD.weaken [0, 1, 5, 6, 7, 8, 9, 10, 22, 23] (L' := [(0, .slice A0 l0.length c0), (1, .slice A1 l1.length c1), (5, .int .i64 (imin (imin (l0.length : Int) (l1.length : Int)) 200)), (6, .slice A48 y47.length c49), (7, .slice A53 y52.length c54), (8, .pointer (some ⟨b11, 0, none⟩)), (9, .int .i64 x9_l1), (10, .int .i64 x23_l1), (22, .int .i64 (imin (imin (l0.length : Int) (l1.length : Int)) 200)), (23, .int .i64 x23_l1)]) (by kernel_rfl) ?_
          refine WD.nil (by kernel_rfl) ?_
          refine At.go ?_
          refine WC.seq (by kernel_rfl) ?_
          refine WC.reg [0, 1, 2, 3, 4, 5, 6, 7, 8] (by kernel_rfl) (by kernel_rfl) ?_
          refine WR.runk [0, 1, 2] [3, 4, 5, 6, 7, 8] [0, 1, 5, 6, 7, 8, 9, 10, 22, 23, 42, 43, 44] (L' := [(0, .slice A0 l0.length c0), (1, .slice A1 l1.length c1), (5, .int .i64 (imin (imin (l0.length : Int) (l1.length : Int)) 200)), (6, .slice A48 y47.length c49), (7, .slice A53 y52.length c54), (8, .pointer (some ⟨b11, 0, none⟩)), (9, .int .i64 x9_l1), (10, .int .i64 x23_l1), (22, .int .i64 (imin (imin (l0.length : Int) (l1.length : Int)) 200)), (23, .int .i64 x23_l1), (42, .int .i64 x9_l1), (43, .slice A0 l0.length c0), (44, .int .i64 x23_l1)]) (w' := w55) (by kernel_rfl) ?_
          refine WR.st (St.ofP (PSt.idx (k := .i64) (.tmp 43) (.tmp 44) (by kernel_rfl) (by kernel_rfl) E34 (by kernel_rfl) (by kernel_rfl) (rdS.up R0 hS.sub0) e18 ?_))
          refine WR.runk [] [4, 5, 6, 7, 8] [0, 1, 5, 6, 7, 8, 9, 10, 22, 23, 42, 45] (L' := [(0, .slice A0 l0.length c0), (1, .slice A1 l1.length c1), (5, .int .i64 (imin (imin (l0.length : Int) (l1.length : Int)) 200)), (6, .slice A48 y47.length c49), (7, .slice A53 y52.length c54), (8, .pointer (some ⟨b11, 0, none⟩)), (9, .int .i64 x9_l1), (10, .int .i64 x23_l1), (22, .int .i64 (imin (imin (l0.length : Int) (l1.length : Int)) 200)), (23, .int .i64 x23_l1), (42, .int .i64 x9_l1), (45, .pointer (some (adr A0 x23_l1.toNat 1)))]) (w' := w55) (by kernel_rfl) ?_
          refine WR.st (St.ofR (RSt.loadInt (t := 5) (.tmp 45) (by kernel_rfl) (by kernel_rfl) (by kernel_rfl) (by kernel_rfl) (rdS.up R0 hS.sub0) e18 ?_))
          refine WR.runk [] [5, 6, 7, 8] [0, 1, 5, 6, 7, 8, 9, 10, 22, 23, 42, 46] (L' := [(0, .slice A0 l0.length c0), (1, .slice A1 l1.length c1), (5, .int .i64 (imin (imin (l0.length : Int) (l1.length : Int)) 200)), (6, .slice A48 y47.length c49), (7, .slice A53 y52.length c54), (8, .pointer (some ⟨b11, 0, none⟩)), (9, .int .i64 x9_l1), (10, .int .i64 x23_l1), (22, .int .i64 (imin (imin (l0.length : Int) (l1.length : Int)) 200)), (23, .int .i64 x23_l1), (42, .int .i64 x9_l1), (46, .int .u8 v17)]) (w' := w55) (by kernel_rfl) ?_
          obtain ⟨v56, e57, H⟩ := bind_ex H
          refine WR.st (St.ofP (PSt.idxArr (k := .u8) (t := 45) (e := 3) (sz := 1) (b := b11) (.tmp 8) (.tmp 46) (by kernel_rfl) (by kernel_rfl) (by kernel_rfl) (by kernel_rfl) (by kernel_rfl) (by kernel_rfl) (by kernel_rfl) (Sat.oarAt 4 hS rfl).2 e57 ?_))
          refine WR.runk [] [6, 7, 8] [0, 1, 5, 6, 7, 8, 9, 10, 22, 23, 42, 47] (L' := [(0, .slice A0 l0.length c0), (1, .slice A1 l1.length c1), (5, .int .i64 (imin (imin (l0.length : Int) (l1.length : Int)) 200)), (6, .slice A48 y47.length c49), (7, .slice A53 y52.length c54), (8, .pointer (some ⟨b11, 0, none⟩)), (9, .int .i64 x9_l1), (10, .int .i64 x23_l1), (22, .int .i64 (imin (imin (l0.length : Int) (l1.length : Int)) 200)), (23, .int .i64 x23_l1), (42, .int .i64 x9_l1), (47, .pointer (some (adr (some ⟨b11, 0, none⟩) v17.toNat 1)))]) (w' := w55) (by kernel_rfl) ?_
          refine WR.st (St.ofR (RSt.loadInt (t := 3) (.tmp 47) (by kernel_rfl) (by kernel_rfl) (by kernel_rfl) (by kernel_rfl) (Sat.oarAt 4 hS rfl).1 e57 ?_))
          refine WR.runk [7, 8] [] [0, 1, 5, 6, 7, 8, 9, 10, 22, 23] (L' := [(0, .slice A0 l0.length c0), (1, .slice A1 l1.length c1), (5, .int .i64 (imin (imin (l0.length : Int) (l1.length : Int)) 200)), (6, .slice A48 y47.length c49), (7, .slice A53 y52.length c54), (8, .pointer (some ⟨b11, 0, none⟩)), (9, .int .i64 (wi (x9_l1 + v56))), (10, .int .i64 x23_l1), (22, .int .i64 (imin (imin (l0.length : Int) (l1.length : Int)) 200)), (23, .int .i64 x23_l1)]) (w' := w55) (by kernel_rfl) ?_
          refine WR.nil ?_
          refine At.go ?_
          refine WC.reg [0, 1, 2, 3, 4, 5] (by kernel_rfl) (by kernel_rfl) ?_
          refine WR.runk [0, 1] [2, 3, 4, 5] [0, 1, 5, 6, 7, 8, 9, 22, 23, 50, 51] (L' := [(0, .slice A0 l0.length c0), (1, .slice A1 l1.length c1), (5, .int .i64 (imin (imin (l0.length : Int) (l1.length : Int)) 200)), (6, .slice A48 y47.length c49), (7, .slice A53 y52.length c54), (8, .pointer (some ⟨b11, 0, none⟩)), (9, .int .i64 (wi (x9_l1 + v56))), (22, .int .i64 (imin (imin (l0.length : Int) (l1.length : Int)) 200)), (23, .int .i64 x23_l1), (50, .slice A0 l0.length c0), (51, .int .i64 x23_l1)]) (w' := w55) (by kernel_rfl) ?_
          refine WR.st (St.ofP (PSt.idx (k := .i64) (.tmp 50) (.tmp 51) (by kernel_rfl) (by kernel_rfl) E34 (by kernel_rfl) (by kernel_rfl) (rdS.up R0 hS.sub0) e18 ?_))
          refine WR.runk [] [3, 4, 5] [0, 1, 5, 6, 7, 8, 9, 22, 23, 52] (L' := [(0, .slice A0 l0.length c0), (1, .slice A1 l1.length c1), (5, .int .i64 (imin (imin (l0.length : Int) (l1.length : Int)) 200)), (6, .slice A48 y47.length c49), (7, .slice A53 y52.length c54), (8, .pointer (some ⟨b11, 0, none⟩)), (9, .int .i64 (wi (x9_l1 + v56))), (22, .int .i64 (imin (imin (l0.length : Int) (l1.length : Int)) 200)), (23, .int .i64 x23_l1), (52, .pointer (some (adr A0 x23_l1.toNat 1)))]) (w' := w55) (by kernel_rfl) ?_
          refine WR.st (St.ofR (RSt.loadInt (t := 5) (.tmp 52) (by kernel_rfl) (by kernel_rfl) (by kernel_rfl) (by kernel_rfl) (rdS.up R0 hS.sub0) e18 ?_))
          refine WR.runk [] [4, 5] [0, 1, 5, 6, 7, 8, 9, 22, 23, 53] (L' := [(0, .slice A0 l0.length c0), (1, .slice A1 l1.length c1), (5, .int .i64 (imin (imin (l0.length : Int) (l1.length : Int)) 200)), (6, .slice A48 y47.length c49), (7, .slice A53 y52.length c54), (8, .pointer (some ⟨b11, 0, none⟩)), (9, .int .i64 (wi (x9_l1 + v56))), (22, .int .i64 (imin (imin (l0.length : Int) (l1.length : Int)) 200)), (23, .int .i64 x23_l1), (53, .int .u8 v17)]) (w' := w55) (by kernel_rfl) ?_
          obtain ⟨v58, e59, H⟩ := bind_ex H
          refine WR.st (St.ofP (PSt.idxArr (k := .u8) (t := 45) (e := 3) (sz := 1) (b := b11) (.tmp 8) (.tmp 53) (by kernel_rfl) (by kernel_rfl) (by kernel_rfl) (by kernel_rfl) (by kernel_rfl) (by kernel_rfl) (by kernel_rfl) (Sat.oarAt 4 hS rfl).2 e59 ?_))
          refine WR.runk [] [5] [0, 1, 5, 6, 7, 8, 9, 22, 23, 54] (L' := [(0, .slice A0 l0.length c0), (1, .slice A1 l1.length c1), (5, .int .i64 (imin (imin (l0.length : Int) (l1.length : Int)) 200)), (6, .slice A48 y47.length c49), (7, .slice A53 y52.length c54), (8, .pointer (some ⟨b11, 0, none⟩)), (9, .int .i64 (wi (x9_l1 + v56))), (22, .int .i64 (imin (imin (l0.length : Int) (l1.length : Int)) 200)), (23, .int .i64 x23_l1), (54, .pointer (some (adr (some ⟨b11, 0, none⟩) v17.toNat 1)))]) (w' := w55) (by kernel_rfl) ?_
          have hS : Sat w55 (rf w0) [oar 45 (r0 (.int .i64)) 1 256 b11 q13_l1, osl 3 (r0 (.int .i64)) 1 A53 c54 y52, osl 3 (r0 (.int .i64)) 1 A48 c49 y47, pts b44 (.cells #[.int .i64 (wi v19)] 3 (0, 0)), pts b21 (.cells #[.int .i64 (wi v17)] 3 (0, 0))] := hS.sel [4, 0, 1, 2, 3] (by kernel_rfl)
          obtain ⟨y60, e61, H⟩ := bind_ex H
          obtain ⟨hl63, hS⟩ := oar.op hS
          refine WR.st (St.storeElem' (t := 3) (.tmp 54) (.const (.int .i64 1)) (by kernel_rfl) (by kernel_rfl) (by kernel_rfl) hS (by kernel_rfl) (by kernel_rfl) rfl e61 rfl (fun w62 hS => ?_))
          have hl64 := (set?_len e61).trans hl63
          have hS : Sat w62 (rf w0) [oar 45 (r0 (.int .i64)) 1 256 b11 y60, osl 3 (r0 (.int .i64)) 1 A53 c54 y52, osl 3 (r0 (.int .i64)) 1 A48 c49 y47, pts b44 (.cells #[.int .i64 (wi v19)] 3 (0, 0)), pts b21 (.cells #[.int .i64 (wi v17)] 3 (0, 0))] := oar.cl hl64 hS
          refine WR.runk [] [] [0, 1, 5, 6, 7, 8, 9, 22, 23] (L' := [(0, .slice A0 l0.length c0), (1, .slice A1 l1.length c1), (5, .int .i64 (imin (imin (l0.length : Int) (l1.length : Int)) 200)), (6, .slice A48 y47.length c49), (7, .slice A53 y52.length c54), (8, .pointer (some ⟨b11, 0, none⟩)), (9, .int .i64 (wi (x9_l1 + v56))), (22, .int .i64 (imin (imin (l0.length : Int) (l1.length : Int)) 200)), (23, .int .i64 x23_l1)]) (w' := w62) (by kernel_rfl) ?_
          refine WR.nil ?_
          refine At.blockNormal ?_
          refine At.go ?_
          refine WC.reg [0, 1] (by kernel_rfl) (by kernel_rfl) ?_
          refine WR.runk [0, 1] [] [0, 1, 5, 6, 7, 8, 9, 22, 23] (L' := [(0, .slice A0 l0.length c0), (1, .slice A1 l1.length c1), (5, .int .i64 (imin (imin (l0.length : Int) (l1.length : Int)) 200)), (6, .slice A48 y47.length c49), (7, .slice A53 y52.length c54), (8, .pointer (some ⟨b11, 0, none⟩)), (9, .int .i64 (wi (x9_l1 + v56))), (22, .int .i64 (imin (imin (l0.length : Int) (l1.length : Int)) 200)), (23, .int .i64 (wi (x23_l1 + 1)))]) (w' := w62) (by kernel_rfl) ?_
          refine WR.nil ?_
          have hS : Sat w62 (rf w0) [osl 3 (r0 (.int .i64)) 1 A48 c49 y47, osl 3 (r0 (.int .i64)) 1 A53 c54 y52, oar 45 (r0 (.int .i64)) 1 256 b11 y60] := hS.sel [2, 1, 0] (by kernel_rfl)
          refine At.again ?_
          refine WL.weaken [0, 1, 5, 6, 7, 8, 9, 22, 23] (L' := [(0, .slice A0 l0.length c0), (1, .slice A1 l1.length c1), (5, .int .i64 (imin (imin (l0.length : Int) (l1.length : Int)) 200)), (6, .slice A48 y47.length c49), (7, .slice A53 y52.length c54), (8, .pointer (some ⟨b11, 0, none⟩)), (9, .int .i64 (wi (x9_l1 + v56))), (22, .int .i64 (imin (imin (l0.length : Int) (l1.length : Int)) 200)), (23, .int .i64 (wi (x23_l1 + 1)))]) (by kernel_rfl) ?_
          exact ih y47 y52 (wi (x9_l1 + v56)) (wi (x23_l1 + 1)) y60 A48 c49 A53 c54 _ hS H
      · skip
        refine St.box hS (by kernel_rfl) (.cells #[.int .i64 (wi v19)] 3) (fun b65 => .slice (some ⟨b65, 0, none⟩) 1 1) (fun _ => by kernel_rfl) (fun b65 w66 hS => ?_)
        refine ⟨(asked.anc (by kernel_rfl) (asked.cons (RSt.run (n := 93) (RSt.loadInt (t := 5) (.tmp 29) (by kernel_rfl) (by kernel_rfl) (by kernel_rfl) (by kernel_rfl) (rdS.up R0 hS.sub0) e18 rfl)) (asked.nil _ _))), ?_⟩
        refine WD.weaken [0, 1, 5, 6, 7, 8, 9, 10, 22, 23, 26, 31, 34, 40] (L' := [(0, .slice A0 l0.length c0), (1, .slice A1 l1.length c1), (5, .int .i64 (imin (imin (l0.length : Int) (l1.length : Int)) 200)), (6, .slice A6_l1 x6_l1.length c6_l1), (7, .slice A7_l1 x7_l1.length c7_l1), (8, .pointer (some ⟨b11, 0, none⟩)), (9, .int .i64 x9_l1), (10, .int .i64 x23_l1), (22, .int .i64 (imin (imin (l0.length : Int) (l1.length : Int)) 200)), (23, .int .i64 x23_l1), (26, .slice A6_l1 x6_l1.length c6_l1), (31, .int .i64 (wi v17)), (34, .slice A7_l1 x7_l1.length c7_l1), (40, .slice (some ⟨b65, 0, none⟩) 1 1)]) (by kernel_rfl) ?_
        refine WD.act (i := 6) (by kernel_rfl) (St.box hS (by kernel_rfl) (.cells #[.int .i64 (wi v17)] 3) (fun b67 => .slice (some ⟨b67, 0, none⟩) 1 1) (fun _ => by kernel_rfl) (fun b67 w68 hS => ?_))
        refine ⟨(asked.cons (RSt.run (n := 93) (RSt.loadInt (t := 5) (.tmp 37) (by kernel_rfl) (by kernel_rfl) (by kernel_rfl) (by kernel_rfl) (rdS.up R1 hS.sub0) e20 rfl)) (asked.anc (by kernel_rfl) (asked.nil _ _))), ?_⟩
        refine WD.weaken [0, 1, 5, 6, 7, 8, 9, 10, 22, 23, 26, 32, 34, 40] (L' := [(0, .slice A0 l0.length c0), (1, .slice A1 l1.length c1), (5, .int .i64 (imin (imin (l0.length : Int) (l1.length : Int)) 200)), (6, .slice A6_l1 x6_l1.length c6_l1), (7, .slice A7_l1 x7_l1.length c7_l1), (8, .pointer (some ⟨b11, 0, none⟩)), (9, .int .i64 x9_l1), (10, .int .i64 x23_l1), (22, .int .i64 (imin (imin (l0.length : Int) (l1.length : Int)) 200)), (23, .int .i64 x23_l1), (26, .slice A6_l1 x6_l1.length c6_l1), (32, .slice (some ⟨b67, 0, none⟩) 1 1), (34, .slice A7_l1 x7_l1.length c7_l1), (40, .slice (some ⟨b65, 0, none⟩) 1 1)]) (by kernel_rfl) ?_
        have hS : Sat w68 (rf w0) [osl 3 (r0 (.int .i64)) 1 A6_l1 c6_l1 x6_l1, pts b67 (.cells #[.int .i64 (wi v17)] 3 (0, 0)), pts b65 (.cells #[.int .i64 (wi v19)] 3 (0, 0)), osl 3 (r0 (.int .i64)) 1 A7_l1 c7_l1 x7_l1, oar 45 (r0 (.int .i64)) 1 256 b11 q13_l1] := hS.sel [2, 0, 1, 3, 4] (by kernel_rfl)
        obtain ⟨y70, e69, H⟩ := bind_ex H
        refine WD.act (i := 7) (by kernel_rfl) (St.append' (.tmp 26) (.tmp 32) (by kernel_rfl) (by kernel_rfl) E22 (r0_one _) hS (by kernel_rfl) (by kernel_rfl) (Sat.ptsAt 1 (r0 (.int .i64)) 1 ([wi v17] : List Int) hS rfl rfl (rdL.cons1 rfl (rdL.nil _ _))) 17592186044416 (by kernel_rfl) (by kernel_rfl) e69 (fun A71 c72 w73 hS => ?_))
        refine ⟨(asked.cons (RSt.run (n := 93) (RSt.loadInt (t := 5) (.tmp 37) (by kernel_rfl) (by kernel_rfl) (by kernel_rfl) (by kernel_rfl) (rdS.up R1 hS.sub0) e20 rfl)) (asked.anc (by kernel_rfl) (asked.nil _ _))), ?_⟩
        refine WD.weaken [0, 1, 5, 7, 8, 9, 10, 22, 23, 33, 34, 40] (L' := [(0, .slice A0 l0.length c0), (1, .slice A1 l1.length c1), (5, .int .i64 (imin (imin (l0.length : Int) (l1.length : Int)) 200)), (7, .slice A7_l1 x7_l1.length c7_l1), (8, .pointer (some ⟨b11, 0, none⟩)), (9, .int .i64 x9_l1), (10, .int .i64 x23_l1), (22, .int .i64 (imin (imin (l0.length : Int) (l1.length : Int)) 200)), (23, .int .i64 x23_l1), (33, .slice A71 y70.length c72), (34, .slice A7_l1 x7_l1.length c7_l1), (40, .slice (some ⟨b65, 0, none⟩) 1 1)]) (by kernel_rfl) ?_
        have hS : Sat w73 (rf w0) [osl 3 (r0 (.int .i64)) 1 A7_l1 c7_l1 x7_l1, osl 3 (r0 (.int .i64)) 1 A71 c72 y70, pts b67 (.cells #[.int .i64 (wi v17)] 3 (0, 0)), pts b65 (.cells #[.int .i64 (wi v19)] 3 (0, 0)), oar 45 (r0 (.int .i64)) 1 256 b11 q13_l1] := hS.sel [3, 0, 1, 2, 4] (by kernel_rfl)
        obtain ⟨y75, e74, H⟩ := bind_ex H
        refine WD.act (i := 15) (by kernel_rfl) (St.append' (.tmp 34) (.tmp 40) (by kernel_rfl) (by kernel_rfl) E22 (r0_one _) hS (by kernel_rfl) (by kernel_rfl) (Sat.ptsAt 3 (r0 (.int .i64)) 1 ([wi v19] : List Int) hS rfl rfl (rdL.cons1 rfl (rdL.nil _ _))) 17592186044416 (by kernel_rfl) (by kernel_rfl) e74 (fun A76 c77 w78 hS => ?_))
        refine ⟨(asked.anc (by kernel_rfl) (asked.anc (by kernel_rfl) (asked.nil _ _))), ?_⟩
        refine WD.weaken [0, 1, 5, 8, 9, 10, 22, 23, 33, 41] (L' := [(0, .slice A0 l0.length c0), (1, .slice A1 l1.length c1), (5, .int .i64 (imin (imin (l0.length : Int) (l1.length : Int)) 200)), (8, .pointer (some ⟨b11, 0, none⟩)), (9, .int .i64 x9_l1), (10, .int .i64 x23_l1), (22, .int .i64 (imin (imin (l0.length : Int) (l1.length : Int)) 200)), (23, .int .i64 x23_l1), (33, .slice A71 y70.length c72), (41, .slice A76 y75.length c77)]) (by kernel_rfl) ?_
        refine WD.pure (i := 16) (v := .slice A71 y70.length c72) (by kernel_rfl) (by kernel_rfl) (fun _ => by kernel_rfl) ?_
        refine WD.weaken [0, 1, 5, 6, 8, 9, 10, 22, 23, 41] (L' := [(0, .slice A0 l0.length c0), (1, .slice A1 l1.length c1), (5, .int .i64 (imin (imin (l0.length : Int) (l1.length : Int)) 200)), (6, .slice A71 y70.length c72), (8, .pointer (some ⟨b11, 0, none⟩)), (9, .int .i64 x9_l1), (10, .int .i64 x23_l1), (22, .int .i64 (imin (imin (l0.length : Int) (l1.length : Int)) 200)), (23, .int .i64 x23_l1), (41, .slice A76 y75.length c77)]) (by kernel_rfl) ?_
        refine WD.pure (i := 17) (v := .slice A76 y75.length c77) (by kernel_rfl) (by kernel_rfl) (fun _ => by kernel_rfl) ?_
        refine WD.weaken [0, 1, 5, 6, 7, 8, 9, 10, 22, 23] (L' := [(0, .slice A0 l0.length c0), (1, .slice A1 l1.length c1), (5, .int .i64 (imin (imin (l0.length : Int) (l1.length : Int)) 200)), (6, .slice A71 y70.length c72), (7, .slice A76 y75.length c77), (8, .pointer (some ⟨b11, 0, none⟩)), (9, .int .i64 x9_l1), (10, .int .i64 x23_l1), (22, .int .i64 (imin (imin (l0.length : Int) (l1.length : Int)) 200)), (23, .int .i64 x23_l1)]) (by kernel_rfl) ?_
        refine WD.nil (by kernel_rfl) ?_
        refine At.go ?_
        refine WC.seq (by kernel_rfl) ?_
        refine WC.reg [0, 1, 2, 3, 4, 5, 6, 7, 8] (by kernel_rfl) (by kernel_rfl) ?_
        refine WR.runk [0, 1, 2] [3, 4, 5, 6, 7, 8] [0, 1, 5, 6, 7, 8, 9, 10, 22, 23, 42, 43, 44] (L' := [(0, .slice A0 l0.length c0), (1, .slice A1 l1.length c1), (5, .int .i64 (imin (imin (l0.length : Int) (l1.length : Int)) 200)), (6, .slice A71 y70.length c72), (7, .slice A76 y75.length c77), (8, .pointer (some ⟨b11, 0, none⟩)), (9, .int .i64 x9_l1), (10, .int .i64 x23_l1), (22, .int .i64 (imin (imin (l0.length : Int) (l1.length : Int)) 200)), (23, .int .i64 x23_l1), (42, .int .i64 x9_l1), (43, .slice A0 l0.length c0), (44, .int .i64 x23_l1)]) (w' := w78) (by kernel_rfl) ?_
        refine WR.st (St.ofP (PSt.idx (k := .i64) (.tmp 43) (.tmp 44) (by kernel_rfl) (by kernel_rfl) E34 (by kernel_rfl) (by kernel_rfl) (rdS.up R0 hS.sub0) e18 ?_))
        refine WR.runk [] [4, 5, 6, 7, 8] [0, 1, 5, 6, 7, 8, 9, 10, 22, 23, 42, 45] (L' := [(0, .slice A0 l0.length c0), (1, .slice A1 l1.length c1), (5, .int .i64 (imin (imin (l0.length : Int) (l1.length : Int)) 200)), (6, .slice A71 y70.length c72), (7, .slice A76 y75.length c77), (8, .pointer (some ⟨b11, 0, none⟩)), (9, .int .i64 x9_l1), (10, .int .i64 x23_l1), (22, .int .i64 (imin (imin (l0.length : Int) (l1.length : Int)) 200)), (23, .int .i64 x23_l1), (42, .int .i64 x9_l1), (45, .pointer (some (adr A0 x23_l1.toNat 1)))]) (w' := w78) (by kernel_rfl) ?_
        refine WR.st (St.ofR (RSt.loadInt (t := 5) (.tmp 45) (by kernel_rfl) (by kernel_rfl) (by kernel_rfl) (by kernel_rfl) (rdS.up R0 hS.sub0) e18 ?_))
        refine WR.runk [] [5, 6, 7, 8] [0, 1, 5, 6, 7, 8, 9, 10, 22, 23, 42, 46] (L' := [(0, .slice A0 l0.length c0), (1, .slice A1 l1.length c1), (5, .int .i64 (imin (imin (l0.length : Int) (l1.length : Int)) 200)), (6, .slice A71 y70.length c72), (7, .slice A76 y75.length c77), (8, .pointer (some ⟨b11, 0, none⟩)), (9, .int .i64 x9_l1), (10, .int .i64 x23_l1), (22, .int .i64 (imin (imin (l0.length : Int) (l1.length : Int)) 200)), (23, .int .i64 x23_l1), (42, .int .i64 x9_l1), (46, .int .u8 v17)]) (w' := w78) (by kernel_rfl) ?_
        obtain ⟨v79, e80, H⟩ := bind_ex H
        refine WR.st (St.ofP (PSt.idxArr (k := .u8) (t := 45) (e := 3) (sz := 1) (b := b11) (.tmp 8) (.tmp 46) (by kernel_rfl) (by kernel_rfl) (by kernel_rfl) (by kernel_rfl) (by kernel_rfl) (by kernel_rfl) (by kernel_rfl) (Sat.oarAt 4 hS rfl).2 e80 ?_))
        refine WR.runk [] [6, 7, 8] [0, 1, 5, 6, 7, 8, 9, 10, 22, 23, 42, 47] (L' := [(0, .slice A0 l0.length c0), (1, .slice A1 l1.length c1), (5, .int .i64 (imin (imin (l0.length : Int) (l1.length : Int)) 200)), (6, .slice A71 y70.length c72), (7, .slice A76 y75.length c77), (8, .pointer (some ⟨b11, 0, none⟩)), (9, .int .i64 x9_l1), (10, .int .i64 x23_l1), (22, .int .i64 (imin (imin (l0.length : Int) (l1.length : Int)) 200)), (23, .int .i64 x23_l1), (42, .int .i64 x9_l1), (47, .pointer (some (adr (some ⟨b11, 0, none⟩) v17.toNat 1)))]) (w' := w78) (by kernel_rfl) ?_
        refine WR.st (St.ofR (RSt.loadInt (t := 3) (.tmp 47) (by kernel_rfl) (by kernel_rfl) (by kernel_rfl) (by kernel_rfl) (Sat.oarAt 4 hS rfl).1 e80 ?_))
        refine WR.runk [7, 8] [] [0, 1, 5, 6, 7, 8, 9, 10, 22, 23] (L' := [(0, .slice A0 l0.length c0), (1, .slice A1 l1.length c1), (5, .int .i64 (imin (imin (l0.length : Int) (l1.length : Int)) 200)), (6, .slice A71 y70.length c72), (7, .slice A76 y75.length c77), (8, .pointer (some ⟨b11, 0, none⟩)), (9, .int .i64 (wi (x9_l1 + v79))), (10, .int .i64 x23_l1), (22, .int .i64 (imin (imin (l0.length : Int) (l1.length : Int)) 200)), (23, .int .i64 x23_l1)]) (w' := w78) (by kernel_rfl) ?_
        refine WR.nil ?_
        refine At.go ?_
        refine WC.reg [0, 1, 2, 3, 4, 5] (by kernel_rfl) (by kernel_rfl) ?_
        refine WR.runk [0, 1] [2, 3, 4, 5] [0, 1, 5, 6, 7, 8, 9, 22, 23, 50, 51] (L' := [(0, .slice A0 l0.length c0), (1, .slice A1 l1.length c1), (5, .int .i64 (imin (imin (l0.length : Int) (l1.length : Int)) 200)), (6, .slice A71 y70.length c72), (7, .slice A76 y75.length c77), (8, .pointer (some ⟨b11, 0, none⟩)), (9, .int .i64 (wi (x9_l1 + v79))), (22, .int .i64 (imin (imin (l0.length : Int) (l1.length : Int)) 200)), (23, .int .i64 x23_l1), (50, .slice A0 l0.length c0), (51, .int .i64 x23_l1)]) (w' := w78) (by kernel_rfl) ?_
        refine WR.st (St.ofP (PSt.idx (k := .i64) (.tmp 50) (.tmp 51) (by kernel_rfl) (by kernel_rfl) E34 (by kernel_rfl) (by kernel_rfl) (rdS.up R0 hS.sub0) e18 ?_))
        refine WR.runk [] [3, 4, 5] [0, 1, 5, 6, 7, 8, 9, 22, 23, 52] (L' := [(0, .slice A0 l0.length c0), (1, .slice A1 l1.length c1), (5, .int .i64 (imin (imin (l0.length : Int) (l1.length : Int)) 200)), (6, .slice A71 y70.length c72), (7, .slice A76 y75.length c77), (8, .pointer (some ⟨b11, 0, none⟩)), (9, .int .i64 (wi (x9_l1 + v79))), (22, .int .i64 (imin (imin (l0.length : Int) (l1.length : Int)) 200)), (23, .int .i64 x23_l1), (52, .pointer (some (adr A0 x23_l1.toNat 1)))]) (w' := w78) (by kernel_rfl) ?_
        refine WR.st (St.ofR (RSt.loadInt (t := 5) (.tmp 52) (by kernel_rfl) (by kernel_rfl) (by kernel_rfl) (by kernel_rfl) (rdS.up R0 hS.sub0) e18 ?_))
        refine WR.runk [] [4, 5] [0, 1, 5, 6, 7, 8, 9, 22, 23, 53] (L' := [(0, .slice A0 l0.length c0), (1, .slice A1 l1.length c1), (5, .int .i64 (imin (imin (l0.length : Int) (l1.length : Int)) 200)), (6, .slice A71 y70.length c72), (7, .slice A76 y75.length c77), (8, .pointer (some ⟨b11, 0, none⟩)), (9, .int .i64 (wi (x9_l1 + v79))), (22, .int .i64 (imin (imin (l0.length : Int) (l1.length : Int)) 200)), (23, .int .i64 x23_l1), (53, .int .u8 v17)]) (w' := w78) (by kernel_rfl) ?_
        obtain ⟨v81, e82, H⟩ := bind_ex H
        refine WR.st (St.ofP (PSt.idxArr (k := .u8) (t := 45) (e := 3) (sz := 1) (b := b11) (.tmp 8) (.tmp 53) (by kernel_rfl) (by kernel_rfl) (by kernel_rfl) (by kernel_rfl) (by kernel_rfl) (by kernel_rfl) (by kernel_rfl) (Sat.oarAt 4 hS rfl).2 e82 ?_))
        refine WR.runk [] [5] [0, 1, 5, 6, 7, 8, 9, 22, 23, 54] (L' := [(0, .slice A0 l0.length c0), (1, .slice A1 l1.length c1), (5, .int .i64 (imin (imin (l0.length : Int) (l1.length : Int)) 200)), (6, .slice A71 y70.length c72), (7, .slice A76 y75.length c77), (8, .pointer (some ⟨b11, 0, none⟩)), (9, .int .i64 (wi (x9_l1 + v79))), (22, .int .i64 (imin (imin (l0.length : Int) (l1.length : Int)) 200)), (23, .int .i64 x23_l1), (54, .pointer (some (adr (some ⟨b11, 0, none⟩) v17.toNat 1)))]) (w' := w78) (by kernel_rfl) ?_
        have hS : Sat w78 (rf w0) [oar 45 (r0 (.int .i64)) 1 256 b11 q13_l1, osl 3 (r0 (.int .i64)) 1 A76 c77 y75, osl 3 (r0 (.int .i64)) 1 A71 c72 y70, pts b67 (.cells #[.int .i64 (wi v17)] 3 (0, 0)), pts b65 (.cells #[.int .i64 (wi v19)] 3 (0, 0))] := hS.sel [4, 0, 1, 2, 3] (by kernel_rfl)
        obtain ⟨y83, e84, H⟩ := bind_ex H
        obtain ⟨hl86, hS⟩ := oar.op hS
        refine WR.st (St.storeElem' (t := 3) (.tmp 54) (.const (.int .i64 1)) (by kernel_rfl) (by kernel_rfl) (by kernel_rfl) hS (by kernel_rfl) (by kernel_rfl) rfl e84 rfl (fun w85 hS => ?_))
        have hl87 := (set?_len e84).trans hl86
        have hS : Sat w85 (rf w0) [oar 45 (r0 (.int .i64)) 1 256 b11 y83, osl 3 (r0 (.int .i64)) 1 A76 c77 y75, osl 3 (r0 (.int .i64)) 1 A71 c72 y70, pts b67 (.cells #[.int .i64 (wi v17)] 3 (0, 0)), pts b65 (.cells #[.int .i64 (wi v19)] 3 (0, 0))] := oar.cl hl87 hS
        refine WR.runk [] [] [0, 1, 5, 6, 7, 8, 9, 22, 23] (L' := [(0, .slice A0 l0.length c0), (1, .slice A1 l1.length c1), (5, .int .i64 (imin (imin (l0.length : Int) (l1.length : Int)) 200)), (6, .slice A71 y70.length c72), (7, .slice A76 y75.length c77), (8, .pointer (some ⟨b11, 0, none⟩)), (9, .int .i64 (wi (x9_l1 + v79))), (22, .int .i64 (imin (imin (l0.length : Int) (l1.length : Int)) 200)), (23, .int .i64 x23_l1)]) (w' := w85) (by kernel_rfl) ?_
        refine WR.nil ?_
        refine At.blockNormal ?_
        refine At.go ?_
        refine WC.reg [0, 1] (by kernel_rfl) (by kernel_rfl) ?_
        refine WR.runk [0, 1] [] [0, 1, 5, 6, 7, 8, 9, 22, 23] (L' := [(0, .slice A0 l0.length c0), (1, .slice A1 l1.length c1), (5, .int .i64 (imin (imin (l0.length : Int) (l1.length : Int)) 200)), (6, .slice A71 y70.length c72), (7, .slice A76 y75.length c77), (8, .pointer (some ⟨b11, 0, none⟩)), (9, .int .i64 (wi (x9_l1 + v79))), (22, .int .i64 (imin (imin (l0.length : Int) (l1.length : Int)) 200)), (23, .int .i64 (wi (x23_l1 + 1)))]) (w' := w85) (by kernel_rfl) ?_
        refine WR.nil ?_
        have hS : Sat w85 (rf w0) [osl 3 (r0 (.int .i64)) 1 A71 c72 y70, osl 3 (r0 (.int .i64)) 1 A76 c77 y75, oar 45 (r0 (.int .i64)) 1 256 b11 y83] := hS.sel [2, 1, 0] (by kernel_rfl)
        refine At.again ?_
        refine WL.weaken [0, 1, 5, 6, 7, 8, 9, 22, 23] (L' := [(0, .slice A0 l0.length c0), (1, .slice A1 l1.length c1), (5, .int .i64 (imin (imin (l0.length : Int) (l1.length : Int)) 200)), (6, .slice A71 y70.length c72), (7, .slice A76 y75.length c77), (8, .pointer (some ⟨b11, 0, none⟩)), (9, .int .i64 (wi (x9_l1 + v79))), (22, .int .i64 (imin (imin (l0.length : Int) (l1.length : Int)) 200)), (23, .int .i64 (wi (x23_l1 + 1)))]) (by kernel_rfl) ?_
        exact ih y70 y75 (wi (x9_l1 + v79)) (wi (x23_l1 + 1)) y83 A71 c72 A76 c77 _ hS H
    · replace H := ite_f H hb14
      refine WC.exit (by kernel_rfl) ?_
      refine At.thenExit ?_
      refine At.thenExit ?_
      obtain rfl := Option.some.inj H
      have hS : Sat w (rf w0) [osl 3 (r0 (.int .i64)) 1 A6_l1 c6_l1 x6_l1, osl 3 (r0 (.int .i64)) 1 A7_l1 c7_l1 x7_l1, oar 45 (r0 (.int .i64)) 1 256 b11 q13_l1] := hS.sel [0, 1, 2] (by kernel_rfl)
      refine At.weaken [5, 6, 7, 9] (L' := [(5, .int .i64 (imin (imin (l0.length : Int) (l1.length : Int)) 200)), (6, .slice A6_l1 x6_l1.length c6_l1), (7, .slice A7_l1 x7_l1.length c7_l1), (9, .int .i64 x9_l1)]) (by kernel_rfl) ?_
      exact hn0 A6_l1 c6_l1 A7_l1 c7_l1 _ hS
theorem colophonlaw16_TallyLinks.l2_ok {Q} (w0 : World) (l0 : List Int) (l1 : List Int) (o88 : (List Int) × (List Int) × Int × (List Int)) (r93 : (Option (Int × (Option (Int × (List Int) × (List Int) × Int)))) × Int) (y103 : Int × (Option (Int × (List Int) × (List Int) × Int))) (b106 : Nat) (out : Int) (hn0 : ∀ (w : World), Sat w (rf w0) [O58 b106 y103] → At Q (.exit 2) 93 [(5, .int .i64 (imin (imin (l0.length : Int) (l1.length : Int)) 200)), (9, .int .i64 o88.2.2.1), (11, .pointer (some ⟨b106, 0, none⟩)), (12, .int .i64 r93.2), (13, .int .i64 out)] w) :
    ∀ (k : Nat) (x13_l2 : Int) (x63_l2 : Int) (w : World), Sat w (rf w0) [O58 b106 y103] → colophonlaw16_TallyLinks.l2 l0 l1 y103 k x13_l2 x63_l2 = some out → WL Try.prog (cbody (cbody (cr (cl (cr (cr (cr (cr (cr (cr (cr (cr (cr C6))))))))))))) Q 93 [(5, .int .i64 (imin (imin (l0.length : Int) (l1.length : Int)) 200)), (9, .int .i64 o88.2.2.1), (11, .pointer (some ⟨b106, 0, none⟩)), (12, .int .i64 r93.2), (13, .int .i64 x13_l2), (62, .int .i64 (imin (imin (l0.length : Int) (l1.length : Int)) 200)), (63, .int .i64 x63_l2)] w := by
  intro k
  induction k with
  | zero => intro x13_l2 x63_l2 w hS H; exact absurd (show none = some out from H) (by simp)
  | succ k ih =>
    intro x13_l2 x63_l2 w hS H
    unfold colophonlaw16_TallyLinks.l2 at H
    refine WL.round ?_
    refine WC.seq (by kernel_rfl) ?_
    refine WC.reg [0] (by kernel_rfl) (by kernel_rfl) ?_
    refine WR.runk [0] [] [5, 9, 11, 12, 13, 62, 63, 64] (L' := [(5, .int .i64 (imin (imin (l0.length : Int) (l1.length : Int)) 200)), (9, .int .i64 o88.2.2.1), (11, .pointer (some ⟨b106, 0, none⟩)), (12, .int .i64 r93.2), (13, .int .i64 x13_l2), (62, .int .i64 (imin (imin (l0.length : Int) (l1.length : Int)) 200)), (63, .int .i64 x63_l2), (64, .bool (decide (x63_l2 < imin (imin (l0.length : Int) (l1.length : Int)) 200)))]) (w' := w) (by kernel_rfl) ?_
    refine WR.nil ?_
    refine At.go ?_
    refine WC.seq (by kernel_rfl) ?_
    refine WC.cond (by kernel_rfl) (decide (x63_l2 < imin (imin (l0.length : Int) (l1.length : Int)) 200)) (by kernel_rfl) (by kernel_rfl) (fun hb108 => ?_) (fun hb108 => ?_)
    · replace H := ite_t H hb108
      refine WC.skip (by kernel_rfl) ?_
      refine At.go ?_
      refine WC.seq (by kernel_rfl) ?_
      refine WC.block (by kernel_rfl) ?_
      refine WC.seq (by kernel_rfl) ?_
      refine WC.reg [0, 1] (by kernel_rfl) (by kernel_rfl) ?_
      refine WR.runk [0, 1] [] [5, 9, 11, 12, 13, 14, 62, 63] (L' := [(5, .int .i64 (imin (imin (l0.length : Int) (l1.length : Int)) 200)), (9, .int .i64 o88.2.2.1), (11, .pointer (some ⟨b106, 0, none⟩)), (12, .int .i64 r93.2), (13, .int .i64 x13_l2), (14, .int .i64 x63_l2), (62, .int .i64 (imin (imin (l0.length : Int) (l1.length : Int)) 200)), (63, .int .i64 x63_l2)]) (w' := w) (by kernel_rfl) ?_
      refine WR.nil ?_
      refine At.go ?_
      refine WC.reg [0, 1, 2, 3, 4, 5] (by kernel_rfl) (by kernel_rfl) ?_
      refine WR.runk [0, 1, 2] [3, 4, 5] [5, 9, 11, 12, 13, 62, 63, 66, 67, 68] (L' := [(5, .int .i64 (imin (imin (l0.length : Int) (l1.length : Int)) 200)), (9, .int .i64 o88.2.2.1), (11, .pointer (some ⟨b106, 0, none⟩)), (12, .int .i64 r93.2), (13, .int .i64 x13_l2), (62, .int .i64 (imin (imin (l0.length : Int) (l1.length : Int)) 200)), (63, .int .i64 x63_l2), (66, .int .i64 x13_l2), (67, .pointer (some ⟨b106, 0, none⟩)), (68, .int .i64 x63_l2)]) (w' := w) (by kernel_rfl) ?_
      obtain ⟨r109, e110, H⟩ := bind_ex H
      refine WR.st (St.call (by kernel_rfl) (f := 10) (args := #[.pointer (some ⟨b106, 0, none⟩), .int .i64 x63_l2]) (by kernel_rfl) (tally_Tally_Doubles.calls w (.pointer (some ⟨b106, 0, none⟩)) (some y103) (Sat.rdAny 0 hS rfl (fun _ h => O58.rd _ _ _ h)) x63_l2 r109 e110) ?_)
      rintro _ w116 ⟨rfl, hS117⟩
      have hS : Sat w116 (rf w0) [O58 b106 y103] := hS.ext hS117
      refine WR.runk [4, 5] [] [5, 9, 11, 12, 13, 62, 63] (L' := [(5, .int .i64 (imin (imin (l0.length : Int) (l1.length : Int)) 200)), (9, .int .i64 o88.2.2.1), (11, .pointer (some ⟨b106, 0, none⟩)), (12, .int .i64 r93.2), (13, .int .i64 (wi (x13_l2 + r109))), (62, .int .i64 (imin (imin (l0.length : Int) (l1.length : Int)) 200)), (63, .int .i64 x63_l2)]) (w' := w116) (by kernel_rfl) ?_
      refine WR.nil ?_
      refine At.blockNormal ?_
      refine At.go ?_
      refine WC.reg [0, 1] (by kernel_rfl) (by kernel_rfl) ?_
      refine WR.runk [0, 1] [] [5, 9, 11, 12, 13, 62, 63] (L' := [(5, .int .i64 (imin (imin (l0.length : Int) (l1.length : Int)) 200)), (9, .int .i64 o88.2.2.1), (11, .pointer (some ⟨b106, 0, none⟩)), (12, .int .i64 r93.2), (13, .int .i64 (wi (x13_l2 + r109))), (62, .int .i64 (imin (imin (l0.length : Int) (l1.length : Int)) 200)), (63, .int .i64 (wi (x63_l2 + 1)))]) (w' := w116) (by kernel_rfl) ?_
      refine WR.nil ?_
      have hS : Sat w116 (rf w0) [O58 b106 y103] := hS.sel [0] (by kernel_rfl)
      refine At.again ?_
      refine WL.weaken [5, 9, 11, 12, 13, 62, 63] (L' := [(5, .int .i64 (imin (imin (l0.length : Int) (l1.length : Int)) 200)), (9, .int .i64 o88.2.2.1), (11, .pointer (some ⟨b106, 0, none⟩)), (12, .int .i64 r93.2), (13, .int .i64 (wi (x13_l2 + r109))), (62, .int .i64 (imin (imin (l0.length : Int) (l1.length : Int)) 200)), (63, .int .i64 (wi (x63_l2 + 1)))]) (by kernel_rfl) ?_
      exact ih (wi (x13_l2 + r109)) (wi (x63_l2 + 1)) _ hS H
    · replace H := ite_f H hb108
      refine WC.exit (by kernel_rfl) ?_
      refine At.thenExit ?_
      refine At.thenExit ?_
      obtain rfl := Option.some.inj H
      have hS : Sat w (rf w0) [O58 b106 y103] := hS.sel [0] (by kernel_rfl)
      refine At.weaken [5, 9, 11, 12, 13] (L' := [(5, .int .i64 (imin (imin (l0.length : Int) (l1.length : Int)) 200)), (9, .int .i64 o88.2.2.1), (11, .pointer (some ⟨b106, 0, none⟩)), (12, .int .i64 r93.2), (13, .int .i64 x13_l2)]) (by kernel_rfl) ?_
      exact hn0 _ hS
theorem colophonlaw16_TallyLinks.calls (w0 : World) (A0 : Option Addr) (c0 : Nat) (l0 : List Int) (R0 : rdS (r0 (.int .u8)) 1 (hp w0) A0 c0 l0) (A1 : Option Addr) (c1 : Nat) (l1 : List Int) (R1 : rdS (r0 (.int .u8)) 1 (hp w0) A1 c1 l1) (r : Bool) (H : colophonlaw16_TallyLinks.f l0 l1 = some r) :
    Calls Try.prog 6 #[.slice A0 l0.length c0, .slice A1 l1.length c1] w0 (fun e w' => ∃ v, e = .returned v ∧ colophonlaw16_TallyLinks.post w0 r v w') := by
  have hS : Sat w0 (rf w0) [] := Sat.start w0
  unfold colophonlaw16_TallyLinks.f at H
  refine calls_of_WC (vs := [.slice A0 l0.length c0, .slice A1 l1.length c1]) Try.func6 (c := C6) (n := 93) (by kernel_rfl) (by kernel_rfl) (by kernel_rfl) ?_
  refine WC.seq (by kernel_rfl) ?_
  refine WC.reg [0] (by kernel_rfl) (by kernel_rfl) ?_
  refine WR.runk [0] [] [0, 1] (L' := [(0, .slice A0 l0.length c0), (1, .slice A1 l1.length c1)]) (w' := w0) (by kernel_rfl) ?_
  refine WR.nil ?_
  refine At.go ?_
  refine WC.seq (by kernel_rfl) ?_
  refine WC.seq (by kernel_rfl) ?_
  refine WC.reg [0, 1] (by kernel_rfl) (by kernel_rfl) ?_
  obtain ⟨r1, e2, H⟩ := bind_ex H
  refine WR.st (St.call (by kernel_rfl) (f := 7) (args := #[]) (by kernel_rfl) (colophonlaw16_first.calls w0  r1 e2) ?_)
  rintro _ w8 ⟨rfl, hS9⟩
  have hS : Sat w8 (rf w0) [] := hS.ext hS9
  refine WR.runk [1] [] [0, 1, 16] (L' := [(0, .slice A0 l0.length c0), (1, .slice A1 l1.length c1), (16, .bool (!r1))]) (w' := w8) (by kernel_rfl) ?_
  refine WR.nil ?_
  refine At.go ?_
  refine WC.cond (by kernel_rfl) (!r1) (by kernel_rfl) (by kernel_rfl) (fun hb10 => ?_) (fun hb10 => ?_)
  · replace H := ite_t H hb10
    refine WC.seq (by kernel_rfl) ?_
    refine WC.reg [0] (by kernel_rfl) (by kernel_rfl) ?_
    refine WR.runk [0] [] [4] (L' := [(4, .bool false)]) (w' := w8) (by kernel_rfl) ?_
    refine WR.nil ?_
    refine At.go ?_
    refine WC.ret (by kernel_rfl) ?_
    refine At.thenRet ?_
    obtain rfl := Option.some.inj H
    have hS : Sat w8 (rf w0) [] := hS.sel [] (by kernel_rfl)
    exact At.body [.bool false] (by kernel_rfl) ⟨_, rfl, rfl, hS⟩
  · replace H := ite_f H hb10
    refine WC.skip (by kernel_rfl) ?_
    refine At.go ?_
    refine WC.seq (by kernel_rfl) ?_
    refine WC.reg [0, 1, 2, 3, 4, 5] (by kernel_rfl) (by kernel_rfl) ?_
    refine WR.runk [0, 1, 2, 3, 4, 5] [] [0, 1, 5] (L' := [(0, .slice A0 l0.length c0), (1, .slice A1 l1.length c1), (5, .int .i64 (imin (imin (l0.length : Int) (l1.length : Int)) 200))]) (w' := w8) (by kernel_rfl) ?_
    refine WR.nil ?_
    refine At.go ?_
    refine WC.seq (by kernel_rfl) ?_
    refine WC.reg [0, 1] (by kernel_rfl) (by kernel_rfl) ?_
    refine WR.runk [0, 1] [] [0, 1, 5, 6, 7] (L' := [(0, .slice A0 l0.length c0), (1, .slice A1 l1.length c1), (5, .int .i64 (imin (imin (l0.length : Int) (l1.length : Int)) 200)), (6, .slice none 0 0), (7, .slice none 0 0)]) (w' := w8) (by kernel_rfl) ?_
    refine WR.nil ?_
    refine At.go ?_
    refine WC.seq (by kernel_rfl) ?_
    refine WC.reg [0] (by kernel_rfl) (by kernel_rfl) ?_
    refine WR.st (St.box hS (by kernel_rfl) (.cells ⟨List.replicate 256 (.int .i64 0)⟩ 45) (fun b11 => .pointer (some ⟨b11, 0, none⟩)) (fun _ => by kernel_rfl) (fun b11 w12 hS => ?_))
    have hS : Sat w12 (rf w0) [oar 45 (r0 (.int .i64)) 1 256 b11 (List.replicate 256 (0 : Int))] := oar.ofPts (κ := (.int .i64)) 256 0 [.int .i64 0] (by kernel_rfl) (by kernel_rfl) rfl (by kernel_rfl) hS
    refine WR.runk [] [] [0, 1, 5, 6, 7, 8] (L' := [(0, .slice A0 l0.length c0), (1, .slice A1 l1.length c1), (5, .int .i64 (imin (imin (l0.length : Int) (l1.length : Int)) 200)), (6, .slice none 0 0), (7, .slice none 0 0), (8, .pointer (some ⟨b11, 0, none⟩))]) (w' := w12) (by kernel_rfl) ?_
    refine WR.nil ?_
    refine At.go ?_
    refine WC.seq (by kernel_rfl) ?_
    refine WC.reg [0] (by kernel_rfl) (by kernel_rfl) ?_
    refine WR.runk [0] [] [0, 1, 5, 6, 7, 8, 9] (L' := [(0, .slice A0 l0.length c0), (1, .slice A1 l1.length c1), (5, .int .i64 (imin (imin (l0.length : Int) (l1.length : Int)) 200)), (6, .slice none 0 0), (7, .slice none 0 0), (8, .pointer (some ⟨b11, 0, none⟩)), (9, .int .i64 0)]) (w' := w12) (by kernel_rfl) ?_
    refine WR.nil ?_
    refine At.go ?_
    refine WC.seq (by kernel_rfl) ?_
    refine WC.seq (by kernel_rfl) ?_
    refine WC.reg [0, 1] (by kernel_rfl) (by kernel_rfl) ?_
    refine WR.runk [0, 1] [] [0, 1, 5, 6, 7, 8, 9, 22, 23] (L' := [(0, .slice A0 l0.length c0), (1, .slice A1 l1.length c1), (5, .int .i64 (imin (imin (l0.length : Int) (l1.length : Int)) 200)), (6, .slice none 0 0), (7, .slice none 0 0), (8, .pointer (some ⟨b11, 0, none⟩)), (9, .int .i64 0), (22, .int .i64 (imin (imin (l0.length : Int) (l1.length : Int)) 200)), (23, .int .i64 0)]) (w' := w12) (by kernel_rfl) ?_
    refine WR.nil ?_
    refine At.go ?_
    refine WC.block (by kernel_rfl) ?_
    have hS := hS.addNil (α := Int) 3 (r0 (.int .i64)) 1
    have hS := hS.addNil (α := Int) 3 (r0 (.int .i64)) 1
    have hS : Sat w12 (rf w0) [osl 3 (r0 (.int .i64)) 1 none 0 ([] : List Int), osl 3 (r0 (.int .i64)) 1 none 0 ([] : List Int), oar 45 (r0 (.int .i64)) 1 256 b11 (List.replicate 256 (0 : Int))] := hS.sel [1, 0, 2] (by kernel_rfl)
    obtain ⟨o88, e89, H⟩ := bind_ex H
    refine WC.loop (by kernel_rfl) ?_
    refine WL.weaken [0, 1, 5, 6, 7, 8, 9, 22, 23] (L' := [(0, .slice A0 l0.length c0), (1, .slice A1 l1.length c1), (5, .int .i64 (imin (imin (l0.length : Int) (l1.length : Int)) 200)), (6, .slice none 0 0), (7, .slice none 0 0), (8, .pointer (some ⟨b11, 0, none⟩)), (9, .int .i64 0), (22, .int .i64 (imin (imin (l0.length : Int) (l1.length : Int)) 200)), (23, .int .i64 0)]) (by kernel_rfl) ?_
    refine colophonlaw16_TallyLinks.l1_ok w0 A0 c0 l0 A1 c1 l1 b11 R0 R1 o88 (fun A6_q90 c6_q90 A7_q90 c7_q90 w91 hS => ?_) FU ([] : List Int) ([] : List Int) 0 0 (List.replicate 256 (0 : Int)) none 0 none 0 _ hS e89
    refine At.hit ?_
    refine At.go ?_
    refine WC.seq (by kernel_rfl) ?_
    refine WC.reg [0, 1, 2, 3, 4, 5, 6, 7] (by kernel_rfl) (by kernel_rfl) ?_
    refine WR.runk [0, 1] [2, 3, 4, 5, 6, 7] [5, 9, 57, 58] (L' := [(5, .int .i64 (imin (imin (l0.length : Int) (l1.length : Int)) 200)), (9, .int .i64 o88.2.2.1), (57, .slice A6_q90 o88.1.length c6_q90), (58, .slice A7_q90 o88.2.1.length c7_q90)]) (w' := w91) (by kernel_rfl) ?_
    obtain ⟨r93, e94, H⟩ := bind_ex H
    refine WR.st (St.call (by kernel_rfl) (f := 8) (args := #[.slice A6_q90 o88.1.length c6_q90, .slice A7_q90 o88.2.1.length c7_q90]) (by kernel_rfl) (tally_New.calls w91 A6_q90 c6_q90 o88.1 (Sat.rdAt 0 hS rfl) A7_q90 c7_q90 o88.2.1 (Sat.rdAt 1 hS rfl) r93 e94) ?_)
    rintro _ w100 ⟨pv102, rfl, hS101⟩
    have hS : Sat w100 (rf w0) [optP O58 pv102 r93.1, osl 3 (r0 (.int .i64)) 1 A6_q90 c6_q90 o88.1, osl 3 (r0 (.int .i64)) 1 A7_q90 c7_q90 o88.2.1, oar 45 (r0 (.int .i64)) 1 256 b11 o88.2.2.2] := hS.ext hS101
    refine WR.runk [3, 4, 5, 6, 7] [] [5, 9, 11, 12] (L' := [(5, .int .i64 (imin (imin (l0.length : Int) (l1.length : Int)) 200)), (9, .int .i64 o88.2.2.1), (11, pv102), (12, .int .i64 r93.2)]) (w' := w100) (by kernel_rfl) ?_
    refine WR.nil ?_
    refine At.go ?_
    refine WC.seq (by kernel_rfl) ?_
    refine WC.reg [0] (by kernel_rfl) (by kernel_rfl) ?_
    refine WR.runk [0] [] [5, 9, 11, 12, 13] (L' := [(5, .int .i64 (imin (imin (l0.length : Int) (l1.length : Int)) 200)), (9, .int .i64 o88.2.2.1), (11, pv102), (12, .int .i64 r93.2), (13, .int .i64 0)]) (w' := w100) (by kernel_rfl) ?_
    refine WR.nil ?_
    refine At.go ?_
    refine WC.seq (by kernel_rfl) ?_
    refine WC.seq (by kernel_rfl) ?_
    refine WC.reg [0, 1] (by kernel_rfl) (by kernel_rfl) ?_
    refine WR.runk [0, 1] [] [5, 9, 11, 12, 13, 62, 63] (L' := [(5, .int .i64 (imin (imin (l0.length : Int) (l1.length : Int)) 200)), (9, .int .i64 o88.2.2.1), (11, pv102), (12, .int .i64 r93.2), (13, .int .i64 0), (62, .int .i64 (imin (imin (l0.length : Int) (l1.length : Int)) 200)), (63, .int .i64 0)]) (w' := w100) (by kernel_rfl) ?_
    refine WR.nil ?_
    refine At.go ?_
    refine WC.block (by kernel_rfl) ?_
    obtain ⟨y103, hr104, H⟩ := bind_ex H
    obtain ⟨b106, hv105, hN144⟩ := optP.some hS hr104
    subst hv105
    have hS : Sat w100 (rf w0) [O58 b106 y103, osl 3 (r0 (.int .i64)) 1 A6_q90 c6_q90 o88.1, osl 3 (r0 (.int .i64)) 1 A7_q90 c7_q90 o88.2.1, oar 45 (r0 (.int .i64)) 1 256 b11 o88.2.2.2] := hN144
    have hS : Sat w100 (rf w0) [O58 b106 y103] := hS.sel [0] (by kernel_rfl)
    obtain ⟨o118, e119, H⟩ := bind_ex H
    refine WC.loop (by kernel_rfl) ?_
    refine WL.weaken [5, 9, 11, 12, 13, 62, 63] (L' := [(5, .int .i64 (imin (imin (l0.length : Int) (l1.length : Int)) 200)), (9, .int .i64 o88.2.2.1), (11, .pointer (some ⟨b106, 0, none⟩)), (12, .int .i64 r93.2), (13, .int .i64 0), (62, .int .i64 (imin (imin (l0.length : Int) (l1.length : Int)) 200)), (63, .int .i64 0)]) (by kernel_rfl) ?_
    refine colophonlaw16_TallyLinks.l2_ok w0 l0 l1 o88 r93 y103 b106 o118 (fun w121 hS => ?_) FU 0 0 _ hS e119
    refine At.hit ?_
    refine At.go ?_
    refine WC.seq (by kernel_rfl) ?_
    refine WC.reg [0, 1, 2, 3, 4, 5, 6, 7, 8, 9, 10, 11, 12, 13, 14, 15, 16, 17, 18, 19, 20, 21] (by kernel_rfl) (by kernel_rfl) ?_
    refine WR.runk [0, 1, 2] [3, 4, 5, 6, 7, 8, 9, 10, 11, 12, 13, 14, 15, 16, 17, 18, 19, 20, 21] [5, 9, 11, 13, 74] (L' := [(5, .int .i64 (imin (imin (l0.length : Int) (l1.length : Int)) 200)), (9, .int .i64 o88.2.2.1), (11, .pointer (some ⟨b106, 0, none⟩)), (13, .int .i64 o118), (74, .bool (r93.2 == 0))]) (w' := w121) (by kernel_rfl) ?_
    refine WR.split 74 (b := (r93.2 == 0)) (by kernel_rfl) (fun hb123 => ?_) (fun hb123 => ?_)
    · replace H := ite_t H hb123
      refine WR.runk [3, 4, 5, 6, 7] [8, 9, 10, 11, 12, 13, 14, 15, 16, 17, 18, 19, 20, 21] [5, 9, 11, 79] (L' := [(5, .int .i64 (imin (imin (l0.length : Int) (l1.length : Int)) 200)), (9, .int .i64 o88.2.2.1), (11, .pointer (some ⟨b106, 0, none⟩)), (79, .bool (o118 == o88.2.2.1))]) (w' := w121) (by kernel_rfl) ?_
      refine WR.split 79 (b := (o118 == o88.2.2.1)) (by kernel_rfl) (fun hb124 => ?_) (fun hb124 => ?_)
      · replace H := ite_t H hb124
        refine WR.runk [8] [9, 10, 11, 12, 13, 14, 15, 16, 17, 18, 19, 20, 21] [5, 9, 11, 79, 80] (L' := [(5, .int .i64 (imin (imin (l0.length : Int) (l1.length : Int)) 200)), (9, .int .i64 o88.2.2.1), (11, .pointer (some ⟨b106, 0, none⟩)), (79, .bool true), (80, .pointer (some ⟨b106, 0, none⟩))]) (w' := w121) (by kernel_rfl) ?_
        obtain ⟨r125, e126, H⟩ := bind_ex H
        refine WR.st (St.call (by kernel_rfl) (f := 10) (args := #[.pointer (some ⟨b106, 0, none⟩), .int .i64 0]) (by kernel_rfl) (tally_Tally_Doubles.calls w121 (.pointer (some ⟨b106, 0, none⟩)) (some y103) (Sat.rdAny 0 hS rfl (fun _ h => O58.rd _ _ _ h)) 0 r125 e126) ?_)
        rintro _ w132 ⟨rfl, hS133⟩
        have hS : Sat w132 (rf w0) [O58 b106 y103] := hS.ext hS133
        refine WR.runk [10, 11, 12] [13, 14, 15, 16, 17, 18, 19, 20, 21] [5, 9, 11, 84] (L' := [(5, .int .i64 (imin (imin (l0.length : Int) (l1.length : Int)) 200)), (9, .int .i64 o88.2.2.1), (11, .pointer (some ⟨b106, 0, none⟩)), (84, .bool (r125 == 0))]) (w' := w132) (by kernel_rfl) ?_
        refine WR.split 84 (b := (r125 == 0)) (by kernel_rfl) (fun hb134 => ?_) (fun hb134 => ?_)
        · replace H := ite_t H hb134
          refine WR.runk [13, 14] [15, 16, 17, 18, 19, 20, 21] [5, 9, 84, 85, 86] (L' := [(5, .int .i64 (imin (imin (l0.length : Int) (l1.length : Int)) 200)), (9, .int .i64 o88.2.2.1), (84, .bool true), (85, .pointer (some ⟨b106, 0, none⟩)), (86, .int .i64 (imin (imin (l0.length : Int) (l1.length : Int)) 200))]) (w' := w132) (by kernel_rfl) ?_
          obtain ⟨r135, e136, H⟩ := bind_ex H
          refine WR.st (St.call (by kernel_rfl) (f := 11) (args := #[.pointer (some ⟨b106, 0, none⟩), .int .i64 0, .int .i64 (imin (imin (l0.length : Int) (l1.length : Int)) 200)]) (by kernel_rfl) (tally_Tally_Docs.calls w132 (.pointer (some ⟨b106, 0, none⟩)) (some y103) (Sat.rdAny 0 hS rfl (fun _ h => O58.rd _ _ _ h)) 0 (imin (imin (l0.length : Int) (l1.length : Int)) 200) r135 e136) ?_)
          rintro _ w142 ⟨rfl, hS143⟩
          have hS : Sat w142 (rf w0) [O58 b106 y103] := hS.ext hS143
          refine WR.runk [16, 17, 18, 19, 20, 21] [] [4] (L' := [(4, .bool (r135 == (wi ((imin (imin (l0.length : Int) (l1.length : Int)) 200) - o88.2.2.1))))]) (w' := w142) (by kernel_rfl) ?_
          refine WR.nil ?_
          refine At.go ?_
          refine WC.ret (by kernel_rfl) ?_
          obtain rfl := Option.some.inj H
          have hS : Sat w142 (rf w0) [] := hS.sel [] (by kernel_rfl)
          exact At.body [.bool (r135 == (wi ((imin (imin (l0.length : Int) (l1.length : Int)) 200) - o88.2.2.1)))] (by kernel_rfl) ⟨_, rfl, rfl, hS⟩
        · replace H := ite_f H hb134
          refine WR.runk [13, 14, 15, 16, 17, 18, 19, 20, 21] [] [4] (L' := [(4, .bool false)]) (w' := w132) (by kernel_rfl) ?_
          refine WR.nil ?_
          refine At.go ?_
          refine WC.ret (by kernel_rfl) ?_
          obtain rfl := Option.some.inj H
          have hS : Sat w132 (rf w0) [] := hS.sel [] (by kernel_rfl)
          exact At.body [.bool false] (by kernel_rfl) ⟨_, rfl, rfl, hS⟩
      · replace H := ite_f H hb124
        refine WR.runk [8, 9, 10, 11, 12, 13, 14, 15, 16, 17, 18, 19, 20, 21] [] [4] (L' := [(4, .bool false)]) (w' := w121) (by kernel_rfl) ?_
        refine WR.nil ?_
        refine At.go ?_
        refine WC.ret (by kernel_rfl) ?_
        obtain rfl := Option.some.inj H
        have hS : Sat w121 (rf w0) [] := hS.sel [] (by kernel_rfl)
        exact At.body [.bool false] (by kernel_rfl) ⟨_, rfl, rfl, hS⟩
    · replace H := ite_f H hb123
      refine WR.runk [3, 4, 5, 6, 7, 8, 9, 10, 11, 12, 13, 14, 15, 16, 17, 18, 19, 20, 21] [] [4] (L' := [(4, .bool false)]) (w' := w121) (by kernel_rfl) ?_
      refine WR.nil ?_
      refine At.go ?_
      refine WC.ret (by kernel_rfl) ?_
      obtain rfl := Option.some.inj H
      have hS : Sat w121 (rf w0) [] := hS.sel [] (by kernel_rfl)
      exact At.body [.bool false] (by kernel_rfl) ⟨_, rfl, rfl, hS⟩
end Go.Proofs.Ytmdemfbkdbilpaa
