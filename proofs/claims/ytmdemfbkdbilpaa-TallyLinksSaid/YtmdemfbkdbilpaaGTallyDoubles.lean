/-
  Printed by gen.py (my own tool): for each Go function a plain Lean function and the proof that a call of it does what that function says.
-/
import Derived.Test.YtmdemfbkdbilpaaGP1c
set_option linter.unusedVariables false
set_option linter.unusedSimpArgs false
set_option maxRecDepth 100000
namespace Go.Proofs.Ytmdemfbkdbilpaa
open Go Go.Gol
/-! ### 3 colophon/colophonlaw16.TallyDoubles -/
def colophonlaw16_TallyDoubles.l1 (l0 : List Int) (l1 : List Int) (r34 : (List Int)) (y45 : Int × (Option (Int × (List Int) × (List Int) × Int))) : Nat → Int → Option (Sum Bool Unit)
  | 0, _ => none
  | k + 1, x10_l1 => (if decide (x10_l1 ≤ (l0.length : Int)) then (if decide (x10_l1 ≥ 0) then (if decide (x10_l1 < (l0.length : Int)) then ((at? r34 x10_l1).bind fun v53 => ((tally_Tally_Doubles.f (some y45) x10_l1).bind fun r55 => (if (r55 != v53) then some (.inl false) else colophonlaw16_TallyDoubles.l1 l0 l1 r34 y45 k (wi (x10_l1 + 1))))) else ((tally_Tally_Doubles.f (some y45) x10_l1).bind fun r65 => (if (r65 != 0) then some (.inl false) else colophonlaw16_TallyDoubles.l1 l0 l1 r34 y45 k (wi (x10_l1 + 1))))) else ((tally_Tally_Doubles.f (some y45) x10_l1).bind fun r75 => (if (r75 != 0) then some (.inl false) else colophonlaw16_TallyDoubles.l1 l0 l1 r34 y45 k (wi (x10_l1 + 1))))) else some (.inr ()))
def colophonlaw16_TallyDoubles.l2 (a2_1 : Int) (r34 : (List Int)) : Nat → Int → Int → Option Int
  | 0, _, _ => none
  | k + 1, x14_l2, x15_l2 => (if decide (x15_l2 < a2_1) then ((at? r34 x15_l2).bind fun v128 => colophonlaw16_TallyDoubles.l2 a2_1 r34 k (wi (x14_l2 - v128)) (wi (x15_l2 + 1))) else some x14_l2)
def colophonlaw16_TallyDoubles.f (l0 : List Int) (l1 : List Int) (a2_0 : Int) (a2_1 : Int) : Option Bool := (colophonlaw16_first.f.bind fun r4 => (if (!r4) then some false else (if decide (imax (l0.length : Int) (l1.length : Int) > 400) then some true else ((tally_New.f l0 l1).bind fun r15 => (if ((l0.length : Int) != (l1.length : Int)) then (if (r15.2 == 2) then (match r15.1 with | none => some true | some y27 => some false) else some false) else (if (r15.2 != 0) then some false else ((colophonref16_Doubles.f l0 l1).bind fun r34 => (r15.1.bind fun y45 => ((colophonlaw16_TallyDoubles.l1 l0 l1 r34 y45 FU (-1)).bind fun o85 => (match o85 with | .inl o87 => some o87 | .inr o91 => (if decide (a2_0 < 0) then ((tally_Tally_Docs.f (some y45) a2_0 a2_1).bind fun r98 => some (r98 == 0)) else (if decide (a2_0 ≥ a2_1) then ((tally_Tally_Docs.f (some y45) a2_0 a2_1).bind fun r108 => some (r108 == 0)) else (if decide (a2_1 > (l0.length : Int)) then ((tally_Tally_Docs.f (some y45) a2_0 a2_1).bind fun r118 => some (r118 == 0)) else ((colophonlaw16_TallyDoubles.l2 a2_1 r34 FU (wi (a2_1 - a2_0)) (wi (a2_0 + 1))).bind fun o130 => ((tally_Tally_Docs.f (some y45) a2_0 a2_1).bind fun r135 => some (r135 == o130))))))))))))))))
def colophonlaw16_TallyDoubles.post (w : World) (r : Bool) (v : Value) (w' : World) : Prop := v = (.bool r : Value) ∧ Sat w' (rf w) []
theorem colophonlaw16_TallyDoubles.l1_ok {Q} (w0 : World) (A0 : Option Addr) (c0 : Nat) (l0 : List Int) (l1 : List Int) (a2_0 : Int) (a2_1 : Int) (b1 : Nat) (r34 : (List Int)) (A43 : Option Addr) (c44 : Nat) (y45 : Int × (Option (Int × (List Int) × (List Int) × Int))) (b48 : Nat) (out : Sum Bool Unit) (hn0 : ∀ (o0 : Bool) (w : World), out = (.inl o0) → Sat w (rf w0) [O58 b48 y45, pts b1 (.cells #[.int .i64 a2_0, .int .i64 a2_1] 23 (0, 0))] → At Q .ret 113 [(6, .bool o0)] w) (hn1 : ∀ (o1 : Unit) (w : World), out = (.inr o1) → Sat w (rf w0) [osl 3 (r0 (.int .i64)) 1 A43 c44 r34, O58 b48 y45, pts b1 (.cells #[.int .i64 a2_0, .int .i64 a2_1] 23 (0, 0))] → At Q (.exit 0) 113 [(0, .slice A0 l0.length c0), (5, .pointer (some ⟨b1, 0, none⟩)), (7, .pointer (some ⟨b48, 0, none⟩)), (9, .slice A43 r34.length c44)] w) :
    ∀ (k : Nat) (x10_l1 : Int) (w : World), Sat w (rf w0) [osl 3 (r0 (.int .i64)) 1 A43 c44 r34, O58 b48 y45, pts b1 (.cells #[.int .i64 a2_0, .int .i64 a2_1] 23 (0, 0))] → colophonlaw16_TallyDoubles.l1 l0 l1 r34 y45 k x10_l1 = some out → WL Try.prog (cbody (cbody (cr (cl (cr (cr (cr (cr (cr (cr (cr C3))))))))))) Q 113 [(0, .slice A0 l0.length c0), (5, .pointer (some ⟨b1, 0, none⟩)), (7, .pointer (some ⟨b48, 0, none⟩)), (9, .slice A43 r34.length c44), (10, .int .i64 x10_l1)] w := by
  intro k
  induction k with
  | zero => intro x10_l1 w hS H; exact absurd (show none = some out from H) (by simp)
  | succ k ih =>
    intro x10_l1 w hS H
    unfold colophonlaw16_TallyDoubles.l1 at H
    refine WL.round ?_
    refine WC.seq (by kernel_rfl) ?_
    refine WC.seq (by kernel_rfl) ?_
    refine WC.reg [0, 1, 2, 3] (by kernel_rfl) (by kernel_rfl) ?_
    refine WR.runk [0, 1, 2, 3] [] [0, 5, 7, 9, 10, 49] (L' := [(0, .slice A0 l0.length c0), (5, .pointer (some ⟨b1, 0, none⟩)), (7, .pointer (some ⟨b48, 0, none⟩)), (9, .slice A43 r34.length c44), (10, .int .i64 x10_l1), (49, .bool (decide (x10_l1 ≤ (l0.length : Int))))]) (w' := w) (by kernel_rfl) ?_
    refine WR.nil ?_
    refine At.go ?_
    refine WC.cond (by kernel_rfl) (decide (x10_l1 ≤ (l0.length : Int))) (by kernel_rfl) (by kernel_rfl) (fun hb50 => ?_) (fun hb50 => ?_)
    · replace H := ite_t H hb50
      refine WC.skip (by kernel_rfl) ?_
      refine At.go ?_
      refine WC.seq (by kernel_rfl) ?_
      refine WC.block (by kernel_rfl) ?_
      refine WC.seq (by kernel_rfl) ?_
      refine WC.reg [0] (by kernel_rfl) (by kernel_rfl) ?_
      refine WR.runk [0] [] [0, 5, 7, 9, 10, 11] (L' := [(0, .slice A0 l0.length c0), (5, .pointer (some ⟨b1, 0, none⟩)), (7, .pointer (some ⟨b48, 0, none⟩)), (9, .slice A43 r34.length c44), (10, .int .i64 x10_l1), (11, .int .i64 0)]) (w' := w) (by kernel_rfl) ?_
      refine WR.nil ?_
      refine At.go ?_
      refine WC.seq (by kernel_rfl) ?_
      refine WC.seq (by kernel_rfl) ?_
      refine WC.reg [0, 1, 2, 3, 4, 5, 6, 7] (by kernel_rfl) (by kernel_rfl) ?_
      refine WR.runk [0, 1, 2] [3, 4, 5, 6, 7] [0, 5, 7, 9, 10, 11, 54] (L' := [(0, .slice A0 l0.length c0), (5, .pointer (some ⟨b1, 0, none⟩)), (7, .pointer (some ⟨b48, 0, none⟩)), (9, .slice A43 r34.length c44), (10, .int .i64 x10_l1), (11, .int .i64 0), (54, .bool (decide (x10_l1 ≥ 0)))]) (w' := w) (by kernel_rfl) ?_
      refine WR.split 54 (b := decide (x10_l1 ≥ 0)) (by kernel_rfl) (fun hb51 => ?_) (fun hb51 => ?_)
      · replace H := ite_t H hb51
        refine WR.runk [3, 4, 5, 6, 7] [] [0, 5, 7, 9, 10, 11, 55, 56, 57, 58, 59] (L' := [(0, .slice A0 l0.length c0), (5, .pointer (some ⟨b1, 0, none⟩)), (7, .pointer (some ⟨b48, 0, none⟩)), (9, .slice A43 r34.length c44), (10, .int .i64 x10_l1), (11, .int .i64 0), (55, .int .i64 x10_l1), (56, .slice A0 l0.length c0), (57, .int .i64 (l0.length : Int)), (58, .bool (decide (x10_l1 < (l0.length : Int)))), (59, .bool (decide (x10_l1 < (l0.length : Int))))]) (w' := w) (by kernel_rfl) ?_
        refine WR.nil ?_
        refine At.go ?_
        refine WC.cond (by kernel_rfl) (decide (x10_l1 < (l0.length : Int))) (by kernel_rfl) (by kernel_rfl) (fun hb52 => ?_) (fun hb52 => ?_)
        · replace H := ite_t H hb52
          refine WC.reg [0, 1, 2, 3, 4] (by kernel_rfl) (by kernel_rfl) ?_
          refine WR.runk [0, 1] [2, 3, 4] [0, 5, 7, 9, 10, 11, 55, 56, 57, 60, 61] (L' := [(0, .slice A0 l0.length c0), (5, .pointer (some ⟨b1, 0, none⟩)), (7, .pointer (some ⟨b48, 0, none⟩)), (9, .slice A43 r34.length c44), (10, .int .i64 x10_l1), (11, .int .i64 0), (55, .int .i64 x10_l1), (56, .slice A0 l0.length c0), (57, .int .i64 (l0.length : Int)), (60, .slice A43 r34.length c44), (61, .int .i64 x10_l1)]) (w' := w) (by kernel_rfl) ?_
          obtain ⟨v53, e54, H⟩ := bind_ex H
          refine WR.st (St.ofP (PSt.idx (k := .i64) (.tmp 60) (.tmp 61) (by kernel_rfl) (by kernel_rfl) E22 (by kernel_rfl) (by kernel_rfl) (Sat.rdAt 0 hS rfl) e54 ?_))
          refine WR.runk [] [3, 4] [0, 5, 7, 9, 10, 11, 55, 56, 57, 62] (L' := [(0, .slice A0 l0.length c0), (5, .pointer (some ⟨b1, 0, none⟩)), (7, .pointer (some ⟨b48, 0, none⟩)), (9, .slice A43 r34.length c44), (10, .int .i64 x10_l1), (11, .int .i64 0), (55, .int .i64 x10_l1), (56, .slice A0 l0.length c0), (57, .int .i64 (l0.length : Int)), (62, .pointer (some (adr A43 x10_l1.toNat 1)))]) (w' := w) (by kernel_rfl) ?_
          refine WR.st (St.ofR (RSt.loadInt (t := 3) (.tmp 62) (by kernel_rfl) (by kernel_rfl) (by kernel_rfl) (by kernel_rfl) (Sat.rdAt 0 hS rfl) e54 ?_))
          refine WR.runk [4] [] [0, 5, 7, 9, 10, 11, 55, 56, 57] (L' := [(0, .slice A0 l0.length c0), (5, .pointer (some ⟨b1, 0, none⟩)), (7, .pointer (some ⟨b48, 0, none⟩)), (9, .slice A43 r34.length c44), (10, .int .i64 x10_l1), (11, .int .i64 v53), (55, .int .i64 x10_l1), (56, .slice A0 l0.length c0), (57, .int .i64 (l0.length : Int))]) (w' := w) (by kernel_rfl) ?_
          refine WR.nil ?_
          refine At.go ?_
          refine WC.seq (by kernel_rfl) ?_
          refine WC.reg [0, 1, 2, 3, 4] (by kernel_rfl) (by kernel_rfl) ?_
          refine WR.runk [0, 1] [2, 3, 4] [0, 5, 7, 9, 10, 11, 55, 56, 57, 64, 65] (L' := [(0, .slice A0 l0.length c0), (5, .pointer (some ⟨b1, 0, none⟩)), (7, .pointer (some ⟨b48, 0, none⟩)), (9, .slice A43 r34.length c44), (10, .int .i64 x10_l1), (11, .int .i64 v53), (55, .int .i64 x10_l1), (56, .slice A0 l0.length c0), (57, .int .i64 (l0.length : Int)), (64, .pointer (some ⟨b48, 0, none⟩)), (65, .int .i64 x10_l1)]) (w' := w) (by kernel_rfl) ?_
          obtain ⟨r55, e56, H⟩ := bind_ex H
          refine WR.st (St.call (by kernel_rfl) (f := 10) (args := #[.pointer (some ⟨b48, 0, none⟩), .int .i64 x10_l1]) (by kernel_rfl) (tally_Tally_Doubles.calls w (.pointer (some ⟨b48, 0, none⟩)) (some y45) (Sat.rdAny 1 hS rfl (fun _ h => O58.rd _ _ _ h)) x10_l1 r55 e56) ?_)
          rintro _ w62 ⟨rfl, hS63⟩
          have hS : Sat w62 (rf w0) [osl 3 (r0 (.int .i64)) 1 A43 c44 r34, O58 b48 y45, pts b1 (.cells #[.int .i64 a2_0, .int .i64 a2_1] 23 (0, 0))] := hS.ext hS63
          refine WR.runk [3, 4] [] [0, 5, 7, 9, 10, 55, 56, 57, 68] (L' := [(0, .slice A0 l0.length c0), (5, .pointer (some ⟨b1, 0, none⟩)), (7, .pointer (some ⟨b48, 0, none⟩)), (9, .slice A43 r34.length c44), (10, .int .i64 x10_l1), (55, .int .i64 x10_l1), (56, .slice A0 l0.length c0), (57, .int .i64 (l0.length : Int)), (68, .bool (r55 != v53))]) (w' := w62) (by kernel_rfl) ?_
          refine WR.nil ?_
          refine At.go ?_
          refine WC.cond (by kernel_rfl) (r55 != v53) (by kernel_rfl) (by kernel_rfl) (fun hb64 => ?_) (fun hb64 => ?_)
          · replace H := ite_t H hb64
            refine WC.seq (by kernel_rfl) ?_
            refine WC.reg [0] (by kernel_rfl) (by kernel_rfl) ?_
            refine WR.runk [0] [] [6] (L' := [(6, .bool false)]) (w' := w62) (by kernel_rfl) ?_
            refine WR.nil ?_
            refine At.go ?_
            refine WC.ret (by kernel_rfl) ?_
            refine At.blockRet ?_
            refine At.thenRet ?_
            refine At.thenRet ?_
            obtain rfl := Option.some.inj H
            have hS : Sat w62 (rf w0) [O58 b48 y45, pts b1 (.cells #[.int .i64 a2_0, .int .i64 a2_1] 23 (0, 0))] := hS.sel [1, 2] (by kernel_rfl)
            refine At.weaken [6] (L' := [(6, .bool false)]) (by kernel_rfl) ?_
            exact hn0 false _ rfl hS
          · replace H := ite_f H hb64
            refine WC.skip (by kernel_rfl) ?_
            refine At.blockNormal ?_
            refine At.go ?_
            refine WC.reg [0, 1, 2] (by kernel_rfl) (by kernel_rfl) ?_
            refine WR.runk [0, 1, 2] [] [0, 5, 7, 9, 10, 55, 56, 57] (L' := [(0, .slice A0 l0.length c0), (5, .pointer (some ⟨b1, 0, none⟩)), (7, .pointer (some ⟨b48, 0, none⟩)), (9, .slice A43 r34.length c44), (10, .int .i64 (wi (x10_l1 + 1))), (55, .int .i64 x10_l1), (56, .slice A0 l0.length c0), (57, .int .i64 (l0.length : Int))]) (w' := w62) (by kernel_rfl) ?_
            refine WR.nil ?_
            have hS : Sat w62 (rf w0) [osl 3 (r0 (.int .i64)) 1 A43 c44 r34, O58 b48 y45, pts b1 (.cells #[.int .i64 a2_0, .int .i64 a2_1] 23 (0, 0))] := hS.sel [0, 1, 2] (by kernel_rfl)
            refine At.again ?_
            refine WL.weaken [0, 5, 7, 9, 10] (L' := [(0, .slice A0 l0.length c0), (5, .pointer (some ⟨b1, 0, none⟩)), (7, .pointer (some ⟨b48, 0, none⟩)), (9, .slice A43 r34.length c44), (10, .int .i64 (wi (x10_l1 + 1)))]) (by kernel_rfl) ?_
            exact ih (wi (x10_l1 + 1)) _ hS H
        · replace H := ite_f H hb52
          refine WC.skip (by kernel_rfl) ?_
          refine At.go ?_
          refine WC.seq (by kernel_rfl) ?_
          refine WC.reg [0, 1, 2, 3, 4] (by kernel_rfl) (by kernel_rfl) ?_
          refine WR.runk [0, 1] [2, 3, 4] [0, 5, 7, 9, 10, 11, 55, 56, 57, 64, 65] (L' := [(0, .slice A0 l0.length c0), (5, .pointer (some ⟨b1, 0, none⟩)), (7, .pointer (some ⟨b48, 0, none⟩)), (9, .slice A43 r34.length c44), (10, .int .i64 x10_l1), (11, .int .i64 0), (55, .int .i64 x10_l1), (56, .slice A0 l0.length c0), (57, .int .i64 (l0.length : Int)), (64, .pointer (some ⟨b48, 0, none⟩)), (65, .int .i64 x10_l1)]) (w' := w) (by kernel_rfl) ?_
          obtain ⟨r65, e66, H⟩ := bind_ex H
          refine WR.st (St.call (by kernel_rfl) (f := 10) (args := #[.pointer (some ⟨b48, 0, none⟩), .int .i64 x10_l1]) (by kernel_rfl) (tally_Tally_Doubles.calls w (.pointer (some ⟨b48, 0, none⟩)) (some y45) (Sat.rdAny 1 hS rfl (fun _ h => O58.rd _ _ _ h)) x10_l1 r65 e66) ?_)
          rintro _ w72 ⟨rfl, hS73⟩
          have hS : Sat w72 (rf w0) [osl 3 (r0 (.int .i64)) 1 A43 c44 r34, O58 b48 y45, pts b1 (.cells #[.int .i64 a2_0, .int .i64 a2_1] 23 (0, 0))] := hS.ext hS73
          refine WR.runk [3, 4] [] [0, 5, 7, 9, 10, 55, 56, 57, 68] (L' := [(0, .slice A0 l0.length c0), (5, .pointer (some ⟨b1, 0, none⟩)), (7, .pointer (some ⟨b48, 0, none⟩)), (9, .slice A43 r34.length c44), (10, .int .i64 x10_l1), (55, .int .i64 x10_l1), (56, .slice A0 l0.length c0), (57, .int .i64 (l0.length : Int)), (68, .bool (r65 != 0))]) (w' := w72) (by kernel_rfl) ?_
          refine WR.nil ?_
          refine At.go ?_
          refine WC.cond (by kernel_rfl) (r65 != 0) (by kernel_rfl) (by kernel_rfl) (fun hb74 => ?_) (fun hb74 => ?_)
          · replace H := ite_t H hb74
            refine WC.seq (by kernel_rfl) ?_
            refine WC.reg [0] (by kernel_rfl) (by kernel_rfl) ?_
            refine WR.runk [0] [] [6] (L' := [(6, .bool false)]) (w' := w72) (by kernel_rfl) ?_
            refine WR.nil ?_
            refine At.go ?_
            refine WC.ret (by kernel_rfl) ?_
            refine At.blockRet ?_
            refine At.thenRet ?_
            refine At.thenRet ?_
            obtain rfl := Option.some.inj H
            have hS : Sat w72 (rf w0) [O58 b48 y45, pts b1 (.cells #[.int .i64 a2_0, .int .i64 a2_1] 23 (0, 0))] := hS.sel [1, 2] (by kernel_rfl)
            refine At.weaken [6] (L' := [(6, .bool false)]) (by kernel_rfl) ?_
            exact hn0 false _ rfl hS
          · replace H := ite_f H hb74
            refine WC.skip (by kernel_rfl) ?_
            refine At.blockNormal ?_
            refine At.go ?_
            refine WC.reg [0, 1, 2] (by kernel_rfl) (by kernel_rfl) ?_
            refine WR.runk [0, 1, 2] [] [0, 5, 7, 9, 10, 55, 56, 57] (L' := [(0, .slice A0 l0.length c0), (5, .pointer (some ⟨b1, 0, none⟩)), (7, .pointer (some ⟨b48, 0, none⟩)), (9, .slice A43 r34.length c44), (10, .int .i64 (wi (x10_l1 + 1))), (55, .int .i64 x10_l1), (56, .slice A0 l0.length c0), (57, .int .i64 (l0.length : Int))]) (w' := w72) (by kernel_rfl) ?_
            refine WR.nil ?_
            have hS : Sat w72 (rf w0) [osl 3 (r0 (.int .i64)) 1 A43 c44 r34, O58 b48 y45, pts b1 (.cells #[.int .i64 a2_0, .int .i64 a2_1] 23 (0, 0))] := hS.sel [0, 1, 2] (by kernel_rfl)
            refine At.again ?_
            refine WL.weaken [0, 5, 7, 9, 10] (L' := [(0, .slice A0 l0.length c0), (5, .pointer (some ⟨b1, 0, none⟩)), (7, .pointer (some ⟨b48, 0, none⟩)), (9, .slice A43 r34.length c44), (10, .int .i64 (wi (x10_l1 + 1)))]) (by kernel_rfl) ?_
            exact ih (wi (x10_l1 + 1)) _ hS H
      · replace H := ite_f H hb51
        refine WR.runk [3, 4, 5, 6, 7] [] [0, 5, 7, 9, 10, 11, 55, 56, 57, 58, 59] (L' := [(0, .slice A0 l0.length c0), (5, .pointer (some ⟨b1, 0, none⟩)), (7, .pointer (some ⟨b48, 0, none⟩)), (9, .slice A43 r34.length c44), (10, .int .i64 x10_l1), (11, .int .i64 0), (55, undef), (56, undef), (57, undef), (58, undef), (59, .bool false)]) (w' := w) (by kernel_rfl) ?_
        refine WR.nil ?_
        refine At.go ?_
        refine WC.condF (by kernel_rfl) (by kernel_rfl) (by kernel_rfl) ?_
        refine WC.skip (by kernel_rfl) ?_
        refine At.go ?_
        refine WC.seq (by kernel_rfl) ?_
        refine WC.reg [0, 1, 2, 3, 4] (by kernel_rfl) (by kernel_rfl) ?_
        refine WR.runk [0, 1] [2, 3, 4] [0, 5, 7, 9, 10, 11, 55, 56, 57, 58, 64, 65] (L' := [(0, .slice A0 l0.length c0), (5, .pointer (some ⟨b1, 0, none⟩)), (7, .pointer (some ⟨b48, 0, none⟩)), (9, .slice A43 r34.length c44), (10, .int .i64 x10_l1), (11, .int .i64 0), (55, undef), (56, undef), (57, undef), (58, undef), (64, .pointer (some ⟨b48, 0, none⟩)), (65, .int .i64 x10_l1)]) (w' := w) (by kernel_rfl) ?_
        obtain ⟨r75, e76, H⟩ := bind_ex H
        refine WR.st (St.call (by kernel_rfl) (f := 10) (args := #[.pointer (some ⟨b48, 0, none⟩), .int .i64 x10_l1]) (by kernel_rfl) (tally_Tally_Doubles.calls w (.pointer (some ⟨b48, 0, none⟩)) (some y45) (Sat.rdAny 1 hS rfl (fun _ h => O58.rd _ _ _ h)) x10_l1 r75 e76) ?_)
        rintro _ w82 ⟨rfl, hS83⟩
        have hS : Sat w82 (rf w0) [osl 3 (r0 (.int .i64)) 1 A43 c44 r34, O58 b48 y45, pts b1 (.cells #[.int .i64 a2_0, .int .i64 a2_1] 23 (0, 0))] := hS.ext hS83
        refine WR.runk [3, 4] [] [0, 5, 7, 9, 10, 55, 56, 57, 58, 68] (L' := [(0, .slice A0 l0.length c0), (5, .pointer (some ⟨b1, 0, none⟩)), (7, .pointer (some ⟨b48, 0, none⟩)), (9, .slice A43 r34.length c44), (10, .int .i64 x10_l1), (55, undef), (56, undef), (57, undef), (58, undef), (68, .bool (r75 != 0))]) (w' := w82) (by kernel_rfl) ?_
        refine WR.nil ?_
        refine At.go ?_
        refine WC.cond (by kernel_rfl) (r75 != 0) (by kernel_rfl) (by kernel_rfl) (fun hb84 => ?_) (fun hb84 => ?_)
        · replace H := ite_t H hb84
          refine WC.seq (by kernel_rfl) ?_
          refine WC.reg [0] (by kernel_rfl) (by kernel_rfl) ?_
          refine WR.runk [0] [] [6] (L' := [(6, .bool false)]) (w' := w82) (by kernel_rfl) ?_
          refine WR.nil ?_
          refine At.go ?_
          refine WC.ret (by kernel_rfl) ?_
          refine At.blockRet ?_
          refine At.thenRet ?_
          refine At.thenRet ?_
          obtain rfl := Option.some.inj H
          have hS : Sat w82 (rf w0) [O58 b48 y45, pts b1 (.cells #[.int .i64 a2_0, .int .i64 a2_1] 23 (0, 0))] := hS.sel [1, 2] (by kernel_rfl)
          refine At.weaken [6] (L' := [(6, .bool false)]) (by kernel_rfl) ?_
          exact hn0 false _ rfl hS
        · replace H := ite_f H hb84
          refine WC.skip (by kernel_rfl) ?_
          refine At.blockNormal ?_
          refine At.go ?_
          refine WC.reg [0, 1, 2] (by kernel_rfl) (by kernel_rfl) ?_
          refine WR.runk [0, 1, 2] [] [0, 5, 7, 9, 10, 55, 56, 57, 58] (L' := [(0, .slice A0 l0.length c0), (5, .pointer (some ⟨b1, 0, none⟩)), (7, .pointer (some ⟨b48, 0, none⟩)), (9, .slice A43 r34.length c44), (10, .int .i64 (wi (x10_l1 + 1))), (55, undef), (56, undef), (57, undef), (58, undef)]) (w' := w82) (by kernel_rfl) ?_
          refine WR.nil ?_
          have hS : Sat w82 (rf w0) [osl 3 (r0 (.int .i64)) 1 A43 c44 r34, O58 b48 y45, pts b1 (.cells #[.int .i64 a2_0, .int .i64 a2_1] 23 (0, 0))] := hS.sel [0, 1, 2] (by kernel_rfl)
          refine At.again ?_
          refine WL.weaken [0, 5, 7, 9, 10] (L' := [(0, .slice A0 l0.length c0), (5, .pointer (some ⟨b1, 0, none⟩)), (7, .pointer (some ⟨b48, 0, none⟩)), (9, .slice A43 r34.length c44), (10, .int .i64 (wi (x10_l1 + 1)))]) (by kernel_rfl) ?_
          exact ih (wi (x10_l1 + 1)) _ hS H
    · replace H := ite_f H hb50
      refine WC.exit (by kernel_rfl) ?_
      refine At.thenExit ?_
      refine At.thenExit ?_
      obtain rfl := Option.some.inj H
      have hS : Sat w (rf w0) [osl 3 (r0 (.int .i64)) 1 A43 c44 r34, O58 b48 y45, pts b1 (.cells #[.int .i64 a2_0, .int .i64 a2_1] 23 (0, 0))] := hS.sel [0, 1, 2] (by kernel_rfl)
      refine At.weaken [0, 5, 7, 9] (L' := [(0, .slice A0 l0.length c0), (5, .pointer (some ⟨b1, 0, none⟩)), (7, .pointer (some ⟨b48, 0, none⟩)), (9, .slice A43 r34.length c44)]) (by kernel_rfl) ?_
      exact hn1 () _ rfl hS
theorem colophonlaw16_TallyDoubles.l2_ok {Q} (w0 : World) (a2_0 : Int) (a2_1 : Int) (r34 : (List Int)) (A43 : Option Addr) (c44 : Nat) (y45 : Int × (Option (Int × (List Int) × (List Int) × Int))) (b48 : Nat) (out : Int) (hn0 : ∀ (w : World), Sat w (rf w0) [O58 b48 y45] → At Q (.exit 2) 113 [(7, .pointer (some ⟨b48, 0, none⟩)), (12, .int .i64 a2_0), (13, .int .i64 a2_1), (14, .int .i64 out)] w) :
    ∀ (k : Nat) (x14_l2 : Int) (x15_l2 : Int) (w : World), Sat w (rf w0) [osl 3 (r0 (.int .i64)) 1 A43 c44 r34, O58 b48 y45] → colophonlaw16_TallyDoubles.l2 a2_1 r34 k x14_l2 x15_l2 = some out → WL Try.prog (cbody (cbody (cr (cl (cr (cr (cr (cr (cr (cr (cr (cr (cr (cr (cr C3))))))))))))))) Q 113 [(7, .pointer (some ⟨b48, 0, none⟩)), (9, .slice A43 r34.length c44), (12, .int .i64 a2_0), (13, .int .i64 a2_1), (14, .int .i64 x14_l2), (15, .int .i64 x15_l2)] w := by
  intro k
  induction k with
  | zero => intro x14_l2 x15_l2 w hS H; exact absurd (show none = some out from H) (by simp)
  | succ k ih =>
    intro x14_l2 x15_l2 w hS H
    unfold colophonlaw16_TallyDoubles.l2 at H
    refine WL.round ?_
    refine WC.seq (by kernel_rfl) ?_
    refine WC.seq (by kernel_rfl) ?_
    refine WC.reg [0, 1, 2] (by kernel_rfl) (by kernel_rfl) ?_
    refine WR.runk [0, 1, 2] [] [7, 9, 12, 13, 14, 15, 98] (L' := [(7, .pointer (some ⟨b48, 0, none⟩)), (9, .slice A43 r34.length c44), (12, .int .i64 a2_0), (13, .int .i64 a2_1), (14, .int .i64 x14_l2), (15, .int .i64 x15_l2), (98, .bool (decide (x15_l2 < a2_1)))]) (w' := w) (by kernel_rfl) ?_
    refine WR.nil ?_
    refine At.go ?_
    refine WC.cond (by kernel_rfl) (decide (x15_l2 < a2_1)) (by kernel_rfl) (by kernel_rfl) (fun hb127 => ?_) (fun hb127 => ?_)
    · replace H := ite_t H hb127
      refine WC.skip (by kernel_rfl) ?_
      refine At.go ?_
      refine WC.seq (by kernel_rfl) ?_
      refine WC.block (by kernel_rfl) ?_
      refine WC.reg [0, 1, 2, 3, 4, 5, 6] (by kernel_rfl) (by kernel_rfl) ?_
      refine WR.runk [0, 1, 2] [3, 4, 5, 6] [7, 9, 12, 13, 14, 15, 101, 102, 103] (L' := [(7, .pointer (some ⟨b48, 0, none⟩)), (9, .slice A43 r34.length c44), (12, .int .i64 a2_0), (13, .int .i64 a2_1), (14, .int .i64 x14_l2), (15, .int .i64 x15_l2), (101, .int .i64 x14_l2), (102, .slice A43 r34.length c44), (103, .int .i64 x15_l2)]) (w' := w) (by kernel_rfl) ?_
      obtain ⟨v128, e129, H⟩ := bind_ex H
      refine WR.st (St.ofP (PSt.idx (k := .i64) (.tmp 102) (.tmp 103) (by kernel_rfl) (by kernel_rfl) E22 (by kernel_rfl) (by kernel_rfl) (Sat.rdAt 0 hS rfl) e129 ?_))
      refine WR.runk [] [4, 5, 6] [7, 9, 12, 13, 14, 15, 101, 104] (L' := [(7, .pointer (some ⟨b48, 0, none⟩)), (9, .slice A43 r34.length c44), (12, .int .i64 a2_0), (13, .int .i64 a2_1), (14, .int .i64 x14_l2), (15, .int .i64 x15_l2), (101, .int .i64 x14_l2), (104, .pointer (some (adr A43 x15_l2.toNat 1)))]) (w' := w) (by kernel_rfl) ?_
      refine WR.st (St.ofR (RSt.loadInt (t := 3) (.tmp 104) (by kernel_rfl) (by kernel_rfl) (by kernel_rfl) (by kernel_rfl) (Sat.rdAt 0 hS rfl) e129 ?_))
      refine WR.runk [5, 6] [] [7, 9, 12, 13, 14, 15] (L' := [(7, .pointer (some ⟨b48, 0, none⟩)), (9, .slice A43 r34.length c44), (12, .int .i64 a2_0), (13, .int .i64 a2_1), (14, .int .i64 (wi (x14_l2 - v128))), (15, .int .i64 x15_l2)]) (w' := w) (by kernel_rfl) ?_
      refine WR.nil ?_
      refine At.blockNormal ?_
      refine At.go ?_
      refine WC.reg [0, 1, 2] (by kernel_rfl) (by kernel_rfl) ?_
      refine WR.runk [0, 1, 2] [] [7, 9, 12, 13, 14, 15] (L' := [(7, .pointer (some ⟨b48, 0, none⟩)), (9, .slice A43 r34.length c44), (12, .int .i64 a2_0), (13, .int .i64 a2_1), (14, .int .i64 (wi (x14_l2 - v128))), (15, .int .i64 (wi (x15_l2 + 1)))]) (w' := w) (by kernel_rfl) ?_
      refine WR.nil ?_
      have hS : Sat w (rf w0) [osl 3 (r0 (.int .i64)) 1 A43 c44 r34, O58 b48 y45] := hS.sel [0, 1] (by kernel_rfl)
      refine At.again ?_
      refine WL.weaken [7, 9, 12, 13, 14, 15] (L' := [(7, .pointer (some ⟨b48, 0, none⟩)), (9, .slice A43 r34.length c44), (12, .int .i64 a2_0), (13, .int .i64 a2_1), (14, .int .i64 (wi (x14_l2 - v128))), (15, .int .i64 (wi (x15_l2 + 1)))]) (by kernel_rfl) ?_
      exact ih (wi (x14_l2 - v128)) (wi (x15_l2 + 1)) _ hS H
    · replace H := ite_f H hb127
      refine WC.exit (by kernel_rfl) ?_
      refine At.thenExit ?_
      refine At.thenExit ?_
      obtain rfl := Option.some.inj H
      have hS : Sat w (rf w0) [O58 b48 y45] := hS.sel [1] (by kernel_rfl)
      refine At.weaken [7, 12, 13, 14] (L' := [(7, .pointer (some ⟨b48, 0, none⟩)), (12, .int .i64 a2_0), (13, .int .i64 a2_1), (14, .int .i64 x14_l2)]) (by kernel_rfl) ?_
      exact hn0 _ hS
theorem colophonlaw16_TallyDoubles.calls (w0 : World) (A0 : Option Addr) (c0 : Nat) (l0 : List Int) (R0 : rdS (r0 (.int .i64)) 1 (hp w0) A0 c0 l0) (A1 : Option Addr) (c1 : Nat) (l1 : List Int) (R1 : rdS (r0 (.int .i64)) 1 (hp w0) A1 c1 l1) (a2_0 : Int) (a2_1 : Int) (r : Bool) (H : colophonlaw16_TallyDoubles.f l0 l1 a2_0 a2_1 = some r) :
    Calls Try.prog 3 #[.slice A0 l0.length c0, .slice A1 l1.length c1, .agg #[.int .i64 a2_0, .int .i64 a2_1]] w0 (fun e w' => ∃ v, e = .returned v ∧ colophonlaw16_TallyDoubles.post w0 r v w') := by
  have hS : Sat w0 (rf w0) [] := Sat.start w0
  unfold colophonlaw16_TallyDoubles.f at H
  refine calls_of_WC (vs := [.slice A0 l0.length c0, .slice A1 l1.length c1, .agg #[.int .i64 a2_0, .int .i64 a2_1]]) Try.func3 (c := C3) (n := 113) (by kernel_rfl) (by kernel_rfl) (by kernel_rfl) ?_
  refine WC.seq (by kernel_rfl) ?_
  refine WC.reg [0, 1] (by kernel_rfl) (by kernel_rfl) ?_
  refine WR.runk [] [0, 1] [0, 1, 2] (L' := [(0, .slice A0 l0.length c0), (1, .slice A1 l1.length c1), (2, .agg #[.int .i64 a2_0, .int .i64 a2_1])]) (w' := w0) (by kernel_rfl) ?_
  refine WR.st (St.box hS (by kernel_rfl) (.cells #[.int .i64 a2_0, .int .i64 a2_1] 23) (fun b1 => .pointer (some ⟨b1, 0, none⟩)) (fun _ => by kernel_rfl) (fun b1 w2 hS => ?_))
  refine WR.runk [1] [] [0, 1, 5] (L' := [(0, .slice A0 l0.length c0), (1, .slice A1 l1.length c1), (5, .pointer (some ⟨b1, 0, none⟩))]) (w' := w2) (by kernel_rfl) ?_
  refine WR.nil ?_
  refine At.go ?_
  refine WC.seq (by kernel_rfl) ?_
  refine WC.seq (by kernel_rfl) ?_
  refine WC.reg [0, 1] (by kernel_rfl) (by kernel_rfl) ?_
  obtain ⟨r4, e5, H⟩ := bind_ex H
  refine WR.st (St.call (by kernel_rfl) (f := 7) (args := #[]) (by kernel_rfl) (colophonlaw16_first.calls w2  r4 e5) ?_)
  rintro _ w11 ⟨rfl, hS12⟩
  have hS : Sat w11 (rf w0) [pts b1 (.cells #[.int .i64 a2_0, .int .i64 a2_1] 23 (0, 0))] := hS.ext hS12
  refine WR.runk [1] [] [0, 1, 5, 17] (L' := [(0, .slice A0 l0.length c0), (1, .slice A1 l1.length c1), (5, .pointer (some ⟨b1, 0, none⟩)), (17, .bool (!r4))]) (w' := w11) (by kernel_rfl) ?_
  refine WR.nil ?_
  refine At.go ?_
  refine WC.cond (by kernel_rfl) (!r4) (by kernel_rfl) (by kernel_rfl) (fun hb13 => ?_) (fun hb13 => ?_)
  · replace H := ite_t H hb13
    refine WC.seq (by kernel_rfl) ?_
    refine WC.reg [0] (by kernel_rfl) (by kernel_rfl) ?_
    refine WR.runk [0] [] [6] (L' := [(6, .bool false)]) (w' := w11) (by kernel_rfl) ?_
    refine WR.nil ?_
    refine At.go ?_
    refine WC.ret (by kernel_rfl) ?_
    refine At.thenRet ?_
    obtain rfl := Option.some.inj H
    have hS : Sat w11 (rf w0) [] := hS.sel [] (by kernel_rfl)
    exact At.body [.bool false] (by kernel_rfl) ⟨_, rfl, rfl, hS⟩
  · replace H := ite_f H hb13
    refine WC.skip (by kernel_rfl) ?_
    refine At.go ?_
    refine WC.seq (by kernel_rfl) ?_
    refine WC.seq (by kernel_rfl) ?_
    refine WC.reg [0, 1, 2, 3, 4, 5] (by kernel_rfl) (by kernel_rfl) ?_
    refine WR.runk [0, 1, 2, 3, 4, 5] [] [0, 1, 5, 23] (L' := [(0, .slice A0 l0.length c0), (1, .slice A1 l1.length c1), (5, .pointer (some ⟨b1, 0, none⟩)), (23, .bool (decide (imax (l0.length : Int) (l1.length : Int) > 400)))]) (w' := w11) (by kernel_rfl) ?_
    refine WR.nil ?_
    refine At.go ?_
    refine WC.cond (by kernel_rfl) (decide (imax (l0.length : Int) (l1.length : Int) > 400)) (by kernel_rfl) (by kernel_rfl) (fun hb14 => ?_) (fun hb14 => ?_)
    · replace H := ite_t H hb14
      refine WC.seq (by kernel_rfl) ?_
      refine WC.reg [0] (by kernel_rfl) (by kernel_rfl) ?_
      refine WR.runk [0] [] [6] (L' := [(6, .bool true)]) (w' := w11) (by kernel_rfl) ?_
      refine WR.nil ?_
      refine At.go ?_
      refine WC.ret (by kernel_rfl) ?_
      refine At.thenRet ?_
      obtain rfl := Option.some.inj H
      have hS : Sat w11 (rf w0) [] := hS.sel [] (by kernel_rfl)
      exact At.body [.bool true] (by kernel_rfl) ⟨_, rfl, rfl, hS⟩
    · replace H := ite_f H hb14
      refine WC.skip (by kernel_rfl) ?_
      refine At.go ?_
      refine WC.seq (by kernel_rfl) ?_
      refine WC.reg [0, 1, 2, 3, 4, 5, 6, 7] (by kernel_rfl) (by kernel_rfl) ?_
      refine WR.runk [0, 1] [2, 3, 4, 5, 6, 7] [0, 1, 5, 25, 26] (L' := [(0, .slice A0 l0.length c0), (1, .slice A1 l1.length c1), (5, .pointer (some ⟨b1, 0, none⟩)), (25, .slice A0 l0.length c0), (26, .slice A1 l1.length c1)]) (w' := w11) (by kernel_rfl) ?_
      obtain ⟨r15, e16, H⟩ := bind_ex H
      refine WR.st (St.call (by kernel_rfl) (f := 8) (args := #[.slice A0 l0.length c0, .slice A1 l1.length c1]) (by kernel_rfl) (tally_New.calls w11 A0 c0 l0 (rdS.up R0 hS.sub0) A1 c1 l1 (rdS.up R1 hS.sub0) r15 e16) ?_)
      rintro _ w22 ⟨pv24, rfl, hS23⟩
      have hS : Sat w22 (rf w0) [optP O58 pv24 r15.1, pts b1 (.cells #[.int .i64 a2_0, .int .i64 a2_1] 23 (0, 0))] := hS.ext hS23
      refine WR.runk [3, 4, 5, 6, 7] [] [0, 1, 5, 7, 8] (L' := [(0, .slice A0 l0.length c0), (1, .slice A1 l1.length c1), (5, .pointer (some ⟨b1, 0, none⟩)), (7, pv24), (8, .int .i64 r15.2)]) (w' := w22) (by kernel_rfl) ?_
      refine WR.nil ?_
      refine At.go ?_
      refine WC.seq (by kernel_rfl) ?_
      refine WC.seq (by kernel_rfl) ?_
      refine WC.reg [0, 1, 2, 3, 4] (by kernel_rfl) (by kernel_rfl) ?_
      refine WR.runk [0, 1, 2, 3, 4] [] [0, 1, 5, 7, 8, 34] (L' := [(0, .slice A0 l0.length c0), (1, .slice A1 l1.length c1), (5, .pointer (some ⟨b1, 0, none⟩)), (7, pv24), (8, .int .i64 r15.2), (34, .bool ((l0.length : Int) != (l1.length : Int)))]) (w' := w22) (by kernel_rfl) ?_
      refine WR.nil ?_
      refine At.go ?_
      refine WC.cond (by kernel_rfl) ((l0.length : Int) != (l1.length : Int)) (by kernel_rfl) (by kernel_rfl) (fun hb25 => ?_) (fun hb25 => ?_)
      · replace H := ite_t H hb25
        refine WC.seq (by kernel_rfl) ?_
        refine WC.reg [0, 1, 2, 3, 4, 5, 6] (by kernel_rfl) (by kernel_rfl) ?_
        refine WR.runk [0, 1, 2] [3, 4, 5, 6] [7, 37] (L' := [(7, pv24), (37, .bool (r15.2 == 2))]) (w' := w22) (by kernel_rfl) ?_
        refine WR.split 37 (b := (r15.2 == 2)) (by kernel_rfl) (fun hb26 => ?_) (fun hb26 => ?_)
        · replace H := ite_t H hb26
          refine WR.runk [3] [4, 5, 6] [37, 38] (L' := [(37, .bool true), (38, pv24)]) (w' := w22) (by kernel_rfl) ?_
          rcases hr28 : r15.1 with _ | y27
          · rw [hr28] at H
            dsimp only at H
            have hv29 := optP.none hS hr28
            subst hv29
            have hS : Sat w22 (rf w0) [pts b1 (.cells #[.int .i64 a2_0, .int .i64 a2_1] 23 (0, 0))] := hS.sel [1] (by kernel_rfl)
            refine WR.runk [4, 5, 6] [] [6] (L' := [(6, .bool true)]) (w' := w22) (by kernel_rfl) ?_
            refine WR.nil ?_
            refine At.go ?_
            refine WC.ret (by kernel_rfl) ?_
            refine At.thenRet ?_
            obtain rfl := Option.some.inj H
            have hS : Sat w22 (rf w0) [] := hS.sel [] (by kernel_rfl)
            exact At.body [.bool true] (by kernel_rfl) ⟨_, rfl, rfl, hS⟩
          · rw [hr28] at H
            dsimp only at H
            obtain ⟨b30, hv29, hN32⟩ := optP.some hS hr28
            subst hv29
            have hS : Sat w22 (rf w0) [O58 b30 y27, pts b1 (.cells #[.int .i64 a2_0, .int .i64 a2_1] 23 (0, 0))] := hN32
            refine WR.runk [4, 5, 6] [] [6] (L' := [(6, .bool false)]) (w' := w22) (by kernel_rfl) ?_
            refine WR.nil ?_
            refine At.go ?_
            refine WC.ret (by kernel_rfl) ?_
            refine At.thenRet ?_
            obtain rfl := Option.some.inj H
            have hS : Sat w22 (rf w0) [] := hS.sel [] (by kernel_rfl)
            exact At.body [.bool false] (by kernel_rfl) ⟨_, rfl, rfl, hS⟩
        · replace H := ite_f H hb26
          refine WR.runk [3, 4, 5, 6] [] [6] (L' := [(6, .bool false)]) (w' := w22) (by kernel_rfl) ?_
          refine WR.nil ?_
          refine At.go ?_
          refine WC.ret (by kernel_rfl) ?_
          refine At.thenRet ?_
          obtain rfl := Option.some.inj H
          have hS : Sat w22 (rf w0) [] := hS.sel [] (by kernel_rfl)
          exact At.body [.bool false] (by kernel_rfl) ⟨_, rfl, rfl, hS⟩
      · replace H := ite_f H hb25
        refine WC.skip (by kernel_rfl) ?_
        refine At.go ?_
        refine WC.seq (by kernel_rfl) ?_
        refine WC.seq (by kernel_rfl) ?_
        refine WC.reg [0, 1] (by kernel_rfl) (by kernel_rfl) ?_
        refine WR.runk [0, 1] [] [0, 1, 5, 7, 42] (L' := [(0, .slice A0 l0.length c0), (1, .slice A1 l1.length c1), (5, .pointer (some ⟨b1, 0, none⟩)), (7, pv24), (42, .bool (r15.2 != 0))]) (w' := w22) (by kernel_rfl) ?_
        refine WR.nil ?_
        refine At.go ?_
        refine WC.cond (by kernel_rfl) (r15.2 != 0) (by kernel_rfl) (by kernel_rfl) (fun hb33 => ?_) (fun hb33 => ?_)
        · replace H := ite_t H hb33
          refine WC.seq (by kernel_rfl) ?_
          refine WC.reg [0] (by kernel_rfl) (by kernel_rfl) ?_
          refine WR.runk [0] [] [6] (L' := [(6, .bool false)]) (w' := w22) (by kernel_rfl) ?_
          refine WR.nil ?_
          refine At.go ?_
          refine WC.ret (by kernel_rfl) ?_
          refine At.thenRet ?_
          obtain rfl := Option.some.inj H
          have hS : Sat w22 (rf w0) [] := hS.sel [] (by kernel_rfl)
          exact At.body [.bool false] (by kernel_rfl) ⟨_, rfl, rfl, hS⟩
        · replace H := ite_f H hb33
          refine WC.skip (by kernel_rfl) ?_
          refine At.go ?_
          refine WC.seq (by kernel_rfl) ?_
          refine WC.reg [0, 1, 2, 3] (by kernel_rfl) (by kernel_rfl) ?_
          refine WR.runk [0, 1] [2, 3] [0, 5, 7, 43, 44] (L' := [(0, .slice A0 l0.length c0), (5, .pointer (some ⟨b1, 0, none⟩)), (7, pv24), (43, .slice A0 l0.length c0), (44, .slice A1 l1.length c1)]) (w' := w22) (by kernel_rfl) ?_
          obtain ⟨r34, e35, H⟩ := bind_ex H
          refine WR.st (St.call (by kernel_rfl) (f := 9) (args := #[.slice A0 l0.length c0, .slice A1 l1.length c1]) (by kernel_rfl) (colophonref16_Doubles.calls w22 A0 c0 l0 (rdS.up R0 hS.sub0) A1 c1 l1 (rdS.up R1 hS.sub0) r34 e35) ?_)
          rintro _ w41 ⟨A43, c44, rfl, hS42⟩
          have hS : Sat w41 (rf w0) [osl 3 (r0 (.int .i64)) 1 A43 c44 r34, optP O58 pv24 r15.1, pts b1 (.cells #[.int .i64 a2_0, .int .i64 a2_1] 23 (0, 0))] := hS.ext hS42
          refine WR.runk [3] [] [0, 5, 7, 9] (L' := [(0, .slice A0 l0.length c0), (5, .pointer (some ⟨b1, 0, none⟩)), (7, pv24), (9, .slice A43 r34.length c44)]) (w' := w41) (by kernel_rfl) ?_
          refine WR.nil ?_
          refine At.go ?_
          refine WC.seq (by kernel_rfl) ?_
          refine WC.seq (by kernel_rfl) ?_
          refine WC.reg [0] (by kernel_rfl) (by kernel_rfl) ?_
          refine WR.runk [0] [] [0, 5, 7, 9, 10] (L' := [(0, .slice A0 l0.length c0), (5, .pointer (some ⟨b1, 0, none⟩)), (7, pv24), (9, .slice A43 r34.length c44), (10, .int .i64 (-1))]) (w' := w41) (by kernel_rfl) ?_
          refine WR.nil ?_
          refine At.go ?_
          refine WC.block (by kernel_rfl) ?_
          have hS : Sat w41 (rf w0) [optP O58 pv24 r15.1, osl 3 (r0 (.int .i64)) 1 A43 c44 r34, pts b1 (.cells #[.int .i64 a2_0, .int .i64 a2_1] 23 (0, 0))] := hS.sel [1, 0, 2] (by kernel_rfl)
          obtain ⟨y45, hr46, H⟩ := bind_ex H
          obtain ⟨b48, hv47, hN144⟩ := optP.some hS hr46
          subst hv47
          have hS : Sat w41 (rf w0) [O58 b48 y45, osl 3 (r0 (.int .i64)) 1 A43 c44 r34, pts b1 (.cells #[.int .i64 a2_0, .int .i64 a2_1] 23 (0, 0))] := hN144
          have hS : Sat w41 (rf w0) [osl 3 (r0 (.int .i64)) 1 A43 c44 r34, O58 b48 y45, pts b1 (.cells #[.int .i64 a2_0, .int .i64 a2_1] 23 (0, 0))] := hS.sel [1, 0, 2] (by kernel_rfl)
          obtain ⟨o85, e86, H⟩ := bind_ex H
          refine WC.loop (by kernel_rfl) ?_
          refine WL.weaken [0, 5, 7, 9, 10] (L' := [(0, .slice A0 l0.length c0), (5, .pointer (some ⟨b1, 0, none⟩)), (7, .pointer (some ⟨b48, 0, none⟩)), (9, .slice A43 r34.length c44), (10, .int .i64 (-1))]) (by kernel_rfl) ?_
          refine colophonlaw16_TallyDoubles.l1_ok w0 A0 c0 l0 l1 a2_0 a2_1 b1 r34 A43 c44 y45 b48 o85 (fun o87 w89 ho90 hS => ?_) (fun o91 w93 ho94 hS => ?_) FU (-1) _ hS e86
          · subst ho90
            dsimp only at H
            refine At.blockRet ?_
            refine At.thenRet ?_
            obtain rfl := Option.some.inj H
            have hS : Sat w89 (rf w0) [] := hS.sel [] (by kernel_rfl)
            exact At.body [.bool o87] (by kernel_rfl) ⟨_, rfl, rfl, hS⟩
          · subst ho94
            dsimp only at H
            refine At.hit ?_
            refine At.go ?_
            refine WC.seq (by kernel_rfl) ?_
            refine WC.drawn (by kernel_rfl) (by kernel_rfl) 6 (by kernel_rfl) (fun w95 hw96 => ?_)
            have hS := hS.heap hw96.1 hw96.2
            refine WD.weaken [0, 5, 7, 9] (L' := [(0, .slice A0 l0.length c0), (5, .pointer (some ⟨b1, 0, none⟩)), (7, .pointer (some ⟨b48, 0, none⟩)), (9, .slice A43 r34.length c44)]) (by kernel_rfl) ?_
            refine WD.pure (i := 0) (v := .pointer (some ⟨b1, 0, none⟩)) (by kernel_rfl) (by kernel_rfl) (fun _ => by kernel_rfl) ?_
            refine WD.weaken [0, 5, 7, 9, 69] (L' := [(0, .slice A0 l0.length c0), (5, .pointer (some ⟨b1, 0, none⟩)), (7, .pointer (some ⟨b48, 0, none⟩)), (9, .slice A43 r34.length c44), (69, .pointer (some ⟨b1, 0, none⟩))]) (by kernel_rfl) ?_
            refine WD.ofR (i := 1) (by kernel_rfl) (RSt.loadObj (t := 3) (k := 0) (v := .int .i64 a2_0) (.tmp 69) (by kernel_rfl) (by kernel_rfl) (by kernel_rfl) 2 hS rfl (by kernel_rfl) rfl ?_)
            refine WD.weaken [0, 5, 7, 9, 70] (L' := [(0, .slice A0 l0.length c0), (5, .pointer (some ⟨b1, 0, none⟩)), (7, .pointer (some ⟨b48, 0, none⟩)), (9, .slice A43 r34.length c44), (70, .int .i64 a2_0)]) (by kernel_rfl) ?_
            refine WD.pure (i := 2) (v := .pointer (some ⟨b1, 1, none⟩)) (by kernel_rfl) (by kernel_rfl) (fun _ => by kernel_rfl) ?_
            refine WD.weaken [0, 7, 9, 70, 71] (L' := [(0, .slice A0 l0.length c0), (7, .pointer (some ⟨b48, 0, none⟩)), (9, .slice A43 r34.length c44), (70, .int .i64 a2_0), (71, .pointer (some ⟨b1, 1, none⟩))]) (by kernel_rfl) ?_
            refine WD.ofR (i := 3) (by kernel_rfl) (RSt.loadObj (t := 3) (k := 1) (v := .int .i64 a2_1) (.tmp 71) (by kernel_rfl) (by kernel_rfl) (by kernel_rfl) 2 hS rfl (by kernel_rfl) rfl ?_)
            refine WD.weaken [0, 7, 9, 70, 72] (L' := [(0, .slice A0 l0.length c0), (7, .pointer (some ⟨b48, 0, none⟩)), (9, .slice A43 r34.length c44), (70, .int .i64 a2_0), (72, .int .i64 a2_1)]) (by kernel_rfl) ?_
            refine WD.pure (i := 4) (v := .int .i64 a2_0) (by kernel_rfl) (by kernel_rfl) (fun _ => by kernel_rfl) ?_
            refine WD.weaken [0, 7, 9, 12, 72] (L' := [(0, .slice A0 l0.length c0), (7, .pointer (some ⟨b48, 0, none⟩)), (9, .slice A43 r34.length c44), (12, .int .i64 a2_0), (72, .int .i64 a2_1)]) (by kernel_rfl) ?_
            refine WD.pure (i := 5) (v := .int .i64 a2_1) (by kernel_rfl) (by kernel_rfl) (fun _ => by kernel_rfl) ?_
            refine WD.weaken [0, 7, 9, 12, 13] (L' := [(0, .slice A0 l0.length c0), (7, .pointer (some ⟨b48, 0, none⟩)), (9, .slice A43 r34.length c44), (12, .int .i64 a2_0), (13, .int .i64 a2_1)]) (by kernel_rfl) ?_
            refine WD.nil (by kernel_rfl) ?_
            refine At.go ?_
            refine WC.seq (by kernel_rfl) ?_
            refine WC.seq (by kernel_rfl) ?_
            refine WC.reg [0, 1, 2, 3, 4, 5, 6, 7, 8, 9, 10, 11, 12] (by kernel_rfl) (by kernel_rfl) ?_
            refine WR.runk [0, 1, 2] [3, 4, 5, 6, 7, 8, 9, 10, 11, 12] [0, 7, 9, 12, 13, 75] (L' := [(0, .slice A0 l0.length c0), (7, .pointer (some ⟨b48, 0, none⟩)), (9, .slice A43 r34.length c44), (12, .int .i64 a2_0), (13, .int .i64 a2_1), (75, .bool (decide (a2_0 < 0)))]) (w' := w95) (by kernel_rfl) ?_
            refine WR.split 75 (b := decide (a2_0 < 0)) (by kernel_rfl) (fun hb97 => ?_) (fun hb97 => ?_)
            · replace H := ite_t H hb97
              refine WR.runk [3, 4, 5, 6, 7, 8, 9, 10, 11, 12] [] [7, 9, 12, 13, 85] (L' := [(7, .pointer (some ⟨b48, 0, none⟩)), (9, .slice A43 r34.length c44), (12, .int .i64 a2_0), (13, .int .i64 a2_1), (85, .bool true)]) (w' := w95) (by kernel_rfl) ?_
              refine WR.nil ?_
              refine At.go ?_
              refine WC.condT (by kernel_rfl) (by kernel_rfl) (by kernel_rfl) ?_
              refine WC.seq (by kernel_rfl) ?_
              refine WC.reg [0, 1, 2, 3, 4, 5] (by kernel_rfl) (by kernel_rfl) ?_
              refine WR.runk [0, 1, 2] [3, 4, 5] [86, 87, 88] (L' := [(86, .pointer (some ⟨b48, 0, none⟩)), (87, .int .i64 a2_0), (88, .int .i64 a2_1)]) (w' := w95) (by kernel_rfl) ?_
              obtain ⟨r98, e99, H⟩ := bind_ex H
              refine WR.st (St.call (by kernel_rfl) (f := 11) (args := #[.pointer (some ⟨b48, 0, none⟩), .int .i64 a2_0, .int .i64 a2_1]) (by kernel_rfl) (tally_Tally_Docs.calls w95 (.pointer (some ⟨b48, 0, none⟩)) (some y45) (Sat.rdAny 1 hS rfl (fun _ h => O58.rd _ _ _ h)) a2_0 a2_1 r98 e99) ?_)
              rintro _ w105 ⟨rfl, hS106⟩
              have hS : Sat w105 (rf w0) [osl 3 (r0 (.int .i64)) 1 A43 c44 r34, O58 b48 y45, pts b1 (.cells #[.int .i64 a2_0, .int .i64 a2_1] 23 (0, 0))] := hS.ext hS106
              refine WR.runk [4, 5] [] [6] (L' := [(6, .bool (r98 == 0))]) (w' := w105) (by kernel_rfl) ?_
              refine WR.nil ?_
              refine At.go ?_
              refine WC.ret (by kernel_rfl) ?_
              refine At.thenRet ?_
              obtain rfl := Option.some.inj H
              have hS : Sat w105 (rf w0) [] := hS.sel [] (by kernel_rfl)
              exact At.body [.bool (r98 == 0)] (by kernel_rfl) ⟨_, rfl, rfl, hS⟩
            · replace H := ite_f H hb97
              refine WR.runk [3, 4, 5, 6, 7] [8, 9, 10, 11, 12] [0, 7, 9, 12, 13, 80] (L' := [(0, .slice A0 l0.length c0), (7, .pointer (some ⟨b48, 0, none⟩)), (9, .slice A43 r34.length c44), (12, .int .i64 a2_0), (13, .int .i64 a2_1), (80, .bool (decide (a2_0 ≥ a2_1)))]) (w' := w95) (by kernel_rfl) ?_
              refine WR.split 80 (b := decide (a2_0 ≥ a2_1)) (by kernel_rfl) (fun hb107 => ?_) (fun hb107 => ?_)
              · replace H := ite_t H hb107
                refine WR.runk [8, 9, 10, 11, 12] [] [7, 9, 12, 13, 85] (L' := [(7, .pointer (some ⟨b48, 0, none⟩)), (9, .slice A43 r34.length c44), (12, .int .i64 a2_0), (13, .int .i64 a2_1), (85, .bool true)]) (w' := w95) (by kernel_rfl) ?_
                refine WR.nil ?_
                refine At.go ?_
                refine WC.condT (by kernel_rfl) (by kernel_rfl) (by kernel_rfl) ?_
                refine WC.seq (by kernel_rfl) ?_
                refine WC.reg [0, 1, 2, 3, 4, 5] (by kernel_rfl) (by kernel_rfl) ?_
                refine WR.runk [0, 1, 2] [3, 4, 5] [86, 87, 88] (L' := [(86, .pointer (some ⟨b48, 0, none⟩)), (87, .int .i64 a2_0), (88, .int .i64 a2_1)]) (w' := w95) (by kernel_rfl) ?_
                obtain ⟨r108, e109, H⟩ := bind_ex H
                refine WR.st (St.call (by kernel_rfl) (f := 11) (args := #[.pointer (some ⟨b48, 0, none⟩), .int .i64 a2_0, .int .i64 a2_1]) (by kernel_rfl) (tally_Tally_Docs.calls w95 (.pointer (some ⟨b48, 0, none⟩)) (some y45) (Sat.rdAny 1 hS rfl (fun _ h => O58.rd _ _ _ h)) a2_0 a2_1 r108 e109) ?_)
                rintro _ w115 ⟨rfl, hS116⟩
                have hS : Sat w115 (rf w0) [osl 3 (r0 (.int .i64)) 1 A43 c44 r34, O58 b48 y45, pts b1 (.cells #[.int .i64 a2_0, .int .i64 a2_1] 23 (0, 0))] := hS.ext hS116
                refine WR.runk [4, 5] [] [6] (L' := [(6, .bool (r108 == 0))]) (w' := w115) (by kernel_rfl) ?_
                refine WR.nil ?_
                refine At.go ?_
                refine WC.ret (by kernel_rfl) ?_
                refine At.thenRet ?_
                obtain rfl := Option.some.inj H
                have hS : Sat w115 (rf w0) [] := hS.sel [] (by kernel_rfl)
                exact At.body [.bool (r108 == 0)] (by kernel_rfl) ⟨_, rfl, rfl, hS⟩
              · replace H := ite_f H hb107
                refine WR.runk [8, 9, 10, 11, 12] [] [7, 9, 12, 13, 85] (L' := [(7, .pointer (some ⟨b48, 0, none⟩)), (9, .slice A43 r34.length c44), (12, .int .i64 a2_0), (13, .int .i64 a2_1), (85, .bool (decide (a2_1 > (l0.length : Int))))]) (w' := w95) (by kernel_rfl) ?_
                refine WR.nil ?_
                refine At.go ?_
                refine WC.cond (by kernel_rfl) (decide (a2_1 > (l0.length : Int))) (by kernel_rfl) (by kernel_rfl) (fun hb117 => ?_) (fun hb117 => ?_)
                · replace H := ite_t H hb117
                  refine WC.seq (by kernel_rfl) ?_
                  refine WC.reg [0, 1, 2, 3, 4, 5] (by kernel_rfl) (by kernel_rfl) ?_
                  refine WR.runk [0, 1, 2] [3, 4, 5] [86, 87, 88] (L' := [(86, .pointer (some ⟨b48, 0, none⟩)), (87, .int .i64 a2_0), (88, .int .i64 a2_1)]) (w' := w95) (by kernel_rfl) ?_
                  obtain ⟨r118, e119, H⟩ := bind_ex H
                  refine WR.st (St.call (by kernel_rfl) (f := 11) (args := #[.pointer (some ⟨b48, 0, none⟩), .int .i64 a2_0, .int .i64 a2_1]) (by kernel_rfl) (tally_Tally_Docs.calls w95 (.pointer (some ⟨b48, 0, none⟩)) (some y45) (Sat.rdAny 1 hS rfl (fun _ h => O58.rd _ _ _ h)) a2_0 a2_1 r118 e119) ?_)
                  rintro _ w125 ⟨rfl, hS126⟩
                  have hS : Sat w125 (rf w0) [osl 3 (r0 (.int .i64)) 1 A43 c44 r34, O58 b48 y45, pts b1 (.cells #[.int .i64 a2_0, .int .i64 a2_1] 23 (0, 0))] := hS.ext hS126
                  refine WR.runk [4, 5] [] [6] (L' := [(6, .bool (r118 == 0))]) (w' := w125) (by kernel_rfl) ?_
                  refine WR.nil ?_
                  refine At.go ?_
                  refine WC.ret (by kernel_rfl) ?_
                  refine At.thenRet ?_
                  obtain rfl := Option.some.inj H
                  have hS : Sat w125 (rf w0) [] := hS.sel [] (by kernel_rfl)
                  exact At.body [.bool (r118 == 0)] (by kernel_rfl) ⟨_, rfl, rfl, hS⟩
                · replace H := ite_f H hb117
                  refine WC.skip (by kernel_rfl) ?_
                  refine At.go ?_
                  refine WC.seq (by kernel_rfl) ?_
                  refine WC.reg [0, 1, 2, 3] (by kernel_rfl) (by kernel_rfl) ?_
                  refine WR.runk [0, 1, 2, 3] [] [7, 9, 12, 13, 14] (L' := [(7, .pointer (some ⟨b48, 0, none⟩)), (9, .slice A43 r34.length c44), (12, .int .i64 a2_0), (13, .int .i64 a2_1), (14, .int .i64 (wi (a2_1 - a2_0)))]) (w' := w95) (by kernel_rfl) ?_
                  refine WR.nil ?_
                  refine At.go ?_
                  refine WC.seq (by kernel_rfl) ?_
                  refine WC.seq (by kernel_rfl) ?_
                  refine WC.reg [0, 1, 2] (by kernel_rfl) (by kernel_rfl) ?_
                  refine WR.runk [0, 1, 2] [] [7, 9, 12, 13, 14, 15] (L' := [(7, .pointer (some ⟨b48, 0, none⟩)), (9, .slice A43 r34.length c44), (12, .int .i64 a2_0), (13, .int .i64 a2_1), (14, .int .i64 (wi (a2_1 - a2_0))), (15, .int .i64 (wi (a2_0 + 1)))]) (w' := w95) (by kernel_rfl) ?_
                  refine WR.nil ?_
                  refine At.go ?_
                  refine WC.block (by kernel_rfl) ?_
                  have hS : Sat w95 (rf w0) [osl 3 (r0 (.int .i64)) 1 A43 c44 r34, O58 b48 y45] := hS.sel [0, 1] (by kernel_rfl)
                  obtain ⟨o130, e131, H⟩ := bind_ex H
                  refine WC.loop (by kernel_rfl) ?_
                  refine WL.weaken [7, 9, 12, 13, 14, 15] (L' := [(7, .pointer (some ⟨b48, 0, none⟩)), (9, .slice A43 r34.length c44), (12, .int .i64 a2_0), (13, .int .i64 a2_1), (14, .int .i64 (wi (a2_1 - a2_0))), (15, .int .i64 (wi (a2_0 + 1)))]) (by kernel_rfl) ?_
                  refine colophonlaw16_TallyDoubles.l2_ok w0 a2_0 a2_1 r34 A43 c44 y45 b48 o130 (fun w133 hS => ?_) FU (wi (a2_1 - a2_0)) (wi (a2_0 + 1)) _ hS e131
                  refine At.hit ?_
                  refine At.go ?_
                  refine WC.seq (by kernel_rfl) ?_
                  refine WC.reg [0, 1, 2, 3, 4, 5, 6] (by kernel_rfl) (by kernel_rfl) ?_
                  refine WR.runk [0, 1, 2] [3, 4, 5, 6] [14, 107, 108, 109] (L' := [(14, .int .i64 o130), (107, .pointer (some ⟨b48, 0, none⟩)), (108, .int .i64 a2_0), (109, .int .i64 a2_1)]) (w' := w133) (by kernel_rfl) ?_
                  obtain ⟨r135, e136, H⟩ := bind_ex H
                  refine WR.st (St.call (by kernel_rfl) (f := 11) (args := #[.pointer (some ⟨b48, 0, none⟩), .int .i64 a2_0, .int .i64 a2_1]) (by kernel_rfl) (tally_Tally_Docs.calls w133 (.pointer (some ⟨b48, 0, none⟩)) (some y45) (Sat.rdAny 0 hS rfl (fun _ h => O58.rd _ _ _ h)) a2_0 a2_1 r135 e136) ?_)
                  rintro _ w142 ⟨rfl, hS143⟩
                  have hS : Sat w142 (rf w0) [O58 b48 y45] := hS.ext hS143
                  refine WR.runk [4, 5, 6] [] [6] (L' := [(6, .bool (r135 == o130))]) (w' := w142) (by kernel_rfl) ?_
                  refine WR.nil ?_
                  refine At.go ?_
                  refine WC.ret (by kernel_rfl) ?_
                  obtain rfl := Option.some.inj H
                  have hS : Sat w142 (rf w0) [] := hS.sel [] (by kernel_rfl)
                  exact At.body [.bool (r135 == o130)] (by kernel_rfl) ⟨_, rfl, rfl, hS⟩
end Go.Proofs.Ytmdemfbkdbilpaa
