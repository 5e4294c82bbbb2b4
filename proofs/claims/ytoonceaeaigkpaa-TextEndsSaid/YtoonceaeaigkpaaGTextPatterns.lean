/-
  Printed by gen.py (my own tool): for each Go function a plain Lean function and the proof that a call of it does what that function says.
-/
import Derived.Test.YtoonceaeaigkpaaGP1
set_option linter.unusedVariables false
set_option linter.unusedSimpArgs false
set_option maxRecDepth 100000
namespace Go.Proofs.Ytoonceaeaigkpaa
open Go Go.Gol
/-! ### 4 colophon/colophonlaw08.TextPatterns -/
def colophonlaw08_TextPatterns.l1 (l0 : List (List Int)) (l1 : List Int) (r33 : (List Int)) (y45 : (List (List Int)) × (List Int) × Int) : Nat → Int → Option (Sum Bool Unit)
  | 0, _ => none
  | k + 1, x39_l1 => (if decide (x39_l1 < (r33.length : Int)) then ((at? r33 x39_l1).bind fun v53 => ((at? l1 x39_l1).bind fun v55 => (if (v53 != (wi ((wi v55) + (l0.length : Int)))) then some (.inl false) else ((text_Text_Alphabet.f (some y45)).bind fun r58 => (if decide (v53 ≥ r58) then some (.inl false) else colophonlaw08_TextPatterns.l1 l0 l1 r33 y45 k (wi (x39_l1 + 1))))))) else some (.inr ()))
def colophonlaw08_TextPatterns.f (l0 : List (List Int)) (l1 : List Int) : Option Bool := (colophonlaw08_first.f.bind fun r1 => (if (!r1) then some false else ((colophonref08_Small.f l0 20000 256).bind fun r11 => (if (!r11) then some true else (if decide ((l1.length : Int) > 2000) then some true else ((text_New.f l0).bind fun r22 => (if (r22.2 != 0) then some false else ((text_Text_Pattern.f r22.1 l1).bind fun r33 => (if ((r33.length : Int) != (l1.length : Int)) then some false else (r22.1.bind fun y45 => ((colophonlaw08_TextPatterns.l1 l0 l1 r33 y45 FU 0).bind fun o68 => (match o68 with | .inl o70 => some o70 | .inr o74 => ((text_Text_Doc.f none 0).bind fun r78 => ((text_Text_Docs.f none).bind fun r87 => (if (r87 == 0) then ((text_Text_Len.f none).bind fun r97 => (if (r97 == 0) then ((text_Text_Alphabet.f none).bind fun r107 => (if (r107 == 0) then ((text_Text_Symbols.f none).bind fun r117 => (if ((r117.length : Int) == 0) then ((text_Text_Pattern.f none l1).bind fun r129 => (if ((r129.length : Int) == 0) then (if (r78.1 == (-1)) then (if (r78.2 == (-1)) then ((text_Text_Start.f none 0).bind fun r143 => (if (r143 == (-1)) then ((text_Text_Bytes.f none 0).bind fun r153 => some ((r153.length : Int) == 0)) else some false)) else some false) else some false) else some false)) else some false)) else some false)) else some false)) else some false)))))))))))))))
def colophonlaw08_TextPatterns.post (w : World) (r : Bool) (v : Value) (w' : World) : Prop := v = (.bool r : Value) ∧ Sat w' (rf w) []
theorem colophonlaw08_TextPatterns.l1_ok {Q} (w0 : World) (A0 : Option Addr) (c0 : Nat) (l0 : List (List Int)) (A1 : Option Addr) (c1 : Nat) (l1 : List Int) (r33 : (List Int)) (A42 : Option Addr) (c43 : Nat) (y45 : (List (List Int)) × (List Int) × Int) (b48 : Nat) (R1 : rdS (r0 (.int .u8)) 1 (hp w0) A1 c1 l1) (out : Sum Bool Unit) (hn0 : ∀ (o0 : Bool) (w : World), out = (.inl o0) → Sat w (rf w0) [O45 b48 y45] → At Q .ret 115 [(4, .bool o0)] w) (hn1 : ∀ (o1 : Unit) (w : World), out = (.inr o1) → Sat w (rf w0) [O45 b48 y45] → At Q (.exit 0) 115 [(1, .slice A1 l1.length c1)] w) :
    ∀ (k : Nat) (x39_l1 : Int) (w : World), Sat w (rf w0) [osl 3 (r0 (.int .i64)) 1 A42 c43 r33, O45 b48 y45] → colophonlaw08_TextPatterns.l1 l0 l1 r33 y45 k x39_l1 = some out → WL Try.prog (cbody (cbody (cr (cl (cr (cr (cr (cr (cr (cr (cr C4))))))))))) Q 115 [(0, .slice A0 l0.length c0), (1, .slice A1 l1.length c1), (5, .pointer (some ⟨b48, 0, none⟩)), (7, .slice A42 r33.length c43), (38, .int .i64 (r33.length : Int)), (39, .int .i64 x39_l1)] w := by
  intro k
  induction k with
  | zero => intro x39_l1 w hS H; exact absurd (show none = some out from H) (by simp)
  | succ k ih =>
    intro x39_l1 w hS H
    unfold colophonlaw08_TextPatterns.l1 at H
    refine WL.round ?_
    refine WC.seq (by kernel_rfl) ?_
    refine WC.reg [0] (by kernel_rfl) (by kernel_rfl) ?_
    refine WR.runk [0] [] [0, 1, 5, 7, 38, 39, 40] (L' := [(0, .slice A0 l0.length c0), (1, .slice A1 l1.length c1), (5, .pointer (some ⟨b48, 0, none⟩)), (7, .slice A42 r33.length c43), (38, .int .i64 (r33.length : Int)), (39, .int .i64 x39_l1), (40, .bool (decide (x39_l1 < (r33.length : Int))))]) (w' := w) (by kernel_rfl) ?_
    refine WR.nil ?_
    refine At.go ?_
    refine WC.seq (by kernel_rfl) ?_
    refine WC.cond (by kernel_rfl) (decide (x39_l1 < (r33.length : Int))) (by kernel_rfl) (by kernel_rfl) (fun hb50 => ?_) (fun hb50 => ?_)
    · replace H := ite_t H hb50
      refine WC.skip (by kernel_rfl) ?_
      refine At.go ?_
      refine WC.seq (by kernel_rfl) ?_
      refine WC.block (by kernel_rfl) ?_
      refine WC.seq (by kernel_rfl) ?_
      refine WC.reg [0, 1] (by kernel_rfl) (by kernel_rfl) ?_
      refine WR.runk [0, 1] [] [0, 1, 5, 7, 8, 38, 39] (L' := [(0, .slice A0 l0.length c0), (1, .slice A1 l1.length c1), (5, .pointer (some ⟨b48, 0, none⟩)), (7, .slice A42 r33.length c43), (8, .int .i64 x39_l1), (38, .int .i64 (r33.length : Int)), (39, .int .i64 x39_l1)]) (w' := w) (by kernel_rfl) ?_
      refine WR.nil ?_
      refine At.go ?_
      refine WC.seq (by kernel_rfl) ?_
      refine WC.drawn (by kernel_rfl) (by kernel_rfl) 22 (by kernel_rfl) (fun w51 hw52 => ?_)
      have hS := hS.heap hw52.1 hw52.2
      refine WD.weaken [0, 1, 5, 7, 8, 38, 39] (L' := [(0, .slice A0 l0.length c0), (1, .slice A1 l1.length c1), (5, .pointer (some ⟨b48, 0, none⟩)), (7, .slice A42 r33.length c43), (8, .int .i64 x39_l1), (38, .int .i64 (r33.length : Int)), (39, .int .i64 x39_l1)]) (by kernel_rfl) ?_
      refine WD.pure (i := 0) (v := .slice A42 r33.length c43) (by kernel_rfl) (by kernel_rfl) (fun _ => by kernel_rfl) ?_
      refine WD.weaken [0, 1, 5, 7, 8, 38, 39, 42] (L' := [(0, .slice A0 l0.length c0), (1, .slice A1 l1.length c1), (5, .pointer (some ⟨b48, 0, none⟩)), (7, .slice A42 r33.length c43), (8, .int .i64 x39_l1), (38, .int .i64 (r33.length : Int)), (39, .int .i64 x39_l1), (42, .slice A42 r33.length c43)]) (by kernel_rfl) ?_
      refine WD.pure (i := 1) (v := .int .i64 x39_l1) (by kernel_rfl) (by kernel_rfl) (fun _ => by kernel_rfl) ?_
      refine WD.weaken [0, 1, 5, 7, 8, 38, 39, 42, 43] (L' := [(0, .slice A0 l0.length c0), (1, .slice A1 l1.length c1), (5, .pointer (some ⟨b48, 0, none⟩)), (7, .slice A42 r33.length c43), (8, .int .i64 x39_l1), (38, .int .i64 (r33.length : Int)), (39, .int .i64 x39_l1), (42, .slice A42 r33.length c43), (43, .int .i64 x39_l1)]) (by kernel_rfl) ?_
      obtain ⟨v53, e54, H⟩ := bind_ex H
      refine WD.ofP (i := 2) (by kernel_rfl) (PSt.idx (k := .i64) (.tmp 42) (.tmp 43) (by kernel_rfl) (by kernel_rfl) E30 (by kernel_rfl) (by kernel_rfl) (Sat.rdAt 0 hS rfl) e54 ?_)
      refine WD.weaken [0, 1, 5, 7, 8, 38, 39, 44] (L' := [(0, .slice A0 l0.length c0), (1, .slice A1 l1.length c1), (5, .pointer (some ⟨b48, 0, none⟩)), (7, .slice A42 r33.length c43), (8, .int .i64 x39_l1), (38, .int .i64 (r33.length : Int)), (39, .int .i64 x39_l1), (44, .pointer (some (adr A42 x39_l1.toNat 1)))]) (by kernel_rfl) ?_
      refine WD.ofR (i := 3) (by kernel_rfl) (RSt.loadInt (t := 3) (.tmp 44) (by kernel_rfl) (by kernel_rfl) (by kernel_rfl) (by kernel_rfl) (Sat.rdAt 0 hS rfl) e54 ?_)
      refine WD.weaken [0, 1, 5, 7, 8, 38, 39, 45] (L' := [(0, .slice A0 l0.length c0), (1, .slice A1 l1.length c1), (5, .pointer (some ⟨b48, 0, none⟩)), (7, .slice A42 r33.length c43), (8, .int .i64 x39_l1), (38, .int .i64 (r33.length : Int)), (39, .int .i64 x39_l1), (45, .int .i64 v53)]) (by kernel_rfl) ?_
      refine WD.pure (i := 4) (v := .slice A1 l1.length c1) (by kernel_rfl) (by kernel_rfl) (fun _ => by kernel_rfl) ?_
      refine WD.weaken [0, 1, 5, 7, 8, 38, 39, 45, 46] (L' := [(0, .slice A0 l0.length c0), (1, .slice A1 l1.length c1), (5, .pointer (some ⟨b48, 0, none⟩)), (7, .slice A42 r33.length c43), (8, .int .i64 x39_l1), (38, .int .i64 (r33.length : Int)), (39, .int .i64 x39_l1), (45, .int .i64 v53), (46, .slice A1 l1.length c1)]) (by kernel_rfl) ?_
      refine WD.pure (i := 5) (v := .int .i64 x39_l1) (by kernel_rfl) (by kernel_rfl) (fun _ => by kernel_rfl) ?_
      refine WD.weaken [0, 1, 5, 7, 8, 38, 39, 45, 46, 47] (L' := [(0, .slice A0 l0.length c0), (1, .slice A1 l1.length c1), (5, .pointer (some ⟨b48, 0, none⟩)), (7, .slice A42 r33.length c43), (8, .int .i64 x39_l1), (38, .int .i64 (r33.length : Int)), (39, .int .i64 x39_l1), (45, .int .i64 v53), (46, .slice A1 l1.length c1), (47, .int .i64 x39_l1)]) (by kernel_rfl) ?_
      obtain ⟨v55, e56, H⟩ := bind_ex H
      refine WD.ofP (i := 6) (by kernel_rfl) (PSt.idx (k := .i64) (.tmp 46) (.tmp 47) (by kernel_rfl) (by kernel_rfl) E24 (by kernel_rfl) (by kernel_rfl) (rdS.up R1 hS.sub0) e56 ?_)
      refine WD.weaken [0, 1, 5, 7, 8, 38, 39, 45, 48] (L' := [(0, .slice A0 l0.length c0), (1, .slice A1 l1.length c1), (5, .pointer (some ⟨b48, 0, none⟩)), (7, .slice A42 r33.length c43), (8, .int .i64 x39_l1), (38, .int .i64 (r33.length : Int)), (39, .int .i64 x39_l1), (45, .int .i64 v53), (48, .pointer (some (adr A1 x39_l1.toNat 1)))]) (by kernel_rfl) ?_
      refine WD.ofR (i := 7) (by kernel_rfl) (RSt.loadInt (t := 5) (.tmp 48) (by kernel_rfl) (by kernel_rfl) (by kernel_rfl) (by kernel_rfl) (rdS.up R1 hS.sub0) e56 ?_)
      refine WD.weaken [0, 1, 5, 7, 8, 38, 39, 45, 49] (L' := [(0, .slice A0 l0.length c0), (1, .slice A1 l1.length c1), (5, .pointer (some ⟨b48, 0, none⟩)), (7, .slice A42 r33.length c43), (8, .int .i64 x39_l1), (38, .int .i64 (r33.length : Int)), (39, .int .i64 x39_l1), (45, .int .i64 v53), (49, .int .u8 v55)]) (by kernel_rfl) ?_
      refine WD.pure (i := 8) (v := .int .i64 (wi v55)) (by kernel_rfl) (by kernel_rfl) (fun _ => by kernel_rfl) ?_
      refine WD.weaken [0, 1, 5, 7, 8, 38, 39, 45, 50] (L' := [(0, .slice A0 l0.length c0), (1, .slice A1 l1.length c1), (5, .pointer (some ⟨b48, 0, none⟩)), (7, .slice A42 r33.length c43), (8, .int .i64 x39_l1), (38, .int .i64 (r33.length : Int)), (39, .int .i64 x39_l1), (45, .int .i64 v53), (50, .int .i64 (wi v55))]) (by kernel_rfl) ?_
      refine WD.pure (i := 9) (v := .slice A0 l0.length c0) (by kernel_rfl) (by kernel_rfl) (fun _ => by kernel_rfl) ?_
      refine WD.weaken [0, 1, 5, 7, 8, 38, 39, 45, 50, 51] (L' := [(0, .slice A0 l0.length c0), (1, .slice A1 l1.length c1), (5, .pointer (some ⟨b48, 0, none⟩)), (7, .slice A42 r33.length c43), (8, .int .i64 x39_l1), (38, .int .i64 (r33.length : Int)), (39, .int .i64 x39_l1), (45, .int .i64 v53), (50, .int .i64 (wi v55)), (51, .slice A0 l0.length c0)]) (by kernel_rfl) ?_
      refine WD.pure (i := 10) (v := .int .i64 (l0.length : Int)) (by kernel_rfl) (by kernel_rfl) (fun _ => by kernel_rfl) ?_
      refine WD.weaken [0, 1, 5, 7, 8, 38, 39, 45, 50, 52] (L' := [(0, .slice A0 l0.length c0), (1, .slice A1 l1.length c1), (5, .pointer (some ⟨b48, 0, none⟩)), (7, .slice A42 r33.length c43), (8, .int .i64 x39_l1), (38, .int .i64 (r33.length : Int)), (39, .int .i64 x39_l1), (45, .int .i64 v53), (50, .int .i64 (wi v55)), (52, .int .i64 (l0.length : Int))]) (by kernel_rfl) ?_
      refine WD.pure (i := 11) (v := .int .i64 (wi ((wi v55) + (l0.length : Int)))) (by kernel_rfl) (by kernel_rfl) (fun _ => by kernel_rfl) ?_
      refine WD.weaken [0, 1, 5, 7, 8, 38, 39, 45, 53] (L' := [(0, .slice A0 l0.length c0), (1, .slice A1 l1.length c1), (5, .pointer (some ⟨b48, 0, none⟩)), (7, .slice A42 r33.length c43), (8, .int .i64 x39_l1), (38, .int .i64 (r33.length : Int)), (39, .int .i64 x39_l1), (45, .int .i64 v53), (53, .int .i64 (wi ((wi v55) + (l0.length : Int))))]) (by kernel_rfl) ?_
      refine WD.pure (i := 12) (v := .bool (v53 != (wi ((wi v55) + (l0.length : Int))))) (by kernel_rfl) (by kernel_rfl) (fun _ => by kernel_rfl) ?_
      refine WD.weaken [0, 1, 5, 7, 8, 38, 39, 54] (L' := [(0, .slice A0 l0.length c0), (1, .slice A1 l1.length c1), (5, .pointer (some ⟨b48, 0, none⟩)), (7, .slice A42 r33.length c43), (8, .int .i64 x39_l1), (38, .int .i64 (r33.length : Int)), (39, .int .i64 x39_l1), (54, .bool (v53 != (wi ((wi v55) + (l0.length : Int)))))]) (by kernel_rfl) ?_
      refine WD.pure (i := 13) (v := .bool (v53 != (wi ((wi v55) + (l0.length : Int))))) (by kernel_rfl) (by kernel_rfl) (fun _ => by kernel_rfl) ?_
      refine WD.weaken [0, 1, 5, 7, 8, 38, 39, 55] (L' := [(0, .slice A0 l0.length c0), (1, .slice A1 l1.length c1), (5, .pointer (some ⟨b48, 0, none⟩)), (7, .slice A42 r33.length c43), (8, .int .i64 x39_l1), (38, .int .i64 (r33.length : Int)), (39, .int .i64 x39_l1), (55, .bool (v53 != (wi ((wi v55) + (l0.length : Int)))))]) (by kernel_rfl) ?_
      refine WD.split 55 (b := (v53 != (wi ((wi v55) + (l0.length : Int))))) (by kernel_rfl) (fun hb57 => ?_) (fun hb57 => ?_)
      · replace H := ite_t H hb57
        refine WD.weaken [0, 1, 5, 7, 8, 38, 39, 55] (L' := [(0, .slice A0 l0.length c0), (1, .slice A1 l1.length c1), (5, .pointer (some ⟨b48, 0, none⟩)), (7, .slice A42 r33.length c43), (8, .int .i64 x39_l1), (38, .int .i64 (r33.length : Int)), (39, .int .i64 x39_l1), (55, .bool true)]) (by kernel_rfl) ?_
        refine WD.skip (i := 14) (by kernel_rfl) (by kernel_rfl) ?_
        refine WD.weaken [0, 1, 5, 7, 8, 38, 39, 55, 56] (L' := [(0, .slice A0 l0.length c0), (1, .slice A1 l1.length c1), (5, .pointer (some ⟨b48, 0, none⟩)), (7, .slice A42 r33.length c43), (8, .int .i64 x39_l1), (38, .int .i64 (r33.length : Int)), (39, .int .i64 x39_l1), (55, .bool true), (56, undef)]) (by kernel_rfl) ?_
        refine WD.skip (i := 15) (by kernel_rfl) (by kernel_rfl) ?_
        refine WD.weaken [0, 1, 5, 7, 38, 39, 55, 56, 57] (L' := [(0, .slice A0 l0.length c0), (1, .slice A1 l1.length c1), (5, .pointer (some ⟨b48, 0, none⟩)), (7, .slice A42 r33.length c43), (38, .int .i64 (r33.length : Int)), (39, .int .i64 x39_l1), (55, .bool true), (56, undef), (57, undef)]) (by kernel_rfl) ?_
        refine WD.skip (i := 16) (by kernel_rfl) (by kernel_rfl) ?_
        refine WD.weaken [0, 1, 5, 7, 38, 39, 55, 56, 57, 58] (L' := [(0, .slice A0 l0.length c0), (1, .slice A1 l1.length c1), (5, .pointer (some ⟨b48, 0, none⟩)), (7, .slice A42 r33.length c43), (38, .int .i64 (r33.length : Int)), (39, .int .i64 x39_l1), (55, .bool true), (56, undef), (57, undef), (58, undef)]) (by kernel_rfl) ?_
        refine WD.skip (i := 17) (by kernel_rfl) (by kernel_rfl) ?_
        refine WD.weaken [0, 1, 5, 7, 38, 39, 55, 56, 57, 58, 59] (L' := [(0, .slice A0 l0.length c0), (1, .slice A1 l1.length c1), (5, .pointer (some ⟨b48, 0, none⟩)), (7, .slice A42 r33.length c43), (38, .int .i64 (r33.length : Int)), (39, .int .i64 x39_l1), (55, .bool true), (56, undef), (57, undef), (58, undef), (59, undef)]) (by kernel_rfl) ?_
        refine WD.skip (i := 18) (by kernel_rfl) (by kernel_rfl) ?_
        refine WD.weaken [0, 1, 5, 7, 38, 39, 55, 56, 57, 58, 59, 60] (L' := [(0, .slice A0 l0.length c0), (1, .slice A1 l1.length c1), (5, .pointer (some ⟨b48, 0, none⟩)), (7, .slice A42 r33.length c43), (38, .int .i64 (r33.length : Int)), (39, .int .i64 x39_l1), (55, .bool true), (56, undef), (57, undef), (58, undef), (59, undef), (60, undef)]) (by kernel_rfl) ?_
        refine WD.skip (i := 19) (by kernel_rfl) (by kernel_rfl) ?_
        refine WD.weaken [0, 1, 5, 7, 38, 39, 55, 56, 57, 58, 59, 60, 61] (L' := [(0, .slice A0 l0.length c0), (1, .slice A1 l1.length c1), (5, .pointer (some ⟨b48, 0, none⟩)), (7, .slice A42 r33.length c43), (38, .int .i64 (r33.length : Int)), (39, .int .i64 x39_l1), (55, .bool true), (56, undef), (57, undef), (58, undef), (59, undef), (60, undef), (61, undef)]) (by kernel_rfl) ?_
        refine WD.skip (i := 20) (by kernel_rfl) (by kernel_rfl) ?_
        refine WD.weaken [0, 1, 5, 7, 38, 39, 55, 56, 57, 58, 59, 60, 61, 62] (L' := [(0, .slice A0 l0.length c0), (1, .slice A1 l1.length c1), (5, .pointer (some ⟨b48, 0, none⟩)), (7, .slice A42 r33.length c43), (38, .int .i64 (r33.length : Int)), (39, .int .i64 x39_l1), (55, .bool true), (56, undef), (57, undef), (58, undef), (59, undef), (60, undef), (61, undef), (62, undef)]) (by kernel_rfl) ?_
        refine WD.pure (i := 21) (v := .bool true) (by kernel_rfl) (by kernel_rfl) (fun _ => by kernel_rfl) ?_
        refine WD.weaken [0, 1, 5, 7, 38, 39, 56, 57, 58, 59, 60, 61, 62, 63] (L' := [(0, .slice A0 l0.length c0), (1, .slice A1 l1.length c1), (5, .pointer (some ⟨b48, 0, none⟩)), (7, .slice A42 r33.length c43), (38, .int .i64 (r33.length : Int)), (39, .int .i64 x39_l1), (56, undef), (57, undef), (58, undef), (59, undef), (60, undef), (61, undef), (62, undef), (63, .bool true)]) (by kernel_rfl) ?_
        refine WD.nil (by kernel_rfl) ?_
        refine At.go ?_
        refine WC.condT (by kernel_rfl) (by kernel_rfl) (by kernel_rfl) ?_
        refine WC.seq (by kernel_rfl) ?_
        refine WC.reg [0] (by kernel_rfl) (by kernel_rfl) ?_
        refine WR.runk [0] [] [4] (L' := [(4, .bool false)]) (w' := w51) (by kernel_rfl) ?_
        refine WR.nil ?_
        refine At.go ?_
        refine WC.ret (by kernel_rfl) ?_
        refine At.blockRet ?_
        refine At.thenRet ?_
        refine At.thenRet ?_
        obtain rfl := Option.some.inj H
        have hS : Sat w51 (rf w0) [O45 b48 y45] := hS.sel [1] (by kernel_rfl)
        refine At.weaken [4] (L' := [(4, .bool false)]) (by kernel_rfl) ?_
        exact hn0 false _ rfl hS
      · replace H := ite_f H hb57
        refine WD.weaken [0, 1, 5, 7, 8, 38, 39, 55] (L' := [(0, .slice A0 l0.length c0), (1, .slice A1 l1.length c1), (5, .pointer (some ⟨b48, 0, none⟩)), (7, .slice A42 r33.length c43), (8, .int .i64 x39_l1), (38, .int .i64 (r33.length : Int)), (39, .int .i64 x39_l1), (55, .bool false)]) (by kernel_rfl) ?_
        refine WD.pure (i := 14) (v := .slice A42 r33.length c43) (by kernel_rfl) (by kernel_rfl) (fun _ => by kernel_rfl) ?_
        refine WD.weaken [0, 1, 5, 7, 8, 38, 39, 55, 56] (L' := [(0, .slice A0 l0.length c0), (1, .slice A1 l1.length c1), (5, .pointer (some ⟨b48, 0, none⟩)), (7, .slice A42 r33.length c43), (8, .int .i64 x39_l1), (38, .int .i64 (r33.length : Int)), (39, .int .i64 x39_l1), (55, .bool false), (56, .slice A42 r33.length c43)]) (by kernel_rfl) ?_
        refine WD.pure (i := 15) (v := .int .i64 x39_l1) (by kernel_rfl) (by kernel_rfl) (fun _ => by kernel_rfl) ?_
        refine WD.weaken [0, 1, 5, 7, 38, 39, 55, 56, 57] (L' := [(0, .slice A0 l0.length c0), (1, .slice A1 l1.length c1), (5, .pointer (some ⟨b48, 0, none⟩)), (7, .slice A42 r33.length c43), (38, .int .i64 (r33.length : Int)), (39, .int .i64 x39_l1), (55, .bool false), (56, .slice A42 r33.length c43), (57, .int .i64 x39_l1)]) (by kernel_rfl) ?_
        refine WD.ofP (i := 16) (by kernel_rfl) (PSt.idx (k := .i64) (.tmp 56) (.tmp 57) (by kernel_rfl) (by kernel_rfl) E30 (by kernel_rfl) (by kernel_rfl) (Sat.rdAt 0 hS rfl) e54 ?_)
        refine WD.weaken [0, 1, 5, 7, 38, 39, 55, 56, 57, 58] (L' := [(0, .slice A0 l0.length c0), (1, .slice A1 l1.length c1), (5, .pointer (some ⟨b48, 0, none⟩)), (7, .slice A42 r33.length c43), (38, .int .i64 (r33.length : Int)), (39, .int .i64 x39_l1), (55, .bool false), (56, .slice A42 r33.length c43), (57, .int .i64 x39_l1), (58, .pointer (some (adr A42 x39_l1.toNat 1)))]) (by kernel_rfl) ?_
        refine WD.ofR (i := 17) (by kernel_rfl) (RSt.loadInt (t := 3) (.tmp 58) (by kernel_rfl) (by kernel_rfl) (by kernel_rfl) (by kernel_rfl) (Sat.rdAt 0 hS rfl) e54 ?_)
        refine WD.weaken [0, 1, 5, 7, 38, 39, 55, 56, 57, 58, 59] (L' := [(0, .slice A0 l0.length c0), (1, .slice A1 l1.length c1), (5, .pointer (some ⟨b48, 0, none⟩)), (7, .slice A42 r33.length c43), (38, .int .i64 (r33.length : Int)), (39, .int .i64 x39_l1), (55, .bool false), (56, .slice A42 r33.length c43), (57, .int .i64 x39_l1), (58, .pointer (some (adr A42 x39_l1.toNat 1))), (59, .int .i64 v53)]) (by kernel_rfl) ?_
        refine WD.pure (i := 18) (v := .pointer (some ⟨b48, 0, none⟩)) (by kernel_rfl) (by kernel_rfl) (fun _ => by kernel_rfl) ?_
        refine WD.weaken [0, 1, 5, 7, 38, 39, 55, 56, 57, 58, 59, 60] (L' := [(0, .slice A0 l0.length c0), (1, .slice A1 l1.length c1), (5, .pointer (some ⟨b48, 0, none⟩)), (7, .slice A42 r33.length c43), (38, .int .i64 (r33.length : Int)), (39, .int .i64 x39_l1), (55, .bool false), (56, .slice A42 r33.length c43), (57, .int .i64 x39_l1), (58, .pointer (some (adr A42 x39_l1.toNat 1))), (59, .int .i64 v53), (60, .pointer (some ⟨b48, 0, none⟩))]) (by kernel_rfl) ?_
        obtain ⟨r58, e59, H⟩ := bind_ex H
        refine WD.act (i := 19) (by kernel_rfl) (St.call (by kernel_rfl) (f := 13) (args := #[.pointer (some ⟨b48, 0, none⟩)]) (by kernel_rfl) (text_Text_Alphabet.calls w51 (.pointer (some ⟨b48, 0, none⟩)) (some y45) (Sat.rdAny 1 hS rfl (fun _ h => O45.rd _ _ _ h)) r58 e59) ?_)
        rintro _ w65 ⟨rfl, hS66⟩
        have hS : Sat w65 (rf w0) [osl 3 (r0 (.int .i64)) 1 A42 c43 r33, O45 b48 y45] := hS.ext hS66
        refine ⟨(asked.cons (RSt.run (n := 115) (RSt.loadInt (t := 3) (.tmp 58) (by kernel_rfl) (by kernel_rfl) (by kernel_rfl) (by kernel_rfl) (Sat.rdAt 0 hS rfl) e54 rfl)) (asked.anc (by kernel_rfl) (asked.anc (by kernel_rfl) (asked.nil _ _)))), ?_⟩
        refine WD.weaken [0, 1, 5, 7, 38, 39, 55, 56, 57, 58, 59, 60, 61] (L' := [(0, .slice A0 l0.length c0), (1, .slice A1 l1.length c1), (5, .pointer (some ⟨b48, 0, none⟩)), (7, .slice A42 r33.length c43), (38, .int .i64 (r33.length : Int)), (39, .int .i64 x39_l1), (55, .bool false), (56, .slice A42 r33.length c43), (57, .int .i64 x39_l1), (58, .pointer (some (adr A42 x39_l1.toNat 1))), (59, .int .i64 v53), (60, .pointer (some ⟨b48, 0, none⟩)), (61, .int .i64 r58)]) (by kernel_rfl) ?_
        refine WD.pure (i := 20) (v := .bool (decide (v53 ≥ r58))) (by kernel_rfl) (by kernel_rfl) (fun _ => by kernel_rfl) ?_
        refine WD.weaken [0, 1, 5, 7, 38, 39, 55, 56, 57, 58, 59, 60, 61, 62] (L' := [(0, .slice A0 l0.length c0), (1, .slice A1 l1.length c1), (5, .pointer (some ⟨b48, 0, none⟩)), (7, .slice A42 r33.length c43), (38, .int .i64 (r33.length : Int)), (39, .int .i64 x39_l1), (55, .bool false), (56, .slice A42 r33.length c43), (57, .int .i64 x39_l1), (58, .pointer (some (adr A42 x39_l1.toNat 1))), (59, .int .i64 v53), (60, .pointer (some ⟨b48, 0, none⟩)), (61, .int .i64 r58), (62, .bool (decide (v53 ≥ r58)))]) (by kernel_rfl) ?_
        refine WD.pure (i := 21) (v := .bool (decide (v53 ≥ r58))) (by kernel_rfl) (by kernel_rfl) (fun _ => by kernel_rfl) ?_
        refine WD.weaken [0, 1, 5, 7, 38, 39, 56, 57, 58, 59, 60, 61, 62, 63] (L' := [(0, .slice A0 l0.length c0), (1, .slice A1 l1.length c1), (5, .pointer (some ⟨b48, 0, none⟩)), (7, .slice A42 r33.length c43), (38, .int .i64 (r33.length : Int)), (39, .int .i64 x39_l1), (56, .slice A42 r33.length c43), (57, .int .i64 x39_l1), (58, .pointer (some (adr A42 x39_l1.toNat 1))), (59, .int .i64 v53), (60, .pointer (some ⟨b48, 0, none⟩)), (61, .int .i64 r58), (62, .bool (decide (v53 ≥ r58))), (63, .bool (decide (v53 ≥ r58)))]) (by kernel_rfl) ?_
        refine WD.nil (by kernel_rfl) ?_
        refine At.go ?_
        refine WC.cond (by kernel_rfl) (decide (v53 ≥ r58)) (by kernel_rfl) (by kernel_rfl) (fun hb67 => ?_) (fun hb67 => ?_)
        · replace H := ite_t H hb67
          refine WC.seq (by kernel_rfl) ?_
          refine WC.reg [0] (by kernel_rfl) (by kernel_rfl) ?_
          refine WR.runk [0] [] [4] (L' := [(4, .bool false)]) (w' := w65) (by kernel_rfl) ?_
          refine WR.nil ?_
          refine At.go ?_
          refine WC.ret (by kernel_rfl) ?_
          refine At.blockRet ?_
          refine At.thenRet ?_
          refine At.thenRet ?_
          obtain rfl := Option.some.inj H
          have hS : Sat w65 (rf w0) [O45 b48 y45] := hS.sel [1] (by kernel_rfl)
          refine At.weaken [4] (L' := [(4, .bool false)]) (by kernel_rfl) ?_
          exact hn0 false _ rfl hS
        · replace H := ite_f H hb67
          refine WC.skip (by kernel_rfl) ?_
          refine At.blockNormal ?_
          refine At.go ?_
          refine WC.reg [0, 1] (by kernel_rfl) (by kernel_rfl) ?_
          refine WR.runk [0, 1] [] [0, 1, 5, 7, 38, 39, 56, 57, 58, 59, 60, 61] (L' := [(0, .slice A0 l0.length c0), (1, .slice A1 l1.length c1), (5, .pointer (some ⟨b48, 0, none⟩)), (7, .slice A42 r33.length c43), (38, .int .i64 (r33.length : Int)), (39, .int .i64 (wi (x39_l1 + 1))), (56, .slice A42 r33.length c43), (57, .int .i64 x39_l1), (58, .pointer (some (adr A42 x39_l1.toNat 1))), (59, .int .i64 v53), (60, .pointer (some ⟨b48, 0, none⟩)), (61, .int .i64 r58)]) (w' := w65) (by kernel_rfl) ?_
          refine WR.nil ?_
          have hS : Sat w65 (rf w0) [osl 3 (r0 (.int .i64)) 1 A42 c43 r33, O45 b48 y45] := hS.sel [0, 1] (by kernel_rfl)
          refine At.again ?_
          refine WL.weaken [0, 1, 5, 7, 38, 39] (L' := [(0, .slice A0 l0.length c0), (1, .slice A1 l1.length c1), (5, .pointer (some ⟨b48, 0, none⟩)), (7, .slice A42 r33.length c43), (38, .int .i64 (r33.length : Int)), (39, .int .i64 (wi (x39_l1 + 1)))]) (by kernel_rfl) ?_
          exact ih (wi (x39_l1 + 1)) _ hS H
    · replace H := ite_f H hb50
      refine WC.exit (by kernel_rfl) ?_
      refine At.thenExit ?_
      refine At.thenExit ?_
      obtain rfl := Option.some.inj H
      have hS : Sat w (rf w0) [O45 b48 y45] := hS.sel [1] (by kernel_rfl)
      refine At.weaken [1] (L' := [(1, .slice A1 l1.length c1)]) (by kernel_rfl) ?_
      exact hn1 () _ rfl hS
theorem colophonlaw08_TextPatterns.calls (w0 : World) (A0 : Option Addr) (c0 : Nat) (l0 : List (List Int)) (R0 : rdS (rd (hp w0) (.slice 5 (.int .u8))) 1 (hp w0) A0 c0 l0) (A1 : Option Addr) (c1 : Nat) (l1 : List Int) (R1 : rdS (r0 (.int .u8)) 1 (hp w0) A1 c1 l1) (r : Bool) (H : colophonlaw08_TextPatterns.f l0 l1 = some r) :
    Calls Try.prog 4 #[.slice A0 l0.length c0, .slice A1 l1.length c1] w0 (fun e w' => ∃ v, e = .returned v ∧ colophonlaw08_TextPatterns.post w0 r v w') := by
  have hS : Sat w0 (rf w0) [] := Sat.start w0
  unfold colophonlaw08_TextPatterns.f at H
  refine calls_of_WC (vs := [.slice A0 l0.length c0, .slice A1 l1.length c1]) Try.func4 (c := C4) (n := 115) (by kernel_rfl) (by kernel_rfl) (by kernel_rfl) ?_
  refine WC.seq (by kernel_rfl) ?_
  refine WC.reg [0] (by kernel_rfl) (by kernel_rfl) ?_
  refine WR.runk [0] [] [0, 1] (L' := [(0, .slice A0 l0.length c0), (1, .slice A1 l1.length c1)]) (w' := w0) (by kernel_rfl) ?_
  refine WR.nil ?_
  refine At.go ?_
  refine WC.seq (by kernel_rfl) ?_
  refine WC.seq (by kernel_rfl) ?_
  refine WC.reg [0, 1] (by kernel_rfl) (by kernel_rfl) ?_
  obtain ⟨r1, e2, H⟩ := bind_ex H
  refine WR.st (St.call (by kernel_rfl) (f := 7) (args := #[]) (by kernel_rfl) (colophonlaw08_first.calls w0  r1 e2) ?_)
  rintro _ w8 ⟨rfl, hS9⟩
  have hS : Sat w8 (rf w0) [] := hS.ext hS9
  refine WR.runk [1] [] [0, 1, 13] (L' := [(0, .slice A0 l0.length c0), (1, .slice A1 l1.length c1), (13, .bool (!r1))]) (w' := w8) (by kernel_rfl) ?_
  refine WR.nil ?_
  refine At.go ?_
  refine WC.cond (by kernel_rfl) (!r1) (by kernel_rfl) (by kernel_rfl) (fun hb10 => ?_) (fun hb10 => ?_)
  · replace H := ite_t H hb10
    refine WC.seq (by kernel_rfl) ?_
    refine WC.reg [0] (by kernel_rfl) (by kernel_rfl) ?_
    refine WR.runk [0] [] [4] (L' := [(4, .bool false)]) (w' := w8) (by kernel_rfl) ?_
    refine WR.nil ?_
    refine At.go ?_
    refine WC.ret (by kernel_rfl) ?_
    refine At.thenRet ?_
    obtain rfl := Option.some.inj H
    have hS : Sat w8 (rf w0) [] := hS.sel [] (by kernel_rfl)
    exact At.body [.bool false] (by kernel_rfl) ⟨_, rfl, rfl, hS⟩
  · replace H := ite_f H hb10
    refine WC.skip (by kernel_rfl) ?_
    refine At.go ?_
    refine WC.seq (by kernel_rfl) ?_
    refine WC.seq (by kernel_rfl) ?_
    refine WC.reg [0, 1, 2, 3, 4, 5, 6, 7] (by kernel_rfl) (by kernel_rfl) ?_
    refine WR.runk [0] [1, 2, 3, 4, 5, 6, 7] [0, 1, 14] (L' := [(0, .slice A0 l0.length c0), (1, .slice A1 l1.length c1), (14, .slice A0 l0.length c0)]) (w' := w8) (by kernel_rfl) ?_
    obtain ⟨r11, e12, H⟩ := bind_ex H
    refine WR.st (St.call (by kernel_rfl) (f := 20) (args := #[.slice A0 l0.length c0, .int .i64 20000, .int .i64 256]) (by kernel_rfl) (colophonref08_Small.calls w8 A0 c0 l0 (rdS.upd R0 hS.sub0) 20000 256 r11 e12) ?_)
    rintro _ w18 ⟨rfl, hS19⟩
    have hS : Sat w18 (rf w0) [] := hS.ext hS19
    refine WR.runk [2, 3] [4, 5, 6, 7] [0, 1, 17] (L' := [(0, .slice A0 l0.length c0), (1, .slice A1 l1.length c1), (17, .bool (!r11))]) (w' := w18) (by kernel_rfl) ?_
    refine WR.split 17 (b := (!r11)) (by kernel_rfl) (fun hb20 => ?_) (fun hb20 => ?_)
    · replace H := ite_t H hb20
      refine WR.runk [4, 5, 6, 7] [] [0, 1, 21] (L' := [(0, .slice A0 l0.length c0), (1, .slice A1 l1.length c1), (21, .bool true)]) (w' := w18) (by kernel_rfl) ?_
      refine WR.nil ?_
      refine At.go ?_
      refine WC.condT (by kernel_rfl) (by kernel_rfl) (by kernel_rfl) ?_
      refine WC.seq (by kernel_rfl) ?_
      refine WC.reg [0] (by kernel_rfl) (by kernel_rfl) ?_
      refine WR.runk [0] [] [4] (L' := [(4, .bool true)]) (w' := w18) (by kernel_rfl) ?_
      refine WR.nil ?_
      refine At.go ?_
      refine WC.ret (by kernel_rfl) ?_
      refine At.thenRet ?_
      obtain rfl := Option.some.inj H
      have hS : Sat w18 (rf w0) [] := hS.sel [] (by kernel_rfl)
      exact At.body [.bool true] (by kernel_rfl) ⟨_, rfl, rfl, hS⟩
    · replace H := ite_f H hb20
      refine WR.runk [4, 5, 6, 7] [] [0, 1, 21] (L' := [(0, .slice A0 l0.length c0), (1, .slice A1 l1.length c1), (21, .bool (decide ((l1.length : Int) > 2000)))]) (w' := w18) (by kernel_rfl) ?_
      refine WR.nil ?_
      refine At.go ?_
      refine WC.cond (by kernel_rfl) (decide ((l1.length : Int) > 2000)) (by kernel_rfl) (by kernel_rfl) (fun hb21 => ?_) (fun hb21 => ?_)
      · replace H := ite_t H hb21
        refine WC.seq (by kernel_rfl) ?_
        refine WC.reg [0] (by kernel_rfl) (by kernel_rfl) ?_
        refine WR.runk [0] [] [4] (L' := [(4, .bool true)]) (w' := w18) (by kernel_rfl) ?_
        refine WR.nil ?_
        refine At.go ?_
        refine WC.ret (by kernel_rfl) ?_
        refine At.thenRet ?_
        obtain rfl := Option.some.inj H
        have hS : Sat w18 (rf w0) [] := hS.sel [] (by kernel_rfl)
        exact At.body [.bool true] (by kernel_rfl) ⟨_, rfl, rfl, hS⟩
      · replace H := ite_f H hb21
        refine WC.skip (by kernel_rfl) ?_
        refine At.go ?_
        refine WC.seq (by kernel_rfl) ?_
        refine WC.reg [0, 1, 2, 3, 4, 5, 6] (by kernel_rfl) (by kernel_rfl) ?_
        refine WR.runk [0] [1, 2, 3, 4, 5, 6] [0, 1, 23] (L' := [(0, .slice A0 l0.length c0), (1, .slice A1 l1.length c1), (23, .slice A0 l0.length c0)]) (w' := w18) (by kernel_rfl) ?_
        obtain ⟨r22, e23, H⟩ := bind_ex H
        refine WR.st (St.call (by kernel_rfl) (f := 8) (args := #[.slice A0 l0.length c0]) (by kernel_rfl) (text_New.calls w18 A0 c0 l0 (rdS.upd R0 hS.sub0) r22 e23) ?_)
        rintro _ w29 ⟨pv31, rfl, hS30⟩
        have hS : Sat w29 (rf w0) [optP O45 pv31 r22.1] := hS.ext hS30
        refine WR.runk [2, 3, 4, 5, 6] [] [0, 1, 5, 6] (L' := [(0, .slice A0 l0.length c0), (1, .slice A1 l1.length c1), (5, pv31), (6, .int .i64 r22.2)]) (w' := w29) (by kernel_rfl) ?_
        refine WR.nil ?_
        refine At.go ?_
        refine WC.seq (by kernel_rfl) ?_
        refine WC.seq (by kernel_rfl) ?_
        refine WC.reg [0, 1] (by kernel_rfl) (by kernel_rfl) ?_
        refine WR.runk [0, 1] [] [0, 1, 5, 28] (L' := [(0, .slice A0 l0.length c0), (1, .slice A1 l1.length c1), (5, pv31), (28, .bool (r22.2 != 0))]) (w' := w29) (by kernel_rfl) ?_
        refine WR.nil ?_
        refine At.go ?_
        refine WC.cond (by kernel_rfl) (r22.2 != 0) (by kernel_rfl) (by kernel_rfl) (fun hb32 => ?_) (fun hb32 => ?_)
        · replace H := ite_t H hb32
          refine WC.seq (by kernel_rfl) ?_
          refine WC.reg [0] (by kernel_rfl) (by kernel_rfl) ?_
          refine WR.runk [0] [] [4] (L' := [(4, .bool false)]) (w' := w29) (by kernel_rfl) ?_
          refine WR.nil ?_
          refine At.go ?_
          refine WC.ret (by kernel_rfl) ?_
          refine At.thenRet ?_
          obtain rfl := Option.some.inj H
          have hS : Sat w29 (rf w0) [] := hS.sel [] (by kernel_rfl)
          exact At.body [.bool false] (by kernel_rfl) ⟨_, rfl, rfl, hS⟩
        · replace H := ite_f H hb32
          refine WC.skip (by kernel_rfl) ?_
          refine At.go ?_
          refine WC.seq (by kernel_rfl) ?_
          refine WC.reg [0, 1, 2, 3] (by kernel_rfl) (by kernel_rfl) ?_
          refine WR.runk [0, 1] [2, 3] [0, 1, 5, 29, 30] (L' := [(0, .slice A0 l0.length c0), (1, .slice A1 l1.length c1), (5, pv31), (29, pv31), (30, .slice A1 l1.length c1)]) (w' := w29) (by kernel_rfl) ?_
          obtain ⟨r33, e34, H⟩ := bind_ex H
          refine WR.st (St.call (by kernel_rfl) (f := 21) (args := #[pv31, .slice A1 l1.length c1]) (by kernel_rfl) (text_Text_Pattern.calls w29 (pv31) r22.1 (Sat.rdAny 0 hS rfl (fun _ h => optP.rdd (t := 45) (κ := (.pair (.slice 24 (.slice 5 (.int .u8))) (.pair (.slice 3 (.int .i64)) (.int .i64)))) (O := O45) O45.rd h)) A1 c1 l1 (rdS.up R1 hS.sub0) r33 e34) ?_)
          rintro _ w40 ⟨A42, c43, rfl, hS41⟩
          have hS : Sat w40 (rf w0) [osl 3 (r0 (.int .i64)) 1 A42 c43 r33, optP O45 pv31 r22.1] := hS.ext hS41
          refine WR.runk [3] [] [0, 1, 5, 7] (L' := [(0, .slice A0 l0.length c0), (1, .slice A1 l1.length c1), (5, pv31), (7, .slice A42 r33.length c43)]) (w' := w40) (by kernel_rfl) ?_
          refine WR.nil ?_
          refine At.go ?_
          refine WC.seq (by kernel_rfl) ?_
          refine WC.seq (by kernel_rfl) ?_
          refine WC.reg [0, 1, 2, 3, 4] (by kernel_rfl) (by kernel_rfl) ?_
          refine WR.runk [0, 1, 2, 3, 4] [] [0, 1, 5, 7, 36] (L' := [(0, .slice A0 l0.length c0), (1, .slice A1 l1.length c1), (5, pv31), (7, .slice A42 r33.length c43), (36, .bool ((r33.length : Int) != (l1.length : Int)))]) (w' := w40) (by kernel_rfl) ?_
          refine WR.nil ?_
          refine At.go ?_
          refine WC.cond (by kernel_rfl) ((r33.length : Int) != (l1.length : Int)) (by kernel_rfl) (by kernel_rfl) (fun hb44 => ?_) (fun hb44 => ?_)
          · replace H := ite_t H hb44
            refine WC.seq (by kernel_rfl) ?_
            refine WC.reg [0] (by kernel_rfl) (by kernel_rfl) ?_
            refine WR.runk [0] [] [4] (L' := [(4, .bool false)]) (w' := w40) (by kernel_rfl) ?_
            refine WR.nil ?_
            refine At.go ?_
            refine WC.ret (by kernel_rfl) ?_
            refine At.thenRet ?_
            obtain rfl := Option.some.inj H
            have hS : Sat w40 (rf w0) [] := hS.sel [] (by kernel_rfl)
            exact At.body [.bool false] (by kernel_rfl) ⟨_, rfl, rfl, hS⟩
          · replace H := ite_f H hb44
            refine WC.skip (by kernel_rfl) ?_
            refine At.go ?_
            refine WC.seq (by kernel_rfl) ?_
            refine WC.seq (by kernel_rfl) ?_
            refine WC.reg [0, 1, 2] (by kernel_rfl) (by kernel_rfl) ?_
            refine WR.runk [0, 1, 2] [] [0, 1, 5, 7, 38, 39] (L' := [(0, .slice A0 l0.length c0), (1, .slice A1 l1.length c1), (5, pv31), (7, .slice A42 r33.length c43), (38, .int .i64 (r33.length : Int)), (39, .int .i64 0)]) (w' := w40) (by kernel_rfl) ?_
            refine WR.nil ?_
            refine At.go ?_
            refine WC.block (by kernel_rfl) ?_
            have hS : Sat w40 (rf w0) [optP O45 pv31 r22.1, osl 3 (r0 (.int .i64)) 1 A42 c43 r33] := hS.sel [1, 0] (by kernel_rfl)
            obtain ⟨y45, hr46, H⟩ := bind_ex H
            obtain ⟨b48, hv47, hN164⟩ := optP.some hS hr46
            subst hv47
            have hS : Sat w40 (rf w0) [O45 b48 y45, osl 3 (r0 (.int .i64)) 1 A42 c43 r33] := hN164
            have hS : Sat w40 (rf w0) [osl 3 (r0 (.int .i64)) 1 A42 c43 r33, O45 b48 y45] := hS.sel [1, 0] (by kernel_rfl)
            obtain ⟨o68, e69, H⟩ := bind_ex H
            refine WC.loop (by kernel_rfl) ?_
            refine WL.weaken [0, 1, 5, 7, 38, 39] (L' := [(0, .slice A0 l0.length c0), (1, .slice A1 l1.length c1), (5, .pointer (some ⟨b48, 0, none⟩)), (7, .slice A42 r33.length c43), (38, .int .i64 (r33.length : Int)), (39, .int .i64 0)]) (by kernel_rfl) ?_
            refine colophonlaw08_TextPatterns.l1_ok w0 A0 c0 l0 A1 c1 l1 r33 A42 c43 y45 b48 R1 o68 (fun o70 w72 ho73 hS => ?_) (fun o74 w76 ho77 hS => ?_) FU 0 _ hS e69
            · subst ho73
              dsimp only at H
              refine At.blockRet ?_
              refine At.thenRet ?_
              obtain rfl := Option.some.inj H
              have hS : Sat w72 (rf w0) [] := hS.sel [] (by kernel_rfl)
              exact At.body [.bool o70] (by kernel_rfl) ⟨_, rfl, rfl, hS⟩
            · subst ho77
              dsimp only at H
              refine At.hit ?_
              refine At.go ?_
              refine WC.seq (by kernel_rfl) ?_
              refine WC.reg [0] (by kernel_rfl) (by kernel_rfl) ?_
              refine WR.runk [0] [] [1, 9] (L' := [(1, .slice A1 l1.length c1), (9, .pointer none)]) (w' := w76) (by kernel_rfl) ?_
              refine WR.nil ?_
              refine At.go ?_
              refine WC.seq (by kernel_rfl) ?_
              refine WC.reg [0, 1, 2, 3, 4, 5, 6] (by kernel_rfl) (by kernel_rfl) ?_
              refine WR.runk [0] [1, 2, 3, 4, 5, 6] [1, 9, 66] (L' := [(1, .slice A1 l1.length c1), (9, .pointer none), (66, .pointer none)]) (w' := w76) (by kernel_rfl) ?_
              obtain ⟨r78, e79, H⟩ := bind_ex H
              refine WR.st (St.call (by kernel_rfl) (f := 16) (args := #[.pointer none, .int .i64 0]) (by kernel_rfl) (text_Text_Doc.calls w76 (.pointer none) none rfl 0 r78 e79) ?_)
              rintro _ w85 ⟨rfl, hS86⟩
              have hS : Sat w85 (rf w0) [O45 b48 y45] := hS.ext hS86
              refine WR.runk [2, 3, 4, 5, 6] [] [1, 9, 10, 11] (L' := [(1, .slice A1 l1.length c1), (9, .pointer none), (10, .int .i64 r78.1), (11, .int .i64 r78.2)]) (w' := w85) (by kernel_rfl) ?_
              refine WR.nil ?_
              refine At.go ?_
              refine WC.seq (by kernel_rfl) ?_
              refine WC.reg [0, 1, 2, 3, 4, 5, 6, 7, 8, 9, 10, 11, 12, 13, 14, 15, 16, 17, 18, 19, 20, 21, 22, 23, 24, 25, 26, 27, 28, 29, 30, 31, 32, 33, 34, 35, 36, 37, 38, 39, 40, 41, 42, 43, 44, 45] (by kernel_rfl) (by kernel_rfl) ?_
              refine WR.runk [0] [1, 2, 3, 4, 5, 6, 7, 8, 9, 10, 11, 12, 13, 14, 15, 16, 17, 18, 19, 20, 21, 22, 23, 24, 25, 26, 27, 28, 29, 30, 31, 32, 33, 34, 35, 36, 37, 38, 39, 40, 41, 42, 43, 44, 45] [1, 9, 10, 11, 70] (L' := [(1, .slice A1 l1.length c1), (9, .pointer none), (10, .int .i64 r78.1), (11, .int .i64 r78.2), (70, .pointer none)]) (w' := w85) (by kernel_rfl) ?_
              obtain ⟨r87, e88, H⟩ := bind_ex H
              refine WR.st (St.call (by kernel_rfl) (f := 11) (args := #[.pointer none]) (by kernel_rfl) (text_Text_Docs.calls w85 (.pointer none) none rfl r87 e88) ?_)
              rintro _ w94 ⟨rfl, hS95⟩
              have hS : Sat w94 (rf w0) [O45 b48 y45] := hS.ext hS95
              refine WR.runk [2, 3] [4, 5, 6, 7, 8, 9, 10, 11, 12, 13, 14, 15, 16, 17, 18, 19, 20, 21, 22, 23, 24, 25, 26, 27, 28, 29, 30, 31, 32, 33, 34, 35, 36, 37, 38, 39, 40, 41, 42, 43, 44, 45] [1, 9, 10, 11, 73] (L' := [(1, .slice A1 l1.length c1), (9, .pointer none), (10, .int .i64 r78.1), (11, .int .i64 r78.2), (73, .bool (r87 == 0))]) (w' := w94) (by kernel_rfl) ?_
              refine WR.split 73 (b := (r87 == 0)) (by kernel_rfl) (fun hb96 => ?_) (fun hb96 => ?_)
              · replace H := ite_t H hb96
                refine WR.runk [4] [5, 6, 7, 8, 9, 10, 11, 12, 13, 14, 15, 16, 17, 18, 19, 20, 21, 22, 23, 24, 25, 26, 27, 28, 29, 30, 31, 32, 33, 34, 35, 36, 37, 38, 39, 40, 41, 42, 43, 44, 45] [1, 9, 10, 11, 73, 74] (L' := [(1, .slice A1 l1.length c1), (9, .pointer none), (10, .int .i64 r78.1), (11, .int .i64 r78.2), (73, .bool true), (74, .pointer none)]) (w' := w94) (by kernel_rfl) ?_
                obtain ⟨r97, e98, H⟩ := bind_ex H
                refine WR.st (St.call (by kernel_rfl) (f := 12) (args := #[.pointer none]) (by kernel_rfl) (text_Text_Len.calls w94 (.pointer none) none rfl r97 e98) ?_)
                rintro _ w104 ⟨rfl, hS105⟩
                have hS : Sat w104 (rf w0) [O45 b48 y45] := hS.ext hS105
                refine WR.runk [6, 7, 8] [9, 10, 11, 12, 13, 14, 15, 16, 17, 18, 19, 20, 21, 22, 23, 24, 25, 26, 27, 28, 29, 30, 31, 32, 33, 34, 35, 36, 37, 38, 39, 40, 41, 42, 43, 44, 45] [1, 9, 10, 11, 78] (L' := [(1, .slice A1 l1.length c1), (9, .pointer none), (10, .int .i64 r78.1), (11, .int .i64 r78.2), (78, .bool (r97 == 0))]) (w' := w104) (by kernel_rfl) ?_
                refine WR.split 78 (b := (r97 == 0)) (by kernel_rfl) (fun hb106 => ?_) (fun hb106 => ?_)
                · replace H := ite_t H hb106
                  refine WR.runk [9] [10, 11, 12, 13, 14, 15, 16, 17, 18, 19, 20, 21, 22, 23, 24, 25, 26, 27, 28, 29, 30, 31, 32, 33, 34, 35, 36, 37, 38, 39, 40, 41, 42, 43, 44, 45] [1, 9, 10, 11, 78, 79] (L' := [(1, .slice A1 l1.length c1), (9, .pointer none), (10, .int .i64 r78.1), (11, .int .i64 r78.2), (78, .bool true), (79, .pointer none)]) (w' := w104) (by kernel_rfl) ?_
                  obtain ⟨r107, e108, H⟩ := bind_ex H
                  refine WR.st (St.call (by kernel_rfl) (f := 13) (args := #[.pointer none]) (by kernel_rfl) (text_Text_Alphabet.calls w104 (.pointer none) none rfl r107 e108) ?_)
                  rintro _ w114 ⟨rfl, hS115⟩
                  have hS : Sat w114 (rf w0) [O45 b48 y45] := hS.ext hS115
                  refine WR.runk [11, 12, 13] [14, 15, 16, 17, 18, 19, 20, 21, 22, 23, 24, 25, 26, 27, 28, 29, 30, 31, 32, 33, 34, 35, 36, 37, 38, 39, 40, 41, 42, 43, 44, 45] [1, 9, 10, 11, 83] (L' := [(1, .slice A1 l1.length c1), (9, .pointer none), (10, .int .i64 r78.1), (11, .int .i64 r78.2), (83, .bool (r107 == 0))]) (w' := w114) (by kernel_rfl) ?_
                  refine WR.split 83 (b := (r107 == 0)) (by kernel_rfl) (fun hb116 => ?_) (fun hb116 => ?_)
                  · replace H := ite_t H hb116
                    refine WR.runk [14] [15, 16, 17, 18, 19, 20, 21, 22, 23, 24, 25, 26, 27, 28, 29, 30, 31, 32, 33, 34, 35, 36, 37, 38, 39, 40, 41, 42, 43, 44, 45] [1, 9, 10, 11, 83, 84] (L' := [(1, .slice A1 l1.length c1), (9, .pointer none), (10, .int .i64 r78.1), (11, .int .i64 r78.2), (83, .bool true), (84, .pointer none)]) (w' := w114) (by kernel_rfl) ?_
                    obtain ⟨r117, e118, H⟩ := bind_ex H
                    refine WR.st (St.call (by kernel_rfl) (f := 15) (args := #[.pointer none]) (by kernel_rfl) (text_Text_Symbols.calls w114 (.pointer none) none rfl r117 e118) ?_)
                    rintro _ w124 ⟨A126, c127, rfl, hS125⟩
                    have hS : Sat w124 (rf w0) [osl 3 (r0 (.int .i64)) 1 A126 c127 r117, O45 b48 y45] := hS.ext hS125
                    refine WR.runk [16, 17, 18, 19] [20, 21, 22, 23, 24, 25, 26, 27, 28, 29, 30, 31, 32, 33, 34, 35, 36, 37, 38, 39, 40, 41, 42, 43, 44, 45] [1, 9, 10, 11, 89] (L' := [(1, .slice A1 l1.length c1), (9, .pointer none), (10, .int .i64 r78.1), (11, .int .i64 r78.2), (89, .bool ((r117.length : Int) == 0))]) (w' := w124) (by kernel_rfl) ?_
                    refine WR.split 89 (b := ((r117.length : Int) == 0)) (by kernel_rfl) (fun hb128 => ?_) (fun hb128 => ?_)
                    · replace H := ite_t H hb128
                      refine WR.runk [20, 21] [22, 23, 24, 25, 26, 27, 28, 29, 30, 31, 32, 33, 34, 35, 36, 37, 38, 39, 40, 41, 42, 43, 44, 45] [9, 10, 11, 89, 90, 91] (L' := [(9, .pointer none), (10, .int .i64 r78.1), (11, .int .i64 r78.2), (89, .bool true), (90, .pointer none), (91, .slice A1 l1.length c1)]) (w' := w124) (by kernel_rfl) ?_
                      obtain ⟨r129, e130, H⟩ := bind_ex H
                      refine WR.st (St.call (by kernel_rfl) (f := 21) (args := #[.pointer none, .slice A1 l1.length c1]) (by kernel_rfl) (text_Text_Pattern.calls w124 (.pointer none) none rfl A1 c1 l1 (rdS.up R1 hS.sub0) r129 e130) ?_)
                      rintro _ w136 ⟨A138, c139, rfl, hS137⟩
                      have hS : Sat w136 (rf w0) [osl 3 (r0 (.int .i64)) 1 A138 c139 r129, osl 3 (r0 (.int .i64)) 1 A126 c127 r117, O45 b48 y45] := hS.ext hS137
                      refine WR.runk [23, 24, 25, 26] [27, 28, 29, 30, 31, 32, 33, 34, 35, 36, 37, 38, 39, 40, 41, 42, 43, 44, 45] [9, 10, 11, 96] (L' := [(9, .pointer none), (10, .int .i64 r78.1), (11, .int .i64 r78.2), (96, .bool ((r129.length : Int) == 0))]) (w' := w136) (by kernel_rfl) ?_
                      refine WR.split 96 (b := ((r129.length : Int) == 0)) (by kernel_rfl) (fun hb140 => ?_) (fun hb140 => ?_)
                      · replace H := ite_t H hb140
                        refine WR.runk [27, 28, 29, 30] [31, 32, 33, 34, 35, 36, 37, 38, 39, 40, 41, 42, 43, 44, 45] [9, 11, 100] (L' := [(9, .pointer none), (11, .int .i64 r78.2), (100, .bool (r78.1 == (-1)))]) (w' := w136) (by kernel_rfl) ?_
                        refine WR.split 100 (b := (r78.1 == (-1))) (by kernel_rfl) (fun hb141 => ?_) (fun hb141 => ?_)
                        · replace H := ite_t H hb141
                          refine WR.runk [31, 32, 33, 34] [35, 36, 37, 38, 39, 40, 41, 42, 43, 44, 45] [9, 104] (L' := [(9, .pointer none), (104, .bool (r78.2 == (-1)))]) (w' := w136) (by kernel_rfl) ?_
                          refine WR.split 104 (b := (r78.2 == (-1))) (by kernel_rfl) (fun hb142 => ?_) (fun hb142 => ?_)
                          · replace H := ite_t H hb142
                            refine WR.runk [35] [36, 37, 38, 39, 40, 41, 42, 43, 44, 45] [9, 104, 105] (L' := [(9, .pointer none), (104, .bool true), (105, .pointer none)]) (w' := w136) (by kernel_rfl) ?_
                            obtain ⟨r143, e144, H⟩ := bind_ex H
                            refine WR.st (St.call (by kernel_rfl) (f := 18) (args := #[.pointer none, .int .i64 0]) (by kernel_rfl) (text_Text_Start.calls w136 (.pointer none) none rfl 0 r143 e144) ?_)
                            rintro _ w150 ⟨rfl, hS151⟩
                            have hS : Sat w150 (rf w0) [osl 3 (r0 (.int .i64)) 1 A138 c139 r129, osl 3 (r0 (.int .i64)) 1 A126 c127 r117, O45 b48 y45] := hS.ext hS151
                            refine WR.runk [37, 38, 39] [40, 41, 42, 43, 44, 45] [9, 109] (L' := [(9, .pointer none), (109, .bool (r143 == (-1)))]) (w' := w150) (by kernel_rfl) ?_
                            refine WR.split 109 (b := (r143 == (-1))) (by kernel_rfl) (fun hb152 => ?_) (fun hb152 => ?_)
                            · replace H := ite_t H hb152
                              refine WR.runk [40] [41, 42, 43, 44, 45] [109, 110] (L' := [(109, .bool true), (110, .pointer none)]) (w' := w150) (by kernel_rfl) ?_
                              obtain ⟨r153, e154, H⟩ := bind_ex H
                              refine WR.st (St.call (by kernel_rfl) (f := 19) (args := #[.pointer none, .int .i64 0]) (by kernel_rfl) (text_Text_Bytes.calls w150 (.pointer none) none rfl 0 r153 e154) ?_)
                              rintro _ w160 ⟨A162, c163, rfl, hS161⟩
                              have hS : Sat w160 (rf w0) [osl 5 (r0 (.int .u8)) 1 A162 c163 r153, osl 3 (r0 (.int .i64)) 1 A138 c139 r129, osl 3 (r0 (.int .i64)) 1 A126 c127 r117, O45 b48 y45] := hS.ext hS161
                              refine WR.runk [42, 43, 44, 45] [] [4] (L' := [(4, .bool ((r153.length : Int) == 0))]) (w' := w160) (by kernel_rfl) ?_
                              refine WR.nil ?_
                              refine At.go ?_
                              refine WC.ret (by kernel_rfl) ?_
                              obtain rfl := Option.some.inj H
                              have hS : Sat w160 (rf w0) [] := hS.sel [] (by kernel_rfl)
                              exact At.body [.bool ((r153.length : Int) == 0)] (by kernel_rfl) ⟨_, rfl, rfl, hS⟩
                            · replace H := ite_f H hb152
                              refine WR.runk [40, 41, 42, 43, 44, 45] [] [4] (L' := [(4, .bool false)]) (w' := w150) (by kernel_rfl) ?_
                              refine WR.nil ?_
                              refine At.go ?_
                              refine WC.ret (by kernel_rfl) ?_
                              obtain rfl := Option.some.inj H
                              have hS : Sat w150 (rf w0) [] := hS.sel [] (by kernel_rfl)
                              exact At.body [.bool false] (by kernel_rfl) ⟨_, rfl, rfl, hS⟩
                          · replace H := ite_f H hb142
                            refine WR.runk [35, 36, 37, 38, 39, 40, 41, 42, 43, 44, 45] [] [4] (L' := [(4, .bool false)]) (w' := w136) (by kernel_rfl) ?_
                            refine WR.nil ?_
                            refine At.go ?_
                            refine WC.ret (by kernel_rfl) ?_
                            obtain rfl := Option.some.inj H
                            have hS : Sat w136 (rf w0) [] := hS.sel [] (by kernel_rfl)
                            exact At.body [.bool false] (by kernel_rfl) ⟨_, rfl, rfl, hS⟩
                        · replace H := ite_f H hb141
                          refine WR.runk [31, 32, 33, 34, 35, 36, 37, 38, 39, 40, 41, 42, 43, 44, 45] [] [4] (L' := [(4, .bool false)]) (w' := w136) (by kernel_rfl) ?_
                          refine WR.nil ?_
                          refine At.go ?_
                          refine WC.ret (by kernel_rfl) ?_
                          obtain rfl := Option.some.inj H
                          have hS : Sat w136 (rf w0) [] := hS.sel [] (by kernel_rfl)
                          exact At.body [.bool false] (by kernel_rfl) ⟨_, rfl, rfl, hS⟩
                      · replace H := ite_f H hb140
                        refine WR.runk [27, 28, 29, 30, 31, 32, 33, 34, 35, 36, 37, 38, 39, 40, 41, 42, 43, 44, 45] [] [4] (L' := [(4, .bool false)]) (w' := w136) (by kernel_rfl) ?_
                        refine WR.nil ?_
                        refine At.go ?_
                        refine WC.ret (by kernel_rfl) ?_
                        obtain rfl := Option.some.inj H
                        have hS : Sat w136 (rf w0) [] := hS.sel [] (by kernel_rfl)
                        exact At.body [.bool false] (by kernel_rfl) ⟨_, rfl, rfl, hS⟩
                    · replace H := ite_f H hb128
                      refine WR.runk [20, 21, 22, 23, 24, 25, 26, 27, 28, 29, 30, 31, 32, 33, 34, 35, 36, 37, 38, 39, 40, 41, 42, 43, 44, 45] [] [4] (L' := [(4, .bool false)]) (w' := w124) (by kernel_rfl) ?_
                      refine WR.nil ?_
                      refine At.go ?_
                      refine WC.ret (by kernel_rfl) ?_
                      obtain rfl := Option.some.inj H
                      have hS : Sat w124 (rf w0) [] := hS.sel [] (by kernel_rfl)
                      exact At.body [.bool false] (by kernel_rfl) ⟨_, rfl, rfl, hS⟩
                  · replace H := ite_f H hb116
                    refine WR.runk [14, 15, 16, 17, 18, 19, 20, 21, 22, 23, 24, 25, 26, 27, 28, 29, 30, 31, 32, 33, 34, 35, 36, 37, 38, 39, 40, 41, 42, 43, 44, 45] [] [4] (L' := [(4, .bool false)]) (w' := w114) (by kernel_rfl) ?_
                    refine WR.nil ?_
                    refine At.go ?_
                    refine WC.ret (by kernel_rfl) ?_
                    obtain rfl := Option.some.inj H
                    have hS : Sat w114 (rf w0) [] := hS.sel [] (by kernel_rfl)
                    exact At.body [.bool false] (by kernel_rfl) ⟨_, rfl, rfl, hS⟩
                · replace H := ite_f H hb106
                  refine WR.runk [9, 10, 11, 12, 13, 14, 15, 16, 17, 18, 19, 20, 21, 22, 23, 24, 25, 26, 27, 28, 29, 30, 31, 32, 33, 34, 35, 36, 37, 38, 39, 40, 41, 42, 43, 44, 45] [] [4] (L' := [(4, .bool false)]) (w' := w104) (by kernel_rfl) ?_
                  refine WR.nil ?_
                  refine At.go ?_
                  refine WC.ret (by kernel_rfl) ?_
                  obtain rfl := Option.some.inj H
                  have hS : Sat w104 (rf w0) [] := hS.sel [] (by kernel_rfl)
                  exact At.body [.bool false] (by kernel_rfl) ⟨_, rfl, rfl, hS⟩
              · replace H := ite_f H hb96
                refine WR.runk [4, 5, 6, 7, 8, 9, 10, 11, 12, 13, 14, 15, 16, 17, 18, 19, 20, 21, 22, 23, 24, 25, 26, 27, 28, 29, 30, 31, 32, 33, 34, 35, 36, 37, 38, 39, 40, 41, 42, 43, 44, 45] [] [4] (L' := [(4, .bool false)]) (w' := w94) (by kernel_rfl) ?_
                refine WR.nil ?_
                refine At.go ?_
                refine WC.ret (by kernel_rfl) ?_
                obtain rfl := Option.some.inj H
                have hS : Sat w94 (rf w0) [] := hS.sel [] (by kernel_rfl)
                exact At.body [.bool false] (by kernel_rfl) ⟨_, rfl, rfl, hS⟩
end Go.Proofs.Ytoonceaeaigkpaa
