/-
  Printed by gen.py (my own tool): for each Go function a plain Lean function and the proof that a call of it does what that function says.
-/
import Derived.Test.YtoonceaeaigkpaaGP1
set_option linter.unusedVariables false
set_option linter.unusedSimpArgs false
set_option maxRecDepth 100000
namespace Go.Proofs.Ytoonceaeaigkpaa
open Go Go.Gol
/-! ### 3 colophon/colophonlaw08.TextMakes -/
def colophonlaw08_TextMakes.l1 (l0 : List (List Int)) : Nat → (List (List Int)) → Int → Option (List (List Int))
  | 0, _, _ => none
  | k + 1, x7_l1, x25_l1 => (if decide (x25_l1 < (l0.length : Int)) then ((at? l0 x25_l1).bind fun v12 => (if decide (x25_l1 < 300) then (if decide ((v12.length : Int) ≤ 70000) then ((app? 140737488355328 (([] : List Int) : List Int) v12).bind fun y22 => ((app? 5864062014805 x7_l1 [y22]).bind fun y29 => colophonlaw08_TextMakes.l1 l0 k y29 (wi (x25_l1 + 1)))) else ((app? 5864062014805 x7_l1 [v12]).bind fun y39 => colophonlaw08_TextMakes.l1 l0 k y39 (wi (x25_l1 + 1)))) else ((app? 5864062014805 x7_l1 [v12]).bind fun y49 => colophonlaw08_TextMakes.l1 l0 k y49 (wi (x25_l1 + 1))))) else some x7_l1)
def colophonlaw08_TextMakes.l3 (x64_l2 : Int) (v100 : List Int) : Nat → (List (List Int)) → Int → Option (List (List Int))
  | 0, _, _ => none
  | k + 1, x7_l3, x72_l3 => (if decide (x72_l3 < (v100.length : Int)) then ((at? x7_l3 x64_l2).bind fun v112 => ((at? v112 x72_l3).bind fun v118 => ((set? v112 x72_l3 (ixor .u8 v118 255)).bind fun y120 => colophonlaw08_TextMakes.l3 x64_l2 v100 k (List.set x7_l3 x64_l2.toNat y120) (wi (x72_l3 + 1))))) else some x7_l3)
def colophonlaw08_TextMakes.l2 (o56 : (List (List Int))) : Nat → (List (List Int)) → Int → Option Unit
  | 0, _, _ => none
  | k + 1, x7_l2, x64_l2 => (if decide (x64_l2 < (o56.length : Int)) then ((at? x7_l2 x64_l2).bind fun v100 => ((colophonlaw08_TextMakes.l3 x64_l2 v100 FU x7_l2 0).bind fun o124 => colophonlaw08_TextMakes.l2 o56 k o124 (wi (x64_l2 + 1)))) else some ())
def colophonlaw08_TextMakes.l4 (l0 : List (List Int)) (a2 : Int) : Nat → Int → Int → Option Int
  | 0, _, _ => none
  | k + 1, x19_l4, x20_l4 => (if decide (x20_l4 < a2) then ((at? l0 x20_l4).bind fun v262 => colophonlaw08_TextMakes.l4 l0 a2 k (wi (x19_l4 + (wi ((v262.length : Int) + 1)))) (wi (x20_l4 + 1))) else some x19_l4)
def colophonlaw08_TextMakes.f (l0 : List (List Int)) (a1 : Int) (a2 : Int) : Option Bool := (colophonlaw08_first.f.bind fun r1 => (if (!r1) then some false else ((colophonlaw08_TextMakes.l1 l0 FU ([] : List (List Int)) 0).bind fun o56 => ((text_New.f o56).bind fun r61 => ((colophonref08_Right.f l0).bind fun r71 => (if (!r71) then (if (r61.2 == 80) then (match r61.1 with | none => some true | some y82 => some false) else some false) else ((chk? (decide (List.length l0 ≤ 300) && o56.all fun x => decide (x.length ≤ 70000))).bind fun _ => (r61.1.bind fun y89 => ((colophonlaw08_TextMakes.l2 o56 FU o56 0).bind fun o129 => ((colophonref08_Symbols.f l0).bind fun r134 => (if (r61.2 != 0) then some false else ((text_Text_Docs.f (some y89)).bind fun r146 => (if (r146 != (l0.length : Int)) then some false else ((text_Text_Len.f (some y89)).bind fun r156 => (if (r156 != (r134.length : Int)) then some false else ((text_Text_Alphabet.f (some y89)).bind fun r166 => (if (r166 != (wi ((l0.length : Int) + 256))) then some false else ((text_Text_Symbols.f (some y89)).bind fun r176 => ((colophonref08_Same.f r176 r134).bind fun r187 => (if (!r187) then some false else ((text_Text_Doc.f (some y89) a1).bind fun r197 => ((colophonref08_Doc.f l0 a1).bind fun r206 => (if (r197.1 != r206.1) then some false else (if (r197.2 != r206.2) then some false else (if decide (a2 < 0) then ((text_Text_Start.f (some y89) a2).bind fun r218 => (if (r218 == (-1)) then ((text_Text_Bytes.f (some y89) a2).bind fun r228 => some ((r228.length : Int) == 0)) else some false)) else (if decide (a2 > (l0.length : Int)) then ((text_Text_Start.f (some y89) a2).bind fun r240 => (if (r240 == (-1)) then ((text_Text_Bytes.f (some y89) a2).bind fun r250 => some ((r250.length : Int) == 0)) else some false)) else ((colophonlaw08_TextMakes.l4 l0 a2 FU 0 0).bind fun o267 => ((text_Text_Start.f (some y89) a2).bind fun r274 => (if (r274 == o267) then (if (a2 == (l0.length : Int)) then ((text_Text_Bytes.f (some y89) a2).bind fun r285 => (if ((r285.length : Int) == 0) then some true else (if decide (a2 < (l0.length : Int)) then ((at? l0 a2).bind fun v298 => ((text_Text_Bytes.f (some y89) a2).bind fun r304 => some ((bs r304).toList == (bs v298).toList))) else some false))) else (if decide (a2 < (l0.length : Int)) then ((at? l0 a2).bind fun v316 => ((text_Text_Bytes.f (some y89) a2).bind fun r322 => some ((bs r322).toList == (bs v316).toList))) else some false)) else some false)))))))))))))))))))))))))))))
def colophonlaw08_TextMakes.post (w : World) (r : Bool) (v : Value) (w' : World) : Prop := v = (.bool r : Value) ∧ Sat w' (rf w) []
theorem colophonlaw08_TextMakes.l1_ok {Q} (w0 : World) (A0 : Option Addr) (c0 : Nat) (l0 : List (List Int)) (a1 : Int) (a2 : Int) (R0 : rdS (rd (hp w0) (.slice 5 (.int .u8))) 1 (hp w0) A0 c0 l0) (out : (List (List Int))) (hn0 : ∀ (A7_q : Option Addr) (c7_q : Nat) (w : World), Sat w (rf w0) [orw 24 (Emx (hp w0) (decide (List.length l0 ≤ 300) = true) 70000 5 (.int .u8)) 1 A7_q c7_q out] → At Q (.exit 0) 207 [(0, .slice A0 l0.length c0), (1, .int .i64 a1), (2, .int .i64 a2), (7, .slice A7_q out.length c7_q)] w) :
    ∀ (k : Nat) (x7_l1 : List (List Int)) (x25_l1 : Int) (A7_l1 : Option Addr) (c7_l1 : Nat) (w : World), Sat w (rf w0) [orw 24 (Emx (hp w0) (decide (List.length l0 ≤ 300) = true) 70000 5 (.int .u8)) 1 A7_l1 c7_l1 x7_l1] → colophonlaw08_TextMakes.l1 l0 k x7_l1 x25_l1 = some out → WL Try.prog (cbody (cbody (cr (cl (cr (cr (cr C3))))))) Q 207 [(0, .slice A0 l0.length c0), (1, .int .i64 a1), (2, .int .i64 a2), (7, .slice A7_l1 x7_l1.length c7_l1), (23, .slice A0 l0.length c0), (24, .int .i64 (l0.length : Int)), (25, .int .i64 x25_l1)] w := by
  intro k
  induction k with
  | zero => intro x7_l1 x25_l1 A7_l1 c7_l1 w hS H; exact absurd (show none = some out from H) (by simp)
  | succ k ih =>
    intro x7_l1 x25_l1 A7_l1 c7_l1 w hS H
    unfold colophonlaw08_TextMakes.l1 at H
    refine WL.round ?_
    refine WC.seq (by kernel_rfl) ?_
    refine WC.reg [0] (by kernel_rfl) (by kernel_rfl) ?_
    refine WR.runk [0] [] [0, 1, 2, 7, 23, 24, 25, 26] (L' := [(0, .slice A0 l0.length c0), (1, .int .i64 a1), (2, .int .i64 a2), (7, .slice A7_l1 x7_l1.length c7_l1), (23, .slice A0 l0.length c0), (24, .int .i64 (l0.length : Int)), (25, .int .i64 x25_l1), (26, .bool (decide (x25_l1 < (l0.length : Int))))]) (w' := w) (by kernel_rfl) ?_
    refine WR.nil ?_
    refine At.go ?_
    refine WC.seq (by kernel_rfl) ?_
    refine WC.cond (by kernel_rfl) (decide (x25_l1 < (l0.length : Int))) (by kernel_rfl) (by kernel_rfl) (fun hb11 => ?_) (fun hb11 => ?_)
    · replace H := ite_t H hb11
      refine WC.skip (by kernel_rfl) ?_
      refine At.go ?_
      refine WC.seq (by kernel_rfl) ?_
      refine WC.block (by kernel_rfl) ?_
      refine WC.seq (by kernel_rfl) ?_
      refine WC.reg [0, 1, 2, 3, 4] (by kernel_rfl) (by kernel_rfl) ?_
      refine WR.runk [0] [1, 2, 3, 4] [0, 1, 2, 7, 23, 24, 25, 27] (L' := [(0, .slice A0 l0.length c0), (1, .int .i64 a1), (2, .int .i64 a2), (7, .slice A7_l1 x7_l1.length c7_l1), (23, .slice A0 l0.length c0), (24, .int .i64 (l0.length : Int)), (25, .int .i64 x25_l1), (27, .int .i64 x25_l1)]) (w' := w) (by kernel_rfl) ?_
      obtain ⟨v12, e13, H⟩ := bind_ex H
      refine WR.st (St.ofP (PSt.idx (k := .i64) (.tmp 23) (.tmp 25) (by kernel_rfl) (by kernel_rfl) E22 (by kernel_rfl) (by kernel_rfl) (rdS.up R0 hS.sub0) e13 ?_))
      refine WR.runk [] [2, 3, 4] [0, 1, 2, 7, 23, 24, 25, 27, 28] (L' := [(0, .slice A0 l0.length c0), (1, .int .i64 a1), (2, .int .i64 a2), (7, .slice A7_l1 x7_l1.length c7_l1), (23, .slice A0 l0.length c0), (24, .int .i64 (l0.length : Int)), (25, .int .i64 x25_l1), (27, .int .i64 x25_l1), (28, .pointer (some (adr A0 x25_l1.toNat 1)))]) (w' := w) (by kernel_rfl) ?_
      refine WR.st (St.ofR (RSt.loadSl (t := 24) (.tmp 28) (by kernel_rfl) (by kernel_rfl) (by kernel_rfl) (by kernel_rfl) R0 e13 hS.sub0 (fun A14 c15 R16 => ?_)))
      replace R16 : rdS (r0 (.int .u8)) 1 (hp w0) A14 c15 v12 := R16
      refine WR.runk [3, 4] [] [0, 1, 2, 7, 8, 9, 23, 24, 25] (L' := [(0, .slice A0 l0.length c0), (1, .int .i64 a1), (2, .int .i64 a2), (7, .slice A7_l1 x7_l1.length c7_l1), (8, .int .i64 x25_l1), (9, .slice A14 v12.length c15), (23, .slice A0 l0.length c0), (24, .int .i64 (l0.length : Int)), (25, .int .i64 x25_l1)]) (w' := w) (by kernel_rfl) ?_
      refine WR.nil ?_
      refine At.go ?_
      refine WC.seq (by kernel_rfl) ?_
      refine WC.reg [0, 1, 2, 3, 4, 5, 6] (by kernel_rfl) (by kernel_rfl) ?_
      refine WR.runk [0, 1, 2] [3, 4, 5, 6] [0, 1, 2, 7, 9, 23, 24, 25, 32] (L' := [(0, .slice A0 l0.length c0), (1, .int .i64 a1), (2, .int .i64 a2), (7, .slice A7_l1 x7_l1.length c7_l1), (9, .slice A14 v12.length c15), (23, .slice A0 l0.length c0), (24, .int .i64 (l0.length : Int)), (25, .int .i64 x25_l1), (32, .bool (decide (x25_l1 < 300)))]) (w' := w) (by kernel_rfl) ?_
      refine WR.split 32 (b := decide (x25_l1 < 300)) (by kernel_rfl) (fun hb17 => ?_) (fun hb17 => ?_)
      · replace H := ite_t H hb17
        refine WR.runk [3, 4, 5, 6] [] [0, 1, 2, 7, 9, 23, 24, 25, 33, 34, 35, 36] (L' := [(0, .slice A0 l0.length c0), (1, .int .i64 a1), (2, .int .i64 a2), (7, .slice A7_l1 x7_l1.length c7_l1), (9, .slice A14 v12.length c15), (23, .slice A0 l0.length c0), (24, .int .i64 (l0.length : Int)), (25, .int .i64 x25_l1), (33, .slice A14 v12.length c15), (34, .int .i64 (v12.length : Int)), (35, .bool (decide ((v12.length : Int) ≤ 70000))), (36, .bool (decide ((v12.length : Int) ≤ 70000)))]) (w' := w) (by kernel_rfl) ?_
        refine WR.nil ?_
        refine At.go ?_
        refine WC.cond (by kernel_rfl) (decide ((v12.length : Int) ≤ 70000)) (by kernel_rfl) (by kernel_rfl) (fun hb18 => ?_) (fun hb18 => ?_)
        · replace H := ite_t H hb18
          refine WC.reg [0, 1, 2, 3, 4, 5, 6] (by kernel_rfl) (by kernel_rfl) ?_
          refine WR.runk [0] [1, 2, 3, 4, 5, 6] [0, 1, 2, 7, 9, 23, 24, 25, 33, 34, 37] (L' := [(0, .slice A0 l0.length c0), (1, .int .i64 a1), (2, .int .i64 a2), (7, .slice A7_l1 x7_l1.length c7_l1), (9, .slice A14 v12.length c15), (23, .slice A0 l0.length c0), (24, .int .i64 (l0.length : Int)), (25, .int .i64 x25_l1), (33, .slice A14 v12.length c15), (34, .int .i64 (v12.length : Int)), (37, .slice A7_l1 x7_l1.length c7_l1)]) (w' := w) (by kernel_rfl) ?_
          refine WR.st (St.box hS (by kernel_rfl) (.cells #[] 5) (fun b19 => .slice (some ⟨b19, 0, none⟩) 0 0) (fun _ => by kernel_rfl) (fun b19 w20 hS => ?_))
          refine WR.runk [2] [3, 4, 5, 6] [0, 1, 2, 7, 23, 24, 25, 33, 34, 37, 38, 39] (L' := [(0, .slice A0 l0.length c0), (1, .int .i64 a1), (2, .int .i64 a2), (7, .slice A7_l1 x7_l1.length c7_l1), (23, .slice A0 l0.length c0), (24, .int .i64 (l0.length : Int)), (25, .int .i64 x25_l1), (33, .slice A14 v12.length c15), (34, .int .i64 (v12.length : Int)), (37, .slice A7_l1 x7_l1.length c7_l1), (38, .slice (some ⟨b19, 0, none⟩) 0 0), (39, .slice A14 v12.length c15)]) (w' := w20) (by kernel_rfl) ?_
          have hS : Sat w20 (rf w0) [osl 5 (r0 (.int .u8)) 1 (some ⟨b19, 0, none⟩) (([] : List Int) : List Int).length (([] : List Int) : List Int), orw 24 (Emx (hp w0) (decide (List.length l0 ≤ 300) = true) 70000 5 (.int .u8)) 1 A7_l1 c7_l1 x7_l1] := Sat.toOsl' (r0 (.int .u8)) 1 (([] : List Int) : List Int) hS rfl (rdL.nil _ _)
          obtain ⟨y22, e21, H⟩ := bind_ex H
          refine WR.st (St.append' (.tmp 38) (.tmp 39) (by kernel_rfl) (by kernel_rfl) E24 (r0_one _) hS (by kernel_rfl) (by kernel_rfl) (rdS.up R16 hS.sub0) 140737488355328 (by kernel_rfl) (by kernel_rfl) e21 (fun A23 c24 w25 hS => ?_))
          refine WR.runk [] [4, 5, 6] [0, 1, 2, 7, 23, 24, 25, 33, 34, 37, 40] (L' := [(0, .slice A0 l0.length c0), (1, .int .i64 a1), (2, .int .i64 a2), (7, .slice A7_l1 x7_l1.length c7_l1), (23, .slice A0 l0.length c0), (24, .int .i64 (l0.length : Int)), (25, .int .i64 x25_l1), (33, .slice A14 v12.length c15), (34, .int .i64 (v12.length : Int)), (37, .slice A7_l1 x7_l1.length c7_l1), (40, .slice A23 y22.length c24)]) (w' := w25) (by kernel_rfl) ?_
          refine WR.st (St.box hS (by kernel_rfl) (.cells #[.slice A23 y22.length c24] 24) (fun b26 => .slice (some ⟨b26, 0, none⟩) 1 1) (fun _ => by kernel_rfl) (fun b26 w27 hS => ?_))
          refine WR.runk [] [5, 6] [0, 1, 2, 7, 23, 24, 25, 33, 34, 37, 41] (L' := [(0, .slice A0 l0.length c0), (1, .int .i64 a1), (2, .int .i64 a2), (7, .slice A7_l1 x7_l1.length c7_l1), (23, .slice A0 l0.length c0), (24, .int .i64 (l0.length : Int)), (25, .int .i64 x25_l1), (33, .slice A14 v12.length c15), (34, .int .i64 (v12.length : Int)), (37, .slice A7_l1 x7_l1.length c7_l1), (41, .slice (some ⟨b26, 0, none⟩) 1 1)]) (w' := w27) (by kernel_rfl) ?_
          have hS : Sat w27 (rf w0) [orw 24 (Emx (hp w0) (decide (List.length l0 ≤ 300) = true) 70000 5 (.int .u8)) 1 A7_l1 c7_l1 x7_l1, pts b26 (.cells #[.slice A23 y22.length c24] 24 (0, 0)), osl 5 (r0 (.int .u8)) 1 A23 c24 y22] := hS.sel [2, 0, 1] (by kernel_rfl)
          have hS : Sat w27 (rf w0) [osl 5 (r0 (.int .u8)) 1 A23 c24 y22, orw 24 (Emx (hp w0) (decide (List.length l0 ≤ 300) = true) 70000 5 (.int .u8)) 1 A7_l1 c7_l1 x7_l1, pts b26 (.cells #[.slice A23 y22.length c24] 24 (0, 0))] := hS.sel [2, 0, 1] (by kernel_rfl)
          have hS : Sat w27 (rf w0) [orw 24 (Emx (hp w0) (decide (List.length l0 ≤ 300) = true) 70000 5 (.int .u8)) 1 A7_l1 c7_l1 x7_l1, osl 5 (r0 (.int .u8)) 1 A23 c24 y22, pts b26 (.cells #[.slice A23 y22.length c24] 24 (0, 0))] := hS.sel [1, 0, 2] (by kernel_rfl)
          obtain ⟨y29, e28, H⟩ := bind_ex H
          refine WR.st (St.appendOwn (.tmp 37) (.tmp 41) (by kernel_rfl) (by kernel_rfl) E22 (fun H h => ⟨_, _, rfl, fun _ => h, .inl h⟩) hS 0 rfl (by kernel_rfl) (by kernel_rfl) (by kernel_rfl) (by kernel_rfl) 5864062014805 (by kernel_rfl) (by kernel_rfl) e28 (fun A30 c31 w32 K33 hS hK34 hM35 => ?_))
          have hS : Sat w32 (rf w0) [orw 24 (Emx (hp w0) (decide (List.length l0 ≤ 300) = true) 70000 5 (.int .u8)) 1 A30 c31 y29, pts b26 (.cells #[.slice A23 y22.length c24] 24 (0, 0))] := Sat.ungh hK34 hS
          refine WR.runk [6] [] [0, 1, 2, 7, 23, 24, 25, 33, 34] (L' := [(0, .slice A0 l0.length c0), (1, .int .i64 a1), (2, .int .i64 a2), (7, .slice A30 y29.length c31), (23, .slice A0 l0.length c0), (24, .int .i64 (l0.length : Int)), (25, .int .i64 x25_l1), (33, .slice A14 v12.length c15), (34, .int .i64 (v12.length : Int))]) (w' := w32) (by kernel_rfl) ?_
          refine WR.nil ?_
          refine At.blockNormal ?_
          refine At.go ?_
          refine WC.reg [0, 1] (by kernel_rfl) (by kernel_rfl) ?_
          refine WR.runk [0, 1] [] [0, 1, 2, 7, 23, 24, 25, 33, 34] (L' := [(0, .slice A0 l0.length c0), (1, .int .i64 a1), (2, .int .i64 a2), (7, .slice A30 y29.length c31), (23, .slice A0 l0.length c0), (24, .int .i64 (l0.length : Int)), (25, .int .i64 (wi (x25_l1 + 1))), (33, .slice A14 v12.length c15), (34, .int .i64 (v12.length : Int))]) (w' := w32) (by kernel_rfl) ?_
          refine WR.nil ?_
          have hS : Sat w32 (rf w0) [orw 24 (Emx (hp w0) (decide (List.length l0 ≤ 300) = true) 70000 5 (.int .u8)) 1 A30 c31 y29] := hS.sel [0] (by kernel_rfl)
          refine At.again ?_
          refine WL.weaken [0, 1, 2, 7, 23, 24, 25] (L' := [(0, .slice A0 l0.length c0), (1, .int .i64 a1), (2, .int .i64 a2), (7, .slice A30 y29.length c31), (23, .slice A0 l0.length c0), (24, .int .i64 (l0.length : Int)), (25, .int .i64 (wi (x25_l1 + 1)))]) (by kernel_rfl) ?_
          exact ih y29 (wi (x25_l1 + 1)) A30 c31 _ hS H
        · replace H := ite_f H hb18
          refine WC.reg [0, 1, 2, 3, 4] (by kernel_rfl) (by kernel_rfl) ?_
          refine WR.runk [0, 1] [2, 3, 4] [0, 1, 2, 7, 23, 24, 25, 33, 34, 43, 44] (L' := [(0, .slice A0 l0.length c0), (1, .int .i64 a1), (2, .int .i64 a2), (7, .slice A7_l1 x7_l1.length c7_l1), (23, .slice A0 l0.length c0), (24, .int .i64 (l0.length : Int)), (25, .int .i64 x25_l1), (33, .slice A14 v12.length c15), (34, .int .i64 (v12.length : Int)), (43, .slice A7_l1 x7_l1.length c7_l1), (44, .slice A14 v12.length c15)]) (w' := w) (by kernel_rfl) ?_
          refine WR.st (St.box hS (by kernel_rfl) (.cells #[.slice A14 v12.length c15] 24) (fun b36 => .slice (some ⟨b36, 0, none⟩) 1 1) (fun _ => by kernel_rfl) (fun b36 w37 hS => ?_))
          refine WR.runk [] [3, 4] [0, 1, 2, 7, 23, 24, 25, 33, 34, 43, 45] (L' := [(0, .slice A0 l0.length c0), (1, .int .i64 a1), (2, .int .i64 a2), (7, .slice A7_l1 x7_l1.length c7_l1), (23, .slice A0 l0.length c0), (24, .int .i64 (l0.length : Int)), (25, .int .i64 x25_l1), (33, .slice A14 v12.length c15), (34, .int .i64 (v12.length : Int)), (43, .slice A7_l1 x7_l1.length c7_l1), (45, .slice (some ⟨b36, 0, none⟩) 1 1)]) (w' := w37) (by kernel_rfl) ?_
          have hS : Sat w37 (rf w0) [orw 24 (Emx (hp w0) (decide (List.length l0 ≤ 300) = true) 70000 5 (.int .u8)) 1 A7_l1 c7_l1 x7_l1, pts b36 (.cells #[.slice A14 v12.length c15] 24 (0, 0))] := hS.sel [1, 0] (by kernel_rfl)
          have hS := Sat.addTrue hS
          obtain ⟨y39, e38, H⟩ := bind_ex H
          refine WR.st (St.appendOwn (.tmp 43) (.tmp 45) (by kernel_rfl) (by kernel_rfl) E22 (fun H _ => ⟨_, _, rfl, fun hG => absurd hG (fun hG => by have q0 := of_decide_eq_true hb11; have q1 := of_decide_eq_true hb17; have q2 := of_decide_eq_false hb18; have q98 := of_decide_eq_true hG.1; have q99 := hG.2; omega), .inr R16⟩) hS 0 rfl (by kernel_rfl) (by kernel_rfl) (by kernel_rfl) (by kernel_rfl) 5864062014805 (by kernel_rfl) (by kernel_rfl) e38 (fun A40 c41 w42 K43 hS hK44 hM45 => ?_))
          have hS : Sat w42 (rf w0) [orw 24 (Emx (hp w0) (decide (List.length l0 ≤ 300) = true) 70000 5 (.int .u8)) 1 A40 c41 y39, pts b36 (.cells #[.slice A14 v12.length c15] 24 (0, 0))] := Sat.ungh hK44 hS
          refine WR.runk [4] [] [0, 1, 2, 7, 23, 24, 25, 33, 34] (L' := [(0, .slice A0 l0.length c0), (1, .int .i64 a1), (2, .int .i64 a2), (7, .slice A40 y39.length c41), (23, .slice A0 l0.length c0), (24, .int .i64 (l0.length : Int)), (25, .int .i64 x25_l1), (33, .slice A14 v12.length c15), (34, .int .i64 (v12.length : Int))]) (w' := w42) (by kernel_rfl) ?_
          refine WR.nil ?_
          refine At.blockNormal ?_
          refine At.go ?_
          refine WC.reg [0, 1] (by kernel_rfl) (by kernel_rfl) ?_
          refine WR.runk [0, 1] [] [0, 1, 2, 7, 23, 24, 25, 33, 34] (L' := [(0, .slice A0 l0.length c0), (1, .int .i64 a1), (2, .int .i64 a2), (7, .slice A40 y39.length c41), (23, .slice A0 l0.length c0), (24, .int .i64 (l0.length : Int)), (25, .int .i64 (wi (x25_l1 + 1))), (33, .slice A14 v12.length c15), (34, .int .i64 (v12.length : Int))]) (w' := w42) (by kernel_rfl) ?_
          refine WR.nil ?_
          have hS : Sat w42 (rf w0) [orw 24 (Emx (hp w0) (decide (List.length l0 ≤ 300) = true) 70000 5 (.int .u8)) 1 A40 c41 y39] := hS.sel [0] (by kernel_rfl)
          refine At.again ?_
          refine WL.weaken [0, 1, 2, 7, 23, 24, 25] (L' := [(0, .slice A0 l0.length c0), (1, .int .i64 a1), (2, .int .i64 a2), (7, .slice A40 y39.length c41), (23, .slice A0 l0.length c0), (24, .int .i64 (l0.length : Int)), (25, .int .i64 (wi (x25_l1 + 1)))]) (by kernel_rfl) ?_
          exact ih y39 (wi (x25_l1 + 1)) A40 c41 _ hS H
      · replace H := ite_f H hb17
        refine WR.runk [3, 4, 5, 6] [] [0, 1, 2, 7, 9, 23, 24, 25, 33, 34, 35, 36] (L' := [(0, .slice A0 l0.length c0), (1, .int .i64 a1), (2, .int .i64 a2), (7, .slice A7_l1 x7_l1.length c7_l1), (9, .slice A14 v12.length c15), (23, .slice A0 l0.length c0), (24, .int .i64 (l0.length : Int)), (25, .int .i64 x25_l1), (33, undef), (34, undef), (35, undef), (36, .bool false)]) (w' := w) (by kernel_rfl) ?_
        refine WR.nil ?_
        refine At.go ?_
        refine WC.condF (by kernel_rfl) (by kernel_rfl) (by kernel_rfl) ?_
        refine WC.reg [0, 1, 2, 3, 4] (by kernel_rfl) (by kernel_rfl) ?_
        refine WR.runk [0, 1] [2, 3, 4] [0, 1, 2, 7, 23, 24, 25, 33, 34, 35, 43, 44] (L' := [(0, .slice A0 l0.length c0), (1, .int .i64 a1), (2, .int .i64 a2), (7, .slice A7_l1 x7_l1.length c7_l1), (23, .slice A0 l0.length c0), (24, .int .i64 (l0.length : Int)), (25, .int .i64 x25_l1), (33, undef), (34, undef), (35, undef), (43, .slice A7_l1 x7_l1.length c7_l1), (44, .slice A14 v12.length c15)]) (w' := w) (by kernel_rfl) ?_
        refine WR.st (St.box hS (by kernel_rfl) (.cells #[.slice A14 v12.length c15] 24) (fun b46 => .slice (some ⟨b46, 0, none⟩) 1 1) (fun _ => by kernel_rfl) (fun b46 w47 hS => ?_))
        refine WR.runk [] [3, 4] [0, 1, 2, 7, 23, 24, 25, 33, 34, 35, 43, 45] (L' := [(0, .slice A0 l0.length c0), (1, .int .i64 a1), (2, .int .i64 a2), (7, .slice A7_l1 x7_l1.length c7_l1), (23, .slice A0 l0.length c0), (24, .int .i64 (l0.length : Int)), (25, .int .i64 x25_l1), (33, undef), (34, undef), (35, undef), (43, .slice A7_l1 x7_l1.length c7_l1), (45, .slice (some ⟨b46, 0, none⟩) 1 1)]) (w' := w47) (by kernel_rfl) ?_
        have hS : Sat w47 (rf w0) [orw 24 (Emx (hp w0) (decide (List.length l0 ≤ 300) = true) 70000 5 (.int .u8)) 1 A7_l1 c7_l1 x7_l1, pts b46 (.cells #[.slice A14 v12.length c15] 24 (0, 0))] := hS.sel [1, 0] (by kernel_rfl)
        have hS := Sat.addTrue hS
        obtain ⟨y49, e48, H⟩ := bind_ex H
        refine WR.st (St.appendOwn (.tmp 43) (.tmp 45) (by kernel_rfl) (by kernel_rfl) E22 (fun H _ => ⟨_, _, rfl, fun hG => absurd hG (fun hG => by have q0 := of_decide_eq_true hb11; have q1 := of_decide_eq_false hb17; have q98 := of_decide_eq_true hG.1; have q99 := hG.2; omega), .inr R16⟩) hS 0 rfl (by kernel_rfl) (by kernel_rfl) (by kernel_rfl) (by kernel_rfl) 5864062014805 (by kernel_rfl) (by kernel_rfl) e48 (fun A50 c51 w52 K53 hS hK54 hM55 => ?_))
        have hS : Sat w52 (rf w0) [orw 24 (Emx (hp w0) (decide (List.length l0 ≤ 300) = true) 70000 5 (.int .u8)) 1 A50 c51 y49, pts b46 (.cells #[.slice A14 v12.length c15] 24 (0, 0))] := Sat.ungh hK54 hS
        refine WR.runk [4] [] [0, 1, 2, 7, 23, 24, 25, 33, 34, 35] (L' := [(0, .slice A0 l0.length c0), (1, .int .i64 a1), (2, .int .i64 a2), (7, .slice A50 y49.length c51), (23, .slice A0 l0.length c0), (24, .int .i64 (l0.length : Int)), (25, .int .i64 x25_l1), (33, undef), (34, undef), (35, undef)]) (w' := w52) (by kernel_rfl) ?_
        refine WR.nil ?_
        refine At.blockNormal ?_
        refine At.go ?_
        refine WC.reg [0, 1] (by kernel_rfl) (by kernel_rfl) ?_
        refine WR.runk [0, 1] [] [0, 1, 2, 7, 23, 24, 25, 33, 34, 35] (L' := [(0, .slice A0 l0.length c0), (1, .int .i64 a1), (2, .int .i64 a2), (7, .slice A50 y49.length c51), (23, .slice A0 l0.length c0), (24, .int .i64 (l0.length : Int)), (25, .int .i64 (wi (x25_l1 + 1))), (33, undef), (34, undef), (35, undef)]) (w' := w52) (by kernel_rfl) ?_
        refine WR.nil ?_
        have hS : Sat w52 (rf w0) [orw 24 (Emx (hp w0) (decide (List.length l0 ≤ 300) = true) 70000 5 (.int .u8)) 1 A50 c51 y49] := hS.sel [0] (by kernel_rfl)
        refine At.again ?_
        refine WL.weaken [0, 1, 2, 7, 23, 24, 25] (L' := [(0, .slice A0 l0.length c0), (1, .int .i64 a1), (2, .int .i64 a2), (7, .slice A50 y49.length c51), (23, .slice A0 l0.length c0), (24, .int .i64 (l0.length : Int)), (25, .int .i64 (wi (x25_l1 + 1)))]) (by kernel_rfl) ?_
        exact ih y49 (wi (x25_l1 + 1)) A50 c51 _ hS H
    · replace H := ite_f H hb11
      refine WC.exit (by kernel_rfl) ?_
      refine At.thenExit ?_
      refine At.thenExit ?_
      obtain rfl := Option.some.inj H
      have hS : Sat w (rf w0) [orw 24 (Emx (hp w0) (decide (List.length l0 ≤ 300) = true) 70000 5 (.int .u8)) 1 A7_l1 c7_l1 x7_l1] := hS.sel [0] (by kernel_rfl)
      refine At.weaken [0, 1, 2, 7] (L' := [(0, .slice A0 l0.length c0), (1, .int .i64 a1), (2, .int .i64 a2), (7, .slice A7_l1 x7_l1.length c7_l1)]) (by kernel_rfl) ?_
      exact hn0 A7_l1 c7_l1 _ hS
theorem colophonlaw08_TextMakes.l3_ok {Q} (w0 : World) (A0 : Option Addr) (c0 : Nat) (l0 : List (List Int)) (a1 : Int) (a2 : Int) (o56 : (List (List Int))) (r61 : (Option ((List (List Int)) × (List Int) × Int)) × Int) (y89 : (List (List Int)) × (List Int) × Int) (b92 : Nat) (x64_l2 : Int) (v100 : List Int) (out : (List (List Int))) (hn0 : ∀ (A7_q : Option Addr) (c7_q : Nat) (w : World), Sat w (rf w0) [orw 24 (Esl 5 (.int .u8)) 1 A7_q c7_q out, O45 b92 y89] → At Q (.exit 4) 207 [(0, .slice A0 l0.length c0), (1, .int .i64 a1), (2, .int .i64 a2), (7, .slice A7_q out.length c7_q), (10, .pointer (some ⟨b92, 0, none⟩)), (11, .int .i64 r61.2), (63, .int .i64 (o56.length : Int)), (64, .int .i64 x64_l2)] w) :
    ∀ (k : Nat) (x7_l3 : List (List Int)) (x72_l3 : Int) (A7_l3 : Option Addr) (c7_l3 : Nat) (w : World), Sat w (rf w0) [orw 24 (Esl 5 (.int .u8)) 1 A7_l3 c7_l3 x7_l3, O45 b92 y89] → colophonlaw08_TextMakes.l3 x64_l2 v100 k x7_l3 x72_l3 = some out → WL Try.prog (cbody (cbody (cr (cr (cbody (cl (cr (cr (cbody (cbody (cr (cl (cr (cr (cr (cr (cr (cr C3)))))))))))))))))) Q 207 [(0, .slice A0 l0.length c0), (1, .int .i64 a1), (2, .int .i64 a2), (7, .slice A7_l3 x7_l3.length c7_l3), (10, .pointer (some ⟨b92, 0, none⟩)), (11, .int .i64 r61.2), (12, .int .i64 x64_l2), (63, .int .i64 (o56.length : Int)), (64, .int .i64 x64_l2), (71, .int .i64 (v100.length : Int)), (72, .int .i64 x72_l3)] w := by
  intro k
  induction k with
  | zero => intro x7_l3 x72_l3 A7_l3 c7_l3 w hS H; exact absurd (show none = some out from H) (by simp)
  | succ k ih =>
    intro x7_l3 x72_l3 A7_l3 c7_l3 w hS H
    unfold colophonlaw08_TextMakes.l3 at H
    refine WL.round ?_
    refine WC.seq (by kernel_rfl) ?_
    refine WC.reg [0] (by kernel_rfl) (by kernel_rfl) ?_
    refine WR.runk [0] [] [0, 1, 2, 7, 10, 11, 12, 63, 64, 71, 72, 73] (L' := [(0, .slice A0 l0.length c0), (1, .int .i64 a1), (2, .int .i64 a2), (7, .slice A7_l3 x7_l3.length c7_l3), (10, .pointer (some ⟨b92, 0, none⟩)), (11, .int .i64 r61.2), (12, .int .i64 x64_l2), (63, .int .i64 (o56.length : Int)), (64, .int .i64 x64_l2), (71, .int .i64 (v100.length : Int)), (72, .int .i64 x72_l3), (73, .bool (decide (x72_l3 < (v100.length : Int))))]) (w' := w) (by kernel_rfl) ?_
    refine WR.nil ?_
    refine At.go ?_
    refine WC.seq (by kernel_rfl) ?_
    refine WC.cond (by kernel_rfl) (decide (x72_l3 < (v100.length : Int))) (by kernel_rfl) (by kernel_rfl) (fun hb106 => ?_) (fun hb106 => ?_)
    · replace H := ite_t H hb106
      refine WC.skip (by kernel_rfl) ?_
      refine At.go ?_
      refine WC.seq (by kernel_rfl) ?_
      refine WC.block (by kernel_rfl) ?_
      refine WC.seq (by kernel_rfl) ?_
      refine WC.reg [0, 1] (by kernel_rfl) (by kernel_rfl) ?_
      refine WR.runk [0, 1] [] [0, 1, 2, 7, 10, 11, 12, 13, 63, 64, 71, 72] (L' := [(0, .slice A0 l0.length c0), (1, .int .i64 a1), (2, .int .i64 a2), (7, .slice A7_l3 x7_l3.length c7_l3), (10, .pointer (some ⟨b92, 0, none⟩)), (11, .int .i64 r61.2), (12, .int .i64 x64_l2), (13, .int .i64 x72_l3), (63, .int .i64 (o56.length : Int)), (64, .int .i64 x64_l2), (71, .int .i64 (v100.length : Int)), (72, .int .i64 x72_l3)]) (w' := w) (by kernel_rfl) ?_
      refine WR.nil ?_
      refine At.go ?_
      refine WC.reg [0, 1, 2, 3, 4, 5, 6, 7, 8, 9] (by kernel_rfl) (by kernel_rfl) ?_
      refine WR.runk [0, 1] [2, 3, 4, 5, 6, 7, 8, 9] [0, 1, 2, 7, 10, 11, 12, 13, 63, 64, 71, 72, 75, 76] (L' := [(0, .slice A0 l0.length c0), (1, .int .i64 a1), (2, .int .i64 a2), (7, .slice A7_l3 x7_l3.length c7_l3), (10, .pointer (some ⟨b92, 0, none⟩)), (11, .int .i64 r61.2), (12, .int .i64 x64_l2), (13, .int .i64 x72_l3), (63, .int .i64 (o56.length : Int)), (64, .int .i64 x64_l2), (71, .int .i64 (v100.length : Int)), (72, .int .i64 x72_l3), (75, .slice A7_l3 x7_l3.length c7_l3), (76, .int .i64 x64_l2)]) (w' := w) (by kernel_rfl) ?_
      obtain ⟨K107, hK108, hS⟩ := Sat.gho hS
      have hS : Sat w (rf w0) [gh K107, O45 b92 y89] := hS
      have R109 : rdS (rd K107 (.slice 5 (.int .u8))) 1 K107 A7_l3 c7_l3 x7_l3 := orw.rdS (κ := (.slice 5 (.int .u8))) (Esl.rd (e := 5) (κ := (.int .u8))) hK108
      obtain ⟨css110, hC111⟩ := orw.named hK108
      obtain ⟨v112, e113, H⟩ := bind_ex H
      refine WR.st (St.ofP (PSt.idx (k := .i64) (.tmp 75) (.tmp 76) (by kernel_rfl) (by kernel_rfl) E22 (by kernel_rfl) (by kernel_rfl) (rdS.upd R109 (Sat.ghAt 0 hS rfl)) e113 ?_))
      refine WR.runk [] [3, 4, 5, 6, 7, 8, 9] [0, 1, 2, 7, 10, 11, 12, 13, 63, 64, 71, 72, 77] (L' := [(0, .slice A0 l0.length c0), (1, .int .i64 a1), (2, .int .i64 a2), (7, .slice A7_l3 x7_l3.length c7_l3), (10, .pointer (some ⟨b92, 0, none⟩)), (11, .int .i64 r61.2), (12, .int .i64 x64_l2), (13, .int .i64 x72_l3), (63, .int .i64 (o56.length : Int)), (64, .int .i64 x64_l2), (71, .int .i64 (v100.length : Int)), (72, .int .i64 x72_l3), (77, .pointer (some (adr A7_l3 x64_l2.toNat 1)))]) (w' := w) (by kernel_rfl) ?_
      refine WR.st (St.ofR (RSt.loadRowS (t := 24) (.tmp 77) (by kernel_rfl) (by kernel_rfl) (by kernel_rfl) (by kernel_rfl) hC111 e113 (Sat.ghAt 0 hS rfl) (fun A114 c115 C116 R117 => ?_)))
      replace C116 : css110[x64_l2.toNat]? = some [.slice A114 v112.length c115] := C116
      replace R117 : rdS (r0 (.int .u8)) 1 K107 A114 c115 v112 := R117
      refine WR.runk [4] [5, 6, 7, 8, 9] [0, 1, 2, 7, 10, 11, 12, 63, 64, 71, 72, 78, 79] (L' := [(0, .slice A0 l0.length c0), (1, .int .i64 a1), (2, .int .i64 a2), (7, .slice A7_l3 x7_l3.length c7_l3), (10, .pointer (some ⟨b92, 0, none⟩)), (11, .int .i64 r61.2), (12, .int .i64 x64_l2), (63, .int .i64 (o56.length : Int)), (64, .int .i64 x64_l2), (71, .int .i64 (v100.length : Int)), (72, .int .i64 x72_l3), (78, .slice A114 v112.length c115), (79, .int .i64 x72_l3)]) (w' := w) (by kernel_rfl) ?_
      obtain ⟨v118, e119, H⟩ := bind_ex H
      refine WR.st (St.ofP (PSt.idx (k := .i64) (.tmp 78) (.tmp 79) (by kernel_rfl) (by kernel_rfl) E24 (by kernel_rfl) (by kernel_rfl) (rdS.up R117 (Sat.ghAt 0 hS rfl)) e119 ?_))
      refine WR.runk [] [6, 7, 8, 9] [0, 1, 2, 7, 10, 11, 12, 63, 64, 71, 72, 78, 79, 80] (L' := [(0, .slice A0 l0.length c0), (1, .int .i64 a1), (2, .int .i64 a2), (7, .slice A7_l3 x7_l3.length c7_l3), (10, .pointer (some ⟨b92, 0, none⟩)), (11, .int .i64 r61.2), (12, .int .i64 x64_l2), (63, .int .i64 (o56.length : Int)), (64, .int .i64 x64_l2), (71, .int .i64 (v100.length : Int)), (72, .int .i64 x72_l3), (78, .slice A114 v112.length c115), (79, .int .i64 x72_l3), (80, .pointer (some (adr A114 x72_l3.toNat 1)))]) (w' := w) (by kernel_rfl) ?_
      refine WR.st (St.ofR (RSt.loadInt (t := 5) (.tmp 80) (by kernel_rfl) (by kernel_rfl) (by kernel_rfl) (by kernel_rfl) (rdS.up R117 (Sat.ghAt 0 hS rfl)) e119 ?_))
      refine WR.runk [7] [8, 9] [0, 1, 2, 7, 10, 11, 12, 63, 64, 71, 72, 78, 79, 82] (L' := [(0, .slice A0 l0.length c0), (1, .int .i64 a1), (2, .int .i64 a2), (7, .slice A7_l3 x7_l3.length c7_l3), (10, .pointer (some ⟨b92, 0, none⟩)), (11, .int .i64 r61.2), (12, .int .i64 x64_l2), (63, .int .i64 (o56.length : Int)), (64, .int .i64 x64_l2), (71, .int .i64 (v100.length : Int)), (72, .int .i64 x72_l3), (78, .slice A114 v112.length c115), (79, .int .i64 x72_l3), (82, .int .u8 (ixor .u8 v118 255))]) (w' := w) (by kernel_rfl) ?_
      refine WR.st (St.ofP (PSt.idx (k := .i64) (.tmp 78) (.tmp 79) (by kernel_rfl) (by kernel_rfl) E24 (by kernel_rfl) (by kernel_rfl) (rdS.up R117 (Sat.ghAt 0 hS rfl)) e119 ?_))
      refine WR.runk [] [9] [0, 1, 2, 7, 10, 11, 12, 63, 64, 71, 72, 82, 83] (L' := [(0, .slice A0 l0.length c0), (1, .int .i64 a1), (2, .int .i64 a2), (7, .slice A7_l3 x7_l3.length c7_l3), (10, .pointer (some ⟨b92, 0, none⟩)), (11, .int .i64 r61.2), (12, .int .i64 x64_l2), (63, .int .i64 (o56.length : Int)), (64, .int .i64 x64_l2), (71, .int .i64 (v100.length : Int)), (72, .int .i64 x72_l3), (82, .int .u8 (ixor .u8 v118 255)), (83, .pointer (some (adr A114 x72_l3.toNat 1)))]) (w' := w) (by kernel_rfl) ?_
      obtain ⟨y120, e121, H⟩ := bind_ex H
      refine WR.st (St.storeInRow (t := 5) (.tmp 83) (.tmp 82) (by kernel_rfl) (by kernel_rfl) (by kernel_rfl) hC111 hS C116 e113 (by kernel_rfl) (by kernel_rfl) e121 (fun w122 hS => ?_))
      have hS : Sat w122 (rf w0) [orw 24 (Esl 5 (.int .u8)) 1 A7_l3 c7_l3 (List.set x7_l3 x64_l2.toNat y120), O45 b92 y89] := hS
      have hl123 : List.length (List.set x7_l3 x64_l2.toNat y120) = List.length x7_l3 := List.length_set
      refine WR.know 7 (.slice A7_l3 (List.set x7_l3 x64_l2.toNat y120).length c7_l3) (.slice A7_l3 x7_l3.length c7_l3) (by kernel_rfl) (by rw [hl123]) ?_
      refine WR.runk [] [] [0, 1, 2, 7, 10, 11, 12, 63, 64, 71, 72] (L' := [(0, .slice A0 l0.length c0), (1, .int .i64 a1), (2, .int .i64 a2), (7, .slice A7_l3 (List.set x7_l3 x64_l2.toNat y120).length c7_l3), (10, .pointer (some ⟨b92, 0, none⟩)), (11, .int .i64 r61.2), (12, .int .i64 x64_l2), (63, .int .i64 (o56.length : Int)), (64, .int .i64 x64_l2), (71, .int .i64 (v100.length : Int)), (72, .int .i64 x72_l3)]) (w' := w122) (by kernel_rfl) ?_
      refine WR.nil ?_
      refine At.blockNormal ?_
      refine At.go ?_
      refine WC.reg [0, 1] (by kernel_rfl) (by kernel_rfl) ?_
      refine WR.runk [0, 1] [] [0, 1, 2, 7, 10, 11, 12, 63, 64, 71, 72] (L' := [(0, .slice A0 l0.length c0), (1, .int .i64 a1), (2, .int .i64 a2), (7, .slice A7_l3 (List.set x7_l3 x64_l2.toNat y120).length c7_l3), (10, .pointer (some ⟨b92, 0, none⟩)), (11, .int .i64 r61.2), (12, .int .i64 x64_l2), (63, .int .i64 (o56.length : Int)), (64, .int .i64 x64_l2), (71, .int .i64 (v100.length : Int)), (72, .int .i64 (wi (x72_l3 + 1)))]) (w' := w122) (by kernel_rfl) ?_
      refine WR.nil ?_
      have hS : Sat w122 (rf w0) [orw 24 (Esl 5 (.int .u8)) 1 A7_l3 c7_l3 (List.set x7_l3 x64_l2.toNat y120), O45 b92 y89] := hS.sel [0, 1] (by kernel_rfl)
      refine At.again ?_
      refine WL.weaken [0, 1, 2, 7, 10, 11, 12, 63, 64, 71, 72] (L' := [(0, .slice A0 l0.length c0), (1, .int .i64 a1), (2, .int .i64 a2), (7, .slice A7_l3 (List.set x7_l3 x64_l2.toNat y120).length c7_l3), (10, .pointer (some ⟨b92, 0, none⟩)), (11, .int .i64 r61.2), (12, .int .i64 x64_l2), (63, .int .i64 (o56.length : Int)), (64, .int .i64 x64_l2), (71, .int .i64 (v100.length : Int)), (72, .int .i64 (wi (x72_l3 + 1)))]) (by kernel_rfl) ?_
      exact ih (List.set x7_l3 x64_l2.toNat y120) (wi (x72_l3 + 1)) A7_l3 c7_l3 _ hS H
    · replace H := ite_f H hb106
      refine WC.exit (by kernel_rfl) ?_
      refine At.thenExit ?_
      refine At.thenExit ?_
      obtain rfl := Option.some.inj H
      have hS : Sat w (rf w0) [orw 24 (Esl 5 (.int .u8)) 1 A7_l3 c7_l3 x7_l3, O45 b92 y89] := hS.sel [0, 1] (by kernel_rfl)
      refine At.weaken [0, 1, 2, 7, 10, 11, 63, 64] (L' := [(0, .slice A0 l0.length c0), (1, .int .i64 a1), (2, .int .i64 a2), (7, .slice A7_l3 x7_l3.length c7_l3), (10, .pointer (some ⟨b92, 0, none⟩)), (11, .int .i64 r61.2), (63, .int .i64 (o56.length : Int)), (64, .int .i64 x64_l2)]) (by kernel_rfl) ?_
      exact hn0 A7_l3 c7_l3 _ hS
theorem colophonlaw08_TextMakes.l2_ok {Q} (w0 : World) (A0 : Option Addr) (c0 : Nat) (l0 : List (List Int)) (a1 : Int) (a2 : Int) (o56 : (List (List Int))) (r61 : (Option ((List (List Int)) × (List Int) × Int)) × Int) (y89 : (List (List Int)) × (List Int) × Int) (b92 : Nat) (out : Unit) (hn0 : ∀ (w : World), Sat w (rf w0) [O45 b92 y89] → At Q (.exit 2) 207 [(0, .slice A0 l0.length c0), (1, .int .i64 a1), (2, .int .i64 a2), (10, .pointer (some ⟨b92, 0, none⟩)), (11, .int .i64 r61.2)] w) :
    ∀ (k : Nat) (x7_l2 : List (List Int)) (x64_l2 : Int) (A7_l2 : Option Addr) (c7_l2 : Nat) (w : World), Sat w (rf w0) [orw 24 (Esl 5 (.int .u8)) 1 A7_l2 c7_l2 x7_l2, O45 b92 y89] → colophonlaw08_TextMakes.l2 o56 k x7_l2 x64_l2 = some out → WL Try.prog (cbody (cbody (cr (cl (cr (cr (cr (cr (cr (cr C3)))))))))) Q 207 [(0, .slice A0 l0.length c0), (1, .int .i64 a1), (2, .int .i64 a2), (7, .slice A7_l2 x7_l2.length c7_l2), (10, .pointer (some ⟨b92, 0, none⟩)), (11, .int .i64 r61.2), (63, .int .i64 (o56.length : Int)), (64, .int .i64 x64_l2)] w := by
  intro k
  induction k with
  | zero => intro x7_l2 x64_l2 A7_l2 c7_l2 w hS H; exact absurd (show none = some out from H) (by simp)
  | succ k ih =>
    intro x7_l2 x64_l2 A7_l2 c7_l2 w hS H
    unfold colophonlaw08_TextMakes.l2 at H
    refine WL.round ?_
    refine WC.seq (by kernel_rfl) ?_
    refine WC.reg [0] (by kernel_rfl) (by kernel_rfl) ?_
    refine WR.runk [0] [] [0, 1, 2, 7, 10, 11, 63, 64, 65] (L' := [(0, .slice A0 l0.length c0), (1, .int .i64 a1), (2, .int .i64 a2), (7, .slice A7_l2 x7_l2.length c7_l2), (10, .pointer (some ⟨b92, 0, none⟩)), (11, .int .i64 r61.2), (63, .int .i64 (o56.length : Int)), (64, .int .i64 x64_l2), (65, .bool (decide (x64_l2 < (o56.length : Int))))]) (w' := w) (by kernel_rfl) ?_
    refine WR.nil ?_
    refine At.go ?_
    refine WC.seq (by kernel_rfl) ?_
    refine WC.cond (by kernel_rfl) (decide (x64_l2 < (o56.length : Int))) (by kernel_rfl) (by kernel_rfl) (fun hb94 => ?_) (fun hb94 => ?_)
    · replace H := ite_t H hb94
      refine WC.skip (by kernel_rfl) ?_
      refine At.go ?_
      refine WC.seq (by kernel_rfl) ?_
      refine WC.block (by kernel_rfl) ?_
      refine WC.seq (by kernel_rfl) ?_
      refine WC.reg [0, 1] (by kernel_rfl) (by kernel_rfl) ?_
      refine WR.runk [0, 1] [] [0, 1, 2, 7, 10, 11, 12, 63, 64] (L' := [(0, .slice A0 l0.length c0), (1, .int .i64 a1), (2, .int .i64 a2), (7, .slice A7_l2 x7_l2.length c7_l2), (10, .pointer (some ⟨b92, 0, none⟩)), (11, .int .i64 r61.2), (12, .int .i64 x64_l2), (63, .int .i64 (o56.length : Int)), (64, .int .i64 x64_l2)]) (w' := w) (by kernel_rfl) ?_
      refine WR.nil ?_
      refine At.go ?_
      refine WC.seq (by kernel_rfl) ?_
      refine WC.reg [0, 1, 2, 3, 4, 5] (by kernel_rfl) (by kernel_rfl) ?_
      refine WR.runk [0, 1] [2, 3, 4, 5] [0, 1, 2, 7, 10, 11, 12, 63, 64, 67, 68] (L' := [(0, .slice A0 l0.length c0), (1, .int .i64 a1), (2, .int .i64 a2), (7, .slice A7_l2 x7_l2.length c7_l2), (10, .pointer (some ⟨b92, 0, none⟩)), (11, .int .i64 r61.2), (12, .int .i64 x64_l2), (63, .int .i64 (o56.length : Int)), (64, .int .i64 x64_l2), (67, .slice A7_l2 x7_l2.length c7_l2), (68, .int .i64 x64_l2)]) (w' := w) (by kernel_rfl) ?_
      obtain ⟨K95, hK96, hS⟩ := Sat.gho hS
      have hS : Sat w (rf w0) [gh K95, O45 b92 y89] := hS
      have R97 : rdS (rd K95 (.slice 5 (.int .u8))) 1 K95 A7_l2 c7_l2 x7_l2 := orw.rdS (κ := (.slice 5 (.int .u8))) (Esl.rd (e := 5) (κ := (.int .u8))) hK96
      obtain ⟨css98, hC99⟩ := orw.named hK96
      obtain ⟨v100, e101, H⟩ := bind_ex H
      refine WR.st (St.ofP (PSt.idx (k := .i64) (.tmp 67) (.tmp 68) (by kernel_rfl) (by kernel_rfl) E22 (by kernel_rfl) (by kernel_rfl) (rdS.upd R97 (Sat.ghAt 0 hS rfl)) e101 ?_))
      refine WR.runk [] [3, 4, 5] [0, 1, 2, 7, 10, 11, 12, 63, 64, 69] (L' := [(0, .slice A0 l0.length c0), (1, .int .i64 a1), (2, .int .i64 a2), (7, .slice A7_l2 x7_l2.length c7_l2), (10, .pointer (some ⟨b92, 0, none⟩)), (11, .int .i64 r61.2), (12, .int .i64 x64_l2), (63, .int .i64 (o56.length : Int)), (64, .int .i64 x64_l2), (69, .pointer (some (adr A7_l2 x64_l2.toNat 1)))]) (w' := w) (by kernel_rfl) ?_
      refine WR.st (St.ofR (RSt.loadRowS (t := 24) (.tmp 69) (by kernel_rfl) (by kernel_rfl) (by kernel_rfl) (by kernel_rfl) hC99 e101 (Sat.ghAt 0 hS rfl) (fun A102 c103 C104 R105 => ?_)))
      replace C104 : css98[x64_l2.toNat]? = some [.slice A102 v100.length c103] := C104
      replace R105 : rdS (r0 (.int .u8)) 1 K95 A102 c103 v100 := R105
      refine WR.runk [4, 5] [] [0, 1, 2, 7, 10, 11, 12, 63, 64, 71, 72] (L' := [(0, .slice A0 l0.length c0), (1, .int .i64 a1), (2, .int .i64 a2), (7, .slice A7_l2 x7_l2.length c7_l2), (10, .pointer (some ⟨b92, 0, none⟩)), (11, .int .i64 r61.2), (12, .int .i64 x64_l2), (63, .int .i64 (o56.length : Int)), (64, .int .i64 x64_l2), (71, .int .i64 (v100.length : Int)), (72, .int .i64 0)]) (w' := w) (by kernel_rfl) ?_
      refine WR.nil ?_
      refine At.go ?_
      refine WC.block (by kernel_rfl) ?_
      have hS : Sat w (rf w0) [orw 24 (Esl 5 (.int .u8)) 1 A7_l2 c7_l2 x7_l2, O45 b92 y89] := Sat.ungh hK96 hS
      have hS : Sat w (rf w0) [orw 24 (Esl 5 (.int .u8)) 1 A7_l2 c7_l2 x7_l2, O45 b92 y89] := hS.sel [0, 1] (by kernel_rfl)
      obtain ⟨o124, e125, H⟩ := bind_ex H
      refine WC.loop (by kernel_rfl) ?_
      refine WL.weaken [0, 1, 2, 7, 10, 11, 12, 63, 64, 71, 72] (L' := [(0, .slice A0 l0.length c0), (1, .int .i64 a1), (2, .int .i64 a2), (7, .slice A7_l2 x7_l2.length c7_l2), (10, .pointer (some ⟨b92, 0, none⟩)), (11, .int .i64 r61.2), (12, .int .i64 x64_l2), (63, .int .i64 (o56.length : Int)), (64, .int .i64 x64_l2), (71, .int .i64 (v100.length : Int)), (72, .int .i64 0)]) (by kernel_rfl) ?_
      refine colophonlaw08_TextMakes.l3_ok w0 A0 c0 l0 a1 a2 o56 r61 y89 b92 x64_l2 v100 o124 (fun A7_q126 c7_q126 w127 hS => ?_) FU x7_l2 0 A7_l2 c7_l2 _ hS e125
      refine At.hit ?_
      refine At.blockNormal ?_
      refine At.go ?_
      refine WC.reg [0, 1] (by kernel_rfl) (by kernel_rfl) ?_
      refine WR.runk [0, 1] [] [0, 1, 2, 7, 10, 11, 63, 64] (L' := [(0, .slice A0 l0.length c0), (1, .int .i64 a1), (2, .int .i64 a2), (7, .slice A7_q126 o124.length c7_q126), (10, .pointer (some ⟨b92, 0, none⟩)), (11, .int .i64 r61.2), (63, .int .i64 (o56.length : Int)), (64, .int .i64 (wi (x64_l2 + 1)))]) (w' := w127) (by kernel_rfl) ?_
      refine WR.nil ?_
      have hS : Sat w127 (rf w0) [orw 24 (Esl 5 (.int .u8)) 1 A7_q126 c7_q126 o124, O45 b92 y89] := hS.sel [0, 1] (by kernel_rfl)
      refine At.again ?_
      refine WL.weaken [0, 1, 2, 7, 10, 11, 63, 64] (L' := [(0, .slice A0 l0.length c0), (1, .int .i64 a1), (2, .int .i64 a2), (7, .slice A7_q126 o124.length c7_q126), (10, .pointer (some ⟨b92, 0, none⟩)), (11, .int .i64 r61.2), (63, .int .i64 (o56.length : Int)), (64, .int .i64 (wi (x64_l2 + 1)))]) (by kernel_rfl) ?_
      exact ih o124 (wi (x64_l2 + 1)) A7_q126 c7_q126 _ hS H
    · replace H := ite_f H hb94
      refine WC.exit (by kernel_rfl) ?_
      refine At.thenExit ?_
      refine At.thenExit ?_
      obtain rfl := Option.some.inj H
      have hS : Sat w (rf w0) [O45 b92 y89] := hS.sel [1] (by kernel_rfl)
      refine At.weaken [0, 1, 2, 10, 11] (L' := [(0, .slice A0 l0.length c0), (1, .int .i64 a1), (2, .int .i64 a2), (10, .pointer (some ⟨b92, 0, none⟩)), (11, .int .i64 r61.2)]) (by kernel_rfl) ?_
      exact hn0 _ hS
theorem colophonlaw08_TextMakes.l4_ok {Q} (w0 : World) (A0 : Option Addr) (c0 : Nat) (l0 : List (List Int)) (a2 : Int) (y89 : (List (List Int)) × (List Int) × Int) (b92 : Nat) (R0 : rdS (rd (hp w0) (.slice 5 (.int .u8))) 1 (hp w0) A0 c0 l0) (out : Int) (hn0 : ∀ (w : World), Sat w (rf w0) [O45 b92 y89] → At Q (.exit 6) 207 [(0, .slice A0 l0.length c0), (2, .int .i64 a2), (10, .pointer (some ⟨b92, 0, none⟩)), (19, .int .i64 out)] w) :
    ∀ (k : Nat) (x19_l4 : Int) (x20_l4 : Int) (w : World), Sat w (rf w0) [O45 b92 y89] → colophonlaw08_TextMakes.l4 l0 a2 k x19_l4 x20_l4 = some out → WL Try.prog (cbody (cbody (cr (cl (cr (cr (cr (cr (cr (cr (cr (cr (cr (cr (cr (cr (cr (cr C3)))))))))))))))))) Q 207 [(0, .slice A0 l0.length c0), (2, .int .i64 a2), (10, .pointer (some ⟨b92, 0, none⟩)), (19, .int .i64 x19_l4), (20, .int .i64 x20_l4)] w := by
  intro k
  induction k with
  | zero => intro x19_l4 x20_l4 w hS H; exact absurd (show none = some out from H) (by simp)
  | succ k ih =>
    intro x19_l4 x20_l4 w hS H
    unfold colophonlaw08_TextMakes.l4 at H
    refine WL.round ?_
    refine WC.seq (by kernel_rfl) ?_
    refine WC.seq (by kernel_rfl) ?_
    refine WC.reg [0, 1, 2] (by kernel_rfl) (by kernel_rfl) ?_
    refine WR.runk [0, 1, 2] [] [0, 2, 10, 19, 20, 160] (L' := [(0, .slice A0 l0.length c0), (2, .int .i64 a2), (10, .pointer (some ⟨b92, 0, none⟩)), (19, .int .i64 x19_l4), (20, .int .i64 x20_l4), (160, .bool (decide (x20_l4 < a2)))]) (w' := w) (by kernel_rfl) ?_
    refine WR.nil ?_
    refine At.go ?_
    refine WC.cond (by kernel_rfl) (decide (x20_l4 < a2)) (by kernel_rfl) (by kernel_rfl) (fun hb261 => ?_) (fun hb261 => ?_)
    · replace H := ite_t H hb261
      refine WC.skip (by kernel_rfl) ?_
      refine At.go ?_
      refine WC.seq (by kernel_rfl) ?_
      refine WC.block (by kernel_rfl) ?_
      refine WC.reg [0, 1, 2, 3, 4, 5, 6, 7, 8] (by kernel_rfl) (by kernel_rfl) ?_
      refine WR.runk [0, 1, 2] [3, 4, 5, 6, 7, 8] [0, 2, 10, 19, 20, 163, 164, 165] (L' := [(0, .slice A0 l0.length c0), (2, .int .i64 a2), (10, .pointer (some ⟨b92, 0, none⟩)), (19, .int .i64 x19_l4), (20, .int .i64 x20_l4), (163, .int .i64 x19_l4), (164, .slice A0 l0.length c0), (165, .int .i64 x20_l4)]) (w' := w) (by kernel_rfl) ?_
      obtain ⟨v262, e263, H⟩ := bind_ex H
      refine WR.st (St.ofP (PSt.idx (k := .i64) (.tmp 164) (.tmp 165) (by kernel_rfl) (by kernel_rfl) E22 (by kernel_rfl) (by kernel_rfl) (rdS.up R0 hS.sub0) e263 ?_))
      refine WR.runk [] [4, 5, 6, 7, 8] [0, 2, 10, 19, 20, 163, 166] (L' := [(0, .slice A0 l0.length c0), (2, .int .i64 a2), (10, .pointer (some ⟨b92, 0, none⟩)), (19, .int .i64 x19_l4), (20, .int .i64 x20_l4), (163, .int .i64 x19_l4), (166, .pointer (some (adr A0 x20_l4.toNat 1)))]) (w' := w) (by kernel_rfl) ?_
      refine WR.st (St.ofR (RSt.loadSl (t := 24) (.tmp 166) (by kernel_rfl) (by kernel_rfl) (by kernel_rfl) (by kernel_rfl) R0 e263 hS.sub0 (fun A264 c265 R266 => ?_)))
      replace R266 : rdS (r0 (.int .u8)) 1 (hp w0) A264 c265 v262 := R266
      refine WR.runk [5, 6, 7, 8] [] [0, 2, 10, 19, 20] (L' := [(0, .slice A0 l0.length c0), (2, .int .i64 a2), (10, .pointer (some ⟨b92, 0, none⟩)), (19, .int .i64 (wi (x19_l4 + (wi ((v262.length : Int) + 1))))), (20, .int .i64 x20_l4)]) (w' := w) (by kernel_rfl) ?_
      refine WR.nil ?_
      refine At.blockNormal ?_
      refine At.go ?_
      refine WC.reg [0, 1, 2] (by kernel_rfl) (by kernel_rfl) ?_
      refine WR.runk [0, 1, 2] [] [0, 2, 10, 19, 20] (L' := [(0, .slice A0 l0.length c0), (2, .int .i64 a2), (10, .pointer (some ⟨b92, 0, none⟩)), (19, .int .i64 (wi (x19_l4 + (wi ((v262.length : Int) + 1))))), (20, .int .i64 (wi (x20_l4 + 1)))]) (w' := w) (by kernel_rfl) ?_
      refine WR.nil ?_
      have hS : Sat w (rf w0) [O45 b92 y89] := hS.sel [0] (by kernel_rfl)
      refine At.again ?_
      refine WL.weaken [0, 2, 10, 19, 20] (L' := [(0, .slice A0 l0.length c0), (2, .int .i64 a2), (10, .pointer (some ⟨b92, 0, none⟩)), (19, .int .i64 (wi (x19_l4 + (wi ((v262.length : Int) + 1))))), (20, .int .i64 (wi (x20_l4 + 1)))]) (by kernel_rfl) ?_
      exact ih (wi (x19_l4 + (wi ((v262.length : Int) + 1)))) (wi (x20_l4 + 1)) _ hS H
    · replace H := ite_f H hb261
      refine WC.exit (by kernel_rfl) ?_
      refine At.thenExit ?_
      refine At.thenExit ?_
      obtain rfl := Option.some.inj H
      have hS : Sat w (rf w0) [O45 b92 y89] := hS.sel [0] (by kernel_rfl)
      refine At.weaken [0, 2, 10, 19] (L' := [(0, .slice A0 l0.length c0), (2, .int .i64 a2), (10, .pointer (some ⟨b92, 0, none⟩)), (19, .int .i64 x19_l4)]) (by kernel_rfl) ?_
      exact hn0 _ hS
theorem colophonlaw08_TextMakes.calls (w0 : World) (A0 : Option Addr) (c0 : Nat) (l0 : List (List Int)) (R0 : rdS (rd (hp w0) (.slice 5 (.int .u8))) 1 (hp w0) A0 c0 l0) (a1 : Int) (a2 : Int) (r : Bool) (H : colophonlaw08_TextMakes.f l0 a1 a2 = some r) :
    Calls Try.prog 3 #[.slice A0 l0.length c0, .int .i64 a1, .int .i64 a2] w0 (fun e w' => ∃ v, e = .returned v ∧ colophonlaw08_TextMakes.post w0 r v w') := by
  have hS : Sat w0 (rf w0) [] := Sat.start w0
  unfold colophonlaw08_TextMakes.f at H
  refine calls_of_WC (vs := [.slice A0 l0.length c0, .int .i64 a1, .int .i64 a2]) Try.func3 (c := C3) (n := 207) (by kernel_rfl) (by kernel_rfl) (by kernel_rfl) ?_
  refine WC.seq (by kernel_rfl) ?_
  refine WC.reg [0] (by kernel_rfl) (by kernel_rfl) ?_
  refine WR.runk [0] [] [0, 1, 2] (L' := [(0, .slice A0 l0.length c0), (1, .int .i64 a1), (2, .int .i64 a2)]) (w' := w0) (by kernel_rfl) ?_
  refine WR.nil ?_
  refine At.go ?_
  refine WC.seq (by kernel_rfl) ?_
  refine WC.seq (by kernel_rfl) ?_
  refine WC.reg [0, 1] (by kernel_rfl) (by kernel_rfl) ?_
  obtain ⟨r1, e2, H⟩ := bind_ex H
  refine WR.st (St.call (by kernel_rfl) (f := 7) (args := #[]) (by kernel_rfl) (colophonlaw08_first.calls w0  r1 e2) ?_)
  rintro _ w8 ⟨rfl, hS9⟩
  have hS : Sat w8 (rf w0) [] := hS.ext hS9
  refine WR.runk [1] [] [0, 1, 2, 22] (L' := [(0, .slice A0 l0.length c0), (1, .int .i64 a1), (2, .int .i64 a2), (22, .bool (!r1))]) (w' := w8) (by kernel_rfl) ?_
  refine WR.nil ?_
  refine At.go ?_
  refine WC.cond (by kernel_rfl) (!r1) (by kernel_rfl) (by kernel_rfl) (fun hb10 => ?_) (fun hb10 => ?_)
  · replace H := ite_t H hb10
    refine WC.seq (by kernel_rfl) ?_
    refine WC.reg [0] (by kernel_rfl) (by kernel_rfl) ?_
    refine WR.runk [0] [] [6] (L' := [(6, .bool false)]) (w' := w8) (by kernel_rfl) ?_
    refine WR.nil ?_
    refine At.go ?_
    refine WC.ret (by kernel_rfl) ?_
    refine At.thenRet ?_
    obtain rfl := Option.some.inj H
    have hS : Sat w8 (rf w0) [] := hS.sel [] (by kernel_rfl)
    exact At.body [.bool false] (by kernel_rfl) ⟨_, rfl, rfl, hS⟩
  · replace H := ite_f H hb10
    refine WC.skip (by kernel_rfl) ?_
    refine At.go ?_
    refine WC.seq (by kernel_rfl) ?_
    refine WC.reg [0] (by kernel_rfl) (by kernel_rfl) ?_
    refine WR.runk [0] [] [0, 1, 2, 7] (L' := [(0, .slice A0 l0.length c0), (1, .int .i64 a1), (2, .int .i64 a2), (7, .slice none 0 0)]) (w' := w8) (by kernel_rfl) ?_
    refine WR.nil ?_
    refine At.go ?_
    refine WC.seq (by kernel_rfl) ?_
    refine WC.seq (by kernel_rfl) ?_
    refine WC.reg [0, 1, 2] (by kernel_rfl) (by kernel_rfl) ?_
    refine WR.runk [0, 1, 2] [] [0, 1, 2, 7, 23, 24, 25] (L' := [(0, .slice A0 l0.length c0), (1, .int .i64 a1), (2, .int .i64 a2), (7, .slice none 0 0), (23, .slice A0 l0.length c0), (24, .int .i64 (l0.length : Int)), (25, .int .i64 0)]) (w' := w8) (by kernel_rfl) ?_
    refine WR.nil ?_
    refine At.go ?_
    refine WC.block (by kernel_rfl) ?_
    have hS := hS.addNilR (α := (List Int)) 24 (Emx (hp w0) (decide (List.length l0 ≤ 300) = true) 70000 5 (.int .u8)) 1
    have hS : Sat w8 (rf w0) [orw 24 (Emx (hp w0) (decide (List.length l0 ≤ 300) = true) 70000 5 (.int .u8)) 1 none 0 ([] : List (List Int))] := hS.sel [0] (by kernel_rfl)
    obtain ⟨o56, e57, H⟩ := bind_ex H
    refine WC.loop (by kernel_rfl) ?_
    refine WL.weaken [0, 1, 2, 7, 23, 24, 25] (L' := [(0, .slice A0 l0.length c0), (1, .int .i64 a1), (2, .int .i64 a2), (7, .slice none 0 0), (23, .slice A0 l0.length c0), (24, .int .i64 (l0.length : Int)), (25, .int .i64 0)]) (by kernel_rfl) ?_
    refine colophonlaw08_TextMakes.l1_ok w0 A0 c0 l0 a1 a2 R0 o56 (fun A7_q58 c7_q58 w59 hS => ?_) FU ([] : List (List Int)) 0 none 0 _ hS e57
    refine At.hit ?_
    refine At.go ?_
    refine WC.seq (by kernel_rfl) ?_
    refine WC.reg [0, 1, 2, 3, 4, 5, 6] (by kernel_rfl) (by kernel_rfl) ?_
    refine WR.runk [0] [1, 2, 3, 4, 5, 6] [0, 1, 2, 7, 49] (L' := [(0, .slice A0 l0.length c0), (1, .int .i64 a1), (2, .int .i64 a2), (7, .slice A7_q58 o56.length c7_q58), (49, .slice A7_q58 o56.length c7_q58)]) (w' := w59) (by kernel_rfl) ?_
    obtain ⟨r61, e62, H⟩ := bind_ex H
    refine WR.st (St.call (by kernel_rfl) (f := 8) (args := #[.slice A7_q58 o56.length c7_q58]) (by kernel_rfl) (text_New.calls w59 A7_q58 c7_q58 o56 (Sat.rdMix 0 hS rfl) r61 e62) ?_)
    rintro _ w68 ⟨pv70, rfl, hS69⟩
    have hS : Sat w68 (rf w0) [optP O45 pv70 r61.1, orw 24 (Emx (hp w0) (decide (List.length l0 ≤ 300) = true) 70000 5 (.int .u8)) 1 A7_q58 c7_q58 o56] := hS.ext hS69
    refine WR.runk [2, 3, 4, 5, 6] [] [0, 1, 2, 7, 10, 11] (L' := [(0, .slice A0 l0.length c0), (1, .int .i64 a1), (2, .int .i64 a2), (7, .slice A7_q58 o56.length c7_q58), (10, pv70), (11, .int .i64 r61.2)]) (w' := w68) (by kernel_rfl) ?_
    refine WR.nil ?_
    refine At.go ?_
    refine WC.seq (by kernel_rfl) ?_
    refine WC.seq (by kernel_rfl) ?_
    refine WC.reg [0, 1, 2] (by kernel_rfl) (by kernel_rfl) ?_
    refine WR.runk [0] [1, 2] [0, 1, 2, 7, 10, 11, 53] (L' := [(0, .slice A0 l0.length c0), (1, .int .i64 a1), (2, .int .i64 a2), (7, .slice A7_q58 o56.length c7_q58), (10, pv70), (11, .int .i64 r61.2), (53, .slice A0 l0.length c0)]) (w' := w68) (by kernel_rfl) ?_
    obtain ⟨r71, e72, H⟩ := bind_ex H
    refine WR.st (St.call (by kernel_rfl) (f := 9) (args := #[.slice A0 l0.length c0]) (by kernel_rfl) (colophonref08_Right.calls w68 A0 c0 l0 (rdS.upd R0 hS.sub0) r71 e72) ?_)
    rintro _ w78 ⟨rfl, hS79⟩
    have hS : Sat w78 (rf w0) [optP O45 pv70 r61.1, orw 24 (Emx (hp w0) (decide (List.length l0 ≤ 300) = true) 70000 5 (.int .u8)) 1 A7_q58 c7_q58 o56] := hS.ext hS79
    refine WR.runk [2] [] [0, 1, 2, 7, 10, 11, 55] (L' := [(0, .slice A0 l0.length c0), (1, .int .i64 a1), (2, .int .i64 a2), (7, .slice A7_q58 o56.length c7_q58), (10, pv70), (11, .int .i64 r61.2), (55, .bool (!r71))]) (w' := w78) (by kernel_rfl) ?_
    refine WR.nil ?_
    refine At.go ?_
    refine WC.cond (by kernel_rfl) (!r71) (by kernel_rfl) (by kernel_rfl) (fun hb80 => ?_) (fun hb80 => ?_)
    · replace H := ite_t H hb80
      refine WC.seq (by kernel_rfl) ?_
      refine WC.reg [0, 1, 2, 3, 4, 5, 6] (by kernel_rfl) (by kernel_rfl) ?_
      refine WR.runk [0, 1, 2] [3, 4, 5, 6] [10, 58] (L' := [(10, pv70), (58, .bool (r61.2 == 80))]) (w' := w78) (by kernel_rfl) ?_
      refine WR.split 58 (b := (r61.2 == 80)) (by kernel_rfl) (fun hb81 => ?_) (fun hb81 => ?_)
      · replace H := ite_t H hb81
        refine WR.runk [3] [4, 5, 6] [58, 59] (L' := [(58, .bool true), (59, pv70)]) (w' := w78) (by kernel_rfl) ?_
        rcases hr83 : r61.1 with _ | y82
        · rw [hr83] at H
          dsimp only at H
          have hv84 := optP.none hS hr83
          subst hv84
          have hS : Sat w78 (rf w0) [orw 24 (Emx (hp w0) (decide (List.length l0 ≤ 300) = true) 70000 5 (.int .u8)) 1 A7_q58 c7_q58 o56] := hS.sel [1] (by kernel_rfl)
          refine WR.runk [4, 5, 6] [] [6] (L' := [(6, .bool true)]) (w' := w78) (by kernel_rfl) ?_
          refine WR.nil ?_
          refine At.go ?_
          refine WC.ret (by kernel_rfl) ?_
          refine At.thenRet ?_
          obtain rfl := Option.some.inj H
          have hS : Sat w78 (rf w0) [] := hS.sel [] (by kernel_rfl)
          exact At.body [.bool true] (by kernel_rfl) ⟨_, rfl, rfl, hS⟩
        · rw [hr83] at H
          dsimp only at H
          obtain ⟨b85, hv84, hN87⟩ := optP.some hS hr83
          subst hv84
          have hS : Sat w78 (rf w0) [O45 b85 y82, orw 24 (Emx (hp w0) (decide (List.length l0 ≤ 300) = true) 70000 5 (.int .u8)) 1 A7_q58 c7_q58 o56] := hN87
          refine WR.runk [4, 5, 6] [] [6] (L' := [(6, .bool false)]) (w' := w78) (by kernel_rfl) ?_
          refine WR.nil ?_
          refine At.go ?_
          refine WC.ret (by kernel_rfl) ?_
          refine At.thenRet ?_
          obtain rfl := Option.some.inj H
          have hS : Sat w78 (rf w0) [] := hS.sel [] (by kernel_rfl)
          exact At.body [.bool false] (by kernel_rfl) ⟨_, rfl, rfl, hS⟩
      · replace H := ite_f H hb81
        refine WR.runk [3, 4, 5, 6] [] [6] (L' := [(6, .bool false)]) (w' := w78) (by kernel_rfl) ?_
        refine WR.nil ?_
        refine At.go ?_
        refine WC.ret (by kernel_rfl) ?_
        refine At.thenRet ?_
        obtain rfl := Option.some.inj H
        have hS : Sat w78 (rf w0) [] := hS.sel [] (by kernel_rfl)
        exact At.body [.bool false] (by kernel_rfl) ⟨_, rfl, rfl, hS⟩
    · replace H := ite_f H hb80
      refine WC.skip (by kernel_rfl) ?_
      refine At.go ?_
      refine WC.seq (by kernel_rfl) ?_
      refine WC.seq (by kernel_rfl) ?_
      refine WC.reg [0, 1, 2] (by kernel_rfl) (by kernel_rfl) ?_
      refine WR.runk [0, 1, 2] [] [0, 1, 2, 7, 10, 11, 63, 64] (L' := [(0, .slice A0 l0.length c0), (1, .int .i64 a1), (2, .int .i64 a2), (7, .slice A7_q58 o56.length c7_q58), (10, pv70), (11, .int .i64 r61.2), (63, .int .i64 (o56.length : Int)), (64, .int .i64 0)]) (w' := w78) (by kernel_rfl) ?_
      refine WR.nil ?_
      refine At.go ?_
      refine WC.block (by kernel_rfl) ?_
      have hS : Sat w78 (rf w0) [orw 24 (Emx (hp w0) (decide (List.length l0 ≤ 300) = true) 70000 5 (.int .u8)) 1 A7_q58 c7_q58 o56, optP O45 pv70 r61.1] := hS.sel [1, 0] (by kernel_rfl)
      obtain ⟨_, e88, H⟩ := bind_ex H
      have hS : Sat w78 (rf w0) [orw 24 (Esl 5 (.int .u8)) 1 A7_q58 c7_q58 o56, optP O45 pv70 r61.1] := Sat.toOrw (chk?_some e88) hS
      have hS : Sat w78 (rf w0) [optP O45 pv70 r61.1, orw 24 (Esl 5 (.int .u8)) 1 A7_q58 c7_q58 o56] := hS.sel [1, 0] (by kernel_rfl)
      obtain ⟨y89, hr90, H⟩ := bind_ex H
      obtain ⟨b92, hv91, hN333⟩ := optP.some hS hr90
      subst hv91
      have hS : Sat w78 (rf w0) [O45 b92 y89, orw 24 (Esl 5 (.int .u8)) 1 A7_q58 c7_q58 o56] := hN333
      have hS : Sat w78 (rf w0) [orw 24 (Esl 5 (.int .u8)) 1 A7_q58 c7_q58 o56, O45 b92 y89] := hS.sel [1, 0] (by kernel_rfl)
      obtain ⟨o129, e130, H⟩ := bind_ex H
      refine WC.loop (by kernel_rfl) ?_
      refine WL.weaken [0, 1, 2, 7, 10, 11, 63, 64] (L' := [(0, .slice A0 l0.length c0), (1, .int .i64 a1), (2, .int .i64 a2), (7, .slice A7_q58 o56.length c7_q58), (10, .pointer (some ⟨b92, 0, none⟩)), (11, .int .i64 r61.2), (63, .int .i64 (o56.length : Int)), (64, .int .i64 0)]) (by kernel_rfl) ?_
      refine colophonlaw08_TextMakes.l2_ok w0 A0 c0 l0 a1 a2 o56 r61 y89 b92 o129 (fun w132 hS => ?_) FU o56 0 A7_q58 c7_q58 _ hS e130
      refine At.hit ?_
      refine At.go ?_
      refine WC.seq (by kernel_rfl) ?_
      refine WC.reg [0, 1, 2] (by kernel_rfl) (by kernel_rfl) ?_
      refine WR.runk [0] [1, 2] [0, 1, 2, 10, 11, 86] (L' := [(0, .slice A0 l0.length c0), (1, .int .i64 a1), (2, .int .i64 a2), (10, .pointer (some ⟨b92, 0, none⟩)), (11, .int .i64 r61.2), (86, .slice A0 l0.length c0)]) (w' := w132) (by kernel_rfl) ?_
      obtain ⟨r134, e135, H⟩ := bind_ex H
      refine WR.st (St.call (by kernel_rfl) (f := 10) (args := #[.slice A0 l0.length c0]) (by kernel_rfl) (colophonref08_Symbols.calls w132 A0 c0 l0 (rdS.upd R0 hS.sub0) r134 e135) ?_)
      rintro _ w141 ⟨A143, c144, rfl, hS142⟩
      have hS : Sat w141 (rf w0) [osl 3 (r0 (.int .i64)) 1 A143 c144 r134, O45 b92 y89] := hS.ext hS142
      refine WR.runk [2] [] [0, 1, 2, 10, 11, 14] (L' := [(0, .slice A0 l0.length c0), (1, .int .i64 a1), (2, .int .i64 a2), (10, .pointer (some ⟨b92, 0, none⟩)), (11, .int .i64 r61.2), (14, .slice A143 r134.length c144)]) (w' := w141) (by kernel_rfl) ?_
      refine WR.nil ?_
      refine At.go ?_
      refine WC.seq (by kernel_rfl) ?_
      refine WC.seq (by kernel_rfl) ?_
      refine WC.reg [0, 1, 2, 3, 4, 5, 6, 7, 8, 9, 10, 11, 12, 13, 14, 15, 16, 17, 18, 19, 20, 21, 22, 23, 24, 25, 26, 27, 28, 29, 30] (by kernel_rfl) (by kernel_rfl) ?_
      refine WR.runk [0, 1, 2] [3, 4, 5, 6, 7, 8, 9, 10, 11, 12, 13, 14, 15, 16, 17, 18, 19, 20, 21, 22, 23, 24, 25, 26, 27, 28, 29, 30] [0, 1, 2, 10, 14, 90] (L' := [(0, .slice A0 l0.length c0), (1, .int .i64 a1), (2, .int .i64 a2), (10, .pointer (some ⟨b92, 0, none⟩)), (14, .slice A143 r134.length c144), (90, .bool (r61.2 != 0))]) (w' := w141) (by kernel_rfl) ?_
      refine WR.split 90 (b := (r61.2 != 0)) (by kernel_rfl) (fun hb145 => ?_) (fun hb145 => ?_)
      · replace H := ite_t H hb145
        refine WR.runk [3, 4, 5, 6, 7, 8, 9, 10, 11, 12, 13, 14, 15, 16, 17, 18, 19, 20, 21, 22, 23, 24, 25, 26, 27, 28, 29, 30] [] [0, 1, 2, 10, 118] (L' := [(0, .slice A0 l0.length c0), (1, .int .i64 a1), (2, .int .i64 a2), (10, .pointer (some ⟨b92, 0, none⟩)), (118, .bool true)]) (w' := w141) (by kernel_rfl) ?_
        refine WR.nil ?_
        refine At.go ?_
        refine WC.condT (by kernel_rfl) (by kernel_rfl) (by kernel_rfl) ?_
        refine WC.seq (by kernel_rfl) ?_
        refine WC.reg [0] (by kernel_rfl) (by kernel_rfl) ?_
        refine WR.runk [0] [] [6] (L' := [(6, .bool false)]) (w' := w141) (by kernel_rfl) ?_
        refine WR.nil ?_
        refine At.go ?_
        refine WC.ret (by kernel_rfl) ?_
        refine At.thenRet ?_
        obtain rfl := Option.some.inj H
        have hS : Sat w141 (rf w0) [] := hS.sel [] (by kernel_rfl)
        exact At.body [.bool false] (by kernel_rfl) ⟨_, rfl, rfl, hS⟩
      · replace H := ite_f H hb145
        refine WR.runk [3] [4, 5, 6, 7, 8, 9, 10, 11, 12, 13, 14, 15, 16, 17, 18, 19, 20, 21, 22, 23, 24, 25, 26, 27, 28, 29, 30] [0, 1, 2, 10, 14, 90, 91] (L' := [(0, .slice A0 l0.length c0), (1, .int .i64 a1), (2, .int .i64 a2), (10, .pointer (some ⟨b92, 0, none⟩)), (14, .slice A143 r134.length c144), (90, .bool false), (91, .pointer (some ⟨b92, 0, none⟩))]) (w' := w141) (by kernel_rfl) ?_
        obtain ⟨r146, e147, H⟩ := bind_ex H
        refine WR.st (St.call (by kernel_rfl) (f := 11) (args := #[.pointer (some ⟨b92, 0, none⟩)]) (by kernel_rfl) (text_Text_Docs.calls w141 (.pointer (some ⟨b92, 0, none⟩)) (some y89) (Sat.rdAny 1 hS rfl (fun _ h => O45.rd _ _ _ h)) r146 e147) ?_)
        rintro _ w153 ⟨rfl, hS154⟩
        have hS : Sat w153 (rf w0) [osl 3 (r0 (.int .i64)) 1 A143 c144 r134, O45 b92 y89] := hS.ext hS154
        refine WR.runk [5, 6, 7, 8, 9] [10, 11, 12, 13, 14, 15, 16, 17, 18, 19, 20, 21, 22, 23, 24, 25, 26, 27, 28, 29, 30] [0, 1, 2, 10, 14, 97] (L' := [(0, .slice A0 l0.length c0), (1, .int .i64 a1), (2, .int .i64 a2), (10, .pointer (some ⟨b92, 0, none⟩)), (14, .slice A143 r134.length c144), (97, .bool (r146 != (l0.length : Int)))]) (w' := w153) (by kernel_rfl) ?_
        refine WR.split 97 (b := (r146 != (l0.length : Int))) (by kernel_rfl) (fun hb155 => ?_) (fun hb155 => ?_)
        · replace H := ite_t H hb155
          refine WR.runk [10, 11, 12, 13, 14, 15, 16, 17, 18, 19, 20, 21, 22, 23, 24, 25, 26, 27, 28, 29, 30] [] [0, 1, 2, 10, 118] (L' := [(0, .slice A0 l0.length c0), (1, .int .i64 a1), (2, .int .i64 a2), (10, .pointer (some ⟨b92, 0, none⟩)), (118, .bool true)]) (w' := w153) (by kernel_rfl) ?_
          refine WR.nil ?_
          refine At.go ?_
          refine WC.condT (by kernel_rfl) (by kernel_rfl) (by kernel_rfl) ?_
          refine WC.seq (by kernel_rfl) ?_
          refine WC.reg [0] (by kernel_rfl) (by kernel_rfl) ?_
          refine WR.runk [0] [] [6] (L' := [(6, .bool false)]) (w' := w153) (by kernel_rfl) ?_
          refine WR.nil ?_
          refine At.go ?_
          refine WC.ret (by kernel_rfl) ?_
          refine At.thenRet ?_
          obtain rfl := Option.some.inj H
          have hS : Sat w153 (rf w0) [] := hS.sel [] (by kernel_rfl)
          exact At.body [.bool false] (by kernel_rfl) ⟨_, rfl, rfl, hS⟩
        · replace H := ite_f H hb155
          refine WR.runk [10] [11, 12, 13, 14, 15, 16, 17, 18, 19, 20, 21, 22, 23, 24, 25, 26, 27, 28, 29, 30] [0, 1, 2, 10, 14, 97, 98] (L' := [(0, .slice A0 l0.length c0), (1, .int .i64 a1), (2, .int .i64 a2), (10, .pointer (some ⟨b92, 0, none⟩)), (14, .slice A143 r134.length c144), (97, .bool false), (98, .pointer (some ⟨b92, 0, none⟩))]) (w' := w153) (by kernel_rfl) ?_
          obtain ⟨r156, e157, H⟩ := bind_ex H
          refine WR.st (St.call (by kernel_rfl) (f := 12) (args := #[.pointer (some ⟨b92, 0, none⟩)]) (by kernel_rfl) (text_Text_Len.calls w153 (.pointer (some ⟨b92, 0, none⟩)) (some y89) (Sat.rdAny 1 hS rfl (fun _ h => O45.rd _ _ _ h)) r156 e157) ?_)
          rintro _ w163 ⟨rfl, hS164⟩
          have hS : Sat w163 (rf w0) [osl 3 (r0 (.int .i64)) 1 A143 c144 r134, O45 b92 y89] := hS.ext hS164
          refine WR.runk [12, 13, 14, 15, 16] [17, 18, 19, 20, 21, 22, 23, 24, 25, 26, 27, 28, 29, 30] [0, 1, 2, 10, 14, 104] (L' := [(0, .slice A0 l0.length c0), (1, .int .i64 a1), (2, .int .i64 a2), (10, .pointer (some ⟨b92, 0, none⟩)), (14, .slice A143 r134.length c144), (104, .bool (r156 != (r134.length : Int)))]) (w' := w163) (by kernel_rfl) ?_
          refine WR.split 104 (b := (r156 != (r134.length : Int))) (by kernel_rfl) (fun hb165 => ?_) (fun hb165 => ?_)
          · replace H := ite_t H hb165
            refine WR.runk [17, 18, 19, 20, 21, 22, 23, 24, 25, 26, 27, 28, 29, 30] [] [0, 1, 2, 10, 118] (L' := [(0, .slice A0 l0.length c0), (1, .int .i64 a1), (2, .int .i64 a2), (10, .pointer (some ⟨b92, 0, none⟩)), (118, .bool true)]) (w' := w163) (by kernel_rfl) ?_
            refine WR.nil ?_
            refine At.go ?_
            refine WC.condT (by kernel_rfl) (by kernel_rfl) (by kernel_rfl) ?_
            refine WC.seq (by kernel_rfl) ?_
            refine WC.reg [0] (by kernel_rfl) (by kernel_rfl) ?_
            refine WR.runk [0] [] [6] (L' := [(6, .bool false)]) (w' := w163) (by kernel_rfl) ?_
            refine WR.nil ?_
            refine At.go ?_
            refine WC.ret (by kernel_rfl) ?_
            refine At.thenRet ?_
            obtain rfl := Option.some.inj H
            have hS : Sat w163 (rf w0) [] := hS.sel [] (by kernel_rfl)
            exact At.body [.bool false] (by kernel_rfl) ⟨_, rfl, rfl, hS⟩
          · replace H := ite_f H hb165
            refine WR.runk [17] [18, 19, 20, 21, 22, 23, 24, 25, 26, 27, 28, 29, 30] [0, 1, 2, 10, 14, 104, 105] (L' := [(0, .slice A0 l0.length c0), (1, .int .i64 a1), (2, .int .i64 a2), (10, .pointer (some ⟨b92, 0, none⟩)), (14, .slice A143 r134.length c144), (104, .bool false), (105, .pointer (some ⟨b92, 0, none⟩))]) (w' := w163) (by kernel_rfl) ?_
            obtain ⟨r166, e167, H⟩ := bind_ex H
            refine WR.st (St.call (by kernel_rfl) (f := 13) (args := #[.pointer (some ⟨b92, 0, none⟩)]) (by kernel_rfl) (text_Text_Alphabet.calls w163 (.pointer (some ⟨b92, 0, none⟩)) (some y89) (Sat.rdAny 1 hS rfl (fun _ h => O45.rd _ _ _ h)) r166 e167) ?_)
            rintro _ w173 ⟨rfl, hS174⟩
            have hS : Sat w173 (rf w0) [osl 3 (r0 (.int .i64)) 1 A143 c144 r134, O45 b92 y89] := hS.ext hS174
            refine WR.runk [19, 20, 21, 22, 23, 24] [25, 26, 27, 28, 29, 30] [0, 1, 2, 10, 14, 112] (L' := [(0, .slice A0 l0.length c0), (1, .int .i64 a1), (2, .int .i64 a2), (10, .pointer (some ⟨b92, 0, none⟩)), (14, .slice A143 r134.length c144), (112, .bool (r166 != (wi ((l0.length : Int) + 256))))]) (w' := w173) (by kernel_rfl) ?_
            refine WR.split 112 (b := (r166 != (wi ((l0.length : Int) + 256)))) (by kernel_rfl) (fun hb175 => ?_) (fun hb175 => ?_)
            · replace H := ite_t H hb175
              refine WR.runk [25, 26, 27, 28, 29, 30] [] [0, 1, 2, 10, 118] (L' := [(0, .slice A0 l0.length c0), (1, .int .i64 a1), (2, .int .i64 a2), (10, .pointer (some ⟨b92, 0, none⟩)), (118, .bool true)]) (w' := w173) (by kernel_rfl) ?_
              refine WR.nil ?_
              refine At.go ?_
              refine WC.condT (by kernel_rfl) (by kernel_rfl) (by kernel_rfl) ?_
              refine WC.seq (by kernel_rfl) ?_
              refine WC.reg [0] (by kernel_rfl) (by kernel_rfl) ?_
              refine WR.runk [0] [] [6] (L' := [(6, .bool false)]) (w' := w173) (by kernel_rfl) ?_
              refine WR.nil ?_
              refine At.go ?_
              refine WC.ret (by kernel_rfl) ?_
              refine At.thenRet ?_
              obtain rfl := Option.some.inj H
              have hS : Sat w173 (rf w0) [] := hS.sel [] (by kernel_rfl)
              exact At.body [.bool false] (by kernel_rfl) ⟨_, rfl, rfl, hS⟩
            · replace H := ite_f H hb175
              refine WR.runk [25] [26, 27, 28, 29, 30] [0, 1, 2, 10, 14, 112, 113] (L' := [(0, .slice A0 l0.length c0), (1, .int .i64 a1), (2, .int .i64 a2), (10, .pointer (some ⟨b92, 0, none⟩)), (14, .slice A143 r134.length c144), (112, .bool false), (113, .pointer (some ⟨b92, 0, none⟩))]) (w' := w173) (by kernel_rfl) ?_
              obtain ⟨r176, e177, H⟩ := bind_ex H
              refine WR.st (St.call (by kernel_rfl) (f := 15) (args := #[.pointer (some ⟨b92, 0, none⟩)]) (by kernel_rfl) (text_Text_Symbols.calls w173 (.pointer (some ⟨b92, 0, none⟩)) (some y89) (Sat.rdAny 1 hS rfl (fun _ h => O45.rd _ _ _ h)) r176 e177) ?_)
              rintro _ w183 ⟨A185, c186, rfl, hS184⟩
              have hS : Sat w183 (rf w0) [osl 3 (r0 (.int .i64)) 1 A185 c186 r176, osl 3 (r0 (.int .i64)) 1 A143 c144 r134, O45 b92 y89] := hS.ext hS184
              refine WR.runk [27] [28, 29, 30] [0, 1, 2, 10, 112, 114, 115] (L' := [(0, .slice A0 l0.length c0), (1, .int .i64 a1), (2, .int .i64 a2), (10, .pointer (some ⟨b92, 0, none⟩)), (112, .bool false), (114, .slice A185 r176.length c186), (115, .slice A143 r134.length c144)]) (w' := w183) (by kernel_rfl) ?_
              obtain ⟨r187, e188, H⟩ := bind_ex H
              refine WR.st (St.call (by kernel_rfl) (f := 14) (args := #[.slice A185 r176.length c186, .slice A143 r134.length c144]) (by kernel_rfl) (colophonref08_Same.calls w183 A185 c186 r176 (Sat.rdAt 0 hS rfl) A143 c144 r134 (Sat.rdAt 1 hS rfl) r187 e188) ?_)
              rintro _ w194 ⟨rfl, hS195⟩
              have hS : Sat w194 (rf w0) [osl 3 (r0 (.int .i64)) 1 A185 c186 r176, osl 3 (r0 (.int .i64)) 1 A143 c144 r134, O45 b92 y89] := hS.ext hS195
              refine WR.runk [29, 30] [] [0, 1, 2, 10, 118] (L' := [(0, .slice A0 l0.length c0), (1, .int .i64 a1), (2, .int .i64 a2), (10, .pointer (some ⟨b92, 0, none⟩)), (118, .bool (!r187))]) (w' := w194) (by kernel_rfl) ?_
              refine WR.nil ?_
              refine At.go ?_
              refine WC.cond (by kernel_rfl) (!r187) (by kernel_rfl) (by kernel_rfl) (fun hb196 => ?_) (fun hb196 => ?_)
              · replace H := ite_t H hb196
                refine WC.seq (by kernel_rfl) ?_
                refine WC.reg [0] (by kernel_rfl) (by kernel_rfl) ?_
                refine WR.runk [0] [] [6] (L' := [(6, .bool false)]) (w' := w194) (by kernel_rfl) ?_
                refine WR.nil ?_
                refine At.go ?_
                refine WC.ret (by kernel_rfl) ?_
                refine At.thenRet ?_
                obtain rfl := Option.some.inj H
                have hS : Sat w194 (rf w0) [] := hS.sel [] (by kernel_rfl)
                exact At.body [.bool false] (by kernel_rfl) ⟨_, rfl, rfl, hS⟩
              · replace H := ite_f H hb196
                refine WC.skip (by kernel_rfl) ?_
                refine At.go ?_
                refine WC.seq (by kernel_rfl) ?_
                refine WC.reg [0, 1, 2, 3, 4, 5, 6, 7] (by kernel_rfl) (by kernel_rfl) ?_
                refine WR.runk [0, 1] [2, 3, 4, 5, 6, 7] [0, 1, 2, 10, 120, 121] (L' := [(0, .slice A0 l0.length c0), (1, .int .i64 a1), (2, .int .i64 a2), (10, .pointer (some ⟨b92, 0, none⟩)), (120, .pointer (some ⟨b92, 0, none⟩)), (121, .int .i64 a1)]) (w' := w194) (by kernel_rfl) ?_
                obtain ⟨r197, e198, H⟩ := bind_ex H
                refine WR.st (St.call (by kernel_rfl) (f := 16) (args := #[.pointer (some ⟨b92, 0, none⟩), .int .i64 a1]) (by kernel_rfl) (text_Text_Doc.calls w194 (.pointer (some ⟨b92, 0, none⟩)) (some y89) (Sat.rdAny 2 hS rfl (fun _ h => O45.rd _ _ _ h)) a1 r197 e198) ?_)
                rintro _ w204 ⟨rfl, hS205⟩
                have hS : Sat w204 (rf w0) [osl 3 (r0 (.int .i64)) 1 A185 c186 r176, osl 3 (r0 (.int .i64)) 1 A143 c144 r134, O45 b92 y89] := hS.ext hS205
                refine WR.runk [3, 4, 5, 6, 7] [] [0, 1, 2, 10, 15, 16] (L' := [(0, .slice A0 l0.length c0), (1, .int .i64 a1), (2, .int .i64 a2), (10, .pointer (some ⟨b92, 0, none⟩)), (15, .int .i64 r197.1), (16, .int .i64 r197.2)]) (w' := w204) (by kernel_rfl) ?_
                refine WR.nil ?_
                refine At.go ?_
                refine WC.seq (by kernel_rfl) ?_
                refine WC.reg [0, 1, 2, 3, 4, 5, 6, 7] (by kernel_rfl) (by kernel_rfl) ?_
                refine WR.runk [0, 1] [2, 3, 4, 5, 6, 7] [0, 2, 10, 15, 16, 126, 127] (L' := [(0, .slice A0 l0.length c0), (2, .int .i64 a2), (10, .pointer (some ⟨b92, 0, none⟩)), (15, .int .i64 r197.1), (16, .int .i64 r197.2), (126, .slice A0 l0.length c0), (127, .int .i64 a1)]) (w' := w204) (by kernel_rfl) ?_
                obtain ⟨r206, e207, H⟩ := bind_ex H
                refine WR.st (St.call (by kernel_rfl) (f := 17) (args := #[.slice A0 l0.length c0, .int .i64 a1]) (by kernel_rfl) (colophonref08_Doc.calls w204 A0 c0 l0 (rdS.upd R0 hS.sub0) a1 r206 e207) ?_)
                rintro _ w213 ⟨rfl, hS214⟩
                have hS : Sat w213 (rf w0) [osl 3 (r0 (.int .i64)) 1 A185 c186 r176, osl 3 (r0 (.int .i64)) 1 A143 c144 r134, O45 b92 y89] := hS.ext hS214
                refine WR.runk [3, 4, 5, 6, 7] [] [0, 2, 10, 15, 16, 17, 18] (L' := [(0, .slice A0 l0.length c0), (2, .int .i64 a2), (10, .pointer (some ⟨b92, 0, none⟩)), (15, .int .i64 r197.1), (16, .int .i64 r197.2), (17, .int .i64 r206.1), (18, .int .i64 r206.2)]) (w' := w213) (by kernel_rfl) ?_
                refine WR.nil ?_
                refine At.go ?_
                refine WC.seq (by kernel_rfl) ?_
                refine WC.seq (by kernel_rfl) ?_
                refine WC.reg [0, 1, 2, 3, 4, 5, 6, 7] (by kernel_rfl) (by kernel_rfl) ?_
                refine WR.runk [0, 1, 2, 3] [4, 5, 6, 7] [0, 2, 10, 16, 18, 134] (L' := [(0, .slice A0 l0.length c0), (2, .int .i64 a2), (10, .pointer (some ⟨b92, 0, none⟩)), (16, .int .i64 r197.2), (18, .int .i64 r206.2), (134, .bool (r197.1 != r206.1))]) (w' := w213) (by kernel_rfl) ?_
                refine WR.split 134 (b := (r197.1 != r206.1)) (by kernel_rfl) (fun hb215 => ?_) (fun hb215 => ?_)
                · replace H := ite_t H hb215
                  refine WR.runk [4, 5, 6, 7] [] [0, 2, 10, 138] (L' := [(0, .slice A0 l0.length c0), (2, .int .i64 a2), (10, .pointer (some ⟨b92, 0, none⟩)), (138, .bool true)]) (w' := w213) (by kernel_rfl) ?_
                  refine WR.nil ?_
                  refine At.go ?_
                  refine WC.condT (by kernel_rfl) (by kernel_rfl) (by kernel_rfl) ?_
                  refine WC.seq (by kernel_rfl) ?_
                  refine WC.reg [0] (by kernel_rfl) (by kernel_rfl) ?_
                  refine WR.runk [0] [] [6] (L' := [(6, .bool false)]) (w' := w213) (by kernel_rfl) ?_
                  refine WR.nil ?_
                  refine At.go ?_
                  refine WC.ret (by kernel_rfl) ?_
                  refine At.thenRet ?_
                  obtain rfl := Option.some.inj H
                  have hS : Sat w213 (rf w0) [] := hS.sel [] (by kernel_rfl)
                  exact At.body [.bool false] (by kernel_rfl) ⟨_, rfl, rfl, hS⟩
                · replace H := ite_f H hb215
                  refine WR.runk [4, 5, 6, 7] [] [0, 2, 10, 138] (L' := [(0, .slice A0 l0.length c0), (2, .int .i64 a2), (10, .pointer (some ⟨b92, 0, none⟩)), (138, .bool (r197.2 != r206.2))]) (w' := w213) (by kernel_rfl) ?_
                  refine WR.nil ?_
                  refine At.go ?_
                  refine WC.cond (by kernel_rfl) (r197.2 != r206.2) (by kernel_rfl) (by kernel_rfl) (fun hb216 => ?_) (fun hb216 => ?_)
                  · replace H := ite_t H hb216
                    refine WC.seq (by kernel_rfl) ?_
                    refine WC.reg [0] (by kernel_rfl) (by kernel_rfl) ?_
                    refine WR.runk [0] [] [6] (L' := [(6, .bool false)]) (w' := w213) (by kernel_rfl) ?_
                    refine WR.nil ?_
                    refine At.go ?_
                    refine WC.ret (by kernel_rfl) ?_
                    refine At.thenRet ?_
                    obtain rfl := Option.some.inj H
                    have hS : Sat w213 (rf w0) [] := hS.sel [] (by kernel_rfl)
                    exact At.body [.bool false] (by kernel_rfl) ⟨_, rfl, rfl, hS⟩
                  · replace H := ite_f H hb216
                    refine WC.skip (by kernel_rfl) ?_
                    refine At.go ?_
                    refine WC.seq (by kernel_rfl) ?_
                    refine WC.seq (by kernel_rfl) ?_
                    refine WC.reg [0, 1, 2, 3, 4, 5, 6, 7] (by kernel_rfl) (by kernel_rfl) ?_
                    refine WR.runk [0, 1, 2] [3, 4, 5, 6, 7] [0, 2, 10, 141] (L' := [(0, .slice A0 l0.length c0), (2, .int .i64 a2), (10, .pointer (some ⟨b92, 0, none⟩)), (141, .bool (decide (a2 < 0)))]) (w' := w213) (by kernel_rfl) ?_
                    refine WR.split 141 (b := decide (a2 < 0)) (by kernel_rfl) (fun hb217 => ?_) (fun hb217 => ?_)
                    · replace H := ite_t H hb217
                      refine WR.runk [3, 4, 5, 6, 7] [] [0, 2, 10, 146] (L' := [(0, .slice A0 l0.length c0), (2, .int .i64 a2), (10, .pointer (some ⟨b92, 0, none⟩)), (146, .bool true)]) (w' := w213) (by kernel_rfl) ?_
                      refine WR.nil ?_
                      refine At.go ?_
                      refine WC.condT (by kernel_rfl) (by kernel_rfl) (by kernel_rfl) ?_
                      refine WC.seq (by kernel_rfl) ?_
                      refine WC.reg [0, 1, 2, 3, 4, 5, 6, 7, 8, 9, 10, 11] (by kernel_rfl) (by kernel_rfl) ?_
                      refine WR.runk [0, 1] [2, 3, 4, 5, 6, 7, 8, 9, 10, 11] [2, 10, 147, 148] (L' := [(2, .int .i64 a2), (10, .pointer (some ⟨b92, 0, none⟩)), (147, .pointer (some ⟨b92, 0, none⟩)), (148, .int .i64 a2)]) (w' := w213) (by kernel_rfl) ?_
                      obtain ⟨r218, e219, H⟩ := bind_ex H
                      refine WR.st (St.call (by kernel_rfl) (f := 18) (args := #[.pointer (some ⟨b92, 0, none⟩), .int .i64 a2]) (by kernel_rfl) (text_Text_Start.calls w213 (.pointer (some ⟨b92, 0, none⟩)) (some y89) (Sat.rdAny 2 hS rfl (fun _ h => O45.rd _ _ _ h)) a2 r218 e219) ?_)
                      rintro _ w225 ⟨rfl, hS226⟩
                      have hS : Sat w225 (rf w0) [osl 3 (r0 (.int .i64)) 1 A185 c186 r176, osl 3 (r0 (.int .i64)) 1 A143 c144 r134, O45 b92 y89] := hS.ext hS226
                      refine WR.runk [3, 4] [5, 6, 7, 8, 9, 10, 11] [2, 10, 151] (L' := [(2, .int .i64 a2), (10, .pointer (some ⟨b92, 0, none⟩)), (151, .bool (r218 == (-1)))]) (w' := w225) (by kernel_rfl) ?_
                      refine WR.split 151 (b := (r218 == (-1))) (by kernel_rfl) (fun hb227 => ?_) (fun hb227 => ?_)
                      · replace H := ite_t H hb227
                        refine WR.runk [5, 6] [7, 8, 9, 10, 11] [151, 152, 153] (L' := [(151, .bool true), (152, .pointer (some ⟨b92, 0, none⟩)), (153, .int .i64 a2)]) (w' := w225) (by kernel_rfl) ?_
                        obtain ⟨r228, e229, H⟩ := bind_ex H
                        refine WR.st (St.call (by kernel_rfl) (f := 19) (args := #[.pointer (some ⟨b92, 0, none⟩), .int .i64 a2]) (by kernel_rfl) (text_Text_Bytes.calls w225 (.pointer (some ⟨b92, 0, none⟩)) (some y89) (Sat.rdAny 2 hS rfl (fun _ h => O45.rd _ _ _ h)) a2 r228 e229) ?_)
                        rintro _ w235 ⟨A237, c238, rfl, hS236⟩
                        have hS : Sat w235 (rf w0) [osl 5 (r0 (.int .u8)) 1 A237 c238 r228, osl 3 (r0 (.int .i64)) 1 A185 c186 r176, osl 3 (r0 (.int .i64)) 1 A143 c144 r134, O45 b92 y89] := hS.ext hS236
                        refine WR.runk [8, 9, 10, 11] [] [6] (L' := [(6, .bool ((r228.length : Int) == 0))]) (w' := w235) (by kernel_rfl) ?_
                        refine WR.nil ?_
                        refine At.go ?_
                        refine WC.ret (by kernel_rfl) ?_
                        refine At.thenRet ?_
                        obtain rfl := Option.some.inj H
                        have hS : Sat w235 (rf w0) [] := hS.sel [] (by kernel_rfl)
                        exact At.body [.bool ((r228.length : Int) == 0)] (by kernel_rfl) ⟨_, rfl, rfl, hS⟩
                      · replace H := ite_f H hb227
                        refine WR.runk [5, 6, 7, 8, 9, 10, 11] [] [6] (L' := [(6, .bool false)]) (w' := w225) (by kernel_rfl) ?_
                        refine WR.nil ?_
                        refine At.go ?_
                        refine WC.ret (by kernel_rfl) ?_
                        refine At.thenRet ?_
                        obtain rfl := Option.some.inj H
                        have hS : Sat w225 (rf w0) [] := hS.sel [] (by kernel_rfl)
                        exact At.body [.bool false] (by kernel_rfl) ⟨_, rfl, rfl, hS⟩
                    · replace H := ite_f H hb217
                      refine WR.runk [3, 4, 5, 6, 7] [] [0, 2, 10, 146] (L' := [(0, .slice A0 l0.length c0), (2, .int .i64 a2), (10, .pointer (some ⟨b92, 0, none⟩)), (146, .bool (decide (a2 > (l0.length : Int))))]) (w' := w213) (by kernel_rfl) ?_
                      refine WR.nil ?_
                      refine At.go ?_
                      refine WC.cond (by kernel_rfl) (decide (a2 > (l0.length : Int))) (by kernel_rfl) (by kernel_rfl) (fun hb239 => ?_) (fun hb239 => ?_)
                      · replace H := ite_t H hb239
                        refine WC.seq (by kernel_rfl) ?_
                        refine WC.reg [0, 1, 2, 3, 4, 5, 6, 7, 8, 9, 10, 11] (by kernel_rfl) (by kernel_rfl) ?_
                        refine WR.runk [0, 1] [2, 3, 4, 5, 6, 7, 8, 9, 10, 11] [2, 10, 147, 148] (L' := [(2, .int .i64 a2), (10, .pointer (some ⟨b92, 0, none⟩)), (147, .pointer (some ⟨b92, 0, none⟩)), (148, .int .i64 a2)]) (w' := w213) (by kernel_rfl) ?_
                        obtain ⟨r240, e241, H⟩ := bind_ex H
                        refine WR.st (St.call (by kernel_rfl) (f := 18) (args := #[.pointer (some ⟨b92, 0, none⟩), .int .i64 a2]) (by kernel_rfl) (text_Text_Start.calls w213 (.pointer (some ⟨b92, 0, none⟩)) (some y89) (Sat.rdAny 2 hS rfl (fun _ h => O45.rd _ _ _ h)) a2 r240 e241) ?_)
                        rintro _ w247 ⟨rfl, hS248⟩
                        have hS : Sat w247 (rf w0) [osl 3 (r0 (.int .i64)) 1 A185 c186 r176, osl 3 (r0 (.int .i64)) 1 A143 c144 r134, O45 b92 y89] := hS.ext hS248
                        refine WR.runk [3, 4] [5, 6, 7, 8, 9, 10, 11] [2, 10, 151] (L' := [(2, .int .i64 a2), (10, .pointer (some ⟨b92, 0, none⟩)), (151, .bool (r240 == (-1)))]) (w' := w247) (by kernel_rfl) ?_
                        refine WR.split 151 (b := (r240 == (-1))) (by kernel_rfl) (fun hb249 => ?_) (fun hb249 => ?_)
                        · replace H := ite_t H hb249
                          refine WR.runk [5, 6] [7, 8, 9, 10, 11] [151, 152, 153] (L' := [(151, .bool true), (152, .pointer (some ⟨b92, 0, none⟩)), (153, .int .i64 a2)]) (w' := w247) (by kernel_rfl) ?_
                          obtain ⟨r250, e251, H⟩ := bind_ex H
                          refine WR.st (St.call (by kernel_rfl) (f := 19) (args := #[.pointer (some ⟨b92, 0, none⟩), .int .i64 a2]) (by kernel_rfl) (text_Text_Bytes.calls w247 (.pointer (some ⟨b92, 0, none⟩)) (some y89) (Sat.rdAny 2 hS rfl (fun _ h => O45.rd _ _ _ h)) a2 r250 e251) ?_)
                          rintro _ w257 ⟨A259, c260, rfl, hS258⟩
                          have hS : Sat w257 (rf w0) [osl 5 (r0 (.int .u8)) 1 A259 c260 r250, osl 3 (r0 (.int .i64)) 1 A185 c186 r176, osl 3 (r0 (.int .i64)) 1 A143 c144 r134, O45 b92 y89] := hS.ext hS258
                          refine WR.runk [8, 9, 10, 11] [] [6] (L' := [(6, .bool ((r250.length : Int) == 0))]) (w' := w257) (by kernel_rfl) ?_
                          refine WR.nil ?_
                          refine At.go ?_
                          refine WC.ret (by kernel_rfl) ?_
                          refine At.thenRet ?_
                          obtain rfl := Option.some.inj H
                          have hS : Sat w257 (rf w0) [] := hS.sel [] (by kernel_rfl)
                          exact At.body [.bool ((r250.length : Int) == 0)] (by kernel_rfl) ⟨_, rfl, rfl, hS⟩
                        · replace H := ite_f H hb249
                          refine WR.runk [5, 6, 7, 8, 9, 10, 11] [] [6] (L' := [(6, .bool false)]) (w' := w247) (by kernel_rfl) ?_
                          refine WR.nil ?_
                          refine At.go ?_
                          refine WC.ret (by kernel_rfl) ?_
                          refine At.thenRet ?_
                          obtain rfl := Option.some.inj H
                          have hS : Sat w247 (rf w0) [] := hS.sel [] (by kernel_rfl)
                          exact At.body [.bool false] (by kernel_rfl) ⟨_, rfl, rfl, hS⟩
                      · replace H := ite_f H hb239
                        refine WC.skip (by kernel_rfl) ?_
                        refine At.go ?_
                        refine WC.seq (by kernel_rfl) ?_
                        refine WC.reg [0] (by kernel_rfl) (by kernel_rfl) ?_
                        refine WR.runk [0] [] [0, 2, 10, 19] (L' := [(0, .slice A0 l0.length c0), (2, .int .i64 a2), (10, .pointer (some ⟨b92, 0, none⟩)), (19, .int .i64 0)]) (w' := w213) (by kernel_rfl) ?_
                        refine WR.nil ?_
                        refine At.go ?_
                        refine WC.seq (by kernel_rfl) ?_
                        refine WC.seq (by kernel_rfl) ?_
                        refine WC.reg [0] (by kernel_rfl) (by kernel_rfl) ?_
                        refine WR.runk [0] [] [0, 2, 10, 19, 20] (L' := [(0, .slice A0 l0.length c0), (2, .int .i64 a2), (10, .pointer (some ⟨b92, 0, none⟩)), (19, .int .i64 0), (20, .int .i64 0)]) (w' := w213) (by kernel_rfl) ?_
                        refine WR.nil ?_
                        refine At.go ?_
                        refine WC.block (by kernel_rfl) ?_
                        have hS : Sat w213 (rf w0) [O45 b92 y89] := hS.sel [2] (by kernel_rfl)
                        obtain ⟨o267, e268, H⟩ := bind_ex H
                        refine WC.loop (by kernel_rfl) ?_
                        refine WL.weaken [0, 2, 10, 19, 20] (L' := [(0, .slice A0 l0.length c0), (2, .int .i64 a2), (10, .pointer (some ⟨b92, 0, none⟩)), (19, .int .i64 0), (20, .int .i64 0)]) (by kernel_rfl) ?_
                        refine colophonlaw08_TextMakes.l4_ok w0 A0 c0 l0 a2 y89 b92 R0 o267 (fun w270 hS => ?_) FU 0 0 _ hS e268
                        refine At.hit ?_
                        refine At.go ?_
                        refine WC.seq (by kernel_rfl) ?_
                        refine WC.drawn (by kernel_rfl) (by kernel_rfl) 37 (by kernel_rfl) (fun w272 hw273 => ?_)
                        have hS := hS.heap hw273.1 hw273.2
                        refine WD.weaken [0, 2, 10, 19] (L' := [(0, .slice A0 l0.length c0), (2, .int .i64 a2), (10, .pointer (some ⟨b92, 0, none⟩)), (19, .int .i64 o267)]) (by kernel_rfl) ?_
                        refine WD.pure (i := 0) (v := .pointer (some ⟨b92, 0, none⟩)) (by kernel_rfl) (by kernel_rfl) (fun _ => by kernel_rfl) ?_
                        refine WD.weaken [0, 2, 10, 19, 171] (L' := [(0, .slice A0 l0.length c0), (2, .int .i64 a2), (10, .pointer (some ⟨b92, 0, none⟩)), (19, .int .i64 o267), (171, .pointer (some ⟨b92, 0, none⟩))]) (by kernel_rfl) ?_
                        refine WD.pure (i := 1) (v := .int .i64 a2) (by kernel_rfl) (by kernel_rfl) (fun _ => by kernel_rfl) ?_
                        refine WD.weaken [0, 2, 10, 19, 171, 172] (L' := [(0, .slice A0 l0.length c0), (2, .int .i64 a2), (10, .pointer (some ⟨b92, 0, none⟩)), (19, .int .i64 o267), (171, .pointer (some ⟨b92, 0, none⟩)), (172, .int .i64 a2)]) (by kernel_rfl) ?_
                        refine WD.pure (i := 3) (v := .int .i64 o267) (by kernel_rfl) (by kernel_rfl) (fun _ => by kernel_rfl) ?_
                        refine WD.weaken [0, 2, 10, 171, 172, 174] (L' := [(0, .slice A0 l0.length c0), (2, .int .i64 a2), (10, .pointer (some ⟨b92, 0, none⟩)), (171, .pointer (some ⟨b92, 0, none⟩)), (172, .int .i64 a2), (174, .int .i64 o267)]) (by kernel_rfl) ?_
                        obtain ⟨r274, e275, H⟩ := bind_ex H
                        refine WD.act (i := 2) (by kernel_rfl) (St.call (by kernel_rfl) (f := 18) (args := #[.pointer (some ⟨b92, 0, none⟩), .int .i64 a2]) (by kernel_rfl) (text_Text_Start.calls w272 (.pointer (some ⟨b92, 0, none⟩)) (some y89) (Sat.rdAny 0 hS rfl (fun _ h => O45.rd _ _ _ h)) a2 r274 e275) ?_)
                        rintro _ w281 ⟨rfl, hS282⟩
                        have hS : Sat w281 (rf w0) [O45 b92 y89] := hS.ext hS282
                        refine ⟨(asked.nil _ _), ?_⟩
                        refine WD.weaken [0, 2, 10, 173, 174] (L' := [(0, .slice A0 l0.length c0), (2, .int .i64 a2), (10, .pointer (some ⟨b92, 0, none⟩)), (173, .int .i64 r274), (174, .int .i64 o267)]) (by kernel_rfl) ?_
                        refine WD.pure (i := 4) (v := .bool (r274 == o267)) (by kernel_rfl) (by kernel_rfl) (fun _ => by kernel_rfl) ?_
                        refine WD.weaken [0, 2, 10, 175] (L' := [(0, .slice A0 l0.length c0), (2, .int .i64 a2), (10, .pointer (some ⟨b92, 0, none⟩)), (175, .bool (r274 == o267))]) (by kernel_rfl) ?_
                        refine WD.pure (i := 5) (v := .bool (r274 == o267)) (by kernel_rfl) (by kernel_rfl) (fun _ => by kernel_rfl) ?_
                        refine WD.weaken [0, 2, 10, 176] (L' := [(0, .slice A0 l0.length c0), (2, .int .i64 a2), (10, .pointer (some ⟨b92, 0, none⟩)), (176, .bool (r274 == o267))]) (by kernel_rfl) ?_
                        refine WD.split 176 (b := (r274 == o267)) (by kernel_rfl) (fun hb283 => ?_) (fun hb283 => ?_)
                        · replace H := ite_t H hb283
                          refine WD.weaken [0, 2, 10, 176] (L' := [(0, .slice A0 l0.length c0), (2, .int .i64 a2), (10, .pointer (some ⟨b92, 0, none⟩)), (176, .bool true)]) (by kernel_rfl) ?_
                          refine WD.pure (i := 6) (v := .int .i64 a2) (by kernel_rfl) (by kernel_rfl) (fun _ => by kernel_rfl) ?_
                          refine WD.weaken [0, 2, 10, 176, 177] (L' := [(0, .slice A0 l0.length c0), (2, .int .i64 a2), (10, .pointer (some ⟨b92, 0, none⟩)), (176, .bool true), (177, .int .i64 a2)]) (by kernel_rfl) ?_
                          refine WD.pure (i := 7) (v := .slice A0 l0.length c0) (by kernel_rfl) (by kernel_rfl) (fun _ => by kernel_rfl) ?_
                          refine WD.weaken [0, 2, 10, 176, 177, 178] (L' := [(0, .slice A0 l0.length c0), (2, .int .i64 a2), (10, .pointer (some ⟨b92, 0, none⟩)), (176, .bool true), (177, .int .i64 a2), (178, .slice A0 l0.length c0)]) (by kernel_rfl) ?_
                          refine WD.pure (i := 8) (v := .int .i64 (l0.length : Int)) (by kernel_rfl) (by kernel_rfl) (fun _ => by kernel_rfl) ?_
                          refine WD.weaken [0, 2, 10, 176, 177, 179] (L' := [(0, .slice A0 l0.length c0), (2, .int .i64 a2), (10, .pointer (some ⟨b92, 0, none⟩)), (176, .bool true), (177, .int .i64 a2), (179, .int .i64 (l0.length : Int))]) (by kernel_rfl) ?_
                          refine WD.pure (i := 9) (v := .bool (a2 == (l0.length : Int))) (by kernel_rfl) (by kernel_rfl) (fun _ => by kernel_rfl) ?_
                          refine WD.weaken [0, 2, 10, 176, 180] (L' := [(0, .slice A0 l0.length c0), (2, .int .i64 a2), (10, .pointer (some ⟨b92, 0, none⟩)), (176, .bool true), (180, .bool (a2 == (l0.length : Int)))]) (by kernel_rfl) ?_
                          refine WD.pure (i := 10) (v := .bool (a2 == (l0.length : Int))) (by kernel_rfl) (by kernel_rfl) (fun _ => by kernel_rfl) ?_
                          refine WD.weaken [0, 2, 10, 176, 181] (L' := [(0, .slice A0 l0.length c0), (2, .int .i64 a2), (10, .pointer (some ⟨b92, 0, none⟩)), (176, .bool true), (181, .bool (a2 == (l0.length : Int)))]) (by kernel_rfl) ?_
                          refine WD.split 181 (b := (a2 == (l0.length : Int))) (by kernel_rfl) (fun hb284 => ?_) (fun hb284 => ?_)
                          · replace H := ite_t H hb284
                            refine WD.weaken [0, 2, 10, 176, 181] (L' := [(0, .slice A0 l0.length c0), (2, .int .i64 a2), (10, .pointer (some ⟨b92, 0, none⟩)), (176, .bool true), (181, .bool true)]) (by kernel_rfl) ?_
                            refine WD.pure (i := 11) (v := .pointer (some ⟨b92, 0, none⟩)) (by kernel_rfl) (by kernel_rfl) (fun _ => by kernel_rfl) ?_
                            refine WD.weaken [0, 2, 10, 176, 181, 182] (L' := [(0, .slice A0 l0.length c0), (2, .int .i64 a2), (10, .pointer (some ⟨b92, 0, none⟩)), (176, .bool true), (181, .bool true), (182, .pointer (some ⟨b92, 0, none⟩))]) (by kernel_rfl) ?_
                            refine WD.pure (i := 12) (v := .int .i64 a2) (by kernel_rfl) (by kernel_rfl) (fun _ => by kernel_rfl) ?_
                            refine WD.weaken [0, 2, 10, 176, 181, 182, 183] (L' := [(0, .slice A0 l0.length c0), (2, .int .i64 a2), (10, .pointer (some ⟨b92, 0, none⟩)), (176, .bool true), (181, .bool true), (182, .pointer (some ⟨b92, 0, none⟩)), (183, .int .i64 a2)]) (by kernel_rfl) ?_
                            obtain ⟨r285, e286, H⟩ := bind_ex H
                            refine WD.act (i := 13) (by kernel_rfl) (St.call (by kernel_rfl) (f := 19) (args := #[.pointer (some ⟨b92, 0, none⟩), .int .i64 a2]) (by kernel_rfl) (text_Text_Bytes.calls w281 (.pointer (some ⟨b92, 0, none⟩)) (some y89) (Sat.rdAny 0 hS rfl (fun _ h => O45.rd _ _ _ h)) a2 r285 e286) ?_)
                            rintro _ w292 ⟨A294, c295, rfl, hS293⟩
                            have hS : Sat w292 (rf w0) [osl 5 (r0 (.int .u8)) 1 A294 c295 r285, O45 b92 y89] := hS.ext hS293
                            refine ⟨(asked.nil _ _), ?_⟩
                            refine WD.weaken [0, 2, 10, 176, 181, 184] (L' := [(0, .slice A0 l0.length c0), (2, .int .i64 a2), (10, .pointer (some ⟨b92, 0, none⟩)), (176, .bool true), (181, .bool true), (184, .slice A294 r285.length c295)]) (by kernel_rfl) ?_
                            refine WD.pure (i := 14) (v := .int .i64 (r285.length : Int)) (by kernel_rfl) (by kernel_rfl) (fun _ => by kernel_rfl) ?_
                            refine WD.weaken [0, 2, 10, 176, 181, 185] (L' := [(0, .slice A0 l0.length c0), (2, .int .i64 a2), (10, .pointer (some ⟨b92, 0, none⟩)), (176, .bool true), (181, .bool true), (185, .int .i64 (r285.length : Int))]) (by kernel_rfl) ?_
                            refine WD.pure (i := 15) (v := .bool ((r285.length : Int) == 0)) (by kernel_rfl) (by kernel_rfl) (fun _ => by kernel_rfl) ?_
                            refine WD.weaken [0, 2, 10, 176, 181, 186] (L' := [(0, .slice A0 l0.length c0), (2, .int .i64 a2), (10, .pointer (some ⟨b92, 0, none⟩)), (176, .bool true), (181, .bool true), (186, .bool ((r285.length : Int) == 0))]) (by kernel_rfl) ?_
                            refine WD.pure (i := 16) (v := .bool ((r285.length : Int) == 0)) (by kernel_rfl) (by kernel_rfl) (fun _ => by kernel_rfl) ?_
                            refine WD.weaken [0, 2, 10, 176, 187] (L' := [(0, .slice A0 l0.length c0), (2, .int .i64 a2), (10, .pointer (some ⟨b92, 0, none⟩)), (176, .bool true), (187, .bool ((r285.length : Int) == 0))]) (by kernel_rfl) ?_
                            refine WD.pure (i := 17) (v := .bool ((r285.length : Int) == 0)) (by kernel_rfl) (by kernel_rfl) (fun _ => by kernel_rfl) ?_
                            refine WD.weaken [0, 2, 10, 176, 188] (L' := [(0, .slice A0 l0.length c0), (2, .int .i64 a2), (10, .pointer (some ⟨b92, 0, none⟩)), (176, .bool true), (188, .bool ((r285.length : Int) == 0))]) (by kernel_rfl) ?_
                            refine WD.split 188 (b := ((r285.length : Int) == 0)) (by kernel_rfl) (fun hb296 => ?_) (fun hb296 => ?_)
                            · replace H := ite_t H hb296
                              refine WD.weaken [0, 2, 10, 176, 188] (L' := [(0, .slice A0 l0.length c0), (2, .int .i64 a2), (10, .pointer (some ⟨b92, 0, none⟩)), (176, .bool true), (188, .bool true)]) (by kernel_rfl) ?_
                              refine WD.skip (i := 18) (by kernel_rfl) (by kernel_rfl) ?_
                              refine WD.weaken [0, 2, 10, 176, 188, 189] (L' := [(0, .slice A0 l0.length c0), (2, .int .i64 a2), (10, .pointer (some ⟨b92, 0, none⟩)), (176, .bool true), (188, .bool true), (189, undef)]) (by kernel_rfl) ?_
                              refine WD.skip (i := 19) (by kernel_rfl) (by kernel_rfl) ?_
                              refine WD.weaken [0, 2, 10, 176, 188, 189, 190] (L' := [(0, .slice A0 l0.length c0), (2, .int .i64 a2), (10, .pointer (some ⟨b92, 0, none⟩)), (176, .bool true), (188, .bool true), (189, undef), (190, undef)]) (by kernel_rfl) ?_
                              refine WD.skip (i := 20) (by kernel_rfl) (by kernel_rfl) ?_
                              refine WD.weaken [0, 2, 10, 176, 188, 189, 191] (L' := [(0, .slice A0 l0.length c0), (2, .int .i64 a2), (10, .pointer (some ⟨b92, 0, none⟩)), (176, .bool true), (188, .bool true), (189, undef), (191, undef)]) (by kernel_rfl) ?_
                              refine WD.skip (i := 21) (by kernel_rfl) (by kernel_rfl) ?_
                              refine WD.weaken [0, 2, 10, 176, 188, 192] (L' := [(0, .slice A0 l0.length c0), (2, .int .i64 a2), (10, .pointer (some ⟨b92, 0, none⟩)), (176, .bool true), (188, .bool true), (192, undef)]) (by kernel_rfl) ?_
                              refine WD.skip (i := 22) (by kernel_rfl) (by kernel_rfl) ?_
                              refine WD.weaken [0, 2, 10, 176, 188, 193] (L' := [(0, .slice A0 l0.length c0), (2, .int .i64 a2), (10, .pointer (some ⟨b92, 0, none⟩)), (176, .bool true), (188, .bool true), (193, undef)]) (by kernel_rfl) ?_
                              refine WD.skip (i := 23) (by kernel_rfl) (by kernel_rfl) ?_
                              refine WD.weaken [0, 2, 176, 188, 193, 194] (L' := [(0, .slice A0 l0.length c0), (2, .int .i64 a2), (176, .bool true), (188, .bool true), (193, undef), (194, undef)]) (by kernel_rfl) ?_
                              refine WD.skip (i := 24) (by kernel_rfl) (by kernel_rfl) ?_
                              refine WD.weaken [0, 2, 176, 188, 193, 194, 195] (L' := [(0, .slice A0 l0.length c0), (2, .int .i64 a2), (176, .bool true), (188, .bool true), (193, undef), (194, undef), (195, undef)]) (by kernel_rfl) ?_
                              refine WD.skip (i := 27) (by kernel_rfl) (by kernel_rfl) ?_
                              refine WD.weaken [2, 176, 188, 193, 194, 195, 198] (L' := [(2, .int .i64 a2), (176, .bool true), (188, .bool true), (193, undef), (194, undef), (195, undef), (198, undef)]) (by kernel_rfl) ?_
                              refine WD.skip (i := 28) (by kernel_rfl) (by kernel_rfl) ?_
                              refine WD.weaken [176, 188, 193, 194, 195, 198, 199] (L' := [(176, .bool true), (188, .bool true), (193, undef), (194, undef), (195, undef), (198, undef), (199, undef)]) (by kernel_rfl) ?_
                              refine WD.skip (i := 29) (by kernel_rfl) (by kernel_rfl) ?_
                              refine WD.weaken [176, 188, 193, 194, 195, 200] (L' := [(176, .bool true), (188, .bool true), (193, undef), (194, undef), (195, undef), (200, undef)]) (by kernel_rfl) ?_
                              refine WD.skip (i := 30) (by kernel_rfl) (by kernel_rfl) ?_
                              refine WD.weaken [176, 188, 193, 194, 195, 201] (L' := [(176, .bool true), (188, .bool true), (193, undef), (194, undef), (195, undef), (201, undef)]) (by kernel_rfl) ?_
                              refine WD.skip (i := 31) (by kernel_rfl) (by kernel_rfl) ?_
                              refine WD.weaken [176, 188, 193, 194, 195, 202] (L' := [(176, .bool true), (188, .bool true), (193, undef), (194, undef), (195, undef), (202, undef)]) (by kernel_rfl) ?_
                              refine WD.skip (i := 25) (by kernel_rfl) (by kernel_rfl) ?_
                              refine WD.weaken [176, 188, 193, 196, 202] (L' := [(176, .bool true), (188, .bool true), (193, undef), (196, undef), (202, undef)]) (by kernel_rfl) ?_
                              refine WD.skip (i := 26) (by kernel_rfl) (by kernel_rfl) ?_
                              refine WD.weaken [176, 188, 193, 197, 202] (L' := [(176, .bool true), (188, .bool true), (193, undef), (197, undef), (202, undef)]) (by kernel_rfl) ?_
                              refine WD.skip (i := 32) (by kernel_rfl) (by kernel_rfl) ?_
                              refine WD.weaken [176, 188, 193, 203] (L' := [(176, .bool true), (188, .bool true), (193, undef), (203, undef)]) (by kernel_rfl) ?_
                              refine WD.skip (i := 33) (by kernel_rfl) (by kernel_rfl) ?_
                              refine WD.weaken [176, 188, 204] (L' := [(176, .bool true), (188, .bool true), (204, undef)]) (by kernel_rfl) ?_
                              refine WD.pure (i := 34) (v := .bool true) (by kernel_rfl) (by kernel_rfl) (fun _ => by kernel_rfl) ?_
                              refine WD.weaken [176, 205] (L' := [(176, .bool true), (205, .bool true)]) (by kernel_rfl) ?_
                              refine WD.pure (i := 35) (v := .bool true) (by kernel_rfl) (by kernel_rfl) (fun _ => by kernel_rfl) ?_
                              refine WD.weaken [206] (L' := [(206, .bool true)]) (by kernel_rfl) ?_
                              refine WD.pure (i := 36) (v := .bool true) (by kernel_rfl) (by kernel_rfl) (fun _ => by kernel_rfl) ?_
                              refine WD.weaken [6] (L' := [(6, .bool true)]) (by kernel_rfl) ?_
                              refine WD.nil (by kernel_rfl) ?_
                              refine At.go ?_
                              refine WC.ret (by kernel_rfl) ?_
                              obtain rfl := Option.some.inj H
                              have hS : Sat w292 (rf w0) [] := hS.sel [] (by kernel_rfl)
                              exact At.body [.bool true] (by kernel_rfl) ⟨_, rfl, rfl, hS⟩
                            · replace H := ite_f H hb296
                              refine WD.weaken [0, 2, 10, 176, 188] (L' := [(0, .slice A0 l0.length c0), (2, .int .i64 a2), (10, .pointer (some ⟨b92, 0, none⟩)), (176, .bool true), (188, .bool false)]) (by kernel_rfl) ?_
                              refine WD.pure (i := 18) (v := .int .i64 a2) (by kernel_rfl) (by kernel_rfl) (fun _ => by kernel_rfl) ?_
                              refine WD.weaken [0, 2, 10, 176, 188, 189] (L' := [(0, .slice A0 l0.length c0), (2, .int .i64 a2), (10, .pointer (some ⟨b92, 0, none⟩)), (176, .bool true), (188, .bool false), (189, .int .i64 a2)]) (by kernel_rfl) ?_
                              refine WD.pure (i := 19) (v := .slice A0 l0.length c0) (by kernel_rfl) (by kernel_rfl) (fun _ => by kernel_rfl) ?_
                              refine WD.weaken [0, 2, 10, 176, 188, 189, 190] (L' := [(0, .slice A0 l0.length c0), (2, .int .i64 a2), (10, .pointer (some ⟨b92, 0, none⟩)), (176, .bool true), (188, .bool false), (189, .int .i64 a2), (190, .slice A0 l0.length c0)]) (by kernel_rfl) ?_
                              refine WD.pure (i := 20) (v := .int .i64 (l0.length : Int)) (by kernel_rfl) (by kernel_rfl) (fun _ => by kernel_rfl) ?_
                              refine WD.weaken [0, 2, 10, 176, 188, 189, 191] (L' := [(0, .slice A0 l0.length c0), (2, .int .i64 a2), (10, .pointer (some ⟨b92, 0, none⟩)), (176, .bool true), (188, .bool false), (189, .int .i64 a2), (191, .int .i64 (l0.length : Int))]) (by kernel_rfl) ?_
                              refine WD.pure (i := 21) (v := .bool (decide (a2 < (l0.length : Int)))) (by kernel_rfl) (by kernel_rfl) (fun _ => by kernel_rfl) ?_
                              refine WD.weaken [0, 2, 10, 176, 188, 192] (L' := [(0, .slice A0 l0.length c0), (2, .int .i64 a2), (10, .pointer (some ⟨b92, 0, none⟩)), (176, .bool true), (188, .bool false), (192, .bool (decide (a2 < (l0.length : Int))))]) (by kernel_rfl) ?_
                              refine WD.pure (i := 22) (v := .bool (decide (a2 < (l0.length : Int)))) (by kernel_rfl) (by kernel_rfl) (fun _ => by kernel_rfl) ?_
                              refine WD.weaken [0, 2, 10, 176, 188, 193] (L' := [(0, .slice A0 l0.length c0), (2, .int .i64 a2), (10, .pointer (some ⟨b92, 0, none⟩)), (176, .bool true), (188, .bool false), (193, .bool (decide (a2 < (l0.length : Int))))]) (by kernel_rfl) ?_
                              refine WD.split 193 (b := decide (a2 < (l0.length : Int))) (by kernel_rfl) (fun hb297 => ?_) (fun hb297 => ?_)
                              · replace H := ite_t H hb297
                                refine WD.weaken [0, 2, 10, 176, 188, 193] (L' := [(0, .slice A0 l0.length c0), (2, .int .i64 a2), (10, .pointer (some ⟨b92, 0, none⟩)), (176, .bool true), (188, .bool false), (193, .bool true)]) (by kernel_rfl) ?_
                                refine WD.pure (i := 23) (v := .pointer (some ⟨b92, 0, none⟩)) (by kernel_rfl) (by kernel_rfl) (fun _ => by kernel_rfl) ?_
                                refine WD.weaken [0, 2, 176, 188, 193, 194] (L' := [(0, .slice A0 l0.length c0), (2, .int .i64 a2), (176, .bool true), (188, .bool false), (193, .bool true), (194, .pointer (some ⟨b92, 0, none⟩))]) (by kernel_rfl) ?_
                                refine WD.pure (i := 24) (v := .int .i64 a2) (by kernel_rfl) (by kernel_rfl) (fun _ => by kernel_rfl) ?_
                                refine WD.weaken [0, 2, 176, 188, 193, 194, 195] (L' := [(0, .slice A0 l0.length c0), (2, .int .i64 a2), (176, .bool true), (188, .bool false), (193, .bool true), (194, .pointer (some ⟨b92, 0, none⟩)), (195, .int .i64 a2)]) (by kernel_rfl) ?_
                                refine WD.pure (i := 27) (v := .slice A0 l0.length c0) (by kernel_rfl) (by kernel_rfl) (fun _ => by kernel_rfl) ?_
                                refine WD.weaken [2, 176, 188, 193, 194, 195, 198] (L' := [(2, .int .i64 a2), (176, .bool true), (188, .bool false), (193, .bool true), (194, .pointer (some ⟨b92, 0, none⟩)), (195, .int .i64 a2), (198, .slice A0 l0.length c0)]) (by kernel_rfl) ?_
                                refine WD.pure (i := 28) (v := .int .i64 a2) (by kernel_rfl) (by kernel_rfl) (fun _ => by kernel_rfl) ?_
                                refine WD.weaken [176, 188, 193, 194, 195, 198, 199] (L' := [(176, .bool true), (188, .bool false), (193, .bool true), (194, .pointer (some ⟨b92, 0, none⟩)), (195, .int .i64 a2), (198, .slice A0 l0.length c0), (199, .int .i64 a2)]) (by kernel_rfl) ?_
                                obtain ⟨v298, e299, H⟩ := bind_ex H
                                refine WD.ofP (i := 29) (by kernel_rfl) (PSt.idx (k := .i64) (.tmp 198) (.tmp 199) (by kernel_rfl) (by kernel_rfl) E22 (by kernel_rfl) (by kernel_rfl) (rdS.up R0 hS.sub0) e299 ?_)
                                refine WD.weaken [176, 188, 193, 194, 195, 200] (L' := [(176, .bool true), (188, .bool false), (193, .bool true), (194, .pointer (some ⟨b92, 0, none⟩)), (195, .int .i64 a2), (200, .pointer (some (adr A0 a2.toNat 1)))]) (by kernel_rfl) ?_
                                refine WD.ofR (i := 30) (by kernel_rfl) (RSt.loadSlF (t := 24) (.tmp 200) (by kernel_rfl) (by kernel_rfl) (by kernel_rfl) (by kernel_rfl) R0 e299 hS.sub0 (fun A300 c301 R302 hq303 => ?_))
                                replace R302 : rdS (r0 (.int .u8)) 1 (hp w0) A300 c301 v298 := R302
                                refine WD.weaken [176, 188, 193, 194, 195, 201] (L' := [(176, .bool true), (188, .bool false), (193, .bool true), (194, .pointer (some ⟨b92, 0, none⟩)), (195, .int .i64 a2), (201, .slice A300 v298.length c301)]) (by kernel_rfl) ?_
                                refine WD.ofR (i := 31) (by kernel_rfl) (RSt.toStr (src := 24) (dst := 9) (e := 5) (.tmp 201) (by kernel_rfl) (by kernel_rfl) (by kernel_rfl) (by kernel_rfl) (by kernel_rfl) (by kernel_rfl) (rdS.up R302 hS.sub0) ?_)
                                refine WD.weaken [176, 188, 193, 194, 195, 202] (L' := [(176, .bool true), (188, .bool false), (193, .bool true), (194, .pointer (some ⟨b92, 0, none⟩)), (195, .int .i64 a2), (202, .string (bs v298))]) (by kernel_rfl) ?_
                                obtain ⟨r304, e305, H⟩ := bind_ex H
                                refine WD.act (i := 25) (by kernel_rfl) (St.call (by kernel_rfl) (f := 19) (args := #[.pointer (some ⟨b92, 0, none⟩), .int .i64 a2]) (by kernel_rfl) (text_Text_Bytes.calls w292 (.pointer (some ⟨b92, 0, none⟩)) (some y89) (Sat.rdAny 1 hS rfl (fun _ h => O45.rd _ _ _ h)) a2 r304 e305) ?_)
                                rintro _ w311 ⟨A313, c314, rfl, hS312⟩
                                have hS : Sat w311 (rf w0) [osl 5 (r0 (.int .u8)) 1 A313 c314 r304, osl 5 (r0 (.int .u8)) 1 A294 c295 r285, O45 b92 y89] := hS.ext hS312
                                refine ⟨(asked.cons (RSt.run (n := 207) (RSt.toStr (src := 24) (dst := 9) (e := 5) (.tmp 201) (by kernel_rfl) (by kernel_rfl) (by kernel_rfl) (by kernel_rfl) (by kernel_rfl) (by kernel_rfl) (rdS.up R302 hS.sub0) rfl)) (asked.cons (RSt.run (n := 207) (RSt.load (t := 24) (.tmp 200) (adr A0 a2.toNat 1) (by kernel_rfl) (by kernel_rfl) (by kernel_rfl) (by kernel_rfl) (hq303 _ hS.sub0) rfl)) (asked.nil _ _))), ?_⟩
                                refine WD.weaken [176, 188, 193, 196, 202] (L' := [(176, .bool true), (188, .bool false), (193, .bool true), (196, .slice A313 r304.length c314), (202, .string (bs v298))]) (by kernel_rfl) ?_
                                refine WD.ofR (i := 26) (by kernel_rfl) (RSt.toStr (src := 24) (dst := 9) (e := 5) (.tmp 196) (by kernel_rfl) (by kernel_rfl) (by kernel_rfl) (by kernel_rfl) (by kernel_rfl) (by kernel_rfl) (Sat.rdAt 0 hS rfl) ?_)
                                refine WD.weaken [176, 188, 193, 197, 202] (L' := [(176, .bool true), (188, .bool false), (193, .bool true), (197, .string (bs r304)), (202, .string (bs v298))]) (by kernel_rfl) ?_
                                refine WD.pure (i := 32) (v := .bool ((bs r304).toList == (bs v298).toList)) (by kernel_rfl) (by kernel_rfl) (fun _ => by kernel_rfl) ?_
                                refine WD.weaken [176, 188, 193, 203] (L' := [(176, .bool true), (188, .bool false), (193, .bool true), (203, .bool ((bs r304).toList == (bs v298).toList))]) (by kernel_rfl) ?_
                                refine WD.pure (i := 33) (v := .bool ((bs r304).toList == (bs v298).toList)) (by kernel_rfl) (by kernel_rfl) (fun _ => by kernel_rfl) ?_
                                refine WD.weaken [176, 188, 204] (L' := [(176, .bool true), (188, .bool false), (204, .bool ((bs r304).toList == (bs v298).toList))]) (by kernel_rfl) ?_
                                refine WD.pure (i := 34) (v := .bool ((bs r304).toList == (bs v298).toList)) (by kernel_rfl) (by kernel_rfl) (fun _ => by kernel_rfl) ?_
                                refine WD.weaken [176, 205] (L' := [(176, .bool true), (205, .bool ((bs r304).toList == (bs v298).toList))]) (by kernel_rfl) ?_
                                refine WD.pure (i := 35) (v := .bool ((bs r304).toList == (bs v298).toList)) (by kernel_rfl) (by kernel_rfl) (fun _ => by kernel_rfl) ?_
                                refine WD.weaken [206] (L' := [(206, .bool ((bs r304).toList == (bs v298).toList))]) (by kernel_rfl) ?_
                                refine WD.pure (i := 36) (v := .bool ((bs r304).toList == (bs v298).toList)) (by kernel_rfl) (by kernel_rfl) (fun _ => by kernel_rfl) ?_
                                refine WD.weaken [6] (L' := [(6, .bool ((bs r304).toList == (bs v298).toList))]) (by kernel_rfl) ?_
                                refine WD.nil (by kernel_rfl) ?_
                                refine At.go ?_
                                refine WC.ret (by kernel_rfl) ?_
                                obtain rfl := Option.some.inj H
                                have hS : Sat w311 (rf w0) [] := hS.sel [] (by kernel_rfl)
                                exact At.body [.bool ((bs r304).toList == (bs v298).toList)] (by kernel_rfl) ⟨_, rfl, rfl, hS⟩
                              · replace H := ite_f H hb297
                                refine WD.weaken [0, 2, 10, 176, 188, 193] (L' := [(0, .slice A0 l0.length c0), (2, .int .i64 a2), (10, .pointer (some ⟨b92, 0, none⟩)), (176, .bool true), (188, .bool false), (193, .bool false)]) (by kernel_rfl) ?_
                                refine WD.skip (i := 23) (by kernel_rfl) (by kernel_rfl) ?_
                                refine WD.weaken [0, 2, 176, 188, 193, 194] (L' := [(0, .slice A0 l0.length c0), (2, .int .i64 a2), (176, .bool true), (188, .bool false), (193, .bool false), (194, undef)]) (by kernel_rfl) ?_
                                refine WD.skip (i := 24) (by kernel_rfl) (by kernel_rfl) ?_
                                refine WD.weaken [0, 2, 176, 188, 193, 194, 195] (L' := [(0, .slice A0 l0.length c0), (2, .int .i64 a2), (176, .bool true), (188, .bool false), (193, .bool false), (194, undef), (195, undef)]) (by kernel_rfl) ?_
                                refine WD.skip (i := 27) (by kernel_rfl) (by kernel_rfl) ?_
                                refine WD.weaken [2, 176, 188, 193, 194, 195, 198] (L' := [(2, .int .i64 a2), (176, .bool true), (188, .bool false), (193, .bool false), (194, undef), (195, undef), (198, undef)]) (by kernel_rfl) ?_
                                refine WD.skip (i := 28) (by kernel_rfl) (by kernel_rfl) ?_
                                refine WD.weaken [176, 188, 193, 194, 195, 198, 199] (L' := [(176, .bool true), (188, .bool false), (193, .bool false), (194, undef), (195, undef), (198, undef), (199, undef)]) (by kernel_rfl) ?_
                                refine WD.skip (i := 29) (by kernel_rfl) (by kernel_rfl) ?_
                                refine WD.weaken [176, 188, 193, 194, 195, 200] (L' := [(176, .bool true), (188, .bool false), (193, .bool false), (194, undef), (195, undef), (200, undef)]) (by kernel_rfl) ?_
                                refine WD.skip (i := 30) (by kernel_rfl) (by kernel_rfl) ?_
                                refine WD.weaken [176, 188, 193, 194, 195, 201] (L' := [(176, .bool true), (188, .bool false), (193, .bool false), (194, undef), (195, undef), (201, undef)]) (by kernel_rfl) ?_
                                refine WD.skip (i := 31) (by kernel_rfl) (by kernel_rfl) ?_
                                refine WD.weaken [176, 188, 193, 194, 195, 202] (L' := [(176, .bool true), (188, .bool false), (193, .bool false), (194, undef), (195, undef), (202, undef)]) (by kernel_rfl) ?_
                                refine WD.skip (i := 25) (by kernel_rfl) (by kernel_rfl) ?_
                                refine WD.weaken [176, 188, 193, 196, 202] (L' := [(176, .bool true), (188, .bool false), (193, .bool false), (196, undef), (202, undef)]) (by kernel_rfl) ?_
                                refine WD.skip (i := 26) (by kernel_rfl) (by kernel_rfl) ?_
                                refine WD.weaken [176, 188, 193, 197, 202] (L' := [(176, .bool true), (188, .bool false), (193, .bool false), (197, undef), (202, undef)]) (by kernel_rfl) ?_
                                refine WD.skip (i := 32) (by kernel_rfl) (by kernel_rfl) ?_
                                refine WD.weaken [176, 188, 193, 203] (L' := [(176, .bool true), (188, .bool false), (193, .bool false), (203, undef)]) (by kernel_rfl) ?_
                                refine WD.pure (i := 33) (v := .bool false) (by kernel_rfl) (by kernel_rfl) (fun _ => by kernel_rfl) ?_
                                refine WD.weaken [176, 188, 204] (L' := [(176, .bool true), (188, .bool false), (204, .bool false)]) (by kernel_rfl) ?_
                                refine WD.pure (i := 34) (v := .bool false) (by kernel_rfl) (by kernel_rfl) (fun _ => by kernel_rfl) ?_
                                refine WD.weaken [176, 205] (L' := [(176, .bool true), (205, .bool false)]) (by kernel_rfl) ?_
                                refine WD.pure (i := 35) (v := .bool false) (by kernel_rfl) (by kernel_rfl) (fun _ => by kernel_rfl) ?_
                                refine WD.weaken [206] (L' := [(206, .bool false)]) (by kernel_rfl) ?_
                                refine WD.pure (i := 36) (v := .bool false) (by kernel_rfl) (by kernel_rfl) (fun _ => by kernel_rfl) ?_
                                refine WD.weaken [6] (L' := [(6, .bool false)]) (by kernel_rfl) ?_
                                refine WD.nil (by kernel_rfl) ?_
                                refine At.go ?_
                                refine WC.ret (by kernel_rfl) ?_
                                obtain rfl := Option.some.inj H
                                have hS : Sat w292 (rf w0) [] := hS.sel [] (by kernel_rfl)
                                exact At.body [.bool false] (by kernel_rfl) ⟨_, rfl, rfl, hS⟩
                          · replace H := ite_f H hb284
                            refine WD.weaken [0, 2, 10, 176, 181] (L' := [(0, .slice A0 l0.length c0), (2, .int .i64 a2), (10, .pointer (some ⟨b92, 0, none⟩)), (176, .bool true), (181, .bool false)]) (by kernel_rfl) ?_
                            refine WD.skip (i := 11) (by kernel_rfl) (by kernel_rfl) ?_
                            refine WD.weaken [0, 2, 10, 176, 181, 182] (L' := [(0, .slice A0 l0.length c0), (2, .int .i64 a2), (10, .pointer (some ⟨b92, 0, none⟩)), (176, .bool true), (181, .bool false), (182, undef)]) (by kernel_rfl) ?_
                            refine WD.skip (i := 12) (by kernel_rfl) (by kernel_rfl) ?_
                            refine WD.weaken [0, 2, 10, 176, 181, 182, 183] (L' := [(0, .slice A0 l0.length c0), (2, .int .i64 a2), (10, .pointer (some ⟨b92, 0, none⟩)), (176, .bool true), (181, .bool false), (182, undef), (183, undef)]) (by kernel_rfl) ?_
                            refine WD.skip (i := 13) (by kernel_rfl) (by kernel_rfl) ?_
                            refine WD.weaken [0, 2, 10, 176, 181, 184] (L' := [(0, .slice A0 l0.length c0), (2, .int .i64 a2), (10, .pointer (some ⟨b92, 0, none⟩)), (176, .bool true), (181, .bool false), (184, undef)]) (by kernel_rfl) ?_
                            refine WD.skip (i := 14) (by kernel_rfl) (by kernel_rfl) ?_
                            refine WD.weaken [0, 2, 10, 176, 181, 185] (L' := [(0, .slice A0 l0.length c0), (2, .int .i64 a2), (10, .pointer (some ⟨b92, 0, none⟩)), (176, .bool true), (181, .bool false), (185, undef)]) (by kernel_rfl) ?_
                            refine WD.skip (i := 15) (by kernel_rfl) (by kernel_rfl) ?_
                            refine WD.weaken [0, 2, 10, 176, 181, 186] (L' := [(0, .slice A0 l0.length c0), (2, .int .i64 a2), (10, .pointer (some ⟨b92, 0, none⟩)), (176, .bool true), (181, .bool false), (186, undef)]) (by kernel_rfl) ?_
                            refine WD.pure (i := 16) (v := .bool false) (by kernel_rfl) (by kernel_rfl) (fun _ => by kernel_rfl) ?_
                            refine WD.weaken [0, 2, 10, 176, 187] (L' := [(0, .slice A0 l0.length c0), (2, .int .i64 a2), (10, .pointer (some ⟨b92, 0, none⟩)), (176, .bool true), (187, .bool false)]) (by kernel_rfl) ?_
                            refine WD.pure (i := 17) (v := .bool false) (by kernel_rfl) (by kernel_rfl) (fun _ => by kernel_rfl) ?_
                            refine WD.weaken [0, 2, 10, 176, 188] (L' := [(0, .slice A0 l0.length c0), (2, .int .i64 a2), (10, .pointer (some ⟨b92, 0, none⟩)), (176, .bool true), (188, .bool false)]) (by kernel_rfl) ?_
                            refine WD.pure (i := 18) (v := .int .i64 a2) (by kernel_rfl) (by kernel_rfl) (fun _ => by kernel_rfl) ?_
                            refine WD.weaken [0, 2, 10, 176, 188, 189] (L' := [(0, .slice A0 l0.length c0), (2, .int .i64 a2), (10, .pointer (some ⟨b92, 0, none⟩)), (176, .bool true), (188, .bool false), (189, .int .i64 a2)]) (by kernel_rfl) ?_
                            refine WD.pure (i := 19) (v := .slice A0 l0.length c0) (by kernel_rfl) (by kernel_rfl) (fun _ => by kernel_rfl) ?_
                            refine WD.weaken [0, 2, 10, 176, 188, 189, 190] (L' := [(0, .slice A0 l0.length c0), (2, .int .i64 a2), (10, .pointer (some ⟨b92, 0, none⟩)), (176, .bool true), (188, .bool false), (189, .int .i64 a2), (190, .slice A0 l0.length c0)]) (by kernel_rfl) ?_
                            refine WD.pure (i := 20) (v := .int .i64 (l0.length : Int)) (by kernel_rfl) (by kernel_rfl) (fun _ => by kernel_rfl) ?_
                            refine WD.weaken [0, 2, 10, 176, 188, 189, 191] (L' := [(0, .slice A0 l0.length c0), (2, .int .i64 a2), (10, .pointer (some ⟨b92, 0, none⟩)), (176, .bool true), (188, .bool false), (189, .int .i64 a2), (191, .int .i64 (l0.length : Int))]) (by kernel_rfl) ?_
                            refine WD.pure (i := 21) (v := .bool (decide (a2 < (l0.length : Int)))) (by kernel_rfl) (by kernel_rfl) (fun _ => by kernel_rfl) ?_
                            refine WD.weaken [0, 2, 10, 176, 188, 192] (L' := [(0, .slice A0 l0.length c0), (2, .int .i64 a2), (10, .pointer (some ⟨b92, 0, none⟩)), (176, .bool true), (188, .bool false), (192, .bool (decide (a2 < (l0.length : Int))))]) (by kernel_rfl) ?_
                            refine WD.pure (i := 22) (v := .bool (decide (a2 < (l0.length : Int)))) (by kernel_rfl) (by kernel_rfl) (fun _ => by kernel_rfl) ?_
                            refine WD.weaken [0, 2, 10, 176, 188, 193] (L' := [(0, .slice A0 l0.length c0), (2, .int .i64 a2), (10, .pointer (some ⟨b92, 0, none⟩)), (176, .bool true), (188, .bool false), (193, .bool (decide (a2 < (l0.length : Int))))]) (by kernel_rfl) ?_
                            refine WD.split 193 (b := decide (a2 < (l0.length : Int))) (by kernel_rfl) (fun hb315 => ?_) (fun hb315 => ?_)
                            · replace H := ite_t H hb315
                              refine WD.weaken [0, 2, 10, 176, 188, 193] (L' := [(0, .slice A0 l0.length c0), (2, .int .i64 a2), (10, .pointer (some ⟨b92, 0, none⟩)), (176, .bool true), (188, .bool false), (193, .bool true)]) (by kernel_rfl) ?_
                              refine WD.pure (i := 23) (v := .pointer (some ⟨b92, 0, none⟩)) (by kernel_rfl) (by kernel_rfl) (fun _ => by kernel_rfl) ?_
                              refine WD.weaken [0, 2, 176, 188, 193, 194] (L' := [(0, .slice A0 l0.length c0), (2, .int .i64 a2), (176, .bool true), (188, .bool false), (193, .bool true), (194, .pointer (some ⟨b92, 0, none⟩))]) (by kernel_rfl) ?_
                              refine WD.pure (i := 24) (v := .int .i64 a2) (by kernel_rfl) (by kernel_rfl) (fun _ => by kernel_rfl) ?_
                              refine WD.weaken [0, 2, 176, 188, 193, 194, 195] (L' := [(0, .slice A0 l0.length c0), (2, .int .i64 a2), (176, .bool true), (188, .bool false), (193, .bool true), (194, .pointer (some ⟨b92, 0, none⟩)), (195, .int .i64 a2)]) (by kernel_rfl) ?_
                              refine WD.pure (i := 27) (v := .slice A0 l0.length c0) (by kernel_rfl) (by kernel_rfl) (fun _ => by kernel_rfl) ?_
                              refine WD.weaken [2, 176, 188, 193, 194, 195, 198] (L' := [(2, .int .i64 a2), (176, .bool true), (188, .bool false), (193, .bool true), (194, .pointer (some ⟨b92, 0, none⟩)), (195, .int .i64 a2), (198, .slice A0 l0.length c0)]) (by kernel_rfl) ?_
                              refine WD.pure (i := 28) (v := .int .i64 a2) (by kernel_rfl) (by kernel_rfl) (fun _ => by kernel_rfl) ?_
                              refine WD.weaken [176, 188, 193, 194, 195, 198, 199] (L' := [(176, .bool true), (188, .bool false), (193, .bool true), (194, .pointer (some ⟨b92, 0, none⟩)), (195, .int .i64 a2), (198, .slice A0 l0.length c0), (199, .int .i64 a2)]) (by kernel_rfl) ?_
                              obtain ⟨v316, e317, H⟩ := bind_ex H
                              refine WD.ofP (i := 29) (by kernel_rfl) (PSt.idx (k := .i64) (.tmp 198) (.tmp 199) (by kernel_rfl) (by kernel_rfl) E22 (by kernel_rfl) (by kernel_rfl) (rdS.up R0 hS.sub0) e317 ?_)
                              refine WD.weaken [176, 188, 193, 194, 195, 200] (L' := [(176, .bool true), (188, .bool false), (193, .bool true), (194, .pointer (some ⟨b92, 0, none⟩)), (195, .int .i64 a2), (200, .pointer (some (adr A0 a2.toNat 1)))]) (by kernel_rfl) ?_
                              refine WD.ofR (i := 30) (by kernel_rfl) (RSt.loadSlF (t := 24) (.tmp 200) (by kernel_rfl) (by kernel_rfl) (by kernel_rfl) (by kernel_rfl) R0 e317 hS.sub0 (fun A318 c319 R320 hq321 => ?_))
                              replace R320 : rdS (r0 (.int .u8)) 1 (hp w0) A318 c319 v316 := R320
                              refine WD.weaken [176, 188, 193, 194, 195, 201] (L' := [(176, .bool true), (188, .bool false), (193, .bool true), (194, .pointer (some ⟨b92, 0, none⟩)), (195, .int .i64 a2), (201, .slice A318 v316.length c319)]) (by kernel_rfl) ?_
                              refine WD.ofR (i := 31) (by kernel_rfl) (RSt.toStr (src := 24) (dst := 9) (e := 5) (.tmp 201) (by kernel_rfl) (by kernel_rfl) (by kernel_rfl) (by kernel_rfl) (by kernel_rfl) (by kernel_rfl) (rdS.up R320 hS.sub0) ?_)
                              refine WD.weaken [176, 188, 193, 194, 195, 202] (L' := [(176, .bool true), (188, .bool false), (193, .bool true), (194, .pointer (some ⟨b92, 0, none⟩)), (195, .int .i64 a2), (202, .string (bs v316))]) (by kernel_rfl) ?_
                              obtain ⟨r322, e323, H⟩ := bind_ex H
                              refine WD.act (i := 25) (by kernel_rfl) (St.call (by kernel_rfl) (f := 19) (args := #[.pointer (some ⟨b92, 0, none⟩), .int .i64 a2]) (by kernel_rfl) (text_Text_Bytes.calls w281 (.pointer (some ⟨b92, 0, none⟩)) (some y89) (Sat.rdAny 0 hS rfl (fun _ h => O45.rd _ _ _ h)) a2 r322 e323) ?_)
                              rintro _ w329 ⟨A331, c332, rfl, hS330⟩
                              have hS : Sat w329 (rf w0) [osl 5 (r0 (.int .u8)) 1 A331 c332 r322, O45 b92 y89] := hS.ext hS330
                              refine ⟨(asked.cons (RSt.run (n := 207) (RSt.toStr (src := 24) (dst := 9) (e := 5) (.tmp 201) (by kernel_rfl) (by kernel_rfl) (by kernel_rfl) (by kernel_rfl) (by kernel_rfl) (by kernel_rfl) (rdS.up R320 hS.sub0) rfl)) (asked.cons (RSt.run (n := 207) (RSt.load (t := 24) (.tmp 200) (adr A0 a2.toNat 1) (by kernel_rfl) (by kernel_rfl) (by kernel_rfl) (by kernel_rfl) (hq321 _ hS.sub0) rfl)) (asked.nil _ _))), ?_⟩
                              refine WD.weaken [176, 188, 193, 196, 202] (L' := [(176, .bool true), (188, .bool false), (193, .bool true), (196, .slice A331 r322.length c332), (202, .string (bs v316))]) (by kernel_rfl) ?_
                              refine WD.ofR (i := 26) (by kernel_rfl) (RSt.toStr (src := 24) (dst := 9) (e := 5) (.tmp 196) (by kernel_rfl) (by kernel_rfl) (by kernel_rfl) (by kernel_rfl) (by kernel_rfl) (by kernel_rfl) (Sat.rdAt 0 hS rfl) ?_)
                              refine WD.weaken [176, 188, 193, 197, 202] (L' := [(176, .bool true), (188, .bool false), (193, .bool true), (197, .string (bs r322)), (202, .string (bs v316))]) (by kernel_rfl) ?_
                              refine WD.pure (i := 32) (v := .bool ((bs r322).toList == (bs v316).toList)) (by kernel_rfl) (by kernel_rfl) (fun _ => by kernel_rfl) ?_
                              refine WD.weaken [176, 188, 193, 203] (L' := [(176, .bool true), (188, .bool false), (193, .bool true), (203, .bool ((bs r322).toList == (bs v316).toList))]) (by kernel_rfl) ?_
                              refine WD.pure (i := 33) (v := .bool ((bs r322).toList == (bs v316).toList)) (by kernel_rfl) (by kernel_rfl) (fun _ => by kernel_rfl) ?_
                              refine WD.weaken [176, 188, 204] (L' := [(176, .bool true), (188, .bool false), (204, .bool ((bs r322).toList == (bs v316).toList))]) (by kernel_rfl) ?_
                              refine WD.pure (i := 34) (v := .bool ((bs r322).toList == (bs v316).toList)) (by kernel_rfl) (by kernel_rfl) (fun _ => by kernel_rfl) ?_
                              refine WD.weaken [176, 205] (L' := [(176, .bool true), (205, .bool ((bs r322).toList == (bs v316).toList))]) (by kernel_rfl) ?_
                              refine WD.pure (i := 35) (v := .bool ((bs r322).toList == (bs v316).toList)) (by kernel_rfl) (by kernel_rfl) (fun _ => by kernel_rfl) ?_
                              refine WD.weaken [206] (L' := [(206, .bool ((bs r322).toList == (bs v316).toList))]) (by kernel_rfl) ?_
                              refine WD.pure (i := 36) (v := .bool ((bs r322).toList == (bs v316).toList)) (by kernel_rfl) (by kernel_rfl) (fun _ => by kernel_rfl) ?_
                              refine WD.weaken [6] (L' := [(6, .bool ((bs r322).toList == (bs v316).toList))]) (by kernel_rfl) ?_
                              refine WD.nil (by kernel_rfl) ?_
                              refine At.go ?_
                              refine WC.ret (by kernel_rfl) ?_
                              obtain rfl := Option.some.inj H
                              have hS : Sat w329 (rf w0) [] := hS.sel [] (by kernel_rfl)
                              exact At.body [.bool ((bs r322).toList == (bs v316).toList)] (by kernel_rfl) ⟨_, rfl, rfl, hS⟩
                            · replace H := ite_f H hb315
                              refine WD.weaken [0, 2, 10, 176, 188, 193] (L' := [(0, .slice A0 l0.length c0), (2, .int .i64 a2), (10, .pointer (some ⟨b92, 0, none⟩)), (176, .bool true), (188, .bool false), (193, .bool false)]) (by kernel_rfl) ?_
                              refine WD.skip (i := 23) (by kernel_rfl) (by kernel_rfl) ?_
                              refine WD.weaken [0, 2, 176, 188, 193, 194] (L' := [(0, .slice A0 l0.length c0), (2, .int .i64 a2), (176, .bool true), (188, .bool false), (193, .bool false), (194, undef)]) (by kernel_rfl) ?_
                              refine WD.skip (i := 24) (by kernel_rfl) (by kernel_rfl) ?_
                              refine WD.weaken [0, 2, 176, 188, 193, 194, 195] (L' := [(0, .slice A0 l0.length c0), (2, .int .i64 a2), (176, .bool true), (188, .bool false), (193, .bool false), (194, undef), (195, undef)]) (by kernel_rfl) ?_
                              refine WD.skip (i := 27) (by kernel_rfl) (by kernel_rfl) ?_
                              refine WD.weaken [2, 176, 188, 193, 194, 195, 198] (L' := [(2, .int .i64 a2), (176, .bool true), (188, .bool false), (193, .bool false), (194, undef), (195, undef), (198, undef)]) (by kernel_rfl) ?_
                              refine WD.skip (i := 28) (by kernel_rfl) (by kernel_rfl) ?_
                              refine WD.weaken [176, 188, 193, 194, 195, 198, 199] (L' := [(176, .bool true), (188, .bool false), (193, .bool false), (194, undef), (195, undef), (198, undef), (199, undef)]) (by kernel_rfl) ?_
                              refine WD.skip (i := 29) (by kernel_rfl) (by kernel_rfl) ?_
                              refine WD.weaken [176, 188, 193, 194, 195, 200] (L' := [(176, .bool true), (188, .bool false), (193, .bool false), (194, undef), (195, undef), (200, undef)]) (by kernel_rfl) ?_
                              refine WD.skip (i := 30) (by kernel_rfl) (by kernel_rfl) ?_
                              refine WD.weaken [176, 188, 193, 194, 195, 201] (L' := [(176, .bool true), (188, .bool false), (193, .bool false), (194, undef), (195, undef), (201, undef)]) (by kernel_rfl) ?_
                              refine WD.skip (i := 31) (by kernel_rfl) (by kernel_rfl) ?_
                              refine WD.weaken [176, 188, 193, 194, 195, 202] (L' := [(176, .bool true), (188, .bool false), (193, .bool false), (194, undef), (195, undef), (202, undef)]) (by kernel_rfl) ?_
                              refine WD.skip (i := 25) (by kernel_rfl) (by kernel_rfl) ?_
                              refine WD.weaken [176, 188, 193, 196, 202] (L' := [(176, .bool true), (188, .bool false), (193, .bool false), (196, undef), (202, undef)]) (by kernel_rfl) ?_
                              refine WD.skip (i := 26) (by kernel_rfl) (by kernel_rfl) ?_
                              refine WD.weaken [176, 188, 193, 197, 202] (L' := [(176, .bool true), (188, .bool false), (193, .bool false), (197, undef), (202, undef)]) (by kernel_rfl) ?_
                              refine WD.skip (i := 32) (by kernel_rfl) (by kernel_rfl) ?_
                              refine WD.weaken [176, 188, 193, 203] (L' := [(176, .bool true), (188, .bool false), (193, .bool false), (203, undef)]) (by kernel_rfl) ?_
                              refine WD.pure (i := 33) (v := .bool false) (by kernel_rfl) (by kernel_rfl) (fun _ => by kernel_rfl) ?_
                              refine WD.weaken [176, 188, 204] (L' := [(176, .bool true), (188, .bool false), (204, .bool false)]) (by kernel_rfl) ?_
                              refine WD.pure (i := 34) (v := .bool false) (by kernel_rfl) (by kernel_rfl) (fun _ => by kernel_rfl) ?_
                              refine WD.weaken [176, 205] (L' := [(176, .bool true), (205, .bool false)]) (by kernel_rfl) ?_
                              refine WD.pure (i := 35) (v := .bool false) (by kernel_rfl) (by kernel_rfl) (fun _ => by kernel_rfl) ?_
                              refine WD.weaken [206] (L' := [(206, .bool false)]) (by kernel_rfl) ?_
                              refine WD.pure (i := 36) (v := .bool false) (by kernel_rfl) (by kernel_rfl) (fun _ => by kernel_rfl) ?_
                              refine WD.weaken [6] (L' := [(6, .bool false)]) (by kernel_rfl) ?_
                              refine WD.nil (by kernel_rfl) ?_
                              refine At.go ?_
                              refine WC.ret (by kernel_rfl) ?_
                              obtain rfl := Option.some.inj H
                              have hS : Sat w281 (rf w0) [] := hS.sel [] (by kernel_rfl)
                              exact At.body [.bool false] (by kernel_rfl) ⟨_, rfl, rfl, hS⟩
                        · replace H := ite_f H hb283
                          refine WD.weaken [0, 2, 10, 176] (L' := [(0, .slice A0 l0.length c0), (2, .int .i64 a2), (10, .pointer (some ⟨b92, 0, none⟩)), (176, .bool false)]) (by kernel_rfl) ?_
                          refine WD.skip (i := 6) (by kernel_rfl) (by kernel_rfl) ?_
                          refine WD.weaken [0, 2, 10, 176, 177] (L' := [(0, .slice A0 l0.length c0), (2, .int .i64 a2), (10, .pointer (some ⟨b92, 0, none⟩)), (176, .bool false), (177, undef)]) (by kernel_rfl) ?_
                          refine WD.skip (i := 7) (by kernel_rfl) (by kernel_rfl) ?_
                          refine WD.weaken [0, 2, 10, 176, 177, 178] (L' := [(0, .slice A0 l0.length c0), (2, .int .i64 a2), (10, .pointer (some ⟨b92, 0, none⟩)), (176, .bool false), (177, undef), (178, undef)]) (by kernel_rfl) ?_
                          refine WD.skip (i := 8) (by kernel_rfl) (by kernel_rfl) ?_
                          refine WD.weaken [0, 2, 10, 176, 177, 179] (L' := [(0, .slice A0 l0.length c0), (2, .int .i64 a2), (10, .pointer (some ⟨b92, 0, none⟩)), (176, .bool false), (177, undef), (179, undef)]) (by kernel_rfl) ?_
                          refine WD.skip (i := 9) (by kernel_rfl) (by kernel_rfl) ?_
                          refine WD.weaken [0, 2, 10, 176, 180] (L' := [(0, .slice A0 l0.length c0), (2, .int .i64 a2), (10, .pointer (some ⟨b92, 0, none⟩)), (176, .bool false), (180, undef)]) (by kernel_rfl) ?_
                          refine WD.skip (i := 10) (by kernel_rfl) (by kernel_rfl) ?_
                          refine WD.weaken [0, 2, 10, 176, 181] (L' := [(0, .slice A0 l0.length c0), (2, .int .i64 a2), (10, .pointer (some ⟨b92, 0, none⟩)), (176, .bool false), (181, undef)]) (by kernel_rfl) ?_
                          refine WD.skip (i := 11) (by kernel_rfl) (by kernel_rfl) ?_
                          refine WD.weaken [0, 2, 10, 176, 181, 182] (L' := [(0, .slice A0 l0.length c0), (2, .int .i64 a2), (10, .pointer (some ⟨b92, 0, none⟩)), (176, .bool false), (181, undef), (182, undef)]) (by kernel_rfl) ?_
                          refine WD.skip (i := 12) (by kernel_rfl) (by kernel_rfl) ?_
                          refine WD.weaken [0, 2, 10, 176, 181, 182, 183] (L' := [(0, .slice A0 l0.length c0), (2, .int .i64 a2), (10, .pointer (some ⟨b92, 0, none⟩)), (176, .bool false), (181, undef), (182, undef), (183, undef)]) (by kernel_rfl) ?_
                          refine WD.skip (i := 13) (by kernel_rfl) (by kernel_rfl) ?_
                          refine WD.weaken [0, 2, 10, 176, 181, 184] (L' := [(0, .slice A0 l0.length c0), (2, .int .i64 a2), (10, .pointer (some ⟨b92, 0, none⟩)), (176, .bool false), (181, undef), (184, undef)]) (by kernel_rfl) ?_
                          refine WD.skip (i := 14) (by kernel_rfl) (by kernel_rfl) ?_
                          refine WD.weaken [0, 2, 10, 176, 181, 185] (L' := [(0, .slice A0 l0.length c0), (2, .int .i64 a2), (10, .pointer (some ⟨b92, 0, none⟩)), (176, .bool false), (181, undef), (185, undef)]) (by kernel_rfl) ?_
                          refine WD.skip (i := 15) (by kernel_rfl) (by kernel_rfl) ?_
                          refine WD.weaken [0, 2, 10, 176, 181, 186] (L' := [(0, .slice A0 l0.length c0), (2, .int .i64 a2), (10, .pointer (some ⟨b92, 0, none⟩)), (176, .bool false), (181, undef), (186, undef)]) (by kernel_rfl) ?_
                          refine WD.skip (i := 16) (by kernel_rfl) (by kernel_rfl) ?_
                          refine WD.weaken [0, 2, 10, 176, 187] (L' := [(0, .slice A0 l0.length c0), (2, .int .i64 a2), (10, .pointer (some ⟨b92, 0, none⟩)), (176, .bool false), (187, undef)]) (by kernel_rfl) ?_
                          refine WD.skip (i := 17) (by kernel_rfl) (by kernel_rfl) ?_
                          refine WD.weaken [0, 2, 10, 176, 188] (L' := [(0, .slice A0 l0.length c0), (2, .int .i64 a2), (10, .pointer (some ⟨b92, 0, none⟩)), (176, .bool false), (188, undef)]) (by kernel_rfl) ?_
                          refine WD.skip (i := 18) (by kernel_rfl) (by kernel_rfl) ?_
                          refine WD.weaken [0, 2, 10, 176, 188, 189] (L' := [(0, .slice A0 l0.length c0), (2, .int .i64 a2), (10, .pointer (some ⟨b92, 0, none⟩)), (176, .bool false), (188, undef), (189, undef)]) (by kernel_rfl) ?_
                          refine WD.skip (i := 19) (by kernel_rfl) (by kernel_rfl) ?_
                          refine WD.weaken [0, 2, 10, 176, 188, 189, 190] (L' := [(0, .slice A0 l0.length c0), (2, .int .i64 a2), (10, .pointer (some ⟨b92, 0, none⟩)), (176, .bool false), (188, undef), (189, undef), (190, undef)]) (by kernel_rfl) ?_
                          refine WD.skip (i := 20) (by kernel_rfl) (by kernel_rfl) ?_
                          refine WD.weaken [0, 2, 10, 176, 188, 189, 191] (L' := [(0, .slice A0 l0.length c0), (2, .int .i64 a2), (10, .pointer (some ⟨b92, 0, none⟩)), (176, .bool false), (188, undef), (189, undef), (191, undef)]) (by kernel_rfl) ?_
                          refine WD.skip (i := 21) (by kernel_rfl) (by kernel_rfl) ?_
                          refine WD.weaken [0, 2, 10, 176, 188, 192] (L' := [(0, .slice A0 l0.length c0), (2, .int .i64 a2), (10, .pointer (some ⟨b92, 0, none⟩)), (176, .bool false), (188, undef), (192, undef)]) (by kernel_rfl) ?_
                          refine WD.skip (i := 22) (by kernel_rfl) (by kernel_rfl) ?_
                          refine WD.weaken [0, 2, 10, 176, 188, 193] (L' := [(0, .slice A0 l0.length c0), (2, .int .i64 a2), (10, .pointer (some ⟨b92, 0, none⟩)), (176, .bool false), (188, undef), (193, undef)]) (by kernel_rfl) ?_
                          refine WD.skip (i := 23) (by kernel_rfl) (by kernel_rfl) ?_
                          refine WD.weaken [0, 2, 176, 188, 193, 194] (L' := [(0, .slice A0 l0.length c0), (2, .int .i64 a2), (176, .bool false), (188, undef), (193, undef), (194, undef)]) (by kernel_rfl) ?_
                          refine WD.skip (i := 24) (by kernel_rfl) (by kernel_rfl) ?_
                          refine WD.weaken [0, 2, 176, 188, 193, 194, 195] (L' := [(0, .slice A0 l0.length c0), (2, .int .i64 a2), (176, .bool false), (188, undef), (193, undef), (194, undef), (195, undef)]) (by kernel_rfl) ?_
                          refine WD.skip (i := 27) (by kernel_rfl) (by kernel_rfl) ?_
                          refine WD.weaken [2, 176, 188, 193, 194, 195, 198] (L' := [(2, .int .i64 a2), (176, .bool false), (188, undef), (193, undef), (194, undef), (195, undef), (198, undef)]) (by kernel_rfl) ?_
                          refine WD.skip (i := 28) (by kernel_rfl) (by kernel_rfl) ?_
                          refine WD.weaken [176, 188, 193, 194, 195, 198, 199] (L' := [(176, .bool false), (188, undef), (193, undef), (194, undef), (195, undef), (198, undef), (199, undef)]) (by kernel_rfl) ?_
                          refine WD.skip (i := 29) (by kernel_rfl) (by kernel_rfl) ?_
                          refine WD.weaken [176, 188, 193, 194, 195, 200] (L' := [(176, .bool false), (188, undef), (193, undef), (194, undef), (195, undef), (200, undef)]) (by kernel_rfl) ?_
                          refine WD.skip (i := 30) (by kernel_rfl) (by kernel_rfl) ?_
                          refine WD.weaken [176, 188, 193, 194, 195, 201] (L' := [(176, .bool false), (188, undef), (193, undef), (194, undef), (195, undef), (201, undef)]) (by kernel_rfl) ?_
                          refine WD.skip (i := 31) (by kernel_rfl) (by kernel_rfl) ?_
                          refine WD.weaken [176, 188, 193, 194, 195, 202] (L' := [(176, .bool false), (188, undef), (193, undef), (194, undef), (195, undef), (202, undef)]) (by kernel_rfl) ?_
                          refine WD.skip (i := 25) (by kernel_rfl) (by kernel_rfl) ?_
                          refine WD.weaken [176, 188, 193, 196, 202] (L' := [(176, .bool false), (188, undef), (193, undef), (196, undef), (202, undef)]) (by kernel_rfl) ?_
                          refine WD.skip (i := 26) (by kernel_rfl) (by kernel_rfl) ?_
                          refine WD.weaken [176, 188, 193, 197, 202] (L' := [(176, .bool false), (188, undef), (193, undef), (197, undef), (202, undef)]) (by kernel_rfl) ?_
                          refine WD.skip (i := 32) (by kernel_rfl) (by kernel_rfl) ?_
                          refine WD.weaken [176, 188, 193, 203] (L' := [(176, .bool false), (188, undef), (193, undef), (203, undef)]) (by kernel_rfl) ?_
                          refine WD.skip (i := 33) (by kernel_rfl) (by kernel_rfl) ?_
                          refine WD.weaken [176, 188, 204] (L' := [(176, .bool false), (188, undef), (204, undef)]) (by kernel_rfl) ?_
                          refine WD.skip (i := 34) (by kernel_rfl) (by kernel_rfl) ?_
                          refine WD.weaken [176, 205] (L' := [(176, .bool false), (205, undef)]) (by kernel_rfl) ?_
                          refine WD.pure (i := 35) (v := .bool false) (by kernel_rfl) (by kernel_rfl) (fun _ => by kernel_rfl) ?_
                          refine WD.weaken [206] (L' := [(206, .bool false)]) (by kernel_rfl) ?_
                          refine WD.pure (i := 36) (v := .bool false) (by kernel_rfl) (by kernel_rfl) (fun _ => by kernel_rfl) ?_
                          refine WD.weaken [6] (L' := [(6, .bool false)]) (by kernel_rfl) ?_
                          refine WD.nil (by kernel_rfl) ?_
                          refine At.go ?_
                          refine WC.ret (by kernel_rfl) ?_
                          obtain rfl := Option.some.inj H
                          have hS : Sat w281 (rf w0) [] := hS.sel [] (by kernel_rfl)
                          exact At.body [.bool false] (by kernel_rfl) ⟨_, rfl, rfl, hS⟩
end Go.Proofs.Ytoonceaeaigkpaa
