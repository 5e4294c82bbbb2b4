/-
  Printed by gen.py (my own tool): for each Go function a plain Lean function and the proof that a call of it does what that function says.
-/
import Derived.Test.YtoonceaeaigkpaaGP1
set_option linter.unusedVariables false
set_option linter.unusedSimpArgs false
set_option maxRecDepth 100000
namespace Go.Proofs.Ytoonceaeaigkpaa
open Go Go.Gol
/-! ### 6 colophon/colophonlaw08.TextEnds -/
def colophonlaw08_TextEnds.l1 (l0 : List (List Int)) (r34 : (List Int)) : Nat → Int → (List Int) → Int → (List Int) → Option (Sum (Bool × (List Int)) (Int × (List Int) × (List Int)))
  | 0, _, _, _, _ => none
  | k + 1, x6_l1, x7_l1, x24_l1, q33_l1 => (if decide (x24_l1 < (r34.length : Int)) then ((at? r34 x24_l1).bind fun v46 => (if decide (v46 ≥ (l0.length : Int)) then ((app? 140737488355328 x7_l1 ([IntKind.wrap .u8 (wi (v46 - (l0.length : Int)))] : List Int)).bind fun y52 => colophonlaw08_TextEnds.l1 l0 r34 k x6_l1 y52 (wi (x24_l1 + 1)) q33_l1) else ((at? q33_l1 (Int.tmod v46 256)).bind fun v56 => ((at? q33_l1 (Int.tmod v46 256)).bind fun v58 => ((set? q33_l1 (Int.tmod v46 256) (wi (v56 + 1))).bind fun y60 => (if (v46 != x6_l1) then some (.inl (false, y60)) else ((at? l0 v46).bind fun v68 => (if (!((bs x7_l1).toList == (bs v68).toList)) then some (.inl (false, y60)) else colophonlaw08_TextEnds.l1 l0 r34 k (wi (x6_l1 + 1)) ([] : List Int) (wi (x24_l1 + 1)) y60)))))))) else some (.inr (x6_l1, x7_l1, q33_l1)))
def colophonlaw08_TextEnds.l2 (l0 : List (List Int)) (o80 : Int × (List Int) × (List Int)) : Nat → Int → Option (Sum Bool Unit)
  | 0, _ => none
  | k + 1, x64_l2 => (if decide (x64_l2 < (l0.length : Int)) then ((at? o80.2.2 x64_l2).bind fun v85 => (if (v85 != 1) then some (.inl false) else colophonlaw08_TextEnds.l2 l0 o80 k (wi (x64_l2 + 1)))) else some (.inr ()))
def colophonlaw08_TextEnds.f (l0 : List (List Int)) : Option Bool := (colophonlaw08_first.f.bind fun r1 => (if (!r1) then some false else ((colophonref08_Small.f l0 3000 256).bind fun r11 => (if (!r11) then some true else ((text_New.f l0).bind fun r21 => ((text_Text_Symbols.f r21.1).bind fun r34 => ((colophonlaw08_TextEnds.l1 l0 r34 FU 0 ([] : List Int) 0 (List.replicate 256 (0 : Int))).bind fun o74 => (match o74 with | .inl o76 => some o76.1 | .inr o80 => ((colophonlaw08_TextEnds.l2 l0 o80 FU 0).bind fun o88 => (match o88 with | .inl o90 => some o90 | .inr o94 => (if (o80.1 == (l0.length : Int)) then some ((o80.2.1.length : Int) == 0) else some false)))))))))))
def colophonlaw08_TextEnds.post (w : World) (r : Bool) (v : Value) (w' : World) : Prop := v = (.bool r : Value) ∧ Sat w' (rf w) []
theorem colophonlaw08_TextEnds.l1_ok {Q} (w0 : World) (A0 : Option Addr) (c0 : Nat) (l0 : List (List Int)) (b31 : Nat) (r34 : (List Int)) (A43 : Option Addr) (c44 : Nat) (R0 : rdS (rd (hp w0) (.slice 5 (.int .u8))) 1 (hp w0) A0 c0 l0) (out : Sum (Bool × (List Int)) (Int × (List Int) × (List Int))) (hn0 : ∀ (o0 : Bool × (List Int)) (w : World), out = (.inl o0) → Sat w (rf w0) [oar 43 (r0 (.int .i64)) 1 256 b31 o0.2] → At Q .ret 81 [(2, .bool o0.1)] w) (hn1 : ∀ (o1 : Int × (List Int) × (List Int)) (A7_q : Option Addr) (c7_q : Nat) (w : World), out = (.inr o1) → Sat w (rf w0) [osl 5 (r0 (.int .u8)) 1 A7_q c7_q o1.2.1, oar 43 (r0 (.int .i64)) 1 256 b31 o1.2.2] → At Q (.exit 0) 81 [(0, .slice A0 l0.length c0), (5, .pointer (some ⟨b31, 0, none⟩)), (6, .int .i64 o1.1), (7, .slice A7_q o1.2.1.length c7_q)] w) :
    ∀ (k : Nat) (x6_l1 : Int) (x7_l1 : List Int) (x24_l1 : Int) (q33_l1 : List Int) (A7_l1 : Option Addr) (c7_l1 : Nat) (w : World), Sat w (rf w0) [osl 5 (r0 (.int .u8)) 1 A7_l1 c7_l1 x7_l1, osl 3 (r0 (.int .i64)) 1 A43 c44 r34, oar 43 (r0 (.int .i64)) 1 256 b31 q33_l1] → colophonlaw08_TextEnds.l1 l0 r34 k x6_l1 x7_l1 x24_l1 q33_l1 = some out → WL Try.prog (cbody (cbody (cr (cl (cr (cr (cr (cr (cr (cr (cr C6))))))))))) Q 81 [(0, .slice A0 l0.length c0), (5, .pointer (some ⟨b31, 0, none⟩)), (6, .int .i64 x6_l1), (7, .slice A7_l1 x7_l1.length c7_l1), (22, .slice A43 r34.length c44), (23, .int .i64 (r34.length : Int)), (24, .int .i64 x24_l1)] w := by
  intro k
  induction k with
  | zero => intro x6_l1 x7_l1 x24_l1 q33_l1 A7_l1 c7_l1 w hS H; exact absurd (show none = some out from H) (by simp)
  | succ k ih =>
    intro x6_l1 x7_l1 x24_l1 q33_l1 A7_l1 c7_l1 w hS H
    unfold colophonlaw08_TextEnds.l1 at H
    refine WL.round ?_
    refine WC.seq (by kernel_rfl) ?_
    refine WC.reg [0] (by kernel_rfl) (by kernel_rfl) ?_
    refine WR.runk [0] [] [0, 5, 6, 7, 22, 23, 24, 25] (L' := [(0, .slice A0 l0.length c0), (5, .pointer (some ⟨b31, 0, none⟩)), (6, .int .i64 x6_l1), (7, .slice A7_l1 x7_l1.length c7_l1), (22, .slice A43 r34.length c44), (23, .int .i64 (r34.length : Int)), (24, .int .i64 x24_l1), (25, .bool (decide (x24_l1 < (r34.length : Int))))]) (w' := w) (by kernel_rfl) ?_
    refine WR.nil ?_
    refine At.go ?_
    refine WC.seq (by kernel_rfl) ?_
    refine WC.cond (by kernel_rfl) (decide (x24_l1 < (r34.length : Int))) (by kernel_rfl) (by kernel_rfl) (fun hb45 => ?_) (fun hb45 => ?_)
    · replace H := ite_t H hb45
      refine WC.skip (by kernel_rfl) ?_
      refine At.go ?_
      refine WC.seq (by kernel_rfl) ?_
      refine WC.block (by kernel_rfl) ?_
      refine WC.seq (by kernel_rfl) ?_
      refine WC.reg [0, 1, 2] (by kernel_rfl) (by kernel_rfl) ?_
      refine WR.runk [] [0, 1, 2] [0, 5, 6, 7, 22, 23, 24] (L' := [(0, .slice A0 l0.length c0), (5, .pointer (some ⟨b31, 0, none⟩)), (6, .int .i64 x6_l1), (7, .slice A7_l1 x7_l1.length c7_l1), (22, .slice A43 r34.length c44), (23, .int .i64 (r34.length : Int)), (24, .int .i64 x24_l1)]) (w' := w) (by kernel_rfl) ?_
      obtain ⟨v46, e47, H⟩ := bind_ex H
      refine WR.st (St.ofP (PSt.idx (k := .i64) (.tmp 22) (.tmp 24) (by kernel_rfl) (by kernel_rfl) E30 (by kernel_rfl) (by kernel_rfl) (Sat.rdAt 1 hS rfl) e47 ?_))
      refine WR.runk [] [1, 2] [0, 5, 6, 7, 22, 23, 24, 26] (L' := [(0, .slice A0 l0.length c0), (5, .pointer (some ⟨b31, 0, none⟩)), (6, .int .i64 x6_l1), (7, .slice A7_l1 x7_l1.length c7_l1), (22, .slice A43 r34.length c44), (23, .int .i64 (r34.length : Int)), (24, .int .i64 x24_l1), (26, .pointer (some (adr A43 x24_l1.toNat 1)))]) (w' := w) (by kernel_rfl) ?_
      refine WR.st (St.ofR (RSt.loadInt (t := 3) (.tmp 26) (by kernel_rfl) (by kernel_rfl) (by kernel_rfl) (by kernel_rfl) (Sat.rdAt 1 hS rfl) e47 ?_))
      refine WR.runk [2] [] [0, 5, 6, 7, 9, 22, 23, 24] (L' := [(0, .slice A0 l0.length c0), (5, .pointer (some ⟨b31, 0, none⟩)), (6, .int .i64 x6_l1), (7, .slice A7_l1 x7_l1.length c7_l1), (9, .int .i64 v46), (22, .slice A43 r34.length c44), (23, .int .i64 (r34.length : Int)), (24, .int .i64 x24_l1)]) (w' := w) (by kernel_rfl) ?_
      refine WR.nil ?_
      refine At.go ?_
      refine WC.seq (by kernel_rfl) ?_
      refine WC.seq (by kernel_rfl) ?_
      refine WC.reg [0, 1, 2, 3] (by kernel_rfl) (by kernel_rfl) ?_
      refine WR.runk [0, 1, 2, 3] [] [0, 5, 6, 7, 9, 22, 23, 24, 31] (L' := [(0, .slice A0 l0.length c0), (5, .pointer (some ⟨b31, 0, none⟩)), (6, .int .i64 x6_l1), (7, .slice A7_l1 x7_l1.length c7_l1), (9, .int .i64 v46), (22, .slice A43 r34.length c44), (23, .int .i64 (r34.length : Int)), (24, .int .i64 x24_l1), (31, .bool (decide (v46 ≥ (l0.length : Int))))]) (w' := w) (by kernel_rfl) ?_
      refine WR.nil ?_
      refine At.go ?_
      refine WC.cond (by kernel_rfl) (decide (v46 ≥ (l0.length : Int))) (by kernel_rfl) (by kernel_rfl) (fun hb48 => ?_) (fun hb48 => ?_)
      · replace H := ite_t H hb48
        refine WC.seq (by kernel_rfl) ?_
        refine WC.reg [0, 1, 2, 3, 4, 5, 6, 7, 8] (by kernel_rfl) (by kernel_rfl) ?_
        refine WR.runk [0, 1, 2, 3, 4, 5] [6, 7, 8] [0, 5, 6, 7, 22, 23, 24, 32, 37] (L' := [(0, .slice A0 l0.length c0), (5, .pointer (some ⟨b31, 0, none⟩)), (6, .int .i64 x6_l1), (7, .slice A7_l1 x7_l1.length c7_l1), (22, .slice A43 r34.length c44), (23, .int .i64 (r34.length : Int)), (24, .int .i64 x24_l1), (32, .slice A7_l1 x7_l1.length c7_l1), (37, .int .u8 (IntKind.wrap .u8 (wi (v46 - (l0.length : Int)))))]) (w' := w) (by kernel_rfl) ?_
        refine WR.st (St.box hS (by kernel_rfl) (.cells #[.int .u8 (IntKind.wrap .u8 (wi (v46 - (l0.length : Int))))] 5) (fun b49 => .slice (some ⟨b49, 0, none⟩) 1 1) (fun _ => by kernel_rfl) (fun b49 w50 hS => ?_))
        refine WR.runk [] [7, 8] [0, 5, 6, 7, 22, 23, 24, 32, 38] (L' := [(0, .slice A0 l0.length c0), (5, .pointer (some ⟨b31, 0, none⟩)), (6, .int .i64 x6_l1), (7, .slice A7_l1 x7_l1.length c7_l1), (22, .slice A43 r34.length c44), (23, .int .i64 (r34.length : Int)), (24, .int .i64 x24_l1), (32, .slice A7_l1 x7_l1.length c7_l1), (38, .slice (some ⟨b49, 0, none⟩) 1 1)]) (w' := w50) (by kernel_rfl) ?_
        have hS : Sat w50 (rf w0) [osl 5 (r0 (.int .u8)) 1 A7_l1 c7_l1 x7_l1, pts b49 (.cells #[.int .u8 (IntKind.wrap .u8 (wi (v46 - (l0.length : Int))))] 5 (0, 0)), osl 3 (r0 (.int .i64)) 1 A43 c44 r34, oar 43 (r0 (.int .i64)) 1 256 b31 q33_l1] := hS.sel [1, 0, 2, 3] (by kernel_rfl)
        obtain ⟨y52, e51, H⟩ := bind_ex H
        refine WR.st (St.append' (.tmp 32) (.tmp 38) (by kernel_rfl) (by kernel_rfl) E24 (r0_one _) hS (by kernel_rfl) (by kernel_rfl) (Sat.ptsAt 1 (r0 (.int .u8)) 1 ([IntKind.wrap .u8 (wi (v46 - (l0.length : Int)))] : List Int) hS rfl rfl (rdL.cons1 rfl (rdL.nil _ _))) 140737488355328 (by kernel_rfl) (by kernel_rfl) e51 (fun A53 c54 w55 hS => ?_))
        refine WR.runk [8] [] [0, 5, 6, 7, 22, 23, 24] (L' := [(0, .slice A0 l0.length c0), (5, .pointer (some ⟨b31, 0, none⟩)), (6, .int .i64 x6_l1), (7, .slice A53 y52.length c54), (22, .slice A43 r34.length c44), (23, .int .i64 (r34.length : Int)), (24, .int .i64 x24_l1)]) (w' := w55) (by kernel_rfl) ?_
        refine WR.nil ?_
        refine At.go ?_
        refine WC.exit (by kernel_rfl) ?_
        refine At.thenExit ?_
        refine At.hit ?_
        refine At.go ?_
        refine WC.reg [0, 1] (by kernel_rfl) (by kernel_rfl) ?_
        refine WR.runk [0, 1] [] [0, 5, 6, 7, 22, 23, 24] (L' := [(0, .slice A0 l0.length c0), (5, .pointer (some ⟨b31, 0, none⟩)), (6, .int .i64 x6_l1), (7, .slice A53 y52.length c54), (22, .slice A43 r34.length c44), (23, .int .i64 (r34.length : Int)), (24, .int .i64 (wi (x24_l1 + 1)))]) (w' := w55) (by kernel_rfl) ?_
        refine WR.nil ?_
        have hS : Sat w55 (rf w0) [osl 5 (r0 (.int .u8)) 1 A53 c54 y52, osl 3 (r0 (.int .i64)) 1 A43 c44 r34, oar 43 (r0 (.int .i64)) 1 256 b31 q33_l1] := hS.sel [0, 2, 3] (by kernel_rfl)
        refine At.again ?_
        refine WL.weaken [0, 5, 6, 7, 22, 23, 24] (L' := [(0, .slice A0 l0.length c0), (5, .pointer (some ⟨b31, 0, none⟩)), (6, .int .i64 x6_l1), (7, .slice A53 y52.length c54), (22, .slice A43 r34.length c44), (23, .int .i64 (r34.length : Int)), (24, .int .i64 (wi (x24_l1 + 1)))]) (by kernel_rfl) ?_
        exact ih x6_l1 y52 (wi (x24_l1 + 1)) q33_l1 A53 c54 _ hS H
      · replace H := ite_f H hb48
        refine WC.skip (by kernel_rfl) ?_
        refine At.go ?_
        refine WC.seq (by kernel_rfl) ?_
        refine WC.reg [0, 1, 2, 3, 4, 5, 6] (by kernel_rfl) (by kernel_rfl) ?_
        refine WR.runk [0, 1] [2, 3, 4, 5, 6] [0, 5, 6, 7, 9, 22, 23, 24, 41] (L' := [(0, .slice A0 l0.length c0), (5, .pointer (some ⟨b31, 0, none⟩)), (6, .int .i64 x6_l1), (7, .slice A7_l1 x7_l1.length c7_l1), (9, .int .i64 v46), (22, .slice A43 r34.length c44), (23, .int .i64 (r34.length : Int)), (24, .int .i64 x24_l1), (41, .int .i64 (Int.tmod v46 256))]) (w' := w) (by kernel_rfl) ?_
        obtain ⟨v56, e57, H⟩ := bind_ex H
        refine WR.st (St.ofP (PSt.idxArr (k := .i64) (t := 43) (e := 3) (sz := 1) (b := b31) (.tmp 5) (.tmp 41) (by kernel_rfl) (by kernel_rfl) (by kernel_rfl) (by kernel_rfl) (by kernel_rfl) (by kernel_rfl) (by kernel_rfl) (Sat.oarAt 2 hS rfl).2 e57 ?_))
        refine WR.runk [] [3, 4, 5, 6] [0, 5, 6, 7, 9, 22, 23, 24, 41, 42] (L' := [(0, .slice A0 l0.length c0), (5, .pointer (some ⟨b31, 0, none⟩)), (6, .int .i64 x6_l1), (7, .slice A7_l1 x7_l1.length c7_l1), (9, .int .i64 v46), (22, .slice A43 r34.length c44), (23, .int .i64 (r34.length : Int)), (24, .int .i64 x24_l1), (41, .int .i64 (Int.tmod v46 256)), (42, .pointer (some (adr (some ⟨b31, 0, none⟩) (Int.tmod v46 256).toNat 1)))]) (w' := w) (by kernel_rfl) ?_
        refine WR.st (St.ofR (RSt.loadInt (t := 3) (.tmp 42) (by kernel_rfl) (by kernel_rfl) (by kernel_rfl) (by kernel_rfl) (Sat.oarAt 2 hS rfl).1 e57 ?_))
        refine WR.runk [4] [5, 6] [0, 5, 6, 7, 9, 22, 23, 24, 41, 44] (L' := [(0, .slice A0 l0.length c0), (5, .pointer (some ⟨b31, 0, none⟩)), (6, .int .i64 x6_l1), (7, .slice A7_l1 x7_l1.length c7_l1), (9, .int .i64 v46), (22, .slice A43 r34.length c44), (23, .int .i64 (r34.length : Int)), (24, .int .i64 x24_l1), (41, .int .i64 (Int.tmod v46 256)), (44, .int .i64 (wi (v56 + 1)))]) (w' := w) (by kernel_rfl) ?_
        obtain ⟨v58, e59, H⟩ := bind_ex H
        refine WR.st (St.ofP (PSt.idxArr (k := .i64) (t := 43) (e := 3) (sz := 1) (b := b31) (.tmp 5) (.tmp 41) (by kernel_rfl) (by kernel_rfl) (by kernel_rfl) (by kernel_rfl) (by kernel_rfl) (by kernel_rfl) (by kernel_rfl) (Sat.oarAt 2 hS rfl).2 e59 ?_))
        refine WR.runk [] [6] [0, 5, 6, 7, 9, 22, 23, 24, 44, 45] (L' := [(0, .slice A0 l0.length c0), (5, .pointer (some ⟨b31, 0, none⟩)), (6, .int .i64 x6_l1), (7, .slice A7_l1 x7_l1.length c7_l1), (9, .int .i64 v46), (22, .slice A43 r34.length c44), (23, .int .i64 (r34.length : Int)), (24, .int .i64 x24_l1), (44, .int .i64 (wi (v56 + 1))), (45, .pointer (some (adr (some ⟨b31, 0, none⟩) (Int.tmod v46 256).toNat 1)))]) (w' := w) (by kernel_rfl) ?_
        have hS : Sat w (rf w0) [oar 43 (r0 (.int .i64)) 1 256 b31 q33_l1, osl 5 (r0 (.int .u8)) 1 A7_l1 c7_l1 x7_l1, osl 3 (r0 (.int .i64)) 1 A43 c44 r34] := hS.sel [2, 0, 1] (by kernel_rfl)
        obtain ⟨y60, e61, H⟩ := bind_ex H
        obtain ⟨hl63, hS⟩ := oar.op hS
        refine WR.st (St.storeElem' (t := 3) (.tmp 45) (.tmp 44) (by kernel_rfl) (by kernel_rfl) (by kernel_rfl) hS (by kernel_rfl) (by kernel_rfl) rfl e61 rfl (fun w62 hS => ?_))
        have hl64 := (set?_len e61).trans hl63
        have hS : Sat w62 (rf w0) [oar 43 (r0 (.int .i64)) 1 256 b31 y60, osl 5 (r0 (.int .u8)) 1 A7_l1 c7_l1 x7_l1, osl 3 (r0 (.int .i64)) 1 A43 c44 r34] := oar.cl hl64 hS
        refine WR.runk [] [] [0, 5, 6, 7, 9, 22, 23, 24] (L' := [(0, .slice A0 l0.length c0), (5, .pointer (some ⟨b31, 0, none⟩)), (6, .int .i64 x6_l1), (7, .slice A7_l1 x7_l1.length c7_l1), (9, .int .i64 v46), (22, .slice A43 r34.length c44), (23, .int .i64 (r34.length : Int)), (24, .int .i64 x24_l1)]) (w' := w62) (by kernel_rfl) ?_
        refine WR.nil ?_
        refine At.go ?_
        refine WC.seq (by kernel_rfl) ?_
        refine WC.seq (by kernel_rfl) ?_
        refine WC.drawn (by kernel_rfl) (by kernel_rfl) 13 (by kernel_rfl) (fun w65 hw66 => ?_)
        have hS := hS.heap hw66.1 hw66.2
        refine WD.weaken [0, 5, 6, 7, 9, 22, 23, 24] (L' := [(0, .slice A0 l0.length c0), (5, .pointer (some ⟨b31, 0, none⟩)), (6, .int .i64 x6_l1), (7, .slice A7_l1 x7_l1.length c7_l1), (9, .int .i64 v46), (22, .slice A43 r34.length c44), (23, .int .i64 (r34.length : Int)), (24, .int .i64 x24_l1)]) (by kernel_rfl) ?_
        refine WD.pure (i := 0) (v := .int .i64 v46) (by kernel_rfl) (by kernel_rfl) (fun _ => by kernel_rfl) ?_
        refine WD.weaken [0, 5, 6, 7, 9, 22, 23, 24, 46] (L' := [(0, .slice A0 l0.length c0), (5, .pointer (some ⟨b31, 0, none⟩)), (6, .int .i64 x6_l1), (7, .slice A7_l1 x7_l1.length c7_l1), (9, .int .i64 v46), (22, .slice A43 r34.length c44), (23, .int .i64 (r34.length : Int)), (24, .int .i64 x24_l1), (46, .int .i64 v46)]) (by kernel_rfl) ?_
        refine WD.pure (i := 1) (v := .int .i64 x6_l1) (by kernel_rfl) (by kernel_rfl) (fun _ => by kernel_rfl) ?_
        refine WD.weaken [0, 5, 6, 7, 9, 22, 23, 24, 46, 47] (L' := [(0, .slice A0 l0.length c0), (5, .pointer (some ⟨b31, 0, none⟩)), (6, .int .i64 x6_l1), (7, .slice A7_l1 x7_l1.length c7_l1), (9, .int .i64 v46), (22, .slice A43 r34.length c44), (23, .int .i64 (r34.length : Int)), (24, .int .i64 x24_l1), (46, .int .i64 v46), (47, .int .i64 x6_l1)]) (by kernel_rfl) ?_
        refine WD.pure (i := 2) (v := .bool (v46 != x6_l1)) (by kernel_rfl) (by kernel_rfl) (fun _ => by kernel_rfl) ?_
        refine WD.weaken [0, 5, 6, 7, 9, 22, 23, 24, 48] (L' := [(0, .slice A0 l0.length c0), (5, .pointer (some ⟨b31, 0, none⟩)), (6, .int .i64 x6_l1), (7, .slice A7_l1 x7_l1.length c7_l1), (9, .int .i64 v46), (22, .slice A43 r34.length c44), (23, .int .i64 (r34.length : Int)), (24, .int .i64 x24_l1), (48, .bool (v46 != x6_l1))]) (by kernel_rfl) ?_
        refine WD.pure (i := 3) (v := .bool (v46 != x6_l1)) (by kernel_rfl) (by kernel_rfl) (fun _ => by kernel_rfl) ?_
        refine WD.weaken [0, 5, 6, 7, 9, 22, 23, 24, 49] (L' := [(0, .slice A0 l0.length c0), (5, .pointer (some ⟨b31, 0, none⟩)), (6, .int .i64 x6_l1), (7, .slice A7_l1 x7_l1.length c7_l1), (9, .int .i64 v46), (22, .slice A43 r34.length c44), (23, .int .i64 (r34.length : Int)), (24, .int .i64 x24_l1), (49, .bool (v46 != x6_l1))]) (by kernel_rfl) ?_
        refine WD.split 49 (b := (v46 != x6_l1)) (by kernel_rfl) (fun hb67 => ?_) (fun hb67 => ?_)
        · replace H := ite_t H hb67
          refine WD.weaken [0, 5, 6, 7, 9, 22, 23, 24, 49] (L' := [(0, .slice A0 l0.length c0), (5, .pointer (some ⟨b31, 0, none⟩)), (6, .int .i64 x6_l1), (7, .slice A7_l1 x7_l1.length c7_l1), (9, .int .i64 v46), (22, .slice A43 r34.length c44), (23, .int .i64 (r34.length : Int)), (24, .int .i64 x24_l1), (49, .bool true)]) (by kernel_rfl) ?_
          refine WD.skip (i := 4) (by kernel_rfl) (by kernel_rfl) ?_
          refine WD.weaken [0, 5, 6, 9, 22, 23, 24, 49, 50] (L' := [(0, .slice A0 l0.length c0), (5, .pointer (some ⟨b31, 0, none⟩)), (6, .int .i64 x6_l1), (9, .int .i64 v46), (22, .slice A43 r34.length c44), (23, .int .i64 (r34.length : Int)), (24, .int .i64 x24_l1), (49, .bool true), (50, undef)]) (by kernel_rfl) ?_
          refine WD.skip (i := 5) (by kernel_rfl) (by kernel_rfl) ?_
          refine WD.weaken [0, 5, 6, 9, 22, 23, 24, 49, 50, 51] (L' := [(0, .slice A0 l0.length c0), (5, .pointer (some ⟨b31, 0, none⟩)), (6, .int .i64 x6_l1), (9, .int .i64 v46), (22, .slice A43 r34.length c44), (23, .int .i64 (r34.length : Int)), (24, .int .i64 x24_l1), (49, .bool true), (50, undef), (51, undef)]) (by kernel_rfl) ?_
          refine WD.skip (i := 6) (by kernel_rfl) (by kernel_rfl) ?_
          refine WD.weaken [0, 5, 6, 9, 22, 23, 24, 49, 50, 51, 52] (L' := [(0, .slice A0 l0.length c0), (5, .pointer (some ⟨b31, 0, none⟩)), (6, .int .i64 x6_l1), (9, .int .i64 v46), (22, .slice A43 r34.length c44), (23, .int .i64 (r34.length : Int)), (24, .int .i64 x24_l1), (49, .bool true), (50, undef), (51, undef), (52, undef)]) (by kernel_rfl) ?_
          refine WD.skip (i := 7) (by kernel_rfl) (by kernel_rfl) ?_
          refine WD.weaken [0, 5, 6, 22, 23, 24, 49, 50, 51, 52, 53] (L' := [(0, .slice A0 l0.length c0), (5, .pointer (some ⟨b31, 0, none⟩)), (6, .int .i64 x6_l1), (22, .slice A43 r34.length c44), (23, .int .i64 (r34.length : Int)), (24, .int .i64 x24_l1), (49, .bool true), (50, undef), (51, undef), (52, undef), (53, undef)]) (by kernel_rfl) ?_
          refine WD.skip (i := 8) (by kernel_rfl) (by kernel_rfl) ?_
          refine WD.weaken [0, 5, 6, 22, 23, 24, 49, 50, 51, 52, 53, 54] (L' := [(0, .slice A0 l0.length c0), (5, .pointer (some ⟨b31, 0, none⟩)), (6, .int .i64 x6_l1), (22, .slice A43 r34.length c44), (23, .int .i64 (r34.length : Int)), (24, .int .i64 x24_l1), (49, .bool true), (50, undef), (51, undef), (52, undef), (53, undef), (54, undef)]) (by kernel_rfl) ?_
          refine WD.skip (i := 9) (by kernel_rfl) (by kernel_rfl) ?_
          refine WD.weaken [0, 5, 6, 22, 23, 24, 49, 50, 51, 52, 53, 54, 55] (L' := [(0, .slice A0 l0.length c0), (5, .pointer (some ⟨b31, 0, none⟩)), (6, .int .i64 x6_l1), (22, .slice A43 r34.length c44), (23, .int .i64 (r34.length : Int)), (24, .int .i64 x24_l1), (49, .bool true), (50, undef), (51, undef), (52, undef), (53, undef), (54, undef), (55, undef)]) (by kernel_rfl) ?_
          refine WD.skip (i := 10) (by kernel_rfl) (by kernel_rfl) ?_
          refine WD.weaken [0, 5, 6, 22, 23, 24, 49, 50, 51, 52, 53, 54, 55, 56] (L' := [(0, .slice A0 l0.length c0), (5, .pointer (some ⟨b31, 0, none⟩)), (6, .int .i64 x6_l1), (22, .slice A43 r34.length c44), (23, .int .i64 (r34.length : Int)), (24, .int .i64 x24_l1), (49, .bool true), (50, undef), (51, undef), (52, undef), (53, undef), (54, undef), (55, undef), (56, undef)]) (by kernel_rfl) ?_
          refine WD.skip (i := 11) (by kernel_rfl) (by kernel_rfl) ?_
          refine WD.weaken [0, 5, 6, 22, 23, 24, 49, 50, 51, 52, 53, 54, 55, 56, 57] (L' := [(0, .slice A0 l0.length c0), (5, .pointer (some ⟨b31, 0, none⟩)), (6, .int .i64 x6_l1), (22, .slice A43 r34.length c44), (23, .int .i64 (r34.length : Int)), (24, .int .i64 x24_l1), (49, .bool true), (50, undef), (51, undef), (52, undef), (53, undef), (54, undef), (55, undef), (56, undef), (57, undef)]) (by kernel_rfl) ?_
          refine WD.pure (i := 12) (v := .bool true) (by kernel_rfl) (by kernel_rfl) (fun _ => by kernel_rfl) ?_
          refine WD.weaken [0, 5, 6, 22, 23, 24, 50, 51, 52, 53, 54, 55, 56, 57, 58] (L' := [(0, .slice A0 l0.length c0), (5, .pointer (some ⟨b31, 0, none⟩)), (6, .int .i64 x6_l1), (22, .slice A43 r34.length c44), (23, .int .i64 (r34.length : Int)), (24, .int .i64 x24_l1), (50, undef), (51, undef), (52, undef), (53, undef), (54, undef), (55, undef), (56, undef), (57, undef), (58, .bool true)]) (by kernel_rfl) ?_
          refine WD.nil (by kernel_rfl) ?_
          refine At.go ?_
          refine WC.condT (by kernel_rfl) (by kernel_rfl) (by kernel_rfl) ?_
          refine WC.seq (by kernel_rfl) ?_
          refine WC.reg [0] (by kernel_rfl) (by kernel_rfl) ?_
          refine WR.runk [0] [] [2] (L' := [(2, .bool false)]) (w' := w65) (by kernel_rfl) ?_
          refine WR.nil ?_
          refine At.go ?_
          refine WC.ret (by kernel_rfl) ?_
          refine At.thenRet ?_
          refine At.blockRet ?_
          refine At.thenRet ?_
          refine At.thenRet ?_
          obtain rfl := Option.some.inj H
          have hS : Sat w65 (rf w0) [oar 43 (r0 (.int .i64)) 1 256 b31 y60] := hS.sel [0] (by kernel_rfl)
          refine At.weaken [2] (L' := [(2, .bool false)]) (by kernel_rfl) ?_
          exact hn0 (false, y60) _ rfl hS
        · replace H := ite_f H hb67
          refine WD.weaken [0, 5, 6, 7, 9, 22, 23, 24, 49] (L' := [(0, .slice A0 l0.length c0), (5, .pointer (some ⟨b31, 0, none⟩)), (6, .int .i64 x6_l1), (7, .slice A7_l1 x7_l1.length c7_l1), (9, .int .i64 v46), (22, .slice A43 r34.length c44), (23, .int .i64 (r34.length : Int)), (24, .int .i64 x24_l1), (49, .bool false)]) (by kernel_rfl) ?_
          refine WD.pure (i := 4) (v := .slice A7_l1 x7_l1.length c7_l1) (by kernel_rfl) (by kernel_rfl) (fun _ => by kernel_rfl) ?_
          refine WD.weaken [0, 5, 6, 9, 22, 23, 24, 49, 50] (L' := [(0, .slice A0 l0.length c0), (5, .pointer (some ⟨b31, 0, none⟩)), (6, .int .i64 x6_l1), (9, .int .i64 v46), (22, .slice A43 r34.length c44), (23, .int .i64 (r34.length : Int)), (24, .int .i64 x24_l1), (49, .bool false), (50, .slice A7_l1 x7_l1.length c7_l1)]) (by kernel_rfl) ?_
          refine WD.ofR (i := 5) (by kernel_rfl) (RSt.toStr (src := 24) (dst := 9) (e := 5) (.tmp 50) (by kernel_rfl) (by kernel_rfl) (by kernel_rfl) (by kernel_rfl) (by kernel_rfl) (by kernel_rfl) (Sat.rdAt 1 hS rfl) ?_)
          refine WD.weaken [0, 5, 6, 9, 22, 23, 24, 49, 50, 51] (L' := [(0, .slice A0 l0.length c0), (5, .pointer (some ⟨b31, 0, none⟩)), (6, .int .i64 x6_l1), (9, .int .i64 v46), (22, .slice A43 r34.length c44), (23, .int .i64 (r34.length : Int)), (24, .int .i64 x24_l1), (49, .bool false), (50, .slice A7_l1 x7_l1.length c7_l1), (51, .string (bs x7_l1))]) (by kernel_rfl) ?_
          refine WD.pure (i := 6) (v := .slice A0 l0.length c0) (by kernel_rfl) (by kernel_rfl) (fun _ => by kernel_rfl) ?_
          refine WD.weaken [0, 5, 6, 9, 22, 23, 24, 49, 50, 51, 52] (L' := [(0, .slice A0 l0.length c0), (5, .pointer (some ⟨b31, 0, none⟩)), (6, .int .i64 x6_l1), (9, .int .i64 v46), (22, .slice A43 r34.length c44), (23, .int .i64 (r34.length : Int)), (24, .int .i64 x24_l1), (49, .bool false), (50, .slice A7_l1 x7_l1.length c7_l1), (51, .string (bs x7_l1)), (52, .slice A0 l0.length c0)]) (by kernel_rfl) ?_
          refine WD.pure (i := 7) (v := .int .i64 v46) (by kernel_rfl) (by kernel_rfl) (fun _ => by kernel_rfl) ?_
          refine WD.weaken [0, 5, 6, 22, 23, 24, 49, 50, 51, 52, 53] (L' := [(0, .slice A0 l0.length c0), (5, .pointer (some ⟨b31, 0, none⟩)), (6, .int .i64 x6_l1), (22, .slice A43 r34.length c44), (23, .int .i64 (r34.length : Int)), (24, .int .i64 x24_l1), (49, .bool false), (50, .slice A7_l1 x7_l1.length c7_l1), (51, .string (bs x7_l1)), (52, .slice A0 l0.length c0), (53, .int .i64 v46)]) (by kernel_rfl) ?_
          obtain ⟨v68, e69, H⟩ := bind_ex H
          refine WD.ofP (i := 8) (by kernel_rfl) (PSt.idx (k := .i64) (.tmp 52) (.tmp 53) (by kernel_rfl) (by kernel_rfl) E22 (by kernel_rfl) (by kernel_rfl) (rdS.up R0 hS.sub0) e69 ?_)
          refine WD.weaken [0, 5, 6, 22, 23, 24, 49, 50, 51, 52, 53, 54] (L' := [(0, .slice A0 l0.length c0), (5, .pointer (some ⟨b31, 0, none⟩)), (6, .int .i64 x6_l1), (22, .slice A43 r34.length c44), (23, .int .i64 (r34.length : Int)), (24, .int .i64 x24_l1), (49, .bool false), (50, .slice A7_l1 x7_l1.length c7_l1), (51, .string (bs x7_l1)), (52, .slice A0 l0.length c0), (53, .int .i64 v46), (54, .pointer (some (adr A0 v46.toNat 1)))]) (by kernel_rfl) ?_
          refine WD.ofR (i := 9) (by kernel_rfl) (RSt.loadSl (t := 24) (.tmp 54) (by kernel_rfl) (by kernel_rfl) (by kernel_rfl) (by kernel_rfl) R0 e69 hS.sub0 (fun A70 c71 R72 => ?_))
          replace R72 : rdS (r0 (.int .u8)) 1 (hp w0) A70 c71 v68 := R72
          refine WD.weaken [0, 5, 6, 22, 23, 24, 49, 50, 51, 52, 53, 54, 55] (L' := [(0, .slice A0 l0.length c0), (5, .pointer (some ⟨b31, 0, none⟩)), (6, .int .i64 x6_l1), (22, .slice A43 r34.length c44), (23, .int .i64 (r34.length : Int)), (24, .int .i64 x24_l1), (49, .bool false), (50, .slice A7_l1 x7_l1.length c7_l1), (51, .string (bs x7_l1)), (52, .slice A0 l0.length c0), (53, .int .i64 v46), (54, .pointer (some (adr A0 v46.toNat 1))), (55, .slice A70 v68.length c71)]) (by kernel_rfl) ?_
          refine WD.ofR (i := 10) (by kernel_rfl) (RSt.toStr (src := 24) (dst := 9) (e := 5) (.tmp 55) (by kernel_rfl) (by kernel_rfl) (by kernel_rfl) (by kernel_rfl) (by kernel_rfl) (by kernel_rfl) (rdS.up R72 hS.sub0) ?_)
          refine WD.weaken [0, 5, 6, 22, 23, 24, 49, 50, 51, 52, 53, 54, 55, 56] (L' := [(0, .slice A0 l0.length c0), (5, .pointer (some ⟨b31, 0, none⟩)), (6, .int .i64 x6_l1), (22, .slice A43 r34.length c44), (23, .int .i64 (r34.length : Int)), (24, .int .i64 x24_l1), (49, .bool false), (50, .slice A7_l1 x7_l1.length c7_l1), (51, .string (bs x7_l1)), (52, .slice A0 l0.length c0), (53, .int .i64 v46), (54, .pointer (some (adr A0 v46.toNat 1))), (55, .slice A70 v68.length c71), (56, .string (bs v68))]) (by kernel_rfl) ?_
          refine WD.pure (i := 11) (v := .bool (!((bs x7_l1).toList == (bs v68).toList))) (by kernel_rfl) (by kernel_rfl) (fun _ => by kernel_rfl) ?_
          refine WD.weaken [0, 5, 6, 22, 23, 24, 49, 50, 51, 52, 53, 54, 55, 56, 57] (L' := [(0, .slice A0 l0.length c0), (5, .pointer (some ⟨b31, 0, none⟩)), (6, .int .i64 x6_l1), (22, .slice A43 r34.length c44), (23, .int .i64 (r34.length : Int)), (24, .int .i64 x24_l1), (49, .bool false), (50, .slice A7_l1 x7_l1.length c7_l1), (51, .string (bs x7_l1)), (52, .slice A0 l0.length c0), (53, .int .i64 v46), (54, .pointer (some (adr A0 v46.toNat 1))), (55, .slice A70 v68.length c71), (56, .string (bs v68)), (57, .bool (!((bs x7_l1).toList == (bs v68).toList)))]) (by kernel_rfl) ?_
          refine WD.pure (i := 12) (v := .bool (!((bs x7_l1).toList == (bs v68).toList))) (by kernel_rfl) (by kernel_rfl) (fun _ => by kernel_rfl) ?_
          refine WD.weaken [0, 5, 6, 22, 23, 24, 50, 51, 52, 53, 54, 55, 56, 57, 58] (L' := [(0, .slice A0 l0.length c0), (5, .pointer (some ⟨b31, 0, none⟩)), (6, .int .i64 x6_l1), (22, .slice A43 r34.length c44), (23, .int .i64 (r34.length : Int)), (24, .int .i64 x24_l1), (50, .slice A7_l1 x7_l1.length c7_l1), (51, .string (bs x7_l1)), (52, .slice A0 l0.length c0), (53, .int .i64 v46), (54, .pointer (some (adr A0 v46.toNat 1))), (55, .slice A70 v68.length c71), (56, .string (bs v68)), (57, .bool (!((bs x7_l1).toList == (bs v68).toList))), (58, .bool (!((bs x7_l1).toList == (bs v68).toList)))]) (by kernel_rfl) ?_
          refine WD.nil (by kernel_rfl) ?_
          refine At.go ?_
          refine WC.cond (by kernel_rfl) (!((bs x7_l1).toList == (bs v68).toList)) (by kernel_rfl) (by kernel_rfl) (fun hb73 => ?_) (fun hb73 => ?_)
          · replace H := ite_t H hb73
            refine WC.seq (by kernel_rfl) ?_
            refine WC.reg [0] (by kernel_rfl) (by kernel_rfl) ?_
            refine WR.runk [0] [] [2] (L' := [(2, .bool false)]) (w' := w65) (by kernel_rfl) ?_
            refine WR.nil ?_
            refine At.go ?_
            refine WC.ret (by kernel_rfl) ?_
            refine At.thenRet ?_
            refine At.blockRet ?_
            refine At.thenRet ?_
            refine At.thenRet ?_
            obtain rfl := Option.some.inj H
            have hS : Sat w65 (rf w0) [oar 43 (r0 (.int .i64)) 1 256 b31 y60] := hS.sel [0] (by kernel_rfl)
            refine At.weaken [2] (L' := [(2, .bool false)]) (by kernel_rfl) ?_
            exact hn0 (false, y60) _ rfl hS
          · replace H := ite_f H hb73
            refine WC.skip (by kernel_rfl) ?_
            refine At.go ?_
            refine WC.seq (by kernel_rfl) ?_
            refine WC.reg [0, 1, 2] (by kernel_rfl) (by kernel_rfl) ?_
            refine WR.runk [0, 1, 2] [] [0, 5, 6, 22, 23, 24, 50, 51, 52, 53, 54, 55, 56] (L' := [(0, .slice A0 l0.length c0), (5, .pointer (some ⟨b31, 0, none⟩)), (6, .int .i64 (wi (x6_l1 + 1))), (22, .slice A43 r34.length c44), (23, .int .i64 (r34.length : Int)), (24, .int .i64 x24_l1), (50, .slice A7_l1 x7_l1.length c7_l1), (51, .string (bs x7_l1)), (52, .slice A0 l0.length c0), (53, .int .i64 v46), (54, .pointer (some (adr A0 v46.toNat 1))), (55, .slice A70 v68.length c71), (56, .string (bs v68))]) (w' := w65) (by kernel_rfl) ?_
            refine WR.nil ?_
            refine At.go ?_
            refine WC.reg [0] (by kernel_rfl) (by kernel_rfl) ?_
            refine WR.runk [0] [] [0, 5, 6, 7, 22, 23, 24, 50, 51, 52, 53, 54, 55, 56] (L' := [(0, .slice A0 l0.length c0), (5, .pointer (some ⟨b31, 0, none⟩)), (6, .int .i64 (wi (x6_l1 + 1))), (7, .slice none 0 0), (22, .slice A43 r34.length c44), (23, .int .i64 (r34.length : Int)), (24, .int .i64 x24_l1), (50, .slice A7_l1 x7_l1.length c7_l1), (51, .string (bs x7_l1)), (52, .slice A0 l0.length c0), (53, .int .i64 v46), (54, .pointer (some (adr A0 v46.toNat 1))), (55, .slice A70 v68.length c71), (56, .string (bs v68))]) (w' := w65) (by kernel_rfl) ?_
            refine WR.nil ?_
            refine At.blockNormal ?_
            refine At.go ?_
            refine WC.reg [0, 1] (by kernel_rfl) (by kernel_rfl) ?_
            refine WR.runk [0, 1] [] [0, 5, 6, 7, 22, 23, 24, 50, 51, 52, 53, 54, 55, 56] (L' := [(0, .slice A0 l0.length c0), (5, .pointer (some ⟨b31, 0, none⟩)), (6, .int .i64 (wi (x6_l1 + 1))), (7, .slice none 0 0), (22, .slice A43 r34.length c44), (23, .int .i64 (r34.length : Int)), (24, .int .i64 (wi (x24_l1 + 1))), (50, .slice A7_l1 x7_l1.length c7_l1), (51, .string (bs x7_l1)), (52, .slice A0 l0.length c0), (53, .int .i64 v46), (54, .pointer (some (adr A0 v46.toNat 1))), (55, .slice A70 v68.length c71), (56, .string (bs v68))]) (w' := w65) (by kernel_rfl) ?_
            refine WR.nil ?_
            have hS := hS.addNil (α := Int) 5 (r0 (.int .u8)) 1
            have hS : Sat w65 (rf w0) [osl 5 (r0 (.int .u8)) 1 none 0 ([] : List Int), osl 3 (r0 (.int .i64)) 1 A43 c44 r34, oar 43 (r0 (.int .i64)) 1 256 b31 y60] := hS.sel [0, 3, 1] (by kernel_rfl)
            refine At.again ?_
            refine WL.weaken [0, 5, 6, 7, 22, 23, 24] (L' := [(0, .slice A0 l0.length c0), (5, .pointer (some ⟨b31, 0, none⟩)), (6, .int .i64 (wi (x6_l1 + 1))), (7, .slice none 0 0), (22, .slice A43 r34.length c44), (23, .int .i64 (r34.length : Int)), (24, .int .i64 (wi (x24_l1 + 1)))]) (by kernel_rfl) ?_
            exact ih (wi (x6_l1 + 1)) ([] : List Int) (wi (x24_l1 + 1)) y60 none 0 _ hS H
    · replace H := ite_f H hb45
      refine WC.exit (by kernel_rfl) ?_
      refine At.thenExit ?_
      refine At.thenExit ?_
      obtain rfl := Option.some.inj H
      have hS : Sat w (rf w0) [osl 5 (r0 (.int .u8)) 1 A7_l1 c7_l1 x7_l1, oar 43 (r0 (.int .i64)) 1 256 b31 q33_l1] := hS.sel [0, 2] (by kernel_rfl)
      refine At.weaken [0, 5, 6, 7] (L' := [(0, .slice A0 l0.length c0), (5, .pointer (some ⟨b31, 0, none⟩)), (6, .int .i64 x6_l1), (7, .slice A7_l1 x7_l1.length c7_l1)]) (by kernel_rfl) ?_
      exact hn1 (x6_l1, x7_l1, q33_l1) A7_l1 c7_l1 _ rfl hS
theorem colophonlaw08_TextEnds.l2_ok {Q} (w0 : World) (A0 : Option Addr) (c0 : Nat) (l0 : List (List Int)) (b31 : Nat) (o80 : Int × (List Int) × (List Int)) (A7_q81 : Option Addr) (c7_q81 : Nat) (out : Sum Bool Unit) (hn0 : ∀ (o0 : Bool) (w : World), out = (.inl o0) → Sat w (rf w0) [oar 43 (r0 (.int .i64)) 1 256 b31 o80.2.2] → At Q .ret 81 [(2, .bool o0)] w) (hn1 : ∀ (o1 : Unit) (w : World), out = (.inr o1) → Sat w (rf w0) [osl 5 (r0 (.int .u8)) 1 A7_q81 c7_q81 o80.2.1, oar 43 (r0 (.int .i64)) 1 256 b31 o80.2.2] → At Q (.exit 2) 81 [(0, .slice A0 l0.length c0), (6, .int .i64 o80.1), (7, .slice A7_q81 o80.2.1.length c7_q81)] w) :
    ∀ (k : Nat) (x64_l2 : Int) (w : World), Sat w (rf w0) [osl 5 (r0 (.int .u8)) 1 A7_q81 c7_q81 o80.2.1, oar 43 (r0 (.int .i64)) 1 256 b31 o80.2.2] → colophonlaw08_TextEnds.l2 l0 o80 k x64_l2 = some out → WL Try.prog (cbody (cbody (cr (cl (cr (cr (cr (cr (cr (cr (cr (cr C6)))))))))))) Q 81 [(0, .slice A0 l0.length c0), (5, .pointer (some ⟨b31, 0, none⟩)), (6, .int .i64 o80.1), (7, .slice A7_q81 o80.2.1.length c7_q81), (63, .int .i64 (l0.length : Int)), (64, .int .i64 x64_l2)] w := by
  intro k
  induction k with
  | zero => intro x64_l2 w hS H; exact absurd (show none = some out from H) (by simp)
  | succ k ih =>
    intro x64_l2 w hS H
    unfold colophonlaw08_TextEnds.l2 at H
    refine WL.round ?_
    refine WC.seq (by kernel_rfl) ?_
    refine WC.reg [0] (by kernel_rfl) (by kernel_rfl) ?_
    refine WR.runk [0] [] [0, 5, 6, 7, 63, 64, 65] (L' := [(0, .slice A0 l0.length c0), (5, .pointer (some ⟨b31, 0, none⟩)), (6, .int .i64 o80.1), (7, .slice A7_q81 o80.2.1.length c7_q81), (63, .int .i64 (l0.length : Int)), (64, .int .i64 x64_l2), (65, .bool (decide (x64_l2 < (l0.length : Int))))]) (w' := w) (by kernel_rfl) ?_
    refine WR.nil ?_
    refine At.go ?_
    refine WC.seq (by kernel_rfl) ?_
    refine WC.cond (by kernel_rfl) (decide (x64_l2 < (l0.length : Int))) (by kernel_rfl) (by kernel_rfl) (fun hb84 => ?_) (fun hb84 => ?_)
    · replace H := ite_t H hb84
      refine WC.skip (by kernel_rfl) ?_
      refine At.go ?_
      refine WC.seq (by kernel_rfl) ?_
      refine WC.block (by kernel_rfl) ?_
      refine WC.seq (by kernel_rfl) ?_
      refine WC.reg [0, 1] (by kernel_rfl) (by kernel_rfl) ?_
      refine WR.runk [0, 1] [] [0, 5, 6, 7, 10, 63, 64] (L' := [(0, .slice A0 l0.length c0), (5, .pointer (some ⟨b31, 0, none⟩)), (6, .int .i64 o80.1), (7, .slice A7_q81 o80.2.1.length c7_q81), (10, .int .i64 x64_l2), (63, .int .i64 (l0.length : Int)), (64, .int .i64 x64_l2)]) (w' := w) (by kernel_rfl) ?_
      refine WR.nil ?_
      refine At.go ?_
      refine WC.seq (by kernel_rfl) ?_
      refine WC.reg [0, 1, 2, 3] (by kernel_rfl) (by kernel_rfl) ?_
      refine WR.runk [0] [1, 2, 3] [0, 5, 6, 7, 63, 64, 67] (L' := [(0, .slice A0 l0.length c0), (5, .pointer (some ⟨b31, 0, none⟩)), (6, .int .i64 o80.1), (7, .slice A7_q81 o80.2.1.length c7_q81), (63, .int .i64 (l0.length : Int)), (64, .int .i64 x64_l2), (67, .int .i64 x64_l2)]) (w' := w) (by kernel_rfl) ?_
      obtain ⟨v85, e86, H⟩ := bind_ex H
      refine WR.st (St.ofP (PSt.idxArr (k := .i64) (t := 43) (e := 3) (sz := 1) (b := b31) (.tmp 5) (.tmp 67) (by kernel_rfl) (by kernel_rfl) (by kernel_rfl) (by kernel_rfl) (by kernel_rfl) (by kernel_rfl) (by kernel_rfl) (Sat.oarAt 1 hS rfl).2 e86 ?_))
      refine WR.runk [] [2, 3] [0, 5, 6, 7, 63, 64, 68] (L' := [(0, .slice A0 l0.length c0), (5, .pointer (some ⟨b31, 0, none⟩)), (6, .int .i64 o80.1), (7, .slice A7_q81 o80.2.1.length c7_q81), (63, .int .i64 (l0.length : Int)), (64, .int .i64 x64_l2), (68, .pointer (some (adr (some ⟨b31, 0, none⟩) x64_l2.toNat 1)))]) (w' := w) (by kernel_rfl) ?_
      refine WR.st (St.ofR (RSt.loadInt (t := 3) (.tmp 68) (by kernel_rfl) (by kernel_rfl) (by kernel_rfl) (by kernel_rfl) (Sat.oarAt 1 hS rfl).1 e86 ?_))
      refine WR.runk [3] [] [0, 5, 6, 7, 63, 64, 70] (L' := [(0, .slice A0 l0.length c0), (5, .pointer (some ⟨b31, 0, none⟩)), (6, .int .i64 o80.1), (7, .slice A7_q81 o80.2.1.length c7_q81), (63, .int .i64 (l0.length : Int)), (64, .int .i64 x64_l2), (70, .bool (v85 != 1))]) (w' := w) (by kernel_rfl) ?_
      refine WR.nil ?_
      refine At.go ?_
      refine WC.cond (by kernel_rfl) (v85 != 1) (by kernel_rfl) (by kernel_rfl) (fun hb87 => ?_) (fun hb87 => ?_)
      · replace H := ite_t H hb87
        refine WC.seq (by kernel_rfl) ?_
        refine WC.reg [0] (by kernel_rfl) (by kernel_rfl) ?_
        refine WR.runk [0] [] [2] (L' := [(2, .bool false)]) (w' := w) (by kernel_rfl) ?_
        refine WR.nil ?_
        refine At.go ?_
        refine WC.ret (by kernel_rfl) ?_
        refine At.blockRet ?_
        refine At.thenRet ?_
        refine At.thenRet ?_
        obtain rfl := Option.some.inj H
        have hS : Sat w (rf w0) [oar 43 (r0 (.int .i64)) 1 256 b31 o80.2.2] := hS.sel [1] (by kernel_rfl)
        refine At.weaken [2] (L' := [(2, .bool false)]) (by kernel_rfl) ?_
        exact hn0 false _ rfl hS
      · replace H := ite_f H hb87
        refine WC.skip (by kernel_rfl) ?_
        refine At.blockNormal ?_
        refine At.go ?_
        refine WC.reg [0, 1] (by kernel_rfl) (by kernel_rfl) ?_
        refine WR.runk [0, 1] [] [0, 5, 6, 7, 63, 64] (L' := [(0, .slice A0 l0.length c0), (5, .pointer (some ⟨b31, 0, none⟩)), (6, .int .i64 o80.1), (7, .slice A7_q81 o80.2.1.length c7_q81), (63, .int .i64 (l0.length : Int)), (64, .int .i64 (wi (x64_l2 + 1)))]) (w' := w) (by kernel_rfl) ?_
        refine WR.nil ?_
        have hS : Sat w (rf w0) [osl 5 (r0 (.int .u8)) 1 A7_q81 c7_q81 o80.2.1, oar 43 (r0 (.int .i64)) 1 256 b31 o80.2.2] := hS.sel [0, 1] (by kernel_rfl)
        refine At.again ?_
        refine WL.weaken [0, 5, 6, 7, 63, 64] (L' := [(0, .slice A0 l0.length c0), (5, .pointer (some ⟨b31, 0, none⟩)), (6, .int .i64 o80.1), (7, .slice A7_q81 o80.2.1.length c7_q81), (63, .int .i64 (l0.length : Int)), (64, .int .i64 (wi (x64_l2 + 1)))]) (by kernel_rfl) ?_
        exact ih (wi (x64_l2 + 1)) _ hS H
    · replace H := ite_f H hb84
      refine WC.exit (by kernel_rfl) ?_
      refine At.thenExit ?_
      refine At.thenExit ?_
      obtain rfl := Option.some.inj H
      have hS : Sat w (rf w0) [osl 5 (r0 (.int .u8)) 1 A7_q81 c7_q81 o80.2.1, oar 43 (r0 (.int .i64)) 1 256 b31 o80.2.2] := hS.sel [0, 1] (by kernel_rfl)
      refine At.weaken [0, 6, 7] (L' := [(0, .slice A0 l0.length c0), (6, .int .i64 o80.1), (7, .slice A7_q81 o80.2.1.length c7_q81)]) (by kernel_rfl) ?_
      exact hn1 () _ rfl hS
theorem colophonlaw08_TextEnds.calls (w0 : World) (A0 : Option Addr) (c0 : Nat) (l0 : List (List Int)) (R0 : rdS (rd (hp w0) (.slice 5 (.int .u8))) 1 (hp w0) A0 c0 l0) (r : Bool) (H : colophonlaw08_TextEnds.f l0 = some r) :
    Calls Try.prog 6 #[.slice A0 l0.length c0] w0 (fun e w' => ∃ v, e = .returned v ∧ colophonlaw08_TextEnds.post w0 r v w') := by
  have hS : Sat w0 (rf w0) [] := Sat.start w0
  unfold colophonlaw08_TextEnds.f at H
  refine calls_of_WC (vs := [.slice A0 l0.length c0]) Try.func6 (c := C6) (n := 81) (by kernel_rfl) (by kernel_rfl) (by kernel_rfl) ?_
  refine WC.seq (by kernel_rfl) ?_
  refine WC.reg [0] (by kernel_rfl) (by kernel_rfl) ?_
  refine WR.runk [0] [] [0] (L' := [(0, .slice A0 l0.length c0)]) (w' := w0) (by kernel_rfl) ?_
  refine WR.nil ?_
  refine At.go ?_
  refine WC.seq (by kernel_rfl) ?_
  refine WC.seq (by kernel_rfl) ?_
  refine WC.reg [0, 1] (by kernel_rfl) (by kernel_rfl) ?_
  obtain ⟨r1, e2, H⟩ := bind_ex H
  refine WR.st (St.call (by kernel_rfl) (f := 7) (args := #[]) (by kernel_rfl) (colophonlaw08_first.calls w0  r1 e2) ?_)
  rintro _ w8 ⟨rfl, hS9⟩
  have hS : Sat w8 (rf w0) [] := hS.ext hS9
  refine WR.runk [1] [] [0, 12] (L' := [(0, .slice A0 l0.length c0), (12, .bool (!r1))]) (w' := w8) (by kernel_rfl) ?_
  refine WR.nil ?_
  refine At.go ?_
  refine WC.cond (by kernel_rfl) (!r1) (by kernel_rfl) (by kernel_rfl) (fun hb10 => ?_) (fun hb10 => ?_)
  · replace H := ite_t H hb10
    refine WC.seq (by kernel_rfl) ?_
    refine WC.reg [0] (by kernel_rfl) (by kernel_rfl) ?_
    refine WR.runk [0] [] [2] (L' := [(2, .bool false)]) (w' := w8) (by kernel_rfl) ?_
    refine WR.nil ?_
    refine At.go ?_
    refine WC.ret (by kernel_rfl) ?_
    refine At.thenRet ?_
    obtain rfl := Option.some.inj H
    have hS : Sat w8 (rf w0) [] := hS.sel [] (by kernel_rfl)
    exact At.body [.bool false] (by kernel_rfl) ⟨_, rfl, rfl, hS⟩
  · replace H := ite_f H hb10
    refine WC.skip (by kernel_rfl) ?_
    refine At.go ?_
    refine WC.seq (by kernel_rfl) ?_
    refine WC.seq (by kernel_rfl) ?_
    refine WC.reg [0, 1, 2] (by kernel_rfl) (by kernel_rfl) ?_
    refine WR.runk [0] [1, 2] [0, 13] (L' := [(0, .slice A0 l0.length c0), (13, .slice A0 l0.length c0)]) (w' := w8) (by kernel_rfl) ?_
    obtain ⟨r11, e12, H⟩ := bind_ex H
    refine WR.st (St.call (by kernel_rfl) (f := 20) (args := #[.slice A0 l0.length c0, .int .i64 3000, .int .i64 256]) (by kernel_rfl) (colophonref08_Small.calls w8 A0 c0 l0 (rdS.upd R0 hS.sub0) 3000 256 r11 e12) ?_)
    rintro _ w18 ⟨rfl, hS19⟩
    have hS : Sat w18 (rf w0) [] := hS.ext hS19
    refine WR.runk [2] [] [0, 15] (L' := [(0, .slice A0 l0.length c0), (15, .bool (!r11))]) (w' := w18) (by kernel_rfl) ?_
    refine WR.nil ?_
    refine At.go ?_
    refine WC.cond (by kernel_rfl) (!r11) (by kernel_rfl) (by kernel_rfl) (fun hb20 => ?_) (fun hb20 => ?_)
    · replace H := ite_t H hb20
      refine WC.seq (by kernel_rfl) ?_
      refine WC.reg [0] (by kernel_rfl) (by kernel_rfl) ?_
      refine WR.runk [0] [] [2] (L' := [(2, .bool true)]) (w' := w18) (by kernel_rfl) ?_
      refine WR.nil ?_
      refine At.go ?_
      refine WC.ret (by kernel_rfl) ?_
      refine At.thenRet ?_
      obtain rfl := Option.some.inj H
      have hS : Sat w18 (rf w0) [] := hS.sel [] (by kernel_rfl)
      exact At.body [.bool true] (by kernel_rfl) ⟨_, rfl, rfl, hS⟩
    · replace H := ite_f H hb20
      refine WC.skip (by kernel_rfl) ?_
      refine At.go ?_
      refine WC.seq (by kernel_rfl) ?_
      refine WC.reg [0, 1, 2, 3, 4, 5, 6] (by kernel_rfl) (by kernel_rfl) ?_
      refine WR.runk [0] [1, 2, 3, 4, 5, 6] [0, 17] (L' := [(0, .slice A0 l0.length c0), (17, .slice A0 l0.length c0)]) (w' := w18) (by kernel_rfl) ?_
      obtain ⟨r21, e22, H⟩ := bind_ex H
      refine WR.st (St.call (by kernel_rfl) (f := 8) (args := #[.slice A0 l0.length c0]) (by kernel_rfl) (text_New.calls w18 A0 c0 l0 (rdS.upd R0 hS.sub0) r21 e22) ?_)
      rintro _ w28 ⟨pv30, rfl, hS29⟩
      have hS : Sat w28 (rf w0) [optP O45 pv30 r21.1] := hS.ext hS29
      refine WR.runk [2, 3, 4, 5, 6] [] [0, 3] (L' := [(0, .slice A0 l0.length c0), (3, pv30)]) (w' := w28) (by kernel_rfl) ?_
      refine WR.nil ?_
      refine At.go ?_
      refine WC.seq (by kernel_rfl) ?_
      refine WC.reg [0] (by kernel_rfl) (by kernel_rfl) ?_
      refine WR.st (St.box hS (by kernel_rfl) (.cells ⟨List.replicate 256 (.int .i64 0)⟩ 43) (fun b31 => .pointer (some ⟨b31, 0, none⟩)) (fun _ => by kernel_rfl) (fun b31 w32 hS => ?_))
      have hS : Sat w32 (rf w0) [oar 43 (r0 (.int .i64)) 1 256 b31 (List.replicate 256 (0 : Int)), optP O45 pv30 r21.1] := oar.ofPts (κ := (.int .i64)) 256 0 [.int .i64 0] (by kernel_rfl) (by kernel_rfl) rfl (by kernel_rfl) hS
      refine WR.runk [] [] [0, 3, 5] (L' := [(0, .slice A0 l0.length c0), (3, pv30), (5, .pointer (some ⟨b31, 0, none⟩))]) (w' := w32) (by kernel_rfl) ?_
      refine WR.nil ?_
      refine At.go ?_
      refine WC.seq (by kernel_rfl) ?_
      refine WC.reg [0] (by kernel_rfl) (by kernel_rfl) ?_
      refine WR.runk [0] [] [0, 3, 5, 6] (L' := [(0, .slice A0 l0.length c0), (3, pv30), (5, .pointer (some ⟨b31, 0, none⟩)), (6, .int .i64 0)]) (w' := w32) (by kernel_rfl) ?_
      refine WR.nil ?_
      refine At.go ?_
      refine WC.seq (by kernel_rfl) ?_
      refine WC.reg [0] (by kernel_rfl) (by kernel_rfl) ?_
      refine WR.runk [0] [] [0, 3, 5, 6, 7] (L' := [(0, .slice A0 l0.length c0), (3, pv30), (5, .pointer (some ⟨b31, 0, none⟩)), (6, .int .i64 0), (7, .slice none 0 0)]) (w' := w32) (by kernel_rfl) ?_
      refine WR.nil ?_
      refine At.go ?_
      refine WC.seq (by kernel_rfl) ?_
      refine WC.seq (by kernel_rfl) ?_
      refine WC.reg [0, 1, 2, 3] (by kernel_rfl) (by kernel_rfl) ?_
      refine WR.runk [0] [1, 2, 3] [0, 5, 6, 7, 21] (L' := [(0, .slice A0 l0.length c0), (5, .pointer (some ⟨b31, 0, none⟩)), (6, .int .i64 0), (7, .slice none 0 0), (21, pv30)]) (w' := w32) (by kernel_rfl) ?_
      obtain ⟨r34, e35, H⟩ := bind_ex H
      refine WR.st (St.call (by kernel_rfl) (f := 15) (args := #[pv30]) (by kernel_rfl) (text_Text_Symbols.calls w32 (pv30) r21.1 (Sat.rdAny 1 hS rfl (fun _ h => optP.rdd (t := 45) (κ := (.pair (.slice 24 (.slice 5 (.int .u8))) (.pair (.slice 3 (.int .i64)) (.int .i64)))) (O := O45) O45.rd h)) r34 e35) ?_)
      rintro _ w41 ⟨A43, c44, rfl, hS42⟩
      have hS : Sat w41 (rf w0) [osl 3 (r0 (.int .i64)) 1 A43 c44 r34, oar 43 (r0 (.int .i64)) 1 256 b31 (List.replicate 256 (0 : Int)), optP O45 pv30 r21.1] := hS.ext hS42
      refine WR.runk [2, 3] [] [0, 5, 6, 7, 22, 23, 24] (L' := [(0, .slice A0 l0.length c0), (5, .pointer (some ⟨b31, 0, none⟩)), (6, .int .i64 0), (7, .slice none 0 0), (22, .slice A43 r34.length c44), (23, .int .i64 (r34.length : Int)), (24, .int .i64 0)]) (w' := w41) (by kernel_rfl) ?_
      refine WR.nil ?_
      refine At.go ?_
      refine WC.block (by kernel_rfl) ?_
      have hS := hS.addNil (α := Int) 5 (r0 (.int .u8)) 1
      have hS : Sat w41 (rf w0) [osl 5 (r0 (.int .u8)) 1 none 0 ([] : List Int), osl 3 (r0 (.int .i64)) 1 A43 c44 r34, oar 43 (r0 (.int .i64)) 1 256 b31 (List.replicate 256 (0 : Int))] := hS.sel [0, 1, 2] (by kernel_rfl)
      obtain ⟨o74, e75, H⟩ := bind_ex H
      refine WC.loop (by kernel_rfl) ?_
      refine WL.weaken [0, 5, 6, 7, 22, 23, 24] (L' := [(0, .slice A0 l0.length c0), (5, .pointer (some ⟨b31, 0, none⟩)), (6, .int .i64 0), (7, .slice none 0 0), (22, .slice A43 r34.length c44), (23, .int .i64 (r34.length : Int)), (24, .int .i64 0)]) (by kernel_rfl) ?_
      refine colophonlaw08_TextEnds.l1_ok w0 A0 c0 l0 b31 r34 A43 c44 R0 o74 (fun o76 w78 ho79 hS => ?_) (fun o80 A7_q81 c7_q81 w82 ho83 hS => ?_) FU 0 ([] : List Int) 0 (List.replicate 256 (0 : Int)) none 0 _ hS e75
      · subst ho79
        dsimp only at H
        refine At.blockRet ?_
        refine At.thenRet ?_
        obtain rfl := Option.some.inj H
        have hS : Sat w78 (rf w0) [] := hS.sel [] (by kernel_rfl)
        exact At.body [.bool o76.1] (by kernel_rfl) ⟨_, rfl, rfl, hS⟩
      · subst ho83
        dsimp only at H
        refine At.hit ?_
        refine At.go ?_
        refine WC.seq (by kernel_rfl) ?_
        refine WC.seq (by kernel_rfl) ?_
        refine WC.reg [0, 1, 2] (by kernel_rfl) (by kernel_rfl) ?_
        refine WR.runk [0, 1, 2] [] [0, 5, 6, 7, 63, 64] (L' := [(0, .slice A0 l0.length c0), (5, .pointer (some ⟨b31, 0, none⟩)), (6, .int .i64 o80.1), (7, .slice A7_q81 o80.2.1.length c7_q81), (63, .int .i64 (l0.length : Int)), (64, .int .i64 0)]) (w' := w82) (by kernel_rfl) ?_
        refine WR.nil ?_
        refine At.go ?_
        refine WC.block (by kernel_rfl) ?_
        have hS : Sat w82 (rf w0) [osl 5 (r0 (.int .u8)) 1 A7_q81 c7_q81 o80.2.1, oar 43 (r0 (.int .i64)) 1 256 b31 o80.2.2] := hS.sel [0, 1] (by kernel_rfl)
        obtain ⟨o88, e89, H⟩ := bind_ex H
        refine WC.loop (by kernel_rfl) ?_
        refine WL.weaken [0, 5, 6, 7, 63, 64] (L' := [(0, .slice A0 l0.length c0), (5, .pointer (some ⟨b31, 0, none⟩)), (6, .int .i64 o80.1), (7, .slice A7_q81 o80.2.1.length c7_q81), (63, .int .i64 (l0.length : Int)), (64, .int .i64 0)]) (by kernel_rfl) ?_
        refine colophonlaw08_TextEnds.l2_ok w0 A0 c0 l0 b31 o80 A7_q81 c7_q81 o88 (fun o90 w92 ho93 hS => ?_) (fun o94 w96 ho97 hS => ?_) FU 0 _ hS e89
        · subst ho93
          dsimp only at H
          refine At.blockRet ?_
          refine At.thenRet ?_
          obtain rfl := Option.some.inj H
          have hS : Sat w92 (rf w0) [] := hS.sel [] (by kernel_rfl)
          exact At.body [.bool o90] (by kernel_rfl) ⟨_, rfl, rfl, hS⟩
        · subst ho97
          dsimp only at H
          refine At.hit ?_
          refine At.go ?_
          refine WC.seq (by kernel_rfl) ?_
          refine WC.reg [0, 1, 2, 3, 4, 5, 6, 7, 8, 9] (by kernel_rfl) (by kernel_rfl) ?_
          refine WR.runk [0, 1, 2, 3, 4] [5, 6, 7, 8, 9] [7, 76] (L' := [(7, .slice A7_q81 o80.2.1.length c7_q81), (76, .bool (o80.1 == (l0.length : Int)))]) (w' := w96) (by kernel_rfl) ?_
          refine WR.split 76 (b := (o80.1 == (l0.length : Int))) (by kernel_rfl) (fun hb98 => ?_) (fun hb98 => ?_)
          · replace H := ite_t H hb98
            refine WR.runk [5, 6, 7, 8, 9] [] [2] (L' := [(2, .bool ((o80.2.1.length : Int) == 0))]) (w' := w96) (by kernel_rfl) ?_
            refine WR.nil ?_
            refine At.go ?_
            refine WC.ret (by kernel_rfl) ?_
            obtain rfl := Option.some.inj H
            have hS : Sat w96 (rf w0) [] := hS.sel [] (by kernel_rfl)
            exact At.body [.bool ((o80.2.1.length : Int) == 0)] (by kernel_rfl) ⟨_, rfl, rfl, hS⟩
          · replace H := ite_f H hb98
            refine WR.runk [5, 6, 7, 8, 9] [] [2] (L' := [(2, .bool false)]) (w' := w96) (by kernel_rfl) ?_
            refine WR.nil ?_
            refine At.go ?_
            refine WC.ret (by kernel_rfl) ?_
            obtain rfl := Option.some.inj H
            have hS : Sat w96 (rf w0) [] := hS.sel [] (by kernel_rfl)
            exact At.body [.bool false] (by kernel_rfl) ⟨_, rfl, rfl, hS⟩
end Go.Proofs.Ytoonceaeaigkpaa
