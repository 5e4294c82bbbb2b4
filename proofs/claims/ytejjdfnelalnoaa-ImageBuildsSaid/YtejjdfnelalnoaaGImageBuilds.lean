/-
  Printed by gen.py (my own tool): for each Go function a plain Lean function and the proof that a call of it does what that function says.
-/
import Derived.Test.YtejjdfnelalnoaaGP1c
set_option linter.unusedVariables false
set_option linter.unusedSimpArgs false
set_option maxRecDepth 100000
namespace Go.Proofs.Ytejjdfnelalnoaa
open Go Go.Gol
/-! ### 6 colophon/colophonlaw06.ImageBuilds -/
def colophonlaw06_ImageBuilds.l1 (l0 : List (List Int)) (a2 : Int) (y121 : (List (List Int)) × (List Int) × (List Int)) : Nat → Int → Int → Option (Sum Bool Unit)
  | 0, _, _ => none
  | k + 1, x15_l1, x108_l1 => (if decide (x108_l1 < (l0.length : Int)) then ((at? l0 x108_l1).bind fun v127 => (if (x108_l1 == a2) then ((image_Image_First.f (some y121) a2).bind fun r133 => (if (r133 != x15_l1) then some (.inl false) else ((image_Image_Size.f (some y121) a2).bind fun r143 => (if (r143 != (v127.length : Int)) then some (.inl false) else colophonlaw06_ImageBuilds.l1 l0 a2 y121 k (wi (x15_l1 + (wi (Int.tdiv (wi ((v127.length : Int) + 255)) 256)))) (wi (x108_l1 + 1)))))) else colophonlaw06_ImageBuilds.l1 l0 a2 y121 k (wi (x15_l1 + (wi (Int.tdiv (wi ((v127.length : Int) + 255)) 256)))) (wi (x108_l1 + 1)))) else some (.inr ()))
def colophonlaw06_ImageBuilds.f (l0 : List (List Int)) (a1 : Int) (a2 : Int) : Option Bool := (colophonlaw06_first.f.bind fun r1 => (if (!r1) then some false else ((colophonref06_Size.f l0).bind fun r11 => (if decide (r11 > 1200000) then some true else ((image_Build.f l0).bind fun r21 => ((colophonref06_Build.f l0).bind fun r32 => (if (r21.2 != r32.2) then some false else (if (!((bs r21.1).toList == (bs r32.1).toList)) then some false else (if (r32.2 != 0) then some ((r21.1.length : Int) == 0) else ((image_Open.f r21.1).bind fun r46 => (if (r46.2 != 0) then some false else ((colophonlaw06_read.f r46.1).bind fun r57 => ((colophonref06_Same.f r57 l0).bind fun r68 => (if (!r68) then some false else ((image_Image_Pages.f r46.1).bind fun r78 => (if (r78 != (wi (Int.tdiv (r21.1.length : Int) 264))) then some false else ((image_Image_Page.f r46.1 a1).bind fun r88 => (if decide (a1 < 0) then (if (r88.2 == 222) then some ((r88.1.length : Int) == 0) else some false) else ((image_Image_Pages.f r46.1).bind fun r101 => (if decide (a1 ≥ r101) then (if (r88.2 == 222) then some ((r88.1.length : Int) == 0) else some false) else (if (r88.2 != 0) then some false else ((sub? r21.1 (wi (264 * a1)) (wi ((wi (264 * a1)) + 256))).bind fun y115 => (if (!((bs r88.1).toList == (bs y115).toList)) then some false else (r46.1.bind fun y121 => ((colophonlaw06_ImageBuilds.l1 l0 a2 y121 FU 1 0).bind fun o153 => (match o153 with | .inl o155 => some o155 | .inr o159 => (if decide (a2 ≥ 0) then (if decide (a2 < (l0.length : Int)) then some true else ((image_Image_First.f (some y121) a2).bind fun r165 => (if (r165 == 0) then ((image_Image_Size.f (some y121) a2).bind fun r175 => (if (r175 == 0) then ((image_Image_Section.f (some y121) a2).bind fun r185 => some ((r185.length : Int) == 0)) else some false)) else some false))) else ((image_Image_First.f (some y121) a2).bind fun r196 => (if (r196 == 0) then ((image_Image_Size.f (some y121) a2).bind fun r206 => (if (r206 == 0) then ((image_Image_Section.f (some y121) a2).bind fun r216 => some ((r216.length : Int) == 0)) else some false)) else some false)))))))))))))))))))))))))))))
def colophonlaw06_ImageBuilds.post (w : World) (r : Bool) (v : Value) (w' : World) : Prop := v = (.bool r : Value) ∧ Sat w' (rf w) []
theorem colophonlaw06_ImageBuilds.l1_ok {Q} (w0 : World) (A0 : Option Addr) (c0 : Nat) (l0 : List (List Int)) (a2 : Int) (y121 : (List (List Int)) × (List Int) × (List Int)) (b124 : Nat) (R0 : rdS (rd (hp w0) (.slice 5 (.int .u8))) 1 (hp w0) A0 c0 l0) (out : Sum Bool Unit) (hn0 : ∀ (o0 : Bool) (w : World), out = (.inl o0) → Sat w (rf w0) [O52 b124 y121] → At Q .ret 165 [(6, .bool o0)] w) (hn1 : ∀ (o1 : Unit) (w : World), out = (.inr o1) → Sat w (rf w0) [O52 b124 y121] → At Q (.exit 0) 165 [(0, .slice A0 l0.length c0), (2, .int .i64 a2), (11, .pointer (some ⟨b124, 0, none⟩))] w) :
    ∀ (k : Nat) (x15_l1 : Int) (x108_l1 : Int) (w : World), Sat w (rf w0) [O52 b124 y121] → colophonlaw06_ImageBuilds.l1 l0 a2 y121 k x15_l1 x108_l1 = some out → WL Try.prog (cbody (cbody (cr (cl (cr (cr (cr (cr (cr (cr (cr (cr (cr (cr (cr (cr (cr C6))))))))))))))))) Q 165 [(0, .slice A0 l0.length c0), (2, .int .i64 a2), (11, .pointer (some ⟨b124, 0, none⟩)), (15, .int .i64 x15_l1), (106, .slice A0 l0.length c0), (107, .int .i64 (l0.length : Int)), (108, .int .i64 x108_l1)] w := by
  intro k
  induction k with
  | zero => intro x15_l1 x108_l1 w hS H; exact absurd (show none = some out from H) (by simp)
  | succ k ih =>
    intro x15_l1 x108_l1 w hS H
    unfold colophonlaw06_ImageBuilds.l1 at H
    refine WL.round ?_
    refine WC.seq (by kernel_rfl) ?_
    refine WC.reg [0] (by kernel_rfl) (by kernel_rfl) ?_
    refine WR.runk [0] [] [0, 2, 11, 15, 106, 107, 108, 109] (L' := [(0, .slice A0 l0.length c0), (2, .int .i64 a2), (11, .pointer (some ⟨b124, 0, none⟩)), (15, .int .i64 x15_l1), (106, .slice A0 l0.length c0), (107, .int .i64 (l0.length : Int)), (108, .int .i64 x108_l1), (109, .bool (decide (x108_l1 < (l0.length : Int))))]) (w' := w) (by kernel_rfl) ?_
    refine WR.nil ?_
    refine At.go ?_
    refine WC.seq (by kernel_rfl) ?_
    refine WC.cond (by kernel_rfl) (decide (x108_l1 < (l0.length : Int))) (by kernel_rfl) (by kernel_rfl) (fun hb126 => ?_) (fun hb126 => ?_)
    · replace H := ite_t H hb126
      refine WC.skip (by kernel_rfl) ?_
      refine At.go ?_
      refine WC.seq (by kernel_rfl) ?_
      refine WC.block (by kernel_rfl) ?_
      refine WC.seq (by kernel_rfl) ?_
      refine WC.reg [0, 1, 2, 3, 4] (by kernel_rfl) (by kernel_rfl) ?_
      refine WR.runk [0] [1, 2, 3, 4] [0, 2, 11, 15, 106, 107, 108, 110] (L' := [(0, .slice A0 l0.length c0), (2, .int .i64 a2), (11, .pointer (some ⟨b124, 0, none⟩)), (15, .int .i64 x15_l1), (106, .slice A0 l0.length c0), (107, .int .i64 (l0.length : Int)), (108, .int .i64 x108_l1), (110, .int .i64 x108_l1)]) (w' := w) (by kernel_rfl) ?_
      obtain ⟨v127, e128, H⟩ := bind_ex H
      refine WR.st (St.ofP (PSt.idx (k := .i64) (.tmp 106) (.tmp 108) (by kernel_rfl) (by kernel_rfl) E29 (by kernel_rfl) (by kernel_rfl) (rdS.up R0 hS.sub0) e128 ?_))
      refine WR.runk [] [2, 3, 4] [0, 2, 11, 15, 106, 107, 108, 110, 111] (L' := [(0, .slice A0 l0.length c0), (2, .int .i64 a2), (11, .pointer (some ⟨b124, 0, none⟩)), (15, .int .i64 x15_l1), (106, .slice A0 l0.length c0), (107, .int .i64 (l0.length : Int)), (108, .int .i64 x108_l1), (110, .int .i64 x108_l1), (111, .pointer (some (adr A0 x108_l1.toNat 1)))]) (w' := w) (by kernel_rfl) ?_
      refine WR.st (St.ofR (RSt.loadSl (t := 22) (.tmp 111) (by kernel_rfl) (by kernel_rfl) (by kernel_rfl) (by kernel_rfl) R0 e128 hS.sub0 (fun A129 c130 R131 => ?_)))
      replace R131 : rdS (r0 (.int .u8)) 1 (hp w0) A129 c130 v127 := R131
      refine WR.runk [3, 4] [] [0, 2, 11, 15, 16, 17, 106, 107, 108] (L' := [(0, .slice A0 l0.length c0), (2, .int .i64 a2), (11, .pointer (some ⟨b124, 0, none⟩)), (15, .int .i64 x15_l1), (16, .int .i64 x108_l1), (17, .slice A129 v127.length c130), (106, .slice A0 l0.length c0), (107, .int .i64 (l0.length : Int)), (108, .int .i64 x108_l1)]) (w' := w) (by kernel_rfl) ?_
      refine WR.nil ?_
      refine At.go ?_
      refine WC.seq (by kernel_rfl) ?_
      refine WC.seq (by kernel_rfl) ?_
      refine WC.reg [0, 1, 2, 3, 4, 5, 6, 7, 8, 9, 10, 11, 12, 13, 14, 15, 16, 17] (by kernel_rfl) (by kernel_rfl) ?_
      refine WR.runk [0, 1, 2, 3] [4, 5, 6, 7, 8, 9, 10, 11, 12, 13, 14, 15, 16, 17] [0, 2, 11, 15, 17, 106, 107, 108, 116] (L' := [(0, .slice A0 l0.length c0), (2, .int .i64 a2), (11, .pointer (some ⟨b124, 0, none⟩)), (15, .int .i64 x15_l1), (17, .slice A129 v127.length c130), (106, .slice A0 l0.length c0), (107, .int .i64 (l0.length : Int)), (108, .int .i64 x108_l1), (116, .bool (x108_l1 == a2))]) (w' := w) (by kernel_rfl) ?_
      refine WR.split 116 (b := (x108_l1 == a2)) (by kernel_rfl) (fun hb132 => ?_) (fun hb132 => ?_)
      · replace H := ite_t H hb132
        refine WR.runk [4, 5] [6, 7, 8, 9, 10, 11, 12, 13, 14, 15, 16, 17] [0, 2, 11, 15, 17, 106, 107, 108, 116, 117, 118] (L' := [(0, .slice A0 l0.length c0), (2, .int .i64 a2), (11, .pointer (some ⟨b124, 0, none⟩)), (15, .int .i64 x15_l1), (17, .slice A129 v127.length c130), (106, .slice A0 l0.length c0), (107, .int .i64 (l0.length : Int)), (108, .int .i64 x108_l1), (116, .bool true), (117, .pointer (some ⟨b124, 0, none⟩)), (118, .int .i64 a2)]) (w' := w) (by kernel_rfl) ?_
        obtain ⟨r133, e134, H⟩ := bind_ex H
        refine WR.st (St.call (by kernel_rfl) (f := 17) (args := #[.pointer (some ⟨b124, 0, none⟩), .int .i64 a2]) (by kernel_rfl) (image_Image_First.calls w (.pointer (some ⟨b124, 0, none⟩)) (some y121) (Sat.rdAny 0 hS rfl (fun _ h => O52.rd _ _ _ h)) a2 r133 e134) ?_)
        rintro _ w140 ⟨rfl, hS141⟩
        have hS : Sat w140 (rf w0) [O52 b124 y121] := hS.ext hS141
        refine WR.runk [7, 8, 9] [10, 11, 12, 13, 14, 15, 16, 17] [0, 2, 11, 15, 17, 106, 107, 108, 116, 117, 118, 119, 120, 121, 122] (L' := [(0, .slice A0 l0.length c0), (2, .int .i64 a2), (11, .pointer (some ⟨b124, 0, none⟩)), (15, .int .i64 x15_l1), (17, .slice A129 v127.length c130), (106, .slice A0 l0.length c0), (107, .int .i64 (l0.length : Int)), (108, .int .i64 x108_l1), (116, .bool true), (117, .pointer (some ⟨b124, 0, none⟩)), (118, .int .i64 a2), (119, .int .i64 r133), (120, .int .i64 x15_l1), (121, .bool (r133 != x15_l1)), (122, .bool (r133 != x15_l1))]) (w' := w140) (by kernel_rfl) ?_
        refine WR.split 122 (b := (r133 != x15_l1)) (by kernel_rfl) (fun hb142 => ?_) (fun hb142 => ?_)
        · replace H := ite_t H hb142
          refine WR.runk [10, 11, 12, 13, 14, 15, 16, 17] [] [0, 2, 11, 15, 17, 106, 107, 108, 117, 118, 119, 120, 121, 122, 123, 124, 125, 126, 127, 128, 129, 130] (L' := [(0, .slice A0 l0.length c0), (2, .int .i64 a2), (11, .pointer (some ⟨b124, 0, none⟩)), (15, .int .i64 x15_l1), (17, .slice A129 v127.length c130), (106, .slice A0 l0.length c0), (107, .int .i64 (l0.length : Int)), (108, .int .i64 x108_l1), (117, .pointer (some ⟨b124, 0, none⟩)), (118, .int .i64 a2), (119, .int .i64 r133), (120, .int .i64 x15_l1), (121, .bool (r133 != x15_l1)), (122, .bool true), (123, undef), (124, undef), (125, undef), (126, undef), (127, undef), (128, undef), (129, .bool true), (130, .bool true)]) (w' := w140) (by kernel_rfl) ?_
          refine WR.nil ?_
          refine At.go ?_
          refine WC.condT (by kernel_rfl) (by kernel_rfl) (by kernel_rfl) ?_
          refine WC.seq (by kernel_rfl) ?_
          refine WC.reg [0] (by kernel_rfl) (by kernel_rfl) ?_
          refine WR.runk [0] [] [6] (L' := [(6, .bool false)]) (w' := w140) (by kernel_rfl) ?_
          refine WR.nil ?_
          refine At.go ?_
          refine WC.ret (by kernel_rfl) ?_
          refine At.thenRet ?_
          refine At.blockRet ?_
          refine At.thenRet ?_
          refine At.thenRet ?_
          obtain rfl := Option.some.inj H
          have hS : Sat w140 (rf w0) [O52 b124 y121] := hS.sel [0] (by kernel_rfl)
          refine At.weaken [6] (L' := [(6, .bool false)]) (by kernel_rfl) ?_
          exact hn0 false _ rfl hS
        · replace H := ite_f H hb142
          refine WR.runk [10, 11] [12, 13, 14, 15, 16, 17] [0, 2, 11, 15, 17, 106, 107, 108, 116, 117, 118, 119, 120, 121, 122, 123, 124] (L' := [(0, .slice A0 l0.length c0), (2, .int .i64 a2), (11, .pointer (some ⟨b124, 0, none⟩)), (15, .int .i64 x15_l1), (17, .slice A129 v127.length c130), (106, .slice A0 l0.length c0), (107, .int .i64 (l0.length : Int)), (108, .int .i64 x108_l1), (116, .bool true), (117, .pointer (some ⟨b124, 0, none⟩)), (118, .int .i64 a2), (119, .int .i64 r133), (120, .int .i64 x15_l1), (121, .bool (r133 != x15_l1)), (122, .bool false), (123, .pointer (some ⟨b124, 0, none⟩)), (124, .int .i64 a2)]) (w' := w140) (by kernel_rfl) ?_
          obtain ⟨r143, e144, H⟩ := bind_ex H
          refine WR.st (St.call (by kernel_rfl) (f := 18) (args := #[.pointer (some ⟨b124, 0, none⟩), .int .i64 a2]) (by kernel_rfl) (image_Image_Size.calls w140 (.pointer (some ⟨b124, 0, none⟩)) (some y121) (Sat.rdAny 0 hS rfl (fun _ h => O52.rd _ _ _ h)) a2 r143 e144) ?_)
          rintro _ w150 ⟨rfl, hS151⟩
          have hS : Sat w150 (rf w0) [O52 b124 y121] := hS.ext hS151
          refine WR.runk [13, 14, 15, 16, 17] [] [0, 2, 11, 15, 17, 106, 107, 108, 117, 118, 119, 120, 121, 122, 123, 124, 125, 126, 127, 128, 129, 130] (L' := [(0, .slice A0 l0.length c0), (2, .int .i64 a2), (11, .pointer (some ⟨b124, 0, none⟩)), (15, .int .i64 x15_l1), (17, .slice A129 v127.length c130), (106, .slice A0 l0.length c0), (107, .int .i64 (l0.length : Int)), (108, .int .i64 x108_l1), (117, .pointer (some ⟨b124, 0, none⟩)), (118, .int .i64 a2), (119, .int .i64 r133), (120, .int .i64 x15_l1), (121, .bool (r133 != x15_l1)), (122, .bool false), (123, .pointer (some ⟨b124, 0, none⟩)), (124, .int .i64 a2), (125, .int .i64 r143), (126, .slice A129 v127.length c130), (127, .int .i64 (v127.length : Int)), (128, .bool (r143 != (v127.length : Int))), (129, .bool (r143 != (v127.length : Int))), (130, .bool (r143 != (v127.length : Int)))]) (w' := w150) (by kernel_rfl) ?_
          refine WR.nil ?_
          refine At.go ?_
          refine WC.cond (by kernel_rfl) (r143 != (v127.length : Int)) (by kernel_rfl) (by kernel_rfl) (fun hb152 => ?_) (fun hb152 => ?_)
          · replace H := ite_t H hb152
            refine WC.seq (by kernel_rfl) ?_
            refine WC.reg [0] (by kernel_rfl) (by kernel_rfl) ?_
            refine WR.runk [0] [] [6] (L' := [(6, .bool false)]) (w' := w150) (by kernel_rfl) ?_
            refine WR.nil ?_
            refine At.go ?_
            refine WC.ret (by kernel_rfl) ?_
            refine At.thenRet ?_
            refine At.blockRet ?_
            refine At.thenRet ?_
            refine At.thenRet ?_
            obtain rfl := Option.some.inj H
            have hS : Sat w150 (rf w0) [O52 b124 y121] := hS.sel [0] (by kernel_rfl)
            refine At.weaken [6] (L' := [(6, .bool false)]) (by kernel_rfl) ?_
            exact hn0 false _ rfl hS
          · replace H := ite_f H hb152
            refine WC.skip (by kernel_rfl) ?_
            refine At.go ?_
            refine WC.reg [0, 1, 2, 3, 4, 5, 6] (by kernel_rfl) (by kernel_rfl) ?_
            refine WR.runk [0, 1, 2, 3, 4, 5, 6] [] [0, 2, 11, 15, 106, 107, 108, 117, 118, 119, 120, 121, 122, 123, 124, 125, 126, 127] (L' := [(0, .slice A0 l0.length c0), (2, .int .i64 a2), (11, .pointer (some ⟨b124, 0, none⟩)), (15, .int .i64 (wi (x15_l1 + (wi (Int.tdiv (wi ((v127.length : Int) + 255)) 256))))), (106, .slice A0 l0.length c0), (107, .int .i64 (l0.length : Int)), (108, .int .i64 x108_l1), (117, .pointer (some ⟨b124, 0, none⟩)), (118, .int .i64 a2), (119, .int .i64 r133), (120, .int .i64 x15_l1), (121, .bool (r133 != x15_l1)), (122, .bool false), (123, .pointer (some ⟨b124, 0, none⟩)), (124, .int .i64 a2), (125, .int .i64 r143), (126, .slice A129 v127.length c130), (127, .int .i64 (v127.length : Int))]) (w' := w150) (by kernel_rfl) ?_
            refine WR.nil ?_
            refine At.blockNormal ?_
            refine At.go ?_
            refine WC.reg [0, 1] (by kernel_rfl) (by kernel_rfl) ?_
            refine WR.runk [0, 1] [] [0, 2, 11, 15, 106, 107, 108, 117, 118, 119, 120, 121, 122, 123, 124, 125, 126, 127] (L' := [(0, .slice A0 l0.length c0), (2, .int .i64 a2), (11, .pointer (some ⟨b124, 0, none⟩)), (15, .int .i64 (wi (x15_l1 + (wi (Int.tdiv (wi ((v127.length : Int) + 255)) 256))))), (106, .slice A0 l0.length c0), (107, .int .i64 (l0.length : Int)), (108, .int .i64 (wi (x108_l1 + 1))), (117, .pointer (some ⟨b124, 0, none⟩)), (118, .int .i64 a2), (119, .int .i64 r133), (120, .int .i64 x15_l1), (121, .bool (r133 != x15_l1)), (122, .bool false), (123, .pointer (some ⟨b124, 0, none⟩)), (124, .int .i64 a2), (125, .int .i64 r143), (126, .slice A129 v127.length c130), (127, .int .i64 (v127.length : Int))]) (w' := w150) (by kernel_rfl) ?_
            refine WR.nil ?_
            have hS : Sat w150 (rf w0) [O52 b124 y121] := hS.sel [0] (by kernel_rfl)
            refine At.again ?_
            refine WL.weaken [0, 2, 11, 15, 106, 107, 108] (L' := [(0, .slice A0 l0.length c0), (2, .int .i64 a2), (11, .pointer (some ⟨b124, 0, none⟩)), (15, .int .i64 (wi (x15_l1 + (wi (Int.tdiv (wi ((v127.length : Int) + 255)) 256))))), (106, .slice A0 l0.length c0), (107, .int .i64 (l0.length : Int)), (108, .int .i64 (wi (x108_l1 + 1)))]) (by kernel_rfl) ?_
            exact ih (wi (x15_l1 + (wi (Int.tdiv (wi ((v127.length : Int) + 255)) 256)))) (wi (x108_l1 + 1)) _ hS H
      · replace H := ite_f H hb132
        refine WR.runk [4, 5, 6, 7, 8, 9, 10, 11, 12, 13, 14, 15, 16, 17] [] [0, 2, 11, 15, 17, 106, 107, 108, 117, 118, 119, 120, 121, 122, 123, 124, 125, 126, 127, 128, 129, 130] (L' := [(0, .slice A0 l0.length c0), (2, .int .i64 a2), (11, .pointer (some ⟨b124, 0, none⟩)), (15, .int .i64 x15_l1), (17, .slice A129 v127.length c130), (106, .slice A0 l0.length c0), (107, .int .i64 (l0.length : Int)), (108, .int .i64 x108_l1), (117, undef), (118, undef), (119, undef), (120, undef), (121, undef), (122, undef), (123, undef), (124, undef), (125, undef), (126, undef), (127, undef), (128, undef), (129, undef), (130, .bool false)]) (w' := w) (by kernel_rfl) ?_
        refine WR.nil ?_
        refine At.go ?_
        refine WC.condF (by kernel_rfl) (by kernel_rfl) (by kernel_rfl) ?_
        refine WC.skip (by kernel_rfl) ?_
        refine At.go ?_
        refine WC.reg [0, 1, 2, 3, 4, 5, 6] (by kernel_rfl) (by kernel_rfl) ?_
        refine WR.runk [0, 1, 2, 3, 4, 5, 6] [] [0, 2, 11, 15, 106, 107, 108, 117, 118, 119, 120, 121, 122, 123, 124, 125, 126, 127, 128, 129] (L' := [(0, .slice A0 l0.length c0), (2, .int .i64 a2), (11, .pointer (some ⟨b124, 0, none⟩)), (15, .int .i64 (wi (x15_l1 + (wi (Int.tdiv (wi ((v127.length : Int) + 255)) 256))))), (106, .slice A0 l0.length c0), (107, .int .i64 (l0.length : Int)), (108, .int .i64 x108_l1), (117, undef), (118, undef), (119, undef), (120, undef), (121, undef), (122, undef), (123, undef), (124, undef), (125, undef), (126, undef), (127, undef), (128, undef), (129, undef)]) (w' := w) (by kernel_rfl) ?_
        refine WR.nil ?_
        refine At.blockNormal ?_
        refine At.go ?_
        refine WC.reg [0, 1] (by kernel_rfl) (by kernel_rfl) ?_
        refine WR.runk [0, 1] [] [0, 2, 11, 15, 106, 107, 108, 117, 118, 119, 120, 121, 122, 123, 124, 125, 126, 127, 128, 129] (L' := [(0, .slice A0 l0.length c0), (2, .int .i64 a2), (11, .pointer (some ⟨b124, 0, none⟩)), (15, .int .i64 (wi (x15_l1 + (wi (Int.tdiv (wi ((v127.length : Int) + 255)) 256))))), (106, .slice A0 l0.length c0), (107, .int .i64 (l0.length : Int)), (108, .int .i64 (wi (x108_l1 + 1))), (117, undef), (118, undef), (119, undef), (120, undef), (121, undef), (122, undef), (123, undef), (124, undef), (125, undef), (126, undef), (127, undef), (128, undef), (129, undef)]) (w' := w) (by kernel_rfl) ?_
        refine WR.nil ?_
        have hS : Sat w (rf w0) [O52 b124 y121] := hS.sel [0] (by kernel_rfl)
        refine At.again ?_
        refine WL.weaken [0, 2, 11, 15, 106, 107, 108] (L' := [(0, .slice A0 l0.length c0), (2, .int .i64 a2), (11, .pointer (some ⟨b124, 0, none⟩)), (15, .int .i64 (wi (x15_l1 + (wi (Int.tdiv (wi ((v127.length : Int) + 255)) 256))))), (106, .slice A0 l0.length c0), (107, .int .i64 (l0.length : Int)), (108, .int .i64 (wi (x108_l1 + 1)))]) (by kernel_rfl) ?_
        exact ih (wi (x15_l1 + (wi (Int.tdiv (wi ((v127.length : Int) + 255)) 256)))) (wi (x108_l1 + 1)) _ hS H
    · replace H := ite_f H hb126
      refine WC.exit (by kernel_rfl) ?_
      refine At.thenExit ?_
      refine At.thenExit ?_
      obtain rfl := Option.some.inj H
      have hS : Sat w (rf w0) [O52 b124 y121] := hS.sel [0] (by kernel_rfl)
      refine At.weaken [0, 2, 11] (L' := [(0, .slice A0 l0.length c0), (2, .int .i64 a2), (11, .pointer (some ⟨b124, 0, none⟩))]) (by kernel_rfl) ?_
      exact hn1 () _ rfl hS
theorem colophonlaw06_ImageBuilds.calls (w0 : World) (A0 : Option Addr) (c0 : Nat) (l0 : List (List Int)) (R0 : rdS (rd (hp w0) (.slice 5 (.int .u8))) 1 (hp w0) A0 c0 l0) (a1 : Int) (a2 : Int) (r : Bool) (H : colophonlaw06_ImageBuilds.f l0 a1 a2 = some r) :
    Calls Try.prog 6 #[.slice A0 l0.length c0, .int .i64 a1, .int .i64 a2] w0 (fun e w' => ∃ v, e = .returned v ∧ colophonlaw06_ImageBuilds.post w0 r v w') := by
  have hS : Sat w0 (rf w0) [] := Sat.start w0
  unfold colophonlaw06_ImageBuilds.f at H
  refine calls_of_WC (vs := [.slice A0 l0.length c0, .int .i64 a1, .int .i64 a2]) Try.func6 (c := C6) (n := 165) (by kernel_rfl) (by kernel_rfl) (by kernel_rfl) ?_
  refine WC.seq (by kernel_rfl) ?_
  refine WC.reg [0] (by kernel_rfl) (by kernel_rfl) ?_
  refine WR.runk [0] [] [0, 1, 2] (L' := [(0, .slice A0 l0.length c0), (1, .int .i64 a1), (2, .int .i64 a2)]) (w' := w0) (by kernel_rfl) ?_
  refine WR.nil ?_
  refine At.go ?_
  refine WC.seq (by kernel_rfl) ?_
  refine WC.seq (by kernel_rfl) ?_
  refine WC.reg [0, 1] (by kernel_rfl) (by kernel_rfl) ?_
  obtain ⟨r1, e2, H⟩ := bind_ex H
  refine WR.st (St.call (by kernel_rfl) (f := 8) (args := #[]) (by kernel_rfl) (colophonlaw06_first.calls w0  r1 e2) ?_)
  rintro _ w8 ⟨rfl, hS9⟩
  have hS : Sat w8 (rf w0) [] := hS.ext hS9
  refine WR.runk [1] [] [0, 1, 2, 19] (L' := [(0, .slice A0 l0.length c0), (1, .int .i64 a1), (2, .int .i64 a2), (19, .bool (!r1))]) (w' := w8) (by kernel_rfl) ?_
  refine WR.nil ?_
  refine At.go ?_
  refine WC.cond (by kernel_rfl) (!r1) (by kernel_rfl) (by kernel_rfl) (fun hb10 => ?_) (fun hb10 => ?_)
  · replace H := ite_t H hb10
    refine WC.seq (by kernel_rfl) ?_
    refine WC.reg [0] (by kernel_rfl) (by kernel_rfl) ?_
    refine WR.runk [0] [] [6] (L' := [(6, .bool false)]) (w' := w8) (by kernel_rfl) ?_
    refine WR.nil ?_
    refine At.go ?_
    refine WC.ret (by kernel_rfl) ?_
    refine At.thenRet ?_
    obtain rfl := Option.some.inj H
    have hS : Sat w8 (rf w0) [] := hS.sel [] (by kernel_rfl)
    exact At.body [.bool false] (by kernel_rfl) ⟨_, rfl, rfl, hS⟩
  · replace H := ite_f H hb10
    refine WC.skip (by kernel_rfl) ?_
    refine At.go ?_
    refine WC.seq (by kernel_rfl) ?_
    refine WC.seq (by kernel_rfl) ?_
    refine WC.reg [0, 1, 2] (by kernel_rfl) (by kernel_rfl) ?_
    refine WR.runk [0] [1, 2] [0, 1, 2, 20] (L' := [(0, .slice A0 l0.length c0), (1, .int .i64 a1), (2, .int .i64 a2), (20, .slice A0 l0.length c0)]) (w' := w8) (by kernel_rfl) ?_
    obtain ⟨r11, e12, H⟩ := bind_ex H
    refine WR.st (St.call (by kernel_rfl) (f := 14) (args := #[.slice A0 l0.length c0]) (by kernel_rfl) (colophonref06_Size.calls w8 A0 c0 l0 (rdS.upd R0 hS.sub0) r11 e12) ?_)
    rintro _ w18 ⟨rfl, hS19⟩
    have hS : Sat w18 (rf w0) [] := hS.ext hS19
    refine WR.runk [2] [] [0, 1, 2, 22] (L' := [(0, .slice A0 l0.length c0), (1, .int .i64 a1), (2, .int .i64 a2), (22, .bool (decide (r11 > 1200000)))]) (w' := w18) (by kernel_rfl) ?_
    refine WR.nil ?_
    refine At.go ?_
    refine WC.cond (by kernel_rfl) (decide (r11 > 1200000)) (by kernel_rfl) (by kernel_rfl) (fun hb20 => ?_) (fun hb20 => ?_)
    · replace H := ite_t H hb20
      refine WC.seq (by kernel_rfl) ?_
      refine WC.reg [0] (by kernel_rfl) (by kernel_rfl) ?_
      refine WR.runk [0] [] [6] (L' := [(6, .bool true)]) (w' := w18) (by kernel_rfl) ?_
      refine WR.nil ?_
      refine At.go ?_
      refine WC.ret (by kernel_rfl) ?_
      refine At.thenRet ?_
      obtain rfl := Option.some.inj H
      have hS : Sat w18 (rf w0) [] := hS.sel [] (by kernel_rfl)
      exact At.body [.bool true] (by kernel_rfl) ⟨_, rfl, rfl, hS⟩
    · replace H := ite_f H hb20
      refine WC.skip (by kernel_rfl) ?_
      refine At.go ?_
      refine WC.seq (by kernel_rfl) ?_
      refine WC.reg [0, 1, 2, 3, 4, 5, 6] (by kernel_rfl) (by kernel_rfl) ?_
      refine WR.runk [0] [1, 2, 3, 4, 5, 6] [0, 1, 2, 24] (L' := [(0, .slice A0 l0.length c0), (1, .int .i64 a1), (2, .int .i64 a2), (24, .slice A0 l0.length c0)]) (w' := w18) (by kernel_rfl) ?_
      obtain ⟨r21, e22, H⟩ := bind_ex H
      refine WR.st (St.call (by kernel_rfl) (f := 15) (args := #[.slice A0 l0.length c0]) (by kernel_rfl) (image_Build.calls w18 A0 c0 l0 (rdS.upd R0 hS.sub0) r21 e22) ?_)
      rintro _ w28 ⟨A30, c31, rfl, hS29⟩
      have hS : Sat w28 (rf w0) [osl 5 (r0 (.int .u8)) 1 A30 c31 r21.1] := hS.ext hS29
      refine WR.runk [2, 3, 4, 5, 6] [] [0, 1, 2, 7, 8] (L' := [(0, .slice A0 l0.length c0), (1, .int .i64 a1), (2, .int .i64 a2), (7, .slice A30 r21.1.length c31), (8, .int .i64 r21.2)]) (w' := w28) (by kernel_rfl) ?_
      refine WR.nil ?_
      refine At.go ?_
      refine WC.seq (by kernel_rfl) ?_
      refine WC.reg [0, 1, 2, 3, 4, 5, 6] (by kernel_rfl) (by kernel_rfl) ?_
      refine WR.runk [0] [1, 2, 3, 4, 5, 6] [0, 1, 2, 7, 8, 29] (L' := [(0, .slice A0 l0.length c0), (1, .int .i64 a1), (2, .int .i64 a2), (7, .slice A30 r21.1.length c31), (8, .int .i64 r21.2), (29, .slice A0 l0.length c0)]) (w' := w28) (by kernel_rfl) ?_
      obtain ⟨r32, e33, H⟩ := bind_ex H
      refine WR.st (St.call (by kernel_rfl) (f := 20) (args := #[.slice A0 l0.length c0]) (by kernel_rfl) (colophonref06_Build.calls w28 A0 c0 l0 (rdS.upd R0 hS.sub0) r32 e33) ?_)
      rintro _ w39 ⟨A41, c42, rfl, hS40⟩
      have hS : Sat w39 (rf w0) [osl 5 (r0 (.int .u8)) 1 A41 c42 r32.1, osl 5 (r0 (.int .u8)) 1 A30 c31 r21.1] := hS.ext hS40
      refine WR.runk [2, 3, 4, 5, 6] [] [0, 1, 2, 7, 8, 9, 10] (L' := [(0, .slice A0 l0.length c0), (1, .int .i64 a1), (2, .int .i64 a2), (7, .slice A30 r21.1.length c31), (8, .int .i64 r21.2), (9, .slice A41 r32.1.length c42), (10, .int .i64 r32.2)]) (w' := w39) (by kernel_rfl) ?_
      refine WR.nil ?_
      refine At.go ?_
      refine WC.seq (by kernel_rfl) ?_
      refine WC.seq (by kernel_rfl) ?_
      refine WC.reg [0, 1, 2, 3, 4, 5, 6, 7, 8, 9] (by kernel_rfl) (by kernel_rfl) ?_
      refine WR.runk [0, 1, 2, 3] [4, 5, 6, 7, 8, 9] [0, 1, 2, 7, 9, 10, 36] (L' := [(0, .slice A0 l0.length c0), (1, .int .i64 a1), (2, .int .i64 a2), (7, .slice A30 r21.1.length c31), (9, .slice A41 r32.1.length c42), (10, .int .i64 r32.2), (36, .bool (r21.2 != r32.2))]) (w' := w39) (by kernel_rfl) ?_
      refine WR.split 36 (b := (r21.2 != r32.2)) (by kernel_rfl) (fun hb43 => ?_) (fun hb43 => ?_)
      · replace H := ite_t H hb43
        refine WR.runk [4, 5, 6, 7, 8, 9] [] [0, 1, 2, 7, 10, 42] (L' := [(0, .slice A0 l0.length c0), (1, .int .i64 a1), (2, .int .i64 a2), (7, .slice A30 r21.1.length c31), (10, .int .i64 r32.2), (42, .bool true)]) (w' := w39) (by kernel_rfl) ?_
        refine WR.nil ?_
        refine At.go ?_
        refine WC.condT (by kernel_rfl) (by kernel_rfl) (by kernel_rfl) ?_
        refine WC.seq (by kernel_rfl) ?_
        refine WC.reg [0] (by kernel_rfl) (by kernel_rfl) ?_
        refine WR.runk [0] [] [6] (L' := [(6, .bool false)]) (w' := w39) (by kernel_rfl) ?_
        refine WR.nil ?_
        refine At.go ?_
        refine WC.ret (by kernel_rfl) ?_
        refine At.thenRet ?_
        obtain rfl := Option.some.inj H
        have hS : Sat w39 (rf w0) [] := hS.sel [] (by kernel_rfl)
        exact At.body [.bool false] (by kernel_rfl) ⟨_, rfl, rfl, hS⟩
      · replace H := ite_f H hb43
        refine WR.runk [4] [5, 6, 7, 8, 9] [0, 1, 2, 7, 9, 10, 36, 37] (L' := [(0, .slice A0 l0.length c0), (1, .int .i64 a1), (2, .int .i64 a2), (7, .slice A30 r21.1.length c31), (9, .slice A41 r32.1.length c42), (10, .int .i64 r32.2), (36, .bool false), (37, .slice A30 r21.1.length c31)]) (w' := w39) (by kernel_rfl) ?_
        refine WR.st (St.ofR (RSt.toStr (src := 22) (dst := 9) (e := 5) (.tmp 37) (by kernel_rfl) (by kernel_rfl) (by kernel_rfl) (by kernel_rfl) (by kernel_rfl) (by kernel_rfl) (Sat.rdAt 1 hS rfl) ?_))
        refine WR.runk [6] [7, 8, 9] [0, 1, 2, 7, 10, 36, 38, 39] (L' := [(0, .slice A0 l0.length c0), (1, .int .i64 a1), (2, .int .i64 a2), (7, .slice A30 r21.1.length c31), (10, .int .i64 r32.2), (36, .bool false), (38, .string (bs r21.1)), (39, .slice A41 r32.1.length c42)]) (w' := w39) (by kernel_rfl) ?_
        refine WR.st (St.ofR (RSt.toStr (src := 22) (dst := 9) (e := 5) (.tmp 39) (by kernel_rfl) (by kernel_rfl) (by kernel_rfl) (by kernel_rfl) (by kernel_rfl) (by kernel_rfl) (Sat.rdAt 0 hS rfl) ?_))
        refine WR.runk [8, 9] [] [0, 1, 2, 7, 10, 42] (L' := [(0, .slice A0 l0.length c0), (1, .int .i64 a1), (2, .int .i64 a2), (7, .slice A30 r21.1.length c31), (10, .int .i64 r32.2), (42, .bool (!((bs r21.1).toList == (bs r32.1).toList)))]) (w' := w39) (by kernel_rfl) ?_
        refine WR.nil ?_
        refine At.go ?_
        refine WC.cond (by kernel_rfl) (!((bs r21.1).toList == (bs r32.1).toList)) (by kernel_rfl) (by kernel_rfl) (fun hb44 => ?_) (fun hb44 => ?_)
        · replace H := ite_t H hb44
          refine WC.seq (by kernel_rfl) ?_
          refine WC.reg [0] (by kernel_rfl) (by kernel_rfl) ?_
          refine WR.runk [0] [] [6] (L' := [(6, .bool false)]) (w' := w39) (by kernel_rfl) ?_
          refine WR.nil ?_
          refine At.go ?_
          refine WC.ret (by kernel_rfl) ?_
          refine At.thenRet ?_
          obtain rfl := Option.some.inj H
          have hS : Sat w39 (rf w0) [] := hS.sel [] (by kernel_rfl)
          exact At.body [.bool false] (by kernel_rfl) ⟨_, rfl, rfl, hS⟩
        · replace H := ite_f H hb44
          refine WC.skip (by kernel_rfl) ?_
          refine At.go ?_
          refine WC.seq (by kernel_rfl) ?_
          refine WC.seq (by kernel_rfl) ?_
          refine WC.reg [0, 1] (by kernel_rfl) (by kernel_rfl) ?_
          refine WR.runk [0, 1] [] [0, 1, 2, 7, 44] (L' := [(0, .slice A0 l0.length c0), (1, .int .i64 a1), (2, .int .i64 a2), (7, .slice A30 r21.1.length c31), (44, .bool (r32.2 != 0))]) (w' := w39) (by kernel_rfl) ?_
          refine WR.nil ?_
          refine At.go ?_
          refine WC.cond (by kernel_rfl) (r32.2 != 0) (by kernel_rfl) (by kernel_rfl) (fun hb45 => ?_) (fun hb45 => ?_)
          · replace H := ite_t H hb45
            refine WC.seq (by kernel_rfl) ?_
            refine WC.reg [0, 1, 2, 3] (by kernel_rfl) (by kernel_rfl) ?_
            refine WR.runk [0, 1, 2, 3] [] [6] (L' := [(6, .bool ((r21.1.length : Int) == 0))]) (w' := w39) (by kernel_rfl) ?_
            refine WR.nil ?_
            refine At.go ?_
            refine WC.ret (by kernel_rfl) ?_
            refine At.thenRet ?_
            obtain rfl := Option.some.inj H
            have hS : Sat w39 (rf w0) [] := hS.sel [] (by kernel_rfl)
            exact At.body [.bool ((r21.1.length : Int) == 0)] (by kernel_rfl) ⟨_, rfl, rfl, hS⟩
          · replace H := ite_f H hb45
            refine WC.skip (by kernel_rfl) ?_
            refine At.go ?_
            refine WC.seq (by kernel_rfl) ?_
            refine WC.reg [0, 1, 2, 3, 4, 5, 6] (by kernel_rfl) (by kernel_rfl) ?_
            refine WR.runk [0] [1, 2, 3, 4, 5, 6] [0, 1, 2, 7, 49] (L' := [(0, .slice A0 l0.length c0), (1, .int .i64 a1), (2, .int .i64 a2), (7, .slice A30 r21.1.length c31), (49, .slice A30 r21.1.length c31)]) (w' := w39) (by kernel_rfl) ?_
            obtain ⟨r46, e47, H⟩ := bind_ex H
            refine WR.st (St.call (by kernel_rfl) (f := 10) (args := #[.slice A30 r21.1.length c31]) (by kernel_rfl) (image_Open.calls w39 A30 c31 r21.1 (Sat.rdAt 1 hS rfl) r46 e47) ?_)
            rintro _ w53 ⟨pv55, rfl, hS54⟩
            have hS : Sat w53 (rf w0) [optP O52 pv55 r46.1, osl 5 (r0 (.int .u8)) 1 A41 c42 r32.1, osl 5 (r0 (.int .u8)) 1 A30 c31 r21.1] := hS.ext hS54
            refine WR.runk [2, 3, 4, 5, 6] [] [0, 1, 2, 7, 11, 12] (L' := [(0, .slice A0 l0.length c0), (1, .int .i64 a1), (2, .int .i64 a2), (7, .slice A30 r21.1.length c31), (11, pv55), (12, .int .i64 r46.2)]) (w' := w53) (by kernel_rfl) ?_
            refine WR.nil ?_
            refine At.go ?_
            refine WC.seq (by kernel_rfl) ?_
            refine WC.seq (by kernel_rfl) ?_
            refine WC.reg [0, 1, 2, 3, 4, 5, 6, 7, 8, 9, 10, 11, 12, 13, 14, 15, 16] (by kernel_rfl) (by kernel_rfl) ?_
            refine WR.runk [0, 1, 2] [3, 4, 5, 6, 7, 8, 9, 10, 11, 12, 13, 14, 15, 16] [0, 1, 2, 7, 11, 55] (L' := [(0, .slice A0 l0.length c0), (1, .int .i64 a1), (2, .int .i64 a2), (7, .slice A30 r21.1.length c31), (11, pv55), (55, .bool (r46.2 != 0))]) (w' := w53) (by kernel_rfl) ?_
            refine WR.split 55 (b := (r46.2 != 0)) (by kernel_rfl) (fun hb56 => ?_) (fun hb56 => ?_)
            · replace H := ite_t H hb56
              refine WR.runk [3, 4, 5, 6, 7, 8, 9, 10, 11, 12, 13, 14, 15, 16] [] [0, 1, 2, 7, 11, 69] (L' := [(0, .slice A0 l0.length c0), (1, .int .i64 a1), (2, .int .i64 a2), (7, .slice A30 r21.1.length c31), (11, pv55), (69, .bool true)]) (w' := w53) (by kernel_rfl) ?_
              refine WR.nil ?_
              refine At.go ?_
              refine WC.condT (by kernel_rfl) (by kernel_rfl) (by kernel_rfl) ?_
              refine WC.seq (by kernel_rfl) ?_
              refine WC.reg [0] (by kernel_rfl) (by kernel_rfl) ?_
              refine WR.runk [0] [] [6] (L' := [(6, .bool false)]) (w' := w53) (by kernel_rfl) ?_
              refine WR.nil ?_
              refine At.go ?_
              refine WC.ret (by kernel_rfl) ?_
              refine At.thenRet ?_
              obtain rfl := Option.some.inj H
              have hS : Sat w53 (rf w0) [] := hS.sel [] (by kernel_rfl)
              exact At.body [.bool false] (by kernel_rfl) ⟨_, rfl, rfl, hS⟩
            · replace H := ite_f H hb56
              refine WR.runk [3] [4, 5, 6, 7, 8, 9, 10, 11, 12, 13, 14, 15, 16] [0, 1, 2, 7, 11, 55, 56] (L' := [(0, .slice A0 l0.length c0), (1, .int .i64 a1), (2, .int .i64 a2), (7, .slice A30 r21.1.length c31), (11, pv55), (55, .bool false), (56, pv55)]) (w' := w53) (by kernel_rfl) ?_
              obtain ⟨r57, e58, H⟩ := bind_ex H
              refine WR.st (St.call (by kernel_rfl) (f := 13) (args := #[pv55]) (by kernel_rfl) (colophonlaw06_read.calls w53 (pv55) r46.1 (Sat.rdAny 0 hS rfl (fun _ h => optP.rdd (t := 52) (κ := (.pair (.slice 22 (.slice 5 (.int .u8))) (.pair (.slice 3 (.int .i64)) (.slice 3 (.int .i64))))) (O := O52) O52.rd h)) r57 e58) ?_)
              rintro _ w64 ⟨A66, c67, rfl, hS65⟩
              have hS : Sat w64 (rf w0) [orw 22 (Esl 5 (.int .u8)) 1 A66 c67 r57, optP O52 pv55 r46.1, osl 5 (r0 (.int .u8)) 1 A41 c42 r32.1, osl 5 (r0 (.int .u8)) 1 A30 c31 r21.1] := hS.ext hS65
              refine WR.runk [5] [6, 7, 8, 9, 10, 11, 12, 13, 14, 15, 16] [0, 1, 2, 7, 11, 55, 57, 58] (L' := [(0, .slice A0 l0.length c0), (1, .int .i64 a1), (2, .int .i64 a2), (7, .slice A30 r21.1.length c31), (11, pv55), (55, .bool false), (57, .slice A66 r57.length c67), (58, .slice A0 l0.length c0)]) (w' := w64) (by kernel_rfl) ?_
              obtain ⟨r68, e69, H⟩ := bind_ex H
              refine WR.st (St.call (by kernel_rfl) (f := 12) (args := #[.slice A66 r57.length c67, .slice A0 l0.length c0]) (by kernel_rfl) (colophonref06_Same.calls w64 A66 c67 r57 (Sat.rdAnyS 0 hS rfl (fun _ h => orw.rdS (κ := (.slice 5 (.int .u8))) (Esl.rd (e := 5) (κ := (.int .u8))) h)) A0 c0 l0 (rdS.upd R0 hS.sub0) r68 e69) ?_)
              rintro _ w75 ⟨rfl, hS76⟩
              have hS : Sat w75 (rf w0) [orw 22 (Esl 5 (.int .u8)) 1 A66 c67 r57, optP O52 pv55 r46.1, osl 5 (r0 (.int .u8)) 1 A41 c42 r32.1, osl 5 (r0 (.int .u8)) 1 A30 c31 r21.1] := hS.ext hS76
              refine WR.runk [7, 8, 9] [10, 11, 12, 13, 14, 15, 16] [0, 1, 2, 7, 11, 62] (L' := [(0, .slice A0 l0.length c0), (1, .int .i64 a1), (2, .int .i64 a2), (7, .slice A30 r21.1.length c31), (11, pv55), (62, .bool (!r68))]) (w' := w75) (by kernel_rfl) ?_
              refine WR.split 62 (b := (!r68)) (by kernel_rfl) (fun hb77 => ?_) (fun hb77 => ?_)
              · replace H := ite_t H hb77
                refine WR.runk [10, 11, 12, 13, 14, 15, 16] [] [0, 1, 2, 7, 11, 69] (L' := [(0, .slice A0 l0.length c0), (1, .int .i64 a1), (2, .int .i64 a2), (7, .slice A30 r21.1.length c31), (11, pv55), (69, .bool true)]) (w' := w75) (by kernel_rfl) ?_
                refine WR.nil ?_
                refine At.go ?_
                refine WC.condT (by kernel_rfl) (by kernel_rfl) (by kernel_rfl) ?_
                refine WC.seq (by kernel_rfl) ?_
                refine WC.reg [0] (by kernel_rfl) (by kernel_rfl) ?_
                refine WR.runk [0] [] [6] (L' := [(6, .bool false)]) (w' := w75) (by kernel_rfl) ?_
                refine WR.nil ?_
                refine At.go ?_
                refine WC.ret (by kernel_rfl) ?_
                refine At.thenRet ?_
                obtain rfl := Option.some.inj H
                have hS : Sat w75 (rf w0) [] := hS.sel [] (by kernel_rfl)
                exact At.body [.bool false] (by kernel_rfl) ⟨_, rfl, rfl, hS⟩
              · replace H := ite_f H hb77
                refine WR.runk [10] [11, 12, 13, 14, 15, 16] [0, 1, 2, 7, 11, 62, 63] (L' := [(0, .slice A0 l0.length c0), (1, .int .i64 a1), (2, .int .i64 a2), (7, .slice A30 r21.1.length c31), (11, pv55), (62, .bool false), (63, pv55)]) (w' := w75) (by kernel_rfl) ?_
                obtain ⟨r78, e79, H⟩ := bind_ex H
                refine WR.st (St.call (by kernel_rfl) (f := 19) (args := #[pv55]) (by kernel_rfl) (image_Image_Pages.calls w75 (pv55) r46.1 (Sat.rdAny 1 hS rfl (fun _ h => optP.rdd (t := 52) (κ := (.pair (.slice 22 (.slice 5 (.int .u8))) (.pair (.slice 3 (.int .i64)) (.slice 3 (.int .i64))))) (O := O52) O52.rd h)) r78 e79) ?_)
                rintro _ w85 ⟨rfl, hS86⟩
                have hS : Sat w85 (rf w0) [orw 22 (Esl 5 (.int .u8)) 1 A66 c67 r57, optP O52 pv55 r46.1, osl 5 (r0 (.int .u8)) 1 A41 c42 r32.1, osl 5 (r0 (.int .u8)) 1 A30 c31 r21.1] := hS.ext hS86
                refine WR.runk [12, 13, 14, 15, 16] [] [0, 1, 2, 7, 11, 69] (L' := [(0, .slice A0 l0.length c0), (1, .int .i64 a1), (2, .int .i64 a2), (7, .slice A30 r21.1.length c31), (11, pv55), (69, .bool (r78 != (wi (Int.tdiv (r21.1.length : Int) 264))))]) (w' := w85) (by kernel_rfl) ?_
                refine WR.nil ?_
                refine At.go ?_
                refine WC.cond (by kernel_rfl) (r78 != (wi (Int.tdiv (r21.1.length : Int) 264))) (by kernel_rfl) (by kernel_rfl) (fun hb87 => ?_) (fun hb87 => ?_)
                · replace H := ite_t H hb87
                  refine WC.seq (by kernel_rfl) ?_
                  refine WC.reg [0] (by kernel_rfl) (by kernel_rfl) ?_
                  refine WR.runk [0] [] [6] (L' := [(6, .bool false)]) (w' := w85) (by kernel_rfl) ?_
                  refine WR.nil ?_
                  refine At.go ?_
                  refine WC.ret (by kernel_rfl) ?_
                  refine At.thenRet ?_
                  obtain rfl := Option.some.inj H
                  have hS : Sat w85 (rf w0) [] := hS.sel [] (by kernel_rfl)
                  exact At.body [.bool false] (by kernel_rfl) ⟨_, rfl, rfl, hS⟩
                · replace H := ite_f H hb87
                  refine WC.skip (by kernel_rfl) ?_
                  refine At.go ?_
                  refine WC.seq (by kernel_rfl) ?_
                  refine WC.reg [0, 1, 2, 3, 4, 5, 6, 7] (by kernel_rfl) (by kernel_rfl) ?_
                  refine WR.runk [0, 1] [2, 3, 4, 5, 6, 7] [0, 1, 2, 7, 11, 71, 72] (L' := [(0, .slice A0 l0.length c0), (1, .int .i64 a1), (2, .int .i64 a2), (7, .slice A30 r21.1.length c31), (11, pv55), (71, pv55), (72, .int .i64 a1)]) (w' := w85) (by kernel_rfl) ?_
                  obtain ⟨r88, e89, H⟩ := bind_ex H
                  refine WR.st (St.call (by kernel_rfl) (f := 21) (args := #[pv55, .int .i64 a1]) (by kernel_rfl) (image_Image_Page.calls w85 (pv55) r46.1 (Sat.rdAny 1 hS rfl (fun _ h => optP.rdd (t := 52) (κ := (.pair (.slice 22 (.slice 5 (.int .u8))) (.pair (.slice 3 (.int .i64)) (.slice 3 (.int .i64))))) (O := O52) O52.rd h)) a1 r88 e89) ?_)
                  rintro _ w95 ⟨A97, c98, rfl, hS96⟩
                  have hS : Sat w95 (rf w0) [osl 5 (r0 (.int .u8)) 1 A97 c98 r88.1, orw 22 (Esl 5 (.int .u8)) 1 A66 c67 r57, optP O52 pv55 r46.1, osl 5 (r0 (.int .u8)) 1 A41 c42 r32.1, osl 5 (r0 (.int .u8)) 1 A30 c31 r21.1] := hS.ext hS96
                  refine WR.runk [3, 4, 5, 6, 7] [] [0, 1, 2, 7, 11, 13, 14] (L' := [(0, .slice A0 l0.length c0), (1, .int .i64 a1), (2, .int .i64 a2), (7, .slice A30 r21.1.length c31), (11, pv55), (13, .slice A97 r88.1.length c98), (14, .int .i64 r88.2)]) (w' := w95) (by kernel_rfl) ?_
                  refine WR.nil ?_
                  refine At.go ?_
                  refine WC.seq (by kernel_rfl) ?_
                  refine WC.seq (by kernel_rfl) ?_
                  refine WC.reg [0, 1, 2, 3, 4, 5, 6, 7] (by kernel_rfl) (by kernel_rfl) ?_
                  refine WR.runk [0, 1, 2] [3, 4, 5, 6, 7] [0, 1, 2, 7, 11, 13, 14, 78] (L' := [(0, .slice A0 l0.length c0), (1, .int .i64 a1), (2, .int .i64 a2), (7, .slice A30 r21.1.length c31), (11, pv55), (13, .slice A97 r88.1.length c98), (14, .int .i64 r88.2), (78, .bool (decide (a1 < 0)))]) (w' := w95) (by kernel_rfl) ?_
                  refine WR.split 78 (b := decide (a1 < 0)) (by kernel_rfl) (fun hb99 => ?_) (fun hb99 => ?_)
                  · replace H := ite_t H hb99
                    refine WR.runk [3, 4, 5, 6, 7] [] [0, 1, 2, 7, 11, 13, 14, 83] (L' := [(0, .slice A0 l0.length c0), (1, .int .i64 a1), (2, .int .i64 a2), (7, .slice A30 r21.1.length c31), (11, pv55), (13, .slice A97 r88.1.length c98), (14, .int .i64 r88.2), (83, .bool true)]) (w' := w95) (by kernel_rfl) ?_
                    refine WR.nil ?_
                    refine At.go ?_
                    refine WC.condT (by kernel_rfl) (by kernel_rfl) (by kernel_rfl) ?_
                    refine WC.seq (by kernel_rfl) ?_
                    refine WC.reg [0, 1, 2, 3, 4, 5, 6, 7] (by kernel_rfl) (by kernel_rfl) ?_
                    refine WR.runk [0, 1, 2] [3, 4, 5, 6, 7] [13, 86] (L' := [(13, .slice A97 r88.1.length c98), (86, .bool (r88.2 == 222))]) (w' := w95) (by kernel_rfl) ?_
                    refine WR.split 86 (b := (r88.2 == 222)) (by kernel_rfl) (fun hb100 => ?_) (fun hb100 => ?_)
                    · replace H := ite_t H hb100
                      refine WR.runk [3, 4, 5, 6, 7] [] [6] (L' := [(6, .bool ((r88.1.length : Int) == 0))]) (w' := w95) (by kernel_rfl) ?_
                      refine WR.nil ?_
                      refine At.go ?_
                      refine WC.ret (by kernel_rfl) ?_
                      refine At.thenRet ?_
                      obtain rfl := Option.some.inj H
                      have hS : Sat w95 (rf w0) [] := hS.sel [] (by kernel_rfl)
                      exact At.body [.bool ((r88.1.length : Int) == 0)] (by kernel_rfl) ⟨_, rfl, rfl, hS⟩
                    · replace H := ite_f H hb100
                      refine WR.runk [3, 4, 5, 6, 7] [] [6] (L' := [(6, .bool false)]) (w' := w95) (by kernel_rfl) ?_
                      refine WR.nil ?_
                      refine At.go ?_
                      refine WC.ret (by kernel_rfl) ?_
                      refine At.thenRet ?_
                      obtain rfl := Option.some.inj H
                      have hS : Sat w95 (rf w0) [] := hS.sel [] (by kernel_rfl)
                      exact At.body [.bool false] (by kernel_rfl) ⟨_, rfl, rfl, hS⟩
                  · replace H := ite_f H hb99
                    refine WR.runk [3, 4] [5, 6, 7] [0, 1, 2, 7, 11, 13, 14, 78, 79, 80] (L' := [(0, .slice A0 l0.length c0), (1, .int .i64 a1), (2, .int .i64 a2), (7, .slice A30 r21.1.length c31), (11, pv55), (13, .slice A97 r88.1.length c98), (14, .int .i64 r88.2), (78, .bool false), (79, .int .i64 a1), (80, pv55)]) (w' := w95) (by kernel_rfl) ?_
                    obtain ⟨r101, e102, H⟩ := bind_ex H
                    refine WR.st (St.call (by kernel_rfl) (f := 19) (args := #[pv55]) (by kernel_rfl) (image_Image_Pages.calls w95 (pv55) r46.1 (Sat.rdAny 2 hS rfl (fun _ h => optP.rdd (t := 52) (κ := (.pair (.slice 22 (.slice 5 (.int .u8))) (.pair (.slice 3 (.int .i64)) (.slice 3 (.int .i64))))) (O := O52) O52.rd h)) r101 e102) ?_)
                    rintro _ w108 ⟨rfl, hS109⟩
                    have hS : Sat w108 (rf w0) [osl 5 (r0 (.int .u8)) 1 A97 c98 r88.1, orw 22 (Esl 5 (.int .u8)) 1 A66 c67 r57, optP O52 pv55 r46.1, osl 5 (r0 (.int .u8)) 1 A41 c42 r32.1, osl 5 (r0 (.int .u8)) 1 A30 c31 r21.1] := hS.ext hS109
                    refine WR.runk [6, 7] [] [0, 1, 2, 7, 11, 13, 14, 83] (L' := [(0, .slice A0 l0.length c0), (1, .int .i64 a1), (2, .int .i64 a2), (7, .slice A30 r21.1.length c31), (11, pv55), (13, .slice A97 r88.1.length c98), (14, .int .i64 r88.2), (83, .bool (decide (a1 ≥ r101)))]) (w' := w108) (by kernel_rfl) ?_
                    refine WR.nil ?_
                    refine At.go ?_
                    refine WC.cond (by kernel_rfl) (decide (a1 ≥ r101)) (by kernel_rfl) (by kernel_rfl) (fun hb110 => ?_) (fun hb110 => ?_)
                    · replace H := ite_t H hb110
                      refine WC.seq (by kernel_rfl) ?_
                      refine WC.reg [0, 1, 2, 3, 4, 5, 6, 7] (by kernel_rfl) (by kernel_rfl) ?_
                      refine WR.runk [0, 1, 2] [3, 4, 5, 6, 7] [13, 86] (L' := [(13, .slice A97 r88.1.length c98), (86, .bool (r88.2 == 222))]) (w' := w108) (by kernel_rfl) ?_
                      refine WR.split 86 (b := (r88.2 == 222)) (by kernel_rfl) (fun hb111 => ?_) (fun hb111 => ?_)
                      · replace H := ite_t H hb111
                        refine WR.runk [3, 4, 5, 6, 7] [] [6] (L' := [(6, .bool ((r88.1.length : Int) == 0))]) (w' := w108) (by kernel_rfl) ?_
                        refine WR.nil ?_
                        refine At.go ?_
                        refine WC.ret (by kernel_rfl) ?_
                        refine At.thenRet ?_
                        obtain rfl := Option.some.inj H
                        have hS : Sat w108 (rf w0) [] := hS.sel [] (by kernel_rfl)
                        exact At.body [.bool ((r88.1.length : Int) == 0)] (by kernel_rfl) ⟨_, rfl, rfl, hS⟩
                      · replace H := ite_f H hb111
                        refine WR.runk [3, 4, 5, 6, 7] [] [6] (L' := [(6, .bool false)]) (w' := w108) (by kernel_rfl) ?_
                        refine WR.nil ?_
                        refine At.go ?_
                        refine WC.ret (by kernel_rfl) ?_
                        refine At.thenRet ?_
                        obtain rfl := Option.some.inj H
                        have hS : Sat w108 (rf w0) [] := hS.sel [] (by kernel_rfl)
                        exact At.body [.bool false] (by kernel_rfl) ⟨_, rfl, rfl, hS⟩
                    · replace H := ite_f H hb110
                      refine WC.skip (by kernel_rfl) ?_
                      refine At.go ?_
                      refine WC.seq (by kernel_rfl) ?_
                      refine WC.seq (by kernel_rfl) ?_
                      refine WC.drawn (by kernel_rfl) (by kernel_rfl) 15 (by kernel_rfl) (fun w112 hw113 => ?_)
                      have hS := hS.heap hw113.1 hw113.2
                      refine WD.weaken [0, 1, 2, 7, 11, 13, 14] (L' := [(0, .slice A0 l0.length c0), (1, .int .i64 a1), (2, .int .i64 a2), (7, .slice A30 r21.1.length c31), (11, pv55), (13, .slice A97 r88.1.length c98), (14, .int .i64 r88.2)]) (by kernel_rfl) ?_
                      refine WD.pure (i := 0) (v := .int .i64 r88.2) (by kernel_rfl) (by kernel_rfl) (fun _ => by kernel_rfl) ?_
                      refine WD.weaken [0, 1, 2, 7, 11, 13, 91] (L' := [(0, .slice A0 l0.length c0), (1, .int .i64 a1), (2, .int .i64 a2), (7, .slice A30 r21.1.length c31), (11, pv55), (13, .slice A97 r88.1.length c98), (91, .int .i64 r88.2)]) (by kernel_rfl) ?_
                      refine WD.pure (i := 1) (v := .bool (r88.2 != 0)) (by kernel_rfl) (by kernel_rfl) (fun _ => by kernel_rfl) ?_
                      refine WD.weaken [0, 1, 2, 7, 11, 13, 92] (L' := [(0, .slice A0 l0.length c0), (1, .int .i64 a1), (2, .int .i64 a2), (7, .slice A30 r21.1.length c31), (11, pv55), (13, .slice A97 r88.1.length c98), (92, .bool (r88.2 != 0))]) (by kernel_rfl) ?_
                      refine WD.pure (i := 2) (v := .bool (r88.2 != 0)) (by kernel_rfl) (by kernel_rfl) (fun _ => by kernel_rfl) ?_
                      refine WD.weaken [0, 1, 2, 7, 11, 13, 93] (L' := [(0, .slice A0 l0.length c0), (1, .int .i64 a1), (2, .int .i64 a2), (7, .slice A30 r21.1.length c31), (11, pv55), (13, .slice A97 r88.1.length c98), (93, .bool (r88.2 != 0))]) (by kernel_rfl) ?_
                      refine WD.split 93 (b := (r88.2 != 0)) (by kernel_rfl) (fun hb114 => ?_) (fun hb114 => ?_)
                      · replace H := ite_t H hb114
                        refine WD.weaken [0, 1, 2, 7, 11, 13, 93] (L' := [(0, .slice A0 l0.length c0), (1, .int .i64 a1), (2, .int .i64 a2), (7, .slice A30 r21.1.length c31), (11, pv55), (13, .slice A97 r88.1.length c98), (93, .bool true)]) (by kernel_rfl) ?_
                        refine WD.skip (i := 3) (by kernel_rfl) (by kernel_rfl) ?_
                        refine WD.weaken [0, 1, 2, 7, 11, 93, 94] (L' := [(0, .slice A0 l0.length c0), (1, .int .i64 a1), (2, .int .i64 a2), (7, .slice A30 r21.1.length c31), (11, pv55), (93, .bool true), (94, undef)]) (by kernel_rfl) ?_
                        refine WD.skip (i := 4) (by kernel_rfl) (by kernel_rfl) ?_
                        refine WD.weaken [0, 1, 2, 7, 11, 93, 95] (L' := [(0, .slice A0 l0.length c0), (1, .int .i64 a1), (2, .int .i64 a2), (7, .slice A30 r21.1.length c31), (11, pv55), (93, .bool true), (95, undef)]) (by kernel_rfl) ?_
                        refine WD.skip (i := 5) (by kernel_rfl) (by kernel_rfl) ?_
                        refine WD.weaken [0, 1, 2, 11, 93, 95, 96] (L' := [(0, .slice A0 l0.length c0), (1, .int .i64 a1), (2, .int .i64 a2), (11, pv55), (93, .bool true), (95, undef), (96, undef)]) (by kernel_rfl) ?_
                        refine WD.skip (i := 6) (by kernel_rfl) (by kernel_rfl) ?_
                        refine WD.weaken [0, 1, 2, 11, 93, 95, 96, 97] (L' := [(0, .slice A0 l0.length c0), (1, .int .i64 a1), (2, .int .i64 a2), (11, pv55), (93, .bool true), (95, undef), (96, undef), (97, undef)]) (by kernel_rfl) ?_
                        refine WD.skip (i := 7) (by kernel_rfl) (by kernel_rfl) ?_
                        refine WD.weaken [0, 1, 2, 11, 93, 95, 96, 98] (L' := [(0, .slice A0 l0.length c0), (1, .int .i64 a1), (2, .int .i64 a2), (11, pv55), (93, .bool true), (95, undef), (96, undef), (98, undef)]) (by kernel_rfl) ?_
                        refine WD.skip (i := 8) (by kernel_rfl) (by kernel_rfl) ?_
                        refine WD.weaken [0, 2, 11, 93, 95, 96, 98, 99] (L' := [(0, .slice A0 l0.length c0), (2, .int .i64 a2), (11, pv55), (93, .bool true), (95, undef), (96, undef), (98, undef), (99, undef)]) (by kernel_rfl) ?_
                        refine WD.skip (i := 9) (by kernel_rfl) (by kernel_rfl) ?_
                        refine WD.weaken [0, 2, 11, 93, 95, 96, 98, 100] (L' := [(0, .slice A0 l0.length c0), (2, .int .i64 a2), (11, pv55), (93, .bool true), (95, undef), (96, undef), (98, undef), (100, undef)]) (by kernel_rfl) ?_
                        refine WD.skip (i := 10) (by kernel_rfl) (by kernel_rfl) ?_
                        refine WD.weaken [0, 2, 11, 93, 95, 96, 98, 101] (L' := [(0, .slice A0 l0.length c0), (2, .int .i64 a2), (11, pv55), (93, .bool true), (95, undef), (96, undef), (98, undef), (101, undef)]) (by kernel_rfl) ?_
                        refine WD.skip (i := 11) (by kernel_rfl) (by kernel_rfl) ?_
                        refine WD.weaken [0, 2, 11, 93, 95, 102] (L' := [(0, .slice A0 l0.length c0), (2, .int .i64 a2), (11, pv55), (93, .bool true), (95, undef), (102, undef)]) (by kernel_rfl) ?_
                        refine WD.skip (i := 12) (by kernel_rfl) (by kernel_rfl) ?_
                        refine WD.weaken [0, 2, 11, 93, 95, 103] (L' := [(0, .slice A0 l0.length c0), (2, .int .i64 a2), (11, pv55), (93, .bool true), (95, undef), (103, undef)]) (by kernel_rfl) ?_
                        refine WD.skip (i := 13) (by kernel_rfl) (by kernel_rfl) ?_
                        refine WD.weaken [0, 2, 11, 93, 104] (L' := [(0, .slice A0 l0.length c0), (2, .int .i64 a2), (11, pv55), (93, .bool true), (104, undef)]) (by kernel_rfl) ?_
                        refine WD.pure (i := 14) (v := .bool true) (by kernel_rfl) (by kernel_rfl) (fun _ => by kernel_rfl) ?_
                        refine WD.weaken [0, 2, 11, 105] (L' := [(0, .slice A0 l0.length c0), (2, .int .i64 a2), (11, pv55), (105, .bool true)]) (by kernel_rfl) ?_
                        refine WD.nil (by kernel_rfl) ?_
                        refine At.go ?_
                        refine WC.condT (by kernel_rfl) (by kernel_rfl) (by kernel_rfl) ?_
                        refine WC.seq (by kernel_rfl) ?_
                        refine WC.reg [0] (by kernel_rfl) (by kernel_rfl) ?_
                        refine WR.runk [0] [] [6] (L' := [(6, .bool false)]) (w' := w112) (by kernel_rfl) ?_
                        refine WR.nil ?_
                        refine At.go ?_
                        refine WC.ret (by kernel_rfl) ?_
                        refine At.thenRet ?_
                        obtain rfl := Option.some.inj H
                        have hS : Sat w112 (rf w0) [] := hS.sel [] (by kernel_rfl)
                        exact At.body [.bool false] (by kernel_rfl) ⟨_, rfl, rfl, hS⟩
                      · replace H := ite_f H hb114
                        refine WD.weaken [0, 1, 2, 7, 11, 13, 93] (L' := [(0, .slice A0 l0.length c0), (1, .int .i64 a1), (2, .int .i64 a2), (7, .slice A30 r21.1.length c31), (11, pv55), (13, .slice A97 r88.1.length c98), (93, .bool false)]) (by kernel_rfl) ?_
                        refine WD.pure (i := 3) (v := .slice A97 r88.1.length c98) (by kernel_rfl) (by kernel_rfl) (fun _ => by kernel_rfl) ?_
                        refine WD.weaken [0, 1, 2, 7, 11, 93, 94] (L' := [(0, .slice A0 l0.length c0), (1, .int .i64 a1), (2, .int .i64 a2), (7, .slice A30 r21.1.length c31), (11, pv55), (93, .bool false), (94, .slice A97 r88.1.length c98)]) (by kernel_rfl) ?_
                        refine WD.ofR (i := 4) (by kernel_rfl) (RSt.toStr (src := 22) (dst := 9) (e := 5) (.tmp 94) (by kernel_rfl) (by kernel_rfl) (by kernel_rfl) (by kernel_rfl) (by kernel_rfl) (by kernel_rfl) (Sat.rdAt 0 hS rfl) ?_)
                        refine WD.weaken [0, 1, 2, 7, 11, 93, 95] (L' := [(0, .slice A0 l0.length c0), (1, .int .i64 a1), (2, .int .i64 a2), (7, .slice A30 r21.1.length c31), (11, pv55), (93, .bool false), (95, .string (bs r88.1))]) (by kernel_rfl) ?_
                        refine WD.pure (i := 5) (v := .slice A30 r21.1.length c31) (by kernel_rfl) (by kernel_rfl) (fun _ => by kernel_rfl) ?_
                        refine WD.weaken [0, 1, 2, 11, 93, 95, 96] (L' := [(0, .slice A0 l0.length c0), (1, .int .i64 a1), (2, .int .i64 a2), (11, pv55), (93, .bool false), (95, .string (bs r88.1)), (96, .slice A30 r21.1.length c31)]) (by kernel_rfl) ?_
                        refine WD.pure (i := 6) (v := .int .i64 a1) (by kernel_rfl) (by kernel_rfl) (fun _ => by kernel_rfl) ?_
                        refine WD.weaken [0, 1, 2, 11, 93, 95, 96, 97] (L' := [(0, .slice A0 l0.length c0), (1, .int .i64 a1), (2, .int .i64 a2), (11, pv55), (93, .bool false), (95, .string (bs r88.1)), (96, .slice A30 r21.1.length c31), (97, .int .i64 a1)]) (by kernel_rfl) ?_
                        refine WD.pure (i := 7) (v := .int .i64 (wi (264 * a1))) (by kernel_rfl) (by kernel_rfl) (fun _ => by kernel_rfl) ?_
                        refine WD.weaken [0, 1, 2, 11, 93, 95, 96, 98] (L' := [(0, .slice A0 l0.length c0), (1, .int .i64 a1), (2, .int .i64 a2), (11, pv55), (93, .bool false), (95, .string (bs r88.1)), (96, .slice A30 r21.1.length c31), (98, .int .i64 (wi (264 * a1)))]) (by kernel_rfl) ?_
                        refine WD.pure (i := 8) (v := .int .i64 a1) (by kernel_rfl) (by kernel_rfl) (fun _ => by kernel_rfl) ?_
                        refine WD.weaken [0, 2, 11, 93, 95, 96, 98, 99] (L' := [(0, .slice A0 l0.length c0), (2, .int .i64 a2), (11, pv55), (93, .bool false), (95, .string (bs r88.1)), (96, .slice A30 r21.1.length c31), (98, .int .i64 (wi (264 * a1))), (99, .int .i64 a1)]) (by kernel_rfl) ?_
                        refine WD.pure (i := 9) (v := .int .i64 (wi (264 * a1))) (by kernel_rfl) (by kernel_rfl) (fun _ => by kernel_rfl) ?_
                        refine WD.weaken [0, 2, 11, 93, 95, 96, 98, 100] (L' := [(0, .slice A0 l0.length c0), (2, .int .i64 a2), (11, pv55), (93, .bool false), (95, .string (bs r88.1)), (96, .slice A30 r21.1.length c31), (98, .int .i64 (wi (264 * a1))), (100, .int .i64 (wi (264 * a1)))]) (by kernel_rfl) ?_
                        refine WD.pure (i := 10) (v := .int .i64 (wi ((wi (264 * a1)) + 256))) (by kernel_rfl) (by kernel_rfl) (fun _ => by kernel_rfl) ?_
                        refine WD.weaken [0, 2, 11, 93, 95, 96, 98, 101] (L' := [(0, .slice A0 l0.length c0), (2, .int .i64 a2), (11, pv55), (93, .bool false), (95, .string (bs r88.1)), (96, .slice A30 r21.1.length c31), (98, .int .i64 (wi (264 * a1))), (101, .int .i64 (wi ((wi (264 * a1)) + 256)))]) (by kernel_rfl) ?_
                        obtain ⟨y115, e116, H⟩ := bind_ex H
                        refine WD.ofP (i := 11) (by kernel_rfl) (PSt.sub (A := A30) (c := c31) (.tmp 96) (some (.tmp 98)) (some (.tmp 101)) none (by kernel_rfl) (by kernel_rfl) E22 (by kernel_rfl) (Sat.rdAt 4 hS rfl).1 e116 (Exists.intro IntKind.i64 (by kernel_rfl)) (Exists.intro IntKind.i64 (by kernel_rfl)) trivial (fun A117 c118 T119 => ?_))
                        refine WD.weaken [0, 2, 11, 93, 95, 102] (L' := [(0, .slice A0 l0.length c0), (2, .int .i64 a2), (11, pv55), (93, .bool false), (95, .string (bs r88.1)), (102, .slice A117 y115.length c118)]) (by kernel_rfl) ?_
                        refine WD.ofR (i := 12) (by kernel_rfl) (RSt.toStr (src := 22) (dst := 9) (e := 5) (.tmp 102) (by kernel_rfl) (by kernel_rfl) (by kernel_rfl) (by kernel_rfl) (by kernel_rfl) (by kernel_rfl) (T119.rd _ _ (Sat.rdAt 4 hS rfl)) ?_)
                        refine WD.weaken [0, 2, 11, 93, 95, 103] (L' := [(0, .slice A0 l0.length c0), (2, .int .i64 a2), (11, pv55), (93, .bool false), (95, .string (bs r88.1)), (103, .string (bs y115))]) (by kernel_rfl) ?_
                        refine WD.pure (i := 13) (v := .bool (!((bs r88.1).toList == (bs y115).toList))) (by kernel_rfl) (by kernel_rfl) (fun _ => by kernel_rfl) ?_
                        refine WD.weaken [0, 2, 11, 93, 104] (L' := [(0, .slice A0 l0.length c0), (2, .int .i64 a2), (11, pv55), (93, .bool false), (104, .bool (!((bs r88.1).toList == (bs y115).toList)))]) (by kernel_rfl) ?_
                        refine WD.pure (i := 14) (v := .bool (!((bs r88.1).toList == (bs y115).toList))) (by kernel_rfl) (by kernel_rfl) (fun _ => by kernel_rfl) ?_
                        refine WD.weaken [0, 2, 11, 105] (L' := [(0, .slice A0 l0.length c0), (2, .int .i64 a2), (11, pv55), (105, .bool (!((bs r88.1).toList == (bs y115).toList)))]) (by kernel_rfl) ?_
                        refine WD.nil (by kernel_rfl) ?_
                        refine At.go ?_
                        refine WC.cond (by kernel_rfl) (!((bs r88.1).toList == (bs y115).toList)) (by kernel_rfl) (by kernel_rfl) (fun hb120 => ?_) (fun hb120 => ?_)
                        · replace H := ite_t H hb120
                          refine WC.seq (by kernel_rfl) ?_
                          refine WC.reg [0] (by kernel_rfl) (by kernel_rfl) ?_
                          refine WR.runk [0] [] [6] (L' := [(6, .bool false)]) (w' := w112) (by kernel_rfl) ?_
                          refine WR.nil ?_
                          refine At.go ?_
                          refine WC.ret (by kernel_rfl) ?_
                          refine At.thenRet ?_
                          obtain rfl := Option.some.inj H
                          have hS : Sat w112 (rf w0) [] := hS.sel [] (by kernel_rfl)
                          exact At.body [.bool false] (by kernel_rfl) ⟨_, rfl, rfl, hS⟩
                        · replace H := ite_f H hb120
                          refine WC.skip (by kernel_rfl) ?_
                          refine At.go ?_
                          refine WC.seq (by kernel_rfl) ?_
                          refine WC.reg [0] (by kernel_rfl) (by kernel_rfl) ?_
                          refine WR.runk [0] [] [0, 2, 11, 15] (L' := [(0, .slice A0 l0.length c0), (2, .int .i64 a2), (11, pv55), (15, .int .i64 1)]) (w' := w112) (by kernel_rfl) ?_
                          refine WR.nil ?_
                          refine At.go ?_
                          refine WC.seq (by kernel_rfl) ?_
                          refine WC.seq (by kernel_rfl) ?_
                          refine WC.reg [0, 1, 2] (by kernel_rfl) (by kernel_rfl) ?_
                          refine WR.runk [0, 1, 2] [] [0, 2, 11, 15, 106, 107, 108] (L' := [(0, .slice A0 l0.length c0), (2, .int .i64 a2), (11, pv55), (15, .int .i64 1), (106, .slice A0 l0.length c0), (107, .int .i64 (l0.length : Int)), (108, .int .i64 0)]) (w' := w112) (by kernel_rfl) ?_
                          refine WR.nil ?_
                          refine At.go ?_
                          refine WC.block (by kernel_rfl) ?_
                          have hS : Sat w112 (rf w0) [optP O52 pv55 r46.1, osl 5 (r0 (.int .u8)) 1 A97 c98 r88.1, orw 22 (Esl 5 (.int .u8)) 1 A66 c67 r57, osl 5 (r0 (.int .u8)) 1 A41 c42 r32.1, osl 5 (r0 (.int .u8)) 1 A30 c31 r21.1] := hS.sel [2, 0, 1, 3, 4] (by kernel_rfl)
                          obtain ⟨y121, hr122, H⟩ := bind_ex H
                          obtain ⟨b124, hv123, hN227⟩ := optP.some hS hr122
                          subst hv123
                          have hS : Sat w112 (rf w0) [O52 b124 y121, osl 5 (r0 (.int .u8)) 1 A97 c98 r88.1, orw 22 (Esl 5 (.int .u8)) 1 A66 c67 r57, osl 5 (r0 (.int .u8)) 1 A41 c42 r32.1, osl 5 (r0 (.int .u8)) 1 A30 c31 r21.1] := hN227
                          have hS : Sat w112 (rf w0) [O52 b124 y121] := hS.sel [0] (by kernel_rfl)
                          obtain ⟨o153, e154, H⟩ := bind_ex H
                          refine WC.loop (by kernel_rfl) ?_
                          refine WL.weaken [0, 2, 11, 15, 106, 107, 108] (L' := [(0, .slice A0 l0.length c0), (2, .int .i64 a2), (11, .pointer (some ⟨b124, 0, none⟩)), (15, .int .i64 1), (106, .slice A0 l0.length c0), (107, .int .i64 (l0.length : Int)), (108, .int .i64 0)]) (by kernel_rfl) ?_
                          refine colophonlaw06_ImageBuilds.l1_ok w0 A0 c0 l0 a2 y121 b124 R0 o153 (fun o155 w157 ho158 hS => ?_) (fun o159 w161 ho162 hS => ?_) FU 1 0 _ hS e154
                          · subst ho158
                            dsimp only at H
                            refine At.blockRet ?_
                            refine At.thenRet ?_
                            obtain rfl := Option.some.inj H
                            have hS : Sat w157 (rf w0) [] := hS.sel [] (by kernel_rfl)
                            exact At.body [.bool o155] (by kernel_rfl) ⟨_, rfl, rfl, hS⟩
                          · subst ho162
                            dsimp only at H
                            refine At.hit ?_
                            refine At.go ?_
                            refine WC.seq (by kernel_rfl) ?_
                            refine WC.reg [0, 1, 2, 3, 4, 5, 6, 7, 8, 9, 10, 11, 12, 13, 14, 15, 16, 17, 18, 19, 20, 21, 22, 23, 24, 25, 26, 27] (by kernel_rfl) (by kernel_rfl) ?_
                            refine WR.runk [0, 1, 2] [3, 4, 5, 6, 7, 8, 9, 10, 11, 12, 13, 14, 15, 16, 17, 18, 19, 20, 21, 22, 23, 24, 25, 26, 27] [0, 2, 11, 140] (L' := [(0, .slice A0 l0.length c0), (2, .int .i64 a2), (11, .pointer (some ⟨b124, 0, none⟩)), (140, .bool (decide (a2 ≥ 0)))]) (w' := w161) (by kernel_rfl) ?_
                            refine WR.split 140 (b := decide (a2 ≥ 0)) (by kernel_rfl) (fun hb163 => ?_) (fun hb163 => ?_)
                            · replace H := ite_t H hb163
                              refine WR.runk [3, 4, 5, 6, 7, 8] [9, 10, 11, 12, 13, 14, 15, 16, 17, 18, 19, 20, 21, 22, 23, 24, 25, 26, 27] [2, 11, 146] (L' := [(2, .int .i64 a2), (11, .pointer (some ⟨b124, 0, none⟩)), (146, .bool (decide (a2 < (l0.length : Int))))]) (w' := w161) (by kernel_rfl) ?_
                              refine WR.split 146 (b := decide (a2 < (l0.length : Int))) (by kernel_rfl) (fun hb164 => ?_) (fun hb164 => ?_)
                              · replace H := ite_t H hb164
                                refine WR.runk [9, 10, 11, 12, 13, 14, 15, 16, 17, 18, 19, 20, 21, 22, 23, 24, 25, 26, 27] [] [6] (L' := [(6, .bool true)]) (w' := w161) (by kernel_rfl) ?_
                                refine WR.nil ?_
                                refine At.go ?_
                                refine WC.ret (by kernel_rfl) ?_
                                obtain rfl := Option.some.inj H
                                have hS : Sat w161 (rf w0) [] := hS.sel [] (by kernel_rfl)
                                exact At.body [.bool true] (by kernel_rfl) ⟨_, rfl, rfl, hS⟩
                              · replace H := ite_f H hb164
                                refine WR.runk [9, 10] [11, 12, 13, 14, 15, 16, 17, 18, 19, 20, 21, 22, 23, 24, 25, 26, 27] [2, 11, 146, 147, 148] (L' := [(2, .int .i64 a2), (11, .pointer (some ⟨b124, 0, none⟩)), (146, .bool false), (147, .pointer (some ⟨b124, 0, none⟩)), (148, .int .i64 a2)]) (w' := w161) (by kernel_rfl) ?_
                                obtain ⟨r165, e166, H⟩ := bind_ex H
                                refine WR.st (St.call (by kernel_rfl) (f := 17) (args := #[.pointer (some ⟨b124, 0, none⟩), .int .i64 a2]) (by kernel_rfl) (image_Image_First.calls w161 (.pointer (some ⟨b124, 0, none⟩)) (some y121) (Sat.rdAny 0 hS rfl (fun _ h => O52.rd _ _ _ h)) a2 r165 e166) ?_)
                                rintro _ w172 ⟨rfl, hS173⟩
                                have hS : Sat w172 (rf w0) [O52 b124 y121] := hS.ext hS173
                                refine WR.runk [12, 13] [14, 15, 16, 17, 18, 19, 20, 21, 22, 23, 24, 25, 26, 27] [2, 11, 146, 151] (L' := [(2, .int .i64 a2), (11, .pointer (some ⟨b124, 0, none⟩)), (146, .bool false), (151, .bool (r165 == 0))]) (w' := w172) (by kernel_rfl) ?_
                                refine WR.split 151 (b := (r165 == 0)) (by kernel_rfl) (fun hb174 => ?_) (fun hb174 => ?_)
                                · replace H := ite_t H hb174
                                  refine WR.runk [14, 15] [16, 17, 18, 19, 20, 21, 22, 23, 24, 25, 26, 27] [2, 11, 146, 151, 152, 153] (L' := [(2, .int .i64 a2), (11, .pointer (some ⟨b124, 0, none⟩)), (146, .bool false), (151, .bool true), (152, .pointer (some ⟨b124, 0, none⟩)), (153, .int .i64 a2)]) (w' := w172) (by kernel_rfl) ?_
                                  obtain ⟨r175, e176, H⟩ := bind_ex H
                                  refine WR.st (St.call (by kernel_rfl) (f := 18) (args := #[.pointer (some ⟨b124, 0, none⟩), .int .i64 a2]) (by kernel_rfl) (image_Image_Size.calls w172 (.pointer (some ⟨b124, 0, none⟩)) (some y121) (Sat.rdAny 0 hS rfl (fun _ h => O52.rd _ _ _ h)) a2 r175 e176) ?_)
                                  rintro _ w182 ⟨rfl, hS183⟩
                                  have hS : Sat w182 (rf w0) [O52 b124 y121] := hS.ext hS183
                                  refine WR.runk [17, 18, 19] [20, 21, 22, 23, 24, 25, 26, 27] [2, 11, 146, 157] (L' := [(2, .int .i64 a2), (11, .pointer (some ⟨b124, 0, none⟩)), (146, .bool false), (157, .bool (r175 == 0))]) (w' := w182) (by kernel_rfl) ?_
                                  refine WR.split 157 (b := (r175 == 0)) (by kernel_rfl) (fun hb184 => ?_) (fun hb184 => ?_)
                                  · replace H := ite_t H hb184
                                    refine WR.runk [20, 21] [22, 23, 24, 25, 26, 27] [146, 157, 158, 159] (L' := [(146, .bool false), (157, .bool true), (158, .pointer (some ⟨b124, 0, none⟩)), (159, .int .i64 a2)]) (w' := w182) (by kernel_rfl) ?_
                                    obtain ⟨r185, e186, H⟩ := bind_ex H
                                    refine WR.st (St.call (by kernel_rfl) (f := 22) (args := #[.pointer (some ⟨b124, 0, none⟩), .int .i64 a2]) (by kernel_rfl) (image_Image_Section.calls w182 (.pointer (some ⟨b124, 0, none⟩)) (some y121) (Sat.rdAny 0 hS rfl (fun _ h => O52.rd _ _ _ h)) a2 r185 e186) ?_)
                                    rintro _ w192 ⟨A194, c195, rfl, hS193⟩
                                    have hS : Sat w192 (rf w0) [osl 5 (r0 (.int .u8)) 1 A194 c195 r185, O52 b124 y121] := hS.ext hS193
                                    refine WR.runk [23, 24, 25, 26, 27] [] [6] (L' := [(6, .bool ((r185.length : Int) == 0))]) (w' := w192) (by kernel_rfl) ?_
                                    refine WR.nil ?_
                                    refine At.go ?_
                                    refine WC.ret (by kernel_rfl) ?_
                                    obtain rfl := Option.some.inj H
                                    have hS : Sat w192 (rf w0) [] := hS.sel [] (by kernel_rfl)
                                    exact At.body [.bool ((r185.length : Int) == 0)] (by kernel_rfl) ⟨_, rfl, rfl, hS⟩
                                  · replace H := ite_f H hb184
                                    refine WR.runk [20, 21, 22, 23, 24, 25, 26, 27] [] [6] (L' := [(6, .bool false)]) (w' := w182) (by kernel_rfl) ?_
                                    refine WR.nil ?_
                                    refine At.go ?_
                                    refine WC.ret (by kernel_rfl) ?_
                                    obtain rfl := Option.some.inj H
                                    have hS : Sat w182 (rf w0) [] := hS.sel [] (by kernel_rfl)
                                    exact At.body [.bool false] (by kernel_rfl) ⟨_, rfl, rfl, hS⟩
                                · replace H := ite_f H hb174
                                  refine WR.runk [14, 15, 16, 17, 18, 19, 20, 21, 22, 23, 24, 25, 26, 27] [] [6] (L' := [(6, .bool false)]) (w' := w172) (by kernel_rfl) ?_
                                  refine WR.nil ?_
                                  refine At.go ?_
                                  refine WC.ret (by kernel_rfl) ?_
                                  obtain rfl := Option.some.inj H
                                  have hS : Sat w172 (rf w0) [] := hS.sel [] (by kernel_rfl)
                                  exact At.body [.bool false] (by kernel_rfl) ⟨_, rfl, rfl, hS⟩
                            · replace H := ite_f H hb163
                              refine WR.runk [3, 4, 5, 6, 7, 8, 9, 10] [11, 12, 13, 14, 15, 16, 17, 18, 19, 20, 21, 22, 23, 24, 25, 26, 27] [2, 11, 146, 147, 148] (L' := [(2, .int .i64 a2), (11, .pointer (some ⟨b124, 0, none⟩)), (146, .bool false), (147, .pointer (some ⟨b124, 0, none⟩)), (148, .int .i64 a2)]) (w' := w161) (by kernel_rfl) ?_
                              obtain ⟨r196, e197, H⟩ := bind_ex H
                              refine WR.st (St.call (by kernel_rfl) (f := 17) (args := #[.pointer (some ⟨b124, 0, none⟩), .int .i64 a2]) (by kernel_rfl) (image_Image_First.calls w161 (.pointer (some ⟨b124, 0, none⟩)) (some y121) (Sat.rdAny 0 hS rfl (fun _ h => O52.rd _ _ _ h)) a2 r196 e197) ?_)
                              rintro _ w203 ⟨rfl, hS204⟩
                              have hS : Sat w203 (rf w0) [O52 b124 y121] := hS.ext hS204
                              refine WR.runk [12, 13] [14, 15, 16, 17, 18, 19, 20, 21, 22, 23, 24, 25, 26, 27] [2, 11, 146, 151] (L' := [(2, .int .i64 a2), (11, .pointer (some ⟨b124, 0, none⟩)), (146, .bool false), (151, .bool (r196 == 0))]) (w' := w203) (by kernel_rfl) ?_
                              refine WR.split 151 (b := (r196 == 0)) (by kernel_rfl) (fun hb205 => ?_) (fun hb205 => ?_)
                              · replace H := ite_t H hb205
                                refine WR.runk [14, 15] [16, 17, 18, 19, 20, 21, 22, 23, 24, 25, 26, 27] [2, 11, 146, 151, 152, 153] (L' := [(2, .int .i64 a2), (11, .pointer (some ⟨b124, 0, none⟩)), (146, .bool false), (151, .bool true), (152, .pointer (some ⟨b124, 0, none⟩)), (153, .int .i64 a2)]) (w' := w203) (by kernel_rfl) ?_
                                obtain ⟨r206, e207, H⟩ := bind_ex H
                                refine WR.st (St.call (by kernel_rfl) (f := 18) (args := #[.pointer (some ⟨b124, 0, none⟩), .int .i64 a2]) (by kernel_rfl) (image_Image_Size.calls w203 (.pointer (some ⟨b124, 0, none⟩)) (some y121) (Sat.rdAny 0 hS rfl (fun _ h => O52.rd _ _ _ h)) a2 r206 e207) ?_)
                                rintro _ w213 ⟨rfl, hS214⟩
                                have hS : Sat w213 (rf w0) [O52 b124 y121] := hS.ext hS214
                                refine WR.runk [17, 18, 19] [20, 21, 22, 23, 24, 25, 26, 27] [2, 11, 146, 157] (L' := [(2, .int .i64 a2), (11, .pointer (some ⟨b124, 0, none⟩)), (146, .bool false), (157, .bool (r206 == 0))]) (w' := w213) (by kernel_rfl) ?_
                                refine WR.split 157 (b := (r206 == 0)) (by kernel_rfl) (fun hb215 => ?_) (fun hb215 => ?_)
                                · replace H := ite_t H hb215
                                  refine WR.runk [20, 21] [22, 23, 24, 25, 26, 27] [146, 157, 158, 159] (L' := [(146, .bool false), (157, .bool true), (158, .pointer (some ⟨b124, 0, none⟩)), (159, .int .i64 a2)]) (w' := w213) (by kernel_rfl) ?_
                                  obtain ⟨r216, e217, H⟩ := bind_ex H
                                  refine WR.st (St.call (by kernel_rfl) (f := 22) (args := #[.pointer (some ⟨b124, 0, none⟩), .int .i64 a2]) (by kernel_rfl) (image_Image_Section.calls w213 (.pointer (some ⟨b124, 0, none⟩)) (some y121) (Sat.rdAny 0 hS rfl (fun _ h => O52.rd _ _ _ h)) a2 r216 e217) ?_)
                                  rintro _ w223 ⟨A225, c226, rfl, hS224⟩
                                  have hS : Sat w223 (rf w0) [osl 5 (r0 (.int .u8)) 1 A225 c226 r216, O52 b124 y121] := hS.ext hS224
                                  refine WR.runk [23, 24, 25, 26, 27] [] [6] (L' := [(6, .bool ((r216.length : Int) == 0))]) (w' := w223) (by kernel_rfl) ?_
                                  refine WR.nil ?_
                                  refine At.go ?_
                                  refine WC.ret (by kernel_rfl) ?_
                                  obtain rfl := Option.some.inj H
                                  have hS : Sat w223 (rf w0) [] := hS.sel [] (by kernel_rfl)
                                  exact At.body [.bool ((r216.length : Int) == 0)] (by kernel_rfl) ⟨_, rfl, rfl, hS⟩
                                · replace H := ite_f H hb215
                                  refine WR.runk [20, 21, 22, 23, 24, 25, 26, 27] [] [6] (L' := [(6, .bool false)]) (w' := w213) (by kernel_rfl) ?_
                                  refine WR.nil ?_
                                  refine At.go ?_
                                  refine WC.ret (by kernel_rfl) ?_
                                  obtain rfl := Option.some.inj H
                                  have hS : Sat w213 (rf w0) [] := hS.sel [] (by kernel_rfl)
                                  exact At.body [.bool false] (by kernel_rfl) ⟨_, rfl, rfl, hS⟩
                              · replace H := ite_f H hb205
                                refine WR.runk [14, 15, 16, 17, 18, 19, 20, 21, 22, 23, 24, 25, 26, 27] [] [6] (L' := [(6, .bool false)]) (w' := w203) (by kernel_rfl) ?_
                                refine WR.nil ?_
                                refine At.go ?_
                                refine WC.ret (by kernel_rfl) ?_
                                obtain rfl := Option.some.inj H
                                have hS : Sat w203 (rf w0) [] := hS.sel [] (by kernel_rfl)
                                exact At.body [.bool false] (by kernel_rfl) ⟨_, rfl, rfl, hS⟩
end Go.Proofs.Ytejjdfnelalnoaa
