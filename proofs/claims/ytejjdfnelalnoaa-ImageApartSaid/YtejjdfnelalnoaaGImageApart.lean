/-
  Printed by gen.py (my own tool): for each Go function a plain Lean function and the proof that a call of it does what that function says.
-/
import Derived.Test.YtejjdfnelalnoaaGP1c
set_option linter.unusedVariables false
set_option linter.unusedSimpArgs false
set_option maxRecDepth 100000
namespace Go.Proofs.Ytejjdfnelalnoaa
open Go Go.Gol
/-! ### 5 colophon/colophonlaw06.ImageApart -/
def colophonlaw06_ImageApart.l2 (y85 : (List (List Int)) × (List Int) × (List Int)) (x53_l1 : Int) : Nat → Int → Option Int
  | 0, _ => none
  | k + 1, x11_l2 => ((image_Image_First.f (some y85) x53_l1).bind fun r101 => ((image_Image_Size.f (some y85) x53_l1).bind fun r110 => (if decide (wi (x11_l2 * 256) < wi ((wi (256 * r101)) + r110)) then colophonlaw06_ImageApart.l2 y85 x53_l1 k (wi (x11_l2 + 1)) else some x11_l2)))
def colophonlaw06_ImageApart.l1 (l1 : List (List Int)) (r76 : Int) (y85 : (List (List Int)) × (List Int) × (List Int)) : Nat → Int → Int → Option (Sum Bool Int)
  | 0, _, _ => none
  | k + 1, x11_l1, x53_l1 => (if decide (x53_l1 < r76) then ((image_Image_First.f (some y85) x53_l1).bind fun r91 => (if (r91 != x11_l1) then some (.inl false) else ((colophonlaw06_ImageApart.l2 y85 x53_l1 FU x11_l1).bind fun o120 => colophonlaw06_ImageApart.l1 l1 r76 y85 k o120 (wi (x53_l1 + 1))))) else some (.inr x11_l1))
def colophonlaw06_ImageApart.f (l0 : List (List Int)) (l1 : List (List Int)) : Option Bool := (colophonlaw06_first.f.bind fun r1 => (if (!r1) then some false else ((colophonref06_Size.f l0).bind fun r11 => ((colophonref06_Size.f l1).bind fun r20 => (if decide (imax r11 r20 > 50000) then some true else ((image_Build.f l0).bind fun r30 => ((image_Build.f l1).bind fun r41 => (if (r30.2 != 0) then some true else (if (r41.2 != 0) then some true else ((colophonref06_Same.f l0 l1).bind fun r56 => (if (((bs r30.1).toList == (bs r41.1).toList) != r56) then some false else ((image_Open.f r30.1).bind fun r66 => ((image_Image_Sections.f r66.1).bind fun r76 => (r66.1.bind fun y85 => ((colophonlaw06_ImageApart.l1 l1 r76 y85 FU 1 0).bind fun o125 => (match o125 with | .inl o127 => some o127 | .inr o131 => ((image_Image_Pages.f (some y85)).bind fun r135 => some (o131 == r135))))))))))))))))))
def colophonlaw06_ImageApart.post (w : World) (r : Bool) (v : Value) (w' : World) : Prop := v = (.bool r : Value) ∧ Sat w' (rf w) []
theorem colophonlaw06_ImageApart.l2_ok {Q} (w0 : World) (r76 : Int) (y85 : (List (List Int)) × (List Int) × (List Int)) (b88 : Nat) (x53_l1 : Int) (out : Int) (hn0 : ∀ (w : World), Sat w (rf w0) [O52 b88 y85] → At Q (.exit 2) 79 [(9, .pointer (some ⟨b88, 0, none⟩)), (11, .int .i64 out), (52, .int .i64 r76), (53, .int .i64 x53_l1)] w) :
    ∀ (k : Nat) (x11_l2 : Int) (w : World), Sat w (rf w0) [O52 b88 y85] → colophonlaw06_ImageApart.l2 y85 x53_l1 k x11_l2 = some out → WL Try.prog (cbody (cbody (cr (cr (cbody (cl (cr (cr (cbody (cbody (cr (cl (cr (cr (cr (cr (cr (cr (cr (cr (cr C5))))))))))))))))))))) Q 79 [(9, .pointer (some ⟨b88, 0, none⟩)), (11, .int .i64 x11_l2), (12, .int .i64 x53_l1), (52, .int .i64 r76), (53, .int .i64 x53_l1)] w := by
  intro k
  induction k with
  | zero => intro x11_l2 w hS H; exact absurd (show none = some out from H) (by simp)
  | succ k ih =>
    intro x11_l2 w hS H
    unfold colophonlaw06_ImageApart.l2 at H
    refine WL.round ?_
    refine WC.seq (by kernel_rfl) ?_
    refine WC.seq (by kernel_rfl) ?_
    refine WC.reg [0, 1, 2, 3, 4, 5, 6, 7, 8, 9, 10] (by kernel_rfl) (by kernel_rfl) ?_
    refine WR.runk [0, 1, 2, 3] [4, 5, 6, 7, 8, 9, 10] [9, 11, 12, 52, 53, 62, 63, 64] (L' := [(9, .pointer (some ⟨b88, 0, none⟩)), (11, .int .i64 x11_l2), (12, .int .i64 x53_l1), (52, .int .i64 r76), (53, .int .i64 x53_l1), (62, .int .i64 (wi (x11_l2 * 256))), (63, .pointer (some ⟨b88, 0, none⟩)), (64, .int .i64 x53_l1)]) (w' := w) (by kernel_rfl) ?_
    obtain ⟨r101, e102, H⟩ := bind_ex H
    refine WR.st (St.call (by kernel_rfl) (f := 17) (args := #[.pointer (some ⟨b88, 0, none⟩), .int .i64 x53_l1]) (by kernel_rfl) (image_Image_First.calls w (.pointer (some ⟨b88, 0, none⟩)) (some y85) (Sat.rdAny 0 hS rfl (fun _ h => O52.rd _ _ _ h)) x53_l1 r101 e102) ?_)
    rintro _ w108 ⟨rfl, hS109⟩
    have hS : Sat w108 (rf w0) [O52 b88 y85] := hS.ext hS109
    refine WR.runk [5, 6, 7] [8, 9, 10] [9, 11, 12, 52, 53, 62, 66, 67, 68] (L' := [(9, .pointer (some ⟨b88, 0, none⟩)), (11, .int .i64 x11_l2), (12, .int .i64 x53_l1), (52, .int .i64 r76), (53, .int .i64 x53_l1), (62, .int .i64 (wi (x11_l2 * 256))), (66, .int .i64 (wi (256 * r101))), (67, .pointer (some ⟨b88, 0, none⟩)), (68, .int .i64 x53_l1)]) (w' := w108) (by kernel_rfl) ?_
    obtain ⟨r110, e111, H⟩ := bind_ex H
    refine WR.st (St.call (by kernel_rfl) (f := 18) (args := #[.pointer (some ⟨b88, 0, none⟩), .int .i64 x53_l1]) (by kernel_rfl) (image_Image_Size.calls w108 (.pointer (some ⟨b88, 0, none⟩)) (some y85) (Sat.rdAny 0 hS rfl (fun _ h => O52.rd _ _ _ h)) x53_l1 r110 e111) ?_)
    rintro _ w117 ⟨rfl, hS118⟩
    have hS : Sat w117 (rf w0) [O52 b88 y85] := hS.ext hS118
    refine WR.runk [9, 10] [] [9, 11, 12, 52, 53, 71] (L' := [(9, .pointer (some ⟨b88, 0, none⟩)), (11, .int .i64 x11_l2), (12, .int .i64 x53_l1), (52, .int .i64 r76), (53, .int .i64 x53_l1), (71, .bool (decide (wi (x11_l2 * 256) < wi ((wi (256 * r101)) + r110))))]) (w' := w117) (by kernel_rfl) ?_
    refine WR.nil ?_
    refine At.go ?_
    refine WC.cond (by kernel_rfl) (decide (wi (x11_l2 * 256) < wi ((wi (256 * r101)) + r110))) (by kernel_rfl) (by kernel_rfl) (fun hb119 => ?_) (fun hb119 => ?_)
    · replace H := ite_t H hb119
      refine WC.skip (by kernel_rfl) ?_
      refine At.go ?_
      refine WC.block (by kernel_rfl) ?_
      refine WC.reg [0, 1, 2] (by kernel_rfl) (by kernel_rfl) ?_
      refine WR.runk [0, 1, 2] [] [9, 11, 12, 52, 53] (L' := [(9, .pointer (some ⟨b88, 0, none⟩)), (11, .int .i64 (wi (x11_l2 + 1))), (12, .int .i64 x53_l1), (52, .int .i64 r76), (53, .int .i64 x53_l1)]) (w' := w117) (by kernel_rfl) ?_
      refine WR.nil ?_
      refine At.blockNormal ?_
      have hS : Sat w117 (rf w0) [O52 b88 y85] := hS.sel [0] (by kernel_rfl)
      refine At.again ?_
      refine WL.weaken [9, 11, 12, 52, 53] (L' := [(9, .pointer (some ⟨b88, 0, none⟩)), (11, .int .i64 (wi (x11_l2 + 1))), (12, .int .i64 x53_l1), (52, .int .i64 r76), (53, .int .i64 x53_l1)]) (by kernel_rfl) ?_
      exact ih (wi (x11_l2 + 1)) _ hS H
    · replace H := ite_f H hb119
      refine WC.exit (by kernel_rfl) ?_
      refine At.thenExit ?_
      refine At.thenExit ?_
      obtain rfl := Option.some.inj H
      have hS : Sat w117 (rf w0) [O52 b88 y85] := hS.sel [0] (by kernel_rfl)
      refine At.weaken [9, 11, 52, 53] (L' := [(9, .pointer (some ⟨b88, 0, none⟩)), (11, .int .i64 x11_l2), (52, .int .i64 r76), (53, .int .i64 x53_l1)]) (by kernel_rfl) ?_
      exact hn0 _ hS
theorem colophonlaw06_ImageApart.l1_ok {Q} (w0 : World) (l1 : List (List Int)) (r76 : Int) (y85 : (List (List Int)) × (List Int) × (List Int)) (b88 : Nat) (out : Sum Bool Int) (hn0 : ∀ (o0 : Bool) (w : World), out = (.inl o0) → Sat w (rf w0) [O52 b88 y85] → At Q .ret 79 [(4, .bool o0)] w) (hn1 : ∀ (o1 : Int) (w : World), out = (.inr o1) → Sat w (rf w0) [O52 b88 y85] → At Q (.exit 0) 79 [(9, .pointer (some ⟨b88, 0, none⟩)), (11, .int .i64 o1)] w) :
    ∀ (k : Nat) (x11_l1 : Int) (x53_l1 : Int) (w : World), Sat w (rf w0) [O52 b88 y85] → colophonlaw06_ImageApart.l1 l1 r76 y85 k x11_l1 x53_l1 = some out → WL Try.prog (cbody (cbody (cr (cl (cr (cr (cr (cr (cr (cr (cr (cr (cr C5))))))))))))) Q 79 [(9, .pointer (some ⟨b88, 0, none⟩)), (11, .int .i64 x11_l1), (52, .int .i64 r76), (53, .int .i64 x53_l1)] w := by
  intro k
  induction k with
  | zero => intro x11_l1 x53_l1 w hS H; exact absurd (show none = some out from H) (by simp)
  | succ k ih =>
    intro x11_l1 x53_l1 w hS H
    unfold colophonlaw06_ImageApart.l1 at H
    refine WL.round ?_
    refine WC.seq (by kernel_rfl) ?_
    refine WC.reg [0] (by kernel_rfl) (by kernel_rfl) ?_
    refine WR.runk [0] [] [9, 11, 52, 53, 54] (L' := [(9, .pointer (some ⟨b88, 0, none⟩)), (11, .int .i64 x11_l1), (52, .int .i64 r76), (53, .int .i64 x53_l1), (54, .bool (decide (x53_l1 < r76)))]) (w' := w) (by kernel_rfl) ?_
    refine WR.nil ?_
    refine At.go ?_
    refine WC.seq (by kernel_rfl) ?_
    refine WC.cond (by kernel_rfl) (decide (x53_l1 < r76)) (by kernel_rfl) (by kernel_rfl) (fun hb90 => ?_) (fun hb90 => ?_)
    · replace H := ite_t H hb90
      refine WC.skip (by kernel_rfl) ?_
      refine At.go ?_
      refine WC.seq (by kernel_rfl) ?_
      refine WC.block (by kernel_rfl) ?_
      refine WC.seq (by kernel_rfl) ?_
      refine WC.reg [0, 1] (by kernel_rfl) (by kernel_rfl) ?_
      refine WR.runk [0, 1] [] [9, 11, 12, 52, 53] (L' := [(9, .pointer (some ⟨b88, 0, none⟩)), (11, .int .i64 x11_l1), (12, .int .i64 x53_l1), (52, .int .i64 r76), (53, .int .i64 x53_l1)]) (w' := w) (by kernel_rfl) ?_
      refine WR.nil ?_
      refine At.go ?_
      refine WC.seq (by kernel_rfl) ?_
      refine WC.seq (by kernel_rfl) ?_
      refine WC.reg [0, 1, 2, 3, 4] (by kernel_rfl) (by kernel_rfl) ?_
      refine WR.runk [0, 1] [2, 3, 4] [9, 11, 12, 52, 53, 56, 57] (L' := [(9, .pointer (some ⟨b88, 0, none⟩)), (11, .int .i64 x11_l1), (12, .int .i64 x53_l1), (52, .int .i64 r76), (53, .int .i64 x53_l1), (56, .pointer (some ⟨b88, 0, none⟩)), (57, .int .i64 x53_l1)]) (w' := w) (by kernel_rfl) ?_
      obtain ⟨r91, e92, H⟩ := bind_ex H
      refine WR.st (St.call (by kernel_rfl) (f := 17) (args := #[.pointer (some ⟨b88, 0, none⟩), .int .i64 x53_l1]) (by kernel_rfl) (image_Image_First.calls w (.pointer (some ⟨b88, 0, none⟩)) (some y85) (Sat.rdAny 0 hS rfl (fun _ h => O52.rd _ _ _ h)) x53_l1 r91 e92) ?_)
      rintro _ w98 ⟨rfl, hS99⟩
      have hS : Sat w98 (rf w0) [O52 b88 y85] := hS.ext hS99
      refine WR.runk [3, 4] [] [9, 11, 12, 52, 53, 60] (L' := [(9, .pointer (some ⟨b88, 0, none⟩)), (11, .int .i64 x11_l1), (12, .int .i64 x53_l1), (52, .int .i64 r76), (53, .int .i64 x53_l1), (60, .bool (r91 != x11_l1))]) (w' := w98) (by kernel_rfl) ?_
      refine WR.nil ?_
      refine At.go ?_
      refine WC.cond (by kernel_rfl) (r91 != x11_l1) (by kernel_rfl) (by kernel_rfl) (fun hb100 => ?_) (fun hb100 => ?_)
      · replace H := ite_t H hb100
        refine WC.seq (by kernel_rfl) ?_
        refine WC.reg [0] (by kernel_rfl) (by kernel_rfl) ?_
        refine WR.runk [0] [] [4] (L' := [(4, .bool false)]) (w' := w98) (by kernel_rfl) ?_
        refine WR.nil ?_
        refine At.go ?_
        refine WC.ret (by kernel_rfl) ?_
        refine At.thenRet ?_
        refine At.blockRet ?_
        refine At.thenRet ?_
        refine At.thenRet ?_
        obtain rfl := Option.some.inj H
        have hS : Sat w98 (rf w0) [O52 b88 y85] := hS.sel [0] (by kernel_rfl)
        refine At.weaken [4] (L' := [(4, .bool false)]) (by kernel_rfl) ?_
        exact hn0 false _ rfl hS
      · replace H := ite_f H hb100
        refine WC.skip (by kernel_rfl) ?_
        refine At.go ?_
        refine WC.block (by kernel_rfl) ?_
        have hS : Sat w98 (rf w0) [O52 b88 y85] := hS.sel [0] (by kernel_rfl)
        obtain ⟨o120, e121, H⟩ := bind_ex H
        refine WC.loop (by kernel_rfl) ?_
        refine WL.weaken [9, 11, 12, 52, 53] (L' := [(9, .pointer (some ⟨b88, 0, none⟩)), (11, .int .i64 x11_l1), (12, .int .i64 x53_l1), (52, .int .i64 r76), (53, .int .i64 x53_l1)]) (by kernel_rfl) ?_
        refine colophonlaw06_ImageApart.l2_ok w0 r76 y85 b88 x53_l1 o120 (fun w123 hS => ?_) FU x11_l1 _ hS e121
        refine At.hit ?_
        refine At.blockNormal ?_
        refine At.go ?_
        refine WC.reg [0, 1] (by kernel_rfl) (by kernel_rfl) ?_
        refine WR.runk [0, 1] [] [9, 11, 52, 53] (L' := [(9, .pointer (some ⟨b88, 0, none⟩)), (11, .int .i64 o120), (52, .int .i64 r76), (53, .int .i64 (wi (x53_l1 + 1)))]) (w' := w123) (by kernel_rfl) ?_
        refine WR.nil ?_
        have hS : Sat w123 (rf w0) [O52 b88 y85] := hS.sel [0] (by kernel_rfl)
        refine At.again ?_
        refine WL.weaken [9, 11, 52, 53] (L' := [(9, .pointer (some ⟨b88, 0, none⟩)), (11, .int .i64 o120), (52, .int .i64 r76), (53, .int .i64 (wi (x53_l1 + 1)))]) (by kernel_rfl) ?_
        exact ih o120 (wi (x53_l1 + 1)) _ hS H
    · replace H := ite_f H hb90
      refine WC.exit (by kernel_rfl) ?_
      refine At.thenExit ?_
      refine At.thenExit ?_
      obtain rfl := Option.some.inj H
      have hS : Sat w (rf w0) [O52 b88 y85] := hS.sel [0] (by kernel_rfl)
      refine At.weaken [9, 11] (L' := [(9, .pointer (some ⟨b88, 0, none⟩)), (11, .int .i64 x11_l1)]) (by kernel_rfl) ?_
      exact hn1 x11_l1 _ rfl hS
theorem colophonlaw06_ImageApart.calls (w0 : World) (A0 : Option Addr) (c0 : Nat) (l0 : List (List Int)) (R0 : rdS (rd (hp w0) (.slice 5 (.int .u8))) 1 (hp w0) A0 c0 l0) (A1 : Option Addr) (c1 : Nat) (l1 : List (List Int)) (R1 : rdS (rd (hp w0) (.slice 5 (.int .u8))) 1 (hp w0) A1 c1 l1) (r : Bool) (H : colophonlaw06_ImageApart.f l0 l1 = some r) :
    Calls Try.prog 5 #[.slice A0 l0.length c0, .slice A1 l1.length c1] w0 (fun e w' => ∃ v, e = .returned v ∧ colophonlaw06_ImageApart.post w0 r v w') := by
  have hS : Sat w0 (rf w0) [] := Sat.start w0
  unfold colophonlaw06_ImageApart.f at H
  refine calls_of_WC (vs := [.slice A0 l0.length c0, .slice A1 l1.length c1]) Try.func5 (c := C5) (n := 79) (by kernel_rfl) (by kernel_rfl) (by kernel_rfl) ?_
  refine WC.seq (by kernel_rfl) ?_
  refine WC.reg [0] (by kernel_rfl) (by kernel_rfl) ?_
  refine WR.runk [0] [] [0, 1] (L' := [(0, .slice A0 l0.length c0), (1, .slice A1 l1.length c1)]) (w' := w0) (by kernel_rfl) ?_
  refine WR.nil ?_
  refine At.go ?_
  refine WC.seq (by kernel_rfl) ?_
  refine WC.seq (by kernel_rfl) ?_
  refine WC.reg [0, 1] (by kernel_rfl) (by kernel_rfl) ?_
  obtain ⟨r1, e2, H⟩ := bind_ex H
  refine WR.st (St.call (by kernel_rfl) (f := 8) (args := #[]) (by kernel_rfl) (colophonlaw06_first.calls w0  r1 e2) ?_)
  rintro _ w8 ⟨rfl, hS9⟩
  have hS : Sat w8 (rf w0) [] := hS.ext hS9
  refine WR.runk [1] [] [0, 1, 14] (L' := [(0, .slice A0 l0.length c0), (1, .slice A1 l1.length c1), (14, .bool (!r1))]) (w' := w8) (by kernel_rfl) ?_
  refine WR.nil ?_
  refine At.go ?_
  refine WC.cond (by kernel_rfl) (!r1) (by kernel_rfl) (by kernel_rfl) (fun hb10 => ?_) (fun hb10 => ?_)
  · replace H := ite_t H hb10
    refine WC.seq (by kernel_rfl) ?_
    refine WC.reg [0] (by kernel_rfl) (by kernel_rfl) ?_
    refine WR.runk [0] [] [4] (L' := [(4, .bool false)]) (w' := w8) (by kernel_rfl) ?_
    refine WR.nil ?_
    refine At.go ?_
    refine WC.ret (by kernel_rfl) ?_
    refine At.thenRet ?_
    obtain rfl := Option.some.inj H
    have hS : Sat w8 (rf w0) [] := hS.sel [] (by kernel_rfl)
    exact At.body [.bool false] (by kernel_rfl) ⟨_, rfl, rfl, hS⟩
  · replace H := ite_f H hb10
    refine WC.skip (by kernel_rfl) ?_
    refine At.go ?_
    refine WC.seq (by kernel_rfl) ?_
    refine WC.seq (by kernel_rfl) ?_
    refine WC.reg [0, 1, 2, 3, 4, 5] (by kernel_rfl) (by kernel_rfl) ?_
    refine WR.runk [0] [1, 2, 3, 4, 5] [0, 1, 15] (L' := [(0, .slice A0 l0.length c0), (1, .slice A1 l1.length c1), (15, .slice A0 l0.length c0)]) (w' := w8) (by kernel_rfl) ?_
    obtain ⟨r11, e12, H⟩ := bind_ex H
    refine WR.st (St.call (by kernel_rfl) (f := 14) (args := #[.slice A0 l0.length c0]) (by kernel_rfl) (colophonref06_Size.calls w8 A0 c0 l0 (rdS.upd R0 hS.sub0) r11 e12) ?_)
    rintro _ w18 ⟨rfl, hS19⟩
    have hS : Sat w18 (rf w0) [] := hS.ext hS19
    refine WR.runk [2] [3, 4, 5] [0, 1, 16, 17] (L' := [(0, .slice A0 l0.length c0), (1, .slice A1 l1.length c1), (16, .int .i64 r11), (17, .slice A1 l1.length c1)]) (w' := w18) (by kernel_rfl) ?_
    obtain ⟨r20, e21, H⟩ := bind_ex H
    refine WR.st (St.call (by kernel_rfl) (f := 14) (args := #[.slice A1 l1.length c1]) (by kernel_rfl) (colophonref06_Size.calls w18 A1 c1 l1 (rdS.upd R1 hS.sub0) r20 e21) ?_)
    rintro _ w27 ⟨rfl, hS28⟩
    have hS : Sat w27 (rf w0) [] := hS.ext hS28
    refine WR.runk [4, 5] [] [0, 1, 20] (L' := [(0, .slice A0 l0.length c0), (1, .slice A1 l1.length c1), (20, .bool (decide (imax r11 r20 > 50000)))]) (w' := w27) (by kernel_rfl) ?_
    refine WR.nil ?_
    refine At.go ?_
    refine WC.cond (by kernel_rfl) (decide (imax r11 r20 > 50000)) (by kernel_rfl) (by kernel_rfl) (fun hb29 => ?_) (fun hb29 => ?_)
    · replace H := ite_t H hb29
      refine WC.seq (by kernel_rfl) ?_
      refine WC.reg [0] (by kernel_rfl) (by kernel_rfl) ?_
      refine WR.runk [0] [] [4] (L' := [(4, .bool true)]) (w' := w27) (by kernel_rfl) ?_
      refine WR.nil ?_
      refine At.go ?_
      refine WC.ret (by kernel_rfl) ?_
      refine At.thenRet ?_
      obtain rfl := Option.some.inj H
      have hS : Sat w27 (rf w0) [] := hS.sel [] (by kernel_rfl)
      exact At.body [.bool true] (by kernel_rfl) ⟨_, rfl, rfl, hS⟩
    · replace H := ite_f H hb29
      refine WC.skip (by kernel_rfl) ?_
      refine At.go ?_
      refine WC.seq (by kernel_rfl) ?_
      refine WC.reg [0, 1, 2, 3, 4, 5, 6] (by kernel_rfl) (by kernel_rfl) ?_
      refine WR.runk [0] [1, 2, 3, 4, 5, 6] [0, 1, 22] (L' := [(0, .slice A0 l0.length c0), (1, .slice A1 l1.length c1), (22, .slice A0 l0.length c0)]) (w' := w27) (by kernel_rfl) ?_
      obtain ⟨r30, e31, H⟩ := bind_ex H
      refine WR.st (St.call (by kernel_rfl) (f := 15) (args := #[.slice A0 l0.length c0]) (by kernel_rfl) (image_Build.calls w27 A0 c0 l0 (rdS.upd R0 hS.sub0) r30 e31) ?_)
      rintro _ w37 ⟨A39, c40, rfl, hS38⟩
      have hS : Sat w37 (rf w0) [osl 5 (r0 (.int .u8)) 1 A39 c40 r30.1] := hS.ext hS38
      refine WR.runk [2, 3, 4, 5, 6] [] [0, 1, 5, 6] (L' := [(0, .slice A0 l0.length c0), (1, .slice A1 l1.length c1), (5, .slice A39 r30.1.length c40), (6, .int .i64 r30.2)]) (w' := w37) (by kernel_rfl) ?_
      refine WR.nil ?_
      refine At.go ?_
      refine WC.seq (by kernel_rfl) ?_
      refine WC.reg [0, 1, 2, 3, 4, 5, 6] (by kernel_rfl) (by kernel_rfl) ?_
      refine WR.runk [0] [1, 2, 3, 4, 5, 6] [0, 1, 5, 6, 27] (L' := [(0, .slice A0 l0.length c0), (1, .slice A1 l1.length c1), (5, .slice A39 r30.1.length c40), (6, .int .i64 r30.2), (27, .slice A1 l1.length c1)]) (w' := w37) (by kernel_rfl) ?_
      obtain ⟨r41, e42, H⟩ := bind_ex H
      refine WR.st (St.call (by kernel_rfl) (f := 15) (args := #[.slice A1 l1.length c1]) (by kernel_rfl) (image_Build.calls w37 A1 c1 l1 (rdS.upd R1 hS.sub0) r41 e42) ?_)
      rintro _ w48 ⟨A50, c51, rfl, hS49⟩
      have hS : Sat w48 (rf w0) [osl 5 (r0 (.int .u8)) 1 A50 c51 r41.1, osl 5 (r0 (.int .u8)) 1 A39 c40 r30.1] := hS.ext hS49
      refine WR.runk [2, 3, 4, 5, 6] [] [0, 1, 5, 6, 7, 8] (L' := [(0, .slice A0 l0.length c0), (1, .slice A1 l1.length c1), (5, .slice A39 r30.1.length c40), (6, .int .i64 r30.2), (7, .slice A50 r41.1.length c51), (8, .int .i64 r41.2)]) (w' := w48) (by kernel_rfl) ?_
      refine WR.nil ?_
      refine At.go ?_
      refine WC.seq (by kernel_rfl) ?_
      refine WC.seq (by kernel_rfl) ?_
      refine WC.reg [0, 1, 2, 3, 4, 5] (by kernel_rfl) (by kernel_rfl) ?_
      refine WR.runk [0, 1, 2] [3, 4, 5] [0, 1, 5, 7, 8, 33] (L' := [(0, .slice A0 l0.length c0), (1, .slice A1 l1.length c1), (5, .slice A39 r30.1.length c40), (7, .slice A50 r41.1.length c51), (8, .int .i64 r41.2), (33, .bool (r30.2 != 0))]) (w' := w48) (by kernel_rfl) ?_
      refine WR.split 33 (b := (r30.2 != 0)) (by kernel_rfl) (fun hb52 => ?_) (fun hb52 => ?_)
      · replace H := ite_t H hb52
        refine WR.runk [3, 4, 5] [] [0, 1, 5, 7, 36] (L' := [(0, .slice A0 l0.length c0), (1, .slice A1 l1.length c1), (5, .slice A39 r30.1.length c40), (7, .slice A50 r41.1.length c51), (36, .bool true)]) (w' := w48) (by kernel_rfl) ?_
        refine WR.nil ?_
        refine At.go ?_
        refine WC.condT (by kernel_rfl) (by kernel_rfl) (by kernel_rfl) ?_
        refine WC.seq (by kernel_rfl) ?_
        refine WC.reg [0] (by kernel_rfl) (by kernel_rfl) ?_
        refine WR.runk [0] [] [4] (L' := [(4, .bool true)]) (w' := w48) (by kernel_rfl) ?_
        refine WR.nil ?_
        refine At.go ?_
        refine WC.ret (by kernel_rfl) ?_
        refine At.thenRet ?_
        obtain rfl := Option.some.inj H
        have hS : Sat w48 (rf w0) [] := hS.sel [] (by kernel_rfl)
        exact At.body [.bool true] (by kernel_rfl) ⟨_, rfl, rfl, hS⟩
      · replace H := ite_f H hb52
        refine WR.runk [3, 4, 5] [] [0, 1, 5, 7, 36] (L' := [(0, .slice A0 l0.length c0), (1, .slice A1 l1.length c1), (5, .slice A39 r30.1.length c40), (7, .slice A50 r41.1.length c51), (36, .bool (r41.2 != 0))]) (w' := w48) (by kernel_rfl) ?_
        refine WR.nil ?_
        refine At.go ?_
        refine WC.cond (by kernel_rfl) (r41.2 != 0) (by kernel_rfl) (by kernel_rfl) (fun hb53 => ?_) (fun hb53 => ?_)
        · replace H := ite_t H hb53
          refine WC.seq (by kernel_rfl) ?_
          refine WC.reg [0] (by kernel_rfl) (by kernel_rfl) ?_
          refine WR.runk [0] [] [4] (L' := [(4, .bool true)]) (w' := w48) (by kernel_rfl) ?_
          refine WR.nil ?_
          refine At.go ?_
          refine WC.ret (by kernel_rfl) ?_
          refine At.thenRet ?_
          obtain rfl := Option.some.inj H
          have hS : Sat w48 (rf w0) [] := hS.sel [] (by kernel_rfl)
          exact At.body [.bool true] (by kernel_rfl) ⟨_, rfl, rfl, hS⟩
        · replace H := ite_f H hb53
          refine WC.skip (by kernel_rfl) ?_
          refine At.go ?_
          refine WC.seq (by kernel_rfl) ?_
          refine WC.seq (by kernel_rfl) ?_
          refine WC.drawn (by kernel_rfl) (by kernel_rfl) 9 (by kernel_rfl) (fun w54 hw55 => ?_)
          have hS := hS.heap hw55.1 hw55.2
          refine WD.weaken [0, 1, 5, 7] (L' := [(0, .slice A0 l0.length c0), (1, .slice A1 l1.length c1), (5, .slice A39 r30.1.length c40), (7, .slice A50 r41.1.length c51)]) (by kernel_rfl) ?_
          refine WD.pure (i := 0) (v := .slice A39 r30.1.length c40) (by kernel_rfl) (by kernel_rfl) (fun _ => by kernel_rfl) ?_
          refine WD.weaken [0, 1, 5, 7, 37] (L' := [(0, .slice A0 l0.length c0), (1, .slice A1 l1.length c1), (5, .slice A39 r30.1.length c40), (7, .slice A50 r41.1.length c51), (37, .slice A39 r30.1.length c40)]) (by kernel_rfl) ?_
          refine WD.ofR (i := 1) (by kernel_rfl) (RSt.toStr (src := 22) (dst := 9) (e := 5) (.tmp 37) (by kernel_rfl) (by kernel_rfl) (by kernel_rfl) (by kernel_rfl) (by kernel_rfl) (by kernel_rfl) (Sat.rdAt 1 hS rfl) ?_)
          refine WD.weaken [0, 1, 5, 7, 38] (L' := [(0, .slice A0 l0.length c0), (1, .slice A1 l1.length c1), (5, .slice A39 r30.1.length c40), (7, .slice A50 r41.1.length c51), (38, .string (bs r30.1))]) (by kernel_rfl) ?_
          refine WD.pure (i := 2) (v := .slice A50 r41.1.length c51) (by kernel_rfl) (by kernel_rfl) (fun _ => by kernel_rfl) ?_
          refine WD.weaken [0, 1, 5, 38, 39] (L' := [(0, .slice A0 l0.length c0), (1, .slice A1 l1.length c1), (5, .slice A39 r30.1.length c40), (38, .string (bs r30.1)), (39, .slice A50 r41.1.length c51)]) (by kernel_rfl) ?_
          refine WD.ofR (i := 3) (by kernel_rfl) (RSt.toStr (src := 22) (dst := 9) (e := 5) (.tmp 39) (by kernel_rfl) (by kernel_rfl) (by kernel_rfl) (by kernel_rfl) (by kernel_rfl) (by kernel_rfl) (Sat.rdAt 0 hS rfl) ?_)
          refine WD.weaken [0, 1, 5, 38, 40] (L' := [(0, .slice A0 l0.length c0), (1, .slice A1 l1.length c1), (5, .slice A39 r30.1.length c40), (38, .string (bs r30.1)), (40, .string (bs r41.1))]) (by kernel_rfl) ?_
          refine WD.pure (i := 4) (v := .bool ((bs r30.1).toList == (bs r41.1).toList)) (by kernel_rfl) (by kernel_rfl) (fun _ => by kernel_rfl) ?_
          refine WD.weaken [0, 1, 5, 41] (L' := [(0, .slice A0 l0.length c0), (1, .slice A1 l1.length c1), (5, .slice A39 r30.1.length c40), (41, .bool ((bs r30.1).toList == (bs r41.1).toList))]) (by kernel_rfl) ?_
          refine WD.pure (i := 5) (v := .slice A0 l0.length c0) (by kernel_rfl) (by kernel_rfl) (fun _ => by kernel_rfl) ?_
          refine WD.weaken [1, 5, 41, 42] (L' := [(1, .slice A1 l1.length c1), (5, .slice A39 r30.1.length c40), (41, .bool ((bs r30.1).toList == (bs r41.1).toList)), (42, .slice A0 l0.length c0)]) (by kernel_rfl) ?_
          refine WD.pure (i := 6) (v := .slice A1 l1.length c1) (by kernel_rfl) (by kernel_rfl) (fun _ => by kernel_rfl) ?_
          refine WD.weaken [5, 41, 42, 43] (L' := [(5, .slice A39 r30.1.length c40), (41, .bool ((bs r30.1).toList == (bs r41.1).toList)), (42, .slice A0 l0.length c0), (43, .slice A1 l1.length c1)]) (by kernel_rfl) ?_
          obtain ⟨r56, e57, H⟩ := bind_ex H
          refine WD.act (i := 7) (by kernel_rfl) (St.call (by kernel_rfl) (f := 12) (args := #[.slice A0 l0.length c0, .slice A1 l1.length c1]) (by kernel_rfl) (colophonref06_Same.calls w54 A0 c0 l0 (rdS.upd R0 hS.sub0) A1 c1 l1 (rdS.upd R1 hS.sub0) r56 e57) ?_)
          rintro _ w63 ⟨rfl, hS64⟩
          have hS : Sat w63 (rf w0) [osl 5 (r0 (.int .u8)) 1 A50 c51 r41.1, osl 5 (r0 (.int .u8)) 1 A39 c40 r30.1] := hS.ext hS64
          refine ⟨(asked.cons (RSt.run (n := 79) (RSt.toStr (src := 22) (dst := 9) (e := 5) (.tmp 39) (by kernel_rfl) (by kernel_rfl) (by kernel_rfl) (by kernel_rfl) (by kernel_rfl) (by kernel_rfl) (Sat.rdAt 0 hS rfl) rfl)) (asked.cons (RSt.run (n := 79) (RSt.toStr (src := 22) (dst := 9) (e := 5) (.tmp 37) (by kernel_rfl) (by kernel_rfl) (by kernel_rfl) (by kernel_rfl) (by kernel_rfl) (by kernel_rfl) (Sat.rdAt 1 hS rfl) rfl)) (asked.nil _ _))), ?_⟩
          refine WD.weaken [5, 41, 44] (L' := [(5, .slice A39 r30.1.length c40), (41, .bool ((bs r30.1).toList == (bs r41.1).toList)), (44, .bool r56)]) (by kernel_rfl) ?_
          refine WD.pure (i := 8) (v := .bool (((bs r30.1).toList == (bs r41.1).toList) != r56)) (by kernel_rfl) (by kernel_rfl) (fun _ => by kernel_rfl) ?_
          refine WD.weaken [5, 45] (L' := [(5, .slice A39 r30.1.length c40), (45, .bool (((bs r30.1).toList == (bs r41.1).toList) != r56))]) (by kernel_rfl) ?_
          refine WD.nil (by kernel_rfl) ?_
          refine At.go ?_
          refine WC.cond (by kernel_rfl) (((bs r30.1).toList == (bs r41.1).toList) != r56) (by kernel_rfl) (by kernel_rfl) (fun hb65 => ?_) (fun hb65 => ?_)
          · replace H := ite_t H hb65
            refine WC.seq (by kernel_rfl) ?_
            refine WC.reg [0] (by kernel_rfl) (by kernel_rfl) ?_
            refine WR.runk [0] [] [4] (L' := [(4, .bool false)]) (w' := w63) (by kernel_rfl) ?_
            refine WR.nil ?_
            refine At.go ?_
            refine WC.ret (by kernel_rfl) ?_
            refine At.thenRet ?_
            obtain rfl := Option.some.inj H
            have hS : Sat w63 (rf w0) [] := hS.sel [] (by kernel_rfl)
            exact At.body [.bool false] (by kernel_rfl) ⟨_, rfl, rfl, hS⟩
          · replace H := ite_f H hb65
            refine WC.skip (by kernel_rfl) ?_
            refine At.go ?_
            refine WC.seq (by kernel_rfl) ?_
            refine WC.reg [0, 1, 2, 3, 4, 5, 6] (by kernel_rfl) (by kernel_rfl) ?_
            refine WR.runk [0] [1, 2, 3, 4, 5, 6] [47] (L' := [(47, .slice A39 r30.1.length c40)]) (w' := w63) (by kernel_rfl) ?_
            obtain ⟨r66, e67, H⟩ := bind_ex H
            refine WR.st (St.call (by kernel_rfl) (f := 10) (args := #[.slice A39 r30.1.length c40]) (by kernel_rfl) (image_Open.calls w63 A39 c40 r30.1 (Sat.rdAt 1 hS rfl) r66 e67) ?_)
            rintro _ w73 ⟨pv75, rfl, hS74⟩
            have hS : Sat w73 (rf w0) [optP O52 pv75 r66.1, osl 5 (r0 (.int .u8)) 1 A50 c51 r41.1, osl 5 (r0 (.int .u8)) 1 A39 c40 r30.1] := hS.ext hS74
            refine WR.runk [2, 3, 4, 5, 6] [] [9] (L' := [(9, pv75)]) (w' := w73) (by kernel_rfl) ?_
            refine WR.nil ?_
            refine At.go ?_
            refine WC.seq (by kernel_rfl) ?_
            refine WC.reg [0] (by kernel_rfl) (by kernel_rfl) ?_
            refine WR.runk [0] [] [9, 11] (L' := [(9, pv75), (11, .int .i64 1)]) (w' := w73) (by kernel_rfl) ?_
            refine WR.nil ?_
            refine At.go ?_
            refine WC.seq (by kernel_rfl) ?_
            refine WC.seq (by kernel_rfl) ?_
            refine WC.reg [0, 1, 2] (by kernel_rfl) (by kernel_rfl) ?_
            refine WR.runk [0] [1, 2] [9, 11, 51] (L' := [(9, pv75), (11, .int .i64 1), (51, pv75)]) (w' := w73) (by kernel_rfl) ?_
            obtain ⟨r76, e77, H⟩ := bind_ex H
            refine WR.st (St.call (by kernel_rfl) (f := 16) (args := #[pv75]) (by kernel_rfl) (image_Image_Sections.calls w73 (pv75) r66.1 (Sat.rdAny 0 hS rfl (fun _ h => optP.rdd (t := 52) (κ := (.pair (.slice 22 (.slice 5 (.int .u8))) (.pair (.slice 3 (.int .i64)) (.slice 3 (.int .i64))))) (O := O52) O52.rd h)) r76 e77) ?_)
            rintro _ w83 ⟨rfl, hS84⟩
            have hS : Sat w83 (rf w0) [optP O52 pv75 r66.1, osl 5 (r0 (.int .u8)) 1 A50 c51 r41.1, osl 5 (r0 (.int .u8)) 1 A39 c40 r30.1] := hS.ext hS84
            refine WR.runk [2] [] [9, 11, 52, 53] (L' := [(9, pv75), (11, .int .i64 1), (52, .int .i64 r76), (53, .int .i64 0)]) (w' := w83) (by kernel_rfl) ?_
            refine WR.nil ?_
            refine At.go ?_
            refine WC.block (by kernel_rfl) ?_
            obtain ⟨y85, hr86, H⟩ := bind_ex H
            obtain ⟨b88, hv87, hN144⟩ := optP.some hS hr86
            subst hv87
            have hS : Sat w83 (rf w0) [O52 b88 y85, osl 5 (r0 (.int .u8)) 1 A50 c51 r41.1, osl 5 (r0 (.int .u8)) 1 A39 c40 r30.1] := hN144
            have hS : Sat w83 (rf w0) [O52 b88 y85] := hS.sel [0] (by kernel_rfl)
            obtain ⟨o125, e126, H⟩ := bind_ex H
            refine WC.loop (by kernel_rfl) ?_
            refine WL.weaken [9, 11, 52, 53] (L' := [(9, .pointer (some ⟨b88, 0, none⟩)), (11, .int .i64 1), (52, .int .i64 r76), (53, .int .i64 0)]) (by kernel_rfl) ?_
            refine colophonlaw06_ImageApart.l1_ok w0 l1 r76 y85 b88 o125 (fun o127 w129 ho130 hS => ?_) (fun o131 w133 ho134 hS => ?_) FU 1 0 _ hS e126
            · subst ho130
              dsimp only at H
              refine At.blockRet ?_
              refine At.thenRet ?_
              obtain rfl := Option.some.inj H
              have hS : Sat w129 (rf w0) [] := hS.sel [] (by kernel_rfl)
              exact At.body [.bool o127] (by kernel_rfl) ⟨_, rfl, rfl, hS⟩
            · subst ho134
              dsimp only at H
              refine At.hit ?_
              refine At.go ?_
              refine WC.seq (by kernel_rfl) ?_
              refine WC.reg [0, 1, 2, 3, 4] (by kernel_rfl) (by kernel_rfl) ?_
              refine WR.runk [0, 1] [2, 3, 4] [75, 76] (L' := [(75, .int .i64 o131), (76, .pointer (some ⟨b88, 0, none⟩))]) (w' := w133) (by kernel_rfl) ?_
              obtain ⟨r135, e136, H⟩ := bind_ex H
              refine WR.st (St.call (by kernel_rfl) (f := 19) (args := #[.pointer (some ⟨b88, 0, none⟩)]) (by kernel_rfl) (image_Image_Pages.calls w133 (.pointer (some ⟨b88, 0, none⟩)) (some y85) (Sat.rdAny 0 hS rfl (fun _ h => O52.rd _ _ _ h)) r135 e136) ?_)
              rintro _ w142 ⟨rfl, hS143⟩
              have hS : Sat w142 (rf w0) [O52 b88 y85] := hS.ext hS143
              refine WR.runk [3, 4] [] [4] (L' := [(4, .bool (o131 == r135))]) (w' := w142) (by kernel_rfl) ?_
              refine WR.nil ?_
              refine At.go ?_
              refine WC.ret (by kernel_rfl) ?_
              obtain rfl := Option.some.inj H
              have hS : Sat w142 (rf w0) [] := hS.sel [] (by kernel_rfl)
              exact At.body [.bool (o131 == r135)] (by kernel_rfl) ⟨_, rfl, rfl, hS⟩
end Go.Proofs.Ytejjdfnelalnoaa
