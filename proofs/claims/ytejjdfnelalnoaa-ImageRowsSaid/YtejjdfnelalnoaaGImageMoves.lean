/-
  Printed by gen.py (my own tool): for each Go function a plain Lean function and the proof that a call of it does what that function says.
-/
import Derived.Test.YtejjdfnelalnoaaGP1c
set_option linter.unusedVariables false
set_option linter.unusedSimpArgs false
set_option maxRecDepth 100000
namespace Go.Proofs.Ytejjdfnelalnoaa
open Go Go.Gol
/-! ### 7 colophon/colophonlaw06.ImageMoves -/
def colophonlaw06_ImageMoves.f (l0 : List (List Int)) (a1 : Int) (a2 : Int) : Option Bool := (colophonlaw06_first.f.bind fun r1 => (if (!r1) then some false else ((colophonref06_Size.f l0).bind fun r11 => (if decide (r11 > 50000) then some true else ((image_Build.f l0).bind fun r21 => (if (r21.2 != 0) then some ((r21.1.length : Int) == 0) else ((chk? (decide ((IntKind.wrap .u64 (wi (Int.tdiv (r21.1.length : Int) 264))) ≠ 0))).bind fun _ => ((chk? (decide ((IntKind.wrap .u64 (wi (Int.tdiv (r21.1.length : Int) 264))) ≠ 0))).bind fun _ => ((sub? r21.1 0 (wi (264 * (wi (Int.tmod (IntKind.wrap .u64 a1) (IntKind.wrap .u64 (wi (Int.tdiv (r21.1.length : Int) 264)))))))).bind fun y39 => ((sub? r21.1 (wi ((wi (264 * (wi (Int.tmod (IntKind.wrap .u64 a1) (IntKind.wrap .u64 (wi (Int.tdiv (r21.1.length : Int) 264))))))) + 264)) (r21.1.length : Int)).bind fun y44 => ((app? 140737488355328 (([] : List Int) : List Int) y39).bind fun y52 => ((app? 140737488355328 y52 y44).bind fun y57 => ((sub? r21.1 (wi (264 * (wi (Int.tmod (IntKind.wrap .u64 a1) (IntKind.wrap .u64 (wi (Int.tdiv (r21.1.length : Int) 264))))))) (wi ((wi (264 * (wi (Int.tmod (IntKind.wrap .u64 a1) (IntKind.wrap .u64 (wi (Int.tdiv (r21.1.length : Int) 264))))))) + 264))).bind fun y63 => ((app? 140737488355328 (([] : List Int) : List Int) r21.1).bind fun y71 => ((app? 140737488355328 y71 y63).bind fun y76 => ((image_Open.f y57).bind fun r80 => ((image_Open.f y76).bind fun r90 => (if (r80.2 != 10) then some false else (if (r90.2 != 10) then some false else (if ((wi (Int.tmod (IntKind.wrap .u64 a1) (IntKind.wrap .u64 (wi (Int.tdiv (r21.1.length : Int) 264))))) == (wi (Int.tmod (IntKind.wrap .u64 a2) (IntKind.wrap .u64 (wi (Int.tdiv (r21.1.length : Int) 264)))))) then some true else ((app? 140737488355328 (([] : List Int) : List Int) r21.1).bind fun y106 => ((sub? y106 (wi (264 * (wi (Int.tmod (IntKind.wrap .u64 a1) (IntKind.wrap .u64 (wi (Int.tdiv (r21.1.length : Int) 264))))))) (wi ((wi (264 * (wi (Int.tmod (IntKind.wrap .u64 a1) (IntKind.wrap .u64 (wi (Int.tdiv (r21.1.length : Int) 264))))))) + 264))).bind fun y112 => ((sub? r21.1 (wi (264 * (wi (Int.tmod (IntKind.wrap .u64 a2) (IntKind.wrap .u64 (wi (Int.tdiv (r21.1.length : Int) 264))))))) (wi ((wi (264 * (wi (Int.tmod (IntKind.wrap .u64 a2) (IntKind.wrap .u64 (wi (Int.tdiv (r21.1.length : Int) 264))))))) + 264))).bind fun y114 => ((sub? (cpyIn y106 (wi (264 * (wi (Int.tmod (IntKind.wrap .u64 a1) (IntKind.wrap .u64 (wi (Int.tdiv (r21.1.length : Int) 264))))))).toNat (wi ((wi (264 * (wi (Int.tmod (IntKind.wrap .u64 a1) (IntKind.wrap .u64 (wi (Int.tdiv (r21.1.length : Int) 264))))))) + 264)).toNat y112 y114) (wi (264 * (wi (Int.tmod (IntKind.wrap .u64 a2) (IntKind.wrap .u64 (wi (Int.tdiv (r21.1.length : Int) 264))))))) (wi ((wi (264 * (wi (Int.tmod (IntKind.wrap .u64 a2) (IntKind.wrap .u64 (wi (Int.tdiv (r21.1.length : Int) 264))))))) + 264))).bind fun y123 => ((sub? r21.1 (wi (264 * (wi (Int.tmod (IntKind.wrap .u64 a1) (IntKind.wrap .u64 (wi (Int.tdiv (r21.1.length : Int) 264))))))) (wi ((wi (264 * (wi (Int.tmod (IntKind.wrap .u64 a1) (IntKind.wrap .u64 (wi (Int.tdiv (r21.1.length : Int) 264))))))) + 264))).bind fun y125 => ((image_Open.f (cpyIn (cpyIn y106 (wi (264 * (wi (Int.tmod (IntKind.wrap .u64 a1) (IntKind.wrap .u64 (wi (Int.tdiv (r21.1.length : Int) 264))))))).toNat (wi ((wi (264 * (wi (Int.tmod (IntKind.wrap .u64 a1) (IntKind.wrap .u64 (wi (Int.tdiv (r21.1.length : Int) 264))))))) + 264)).toNat y112 y114) (wi (264 * (wi (Int.tmod (IntKind.wrap .u64 a2) (IntKind.wrap .u64 (wi (Int.tdiv (r21.1.length : Int) 264))))))).toNat (wi ((wi (264 * (wi (Int.tmod (IntKind.wrap .u64 a2) (IntKind.wrap .u64 (wi (Int.tdiv (r21.1.length : Int) 264))))))) + 264)).toNat y123 y125)).bind fun r132 => ((image_Image_Page.f none 0).bind fun r142 => (if (r132.2 == 10) then (if (r142.2 == 1) then ((image_Image_Sections.f none).bind fun r155 => (if (r155 == 0) then ((image_Image_Pages.f none).bind fun r165 => (if (r165 == 0) then ((image_Image_Size.f none 0).bind fun r175 => (if (r175 == 0) then ((image_Image_First.f none 0).bind fun r185 => (if (r185 == 0) then ((image_Image_Section.f none 0).bind fun r195 => some ((r195.length : Int) == 0)) else some false)) else some false)) else some false)) else some false)) else some false) else some false))))))))))))))))))))))))))))
def colophonlaw06_ImageMoves.post (w : World) (r : Bool) (v : Value) (w' : World) : Prop := v = (.bool r : Value) ∧ Sat w' (rf w) []
theorem colophonlaw06_ImageMoves.calls (w0 : World) (A0 : Option Addr) (c0 : Nat) (l0 : List (List Int)) (R0 : rdS (rd (hp w0) (.slice 5 (.int .u8))) 1 (hp w0) A0 c0 l0) (a1 : Int) (a2 : Int) (r : Bool) (H : colophonlaw06_ImageMoves.f l0 a1 a2 = some r) :
    Calls Try.prog 7 #[.slice A0 l0.length c0, .int .i64 a1, .int .i64 a2] w0 (fun e w' => ∃ v, e = .returned v ∧ colophonlaw06_ImageMoves.post w0 r v w') := by
  have hS : Sat w0 (rf w0) [] := Sat.start w0
  unfold colophonlaw06_ImageMoves.f at H
  refine calls_of_WC (vs := [.slice A0 l0.length c0, .int .i64 a1, .int .i64 a2]) Try.func7 (c := C7) (n := 171) (by kernel_rfl) (by kernel_rfl) (by kernel_rfl) ?_
  refine WC.seq (by kernel_rfl) ?_
  refine WC.reg [0] (by kernel_rfl) (by kernel_rfl) ?_
  refine WR.runk [0] [] [0, 1, 2] (L' := [(0, .slice A0 l0.length c0), (1, .int .i64 a1), (2, .int .i64 a2)]) (w' := w0) (by kernel_rfl) ?_
  refine WR.nil ?_
  refine At.go ?_
  refine WC.seq (by kernel_rfl) ?_
  refine WC.seq (by kernel_rfl) ?_
  refine WC.reg [0, 1] (by kernel_rfl) (by kernel_rfl) ?_
  obtain ⟨r1, e2, H⟩ := bind_ex H
  refine WR.st (St.call (by kernel_rfl) (f := 8) (args := #[]) (by kernel_rfl) (colophonlaw06_first.calls w0  r1 e2) ?_)
  rintro _ w8 ⟨rfl, hS9⟩
  have hS : Sat w8 (rf w0) [] := hS.ext hS9
  refine WR.runk [1] [] [0, 1, 2, 25] (L' := [(0, .slice A0 l0.length c0), (1, .int .i64 a1), (2, .int .i64 a2), (25, .bool (!r1))]) (w' := w8) (by kernel_rfl) ?_
  refine WR.nil ?_
  refine At.go ?_
  refine WC.cond (by kernel_rfl) (!r1) (by kernel_rfl) (by kernel_rfl) (fun hb10 => ?_) (fun hb10 => ?_)
  · replace H := ite_t H hb10
    refine WC.seq (by kernel_rfl) ?_
    refine WC.reg [0] (by kernel_rfl) (by kernel_rfl) ?_
    refine WR.runk [0] [] [6] (L' := [(6, .bool false)]) (w' := w8) (by kernel_rfl) ?_
    refine WR.nil ?_
    refine At.go ?_
    refine WC.ret (by kernel_rfl) ?_
    refine At.thenRet ?_
    obtain rfl := Option.some.inj H
    have hS : Sat w8 (rf w0) [] := hS.sel [] (by kernel_rfl)
    exact At.body [.bool false] (by kernel_rfl) ⟨_, rfl, rfl, hS⟩
  · replace H := ite_f H hb10
    refine WC.skip (by kernel_rfl) ?_
    refine At.go ?_
    refine WC.seq (by kernel_rfl) ?_
    refine WC.seq (by kernel_rfl) ?_
    refine WC.reg [0, 1, 2] (by kernel_rfl) (by kernel_rfl) ?_
    refine WR.runk [0] [1, 2] [0, 1, 2, 26] (L' := [(0, .slice A0 l0.length c0), (1, .int .i64 a1), (2, .int .i64 a2), (26, .slice A0 l0.length c0)]) (w' := w8) (by kernel_rfl) ?_
    obtain ⟨r11, e12, H⟩ := bind_ex H
    refine WR.st (St.call (by kernel_rfl) (f := 14) (args := #[.slice A0 l0.length c0]) (by kernel_rfl) (colophonref06_Size.calls w8 A0 c0 l0 (rdS.upd R0 hS.sub0) r11 e12) ?_)
    rintro _ w18 ⟨rfl, hS19⟩
    have hS : Sat w18 (rf w0) [] := hS.ext hS19
    refine WR.runk [2] [] [0, 1, 2, 28] (L' := [(0, .slice A0 l0.length c0), (1, .int .i64 a1), (2, .int .i64 a2), (28, .bool (decide (r11 > 50000)))]) (w' := w18) (by kernel_rfl) ?_
    refine WR.nil ?_
    refine At.go ?_
    refine WC.cond (by kernel_rfl) (decide (r11 > 50000)) (by kernel_rfl) (by kernel_rfl) (fun hb20 => ?_) (fun hb20 => ?_)
    · replace H := ite_t H hb20
      refine WC.seq (by kernel_rfl) ?_
      refine WC.reg [0] (by kernel_rfl) (by kernel_rfl) ?_
      refine WR.runk [0] [] [6] (L' := [(6, .bool true)]) (w' := w18) (by kernel_rfl) ?_
      refine WR.nil ?_
      refine At.go ?_
      refine WC.ret (by kernel_rfl) ?_
      refine At.thenRet ?_
      obtain rfl := Option.some.inj H
      have hS : Sat w18 (rf w0) [] := hS.sel [] (by kernel_rfl)
      exact At.body [.bool true] (by kernel_rfl) ⟨_, rfl, rfl, hS⟩
    · replace H := ite_f H hb20
      refine WC.skip (by kernel_rfl) ?_
      refine At.go ?_
      refine WC.seq (by kernel_rfl) ?_
      refine WC.reg [0, 1, 2, 3, 4, 5, 6] (by kernel_rfl) (by kernel_rfl) ?_
      refine WR.runk [0] [1, 2, 3, 4, 5, 6] [1, 2, 30] (L' := [(1, .int .i64 a1), (2, .int .i64 a2), (30, .slice A0 l0.length c0)]) (w' := w18) (by kernel_rfl) ?_
      obtain ⟨r21, e22, H⟩ := bind_ex H
      refine WR.st (St.call (by kernel_rfl) (f := 15) (args := #[.slice A0 l0.length c0]) (by kernel_rfl) (image_Build.calls w18 A0 c0 l0 (rdS.upd R0 hS.sub0) r21 e22) ?_)
      rintro _ w28 ⟨A30, c31, rfl, hS29⟩
      have hS : Sat w28 (rf w0) [osl 5 (r0 (.int .u8)) 1 A30 c31 r21.1] := hS.ext hS29
      refine WR.runk [2, 3, 4, 5, 6] [] [1, 2, 7, 8] (L' := [(1, .int .i64 a1), (2, .int .i64 a2), (7, .slice A30 r21.1.length c31), (8, .int .i64 r21.2)]) (w' := w28) (by kernel_rfl) ?_
      refine WR.nil ?_
      refine At.go ?_
      refine WC.seq (by kernel_rfl) ?_
      refine WC.seq (by kernel_rfl) ?_
      refine WC.reg [0, 1] (by kernel_rfl) (by kernel_rfl) ?_
      refine WR.runk [0, 1] [] [1, 2, 7, 35] (L' := [(1, .int .i64 a1), (2, .int .i64 a2), (7, .slice A30 r21.1.length c31), (35, .bool (r21.2 != 0))]) (w' := w28) (by kernel_rfl) ?_
      refine WR.nil ?_
      refine At.go ?_
      refine WC.cond (by kernel_rfl) (r21.2 != 0) (by kernel_rfl) (by kernel_rfl) (fun hb32 => ?_) (fun hb32 => ?_)
      · replace H := ite_t H hb32
        refine WC.seq (by kernel_rfl) ?_
        refine WC.reg [0, 1, 2, 3] (by kernel_rfl) (by kernel_rfl) ?_
        refine WR.runk [0, 1, 2, 3] [] [6] (L' := [(6, .bool ((r21.1.length : Int) == 0))]) (w' := w28) (by kernel_rfl) ?_
        refine WR.nil ?_
        refine At.go ?_
        refine WC.ret (by kernel_rfl) ?_
        refine At.thenRet ?_
        obtain rfl := Option.some.inj H
        have hS : Sat w28 (rf w0) [] := hS.sel [] (by kernel_rfl)
        exact At.body [.bool ((r21.1.length : Int) == 0)] (by kernel_rfl) ⟨_, rfl, rfl, hS⟩
      · replace H := ite_f H hb32
        refine WC.skip (by kernel_rfl) ?_
        refine At.go ?_
        refine WC.seq (by kernel_rfl) ?_
        refine WC.reg [0, 1, 2, 3] (by kernel_rfl) (by kernel_rfl) ?_
        refine WR.runk [0, 1, 2, 3] [] [1, 2, 7, 9] (L' := [(1, .int .i64 a1), (2, .int .i64 a2), (7, .slice A30 r21.1.length c31), (9, .int .i64 (wi (Int.tdiv (r21.1.length : Int) 264)))]) (w' := w28) (by kernel_rfl) ?_
        refine WR.nil ?_
        refine At.go ?_
        refine WC.seq (by kernel_rfl) ?_
        refine WC.drawn (by kernel_rfl) (by kernel_rfl) 14 (by kernel_rfl) (fun w33 hw34 => ?_)
        have hS := hS.heap hw34.1 hw34.2
        refine WD.weaken [1, 2, 7, 9] (L' := [(1, .int .i64 a1), (2, .int .i64 a2), (7, .slice A30 r21.1.length c31), (9, .int .i64 (wi (Int.tdiv (r21.1.length : Int) 264)))]) (by kernel_rfl) ?_
        refine WD.pure (i := 0) (v := .int .i64 a1) (by kernel_rfl) (by kernel_rfl) (fun _ => by kernel_rfl) ?_
        refine WD.weaken [2, 7, 9, 42] (L' := [(2, .int .i64 a2), (7, .slice A30 r21.1.length c31), (9, .int .i64 (wi (Int.tdiv (r21.1.length : Int) 264))), (42, .int .i64 a1)]) (by kernel_rfl) ?_
        refine WD.pure (i := 1) (v := .int .u64 (IntKind.wrap .u64 a1)) (by kernel_rfl) (by kernel_rfl) (fun _ => by kernel_rfl) ?_
        refine WD.weaken [2, 7, 9, 43] (L' := [(2, .int .i64 a2), (7, .slice A30 r21.1.length c31), (9, .int .i64 (wi (Int.tdiv (r21.1.length : Int) 264))), (43, .int .u64 (IntKind.wrap .u64 a1))]) (by kernel_rfl) ?_
        refine WD.pure (i := 2) (v := .int .i64 (wi (Int.tdiv (r21.1.length : Int) 264))) (by kernel_rfl) (by kernel_rfl) (fun _ => by kernel_rfl) ?_
        refine WD.weaken [2, 7, 9, 43, 44] (L' := [(2, .int .i64 a2), (7, .slice A30 r21.1.length c31), (9, .int .i64 (wi (Int.tdiv (r21.1.length : Int) 264))), (43, .int .u64 (IntKind.wrap .u64 a1)), (44, .int .i64 (wi (Int.tdiv (r21.1.length : Int) 264)))]) (by kernel_rfl) ?_
        refine WD.pure (i := 3) (v := .int .u64 (IntKind.wrap .u64 (wi (Int.tdiv (r21.1.length : Int) 264)))) (by kernel_rfl) (by kernel_rfl) (fun _ => by kernel_rfl) ?_
        refine WD.weaken [2, 7, 9, 43, 45] (L' := [(2, .int .i64 a2), (7, .slice A30 r21.1.length c31), (9, .int .i64 (wi (Int.tdiv (r21.1.length : Int) 264))), (43, .int .u64 (IntKind.wrap .u64 a1)), (45, .int .u64 (IntKind.wrap .u64 (wi (Int.tdiv (r21.1.length : Int) 264))))]) (by kernel_rfl) ?_
        obtain ⟨_, e35, H⟩ := bind_ex H
        refine WD.ofP (i := 4) (by kernel_rfl) (PSt.div (k := .u64) (t := 40) (t2 := 40) (a := (IntKind.wrap .u64 a1)) (b := (IntKind.wrap .u64 (wi (Int.tdiv (r21.1.length : Int) 264)))) .rem (by decide) (.tmp 43) (.tmp 45) (by kernel_rfl) (by kernel_rfl) (by kernel_rfl) (by kernel_rfl) (of_decide_eq_true (chk?_some e35)) ?_)
        refine WD.weaken [2, 7, 9, 46] (L' := [(2, .int .i64 a2), (7, .slice A30 r21.1.length c31), (9, .int .i64 (wi (Int.tdiv (r21.1.length : Int) 264))), (46, .int .u64 (Int.tmod (IntKind.wrap .u64 a1) (IntKind.wrap .u64 (wi (Int.tdiv (r21.1.length : Int) 264)))))]) (by kernel_rfl) ?_
        refine WD.pure (i := 5) (v := .int .i64 (wi (Int.tmod (IntKind.wrap .u64 a1) (IntKind.wrap .u64 (wi (Int.tdiv (r21.1.length : Int) 264)))))) (by kernel_rfl) (by kernel_rfl) (fun _ => by kernel_rfl) ?_
        refine WD.weaken [2, 7, 9, 47] (L' := [(2, .int .i64 a2), (7, .slice A30 r21.1.length c31), (9, .int .i64 (wi (Int.tdiv (r21.1.length : Int) 264))), (47, .int .i64 (wi (Int.tmod (IntKind.wrap .u64 a1) (IntKind.wrap .u64 (wi (Int.tdiv (r21.1.length : Int) 264))))))]) (by kernel_rfl) ?_
        refine WD.pure (i := 6) (v := .int .i64 a2) (by kernel_rfl) (by kernel_rfl) (fun _ => by kernel_rfl) ?_
        refine WD.weaken [7, 9, 47, 48] (L' := [(7, .slice A30 r21.1.length c31), (9, .int .i64 (wi (Int.tdiv (r21.1.length : Int) 264))), (47, .int .i64 (wi (Int.tmod (IntKind.wrap .u64 a1) (IntKind.wrap .u64 (wi (Int.tdiv (r21.1.length : Int) 264)))))), (48, .int .i64 a2)]) (by kernel_rfl) ?_
        refine WD.pure (i := 7) (v := .int .u64 (IntKind.wrap .u64 a2)) (by kernel_rfl) (by kernel_rfl) (fun _ => by kernel_rfl) ?_
        refine WD.weaken [7, 9, 47, 49] (L' := [(7, .slice A30 r21.1.length c31), (9, .int .i64 (wi (Int.tdiv (r21.1.length : Int) 264))), (47, .int .i64 (wi (Int.tmod (IntKind.wrap .u64 a1) (IntKind.wrap .u64 (wi (Int.tdiv (r21.1.length : Int) 264)))))), (49, .int .u64 (IntKind.wrap .u64 a2))]) (by kernel_rfl) ?_
        refine WD.pure (i := 8) (v := .int .i64 (wi (Int.tdiv (r21.1.length : Int) 264))) (by kernel_rfl) (by kernel_rfl) (fun _ => by kernel_rfl) ?_
        refine WD.weaken [7, 47, 49, 50] (L' := [(7, .slice A30 r21.1.length c31), (47, .int .i64 (wi (Int.tmod (IntKind.wrap .u64 a1) (IntKind.wrap .u64 (wi (Int.tdiv (r21.1.length : Int) 264)))))), (49, .int .u64 (IntKind.wrap .u64 a2)), (50, .int .i64 (wi (Int.tdiv (r21.1.length : Int) 264)))]) (by kernel_rfl) ?_
        refine WD.pure (i := 9) (v := .int .u64 (IntKind.wrap .u64 (wi (Int.tdiv (r21.1.length : Int) 264)))) (by kernel_rfl) (by kernel_rfl) (fun _ => by kernel_rfl) ?_
        refine WD.weaken [7, 47, 49, 51] (L' := [(7, .slice A30 r21.1.length c31), (47, .int .i64 (wi (Int.tmod (IntKind.wrap .u64 a1) (IntKind.wrap .u64 (wi (Int.tdiv (r21.1.length : Int) 264)))))), (49, .int .u64 (IntKind.wrap .u64 a2)), (51, .int .u64 (IntKind.wrap .u64 (wi (Int.tdiv (r21.1.length : Int) 264))))]) (by kernel_rfl) ?_
        obtain ⟨_, e36, H⟩ := bind_ex H
        refine WD.ofP (i := 10) (by kernel_rfl) (PSt.div (k := .u64) (t := 40) (t2 := 40) (a := (IntKind.wrap .u64 a2)) (b := (IntKind.wrap .u64 (wi (Int.tdiv (r21.1.length : Int) 264)))) .rem (by decide) (.tmp 49) (.tmp 51) (by kernel_rfl) (by kernel_rfl) (by kernel_rfl) (by kernel_rfl) (of_decide_eq_true (chk?_some e36)) ?_)
        refine WD.weaken [7, 47, 52] (L' := [(7, .slice A30 r21.1.length c31), (47, .int .i64 (wi (Int.tmod (IntKind.wrap .u64 a1) (IntKind.wrap .u64 (wi (Int.tdiv (r21.1.length : Int) 264)))))), (52, .int .u64 (Int.tmod (IntKind.wrap .u64 a2) (IntKind.wrap .u64 (wi (Int.tdiv (r21.1.length : Int) 264)))))]) (by kernel_rfl) ?_
        refine WD.pure (i := 11) (v := .int .i64 (wi (Int.tmod (IntKind.wrap .u64 a2) (IntKind.wrap .u64 (wi (Int.tdiv (r21.1.length : Int) 264)))))) (by kernel_rfl) (by kernel_rfl) (fun _ => by kernel_rfl) ?_
        refine WD.weaken [7, 47, 53] (L' := [(7, .slice A30 r21.1.length c31), (47, .int .i64 (wi (Int.tmod (IntKind.wrap .u64 a1) (IntKind.wrap .u64 (wi (Int.tdiv (r21.1.length : Int) 264)))))), (53, .int .i64 (wi (Int.tmod (IntKind.wrap .u64 a2) (IntKind.wrap .u64 (wi (Int.tdiv (r21.1.length : Int) 264))))))]) (by kernel_rfl) ?_
        refine WD.pure (i := 12) (v := .int .i64 (wi (Int.tmod (IntKind.wrap .u64 a1) (IntKind.wrap .u64 (wi (Int.tdiv (r21.1.length : Int) 264)))))) (by kernel_rfl) (by kernel_rfl) (fun _ => by kernel_rfl) ?_
        refine WD.weaken [7, 10, 53] (L' := [(7, .slice A30 r21.1.length c31), (10, .int .i64 (wi (Int.tmod (IntKind.wrap .u64 a1) (IntKind.wrap .u64 (wi (Int.tdiv (r21.1.length : Int) 264)))))), (53, .int .i64 (wi (Int.tmod (IntKind.wrap .u64 a2) (IntKind.wrap .u64 (wi (Int.tdiv (r21.1.length : Int) 264))))))]) (by kernel_rfl) ?_
        refine WD.pure (i := 13) (v := .int .i64 (wi (Int.tmod (IntKind.wrap .u64 a2) (IntKind.wrap .u64 (wi (Int.tdiv (r21.1.length : Int) 264)))))) (by kernel_rfl) (by kernel_rfl) (fun _ => by kernel_rfl) ?_
        refine WD.weaken [7, 10, 11] (L' := [(7, .slice A30 r21.1.length c31), (10, .int .i64 (wi (Int.tmod (IntKind.wrap .u64 a1) (IntKind.wrap .u64 (wi (Int.tdiv (r21.1.length : Int) 264)))))), (11, .int .i64 (wi (Int.tmod (IntKind.wrap .u64 a2) (IntKind.wrap .u64 (wi (Int.tdiv (r21.1.length : Int) 264))))))]) (by kernel_rfl) ?_
        refine WD.nil (by kernel_rfl) ?_
        refine At.go ?_
        refine WC.seq (by kernel_rfl) ?_
        refine WC.drawn (by kernel_rfl) (by kernel_rfl) 13 (by kernel_rfl) (fun w37 hw38 => ?_)
        have hS := hS.heap hw38.1 hw38.2
        refine WD.weaken [7, 10, 11] (L' := [(7, .slice A30 r21.1.length c31), (10, .int .i64 (wi (Int.tmod (IntKind.wrap .u64 a1) (IntKind.wrap .u64 (wi (Int.tdiv (r21.1.length : Int) 264)))))), (11, .int .i64 (wi (Int.tmod (IntKind.wrap .u64 a2) (IntKind.wrap .u64 (wi (Int.tdiv (r21.1.length : Int) 264))))))]) (by kernel_rfl) ?_
        refine WD.pure (i := 1) (v := .slice A30 r21.1.length c31) (by kernel_rfl) (by kernel_rfl) (fun _ => by kernel_rfl) ?_
        refine WD.weaken [7, 10, 11, 55] (L' := [(7, .slice A30 r21.1.length c31), (10, .int .i64 (wi (Int.tmod (IntKind.wrap .u64 a1) (IntKind.wrap .u64 (wi (Int.tdiv (r21.1.length : Int) 264)))))), (11, .int .i64 (wi (Int.tmod (IntKind.wrap .u64 a2) (IntKind.wrap .u64 (wi (Int.tdiv (r21.1.length : Int) 264)))))), (55, .slice A30 r21.1.length c31)]) (by kernel_rfl) ?_
        refine WD.pure (i := 2) (v := .int .i64 (wi (Int.tmod (IntKind.wrap .u64 a1) (IntKind.wrap .u64 (wi (Int.tdiv (r21.1.length : Int) 264)))))) (by kernel_rfl) (by kernel_rfl) (fun _ => by kernel_rfl) ?_
        refine WD.weaken [7, 10, 11, 55, 56] (L' := [(7, .slice A30 r21.1.length c31), (10, .int .i64 (wi (Int.tmod (IntKind.wrap .u64 a1) (IntKind.wrap .u64 (wi (Int.tdiv (r21.1.length : Int) 264)))))), (11, .int .i64 (wi (Int.tmod (IntKind.wrap .u64 a2) (IntKind.wrap .u64 (wi (Int.tdiv (r21.1.length : Int) 264)))))), (55, .slice A30 r21.1.length c31), (56, .int .i64 (wi (Int.tmod (IntKind.wrap .u64 a1) (IntKind.wrap .u64 (wi (Int.tdiv (r21.1.length : Int) 264))))))]) (by kernel_rfl) ?_
        refine WD.pure (i := 3) (v := .int .i64 (wi (264 * (wi (Int.tmod (IntKind.wrap .u64 a1) (IntKind.wrap .u64 (wi (Int.tdiv (r21.1.length : Int) 264)))))))) (by kernel_rfl) (by kernel_rfl) (fun _ => by kernel_rfl) ?_
        refine WD.weaken [7, 10, 11, 55, 57] (L' := [(7, .slice A30 r21.1.length c31), (10, .int .i64 (wi (Int.tmod (IntKind.wrap .u64 a1) (IntKind.wrap .u64 (wi (Int.tdiv (r21.1.length : Int) 264)))))), (11, .int .i64 (wi (Int.tmod (IntKind.wrap .u64 a2) (IntKind.wrap .u64 (wi (Int.tdiv (r21.1.length : Int) 264)))))), (55, .slice A30 r21.1.length c31), (57, .int .i64 (wi (264 * (wi (Int.tmod (IntKind.wrap .u64 a1) (IntKind.wrap .u64 (wi (Int.tdiv (r21.1.length : Int) 264))))))))]) (by kernel_rfl) ?_
        obtain ⟨y39, e40, H⟩ := bind_ex H
        refine WD.ofP (i := 4) (by kernel_rfl) (PSt.sub (A := A30) (c := c31) (.tmp 55) none (some (.tmp 57)) none (by kernel_rfl) (by kernel_rfl) E22 (by kernel_rfl) (Sat.rdAt 0 hS rfl).1 e40 rfl (Exists.intro IntKind.i64 (by kernel_rfl)) trivial (fun A41 c42 T43 => ?_))
        refine WD.weaken [7, 10, 11, 58] (L' := [(7, .slice A30 r21.1.length c31), (10, .int .i64 (wi (Int.tmod (IntKind.wrap .u64 a1) (IntKind.wrap .u64 (wi (Int.tdiv (r21.1.length : Int) 264)))))), (11, .int .i64 (wi (Int.tmod (IntKind.wrap .u64 a2) (IntKind.wrap .u64 (wi (Int.tdiv (r21.1.length : Int) 264)))))), (58, .slice A41 y39.length c42)]) (by kernel_rfl) ?_
        refine WD.pure (i := 6) (v := .slice A30 r21.1.length c31) (by kernel_rfl) (by kernel_rfl) (fun _ => by kernel_rfl) ?_
        refine WD.weaken [7, 10, 11, 58, 60] (L' := [(7, .slice A30 r21.1.length c31), (10, .int .i64 (wi (Int.tmod (IntKind.wrap .u64 a1) (IntKind.wrap .u64 (wi (Int.tdiv (r21.1.length : Int) 264)))))), (11, .int .i64 (wi (Int.tmod (IntKind.wrap .u64 a2) (IntKind.wrap .u64 (wi (Int.tdiv (r21.1.length : Int) 264)))))), (58, .slice A41 y39.length c42), (60, .slice A30 r21.1.length c31)]) (by kernel_rfl) ?_
        refine WD.pure (i := 7) (v := .int .i64 (wi (Int.tmod (IntKind.wrap .u64 a1) (IntKind.wrap .u64 (wi (Int.tdiv (r21.1.length : Int) 264)))))) (by kernel_rfl) (by kernel_rfl) (fun _ => by kernel_rfl) ?_
        refine WD.weaken [7, 10, 11, 58, 60, 61] (L' := [(7, .slice A30 r21.1.length c31), (10, .int .i64 (wi (Int.tmod (IntKind.wrap .u64 a1) (IntKind.wrap .u64 (wi (Int.tdiv (r21.1.length : Int) 264)))))), (11, .int .i64 (wi (Int.tmod (IntKind.wrap .u64 a2) (IntKind.wrap .u64 (wi (Int.tdiv (r21.1.length : Int) 264)))))), (58, .slice A41 y39.length c42), (60, .slice A30 r21.1.length c31), (61, .int .i64 (wi (Int.tmod (IntKind.wrap .u64 a1) (IntKind.wrap .u64 (wi (Int.tdiv (r21.1.length : Int) 264))))))]) (by kernel_rfl) ?_
        refine WD.pure (i := 8) (v := .int .i64 (wi (264 * (wi (Int.tmod (IntKind.wrap .u64 a1) (IntKind.wrap .u64 (wi (Int.tdiv (r21.1.length : Int) 264)))))))) (by kernel_rfl) (by kernel_rfl) (fun _ => by kernel_rfl) ?_
        refine WD.weaken [7, 10, 11, 58, 60, 62] (L' := [(7, .slice A30 r21.1.length c31), (10, .int .i64 (wi (Int.tmod (IntKind.wrap .u64 a1) (IntKind.wrap .u64 (wi (Int.tdiv (r21.1.length : Int) 264)))))), (11, .int .i64 (wi (Int.tmod (IntKind.wrap .u64 a2) (IntKind.wrap .u64 (wi (Int.tdiv (r21.1.length : Int) 264)))))), (58, .slice A41 y39.length c42), (60, .slice A30 r21.1.length c31), (62, .int .i64 (wi (264 * (wi (Int.tmod (IntKind.wrap .u64 a1) (IntKind.wrap .u64 (wi (Int.tdiv (r21.1.length : Int) 264))))))))]) (by kernel_rfl) ?_
        refine WD.pure (i := 9) (v := .int .i64 (wi ((wi (264 * (wi (Int.tmod (IntKind.wrap .u64 a1) (IntKind.wrap .u64 (wi (Int.tdiv (r21.1.length : Int) 264))))))) + 264))) (by kernel_rfl) (by kernel_rfl) (fun _ => by kernel_rfl) ?_
        refine WD.weaken [7, 10, 11, 58, 60, 63] (L' := [(7, .slice A30 r21.1.length c31), (10, .int .i64 (wi (Int.tmod (IntKind.wrap .u64 a1) (IntKind.wrap .u64 (wi (Int.tdiv (r21.1.length : Int) 264)))))), (11, .int .i64 (wi (Int.tmod (IntKind.wrap .u64 a2) (IntKind.wrap .u64 (wi (Int.tdiv (r21.1.length : Int) 264)))))), (58, .slice A41 y39.length c42), (60, .slice A30 r21.1.length c31), (63, .int .i64 (wi ((wi (264 * (wi (Int.tmod (IntKind.wrap .u64 a1) (IntKind.wrap .u64 (wi (Int.tdiv (r21.1.length : Int) 264))))))) + 264)))]) (by kernel_rfl) ?_
        obtain ⟨y44, e45, H⟩ := bind_ex H
        refine WD.ofP (i := 10) (by kernel_rfl) (PSt.sub (A := A30) (c := c31) (.tmp 60) (some (.tmp 63)) none none (by kernel_rfl) (by kernel_rfl) E22 (by kernel_rfl) (Sat.rdAt 0 hS rfl).1 e45 (Exists.intro IntKind.i64 (by kernel_rfl)) ⟨rfl, rfl⟩ trivial (fun A46 c47 T48 => ?_))
        refine WD.weaken [7, 10, 11, 58, 64] (L' := [(7, .slice A30 r21.1.length c31), (10, .int .i64 (wi (Int.tmod (IntKind.wrap .u64 a1) (IntKind.wrap .u64 (wi (Int.tdiv (r21.1.length : Int) 264)))))), (11, .int .i64 (wi (Int.tmod (IntKind.wrap .u64 a2) (IntKind.wrap .u64 (wi (Int.tdiv (r21.1.length : Int) 264)))))), (58, .slice A41 y39.length c42), (64, .slice A46 y44.length c47)]) (by kernel_rfl) ?_
        refine WD.act (i := 0) (by kernel_rfl) (St.box hS (by kernel_rfl) (.cells #[] 5) (fun b49 => .slice (some ⟨b49, 0, none⟩) 0 0) (fun _ => by kernel_rfl) (fun b49 w50 hS => ?_))
        refine ⟨(asked.nil _ _), ?_⟩
        refine WD.weaken [7, 10, 11, 54, 58, 64] (L' := [(7, .slice A30 r21.1.length c31), (10, .int .i64 (wi (Int.tmod (IntKind.wrap .u64 a1) (IntKind.wrap .u64 (wi (Int.tdiv (r21.1.length : Int) 264)))))), (11, .int .i64 (wi (Int.tmod (IntKind.wrap .u64 a2) (IntKind.wrap .u64 (wi (Int.tdiv (r21.1.length : Int) 264)))))), (54, .slice (some ⟨b49, 0, none⟩) 0 0), (58, .slice A41 y39.length c42), (64, .slice A46 y44.length c47)]) (by kernel_rfl) ?_
        have hS : Sat w50 (rf w0) [osl 5 (r0 (.int .u8)) 1 (some ⟨b49, 0, none⟩) (([] : List Int) : List Int).length (([] : List Int) : List Int), osl 5 (r0 (.int .u8)) 1 A30 c31 r21.1] := Sat.toOsl' (r0 (.int .u8)) 1 (([] : List Int) : List Int) hS rfl (rdL.nil _ _)
        obtain ⟨y52, e51, H⟩ := bind_ex H
        refine WD.act (i := 5) (by kernel_rfl) (St.append' (.tmp 54) (.tmp 58) (by kernel_rfl) (by kernel_rfl) E22 (r0_one _) hS (by kernel_rfl) (by kernel_rfl) (T43.rd _ _ (Sat.rdAt 1 hS rfl)) 140737488355328 (by kernel_rfl) (by kernel_rfl) e51 (fun A53 c54 w55 hS => ?_))
        refine ⟨(asked.nil _ _), ?_⟩
        refine WD.weaken [7, 10, 11, 59, 64] (L' := [(7, .slice A30 r21.1.length c31), (10, .int .i64 (wi (Int.tmod (IntKind.wrap .u64 a1) (IntKind.wrap .u64 (wi (Int.tdiv (r21.1.length : Int) 264)))))), (11, .int .i64 (wi (Int.tmod (IntKind.wrap .u64 a2) (IntKind.wrap .u64 (wi (Int.tdiv (r21.1.length : Int) 264)))))), (59, .slice A53 y52.length c54), (64, .slice A46 y44.length c47)]) (by kernel_rfl) ?_
        obtain ⟨y57, e56, H⟩ := bind_ex H
        refine WD.act (i := 11) (by kernel_rfl) (St.append' (.tmp 59) (.tmp 64) (by kernel_rfl) (by kernel_rfl) E22 (r0_one _) hS (by kernel_rfl) (by kernel_rfl) (T48.rd _ _ (Sat.rdAt 1 hS rfl)) 140737488355328 (by kernel_rfl) (by kernel_rfl) e56 (fun A58 c59 w60 hS => ?_))
        refine ⟨(asked.nil _ _), ?_⟩
        refine WD.weaken [7, 10, 11, 65] (L' := [(7, .slice A30 r21.1.length c31), (10, .int .i64 (wi (Int.tmod (IntKind.wrap .u64 a1) (IntKind.wrap .u64 (wi (Int.tdiv (r21.1.length : Int) 264)))))), (11, .int .i64 (wi (Int.tmod (IntKind.wrap .u64 a2) (IntKind.wrap .u64 (wi (Int.tdiv (r21.1.length : Int) 264)))))), (65, .slice A58 y57.length c59)]) (by kernel_rfl) ?_
        refine WD.pure (i := 12) (v := .slice A58 y57.length c59) (by kernel_rfl) (by kernel_rfl) (fun _ => by kernel_rfl) ?_
        refine WD.weaken [7, 10, 11, 12] (L' := [(7, .slice A30 r21.1.length c31), (10, .int .i64 (wi (Int.tmod (IntKind.wrap .u64 a1) (IntKind.wrap .u64 (wi (Int.tdiv (r21.1.length : Int) 264)))))), (11, .int .i64 (wi (Int.tmod (IntKind.wrap .u64 a2) (IntKind.wrap .u64 (wi (Int.tdiv (r21.1.length : Int) 264)))))), (12, .slice A58 y57.length c59)]) (by kernel_rfl) ?_
        refine WD.nil (by kernel_rfl) ?_
        refine At.go ?_
        refine WC.seq (by kernel_rfl) ?_
        refine WC.drawn (by kernel_rfl) (by kernel_rfl) 12 (by kernel_rfl) (fun w61 hw62 => ?_)
        have hS := hS.heap hw62.1 hw62.2
        refine WD.weaken [7, 10, 11, 12] (L' := [(7, .slice A30 r21.1.length c31), (10, .int .i64 (wi (Int.tmod (IntKind.wrap .u64 a1) (IntKind.wrap .u64 (wi (Int.tdiv (r21.1.length : Int) 264)))))), (11, .int .i64 (wi (Int.tmod (IntKind.wrap .u64 a2) (IntKind.wrap .u64 (wi (Int.tdiv (r21.1.length : Int) 264)))))), (12, .slice A58 y57.length c59)]) (by kernel_rfl) ?_
        refine WD.pure (i := 1) (v := .slice A30 r21.1.length c31) (by kernel_rfl) (by kernel_rfl) (fun _ => by kernel_rfl) ?_
        refine WD.weaken [7, 10, 11, 12, 67] (L' := [(7, .slice A30 r21.1.length c31), (10, .int .i64 (wi (Int.tmod (IntKind.wrap .u64 a1) (IntKind.wrap .u64 (wi (Int.tdiv (r21.1.length : Int) 264)))))), (11, .int .i64 (wi (Int.tmod (IntKind.wrap .u64 a2) (IntKind.wrap .u64 (wi (Int.tdiv (r21.1.length : Int) 264)))))), (12, .slice A58 y57.length c59), (67, .slice A30 r21.1.length c31)]) (by kernel_rfl) ?_
        refine WD.pure (i := 3) (v := .slice A30 r21.1.length c31) (by kernel_rfl) (by kernel_rfl) (fun _ => by kernel_rfl) ?_
        refine WD.weaken [7, 10, 11, 12, 67, 69] (L' := [(7, .slice A30 r21.1.length c31), (10, .int .i64 (wi (Int.tmod (IntKind.wrap .u64 a1) (IntKind.wrap .u64 (wi (Int.tdiv (r21.1.length : Int) 264)))))), (11, .int .i64 (wi (Int.tmod (IntKind.wrap .u64 a2) (IntKind.wrap .u64 (wi (Int.tdiv (r21.1.length : Int) 264)))))), (12, .slice A58 y57.length c59), (67, .slice A30 r21.1.length c31), (69, .slice A30 r21.1.length c31)]) (by kernel_rfl) ?_
        refine WD.pure (i := 4) (v := .int .i64 (wi (Int.tmod (IntKind.wrap .u64 a1) (IntKind.wrap .u64 (wi (Int.tdiv (r21.1.length : Int) 264)))))) (by kernel_rfl) (by kernel_rfl) (fun _ => by kernel_rfl) ?_
        refine WD.weaken [7, 10, 11, 12, 67, 69, 70] (L' := [(7, .slice A30 r21.1.length c31), (10, .int .i64 (wi (Int.tmod (IntKind.wrap .u64 a1) (IntKind.wrap .u64 (wi (Int.tdiv (r21.1.length : Int) 264)))))), (11, .int .i64 (wi (Int.tmod (IntKind.wrap .u64 a2) (IntKind.wrap .u64 (wi (Int.tdiv (r21.1.length : Int) 264)))))), (12, .slice A58 y57.length c59), (67, .slice A30 r21.1.length c31), (69, .slice A30 r21.1.length c31), (70, .int .i64 (wi (Int.tmod (IntKind.wrap .u64 a1) (IntKind.wrap .u64 (wi (Int.tdiv (r21.1.length : Int) 264))))))]) (by kernel_rfl) ?_
        refine WD.pure (i := 5) (v := .int .i64 (wi (264 * (wi (Int.tmod (IntKind.wrap .u64 a1) (IntKind.wrap .u64 (wi (Int.tdiv (r21.1.length : Int) 264)))))))) (by kernel_rfl) (by kernel_rfl) (fun _ => by kernel_rfl) ?_
        refine WD.weaken [7, 10, 11, 12, 67, 69, 71] (L' := [(7, .slice A30 r21.1.length c31), (10, .int .i64 (wi (Int.tmod (IntKind.wrap .u64 a1) (IntKind.wrap .u64 (wi (Int.tdiv (r21.1.length : Int) 264)))))), (11, .int .i64 (wi (Int.tmod (IntKind.wrap .u64 a2) (IntKind.wrap .u64 (wi (Int.tdiv (r21.1.length : Int) 264)))))), (12, .slice A58 y57.length c59), (67, .slice A30 r21.1.length c31), (69, .slice A30 r21.1.length c31), (71, .int .i64 (wi (264 * (wi (Int.tmod (IntKind.wrap .u64 a1) (IntKind.wrap .u64 (wi (Int.tdiv (r21.1.length : Int) 264))))))))]) (by kernel_rfl) ?_
        refine WD.pure (i := 6) (v := .int .i64 (wi (Int.tmod (IntKind.wrap .u64 a1) (IntKind.wrap .u64 (wi (Int.tdiv (r21.1.length : Int) 264)))))) (by kernel_rfl) (by kernel_rfl) (fun _ => by kernel_rfl) ?_
        refine WD.weaken [7, 10, 11, 12, 67, 69, 71, 72] (L' := [(7, .slice A30 r21.1.length c31), (10, .int .i64 (wi (Int.tmod (IntKind.wrap .u64 a1) (IntKind.wrap .u64 (wi (Int.tdiv (r21.1.length : Int) 264)))))), (11, .int .i64 (wi (Int.tmod (IntKind.wrap .u64 a2) (IntKind.wrap .u64 (wi (Int.tdiv (r21.1.length : Int) 264)))))), (12, .slice A58 y57.length c59), (67, .slice A30 r21.1.length c31), (69, .slice A30 r21.1.length c31), (71, .int .i64 (wi (264 * (wi (Int.tmod (IntKind.wrap .u64 a1) (IntKind.wrap .u64 (wi (Int.tdiv (r21.1.length : Int) 264)))))))), (72, .int .i64 (wi (Int.tmod (IntKind.wrap .u64 a1) (IntKind.wrap .u64 (wi (Int.tdiv (r21.1.length : Int) 264))))))]) (by kernel_rfl) ?_
        refine WD.pure (i := 7) (v := .int .i64 (wi (264 * (wi (Int.tmod (IntKind.wrap .u64 a1) (IntKind.wrap .u64 (wi (Int.tdiv (r21.1.length : Int) 264)))))))) (by kernel_rfl) (by kernel_rfl) (fun _ => by kernel_rfl) ?_
        refine WD.weaken [7, 10, 11, 12, 67, 69, 71, 73] (L' := [(7, .slice A30 r21.1.length c31), (10, .int .i64 (wi (Int.tmod (IntKind.wrap .u64 a1) (IntKind.wrap .u64 (wi (Int.tdiv (r21.1.length : Int) 264)))))), (11, .int .i64 (wi (Int.tmod (IntKind.wrap .u64 a2) (IntKind.wrap .u64 (wi (Int.tdiv (r21.1.length : Int) 264)))))), (12, .slice A58 y57.length c59), (67, .slice A30 r21.1.length c31), (69, .slice A30 r21.1.length c31), (71, .int .i64 (wi (264 * (wi (Int.tmod (IntKind.wrap .u64 a1) (IntKind.wrap .u64 (wi (Int.tdiv (r21.1.length : Int) 264)))))))), (73, .int .i64 (wi (264 * (wi (Int.tmod (IntKind.wrap .u64 a1) (IntKind.wrap .u64 (wi (Int.tdiv (r21.1.length : Int) 264))))))))]) (by kernel_rfl) ?_
        refine WD.pure (i := 8) (v := .int .i64 (wi ((wi (264 * (wi (Int.tmod (IntKind.wrap .u64 a1) (IntKind.wrap .u64 (wi (Int.tdiv (r21.1.length : Int) 264))))))) + 264))) (by kernel_rfl) (by kernel_rfl) (fun _ => by kernel_rfl) ?_
        refine WD.weaken [7, 10, 11, 12, 67, 69, 71, 74] (L' := [(7, .slice A30 r21.1.length c31), (10, .int .i64 (wi (Int.tmod (IntKind.wrap .u64 a1) (IntKind.wrap .u64 (wi (Int.tdiv (r21.1.length : Int) 264)))))), (11, .int .i64 (wi (Int.tmod (IntKind.wrap .u64 a2) (IntKind.wrap .u64 (wi (Int.tdiv (r21.1.length : Int) 264)))))), (12, .slice A58 y57.length c59), (67, .slice A30 r21.1.length c31), (69, .slice A30 r21.1.length c31), (71, .int .i64 (wi (264 * (wi (Int.tmod (IntKind.wrap .u64 a1) (IntKind.wrap .u64 (wi (Int.tdiv (r21.1.length : Int) 264)))))))), (74, .int .i64 (wi ((wi (264 * (wi (Int.tmod (IntKind.wrap .u64 a1) (IntKind.wrap .u64 (wi (Int.tdiv (r21.1.length : Int) 264))))))) + 264)))]) (by kernel_rfl) ?_
        obtain ⟨y63, e64, H⟩ := bind_ex H
        refine WD.ofP (i := 9) (by kernel_rfl) (PSt.sub (A := A30) (c := c31) (.tmp 69) (some (.tmp 71)) (some (.tmp 74)) none (by kernel_rfl) (by kernel_rfl) E22 (by kernel_rfl) (Sat.rdAt 1 hS rfl).1 e64 (Exists.intro IntKind.i64 (by kernel_rfl)) (Exists.intro IntKind.i64 (by kernel_rfl)) trivial (fun A65 c66 T67 => ?_))
        refine WD.weaken [7, 10, 11, 12, 67, 75] (L' := [(7, .slice A30 r21.1.length c31), (10, .int .i64 (wi (Int.tmod (IntKind.wrap .u64 a1) (IntKind.wrap .u64 (wi (Int.tdiv (r21.1.length : Int) 264)))))), (11, .int .i64 (wi (Int.tmod (IntKind.wrap .u64 a2) (IntKind.wrap .u64 (wi (Int.tdiv (r21.1.length : Int) 264)))))), (12, .slice A58 y57.length c59), (67, .slice A30 r21.1.length c31), (75, .slice A65 y63.length c66)]) (by kernel_rfl) ?_
        refine WD.act (i := 0) (by kernel_rfl) (St.box hS (by kernel_rfl) (.cells #[] 5) (fun b68 => .slice (some ⟨b68, 0, none⟩) 0 0) (fun _ => by kernel_rfl) (fun b68 w69 hS => ?_))
        refine ⟨(asked.nil _ _), ?_⟩
        refine WD.weaken [7, 10, 11, 12, 66, 67, 75] (L' := [(7, .slice A30 r21.1.length c31), (10, .int .i64 (wi (Int.tmod (IntKind.wrap .u64 a1) (IntKind.wrap .u64 (wi (Int.tdiv (r21.1.length : Int) 264)))))), (11, .int .i64 (wi (Int.tmod (IntKind.wrap .u64 a2) (IntKind.wrap .u64 (wi (Int.tdiv (r21.1.length : Int) 264)))))), (12, .slice A58 y57.length c59), (66, .slice (some ⟨b68, 0, none⟩) 0 0), (67, .slice A30 r21.1.length c31), (75, .slice A65 y63.length c66)]) (by kernel_rfl) ?_
        have hS : Sat w69 (rf w0) [osl 5 (r0 (.int .u8)) 1 (some ⟨b68, 0, none⟩) (([] : List Int) : List Int).length (([] : List Int) : List Int), osl 5 (r0 (.int .u8)) 1 A58 c59 y57, osl 5 (r0 (.int .u8)) 1 A30 c31 r21.1] := Sat.toOsl' (r0 (.int .u8)) 1 (([] : List Int) : List Int) hS rfl (rdL.nil _ _)
        obtain ⟨y71, e70, H⟩ := bind_ex H
        refine WD.act (i := 2) (by kernel_rfl) (St.append' (.tmp 66) (.tmp 67) (by kernel_rfl) (by kernel_rfl) E22 (r0_one _) hS (by kernel_rfl) (by kernel_rfl) (Sat.rdAt 2 hS rfl) 140737488355328 (by kernel_rfl) (by kernel_rfl) e70 (fun A72 c73 w74 hS => ?_))
        refine ⟨(asked.nil _ _), ?_⟩
        refine WD.weaken [7, 10, 11, 12, 68, 75] (L' := [(7, .slice A30 r21.1.length c31), (10, .int .i64 (wi (Int.tmod (IntKind.wrap .u64 a1) (IntKind.wrap .u64 (wi (Int.tdiv (r21.1.length : Int) 264)))))), (11, .int .i64 (wi (Int.tmod (IntKind.wrap .u64 a2) (IntKind.wrap .u64 (wi (Int.tdiv (r21.1.length : Int) 264)))))), (12, .slice A58 y57.length c59), (68, .slice A72 y71.length c73), (75, .slice A65 y63.length c66)]) (by kernel_rfl) ?_
        obtain ⟨y76, e75, H⟩ := bind_ex H
        refine WD.act (i := 10) (by kernel_rfl) (St.append' (.tmp 68) (.tmp 75) (by kernel_rfl) (by kernel_rfl) E22 (r0_one _) hS (by kernel_rfl) (by kernel_rfl) (T67.rd _ _ (Sat.rdAt 2 hS rfl)) 140737488355328 (by kernel_rfl) (by kernel_rfl) e75 (fun A77 c78 w79 hS => ?_))
        refine ⟨(asked.nil _ _), ?_⟩
        refine WD.weaken [7, 10, 11, 12, 76] (L' := [(7, .slice A30 r21.1.length c31), (10, .int .i64 (wi (Int.tmod (IntKind.wrap .u64 a1) (IntKind.wrap .u64 (wi (Int.tdiv (r21.1.length : Int) 264)))))), (11, .int .i64 (wi (Int.tmod (IntKind.wrap .u64 a2) (IntKind.wrap .u64 (wi (Int.tdiv (r21.1.length : Int) 264)))))), (12, .slice A58 y57.length c59), (76, .slice A77 y76.length c78)]) (by kernel_rfl) ?_
        refine WD.pure (i := 11) (v := .slice A77 y76.length c78) (by kernel_rfl) (by kernel_rfl) (fun _ => by kernel_rfl) ?_
        refine WD.weaken [7, 10, 11, 12, 13] (L' := [(7, .slice A30 r21.1.length c31), (10, .int .i64 (wi (Int.tmod (IntKind.wrap .u64 a1) (IntKind.wrap .u64 (wi (Int.tdiv (r21.1.length : Int) 264)))))), (11, .int .i64 (wi (Int.tmod (IntKind.wrap .u64 a2) (IntKind.wrap .u64 (wi (Int.tdiv (r21.1.length : Int) 264)))))), (12, .slice A58 y57.length c59), (13, .slice A77 y76.length c78)]) (by kernel_rfl) ?_
        refine WD.nil (by kernel_rfl) ?_
        refine At.go ?_
        refine WC.seq (by kernel_rfl) ?_
        refine WC.reg [0, 1, 2, 3, 4, 5, 6] (by kernel_rfl) (by kernel_rfl) ?_
        refine WR.runk [0] [1, 2, 3, 4, 5, 6] [7, 10, 11, 13, 78] (L' := [(7, .slice A30 r21.1.length c31), (10, .int .i64 (wi (Int.tmod (IntKind.wrap .u64 a1) (IntKind.wrap .u64 (wi (Int.tdiv (r21.1.length : Int) 264)))))), (11, .int .i64 (wi (Int.tmod (IntKind.wrap .u64 a2) (IntKind.wrap .u64 (wi (Int.tdiv (r21.1.length : Int) 264)))))), (13, .slice A77 y76.length c78), (78, .slice A58 y57.length c59)]) (w' := w79) (by kernel_rfl) ?_
        obtain ⟨r80, e81, H⟩ := bind_ex H
        refine WR.st (St.call (by kernel_rfl) (f := 10) (args := #[.slice A58 y57.length c59]) (by kernel_rfl) (image_Open.calls w79 A58 c59 y57 (Sat.rdAt 1 hS rfl) r80 e81) ?_)
        rintro _ w87 ⟨pv89, rfl, hS88⟩
        have hS : Sat w87 (rf w0) [optP O52 pv89 r80.1, osl 5 (r0 (.int .u8)) 1 A77 c78 y76, osl 5 (r0 (.int .u8)) 1 A58 c59 y57, osl 5 (r0 (.int .u8)) 1 A30 c31 r21.1] := hS.ext hS88
        refine WR.runk [2, 3, 4, 5, 6] [] [7, 10, 11, 13, 15] (L' := [(7, .slice A30 r21.1.length c31), (10, .int .i64 (wi (Int.tmod (IntKind.wrap .u64 a1) (IntKind.wrap .u64 (wi (Int.tdiv (r21.1.length : Int) 264)))))), (11, .int .i64 (wi (Int.tmod (IntKind.wrap .u64 a2) (IntKind.wrap .u64 (wi (Int.tdiv (r21.1.length : Int) 264)))))), (13, .slice A77 y76.length c78), (15, .int .i64 r80.2)]) (w' := w87) (by kernel_rfl) ?_
        refine WR.nil ?_
        refine At.go ?_
        refine WC.seq (by kernel_rfl) ?_
        refine WC.reg [0, 1, 2, 3, 4, 5, 6] (by kernel_rfl) (by kernel_rfl) ?_
        refine WR.runk [0] [1, 2, 3, 4, 5, 6] [7, 10, 11, 15, 83] (L' := [(7, .slice A30 r21.1.length c31), (10, .int .i64 (wi (Int.tmod (IntKind.wrap .u64 a1) (IntKind.wrap .u64 (wi (Int.tdiv (r21.1.length : Int) 264)))))), (11, .int .i64 (wi (Int.tmod (IntKind.wrap .u64 a2) (IntKind.wrap .u64 (wi (Int.tdiv (r21.1.length : Int) 264)))))), (15, .int .i64 r80.2), (83, .slice A77 y76.length c78)]) (w' := w87) (by kernel_rfl) ?_
        obtain ⟨r90, e91, H⟩ := bind_ex H
        refine WR.st (St.call (by kernel_rfl) (f := 10) (args := #[.slice A77 y76.length c78]) (by kernel_rfl) (image_Open.calls w87 A77 c78 y76 (Sat.rdAt 1 hS rfl) r90 e91) ?_)
        rintro _ w97 ⟨pv99, rfl, hS98⟩
        have hS : Sat w97 (rf w0) [optP O52 pv99 r90.1, optP O52 pv89 r80.1, osl 5 (r0 (.int .u8)) 1 A77 c78 y76, osl 5 (r0 (.int .u8)) 1 A58 c59 y57, osl 5 (r0 (.int .u8)) 1 A30 c31 r21.1] := hS.ext hS98
        refine WR.runk [2, 3, 4, 5, 6] [] [7, 10, 11, 15, 17] (L' := [(7, .slice A30 r21.1.length c31), (10, .int .i64 (wi (Int.tmod (IntKind.wrap .u64 a1) (IntKind.wrap .u64 (wi (Int.tdiv (r21.1.length : Int) 264)))))), (11, .int .i64 (wi (Int.tmod (IntKind.wrap .u64 a2) (IntKind.wrap .u64 (wi (Int.tdiv (r21.1.length : Int) 264)))))), (15, .int .i64 r80.2), (17, .int .i64 r90.2)]) (w' := w97) (by kernel_rfl) ?_
        refine WR.nil ?_
        refine At.go ?_
        refine WC.seq (by kernel_rfl) ?_
        refine WC.seq (by kernel_rfl) ?_
        refine WC.reg [0, 1, 2, 3, 4, 5] (by kernel_rfl) (by kernel_rfl) ?_
        refine WR.runk [0, 1, 2] [3, 4, 5] [7, 10, 11, 17, 89] (L' := [(7, .slice A30 r21.1.length c31), (10, .int .i64 (wi (Int.tmod (IntKind.wrap .u64 a1) (IntKind.wrap .u64 (wi (Int.tdiv (r21.1.length : Int) 264)))))), (11, .int .i64 (wi (Int.tmod (IntKind.wrap .u64 a2) (IntKind.wrap .u64 (wi (Int.tdiv (r21.1.length : Int) 264)))))), (17, .int .i64 r90.2), (89, .bool (r80.2 != 10))]) (w' := w97) (by kernel_rfl) ?_
        refine WR.split 89 (b := (r80.2 != 10)) (by kernel_rfl) (fun hb100 => ?_) (fun hb100 => ?_)
        · replace H := ite_t H hb100
          refine WR.runk [3, 4, 5] [] [7, 10, 11, 92] (L' := [(7, .slice A30 r21.1.length c31), (10, .int .i64 (wi (Int.tmod (IntKind.wrap .u64 a1) (IntKind.wrap .u64 (wi (Int.tdiv (r21.1.length : Int) 264)))))), (11, .int .i64 (wi (Int.tmod (IntKind.wrap .u64 a2) (IntKind.wrap .u64 (wi (Int.tdiv (r21.1.length : Int) 264)))))), (92, .bool true)]) (w' := w97) (by kernel_rfl) ?_
          refine WR.nil ?_
          refine At.go ?_
          refine WC.condT (by kernel_rfl) (by kernel_rfl) (by kernel_rfl) ?_
          refine WC.seq (by kernel_rfl) ?_
          refine WC.reg [0] (by kernel_rfl) (by kernel_rfl) ?_
          refine WR.runk [0] [] [6] (L' := [(6, .bool false)]) (w' := w97) (by kernel_rfl) ?_
          refine WR.nil ?_
          refine At.go ?_
          refine WC.ret (by kernel_rfl) ?_
          refine At.thenRet ?_
          obtain rfl := Option.some.inj H
          have hS : Sat w97 (rf w0) [] := hS.sel [] (by kernel_rfl)
          exact At.body [.bool false] (by kernel_rfl) ⟨_, rfl, rfl, hS⟩
        · replace H := ite_f H hb100
          refine WR.runk [3, 4, 5] [] [7, 10, 11, 92] (L' := [(7, .slice A30 r21.1.length c31), (10, .int .i64 (wi (Int.tmod (IntKind.wrap .u64 a1) (IntKind.wrap .u64 (wi (Int.tdiv (r21.1.length : Int) 264)))))), (11, .int .i64 (wi (Int.tmod (IntKind.wrap .u64 a2) (IntKind.wrap .u64 (wi (Int.tdiv (r21.1.length : Int) 264)))))), (92, .bool (r90.2 != 10))]) (w' := w97) (by kernel_rfl) ?_
          refine WR.nil ?_
          refine At.go ?_
          refine WC.cond (by kernel_rfl) (r90.2 != 10) (by kernel_rfl) (by kernel_rfl) (fun hb101 => ?_) (fun hb101 => ?_)
          · replace H := ite_t H hb101
            refine WC.seq (by kernel_rfl) ?_
            refine WC.reg [0] (by kernel_rfl) (by kernel_rfl) ?_
            refine WR.runk [0] [] [6] (L' := [(6, .bool false)]) (w' := w97) (by kernel_rfl) ?_
            refine WR.nil ?_
            refine At.go ?_
            refine WC.ret (by kernel_rfl) ?_
            refine At.thenRet ?_
            obtain rfl := Option.some.inj H
            have hS : Sat w97 (rf w0) [] := hS.sel [] (by kernel_rfl)
            exact At.body [.bool false] (by kernel_rfl) ⟨_, rfl, rfl, hS⟩
          · replace H := ite_f H hb101
            refine WC.skip (by kernel_rfl) ?_
            refine At.go ?_
            refine WC.seq (by kernel_rfl) ?_
            refine WC.seq (by kernel_rfl) ?_
            refine WC.reg [0, 1, 2] (by kernel_rfl) (by kernel_rfl) ?_
            refine WR.runk [0, 1, 2] [] [7, 10, 11, 95] (L' := [(7, .slice A30 r21.1.length c31), (10, .int .i64 (wi (Int.tmod (IntKind.wrap .u64 a1) (IntKind.wrap .u64 (wi (Int.tdiv (r21.1.length : Int) 264)))))), (11, .int .i64 (wi (Int.tmod (IntKind.wrap .u64 a2) (IntKind.wrap .u64 (wi (Int.tdiv (r21.1.length : Int) 264)))))), (95, .bool ((wi (Int.tmod (IntKind.wrap .u64 a1) (IntKind.wrap .u64 (wi (Int.tdiv (r21.1.length : Int) 264))))) == (wi (Int.tmod (IntKind.wrap .u64 a2) (IntKind.wrap .u64 (wi (Int.tdiv (r21.1.length : Int) 264)))))))]) (w' := w97) (by kernel_rfl) ?_
            refine WR.nil ?_
            refine At.go ?_
            refine WC.cond (by kernel_rfl) ((wi (Int.tmod (IntKind.wrap .u64 a1) (IntKind.wrap .u64 (wi (Int.tdiv (r21.1.length : Int) 264))))) == (wi (Int.tmod (IntKind.wrap .u64 a2) (IntKind.wrap .u64 (wi (Int.tdiv (r21.1.length : Int) 264)))))) (by kernel_rfl) (by kernel_rfl) (fun hb102 => ?_) (fun hb102 => ?_)
            · replace H := ite_t H hb102
              refine WC.seq (by kernel_rfl) ?_
              refine WC.reg [0] (by kernel_rfl) (by kernel_rfl) ?_
              refine WR.runk [0] [] [6] (L' := [(6, .bool true)]) (w' := w97) (by kernel_rfl) ?_
              refine WR.nil ?_
              refine At.go ?_
              refine WC.ret (by kernel_rfl) ?_
              refine At.thenRet ?_
              obtain rfl := Option.some.inj H
              have hS : Sat w97 (rf w0) [] := hS.sel [] (by kernel_rfl)
              exact At.body [.bool true] (by kernel_rfl) ⟨_, rfl, rfl, hS⟩
            · replace H := ite_f H hb102
              refine WC.skip (by kernel_rfl) ?_
              refine At.go ?_
              refine WC.seq (by kernel_rfl) ?_
              refine WC.reg [0, 1, 2, 3] (by kernel_rfl) (by kernel_rfl) ?_
              refine WR.runk [] [0, 1, 2, 3] [7, 10, 11] (L' := [(7, .slice A30 r21.1.length c31), (10, .int .i64 (wi (Int.tmod (IntKind.wrap .u64 a1) (IntKind.wrap .u64 (wi (Int.tdiv (r21.1.length : Int) 264)))))), (11, .int .i64 (wi (Int.tmod (IntKind.wrap .u64 a2) (IntKind.wrap .u64 (wi (Int.tdiv (r21.1.length : Int) 264))))))]) (w' := w97) (by kernel_rfl) ?_
              refine WR.st (St.box hS (by kernel_rfl) (.cells #[] 5) (fun b103 => .slice (some ⟨b103, 0, none⟩) 0 0) (fun _ => by kernel_rfl) (fun b103 w104 hS => ?_))
              refine WR.runk [1] [2, 3] [7, 10, 11, 96, 97] (L' := [(7, .slice A30 r21.1.length c31), (10, .int .i64 (wi (Int.tmod (IntKind.wrap .u64 a1) (IntKind.wrap .u64 (wi (Int.tdiv (r21.1.length : Int) 264)))))), (11, .int .i64 (wi (Int.tmod (IntKind.wrap .u64 a2) (IntKind.wrap .u64 (wi (Int.tdiv (r21.1.length : Int) 264)))))), (96, .slice (some ⟨b103, 0, none⟩) 0 0), (97, .slice A30 r21.1.length c31)]) (w' := w104) (by kernel_rfl) ?_
              have hS : Sat w104 (rf w0) [osl 5 (r0 (.int .u8)) 1 (some ⟨b103, 0, none⟩) (([] : List Int) : List Int).length (([] : List Int) : List Int), optP O52 pv99 r90.1, optP O52 pv89 r80.1, osl 5 (r0 (.int .u8)) 1 A77 c78 y76, osl 5 (r0 (.int .u8)) 1 A58 c59 y57, osl 5 (r0 (.int .u8)) 1 A30 c31 r21.1] := Sat.toOsl' (r0 (.int .u8)) 1 (([] : List Int) : List Int) hS rfl (rdL.nil _ _)
              obtain ⟨y106, e105, H⟩ := bind_ex H
              refine WR.st (St.append' (.tmp 96) (.tmp 97) (by kernel_rfl) (by kernel_rfl) E22 (r0_one _) hS (by kernel_rfl) (by kernel_rfl) (Sat.rdAt 5 hS rfl) 140737488355328 (by kernel_rfl) (by kernel_rfl) e105 (fun A107 c108 w109 hS => ?_))
              refine WR.runk [3] [] [7, 10, 11, 18] (L' := [(7, .slice A30 r21.1.length c31), (10, .int .i64 (wi (Int.tmod (IntKind.wrap .u64 a1) (IntKind.wrap .u64 (wi (Int.tdiv (r21.1.length : Int) 264)))))), (11, .int .i64 (wi (Int.tmod (IntKind.wrap .u64 a2) (IntKind.wrap .u64 (wi (Int.tdiv (r21.1.length : Int) 264)))))), (18, .slice A107 y106.length c108)]) (w' := w109) (by kernel_rfl) ?_
              refine WR.nil ?_
              refine At.go ?_
              refine WC.seq (by kernel_rfl) ?_
              refine WC.drawn (by kernel_rfl) (by kernel_rfl) 15 (by kernel_rfl) (fun w110 hw111 => ?_)
              have hS := hS.heap hw111.1 hw111.2
              refine WD.weaken [7, 10, 11, 18] (L' := [(7, .slice A30 r21.1.length c31), (10, .int .i64 (wi (Int.tmod (IntKind.wrap .u64 a1) (IntKind.wrap .u64 (wi (Int.tdiv (r21.1.length : Int) 264)))))), (11, .int .i64 (wi (Int.tmod (IntKind.wrap .u64 a2) (IntKind.wrap .u64 (wi (Int.tdiv (r21.1.length : Int) 264)))))), (18, .slice A107 y106.length c108)]) (by kernel_rfl) ?_
              refine WD.pure (i := 0) (v := .slice A107 y106.length c108) (by kernel_rfl) (by kernel_rfl) (fun _ => by kernel_rfl) ?_
              refine WD.weaken [7, 10, 11, 18, 99] (L' := [(7, .slice A30 r21.1.length c31), (10, .int .i64 (wi (Int.tmod (IntKind.wrap .u64 a1) (IntKind.wrap .u64 (wi (Int.tdiv (r21.1.length : Int) 264)))))), (11, .int .i64 (wi (Int.tmod (IntKind.wrap .u64 a2) (IntKind.wrap .u64 (wi (Int.tdiv (r21.1.length : Int) 264)))))), (18, .slice A107 y106.length c108), (99, .slice A107 y106.length c108)]) (by kernel_rfl) ?_
              refine WD.pure (i := 1) (v := .int .i64 (wi (Int.tmod (IntKind.wrap .u64 a1) (IntKind.wrap .u64 (wi (Int.tdiv (r21.1.length : Int) 264)))))) (by kernel_rfl) (by kernel_rfl) (fun _ => by kernel_rfl) ?_
              refine WD.weaken [7, 10, 11, 18, 99, 100] (L' := [(7, .slice A30 r21.1.length c31), (10, .int .i64 (wi (Int.tmod (IntKind.wrap .u64 a1) (IntKind.wrap .u64 (wi (Int.tdiv (r21.1.length : Int) 264)))))), (11, .int .i64 (wi (Int.tmod (IntKind.wrap .u64 a2) (IntKind.wrap .u64 (wi (Int.tdiv (r21.1.length : Int) 264)))))), (18, .slice A107 y106.length c108), (99, .slice A107 y106.length c108), (100, .int .i64 (wi (Int.tmod (IntKind.wrap .u64 a1) (IntKind.wrap .u64 (wi (Int.tdiv (r21.1.length : Int) 264))))))]) (by kernel_rfl) ?_
              refine WD.pure (i := 2) (v := .int .i64 (wi (264 * (wi (Int.tmod (IntKind.wrap .u64 a1) (IntKind.wrap .u64 (wi (Int.tdiv (r21.1.length : Int) 264)))))))) (by kernel_rfl) (by kernel_rfl) (fun _ => by kernel_rfl) ?_
              refine WD.weaken [7, 10, 11, 18, 99, 101] (L' := [(7, .slice A30 r21.1.length c31), (10, .int .i64 (wi (Int.tmod (IntKind.wrap .u64 a1) (IntKind.wrap .u64 (wi (Int.tdiv (r21.1.length : Int) 264)))))), (11, .int .i64 (wi (Int.tmod (IntKind.wrap .u64 a2) (IntKind.wrap .u64 (wi (Int.tdiv (r21.1.length : Int) 264)))))), (18, .slice A107 y106.length c108), (99, .slice A107 y106.length c108), (101, .int .i64 (wi (264 * (wi (Int.tmod (IntKind.wrap .u64 a1) (IntKind.wrap .u64 (wi (Int.tdiv (r21.1.length : Int) 264))))))))]) (by kernel_rfl) ?_
              refine WD.pure (i := 3) (v := .int .i64 (wi (Int.tmod (IntKind.wrap .u64 a1) (IntKind.wrap .u64 (wi (Int.tdiv (r21.1.length : Int) 264)))))) (by kernel_rfl) (by kernel_rfl) (fun _ => by kernel_rfl) ?_
              refine WD.weaken [7, 10, 11, 18, 99, 101, 102] (L' := [(7, .slice A30 r21.1.length c31), (10, .int .i64 (wi (Int.tmod (IntKind.wrap .u64 a1) (IntKind.wrap .u64 (wi (Int.tdiv (r21.1.length : Int) 264)))))), (11, .int .i64 (wi (Int.tmod (IntKind.wrap .u64 a2) (IntKind.wrap .u64 (wi (Int.tdiv (r21.1.length : Int) 264)))))), (18, .slice A107 y106.length c108), (99, .slice A107 y106.length c108), (101, .int .i64 (wi (264 * (wi (Int.tmod (IntKind.wrap .u64 a1) (IntKind.wrap .u64 (wi (Int.tdiv (r21.1.length : Int) 264)))))))), (102, .int .i64 (wi (Int.tmod (IntKind.wrap .u64 a1) (IntKind.wrap .u64 (wi (Int.tdiv (r21.1.length : Int) 264))))))]) (by kernel_rfl) ?_
              refine WD.pure (i := 4) (v := .int .i64 (wi (264 * (wi (Int.tmod (IntKind.wrap .u64 a1) (IntKind.wrap .u64 (wi (Int.tdiv (r21.1.length : Int) 264)))))))) (by kernel_rfl) (by kernel_rfl) (fun _ => by kernel_rfl) ?_
              refine WD.weaken [7, 10, 11, 18, 99, 101, 103] (L' := [(7, .slice A30 r21.1.length c31), (10, .int .i64 (wi (Int.tmod (IntKind.wrap .u64 a1) (IntKind.wrap .u64 (wi (Int.tdiv (r21.1.length : Int) 264)))))), (11, .int .i64 (wi (Int.tmod (IntKind.wrap .u64 a2) (IntKind.wrap .u64 (wi (Int.tdiv (r21.1.length : Int) 264)))))), (18, .slice A107 y106.length c108), (99, .slice A107 y106.length c108), (101, .int .i64 (wi (264 * (wi (Int.tmod (IntKind.wrap .u64 a1) (IntKind.wrap .u64 (wi (Int.tdiv (r21.1.length : Int) 264)))))))), (103, .int .i64 (wi (264 * (wi (Int.tmod (IntKind.wrap .u64 a1) (IntKind.wrap .u64 (wi (Int.tdiv (r21.1.length : Int) 264))))))))]) (by kernel_rfl) ?_
              refine WD.pure (i := 5) (v := .int .i64 (wi ((wi (264 * (wi (Int.tmod (IntKind.wrap .u64 a1) (IntKind.wrap .u64 (wi (Int.tdiv (r21.1.length : Int) 264))))))) + 264))) (by kernel_rfl) (by kernel_rfl) (fun _ => by kernel_rfl) ?_
              refine WD.weaken [7, 10, 11, 18, 99, 101, 104] (L' := [(7, .slice A30 r21.1.length c31), (10, .int .i64 (wi (Int.tmod (IntKind.wrap .u64 a1) (IntKind.wrap .u64 (wi (Int.tdiv (r21.1.length : Int) 264)))))), (11, .int .i64 (wi (Int.tmod (IntKind.wrap .u64 a2) (IntKind.wrap .u64 (wi (Int.tdiv (r21.1.length : Int) 264)))))), (18, .slice A107 y106.length c108), (99, .slice A107 y106.length c108), (101, .int .i64 (wi (264 * (wi (Int.tmod (IntKind.wrap .u64 a1) (IntKind.wrap .u64 (wi (Int.tdiv (r21.1.length : Int) 264)))))))), (104, .int .i64 (wi ((wi (264 * (wi (Int.tmod (IntKind.wrap .u64 a1) (IntKind.wrap .u64 (wi (Int.tdiv (r21.1.length : Int) 264))))))) + 264)))]) (by kernel_rfl) ?_
              obtain ⟨y112, e113, H⟩ := bind_ex H
              refine WD.ofP (i := 6) (by kernel_rfl) (PSt.win (A := A107) (c := c108) (jl := wi (264 * (wi (Int.tmod (IntKind.wrap .u64 a1) (IntKind.wrap .u64 (wi (Int.tdiv (r21.1.length : Int) 264))))))) (.tmp 99) (some (.tmp 101)) (some (.tmp 104)) (by kernel_rfl) (by kernel_rfl) E22 (by kernel_rfl) (Sat.rdAt 0 hS rfl).1 e113 (Exists.intro IntKind.i64 (by kernel_rfl)) (Exists.intro IntKind.i64 (by kernel_rfl)) ?_)
              refine WD.weaken [7, 10, 11, 18, 105] (L' := [(7, .slice A30 r21.1.length c31), (10, .int .i64 (wi (Int.tmod (IntKind.wrap .u64 a1) (IntKind.wrap .u64 (wi (Int.tdiv (r21.1.length : Int) 264)))))), (11, .int .i64 (wi (Int.tmod (IntKind.wrap .u64 a2) (IntKind.wrap .u64 (wi (Int.tdiv (r21.1.length : Int) 264)))))), (18, .slice A107 y106.length c108), (105, .slice (win A107 c108 (wi (264 * (wi (Int.tmod (IntKind.wrap .u64 a1) (IntKind.wrap .u64 (wi (Int.tdiv (r21.1.length : Int) 264))))))).toNat) y112.length (c108 - (wi (264 * (wi (Int.tmod (IntKind.wrap .u64 a1) (IntKind.wrap .u64 (wi (Int.tdiv (r21.1.length : Int) 264))))))).toNat))]) (by kernel_rfl) ?_
              refine WD.pure (i := 7) (v := .slice A30 r21.1.length c31) (by kernel_rfl) (by kernel_rfl) (fun _ => by kernel_rfl) ?_
              refine WD.weaken [7, 10, 11, 18, 105, 106] (L' := [(7, .slice A30 r21.1.length c31), (10, .int .i64 (wi (Int.tmod (IntKind.wrap .u64 a1) (IntKind.wrap .u64 (wi (Int.tdiv (r21.1.length : Int) 264)))))), (11, .int .i64 (wi (Int.tmod (IntKind.wrap .u64 a2) (IntKind.wrap .u64 (wi (Int.tdiv (r21.1.length : Int) 264)))))), (18, .slice A107 y106.length c108), (105, .slice (win A107 c108 (wi (264 * (wi (Int.tmod (IntKind.wrap .u64 a1) (IntKind.wrap .u64 (wi (Int.tdiv (r21.1.length : Int) 264))))))).toNat) y112.length (c108 - (wi (264 * (wi (Int.tmod (IntKind.wrap .u64 a1) (IntKind.wrap .u64 (wi (Int.tdiv (r21.1.length : Int) 264))))))).toNat)), (106, .slice A30 r21.1.length c31)]) (by kernel_rfl) ?_
              refine WD.pure (i := 8) (v := .int .i64 (wi (Int.tmod (IntKind.wrap .u64 a2) (IntKind.wrap .u64 (wi (Int.tdiv (r21.1.length : Int) 264)))))) (by kernel_rfl) (by kernel_rfl) (fun _ => by kernel_rfl) ?_
              refine WD.weaken [7, 10, 11, 18, 105, 106, 107] (L' := [(7, .slice A30 r21.1.length c31), (10, .int .i64 (wi (Int.tmod (IntKind.wrap .u64 a1) (IntKind.wrap .u64 (wi (Int.tdiv (r21.1.length : Int) 264)))))), (11, .int .i64 (wi (Int.tmod (IntKind.wrap .u64 a2) (IntKind.wrap .u64 (wi (Int.tdiv (r21.1.length : Int) 264)))))), (18, .slice A107 y106.length c108), (105, .slice (win A107 c108 (wi (264 * (wi (Int.tmod (IntKind.wrap .u64 a1) (IntKind.wrap .u64 (wi (Int.tdiv (r21.1.length : Int) 264))))))).toNat) y112.length (c108 - (wi (264 * (wi (Int.tmod (IntKind.wrap .u64 a1) (IntKind.wrap .u64 (wi (Int.tdiv (r21.1.length : Int) 264))))))).toNat)), (106, .slice A30 r21.1.length c31), (107, .int .i64 (wi (Int.tmod (IntKind.wrap .u64 a2) (IntKind.wrap .u64 (wi (Int.tdiv (r21.1.length : Int) 264))))))]) (by kernel_rfl) ?_
              refine WD.pure (i := 9) (v := .int .i64 (wi (264 * (wi (Int.tmod (IntKind.wrap .u64 a2) (IntKind.wrap .u64 (wi (Int.tdiv (r21.1.length : Int) 264)))))))) (by kernel_rfl) (by kernel_rfl) (fun _ => by kernel_rfl) ?_
              refine WD.weaken [7, 10, 11, 18, 105, 106, 108] (L' := [(7, .slice A30 r21.1.length c31), (10, .int .i64 (wi (Int.tmod (IntKind.wrap .u64 a1) (IntKind.wrap .u64 (wi (Int.tdiv (r21.1.length : Int) 264)))))), (11, .int .i64 (wi (Int.tmod (IntKind.wrap .u64 a2) (IntKind.wrap .u64 (wi (Int.tdiv (r21.1.length : Int) 264)))))), (18, .slice A107 y106.length c108), (105, .slice (win A107 c108 (wi (264 * (wi (Int.tmod (IntKind.wrap .u64 a1) (IntKind.wrap .u64 (wi (Int.tdiv (r21.1.length : Int) 264))))))).toNat) y112.length (c108 - (wi (264 * (wi (Int.tmod (IntKind.wrap .u64 a1) (IntKind.wrap .u64 (wi (Int.tdiv (r21.1.length : Int) 264))))))).toNat)), (106, .slice A30 r21.1.length c31), (108, .int .i64 (wi (264 * (wi (Int.tmod (IntKind.wrap .u64 a2) (IntKind.wrap .u64 (wi (Int.tdiv (r21.1.length : Int) 264))))))))]) (by kernel_rfl) ?_
              refine WD.pure (i := 10) (v := .int .i64 (wi (Int.tmod (IntKind.wrap .u64 a2) (IntKind.wrap .u64 (wi (Int.tdiv (r21.1.length : Int) 264)))))) (by kernel_rfl) (by kernel_rfl) (fun _ => by kernel_rfl) ?_
              refine WD.weaken [7, 10, 11, 18, 105, 106, 108, 109] (L' := [(7, .slice A30 r21.1.length c31), (10, .int .i64 (wi (Int.tmod (IntKind.wrap .u64 a1) (IntKind.wrap .u64 (wi (Int.tdiv (r21.1.length : Int) 264)))))), (11, .int .i64 (wi (Int.tmod (IntKind.wrap .u64 a2) (IntKind.wrap .u64 (wi (Int.tdiv (r21.1.length : Int) 264)))))), (18, .slice A107 y106.length c108), (105, .slice (win A107 c108 (wi (264 * (wi (Int.tmod (IntKind.wrap .u64 a1) (IntKind.wrap .u64 (wi (Int.tdiv (r21.1.length : Int) 264))))))).toNat) y112.length (c108 - (wi (264 * (wi (Int.tmod (IntKind.wrap .u64 a1) (IntKind.wrap .u64 (wi (Int.tdiv (r21.1.length : Int) 264))))))).toNat)), (106, .slice A30 r21.1.length c31), (108, .int .i64 (wi (264 * (wi (Int.tmod (IntKind.wrap .u64 a2) (IntKind.wrap .u64 (wi (Int.tdiv (r21.1.length : Int) 264)))))))), (109, .int .i64 (wi (Int.tmod (IntKind.wrap .u64 a2) (IntKind.wrap .u64 (wi (Int.tdiv (r21.1.length : Int) 264))))))]) (by kernel_rfl) ?_
              refine WD.pure (i := 11) (v := .int .i64 (wi (264 * (wi (Int.tmod (IntKind.wrap .u64 a2) (IntKind.wrap .u64 (wi (Int.tdiv (r21.1.length : Int) 264)))))))) (by kernel_rfl) (by kernel_rfl) (fun _ => by kernel_rfl) ?_
              refine WD.weaken [7, 10, 11, 18, 105, 106, 108, 110] (L' := [(7, .slice A30 r21.1.length c31), (10, .int .i64 (wi (Int.tmod (IntKind.wrap .u64 a1) (IntKind.wrap .u64 (wi (Int.tdiv (r21.1.length : Int) 264)))))), (11, .int .i64 (wi (Int.tmod (IntKind.wrap .u64 a2) (IntKind.wrap .u64 (wi (Int.tdiv (r21.1.length : Int) 264)))))), (18, .slice A107 y106.length c108), (105, .slice (win A107 c108 (wi (264 * (wi (Int.tmod (IntKind.wrap .u64 a1) (IntKind.wrap .u64 (wi (Int.tdiv (r21.1.length : Int) 264))))))).toNat) y112.length (c108 - (wi (264 * (wi (Int.tmod (IntKind.wrap .u64 a1) (IntKind.wrap .u64 (wi (Int.tdiv (r21.1.length : Int) 264))))))).toNat)), (106, .slice A30 r21.1.length c31), (108, .int .i64 (wi (264 * (wi (Int.tmod (IntKind.wrap .u64 a2) (IntKind.wrap .u64 (wi (Int.tdiv (r21.1.length : Int) 264)))))))), (110, .int .i64 (wi (264 * (wi (Int.tmod (IntKind.wrap .u64 a2) (IntKind.wrap .u64 (wi (Int.tdiv (r21.1.length : Int) 264))))))))]) (by kernel_rfl) ?_
              refine WD.pure (i := 12) (v := .int .i64 (wi ((wi (264 * (wi (Int.tmod (IntKind.wrap .u64 a2) (IntKind.wrap .u64 (wi (Int.tdiv (r21.1.length : Int) 264))))))) + 264))) (by kernel_rfl) (by kernel_rfl) (fun _ => by kernel_rfl) ?_
              refine WD.weaken [7, 10, 11, 18, 105, 106, 108, 111] (L' := [(7, .slice A30 r21.1.length c31), (10, .int .i64 (wi (Int.tmod (IntKind.wrap .u64 a1) (IntKind.wrap .u64 (wi (Int.tdiv (r21.1.length : Int) 264)))))), (11, .int .i64 (wi (Int.tmod (IntKind.wrap .u64 a2) (IntKind.wrap .u64 (wi (Int.tdiv (r21.1.length : Int) 264)))))), (18, .slice A107 y106.length c108), (105, .slice (win A107 c108 (wi (264 * (wi (Int.tmod (IntKind.wrap .u64 a1) (IntKind.wrap .u64 (wi (Int.tdiv (r21.1.length : Int) 264))))))).toNat) y112.length (c108 - (wi (264 * (wi (Int.tmod (IntKind.wrap .u64 a1) (IntKind.wrap .u64 (wi (Int.tdiv (r21.1.length : Int) 264))))))).toNat)), (106, .slice A30 r21.1.length c31), (108, .int .i64 (wi (264 * (wi (Int.tmod (IntKind.wrap .u64 a2) (IntKind.wrap .u64 (wi (Int.tdiv (r21.1.length : Int) 264)))))))), (111, .int .i64 (wi ((wi (264 * (wi (Int.tmod (IntKind.wrap .u64 a2) (IntKind.wrap .u64 (wi (Int.tdiv (r21.1.length : Int) 264))))))) + 264)))]) (by kernel_rfl) ?_
              obtain ⟨y114, e115, H⟩ := bind_ex H
              refine WD.ofP (i := 13) (by kernel_rfl) (PSt.sub (A := A30) (c := c31) (.tmp 106) (some (.tmp 108)) (some (.tmp 111)) none (by kernel_rfl) (by kernel_rfl) E22 (by kernel_rfl) (Sat.rdAt 5 hS rfl).1 e115 (Exists.intro IntKind.i64 (by kernel_rfl)) (Exists.intro IntKind.i64 (by kernel_rfl)) trivial (fun A116 c117 T118 => ?_))
              refine WD.weaken [7, 10, 11, 18, 105, 112] (L' := [(7, .slice A30 r21.1.length c31), (10, .int .i64 (wi (Int.tmod (IntKind.wrap .u64 a1) (IntKind.wrap .u64 (wi (Int.tdiv (r21.1.length : Int) 264)))))), (11, .int .i64 (wi (Int.tmod (IntKind.wrap .u64 a2) (IntKind.wrap .u64 (wi (Int.tdiv (r21.1.length : Int) 264)))))), (18, .slice A107 y106.length c108), (105, .slice (win A107 c108 (wi (264 * (wi (Int.tmod (IntKind.wrap .u64 a1) (IntKind.wrap .u64 (wi (Int.tdiv (r21.1.length : Int) 264))))))).toNat) y112.length (c108 - (wi (264 * (wi (Int.tmod (IntKind.wrap .u64 a1) (IntKind.wrap .u64 (wi (Int.tdiv (r21.1.length : Int) 264))))))).toNat)), (112, .slice A116 y114.length c117)]) (by kernel_rfl) ?_
              refine WD.act (i := 14) (by kernel_rfl) (St.copyIn (t := 22) (t2 := 22) (e := 5) (.tmp 105) (.tmp 112) (by kernel_rfl) (by kernel_rfl) (by kernel_rfl) (by kernel_rfl) (r0_one _) hS e113 (by kernel_rfl) (by kernel_rfl) (T118.rd _ _ (Sat.rdAt 5 hS rfl)) (fun w119 hS => ?_))
              have hl120 := cpyIn_len e113 y114
              refine ⟨(asked.nil _ _), ?_⟩
              refine WD.know 18 (.slice A107 (cpyIn y106 (wi (264 * (wi (Int.tmod (IntKind.wrap .u64 a1) (IntKind.wrap .u64 (wi (Int.tdiv (r21.1.length : Int) 264))))))).toNat (wi ((wi (264 * (wi (Int.tmod (IntKind.wrap .u64 a1) (IntKind.wrap .u64 (wi (Int.tdiv (r21.1.length : Int) 264))))))) + 264)).toNat y112 y114).length c108) (.slice A107 y106.length c108) (by kernel_rfl) (by rw [hl120]) ?_
              refine WD.weaken [7, 10, 11, 18] (L' := [(7, .slice A30 r21.1.length c31), (10, .int .i64 (wi (Int.tmod (IntKind.wrap .u64 a1) (IntKind.wrap .u64 (wi (Int.tdiv (r21.1.length : Int) 264)))))), (11, .int .i64 (wi (Int.tmod (IntKind.wrap .u64 a2) (IntKind.wrap .u64 (wi (Int.tdiv (r21.1.length : Int) 264)))))), (18, .slice A107 (cpyIn y106 (wi (264 * (wi (Int.tmod (IntKind.wrap .u64 a1) (IntKind.wrap .u64 (wi (Int.tdiv (r21.1.length : Int) 264))))))).toNat (wi ((wi (264 * (wi (Int.tmod (IntKind.wrap .u64 a1) (IntKind.wrap .u64 (wi (Int.tdiv (r21.1.length : Int) 264))))))) + 264)).toNat y112 y114).length c108)]) (by kernel_rfl) ?_
              refine WD.nil (by kernel_rfl) ?_
              refine At.go ?_
              refine WC.seq (by kernel_rfl) ?_
              refine WC.drawn (by kernel_rfl) (by kernel_rfl) 15 (by kernel_rfl) (fun w121 hw122 => ?_)
              have hS := hS.heap hw122.1 hw122.2
              refine WD.weaken [7, 10, 11, 18] (L' := [(7, .slice A30 r21.1.length c31), (10, .int .i64 (wi (Int.tmod (IntKind.wrap .u64 a1) (IntKind.wrap .u64 (wi (Int.tdiv (r21.1.length : Int) 264)))))), (11, .int .i64 (wi (Int.tmod (IntKind.wrap .u64 a2) (IntKind.wrap .u64 (wi (Int.tdiv (r21.1.length : Int) 264)))))), (18, .slice A107 (cpyIn y106 (wi (264 * (wi (Int.tmod (IntKind.wrap .u64 a1) (IntKind.wrap .u64 (wi (Int.tdiv (r21.1.length : Int) 264))))))).toNat (wi ((wi (264 * (wi (Int.tmod (IntKind.wrap .u64 a1) (IntKind.wrap .u64 (wi (Int.tdiv (r21.1.length : Int) 264))))))) + 264)).toNat y112 y114).length c108)]) (by kernel_rfl) ?_
              refine WD.pure (i := 0) (v := .slice A107 (cpyIn y106 (wi (264 * (wi (Int.tmod (IntKind.wrap .u64 a1) (IntKind.wrap .u64 (wi (Int.tdiv (r21.1.length : Int) 264))))))).toNat (wi ((wi (264 * (wi (Int.tmod (IntKind.wrap .u64 a1) (IntKind.wrap .u64 (wi (Int.tdiv (r21.1.length : Int) 264))))))) + 264)).toNat y112 y114).length c108) (by kernel_rfl) (by kernel_rfl) (fun _ => by kernel_rfl) ?_
              refine WD.weaken [7, 10, 11, 18, 114] (L' := [(7, .slice A30 r21.1.length c31), (10, .int .i64 (wi (Int.tmod (IntKind.wrap .u64 a1) (IntKind.wrap .u64 (wi (Int.tdiv (r21.1.length : Int) 264)))))), (11, .int .i64 (wi (Int.tmod (IntKind.wrap .u64 a2) (IntKind.wrap .u64 (wi (Int.tdiv (r21.1.length : Int) 264)))))), (18, .slice A107 (cpyIn y106 (wi (264 * (wi (Int.tmod (IntKind.wrap .u64 a1) (IntKind.wrap .u64 (wi (Int.tdiv (r21.1.length : Int) 264))))))).toNat (wi ((wi (264 * (wi (Int.tmod (IntKind.wrap .u64 a1) (IntKind.wrap .u64 (wi (Int.tdiv (r21.1.length : Int) 264))))))) + 264)).toNat y112 y114).length c108), (114, .slice A107 (cpyIn y106 (wi (264 * (wi (Int.tmod (IntKind.wrap .u64 a1) (IntKind.wrap .u64 (wi (Int.tdiv (r21.1.length : Int) 264))))))).toNat (wi ((wi (264 * (wi (Int.tmod (IntKind.wrap .u64 a1) (IntKind.wrap .u64 (wi (Int.tdiv (r21.1.length : Int) 264))))))) + 264)).toNat y112 y114).length c108)]) (by kernel_rfl) ?_
              refine WD.pure (i := 1) (v := .int .i64 (wi (Int.tmod (IntKind.wrap .u64 a2) (IntKind.wrap .u64 (wi (Int.tdiv (r21.1.length : Int) 264)))))) (by kernel_rfl) (by kernel_rfl) (fun _ => by kernel_rfl) ?_
              refine WD.weaken [7, 10, 11, 18, 114, 115] (L' := [(7, .slice A30 r21.1.length c31), (10, .int .i64 (wi (Int.tmod (IntKind.wrap .u64 a1) (IntKind.wrap .u64 (wi (Int.tdiv (r21.1.length : Int) 264)))))), (11, .int .i64 (wi (Int.tmod (IntKind.wrap .u64 a2) (IntKind.wrap .u64 (wi (Int.tdiv (r21.1.length : Int) 264)))))), (18, .slice A107 (cpyIn y106 (wi (264 * (wi (Int.tmod (IntKind.wrap .u64 a1) (IntKind.wrap .u64 (wi (Int.tdiv (r21.1.length : Int) 264))))))).toNat (wi ((wi (264 * (wi (Int.tmod (IntKind.wrap .u64 a1) (IntKind.wrap .u64 (wi (Int.tdiv (r21.1.length : Int) 264))))))) + 264)).toNat y112 y114).length c108), (114, .slice A107 (cpyIn y106 (wi (264 * (wi (Int.tmod (IntKind.wrap .u64 a1) (IntKind.wrap .u64 (wi (Int.tdiv (r21.1.length : Int) 264))))))).toNat (wi ((wi (264 * (wi (Int.tmod (IntKind.wrap .u64 a1) (IntKind.wrap .u64 (wi (Int.tdiv (r21.1.length : Int) 264))))))) + 264)).toNat y112 y114).length c108), (115, .int .i64 (wi (Int.tmod (IntKind.wrap .u64 a2) (IntKind.wrap .u64 (wi (Int.tdiv (r21.1.length : Int) 264))))))]) (by kernel_rfl) ?_
              refine WD.pure (i := 2) (v := .int .i64 (wi (264 * (wi (Int.tmod (IntKind.wrap .u64 a2) (IntKind.wrap .u64 (wi (Int.tdiv (r21.1.length : Int) 264)))))))) (by kernel_rfl) (by kernel_rfl) (fun _ => by kernel_rfl) ?_
              refine WD.weaken [7, 10, 11, 18, 114, 116] (L' := [(7, .slice A30 r21.1.length c31), (10, .int .i64 (wi (Int.tmod (IntKind.wrap .u64 a1) (IntKind.wrap .u64 (wi (Int.tdiv (r21.1.length : Int) 264)))))), (11, .int .i64 (wi (Int.tmod (IntKind.wrap .u64 a2) (IntKind.wrap .u64 (wi (Int.tdiv (r21.1.length : Int) 264)))))), (18, .slice A107 (cpyIn y106 (wi (264 * (wi (Int.tmod (IntKind.wrap .u64 a1) (IntKind.wrap .u64 (wi (Int.tdiv (r21.1.length : Int) 264))))))).toNat (wi ((wi (264 * (wi (Int.tmod (IntKind.wrap .u64 a1) (IntKind.wrap .u64 (wi (Int.tdiv (r21.1.length : Int) 264))))))) + 264)).toNat y112 y114).length c108), (114, .slice A107 (cpyIn y106 (wi (264 * (wi (Int.tmod (IntKind.wrap .u64 a1) (IntKind.wrap .u64 (wi (Int.tdiv (r21.1.length : Int) 264))))))).toNat (wi ((wi (264 * (wi (Int.tmod (IntKind.wrap .u64 a1) (IntKind.wrap .u64 (wi (Int.tdiv (r21.1.length : Int) 264))))))) + 264)).toNat y112 y114).length c108), (116, .int .i64 (wi (264 * (wi (Int.tmod (IntKind.wrap .u64 a2) (IntKind.wrap .u64 (wi (Int.tdiv (r21.1.length : Int) 264))))))))]) (by kernel_rfl) ?_
              refine WD.pure (i := 3) (v := .int .i64 (wi (Int.tmod (IntKind.wrap .u64 a2) (IntKind.wrap .u64 (wi (Int.tdiv (r21.1.length : Int) 264)))))) (by kernel_rfl) (by kernel_rfl) (fun _ => by kernel_rfl) ?_
              refine WD.weaken [7, 10, 18, 114, 116, 117] (L' := [(7, .slice A30 r21.1.length c31), (10, .int .i64 (wi (Int.tmod (IntKind.wrap .u64 a1) (IntKind.wrap .u64 (wi (Int.tdiv (r21.1.length : Int) 264)))))), (18, .slice A107 (cpyIn y106 (wi (264 * (wi (Int.tmod (IntKind.wrap .u64 a1) (IntKind.wrap .u64 (wi (Int.tdiv (r21.1.length : Int) 264))))))).toNat (wi ((wi (264 * (wi (Int.tmod (IntKind.wrap .u64 a1) (IntKind.wrap .u64 (wi (Int.tdiv (r21.1.length : Int) 264))))))) + 264)).toNat y112 y114).length c108), (114, .slice A107 (cpyIn y106 (wi (264 * (wi (Int.tmod (IntKind.wrap .u64 a1) (IntKind.wrap .u64 (wi (Int.tdiv (r21.1.length : Int) 264))))))).toNat (wi ((wi (264 * (wi (Int.tmod (IntKind.wrap .u64 a1) (IntKind.wrap .u64 (wi (Int.tdiv (r21.1.length : Int) 264))))))) + 264)).toNat y112 y114).length c108), (116, .int .i64 (wi (264 * (wi (Int.tmod (IntKind.wrap .u64 a2) (IntKind.wrap .u64 (wi (Int.tdiv (r21.1.length : Int) 264)))))))), (117, .int .i64 (wi (Int.tmod (IntKind.wrap .u64 a2) (IntKind.wrap .u64 (wi (Int.tdiv (r21.1.length : Int) 264))))))]) (by kernel_rfl) ?_
              refine WD.pure (i := 4) (v := .int .i64 (wi (264 * (wi (Int.tmod (IntKind.wrap .u64 a2) (IntKind.wrap .u64 (wi (Int.tdiv (r21.1.length : Int) 264)))))))) (by kernel_rfl) (by kernel_rfl) (fun _ => by kernel_rfl) ?_
              refine WD.weaken [7, 10, 18, 114, 116, 118] (L' := [(7, .slice A30 r21.1.length c31), (10, .int .i64 (wi (Int.tmod (IntKind.wrap .u64 a1) (IntKind.wrap .u64 (wi (Int.tdiv (r21.1.length : Int) 264)))))), (18, .slice A107 (cpyIn y106 (wi (264 * (wi (Int.tmod (IntKind.wrap .u64 a1) (IntKind.wrap .u64 (wi (Int.tdiv (r21.1.length : Int) 264))))))).toNat (wi ((wi (264 * (wi (Int.tmod (IntKind.wrap .u64 a1) (IntKind.wrap .u64 (wi (Int.tdiv (r21.1.length : Int) 264))))))) + 264)).toNat y112 y114).length c108), (114, .slice A107 (cpyIn y106 (wi (264 * (wi (Int.tmod (IntKind.wrap .u64 a1) (IntKind.wrap .u64 (wi (Int.tdiv (r21.1.length : Int) 264))))))).toNat (wi ((wi (264 * (wi (Int.tmod (IntKind.wrap .u64 a1) (IntKind.wrap .u64 (wi (Int.tdiv (r21.1.length : Int) 264))))))) + 264)).toNat y112 y114).length c108), (116, .int .i64 (wi (264 * (wi (Int.tmod (IntKind.wrap .u64 a2) (IntKind.wrap .u64 (wi (Int.tdiv (r21.1.length : Int) 264)))))))), (118, .int .i64 (wi (264 * (wi (Int.tmod (IntKind.wrap .u64 a2) (IntKind.wrap .u64 (wi (Int.tdiv (r21.1.length : Int) 264))))))))]) (by kernel_rfl) ?_
              refine WD.pure (i := 5) (v := .int .i64 (wi ((wi (264 * (wi (Int.tmod (IntKind.wrap .u64 a2) (IntKind.wrap .u64 (wi (Int.tdiv (r21.1.length : Int) 264))))))) + 264))) (by kernel_rfl) (by kernel_rfl) (fun _ => by kernel_rfl) ?_
              refine WD.weaken [7, 10, 18, 114, 116, 119] (L' := [(7, .slice A30 r21.1.length c31), (10, .int .i64 (wi (Int.tmod (IntKind.wrap .u64 a1) (IntKind.wrap .u64 (wi (Int.tdiv (r21.1.length : Int) 264)))))), (18, .slice A107 (cpyIn y106 (wi (264 * (wi (Int.tmod (IntKind.wrap .u64 a1) (IntKind.wrap .u64 (wi (Int.tdiv (r21.1.length : Int) 264))))))).toNat (wi ((wi (264 * (wi (Int.tmod (IntKind.wrap .u64 a1) (IntKind.wrap .u64 (wi (Int.tdiv (r21.1.length : Int) 264))))))) + 264)).toNat y112 y114).length c108), (114, .slice A107 (cpyIn y106 (wi (264 * (wi (Int.tmod (IntKind.wrap .u64 a1) (IntKind.wrap .u64 (wi (Int.tdiv (r21.1.length : Int) 264))))))).toNat (wi ((wi (264 * (wi (Int.tmod (IntKind.wrap .u64 a1) (IntKind.wrap .u64 (wi (Int.tdiv (r21.1.length : Int) 264))))))) + 264)).toNat y112 y114).length c108), (116, .int .i64 (wi (264 * (wi (Int.tmod (IntKind.wrap .u64 a2) (IntKind.wrap .u64 (wi (Int.tdiv (r21.1.length : Int) 264)))))))), (119, .int .i64 (wi ((wi (264 * (wi (Int.tmod (IntKind.wrap .u64 a2) (IntKind.wrap .u64 (wi (Int.tdiv (r21.1.length : Int) 264))))))) + 264)))]) (by kernel_rfl) ?_
              obtain ⟨y123, e124, H⟩ := bind_ex H
              refine WD.ofP (i := 6) (by kernel_rfl) (PSt.win (A := A107) (c := c108) (jl := wi (264 * (wi (Int.tmod (IntKind.wrap .u64 a2) (IntKind.wrap .u64 (wi (Int.tdiv (r21.1.length : Int) 264))))))) (.tmp 114) (some (.tmp 116)) (some (.tmp 119)) (by kernel_rfl) (by kernel_rfl) E22 (by kernel_rfl) (Sat.rdAt 0 hS rfl).1 e124 (Exists.intro IntKind.i64 (by kernel_rfl)) (Exists.intro IntKind.i64 (by kernel_rfl)) ?_)
              refine WD.weaken [7, 10, 18, 120] (L' := [(7, .slice A30 r21.1.length c31), (10, .int .i64 (wi (Int.tmod (IntKind.wrap .u64 a1) (IntKind.wrap .u64 (wi (Int.tdiv (r21.1.length : Int) 264)))))), (18, .slice A107 (cpyIn y106 (wi (264 * (wi (Int.tmod (IntKind.wrap .u64 a1) (IntKind.wrap .u64 (wi (Int.tdiv (r21.1.length : Int) 264))))))).toNat (wi ((wi (264 * (wi (Int.tmod (IntKind.wrap .u64 a1) (IntKind.wrap .u64 (wi (Int.tdiv (r21.1.length : Int) 264))))))) + 264)).toNat y112 y114).length c108), (120, .slice (win A107 c108 (wi (264 * (wi (Int.tmod (IntKind.wrap .u64 a2) (IntKind.wrap .u64 (wi (Int.tdiv (r21.1.length : Int) 264))))))).toNat) y123.length (c108 - (wi (264 * (wi (Int.tmod (IntKind.wrap .u64 a2) (IntKind.wrap .u64 (wi (Int.tdiv (r21.1.length : Int) 264))))))).toNat))]) (by kernel_rfl) ?_
              refine WD.pure (i := 7) (v := .slice A30 r21.1.length c31) (by kernel_rfl) (by kernel_rfl) (fun _ => by kernel_rfl) ?_
              refine WD.weaken [10, 18, 120, 121] (L' := [(10, .int .i64 (wi (Int.tmod (IntKind.wrap .u64 a1) (IntKind.wrap .u64 (wi (Int.tdiv (r21.1.length : Int) 264)))))), (18, .slice A107 (cpyIn y106 (wi (264 * (wi (Int.tmod (IntKind.wrap .u64 a1) (IntKind.wrap .u64 (wi (Int.tdiv (r21.1.length : Int) 264))))))).toNat (wi ((wi (264 * (wi (Int.tmod (IntKind.wrap .u64 a1) (IntKind.wrap .u64 (wi (Int.tdiv (r21.1.length : Int) 264))))))) + 264)).toNat y112 y114).length c108), (120, .slice (win A107 c108 (wi (264 * (wi (Int.tmod (IntKind.wrap .u64 a2) (IntKind.wrap .u64 (wi (Int.tdiv (r21.1.length : Int) 264))))))).toNat) y123.length (c108 - (wi (264 * (wi (Int.tmod (IntKind.wrap .u64 a2) (IntKind.wrap .u64 (wi (Int.tdiv (r21.1.length : Int) 264))))))).toNat)), (121, .slice A30 r21.1.length c31)]) (by kernel_rfl) ?_
              refine WD.pure (i := 8) (v := .int .i64 (wi (Int.tmod (IntKind.wrap .u64 a1) (IntKind.wrap .u64 (wi (Int.tdiv (r21.1.length : Int) 264)))))) (by kernel_rfl) (by kernel_rfl) (fun _ => by kernel_rfl) ?_
              refine WD.weaken [10, 18, 120, 121, 122] (L' := [(10, .int .i64 (wi (Int.tmod (IntKind.wrap .u64 a1) (IntKind.wrap .u64 (wi (Int.tdiv (r21.1.length : Int) 264)))))), (18, .slice A107 (cpyIn y106 (wi (264 * (wi (Int.tmod (IntKind.wrap .u64 a1) (IntKind.wrap .u64 (wi (Int.tdiv (r21.1.length : Int) 264))))))).toNat (wi ((wi (264 * (wi (Int.tmod (IntKind.wrap .u64 a1) (IntKind.wrap .u64 (wi (Int.tdiv (r21.1.length : Int) 264))))))) + 264)).toNat y112 y114).length c108), (120, .slice (win A107 c108 (wi (264 * (wi (Int.tmod (IntKind.wrap .u64 a2) (IntKind.wrap .u64 (wi (Int.tdiv (r21.1.length : Int) 264))))))).toNat) y123.length (c108 - (wi (264 * (wi (Int.tmod (IntKind.wrap .u64 a2) (IntKind.wrap .u64 (wi (Int.tdiv (r21.1.length : Int) 264))))))).toNat)), (121, .slice A30 r21.1.length c31), (122, .int .i64 (wi (Int.tmod (IntKind.wrap .u64 a1) (IntKind.wrap .u64 (wi (Int.tdiv (r21.1.length : Int) 264))))))]) (by kernel_rfl) ?_
              refine WD.pure (i := 9) (v := .int .i64 (wi (264 * (wi (Int.tmod (IntKind.wrap .u64 a1) (IntKind.wrap .u64 (wi (Int.tdiv (r21.1.length : Int) 264)))))))) (by kernel_rfl) (by kernel_rfl) (fun _ => by kernel_rfl) ?_
              refine WD.weaken [10, 18, 120, 121, 123] (L' := [(10, .int .i64 (wi (Int.tmod (IntKind.wrap .u64 a1) (IntKind.wrap .u64 (wi (Int.tdiv (r21.1.length : Int) 264)))))), (18, .slice A107 (cpyIn y106 (wi (264 * (wi (Int.tmod (IntKind.wrap .u64 a1) (IntKind.wrap .u64 (wi (Int.tdiv (r21.1.length : Int) 264))))))).toNat (wi ((wi (264 * (wi (Int.tmod (IntKind.wrap .u64 a1) (IntKind.wrap .u64 (wi (Int.tdiv (r21.1.length : Int) 264))))))) + 264)).toNat y112 y114).length c108), (120, .slice (win A107 c108 (wi (264 * (wi (Int.tmod (IntKind.wrap .u64 a2) (IntKind.wrap .u64 (wi (Int.tdiv (r21.1.length : Int) 264))))))).toNat) y123.length (c108 - (wi (264 * (wi (Int.tmod (IntKind.wrap .u64 a2) (IntKind.wrap .u64 (wi (Int.tdiv (r21.1.length : Int) 264))))))).toNat)), (121, .slice A30 r21.1.length c31), (123, .int .i64 (wi (264 * (wi (Int.tmod (IntKind.wrap .u64 a1) (IntKind.wrap .u64 (wi (Int.tdiv (r21.1.length : Int) 264))))))))]) (by kernel_rfl) ?_
              refine WD.pure (i := 10) (v := .int .i64 (wi (Int.tmod (IntKind.wrap .u64 a1) (IntKind.wrap .u64 (wi (Int.tdiv (r21.1.length : Int) 264)))))) (by kernel_rfl) (by kernel_rfl) (fun _ => by kernel_rfl) ?_
              refine WD.weaken [18, 120, 121, 123, 124] (L' := [(18, .slice A107 (cpyIn y106 (wi (264 * (wi (Int.tmod (IntKind.wrap .u64 a1) (IntKind.wrap .u64 (wi (Int.tdiv (r21.1.length : Int) 264))))))).toNat (wi ((wi (264 * (wi (Int.tmod (IntKind.wrap .u64 a1) (IntKind.wrap .u64 (wi (Int.tdiv (r21.1.length : Int) 264))))))) + 264)).toNat y112 y114).length c108), (120, .slice (win A107 c108 (wi (264 * (wi (Int.tmod (IntKind.wrap .u64 a2) (IntKind.wrap .u64 (wi (Int.tdiv (r21.1.length : Int) 264))))))).toNat) y123.length (c108 - (wi (264 * (wi (Int.tmod (IntKind.wrap .u64 a2) (IntKind.wrap .u64 (wi (Int.tdiv (r21.1.length : Int) 264))))))).toNat)), (121, .slice A30 r21.1.length c31), (123, .int .i64 (wi (264 * (wi (Int.tmod (IntKind.wrap .u64 a1) (IntKind.wrap .u64 (wi (Int.tdiv (r21.1.length : Int) 264)))))))), (124, .int .i64 (wi (Int.tmod (IntKind.wrap .u64 a1) (IntKind.wrap .u64 (wi (Int.tdiv (r21.1.length : Int) 264))))))]) (by kernel_rfl) ?_
              refine WD.pure (i := 11) (v := .int .i64 (wi (264 * (wi (Int.tmod (IntKind.wrap .u64 a1) (IntKind.wrap .u64 (wi (Int.tdiv (r21.1.length : Int) 264)))))))) (by kernel_rfl) (by kernel_rfl) (fun _ => by kernel_rfl) ?_
              refine WD.weaken [18, 120, 121, 123, 125] (L' := [(18, .slice A107 (cpyIn y106 (wi (264 * (wi (Int.tmod (IntKind.wrap .u64 a1) (IntKind.wrap .u64 (wi (Int.tdiv (r21.1.length : Int) 264))))))).toNat (wi ((wi (264 * (wi (Int.tmod (IntKind.wrap .u64 a1) (IntKind.wrap .u64 (wi (Int.tdiv (r21.1.length : Int) 264))))))) + 264)).toNat y112 y114).length c108), (120, .slice (win A107 c108 (wi (264 * (wi (Int.tmod (IntKind.wrap .u64 a2) (IntKind.wrap .u64 (wi (Int.tdiv (r21.1.length : Int) 264))))))).toNat) y123.length (c108 - (wi (264 * (wi (Int.tmod (IntKind.wrap .u64 a2) (IntKind.wrap .u64 (wi (Int.tdiv (r21.1.length : Int) 264))))))).toNat)), (121, .slice A30 r21.1.length c31), (123, .int .i64 (wi (264 * (wi (Int.tmod (IntKind.wrap .u64 a1) (IntKind.wrap .u64 (wi (Int.tdiv (r21.1.length : Int) 264)))))))), (125, .int .i64 (wi (264 * (wi (Int.tmod (IntKind.wrap .u64 a1) (IntKind.wrap .u64 (wi (Int.tdiv (r21.1.length : Int) 264))))))))]) (by kernel_rfl) ?_
              refine WD.pure (i := 12) (v := .int .i64 (wi ((wi (264 * (wi (Int.tmod (IntKind.wrap .u64 a1) (IntKind.wrap .u64 (wi (Int.tdiv (r21.1.length : Int) 264))))))) + 264))) (by kernel_rfl) (by kernel_rfl) (fun _ => by kernel_rfl) ?_
              refine WD.weaken [18, 120, 121, 123, 126] (L' := [(18, .slice A107 (cpyIn y106 (wi (264 * (wi (Int.tmod (IntKind.wrap .u64 a1) (IntKind.wrap .u64 (wi (Int.tdiv (r21.1.length : Int) 264))))))).toNat (wi ((wi (264 * (wi (Int.tmod (IntKind.wrap .u64 a1) (IntKind.wrap .u64 (wi (Int.tdiv (r21.1.length : Int) 264))))))) + 264)).toNat y112 y114).length c108), (120, .slice (win A107 c108 (wi (264 * (wi (Int.tmod (IntKind.wrap .u64 a2) (IntKind.wrap .u64 (wi (Int.tdiv (r21.1.length : Int) 264))))))).toNat) y123.length (c108 - (wi (264 * (wi (Int.tmod (IntKind.wrap .u64 a2) (IntKind.wrap .u64 (wi (Int.tdiv (r21.1.length : Int) 264))))))).toNat)), (121, .slice A30 r21.1.length c31), (123, .int .i64 (wi (264 * (wi (Int.tmod (IntKind.wrap .u64 a1) (IntKind.wrap .u64 (wi (Int.tdiv (r21.1.length : Int) 264)))))))), (126, .int .i64 (wi ((wi (264 * (wi (Int.tmod (IntKind.wrap .u64 a1) (IntKind.wrap .u64 (wi (Int.tdiv (r21.1.length : Int) 264))))))) + 264)))]) (by kernel_rfl) ?_
              obtain ⟨y125, e126, H⟩ := bind_ex H
              refine WD.ofP (i := 13) (by kernel_rfl) (PSt.sub (A := A30) (c := c31) (.tmp 121) (some (.tmp 123)) (some (.tmp 126)) none (by kernel_rfl) (by kernel_rfl) E22 (by kernel_rfl) (Sat.rdAt 5 hS rfl).1 e126 (Exists.intro IntKind.i64 (by kernel_rfl)) (Exists.intro IntKind.i64 (by kernel_rfl)) trivial (fun A127 c128 T129 => ?_))
              refine WD.weaken [18, 120, 127] (L' := [(18, .slice A107 (cpyIn y106 (wi (264 * (wi (Int.tmod (IntKind.wrap .u64 a1) (IntKind.wrap .u64 (wi (Int.tdiv (r21.1.length : Int) 264))))))).toNat (wi ((wi (264 * (wi (Int.tmod (IntKind.wrap .u64 a1) (IntKind.wrap .u64 (wi (Int.tdiv (r21.1.length : Int) 264))))))) + 264)).toNat y112 y114).length c108), (120, .slice (win A107 c108 (wi (264 * (wi (Int.tmod (IntKind.wrap .u64 a2) (IntKind.wrap .u64 (wi (Int.tdiv (r21.1.length : Int) 264))))))).toNat) y123.length (c108 - (wi (264 * (wi (Int.tmod (IntKind.wrap .u64 a2) (IntKind.wrap .u64 (wi (Int.tdiv (r21.1.length : Int) 264))))))).toNat)), (127, .slice A127 y125.length c128)]) (by kernel_rfl) ?_
              refine WD.act (i := 14) (by kernel_rfl) (St.copyIn (t := 22) (t2 := 22) (e := 5) (.tmp 120) (.tmp 127) (by kernel_rfl) (by kernel_rfl) (by kernel_rfl) (by kernel_rfl) (r0_one _) hS e124 (by kernel_rfl) (by kernel_rfl) (T129.rd _ _ (Sat.rdAt 5 hS rfl)) (fun w130 hS => ?_))
              have hl131 := cpyIn_len e124 y125
              refine ⟨(asked.nil _ _), ?_⟩
              refine WD.know 18 (.slice A107 (cpyIn (cpyIn y106 (wi (264 * (wi (Int.tmod (IntKind.wrap .u64 a1) (IntKind.wrap .u64 (wi (Int.tdiv (r21.1.length : Int) 264))))))).toNat (wi ((wi (264 * (wi (Int.tmod (IntKind.wrap .u64 a1) (IntKind.wrap .u64 (wi (Int.tdiv (r21.1.length : Int) 264))))))) + 264)).toNat y112 y114) (wi (264 * (wi (Int.tmod (IntKind.wrap .u64 a2) (IntKind.wrap .u64 (wi (Int.tdiv (r21.1.length : Int) 264))))))).toNat (wi ((wi (264 * (wi (Int.tmod (IntKind.wrap .u64 a2) (IntKind.wrap .u64 (wi (Int.tdiv (r21.1.length : Int) 264))))))) + 264)).toNat y123 y125).length c108) (.slice A107 (cpyIn y106 (wi (264 * (wi (Int.tmod (IntKind.wrap .u64 a1) (IntKind.wrap .u64 (wi (Int.tdiv (r21.1.length : Int) 264))))))).toNat (wi ((wi (264 * (wi (Int.tmod (IntKind.wrap .u64 a1) (IntKind.wrap .u64 (wi (Int.tdiv (r21.1.length : Int) 264))))))) + 264)).toNat y112 y114).length c108) (by kernel_rfl) (by rw [hl131]) ?_
              refine WD.weaken [18] (L' := [(18, .slice A107 (cpyIn (cpyIn y106 (wi (264 * (wi (Int.tmod (IntKind.wrap .u64 a1) (IntKind.wrap .u64 (wi (Int.tdiv (r21.1.length : Int) 264))))))).toNat (wi ((wi (264 * (wi (Int.tmod (IntKind.wrap .u64 a1) (IntKind.wrap .u64 (wi (Int.tdiv (r21.1.length : Int) 264))))))) + 264)).toNat y112 y114) (wi (264 * (wi (Int.tmod (IntKind.wrap .u64 a2) (IntKind.wrap .u64 (wi (Int.tdiv (r21.1.length : Int) 264))))))).toNat (wi ((wi (264 * (wi (Int.tmod (IntKind.wrap .u64 a2) (IntKind.wrap .u64 (wi (Int.tdiv (r21.1.length : Int) 264))))))) + 264)).toNat y123 y125).length c108)]) (by kernel_rfl) ?_
              refine WD.nil (by kernel_rfl) ?_
              refine At.go ?_
              refine WC.seq (by kernel_rfl) ?_
              refine WC.reg [0, 1, 2, 3, 4, 5, 6] (by kernel_rfl) (by kernel_rfl) ?_
              refine WR.runk [0] [1, 2, 3, 4, 5, 6] [130] (L' := [(130, .slice A107 (cpyIn (cpyIn y106 (wi (264 * (wi (Int.tmod (IntKind.wrap .u64 a1) (IntKind.wrap .u64 (wi (Int.tdiv (r21.1.length : Int) 264))))))).toNat (wi ((wi (264 * (wi (Int.tmod (IntKind.wrap .u64 a1) (IntKind.wrap .u64 (wi (Int.tdiv (r21.1.length : Int) 264))))))) + 264)).toNat y112 y114) (wi (264 * (wi (Int.tmod (IntKind.wrap .u64 a2) (IntKind.wrap .u64 (wi (Int.tdiv (r21.1.length : Int) 264))))))).toNat (wi ((wi (264 * (wi (Int.tmod (IntKind.wrap .u64 a2) (IntKind.wrap .u64 (wi (Int.tdiv (r21.1.length : Int) 264))))))) + 264)).toNat y123 y125).length c108)]) (w' := w130) (by kernel_rfl) ?_
              obtain ⟨r132, e133, H⟩ := bind_ex H
              refine WR.st (St.call (by kernel_rfl) (f := 10) (args := #[.slice A107 (cpyIn (cpyIn y106 (wi (264 * (wi (Int.tmod (IntKind.wrap .u64 a1) (IntKind.wrap .u64 (wi (Int.tdiv (r21.1.length : Int) 264))))))).toNat (wi ((wi (264 * (wi (Int.tmod (IntKind.wrap .u64 a1) (IntKind.wrap .u64 (wi (Int.tdiv (r21.1.length : Int) 264))))))) + 264)).toNat y112 y114) (wi (264 * (wi (Int.tmod (IntKind.wrap .u64 a2) (IntKind.wrap .u64 (wi (Int.tdiv (r21.1.length : Int) 264))))))).toNat (wi ((wi (264 * (wi (Int.tmod (IntKind.wrap .u64 a2) (IntKind.wrap .u64 (wi (Int.tdiv (r21.1.length : Int) 264))))))) + 264)).toNat y123 y125).length c108]) (by kernel_rfl) (image_Open.calls w130 A107 c108 (cpyIn (cpyIn y106 (wi (264 * (wi (Int.tmod (IntKind.wrap .u64 a1) (IntKind.wrap .u64 (wi (Int.tdiv (r21.1.length : Int) 264))))))).toNat (wi ((wi (264 * (wi (Int.tmod (IntKind.wrap .u64 a1) (IntKind.wrap .u64 (wi (Int.tdiv (r21.1.length : Int) 264))))))) + 264)).toNat y112 y114) (wi (264 * (wi (Int.tmod (IntKind.wrap .u64 a2) (IntKind.wrap .u64 (wi (Int.tdiv (r21.1.length : Int) 264))))))).toNat (wi ((wi (264 * (wi (Int.tmod (IntKind.wrap .u64 a2) (IntKind.wrap .u64 (wi (Int.tdiv (r21.1.length : Int) 264))))))) + 264)).toNat y123 y125) (Sat.rdAt 0 hS rfl) r132 e133) ?_)
              rintro _ w139 ⟨pv141, rfl, hS140⟩
              have hS : Sat w139 (rf w0) [optP O52 pv141 r132.1, osl 5 (r0 (.int .u8)) 1 A107 c108 (cpyIn (cpyIn y106 (wi (264 * (wi (Int.tmod (IntKind.wrap .u64 a1) (IntKind.wrap .u64 (wi (Int.tdiv (r21.1.length : Int) 264))))))).toNat (wi ((wi (264 * (wi (Int.tmod (IntKind.wrap .u64 a1) (IntKind.wrap .u64 (wi (Int.tdiv (r21.1.length : Int) 264))))))) + 264)).toNat y112 y114) (wi (264 * (wi (Int.tmod (IntKind.wrap .u64 a2) (IntKind.wrap .u64 (wi (Int.tdiv (r21.1.length : Int) 264))))))).toNat (wi ((wi (264 * (wi (Int.tmod (IntKind.wrap .u64 a2) (IntKind.wrap .u64 (wi (Int.tdiv (r21.1.length : Int) 264))))))) + 264)).toNat y123 y125), optP O52 pv99 r90.1, optP O52 pv89 r80.1, osl 5 (r0 (.int .u8)) 1 A77 c78 y76, osl 5 (r0 (.int .u8)) 1 A58 c59 y57, osl 5 (r0 (.int .u8)) 1 A30 c31 r21.1] := hS.ext hS140
              refine WR.runk [2, 3, 4, 5, 6] [] [20] (L' := [(20, .int .i64 r132.2)]) (w' := w139) (by kernel_rfl) ?_
              refine WR.nil ?_
              refine At.go ?_
              refine WC.seq (by kernel_rfl) ?_
              refine WC.reg [0] (by kernel_rfl) (by kernel_rfl) ?_
              refine WR.runk [0] [] [20, 21] (L' := [(20, .int .i64 r132.2), (21, .pointer none)]) (w' := w139) (by kernel_rfl) ?_
              refine WR.nil ?_
              refine At.go ?_
              refine WC.seq (by kernel_rfl) ?_
              refine WC.reg [0, 1, 2, 3, 4, 5, 6] (by kernel_rfl) (by kernel_rfl) ?_
              refine WR.runk [0] [1, 2, 3, 4, 5, 6] [20, 21, 135] (L' := [(20, .int .i64 r132.2), (21, .pointer none), (135, .pointer none)]) (w' := w139) (by kernel_rfl) ?_
              obtain ⟨r142, e143, H⟩ := bind_ex H
              refine WR.st (St.call (by kernel_rfl) (f := 21) (args := #[.pointer none, .int .i64 0]) (by kernel_rfl) (image_Image_Page.calls w139 (.pointer none) none rfl 0 r142 e143) ?_)
              rintro _ w149 ⟨A151, c152, rfl, hS150⟩
              have hS : Sat w149 (rf w0) [osl 5 (r0 (.int .u8)) 1 A151 c152 r142.1, optP O52 pv141 r132.1, osl 5 (r0 (.int .u8)) 1 A107 c108 (cpyIn (cpyIn y106 (wi (264 * (wi (Int.tmod (IntKind.wrap .u64 a1) (IntKind.wrap .u64 (wi (Int.tdiv (r21.1.length : Int) 264))))))).toNat (wi ((wi (264 * (wi (Int.tmod (IntKind.wrap .u64 a1) (IntKind.wrap .u64 (wi (Int.tdiv (r21.1.length : Int) 264))))))) + 264)).toNat y112 y114) (wi (264 * (wi (Int.tmod (IntKind.wrap .u64 a2) (IntKind.wrap .u64 (wi (Int.tdiv (r21.1.length : Int) 264))))))).toNat (wi ((wi (264 * (wi (Int.tmod (IntKind.wrap .u64 a2) (IntKind.wrap .u64 (wi (Int.tdiv (r21.1.length : Int) 264))))))) + 264)).toNat y123 y125), optP O52 pv99 r90.1, optP O52 pv89 r80.1, osl 5 (r0 (.int .u8)) 1 A77 c78 y76, osl 5 (r0 (.int .u8)) 1 A58 c59 y57, osl 5 (r0 (.int .u8)) 1 A30 c31 r21.1] := hS.ext hS150
              refine WR.runk [2, 3, 4, 5, 6] [] [20, 21, 23] (L' := [(20, .int .i64 r132.2), (21, .pointer none), (23, .int .i64 r142.2)]) (w' := w149) (by kernel_rfl) ?_
              refine WR.nil ?_
              refine At.go ?_
              refine WC.seq (by kernel_rfl) ?_
              refine WC.reg [0, 1, 2, 3, 4, 5, 6, 7, 8, 9, 10, 11, 12, 13, 14, 15, 16, 17, 18, 19, 20, 21, 22, 23, 24, 25, 26, 27, 28, 29, 30, 31, 32] (by kernel_rfl) (by kernel_rfl) ?_
              refine WR.runk [0, 1, 2] [3, 4, 5, 6, 7, 8, 9, 10, 11, 12, 13, 14, 15, 16, 17, 18, 19, 20, 21, 22, 23, 24, 25, 26, 27, 28, 29, 30, 31, 32] [21, 23, 141] (L' := [(21, .pointer none), (23, .int .i64 r142.2), (141, .bool (r132.2 == 10))]) (w' := w149) (by kernel_rfl) ?_
              refine WR.split 141 (b := (r132.2 == 10)) (by kernel_rfl) (fun hb153 => ?_) (fun hb153 => ?_)
              · replace H := ite_t H hb153
                refine WR.runk [3, 4, 5, 6] [7, 8, 9, 10, 11, 12, 13, 14, 15, 16, 17, 18, 19, 20, 21, 22, 23, 24, 25, 26, 27, 28, 29, 30, 31, 32] [21, 145] (L' := [(21, .pointer none), (145, .bool (r142.2 == 1))]) (w' := w149) (by kernel_rfl) ?_
                refine WR.split 145 (b := (r142.2 == 1)) (by kernel_rfl) (fun hb154 => ?_) (fun hb154 => ?_)
                · replace H := ite_t H hb154
                  refine WR.runk [7] [8, 9, 10, 11, 12, 13, 14, 15, 16, 17, 18, 19, 20, 21, 22, 23, 24, 25, 26, 27, 28, 29, 30, 31, 32] [21, 145, 146] (L' := [(21, .pointer none), (145, .bool true), (146, .pointer none)]) (w' := w149) (by kernel_rfl) ?_
                  obtain ⟨r155, e156, H⟩ := bind_ex H
                  refine WR.st (St.call (by kernel_rfl) (f := 16) (args := #[.pointer none]) (by kernel_rfl) (image_Image_Sections.calls w149 (.pointer none) none rfl r155 e156) ?_)
                  rintro _ w162 ⟨rfl, hS163⟩
                  have hS : Sat w162 (rf w0) [osl 5 (r0 (.int .u8)) 1 A151 c152 r142.1, optP O52 pv141 r132.1, osl 5 (r0 (.int .u8)) 1 A107 c108 (cpyIn (cpyIn y106 (wi (264 * (wi (Int.tmod (IntKind.wrap .u64 a1) (IntKind.wrap .u64 (wi (Int.tdiv (r21.1.length : Int) 264))))))).toNat (wi ((wi (264 * (wi (Int.tmod (IntKind.wrap .u64 a1) (IntKind.wrap .u64 (wi (Int.tdiv (r21.1.length : Int) 264))))))) + 264)).toNat y112 y114) (wi (264 * (wi (Int.tmod (IntKind.wrap .u64 a2) (IntKind.wrap .u64 (wi (Int.tdiv (r21.1.length : Int) 264))))))).toNat (wi ((wi (264 * (wi (Int.tmod (IntKind.wrap .u64 a2) (IntKind.wrap .u64 (wi (Int.tdiv (r21.1.length : Int) 264))))))) + 264)).toNat y123 y125), optP O52 pv99 r90.1, optP O52 pv89 r80.1, osl 5 (r0 (.int .u8)) 1 A77 c78 y76, osl 5 (r0 (.int .u8)) 1 A58 c59 y57, osl 5 (r0 (.int .u8)) 1 A30 c31 r21.1] := hS.ext hS163
                  refine WR.runk [9, 10, 11] [12, 13, 14, 15, 16, 17, 18, 19, 20, 21, 22, 23, 24, 25, 26, 27, 28, 29, 30, 31, 32] [21, 150] (L' := [(21, .pointer none), (150, .bool (r155 == 0))]) (w' := w162) (by kernel_rfl) ?_
                  refine WR.split 150 (b := (r155 == 0)) (by kernel_rfl) (fun hb164 => ?_) (fun hb164 => ?_)
                  · replace H := ite_t H hb164
                    refine WR.runk [12] [13, 14, 15, 16, 17, 18, 19, 20, 21, 22, 23, 24, 25, 26, 27, 28, 29, 30, 31, 32] [21, 150, 151] (L' := [(21, .pointer none), (150, .bool true), (151, .pointer none)]) (w' := w162) (by kernel_rfl) ?_
                    obtain ⟨r165, e166, H⟩ := bind_ex H
                    refine WR.st (St.call (by kernel_rfl) (f := 19) (args := #[.pointer none]) (by kernel_rfl) (image_Image_Pages.calls w162 (.pointer none) none rfl r165 e166) ?_)
                    rintro _ w172 ⟨rfl, hS173⟩
                    have hS : Sat w172 (rf w0) [osl 5 (r0 (.int .u8)) 1 A151 c152 r142.1, optP O52 pv141 r132.1, osl 5 (r0 (.int .u8)) 1 A107 c108 (cpyIn (cpyIn y106 (wi (264 * (wi (Int.tmod (IntKind.wrap .u64 a1) (IntKind.wrap .u64 (wi (Int.tdiv (r21.1.length : Int) 264))))))).toNat (wi ((wi (264 * (wi (Int.tmod (IntKind.wrap .u64 a1) (IntKind.wrap .u64 (wi (Int.tdiv (r21.1.length : Int) 264))))))) + 264)).toNat y112 y114) (wi (264 * (wi (Int.tmod (IntKind.wrap .u64 a2) (IntKind.wrap .u64 (wi (Int.tdiv (r21.1.length : Int) 264))))))).toNat (wi ((wi (264 * (wi (Int.tmod (IntKind.wrap .u64 a2) (IntKind.wrap .u64 (wi (Int.tdiv (r21.1.length : Int) 264))))))) + 264)).toNat y123 y125), optP O52 pv99 r90.1, optP O52 pv89 r80.1, osl 5 (r0 (.int .u8)) 1 A77 c78 y76, osl 5 (r0 (.int .u8)) 1 A58 c59 y57, osl 5 (r0 (.int .u8)) 1 A30 c31 r21.1] := hS.ext hS173
                    refine WR.runk [14, 15, 16] [17, 18, 19, 20, 21, 22, 23, 24, 25, 26, 27, 28, 29, 30, 31, 32] [21, 155] (L' := [(21, .pointer none), (155, .bool (r165 == 0))]) (w' := w172) (by kernel_rfl) ?_
                    refine WR.split 155 (b := (r165 == 0)) (by kernel_rfl) (fun hb174 => ?_) (fun hb174 => ?_)
                    · replace H := ite_t H hb174
                      refine WR.runk [17] [18, 19, 20, 21, 22, 23, 24, 25, 26, 27, 28, 29, 30, 31, 32] [21, 155, 156] (L' := [(21, .pointer none), (155, .bool true), (156, .pointer none)]) (w' := w172) (by kernel_rfl) ?_
                      obtain ⟨r175, e176, H⟩ := bind_ex H
                      refine WR.st (St.call (by kernel_rfl) (f := 18) (args := #[.pointer none, .int .i64 0]) (by kernel_rfl) (image_Image_Size.calls w172 (.pointer none) none rfl 0 r175 e176) ?_)
                      rintro _ w182 ⟨rfl, hS183⟩
                      have hS : Sat w182 (rf w0) [osl 5 (r0 (.int .u8)) 1 A151 c152 r142.1, optP O52 pv141 r132.1, osl 5 (r0 (.int .u8)) 1 A107 c108 (cpyIn (cpyIn y106 (wi (264 * (wi (Int.tmod (IntKind.wrap .u64 a1) (IntKind.wrap .u64 (wi (Int.tdiv (r21.1.length : Int) 264))))))).toNat (wi ((wi (264 * (wi (Int.tmod (IntKind.wrap .u64 a1) (IntKind.wrap .u64 (wi (Int.tdiv (r21.1.length : Int) 264))))))) + 264)).toNat y112 y114) (wi (264 * (wi (Int.tmod (IntKind.wrap .u64 a2) (IntKind.wrap .u64 (wi (Int.tdiv (r21.1.length : Int) 264))))))).toNat (wi ((wi (264 * (wi (Int.tmod (IntKind.wrap .u64 a2) (IntKind.wrap .u64 (wi (Int.tdiv (r21.1.length : Int) 264))))))) + 264)).toNat y123 y125), optP O52 pv99 r90.1, optP O52 pv89 r80.1, osl 5 (r0 (.int .u8)) 1 A77 c78 y76, osl 5 (r0 (.int .u8)) 1 A58 c59 y57, osl 5 (r0 (.int .u8)) 1 A30 c31 r21.1] := hS.ext hS183
                      refine WR.runk [19, 20, 21] [22, 23, 24, 25, 26, 27, 28, 29, 30, 31, 32] [21, 160] (L' := [(21, .pointer none), (160, .bool (r175 == 0))]) (w' := w182) (by kernel_rfl) ?_
                      refine WR.split 160 (b := (r175 == 0)) (by kernel_rfl) (fun hb184 => ?_) (fun hb184 => ?_)
                      · replace H := ite_t H hb184
                        refine WR.runk [22] [23, 24, 25, 26, 27, 28, 29, 30, 31, 32] [21, 160, 161] (L' := [(21, .pointer none), (160, .bool true), (161, .pointer none)]) (w' := w182) (by kernel_rfl) ?_
                        obtain ⟨r185, e186, H⟩ := bind_ex H
                        refine WR.st (St.call (by kernel_rfl) (f := 17) (args := #[.pointer none, .int .i64 0]) (by kernel_rfl) (image_Image_First.calls w182 (.pointer none) none rfl 0 r185 e186) ?_)
                        rintro _ w192 ⟨rfl, hS193⟩
                        have hS : Sat w192 (rf w0) [osl 5 (r0 (.int .u8)) 1 A151 c152 r142.1, optP O52 pv141 r132.1, osl 5 (r0 (.int .u8)) 1 A107 c108 (cpyIn (cpyIn y106 (wi (264 * (wi (Int.tmod (IntKind.wrap .u64 a1) (IntKind.wrap .u64 (wi (Int.tdiv (r21.1.length : Int) 264))))))).toNat (wi ((wi (264 * (wi (Int.tmod (IntKind.wrap .u64 a1) (IntKind.wrap .u64 (wi (Int.tdiv (r21.1.length : Int) 264))))))) + 264)).toNat y112 y114) (wi (264 * (wi (Int.tmod (IntKind.wrap .u64 a2) (IntKind.wrap .u64 (wi (Int.tdiv (r21.1.length : Int) 264))))))).toNat (wi ((wi (264 * (wi (Int.tmod (IntKind.wrap .u64 a2) (IntKind.wrap .u64 (wi (Int.tdiv (r21.1.length : Int) 264))))))) + 264)).toNat y123 y125), optP O52 pv99 r90.1, optP O52 pv89 r80.1, osl 5 (r0 (.int .u8)) 1 A77 c78 y76, osl 5 (r0 (.int .u8)) 1 A58 c59 y57, osl 5 (r0 (.int .u8)) 1 A30 c31 r21.1] := hS.ext hS193
                        refine WR.runk [24, 25, 26] [27, 28, 29, 30, 31, 32] [21, 165] (L' := [(21, .pointer none), (165, .bool (r185 == 0))]) (w' := w192) (by kernel_rfl) ?_
                        refine WR.split 165 (b := (r185 == 0)) (by kernel_rfl) (fun hb194 => ?_) (fun hb194 => ?_)
                        · replace H := ite_t H hb194
                          refine WR.runk [27] [28, 29, 30, 31, 32] [165, 166] (L' := [(165, .bool true), (166, .pointer none)]) (w' := w192) (by kernel_rfl) ?_
                          obtain ⟨r195, e196, H⟩ := bind_ex H
                          refine WR.st (St.call (by kernel_rfl) (f := 22) (args := #[.pointer none, .int .i64 0]) (by kernel_rfl) (image_Image_Section.calls w192 (.pointer none) none rfl 0 r195 e196) ?_)
                          rintro _ w202 ⟨A204, c205, rfl, hS203⟩
                          have hS : Sat w202 (rf w0) [osl 5 (r0 (.int .u8)) 1 A204 c205 r195, osl 5 (r0 (.int .u8)) 1 A151 c152 r142.1, optP O52 pv141 r132.1, osl 5 (r0 (.int .u8)) 1 A107 c108 (cpyIn (cpyIn y106 (wi (264 * (wi (Int.tmod (IntKind.wrap .u64 a1) (IntKind.wrap .u64 (wi (Int.tdiv (r21.1.length : Int) 264))))))).toNat (wi ((wi (264 * (wi (Int.tmod (IntKind.wrap .u64 a1) (IntKind.wrap .u64 (wi (Int.tdiv (r21.1.length : Int) 264))))))) + 264)).toNat y112 y114) (wi (264 * (wi (Int.tmod (IntKind.wrap .u64 a2) (IntKind.wrap .u64 (wi (Int.tdiv (r21.1.length : Int) 264))))))).toNat (wi ((wi (264 * (wi (Int.tmod (IntKind.wrap .u64 a2) (IntKind.wrap .u64 (wi (Int.tdiv (r21.1.length : Int) 264))))))) + 264)).toNat y123 y125), optP O52 pv99 r90.1, optP O52 pv89 r80.1, osl 5 (r0 (.int .u8)) 1 A77 c78 y76, osl 5 (r0 (.int .u8)) 1 A58 c59 y57, osl 5 (r0 (.int .u8)) 1 A30 c31 r21.1] := hS.ext hS203
                          refine WR.runk [29, 30, 31, 32] [] [6] (L' := [(6, .bool ((r195.length : Int) == 0))]) (w' := w202) (by kernel_rfl) ?_
                          refine WR.nil ?_
                          refine At.go ?_
                          refine WC.ret (by kernel_rfl) ?_
                          obtain rfl := Option.some.inj H
                          have hS : Sat w202 (rf w0) [] := hS.sel [] (by kernel_rfl)
                          exact At.body [.bool ((r195.length : Int) == 0)] (by kernel_rfl) ⟨_, rfl, rfl, hS⟩
                        · replace H := ite_f H hb194
                          refine WR.runk [27, 28, 29, 30, 31, 32] [] [6] (L' := [(6, .bool false)]) (w' := w192) (by kernel_rfl) ?_
                          refine WR.nil ?_
                          refine At.go ?_
                          refine WC.ret (by kernel_rfl) ?_
                          obtain rfl := Option.some.inj H
                          have hS : Sat w192 (rf w0) [] := hS.sel [] (by kernel_rfl)
                          exact At.body [.bool false] (by kernel_rfl) ⟨_, rfl, rfl, hS⟩
                      · replace H := ite_f H hb184
                        refine WR.runk [22, 23, 24, 25, 26, 27, 28, 29, 30, 31, 32] [] [6] (L' := [(6, .bool false)]) (w' := w182) (by kernel_rfl) ?_
                        refine WR.nil ?_
                        refine At.go ?_
                        refine WC.ret (by kernel_rfl) ?_
                        obtain rfl := Option.some.inj H
                        have hS : Sat w182 (rf w0) [] := hS.sel [] (by kernel_rfl)
                        exact At.body [.bool false] (by kernel_rfl) ⟨_, rfl, rfl, hS⟩
                    · replace H := ite_f H hb174
                      refine WR.runk [17, 18, 19, 20, 21, 22, 23, 24, 25, 26, 27, 28, 29, 30, 31, 32] [] [6] (L' := [(6, .bool false)]) (w' := w172) (by kernel_rfl) ?_
                      refine WR.nil ?_
                      refine At.go ?_
                      refine WC.ret (by kernel_rfl) ?_
                      obtain rfl := Option.some.inj H
                      have hS : Sat w172 (rf w0) [] := hS.sel [] (by kernel_rfl)
                      exact At.body [.bool false] (by kernel_rfl) ⟨_, rfl, rfl, hS⟩
                  · replace H := ite_f H hb164
                    refine WR.runk [12, 13, 14, 15, 16, 17, 18, 19, 20, 21, 22, 23, 24, 25, 26, 27, 28, 29, 30, 31, 32] [] [6] (L' := [(6, .bool false)]) (w' := w162) (by kernel_rfl) ?_
                    refine WR.nil ?_
                    refine At.go ?_
                    refine WC.ret (by kernel_rfl) ?_
                    obtain rfl := Option.some.inj H
                    have hS : Sat w162 (rf w0) [] := hS.sel [] (by kernel_rfl)
                    exact At.body [.bool false] (by kernel_rfl) ⟨_, rfl, rfl, hS⟩
                · replace H := ite_f H hb154
                  refine WR.runk [7, 8, 9, 10, 11, 12, 13, 14, 15, 16, 17, 18, 19, 20, 21, 22, 23, 24, 25, 26, 27, 28, 29, 30, 31, 32] [] [6] (L' := [(6, .bool false)]) (w' := w149) (by kernel_rfl) ?_
                  refine WR.nil ?_
                  refine At.go ?_
                  refine WC.ret (by kernel_rfl) ?_
                  obtain rfl := Option.some.inj H
                  have hS : Sat w149 (rf w0) [] := hS.sel [] (by kernel_rfl)
                  exact At.body [.bool false] (by kernel_rfl) ⟨_, rfl, rfl, hS⟩
              · replace H := ite_f H hb153
                refine WR.runk [3, 4, 5, 6, 7, 8, 9, 10, 11, 12, 13, 14, 15, 16, 17, 18, 19, 20, 21, 22, 23, 24, 25, 26, 27, 28, 29, 30, 31, 32] [] [6] (L' := [(6, .bool false)]) (w' := w149) (by kernel_rfl) ?_
                refine WR.nil ?_
                refine At.go ?_
                refine WC.ret (by kernel_rfl) ?_
                obtain rfl := Option.some.inj H
                have hS : Sat w149 (rf w0) [] := hS.sel [] (by kernel_rfl)
                exact At.body [.bool false] (by kernel_rfl) ⟨_, rfl, rfl, hS⟩
end Go.Proofs.Ytejjdfnelalnoaa
