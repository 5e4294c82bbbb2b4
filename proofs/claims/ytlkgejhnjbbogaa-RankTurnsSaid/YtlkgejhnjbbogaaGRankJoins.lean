/-
  Printed by gen.py (my own tool): for each Go function a plain Lean function and the proof that a call of it does what that function says.
-/
import Derived.Test.YtlkgejhnjbbogaaGP1b
set_option linter.unusedVariables false
set_option linter.unusedSimpArgs false
set_option maxRecDepth 100000
namespace Go.Proofs.Ytlkgejhnjbbogaa
open Go Go.Gol
/-! ### 4 colophon/colophonlaw02.RankJoins -/
def colophonlaw02_RankJoins.f (l0 : List Int) (l1 : List Int) (a2 : Int) : Option Bool := (colophonlaw02_first.f.bind fun r1 => (if (!r1) then some false else (if decide (imax (l0.length : Int) (l1.length : Int) > 1500) then some true else ((colophonlaw02_Vec.f l0).bind fun r12 => ((colophonlaw02_Vec.f l1).bind fun r22 => ((app? 140737488355328 (([] : List Int) : List Int) l0).bind fun y35 => ((app? 140737488355328 y35 l1).bind fun y40 => ((colophonlaw02_Vec.f y40).bind fun r44 => ((chk? (decide ((IntKind.wrap .u64 (wi ((l1.length : Int) + 1))) ≠ 0))).bind fun _ => ((rank_Vec_Rank.f r44 (wi ((l0.length : Int) + (wi (Int.tmod (IntKind.wrap .u64 a2) (IntKind.wrap .u64 (wi ((l1.length : Int) + 1)))))))).bind fun r55 => ((rank_Vec_Ones.f r12).bind fun r64 => ((rank_Vec_Rank.f r22 (wi (Int.tmod (IntKind.wrap .u64 a2) (IntKind.wrap .u64 (wi ((l1.length : Int) + 1)))))).bind fun r73 => (if (r55 == (wi (r64 + r73))) then ((rank_Vec_Zeros.f r44 (wi ((l0.length : Int) + (wi (Int.tmod (IntKind.wrap .u64 a2) (IntKind.wrap .u64 (wi ((l1.length : Int) + 1)))))))).bind fun r83 => ((rank_Vec_Ones.f r12).bind fun r92 => ((rank_Vec_Zeros.f r22 (wi (Int.tmod (IntKind.wrap .u64 a2) (IntKind.wrap .u64 (wi ((l1.length : Int) + 1)))))).bind fun r101 => (if (r83 == (wi ((wi ((l0.length : Int) - r92)) + r101))) then ((rank_Vec_Rank.f r44 (imin (wi (Int.tmod (IntKind.wrap .u64 a2) (IntKind.wrap .u64 (wi ((l1.length : Int) + 1))))) (l0.length : Int))).bind fun r111 => ((rank_Vec_Rank.f r12 (imin (wi (Int.tmod (IntKind.wrap .u64 a2) (IntKind.wrap .u64 (wi ((l1.length : Int) + 1))))) (l0.length : Int))).bind fun r120 => some (r111 == r120))) else some false)))) else some false)))))))))))))
def colophonlaw02_RankJoins.post (w : World) (r : Bool) (v : Value) (w' : World) : Prop := v = (.bool r : Value) ∧ Sat w' (rf w) []
theorem colophonlaw02_RankJoins.calls (w0 : World) (A0 : Option Addr) (c0 : Nat) (l0 : List Int) (R0 : rdS (r0 (.int .u8)) 1 (hp w0) A0 c0 l0) (A1 : Option Addr) (c1 : Nat) (l1 : List Int) (R1 : rdS (r0 (.int .u8)) 1 (hp w0) A1 c1 l1) (a2 : Int) (r : Bool) (H : colophonlaw02_RankJoins.f l0 l1 a2 = some r) :
    Calls Try.prog 4 #[.slice A0 l0.length c0, .slice A1 l1.length c1, .int .i64 a2] w0 (fun e w' => ∃ v, e = .returned v ∧ colophonlaw02_RankJoins.post w0 r v w') := by
  have hS : Sat w0 (rf w0) [] := Sat.start w0
  unfold colophonlaw02_RankJoins.f at H
  refine calls_of_WC (vs := [.slice A0 l0.length c0, .slice A1 l1.length c1, .int .i64 a2]) Try.func4 (c := C4) (n := 83) (by kernel_rfl) (by kernel_rfl) (by kernel_rfl) ?_
  refine WC.seq (by kernel_rfl) ?_
  refine WC.reg [0] (by kernel_rfl) (by kernel_rfl) ?_
  refine WR.runk [0] [] [0, 1, 2] (L' := [(0, .slice A0 l0.length c0), (1, .slice A1 l1.length c1), (2, .int .i64 a2)]) (w' := w0) (by kernel_rfl) ?_
  refine WR.nil ?_
  refine At.go ?_
  refine WC.seq (by kernel_rfl) ?_
  refine WC.seq (by kernel_rfl) ?_
  refine WC.reg [0, 1] (by kernel_rfl) (by kernel_rfl) ?_
  obtain ⟨r1, e2, H⟩ := bind_ex H
  refine WR.st (St.call (by kernel_rfl) (f := 9) (args := #[]) (by kernel_rfl) (colophonlaw02_first.calls w0  r1 e2) ?_)
  rintro _ w8 ⟨rfl, hS9⟩
  have hS : Sat w8 (rf w0) [] := hS.ext hS9
  refine WR.runk [1] [] [0, 1, 2, 12] (L' := [(0, .slice A0 l0.length c0), (1, .slice A1 l1.length c1), (2, .int .i64 a2), (12, .bool (!r1))]) (w' := w8) (by kernel_rfl) ?_
  refine WR.nil ?_
  refine At.go ?_
  refine WC.cond (by kernel_rfl) (!r1) (by kernel_rfl) (by kernel_rfl) (fun hb10 => ?_) (fun hb10 => ?_)
  · replace H := ite_t H hb10
    refine WC.seq (by kernel_rfl) ?_
    refine WC.reg [0] (by kernel_rfl) (by kernel_rfl) ?_
    refine WR.runk [0] [] [6] (L' := [(6, .bool false)]) (w' := w8) (by kernel_rfl) ?_
    refine WR.nil ?_
    refine At.go ?_
    refine WC.ret (by kernel_rfl) ?_
    refine At.thenRet ?_
    obtain rfl := Option.some.inj H
    have hS : Sat w8 (rf w0) [] := hS.sel [] (by kernel_rfl)
    exact At.body [.bool false] (by kernel_rfl) ⟨_, rfl, rfl, hS⟩
  · replace H := ite_f H hb10
    refine WC.skip (by kernel_rfl) ?_
    refine At.go ?_
    refine WC.seq (by kernel_rfl) ?_
    refine WC.seq (by kernel_rfl) ?_
    refine WC.reg [0, 1, 2, 3, 4, 5] (by kernel_rfl) (by kernel_rfl) ?_
    refine WR.runk [0, 1, 2, 3, 4, 5] [] [0, 1, 2, 18] (L' := [(0, .slice A0 l0.length c0), (1, .slice A1 l1.length c1), (2, .int .i64 a2), (18, .bool (decide (imax (l0.length : Int) (l1.length : Int) > 1500)))]) (w' := w8) (by kernel_rfl) ?_
    refine WR.nil ?_
    refine At.go ?_
    refine WC.cond (by kernel_rfl) (decide (imax (l0.length : Int) (l1.length : Int) > 1500)) (by kernel_rfl) (by kernel_rfl) (fun hb11 => ?_) (fun hb11 => ?_)
    · replace H := ite_t H hb11
      refine WC.seq (by kernel_rfl) ?_
      refine WC.reg [0] (by kernel_rfl) (by kernel_rfl) ?_
      refine WR.runk [0] [] [6] (L' := [(6, .bool true)]) (w' := w8) (by kernel_rfl) ?_
      refine WR.nil ?_
      refine At.go ?_
      refine WC.ret (by kernel_rfl) ?_
      refine At.thenRet ?_
      obtain rfl := Option.some.inj H
      have hS : Sat w8 (rf w0) [] := hS.sel [] (by kernel_rfl)
      exact At.body [.bool true] (by kernel_rfl) ⟨_, rfl, rfl, hS⟩
    · replace H := ite_f H hb11
      refine WC.skip (by kernel_rfl) ?_
      refine At.go ?_
      refine WC.seq (by kernel_rfl) ?_
      refine WC.reg [0, 1, 2, 3, 4, 5, 6, 7, 8, 9, 10, 11, 12] (by kernel_rfl) (by kernel_rfl) ?_
      refine WR.runk [0] [1, 2, 3, 4, 5, 6, 7, 8, 9, 10, 11, 12] [0, 1, 2, 19] (L' := [(0, .slice A0 l0.length c0), (1, .slice A1 l1.length c1), (2, .int .i64 a2), (19, .slice A0 l0.length c0)]) (w' := w8) (by kernel_rfl) ?_
      obtain ⟨r12, e13, H⟩ := bind_ex H
      refine WR.st (St.call (by kernel_rfl) (f := 10) (args := #[.slice A0 l0.length c0]) (by kernel_rfl) (colophonlaw02_Vec.calls w8 A0 c0 l0 (rdS.up R0 hS.sub0) r12 e13) ?_)
      rintro pv21 w19 ⟨_, rfl, hS20⟩
      have hS : Sat w19 (rf w0) [optP O47 pv21 r12] := hS.ext hS20
      refine WR.runk [2] [3, 4, 5, 6, 7, 8, 9, 10, 11, 12] [0, 1, 2, 20, 21] (L' := [(0, .slice A0 l0.length c0), (1, .slice A1 l1.length c1), (2, .int .i64 a2), (20, pv21), (21, .slice A1 l1.length c1)]) (w' := w19) (by kernel_rfl) ?_
      obtain ⟨r22, e23, H⟩ := bind_ex H
      refine WR.st (St.call (by kernel_rfl) (f := 10) (args := #[.slice A1 l1.length c1]) (by kernel_rfl) (colophonlaw02_Vec.calls w19 A1 c1 l1 (rdS.up R1 hS.sub0) r22 e23) ?_)
      rintro pv31 w29 ⟨_, rfl, hS30⟩
      have hS : Sat w29 (rf w0) [optP O47 pv31 r22, optP O47 pv21 r12] := hS.ext hS30
      refine WR.runk [] [4, 5, 6, 7, 8, 9, 10, 11, 12] [0, 1, 2, 20, 22] (L' := [(0, .slice A0 l0.length c0), (1, .slice A1 l1.length c1), (2, .int .i64 a2), (20, pv21), (22, pv31)]) (w' := w29) (by kernel_rfl) ?_
      refine WR.st (St.box hS (by kernel_rfl) (.cells #[] 5) (fun b32 => .slice (some ⟨b32, 0, none⟩) 0 0) (fun _ => by kernel_rfl) (fun b32 w33 hS => ?_))
      refine WR.runk [5] [6, 7, 8, 9, 10, 11, 12] [0, 1, 2, 20, 22, 23, 24] (L' := [(0, .slice A0 l0.length c0), (1, .slice A1 l1.length c1), (2, .int .i64 a2), (20, pv21), (22, pv31), (23, .slice (some ⟨b32, 0, none⟩) 0 0), (24, .slice A0 l0.length c0)]) (w' := w33) (by kernel_rfl) ?_
      have hS : Sat w33 (rf w0) [osl 5 (r0 (.int .u8)) 1 (some ⟨b32, 0, none⟩) (([] : List Int) : List Int).length (([] : List Int) : List Int), optP O47 pv31 r22, optP O47 pv21 r12] := Sat.toOsl' (r0 (.int .u8)) 1 (([] : List Int) : List Int) hS rfl (rdL.nil _ _)
      obtain ⟨y35, e34, H⟩ := bind_ex H
      refine WR.st (St.append' (.tmp 23) (.tmp 24) (by kernel_rfl) (by kernel_rfl) E22 (r0_one _) hS (by kernel_rfl) (by kernel_rfl) (rdS.up R0 hS.sub0) 140737488355328 (by kernel_rfl) (by kernel_rfl) e34 (fun A36 c37 w38 hS => ?_))
      refine WR.runk [7] [8, 9, 10, 11, 12] [0, 1, 2, 20, 22, 25, 26] (L' := [(0, .slice A0 l0.length c0), (1, .slice A1 l1.length c1), (2, .int .i64 a2), (20, pv21), (22, pv31), (25, .slice A36 y35.length c37), (26, .slice A1 l1.length c1)]) (w' := w38) (by kernel_rfl) ?_
      obtain ⟨y40, e39, H⟩ := bind_ex H
      refine WR.st (St.append' (.tmp 25) (.tmp 26) (by kernel_rfl) (by kernel_rfl) E22 (r0_one _) hS (by kernel_rfl) (by kernel_rfl) (rdS.up R1 hS.sub0) 140737488355328 (by kernel_rfl) (by kernel_rfl) e39 (fun A41 c42 w43 hS => ?_))
      refine WR.runk [] [9, 10, 11, 12] [0, 1, 2, 20, 22, 27] (L' := [(0, .slice A0 l0.length c0), (1, .slice A1 l1.length c1), (2, .int .i64 a2), (20, pv21), (22, pv31), (27, .slice A41 y40.length c42)]) (w' := w43) (by kernel_rfl) ?_
      obtain ⟨r44, e45, H⟩ := bind_ex H
      refine WR.st (St.call (by kernel_rfl) (f := 10) (args := #[.slice A41 y40.length c42]) (by kernel_rfl) (colophonlaw02_Vec.calls w43 A41 c42 y40 (Sat.rdAt 0 hS rfl) r44 e45) ?_)
      rintro pv53 w51 ⟨_, rfl, hS52⟩
      have hS : Sat w51 (rf w0) [optP O47 pv53 r44, osl 5 (r0 (.int .u8)) 1 A41 c42 y40, optP O47 pv31 r22, optP O47 pv21 r12] := hS.ext hS52
      refine WR.runk [10, 11, 12] [] [0, 1, 2, 7, 8, 9] (L' := [(0, .slice A0 l0.length c0), (1, .slice A1 l1.length c1), (2, .int .i64 a2), (7, pv21), (8, pv31), (9, pv53)]) (w' := w51) (by kernel_rfl) ?_
      refine WR.nil ?_
      refine At.go ?_
      refine WC.seq (by kernel_rfl) ?_
      refine WC.reg [0, 1, 2, 3, 4, 5, 6, 7, 8] (by kernel_rfl) (by kernel_rfl) ?_
      refine WR.runk [0, 1, 2, 3, 4, 5] [6, 7, 8] [0, 7, 8, 9, 30, 34] (L' := [(0, .slice A0 l0.length c0), (7, pv21), (8, pv31), (9, pv53), (30, .int .u64 (IntKind.wrap .u64 a2)), (34, .int .u64 (IntKind.wrap .u64 (wi ((l1.length : Int) + 1))))]) (w' := w51) (by kernel_rfl) ?_
      obtain ⟨_, e54, H⟩ := bind_ex H
      refine WR.st (St.ofP (PSt.div (k := .u64) (t := 29) (t2 := 29) (a := (IntKind.wrap .u64 a2)) (b := (IntKind.wrap .u64 (wi ((l1.length : Int) + 1)))) .rem (by decide) (.tmp 30) (.tmp 34) (by kernel_rfl) (by kernel_rfl) (by kernel_rfl) (by kernel_rfl) (of_decide_eq_true (chk?_some e54)) ?_))
      refine WR.runk [7, 8] [] [0, 7, 8, 9, 10] (L' := [(0, .slice A0 l0.length c0), (7, pv21), (8, pv31), (9, pv53), (10, .int .i64 (wi (Int.tmod (IntKind.wrap .u64 a2) (IntKind.wrap .u64 (wi ((l1.length : Int) + 1))))))]) (w' := w51) (by kernel_rfl) ?_
      refine WR.nil ?_
      refine At.go ?_
      refine WC.seq (by kernel_rfl) ?_
      refine WC.reg [0, 1, 2, 3, 4, 5, 6, 7, 8, 9, 10, 11, 12, 13, 14, 15, 16, 17, 18, 19, 20, 21, 22, 23, 24, 25, 26, 27, 28, 29, 30, 31, 32, 33, 34, 35, 36, 37, 38, 39, 40, 41, 42, 43, 44, 45, 46] (by kernel_rfl) (by kernel_rfl) ?_
      refine WR.runk [0, 1, 2, 3, 4] [5, 6, 7, 8, 9, 10, 11, 12, 13, 14, 15, 16, 17, 18, 19, 20, 21, 22, 23, 24, 25, 26, 27, 28, 29, 30, 31, 32, 33, 34, 35, 36, 37, 38, 39, 40, 41, 42, 43, 44, 45, 46] [0, 7, 8, 9, 10, 37, 41] (L' := [(0, .slice A0 l0.length c0), (7, pv21), (8, pv31), (9, pv53), (10, .int .i64 (wi (Int.tmod (IntKind.wrap .u64 a2) (IntKind.wrap .u64 (wi ((l1.length : Int) + 1)))))), (37, pv53), (41, .int .i64 (wi ((l0.length : Int) + (wi (Int.tmod (IntKind.wrap .u64 a2) (IntKind.wrap .u64 (wi ((l1.length : Int) + 1))))))))]) (w' := w51) (by kernel_rfl) ?_
      obtain ⟨r55, e56, H⟩ := bind_ex H
      refine WR.st (St.call (by kernel_rfl) (f := 11) (args := #[pv53, .int .i64 (wi ((l0.length : Int) + (wi (Int.tmod (IntKind.wrap .u64 a2) (IntKind.wrap .u64 (wi ((l1.length : Int) + 1)))))))]) (by kernel_rfl) (rank_Vec_Rank.calls w51 (pv53) r44 (Sat.rdAny 0 hS rfl (fun _ h => optP.rdd (t := 47) (κ := (.pair (.int .i64) (.pair (.slice 40 (.int .u64)) (.pair (.slice 3 (.int .i64)) (.int .i64))))) (O := O47) O47.rd h)) (wi ((l0.length : Int) + (wi (Int.tmod (IntKind.wrap .u64 a2) (IntKind.wrap .u64 (wi ((l1.length : Int) + 1))))))) r55 e56) ?_)
      rintro _ w62 ⟨rfl, hS63⟩
      have hS : Sat w62 (rf w0) [optP O47 pv53 r44, osl 5 (r0 (.int .u8)) 1 A41 c42 y40, optP O47 pv31 r22, optP O47 pv21 r12] := hS.ext hS63
      refine WR.runk [6] [7, 8, 9, 10, 11, 12, 13, 14, 15, 16, 17, 18, 19, 20, 21, 22, 23, 24, 25, 26, 27, 28, 29, 30, 31, 32, 33, 34, 35, 36, 37, 38, 39, 40, 41, 42, 43, 44, 45, 46] [0, 7, 8, 9, 10, 42, 43] (L' := [(0, .slice A0 l0.length c0), (7, pv21), (8, pv31), (9, pv53), (10, .int .i64 (wi (Int.tmod (IntKind.wrap .u64 a2) (IntKind.wrap .u64 (wi ((l1.length : Int) + 1)))))), (42, .int .i64 r55), (43, pv21)]) (w' := w62) (by kernel_rfl) ?_
      obtain ⟨r64, e65, H⟩ := bind_ex H
      refine WR.st (St.call (by kernel_rfl) (f := 15) (args := #[pv21]) (by kernel_rfl) (rank_Vec_Ones.calls w62 (pv21) r12 (Sat.rdAny 3 hS rfl (fun _ h => optP.rdd (t := 47) (κ := (.pair (.int .i64) (.pair (.slice 40 (.int .u64)) (.pair (.slice 3 (.int .i64)) (.int .i64))))) (O := O47) O47.rd h)) r64 e65) ?_)
      rintro _ w71 ⟨rfl, hS72⟩
      have hS : Sat w71 (rf w0) [optP O47 pv53 r44, osl 5 (r0 (.int .u8)) 1 A41 c42 y40, optP O47 pv31 r22, optP O47 pv21 r12] := hS.ext hS72
      refine WR.runk [8, 9] [10, 11, 12, 13, 14, 15, 16, 17, 18, 19, 20, 21, 22, 23, 24, 25, 26, 27, 28, 29, 30, 31, 32, 33, 34, 35, 36, 37, 38, 39, 40, 41, 42, 43, 44, 45, 46] [0, 7, 8, 9, 10, 42, 44, 45, 46] (L' := [(0, .slice A0 l0.length c0), (7, pv21), (8, pv31), (9, pv53), (10, .int .i64 (wi (Int.tmod (IntKind.wrap .u64 a2) (IntKind.wrap .u64 (wi ((l1.length : Int) + 1)))))), (42, .int .i64 r55), (44, .int .i64 r64), (45, pv31), (46, .int .i64 (wi (Int.tmod (IntKind.wrap .u64 a2) (IntKind.wrap .u64 (wi ((l1.length : Int) + 1))))))]) (w' := w71) (by kernel_rfl) ?_
      obtain ⟨r73, e74, H⟩ := bind_ex H
      refine WR.st (St.call (by kernel_rfl) (f := 11) (args := #[pv31, .int .i64 (wi (Int.tmod (IntKind.wrap .u64 a2) (IntKind.wrap .u64 (wi ((l1.length : Int) + 1)))))]) (by kernel_rfl) (rank_Vec_Rank.calls w71 (pv31) r22 (Sat.rdAny 2 hS rfl (fun _ h => optP.rdd (t := 47) (κ := (.pair (.int .i64) (.pair (.slice 40 (.int .u64)) (.pair (.slice 3 (.int .i64)) (.int .i64))))) (O := O47) O47.rd h)) (wi (Int.tmod (IntKind.wrap .u64 a2) (IntKind.wrap .u64 (wi ((l1.length : Int) + 1))))) r73 e74) ?_)
      rintro _ w80 ⟨rfl, hS81⟩
      have hS : Sat w80 (rf w0) [optP O47 pv53 r44, osl 5 (r0 (.int .u8)) 1 A41 c42 y40, optP O47 pv31 r22, optP O47 pv21 r12] := hS.ext hS81
      refine WR.runk [11, 12, 13] [14, 15, 16, 17, 18, 19, 20, 21, 22, 23, 24, 25, 26, 27, 28, 29, 30, 31, 32, 33, 34, 35, 36, 37, 38, 39, 40, 41, 42, 43, 44, 45, 46] [0, 7, 8, 9, 10, 50] (L' := [(0, .slice A0 l0.length c0), (7, pv21), (8, pv31), (9, pv53), (10, .int .i64 (wi (Int.tmod (IntKind.wrap .u64 a2) (IntKind.wrap .u64 (wi ((l1.length : Int) + 1)))))), (50, .bool (r55 == (wi (r64 + r73))))]) (w' := w80) (by kernel_rfl) ?_
      refine WR.split 50 (b := (r55 == (wi (r64 + r73)))) (by kernel_rfl) (fun hb82 => ?_) (fun hb82 => ?_)
      · replace H := ite_t H hb82
        refine WR.runk [14, 15, 16, 17, 18] [19, 20, 21, 22, 23, 24, 25, 26, 27, 28, 29, 30, 31, 32, 33, 34, 35, 36, 37, 38, 39, 40, 41, 42, 43, 44, 45, 46] [0, 7, 8, 9, 10, 50, 51, 55] (L' := [(0, .slice A0 l0.length c0), (7, pv21), (8, pv31), (9, pv53), (10, .int .i64 (wi (Int.tmod (IntKind.wrap .u64 a2) (IntKind.wrap .u64 (wi ((l1.length : Int) + 1)))))), (50, .bool true), (51, pv53), (55, .int .i64 (wi ((l0.length : Int) + (wi (Int.tmod (IntKind.wrap .u64 a2) (IntKind.wrap .u64 (wi ((l1.length : Int) + 1))))))))]) (w' := w80) (by kernel_rfl) ?_
        obtain ⟨r83, e84, H⟩ := bind_ex H
        refine WR.st (St.call (by kernel_rfl) (f := 12) (args := #[pv53, .int .i64 (wi ((l0.length : Int) + (wi (Int.tmod (IntKind.wrap .u64 a2) (IntKind.wrap .u64 (wi ((l1.length : Int) + 1)))))))]) (by kernel_rfl) (rank_Vec_Zeros.calls w80 (pv53) r44 (Sat.rdAny 0 hS rfl (fun _ h => optP.rdd (t := 47) (κ := (.pair (.int .i64) (.pair (.slice 40 (.int .u64)) (.pair (.slice 3 (.int .i64)) (.int .i64))))) (O := O47) O47.rd h)) (wi ((l0.length : Int) + (wi (Int.tmod (IntKind.wrap .u64 a2) (IntKind.wrap .u64 (wi ((l1.length : Int) + 1))))))) r83 e84) ?_)
        rintro _ w90 ⟨rfl, hS91⟩
        have hS : Sat w90 (rf w0) [optP O47 pv53 r44, osl 5 (r0 (.int .u8)) 1 A41 c42 y40, optP O47 pv31 r22, optP O47 pv21 r12] := hS.ext hS91
        refine WR.runk [20, 21, 22] [23, 24, 25, 26, 27, 28, 29, 30, 31, 32, 33, 34, 35, 36, 37, 38, 39, 40, 41, 42, 43, 44, 45, 46] [0, 7, 8, 9, 10, 50, 56, 58, 59] (L' := [(0, .slice A0 l0.length c0), (7, pv21), (8, pv31), (9, pv53), (10, .int .i64 (wi (Int.tmod (IntKind.wrap .u64 a2) (IntKind.wrap .u64 (wi ((l1.length : Int) + 1)))))), (50, .bool true), (56, .int .i64 r83), (58, .int .i64 (l0.length : Int)), (59, pv21)]) (w' := w90) (by kernel_rfl) ?_
        obtain ⟨r92, e93, H⟩ := bind_ex H
        refine WR.st (St.call (by kernel_rfl) (f := 15) (args := #[pv21]) (by kernel_rfl) (rank_Vec_Ones.calls w90 (pv21) r12 (Sat.rdAny 3 hS rfl (fun _ h => optP.rdd (t := 47) (κ := (.pair (.int .i64) (.pair (.slice 40 (.int .u64)) (.pair (.slice 3 (.int .i64)) (.int .i64))))) (O := O47) O47.rd h)) r92 e93) ?_)
        rintro _ w99 ⟨rfl, hS100⟩
        have hS : Sat w99 (rf w0) [optP O47 pv53 r44, osl 5 (r0 (.int .u8)) 1 A41 c42 y40, optP O47 pv31 r22, optP O47 pv21 r12] := hS.ext hS100
        refine WR.runk [24, 25, 26] [27, 28, 29, 30, 31, 32, 33, 34, 35, 36, 37, 38, 39, 40, 41, 42, 43, 44, 45, 46] [0, 7, 9, 10, 50, 56, 61, 62, 63] (L' := [(0, .slice A0 l0.length c0), (7, pv21), (9, pv53), (10, .int .i64 (wi (Int.tmod (IntKind.wrap .u64 a2) (IntKind.wrap .u64 (wi ((l1.length : Int) + 1)))))), (50, .bool true), (56, .int .i64 r83), (61, .int .i64 (wi ((l0.length : Int) - r92))), (62, pv31), (63, .int .i64 (wi (Int.tmod (IntKind.wrap .u64 a2) (IntKind.wrap .u64 (wi ((l1.length : Int) + 1))))))]) (w' := w99) (by kernel_rfl) ?_
        obtain ⟨r101, e102, H⟩ := bind_ex H
        refine WR.st (St.call (by kernel_rfl) (f := 12) (args := #[pv31, .int .i64 (wi (Int.tmod (IntKind.wrap .u64 a2) (IntKind.wrap .u64 (wi ((l1.length : Int) + 1)))))]) (by kernel_rfl) (rank_Vec_Zeros.calls w99 (pv31) r22 (Sat.rdAny 2 hS rfl (fun _ h => optP.rdd (t := 47) (κ := (.pair (.int .i64) (.pair (.slice 40 (.int .u64)) (.pair (.slice 3 (.int .i64)) (.int .i64))))) (O := O47) O47.rd h)) (wi (Int.tmod (IntKind.wrap .u64 a2) (IntKind.wrap .u64 (wi ((l1.length : Int) + 1))))) r101 e102) ?_)
        rintro _ w108 ⟨rfl, hS109⟩
        have hS : Sat w108 (rf w0) [optP O47 pv53 r44, osl 5 (r0 (.int .u8)) 1 A41 c42 y40, optP O47 pv31 r22, optP O47 pv21 r12] := hS.ext hS109
        refine WR.runk [28, 29, 30, 31] [32, 33, 34, 35, 36, 37, 38, 39, 40, 41, 42, 43, 44, 45, 46] [0, 7, 9, 10, 68] (L' := [(0, .slice A0 l0.length c0), (7, pv21), (9, pv53), (10, .int .i64 (wi (Int.tmod (IntKind.wrap .u64 a2) (IntKind.wrap .u64 (wi ((l1.length : Int) + 1)))))), (68, .bool (r83 == (wi ((wi ((l0.length : Int) - r92)) + r101))))]) (w' := w108) (by kernel_rfl) ?_
        refine WR.split 68 (b := (r83 == (wi ((wi ((l0.length : Int) - r92)) + r101)))) (by kernel_rfl) (fun hb110 => ?_) (fun hb110 => ?_)
        · replace H := ite_t H hb110
          refine WR.runk [32, 33, 34, 35, 36] [37, 38, 39, 40, 41, 42, 43, 44, 45, 46] [0, 7, 10, 68, 69, 73] (L' := [(0, .slice A0 l0.length c0), (7, pv21), (10, .int .i64 (wi (Int.tmod (IntKind.wrap .u64 a2) (IntKind.wrap .u64 (wi ((l1.length : Int) + 1)))))), (68, .bool true), (69, pv53), (73, .int .i64 (imin (wi (Int.tmod (IntKind.wrap .u64 a2) (IntKind.wrap .u64 (wi ((l1.length : Int) + 1))))) (l0.length : Int)))]) (w' := w108) (by kernel_rfl) ?_
          obtain ⟨r111, e112, H⟩ := bind_ex H
          refine WR.st (St.call (by kernel_rfl) (f := 11) (args := #[pv53, .int .i64 (imin (wi (Int.tmod (IntKind.wrap .u64 a2) (IntKind.wrap .u64 (wi ((l1.length : Int) + 1))))) (l0.length : Int))]) (by kernel_rfl) (rank_Vec_Rank.calls w108 (pv53) r44 (Sat.rdAny 0 hS rfl (fun _ h => optP.rdd (t := 47) (κ := (.pair (.int .i64) (.pair (.slice 40 (.int .u64)) (.pair (.slice 3 (.int .i64)) (.int .i64))))) (O := O47) O47.rd h)) (imin (wi (Int.tmod (IntKind.wrap .u64 a2) (IntKind.wrap .u64 (wi ((l1.length : Int) + 1))))) (l0.length : Int)) r111 e112) ?_)
          rintro _ w118 ⟨rfl, hS119⟩
          have hS : Sat w118 (rf w0) [optP O47 pv53 r44, osl 5 (r0 (.int .u8)) 1 A41 c42 y40, optP O47 pv31 r22, optP O47 pv21 r12] := hS.ext hS119
          refine WR.runk [38, 39, 40, 41, 42] [43, 44, 45, 46] [68, 74, 75, 79] (L' := [(68, .bool true), (74, .int .i64 r111), (75, pv21), (79, .int .i64 (imin (wi (Int.tmod (IntKind.wrap .u64 a2) (IntKind.wrap .u64 (wi ((l1.length : Int) + 1))))) (l0.length : Int)))]) (w' := w118) (by kernel_rfl) ?_
          obtain ⟨r120, e121, H⟩ := bind_ex H
          refine WR.st (St.call (by kernel_rfl) (f := 11) (args := #[pv21, .int .i64 (imin (wi (Int.tmod (IntKind.wrap .u64 a2) (IntKind.wrap .u64 (wi ((l1.length : Int) + 1))))) (l0.length : Int))]) (by kernel_rfl) (rank_Vec_Rank.calls w118 (pv21) r12 (Sat.rdAny 3 hS rfl (fun _ h => optP.rdd (t := 47) (κ := (.pair (.int .i64) (.pair (.slice 40 (.int .u64)) (.pair (.slice 3 (.int .i64)) (.int .i64))))) (O := O47) O47.rd h)) (imin (wi (Int.tmod (IntKind.wrap .u64 a2) (IntKind.wrap .u64 (wi ((l1.length : Int) + 1))))) (l0.length : Int)) r120 e121) ?_)
          rintro _ w127 ⟨rfl, hS128⟩
          have hS : Sat w127 (rf w0) [optP O47 pv53 r44, osl 5 (r0 (.int .u8)) 1 A41 c42 y40, optP O47 pv31 r22, optP O47 pv21 r12] := hS.ext hS128
          refine WR.runk [44, 45, 46] [] [6] (L' := [(6, .bool (r111 == r120))]) (w' := w127) (by kernel_rfl) ?_
          refine WR.nil ?_
          refine At.go ?_
          refine WC.ret (by kernel_rfl) ?_
          obtain rfl := Option.some.inj H
          have hS : Sat w127 (rf w0) [] := hS.sel [] (by kernel_rfl)
          exact At.body [.bool (r111 == r120)] (by kernel_rfl) ⟨_, rfl, rfl, hS⟩
        · replace H := ite_f H hb110
          refine WR.runk [32, 33, 34, 35, 36, 37, 38, 39, 40, 41, 42, 43, 44, 45, 46] [] [6] (L' := [(6, .bool false)]) (w' := w108) (by kernel_rfl) ?_
          refine WR.nil ?_
          refine At.go ?_
          refine WC.ret (by kernel_rfl) ?_
          obtain rfl := Option.some.inj H
          have hS : Sat w108 (rf w0) [] := hS.sel [] (by kernel_rfl)
          exact At.body [.bool false] (by kernel_rfl) ⟨_, rfl, rfl, hS⟩
      · replace H := ite_f H hb82
        refine WR.runk [14, 15, 16, 17, 18, 19, 20, 21, 22, 23, 24, 25, 26, 27, 28, 29, 30, 31, 32, 33, 34, 35, 36, 37, 38, 39, 40, 41, 42, 43, 44, 45, 46] [] [6] (L' := [(6, .bool false)]) (w' := w80) (by kernel_rfl) ?_
        refine WR.nil ?_
        refine At.go ?_
        refine WC.ret (by kernel_rfl) ?_
        obtain rfl := Option.some.inj H
        have hS : Sat w80 (rf w0) [] := hS.sel [] (by kernel_rfl)
        exact At.body [.bool false] (by kernel_rfl) ⟨_, rfl, rfl, hS⟩
end Go.Proofs.Ytlkgejhnjbbogaa
