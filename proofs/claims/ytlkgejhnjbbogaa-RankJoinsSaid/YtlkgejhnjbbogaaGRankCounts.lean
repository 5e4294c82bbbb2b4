/-
  Printed by gen.py (my own tool): for each Go function a plain Lean function and the proof that a call of it does what that function says.
-/
import Derived.Test.YtlkgejhnjbbogaaGP1b
set_option linter.unusedVariables false
set_option linter.unusedSimpArgs false
set_option maxRecDepth 100000
namespace Go.Proofs.Ytlkgejhnjbbogaa
open Go Go.Gol
/-! ### 5 colophon/colophonlaw02.RankCounts -/
def colophonlaw02_RankCounts.f (l0 : List Int) (a1 : Int) (a2 : Int) : Option Bool := (colophonlaw02_first.f.bind fun r1 => (if (!r1) then some false else (if decide ((l0.length : Int) > 3000) then some true else ((colophonlaw02_Vec.f l0).bind fun r12 => ((rank_Vec_Len.f r12).bind fun r22 => (if (r22 != (l0.length : Int)) then some false else ((rank_Vec_Ones.f r12).bind fun r32 => ((colophonref02_Rank.f l0 1 (l0.length : Int)).bind fun r41 => (if (r32 != r41) then some false else ((rank_Vec_Rank.f r12 a1).bind fun r51 => ((colophonref02_Rank.f l0 1 a1).bind fun r60 => (if (r51 != r60) then some false else ((rank_Vec_Zeros.f r12 a1).bind fun r70 => ((colophonref02_Rank.f l0 0 a1).bind fun r79 => (if (r70 != r79) then some false else ((rank_Vec_At.f r12 a1).bind fun r89 => (if decide (a1 ≥ 0) then (if decide (a1 < (l0.length : Int)) then ((at? l0 (imax 0 (imin a1 (wi ((l0.length : Int) - 1))))).bind fun v100 => (if (r89 == ((iand .u8 v100 1) == 1)) then ((rank_Vec_Select.f r12 a2).bind fun r103 => ((colophonref02_Select.f l0 1 a2).bind fun r112 => (if (r103 == r112) then ((rank_Vec_SelectZero.f r12 a2).bind fun r122 => ((colophonref02_Select.f l0 0 a2).bind fun r131 => some (r122 == r131))) else some false))) else some false)) else (if (r89 == false) then ((rank_Vec_Select.f r12 a2).bind fun r141 => ((colophonref02_Select.f l0 1 a2).bind fun r150 => (if (r141 == r150) then ((rank_Vec_SelectZero.f r12 a2).bind fun r160 => ((colophonref02_Select.f l0 0 a2).bind fun r169 => some (r160 == r169))) else some false))) else some false)) else (if (r89 == false) then ((rank_Vec_Select.f r12 a2).bind fun r179 => ((colophonref02_Select.f l0 1 a2).bind fun r188 => (if (r179 == r188) then ((rank_Vec_SelectZero.f r12 a2).bind fun r198 => ((colophonref02_Select.f l0 0 a2).bind fun r207 => some (r198 == r207))) else some false))) else some false))))))))))))))))))
def colophonlaw02_RankCounts.post (w : World) (r : Bool) (v : Value) (w' : World) : Prop := v = (.bool r : Value) ∧ Sat w' (rf w) []
theorem colophonlaw02_RankCounts.calls (w0 : World) (A0 : Option Addr) (c0 : Nat) (l0 : List Int) (R0 : rdS (r0 (.int .u8)) 1 (hp w0) A0 c0 l0) (a1 : Int) (a2 : Int) (r : Bool) (H : colophonlaw02_RankCounts.f l0 a1 a2 = some r) :
    Calls Try.prog 5 #[.slice A0 l0.length c0, .int .i64 a1, .int .i64 a2] w0 (fun e w' => ∃ v, e = .returned v ∧ colophonlaw02_RankCounts.post w0 r v w') := by
  have hS : Sat w0 (rf w0) [] := Sat.start w0
  unfold colophonlaw02_RankCounts.f at H
  refine calls_of_WC (vs := [.slice A0 l0.length c0, .int .i64 a1, .int .i64 a2]) Try.func5 (c := C5) (n := 89) (by kernel_rfl) (by kernel_rfl) (by kernel_rfl) ?_
  refine WC.seq (by kernel_rfl) ?_
  refine WC.reg [0] (by kernel_rfl) (by kernel_rfl) ?_
  refine WR.runk [0] [] [0, 1, 2] (L' := [(0, .slice A0 l0.length c0), (1, .int .i64 a1), (2, .int .i64 a2)]) (w' := w0) (by kernel_rfl) ?_
  refine WR.nil ?_
  refine At.go ?_
  refine WC.seq (by kernel_rfl) ?_
  refine WC.seq (by kernel_rfl) ?_
  refine WC.reg [0, 1] (by kernel_rfl) (by kernel_rfl) ?_
  obtain ⟨r1, e2, H⟩ := bind_ex H
  refine WR.st (St.call (by kernel_rfl) (f := 9) (args := #[]) (by kernel_rfl) (colophonlaw02_first.calls w0  r1 e2) ?_)
  rintro _ w8 ⟨rfl, hS9⟩
  have hS : Sat w8 (rf w0) [] := hS.ext hS9
  refine WR.runk [1] [] [0, 1, 2, 10] (L' := [(0, .slice A0 l0.length c0), (1, .int .i64 a1), (2, .int .i64 a2), (10, .bool (!r1))]) (w' := w8) (by kernel_rfl) ?_
  refine WR.nil ?_
  refine At.go ?_
  refine WC.cond (by kernel_rfl) (!r1) (by kernel_rfl) (by kernel_rfl) (fun hb10 => ?_) (fun hb10 => ?_)
  · replace H := ite_t H hb10
    refine WC.seq (by kernel_rfl) ?_
    refine WC.reg [0] (by kernel_rfl) (by kernel_rfl) ?_
    refine WR.runk [0] [] [6] (L' := [(6, .bool false)]) (w' := w8) (by kernel_rfl) ?_
    refine WR.nil ?_
    refine At.go ?_
    refine WC.ret (by kernel_rfl) ?_
    refine At.thenRet ?_
    obtain rfl := Option.some.inj H
    have hS : Sat w8 (rf w0) [] := hS.sel [] (by kernel_rfl)
    exact At.body [.bool false] (by kernel_rfl) ⟨_, rfl, rfl, hS⟩
  · replace H := ite_f H hb10
    refine WC.skip (by kernel_rfl) ?_
    refine At.go ?_
    refine WC.seq (by kernel_rfl) ?_
    refine WC.seq (by kernel_rfl) ?_
    refine WC.reg [0, 1, 2] (by kernel_rfl) (by kernel_rfl) ?_
    refine WR.runk [0, 1, 2] [] [0, 1, 2, 13] (L' := [(0, .slice A0 l0.length c0), (1, .int .i64 a1), (2, .int .i64 a2), (13, .bool (decide ((l0.length : Int) > 3000)))]) (w' := w8) (by kernel_rfl) ?_
    refine WR.nil ?_
    refine At.go ?_
    refine WC.cond (by kernel_rfl) (decide ((l0.length : Int) > 3000)) (by kernel_rfl) (by kernel_rfl) (fun hb11 => ?_) (fun hb11 => ?_)
    · replace H := ite_t H hb11
      refine WC.seq (by kernel_rfl) ?_
      refine WC.reg [0] (by kernel_rfl) (by kernel_rfl) ?_
      refine WR.runk [0] [] [6] (L' := [(6, .bool true)]) (w' := w8) (by kernel_rfl) ?_
      refine WR.nil ?_
      refine At.go ?_
      refine WC.ret (by kernel_rfl) ?_
      refine At.thenRet ?_
      obtain rfl := Option.some.inj H
      have hS : Sat w8 (rf w0) [] := hS.sel [] (by kernel_rfl)
      exact At.body [.bool true] (by kernel_rfl) ⟨_, rfl, rfl, hS⟩
    · replace H := ite_f H hb11
      refine WC.skip (by kernel_rfl) ?_
      refine At.go ?_
      refine WC.seq (by kernel_rfl) ?_
      refine WC.reg [0, 1, 2] (by kernel_rfl) (by kernel_rfl) ?_
      refine WR.runk [0] [1, 2] [0, 1, 2, 14] (L' := [(0, .slice A0 l0.length c0), (1, .int .i64 a1), (2, .int .i64 a2), (14, .slice A0 l0.length c0)]) (w' := w8) (by kernel_rfl) ?_
      obtain ⟨r12, e13, H⟩ := bind_ex H
      refine WR.st (St.call (by kernel_rfl) (f := 10) (args := #[.slice A0 l0.length c0]) (by kernel_rfl) (colophonlaw02_Vec.calls w8 A0 c0 l0 (rdS.up R0 hS.sub0) r12 e13) ?_)
      rintro pv21 w19 ⟨_, rfl, hS20⟩
      have hS : Sat w19 (rf w0) [optP O47 pv21 r12] := hS.ext hS20
      refine WR.runk [2] [] [0, 1, 2, 7] (L' := [(0, .slice A0 l0.length c0), (1, .int .i64 a1), (2, .int .i64 a2), (7, pv21)]) (w' := w19) (by kernel_rfl) ?_
      refine WR.nil ?_
      refine At.go ?_
      refine WC.seq (by kernel_rfl) ?_
      refine WC.reg [0, 1, 2] (by kernel_rfl) (by kernel_rfl) ?_
      refine WR.runk [0, 1, 2] [] [0, 1, 2, 7, 8] (L' := [(0, .slice A0 l0.length c0), (1, .int .i64 a1), (2, .int .i64 a2), (7, pv21), (8, .int .i64 (l0.length : Int))]) (w' := w19) (by kernel_rfl) ?_
      refine WR.nil ?_
      refine At.go ?_
      refine WC.seq (by kernel_rfl) ?_
      refine WC.seq (by kernel_rfl) ?_
      refine WC.reg [0, 1, 2, 3, 4, 5, 6, 7, 8, 9, 10, 11, 12, 13, 14, 15, 16, 17, 18, 19, 20, 21, 22, 23, 24, 25, 26, 27, 28, 29] (by kernel_rfl) (by kernel_rfl) ?_
      refine WR.runk [0] [1, 2, 3, 4, 5, 6, 7, 8, 9, 10, 11, 12, 13, 14, 15, 16, 17, 18, 19, 20, 21, 22, 23, 24, 25, 26, 27, 28, 29] [0, 1, 2, 7, 8, 18] (L' := [(0, .slice A0 l0.length c0), (1, .int .i64 a1), (2, .int .i64 a2), (7, pv21), (8, .int .i64 (l0.length : Int)), (18, pv21)]) (w' := w19) (by kernel_rfl) ?_
      obtain ⟨r22, e23, H⟩ := bind_ex H
      refine WR.st (St.call (by kernel_rfl) (f := 16) (args := #[pv21]) (by kernel_rfl) (rank_Vec_Len.calls w19 (pv21) r12 (Sat.rdAny 0 hS rfl (fun _ h => optP.rdd (t := 47) (κ := (.pair (.int .i64) (.pair (.slice 40 (.int .u64)) (.pair (.slice 3 (.int .i64)) (.int .i64))))) (O := O47) O47.rd h)) r22 e23) ?_)
      rintro _ w29 ⟨rfl, hS30⟩
      have hS : Sat w29 (rf w0) [optP O47 pv21 r12] := hS.ext hS30
      refine WR.runk [2, 3, 4] [5, 6, 7, 8, 9, 10, 11, 12, 13, 14, 15, 16, 17, 18, 19, 20, 21, 22, 23, 24, 25, 26, 27, 28, 29] [0, 1, 2, 7, 8, 22] (L' := [(0, .slice A0 l0.length c0), (1, .int .i64 a1), (2, .int .i64 a2), (7, pv21), (8, .int .i64 (l0.length : Int)), (22, .bool (r22 != (l0.length : Int)))]) (w' := w29) (by kernel_rfl) ?_
      refine WR.split 22 (b := (r22 != (l0.length : Int))) (by kernel_rfl) (fun hb31 => ?_) (fun hb31 => ?_)
      · replace H := ite_t H hb31
        refine WR.runk [5, 6, 7, 8, 9, 10, 11, 12, 13, 14, 15, 16, 17, 18, 19, 20, 21, 22, 23, 24, 25, 26, 27, 28, 29] [] [0, 1, 2, 7, 8, 47] (L' := [(0, .slice A0 l0.length c0), (1, .int .i64 a1), (2, .int .i64 a2), (7, pv21), (8, .int .i64 (l0.length : Int)), (47, .bool true)]) (w' := w29) (by kernel_rfl) ?_
        refine WR.nil ?_
        refine At.go ?_
        refine WC.condT (by kernel_rfl) (by kernel_rfl) (by kernel_rfl) ?_
        refine WC.seq (by kernel_rfl) ?_
        refine WC.reg [0] (by kernel_rfl) (by kernel_rfl) ?_
        refine WR.runk [0] [] [6] (L' := [(6, .bool false)]) (w' := w29) (by kernel_rfl) ?_
        refine WR.nil ?_
        refine At.go ?_
        refine WC.ret (by kernel_rfl) ?_
        refine At.thenRet ?_
        obtain rfl := Option.some.inj H
        have hS : Sat w29 (rf w0) [] := hS.sel [] (by kernel_rfl)
        exact At.body [.bool false] (by kernel_rfl) ⟨_, rfl, rfl, hS⟩
      · replace H := ite_f H hb31
        refine WR.runk [5] [6, 7, 8, 9, 10, 11, 12, 13, 14, 15, 16, 17, 18, 19, 20, 21, 22, 23, 24, 25, 26, 27, 28, 29] [0, 1, 2, 7, 8, 22, 23] (L' := [(0, .slice A0 l0.length c0), (1, .int .i64 a1), (2, .int .i64 a2), (7, pv21), (8, .int .i64 (l0.length : Int)), (22, .bool false), (23, pv21)]) (w' := w29) (by kernel_rfl) ?_
        obtain ⟨r32, e33, H⟩ := bind_ex H
        refine WR.st (St.call (by kernel_rfl) (f := 15) (args := #[pv21]) (by kernel_rfl) (rank_Vec_Ones.calls w29 (pv21) r12 (Sat.rdAny 0 hS rfl (fun _ h => optP.rdd (t := 47) (κ := (.pair (.int .i64) (.pair (.slice 40 (.int .u64)) (.pair (.slice 3 (.int .i64)) (.int .i64))))) (O := O47) O47.rd h)) r32 e33) ?_)
        rintro _ w39 ⟨rfl, hS40⟩
        have hS : Sat w39 (rf w0) [optP O47 pv21 r12] := hS.ext hS40
        refine WR.runk [7, 8] [9, 10, 11, 12, 13, 14, 15, 16, 17, 18, 19, 20, 21, 22, 23, 24, 25, 26, 27, 28, 29] [0, 1, 2, 7, 8, 22, 24, 25, 26] (L' := [(0, .slice A0 l0.length c0), (1, .int .i64 a1), (2, .int .i64 a2), (7, pv21), (8, .int .i64 (l0.length : Int)), (22, .bool false), (24, .int .i64 r32), (25, .slice A0 l0.length c0), (26, .int .i64 (l0.length : Int))]) (w' := w39) (by kernel_rfl) ?_
        obtain ⟨r41, e42, H⟩ := bind_ex H
        refine WR.st (St.call (by kernel_rfl) (f := 17) (args := #[.slice A0 l0.length c0, .int .u8 1, .int .i64 (l0.length : Int)]) (by kernel_rfl) (colophonref02_Rank.calls w39 A0 c0 l0 (rdS.up R0 hS.sub0) 1 (l0.length : Int) r41 e42) ?_)
        rintro _ w48 ⟨rfl, hS49⟩
        have hS : Sat w48 (rf w0) [optP O47 pv21 r12] := hS.ext hS49
        refine WR.runk [10, 11, 12] [13, 14, 15, 16, 17, 18, 19, 20, 21, 22, 23, 24, 25, 26, 27, 28, 29] [0, 1, 2, 7, 8, 30] (L' := [(0, .slice A0 l0.length c0), (1, .int .i64 a1), (2, .int .i64 a2), (7, pv21), (8, .int .i64 (l0.length : Int)), (30, .bool (r32 != r41))]) (w' := w48) (by kernel_rfl) ?_
        refine WR.split 30 (b := (r32 != r41)) (by kernel_rfl) (fun hb50 => ?_) (fun hb50 => ?_)
        · replace H := ite_t H hb50
          refine WR.runk [13, 14, 15, 16, 17, 18, 19, 20, 21, 22, 23, 24, 25, 26, 27, 28, 29] [] [0, 1, 2, 7, 8, 47] (L' := [(0, .slice A0 l0.length c0), (1, .int .i64 a1), (2, .int .i64 a2), (7, pv21), (8, .int .i64 (l0.length : Int)), (47, .bool true)]) (w' := w48) (by kernel_rfl) ?_
          refine WR.nil ?_
          refine At.go ?_
          refine WC.condT (by kernel_rfl) (by kernel_rfl) (by kernel_rfl) ?_
          refine WC.seq (by kernel_rfl) ?_
          refine WC.reg [0] (by kernel_rfl) (by kernel_rfl) ?_
          refine WR.runk [0] [] [6] (L' := [(6, .bool false)]) (w' := w48) (by kernel_rfl) ?_
          refine WR.nil ?_
          refine At.go ?_
          refine WC.ret (by kernel_rfl) ?_
          refine At.thenRet ?_
          obtain rfl := Option.some.inj H
          have hS : Sat w48 (rf w0) [] := hS.sel [] (by kernel_rfl)
          exact At.body [.bool false] (by kernel_rfl) ⟨_, rfl, rfl, hS⟩
        · replace H := ite_f H hb50
          refine WR.runk [13, 14] [15, 16, 17, 18, 19, 20, 21, 22, 23, 24, 25, 26, 27, 28, 29] [0, 1, 2, 7, 8, 30, 31, 32] (L' := [(0, .slice A0 l0.length c0), (1, .int .i64 a1), (2, .int .i64 a2), (7, pv21), (8, .int .i64 (l0.length : Int)), (30, .bool false), (31, pv21), (32, .int .i64 a1)]) (w' := w48) (by kernel_rfl) ?_
          obtain ⟨r51, e52, H⟩ := bind_ex H
          refine WR.st (St.call (by kernel_rfl) (f := 11) (args := #[pv21, .int .i64 a1]) (by kernel_rfl) (rank_Vec_Rank.calls w48 (pv21) r12 (Sat.rdAny 0 hS rfl (fun _ h => optP.rdd (t := 47) (κ := (.pair (.int .i64) (.pair (.slice 40 (.int .u64)) (.pair (.slice 3 (.int .i64)) (.int .i64))))) (O := O47) O47.rd h)) a1 r51 e52) ?_)
          rintro _ w58 ⟨rfl, hS59⟩
          have hS : Sat w58 (rf w0) [optP O47 pv21 r12] := hS.ext hS59
          refine WR.runk [16, 17] [18, 19, 20, 21, 22, 23, 24, 25, 26, 27, 28, 29] [0, 1, 2, 7, 8, 30, 33, 34, 35] (L' := [(0, .slice A0 l0.length c0), (1, .int .i64 a1), (2, .int .i64 a2), (7, pv21), (8, .int .i64 (l0.length : Int)), (30, .bool false), (33, .int .i64 r51), (34, .slice A0 l0.length c0), (35, .int .i64 a1)]) (w' := w58) (by kernel_rfl) ?_
          obtain ⟨r60, e61, H⟩ := bind_ex H
          refine WR.st (St.call (by kernel_rfl) (f := 17) (args := #[.slice A0 l0.length c0, .int .u8 1, .int .i64 a1]) (by kernel_rfl) (colophonref02_Rank.calls w58 A0 c0 l0 (rdS.up R0 hS.sub0) 1 a1 r60 e61) ?_)
          rintro _ w67 ⟨rfl, hS68⟩
          have hS : Sat w67 (rf w0) [optP O47 pv21 r12] := hS.ext hS68
          refine WR.runk [19, 20, 21] [22, 23, 24, 25, 26, 27, 28, 29] [0, 1, 2, 7, 8, 39] (L' := [(0, .slice A0 l0.length c0), (1, .int .i64 a1), (2, .int .i64 a2), (7, pv21), (8, .int .i64 (l0.length : Int)), (39, .bool (r51 != r60))]) (w' := w67) (by kernel_rfl) ?_
          refine WR.split 39 (b := (r51 != r60)) (by kernel_rfl) (fun hb69 => ?_) (fun hb69 => ?_)
          · replace H := ite_t H hb69
            refine WR.runk [22, 23, 24, 25, 26, 27, 28, 29] [] [0, 1, 2, 7, 8, 47] (L' := [(0, .slice A0 l0.length c0), (1, .int .i64 a1), (2, .int .i64 a2), (7, pv21), (8, .int .i64 (l0.length : Int)), (47, .bool true)]) (w' := w67) (by kernel_rfl) ?_
            refine WR.nil ?_
            refine At.go ?_
            refine WC.condT (by kernel_rfl) (by kernel_rfl) (by kernel_rfl) ?_
            refine WC.seq (by kernel_rfl) ?_
            refine WC.reg [0] (by kernel_rfl) (by kernel_rfl) ?_
            refine WR.runk [0] [] [6] (L' := [(6, .bool false)]) (w' := w67) (by kernel_rfl) ?_
            refine WR.nil ?_
            refine At.go ?_
            refine WC.ret (by kernel_rfl) ?_
            refine At.thenRet ?_
            obtain rfl := Option.some.inj H
            have hS : Sat w67 (rf w0) [] := hS.sel [] (by kernel_rfl)
            exact At.body [.bool false] (by kernel_rfl) ⟨_, rfl, rfl, hS⟩
          · replace H := ite_f H hb69
            refine WR.runk [22, 23] [24, 25, 26, 27, 28, 29] [0, 1, 2, 7, 8, 39, 40, 41] (L' := [(0, .slice A0 l0.length c0), (1, .int .i64 a1), (2, .int .i64 a2), (7, pv21), (8, .int .i64 (l0.length : Int)), (39, .bool false), (40, pv21), (41, .int .i64 a1)]) (w' := w67) (by kernel_rfl) ?_
            obtain ⟨r70, e71, H⟩ := bind_ex H
            refine WR.st (St.call (by kernel_rfl) (f := 12) (args := #[pv21, .int .i64 a1]) (by kernel_rfl) (rank_Vec_Zeros.calls w67 (pv21) r12 (Sat.rdAny 0 hS rfl (fun _ h => optP.rdd (t := 47) (κ := (.pair (.int .i64) (.pair (.slice 40 (.int .u64)) (.pair (.slice 3 (.int .i64)) (.int .i64))))) (O := O47) O47.rd h)) a1 r70 e71) ?_)
            rintro _ w77 ⟨rfl, hS78⟩
            have hS : Sat w77 (rf w0) [optP O47 pv21 r12] := hS.ext hS78
            refine WR.runk [25, 26] [27, 28, 29] [0, 1, 2, 7, 8, 39, 42, 43, 44] (L' := [(0, .slice A0 l0.length c0), (1, .int .i64 a1), (2, .int .i64 a2), (7, pv21), (8, .int .i64 (l0.length : Int)), (39, .bool false), (42, .int .i64 r70), (43, .slice A0 l0.length c0), (44, .int .i64 a1)]) (w' := w77) (by kernel_rfl) ?_
            obtain ⟨r79, e80, H⟩ := bind_ex H
            refine WR.st (St.call (by kernel_rfl) (f := 17) (args := #[.slice A0 l0.length c0, .int .u8 0, .int .i64 a1]) (by kernel_rfl) (colophonref02_Rank.calls w77 A0 c0 l0 (rdS.up R0 hS.sub0) 0 a1 r79 e80) ?_)
            rintro _ w86 ⟨rfl, hS87⟩
            have hS : Sat w86 (rf w0) [optP O47 pv21 r12] := hS.ext hS87
            refine WR.runk [28, 29] [] [0, 1, 2, 7, 8, 47] (L' := [(0, .slice A0 l0.length c0), (1, .int .i64 a1), (2, .int .i64 a2), (7, pv21), (8, .int .i64 (l0.length : Int)), (47, .bool (r70 != r79))]) (w' := w86) (by kernel_rfl) ?_
            refine WR.nil ?_
            refine At.go ?_
            refine WC.cond (by kernel_rfl) (r70 != r79) (by kernel_rfl) (by kernel_rfl) (fun hb88 => ?_) (fun hb88 => ?_)
            · replace H := ite_t H hb88
              refine WC.seq (by kernel_rfl) ?_
              refine WC.reg [0] (by kernel_rfl) (by kernel_rfl) ?_
              refine WR.runk [0] [] [6] (L' := [(6, .bool false)]) (w' := w86) (by kernel_rfl) ?_
              refine WR.nil ?_
              refine At.go ?_
              refine WC.ret (by kernel_rfl) ?_
              refine At.thenRet ?_
              obtain rfl := Option.some.inj H
              have hS : Sat w86 (rf w0) [] := hS.sel [] (by kernel_rfl)
              exact At.body [.bool false] (by kernel_rfl) ⟨_, rfl, rfl, hS⟩
            · replace H := ite_f H hb88
              refine WC.skip (by kernel_rfl) ?_
              refine At.go ?_
              refine WC.seq (by kernel_rfl) ?_
              refine WC.reg [0, 1, 2, 3, 4, 5, 6, 7, 8, 9, 10, 11, 12, 13, 14, 15, 16, 17, 18, 19, 20, 21, 22, 23, 24, 25, 26, 27, 28, 29, 30, 31, 32, 33, 34, 35, 36, 37, 38, 39, 40, 41] (by kernel_rfl) (by kernel_rfl) ?_
              refine WR.runk [0, 1] [2, 3, 4, 5, 6, 7, 8, 9, 10, 11, 12, 13, 14, 15, 16, 17, 18, 19, 20, 21, 22, 23, 24, 25, 26, 27, 28, 29, 30, 31, 32, 33, 34, 35, 36, 37, 38, 39, 40, 41] [0, 1, 2, 7, 8, 48, 49] (L' := [(0, .slice A0 l0.length c0), (1, .int .i64 a1), (2, .int .i64 a2), (7, pv21), (8, .int .i64 (l0.length : Int)), (48, pv21), (49, .int .i64 a1)]) (w' := w86) (by kernel_rfl) ?_
              obtain ⟨r89, e90, H⟩ := bind_ex H
              refine WR.st (St.call (by kernel_rfl) (f := 18) (args := #[pv21, .int .i64 a1]) (by kernel_rfl) (rank_Vec_At.calls w86 (pv21) r12 (Sat.rdAny 0 hS rfl (fun _ h => optP.rdd (t := 47) (κ := (.pair (.int .i64) (.pair (.slice 40 (.int .u64)) (.pair (.slice 3 (.int .i64)) (.int .i64))))) (O := O47) O47.rd h)) a1 r89 e90) ?_)
              rintro _ w96 ⟨rfl, hS97⟩
              have hS : Sat w96 (rf w0) [optP O47 pv21 r12] := hS.ext hS97
              refine WR.runk [3, 4, 5] [6, 7, 8, 9, 10, 11, 12, 13, 14, 15, 16, 17, 18, 19, 20, 21, 22, 23, 24, 25, 26, 27, 28, 29, 30, 31, 32, 33, 34, 35, 36, 37, 38, 39, 40, 41] [0, 1, 2, 7, 8, 50, 53] (L' := [(0, .slice A0 l0.length c0), (1, .int .i64 a1), (2, .int .i64 a2), (7, pv21), (8, .int .i64 (l0.length : Int)), (50, .bool r89), (53, .bool (decide (a1 ≥ 0)))]) (w' := w96) (by kernel_rfl) ?_
              refine WR.split 53 (b := decide (a1 ≥ 0)) (by kernel_rfl) (fun hb98 => ?_) (fun hb98 => ?_)
              · replace H := ite_t H hb98
                refine WR.runk [6, 7, 8, 9, 10] [11, 12, 13, 14, 15, 16, 17, 18, 19, 20, 21, 22, 23, 24, 25, 26, 27, 28, 29, 30, 31, 32, 33, 34, 35, 36, 37, 38, 39, 40, 41] [0, 1, 2, 7, 8, 50, 58] (L' := [(0, .slice A0 l0.length c0), (1, .int .i64 a1), (2, .int .i64 a2), (7, pv21), (8, .int .i64 (l0.length : Int)), (50, .bool r89), (58, .bool (decide (a1 < (l0.length : Int))))]) (w' := w96) (by kernel_rfl) ?_
                refine WR.split 58 (b := decide (a1 < (l0.length : Int))) (by kernel_rfl) (fun hb99 => ?_) (fun hb99 => ?_)
                · replace H := ite_t H hb99
                  refine WR.runk [11, 12, 13, 14, 15, 16] [17, 18, 19, 20, 21, 22, 23, 24, 25, 26, 27, 28, 29, 30, 31, 32, 33, 34, 35, 36, 37, 38, 39, 40, 41] [0, 2, 7, 50, 58, 59, 64] (L' := [(0, .slice A0 l0.length c0), (2, .int .i64 a2), (7, pv21), (50, .bool r89), (58, .bool true), (59, .slice A0 l0.length c0), (64, .int .i64 (imax 0 (imin a1 (wi ((l0.length : Int) - 1)))))]) (w' := w96) (by kernel_rfl) ?_
                  obtain ⟨v100, e101, H⟩ := bind_ex H
                  refine WR.st (St.ofP (PSt.idx (k := .i64) (.tmp 59) (.tmp 64) (by kernel_rfl) (by kernel_rfl) E22 (by kernel_rfl) (by kernel_rfl) (rdS.up R0 hS.sub0) e101 ?_))
                  refine WR.runk [] [18, 19, 20, 21, 22, 23, 24, 25, 26, 27, 28, 29, 30, 31, 32, 33, 34, 35, 36, 37, 38, 39, 40, 41] [0, 2, 7, 50, 58, 65] (L' := [(0, .slice A0 l0.length c0), (2, .int .i64 a2), (7, pv21), (50, .bool r89), (58, .bool true), (65, .pointer (some (adr A0 (imax 0 (imin a1 (wi ((l0.length : Int) - 1)))).toNat 1)))]) (w' := w96) (by kernel_rfl) ?_
                  refine WR.st (St.ofR (RSt.loadInt (t := 5) (.tmp 65) (by kernel_rfl) (by kernel_rfl) (by kernel_rfl) (by kernel_rfl) (rdS.up R0 hS.sub0) e101 ?_))
                  refine WR.runk [19, 20, 21, 22, 23] [24, 25, 26, 27, 28, 29, 30, 31, 32, 33, 34, 35, 36, 37, 38, 39, 40, 41] [0, 2, 7, 71] (L' := [(0, .slice A0 l0.length c0), (2, .int .i64 a2), (7, pv21), (71, .bool (r89 == ((iand .u8 v100 1) == 1)))]) (w' := w96) (by kernel_rfl) ?_
                  refine WR.split 71 (b := (r89 == ((iand .u8 v100 1) == 1))) (by kernel_rfl) (fun hb102 => ?_) (fun hb102 => ?_)
                  · replace H := ite_t H hb102
                    refine WR.runk [24, 25] [26, 27, 28, 29, 30, 31, 32, 33, 34, 35, 36, 37, 38, 39, 40, 41] [0, 2, 7, 71, 72, 73] (L' := [(0, .slice A0 l0.length c0), (2, .int .i64 a2), (7, pv21), (71, .bool true), (72, pv21), (73, .int .i64 a2)]) (w' := w96) (by kernel_rfl) ?_
                    obtain ⟨r103, e104, H⟩ := bind_ex H
                    refine WR.st (St.call (by kernel_rfl) (f := 13) (args := #[pv21, .int .i64 a2]) (by kernel_rfl) (rank_Vec_Select.calls w96 (pv21) r12 (Sat.rdAny 0 hS rfl (fun _ h => optP.rdd (t := 47) (κ := (.pair (.int .i64) (.pair (.slice 40 (.int .u64)) (.pair (.slice 3 (.int .i64)) (.int .i64))))) (O := O47) O47.rd h)) a2 r103 e104) ?_)
                    rintro _ w110 ⟨rfl, hS111⟩
                    have hS : Sat w110 (rf w0) [optP O47 pv21 r12] := hS.ext hS111
                    refine WR.runk [27, 28] [29, 30, 31, 32, 33, 34, 35, 36, 37, 38, 39, 40, 41] [0, 2, 7, 71, 74, 75, 76] (L' := [(0, .slice A0 l0.length c0), (2, .int .i64 a2), (7, pv21), (71, .bool true), (74, .int .i64 r103), (75, .slice A0 l0.length c0), (76, .int .i64 a2)]) (w' := w110) (by kernel_rfl) ?_
                    obtain ⟨r112, e113, H⟩ := bind_ex H
                    refine WR.st (St.call (by kernel_rfl) (f := 19) (args := #[.slice A0 l0.length c0, .int .u8 1, .int .i64 a2]) (by kernel_rfl) (colophonref02_Select.calls w110 A0 c0 l0 (rdS.up R0 hS.sub0) 1 a2 r112 e113) ?_)
                    rintro _ w119 ⟨rfl, hS120⟩
                    have hS : Sat w119 (rf w0) [optP O47 pv21 r12] := hS.ext hS120
                    refine WR.runk [30, 31, 32] [33, 34, 35, 36, 37, 38, 39, 40, 41] [0, 2, 7, 80] (L' := [(0, .slice A0 l0.length c0), (2, .int .i64 a2), (7, pv21), (80, .bool (r103 == r112))]) (w' := w119) (by kernel_rfl) ?_
                    refine WR.split 80 (b := (r103 == r112)) (by kernel_rfl) (fun hb121 => ?_) (fun hb121 => ?_)
                    · replace H := ite_t H hb121
                      refine WR.runk [33, 34] [35, 36, 37, 38, 39, 40, 41] [0, 2, 80, 81, 82] (L' := [(0, .slice A0 l0.length c0), (2, .int .i64 a2), (80, .bool true), (81, pv21), (82, .int .i64 a2)]) (w' := w119) (by kernel_rfl) ?_
                      obtain ⟨r122, e123, H⟩ := bind_ex H
                      refine WR.st (St.call (by kernel_rfl) (f := 14) (args := #[pv21, .int .i64 a2]) (by kernel_rfl) (rank_Vec_SelectZero.calls w119 (pv21) r12 (Sat.rdAny 0 hS rfl (fun _ h => optP.rdd (t := 47) (κ := (.pair (.int .i64) (.pair (.slice 40 (.int .u64)) (.pair (.slice 3 (.int .i64)) (.int .i64))))) (O := O47) O47.rd h)) a2 r122 e123) ?_)
                      rintro _ w129 ⟨rfl, hS130⟩
                      have hS : Sat w129 (rf w0) [optP O47 pv21 r12] := hS.ext hS130
                      refine WR.runk [36, 37] [38, 39, 40, 41] [80, 83, 84, 85] (L' := [(80, .bool true), (83, .int .i64 r122), (84, .slice A0 l0.length c0), (85, .int .i64 a2)]) (w' := w129) (by kernel_rfl) ?_
                      obtain ⟨r131, e132, H⟩ := bind_ex H
                      refine WR.st (St.call (by kernel_rfl) (f := 19) (args := #[.slice A0 l0.length c0, .int .u8 0, .int .i64 a2]) (by kernel_rfl) (colophonref02_Select.calls w129 A0 c0 l0 (rdS.up R0 hS.sub0) 0 a2 r131 e132) ?_)
                      rintro _ w138 ⟨rfl, hS139⟩
                      have hS : Sat w138 (rf w0) [optP O47 pv21 r12] := hS.ext hS139
                      refine WR.runk [39, 40, 41] [] [6] (L' := [(6, .bool (r122 == r131))]) (w' := w138) (by kernel_rfl) ?_
                      refine WR.nil ?_
                      refine At.go ?_
                      refine WC.ret (by kernel_rfl) ?_
                      obtain rfl := Option.some.inj H
                      have hS : Sat w138 (rf w0) [] := hS.sel [] (by kernel_rfl)
                      exact At.body [.bool (r122 == r131)] (by kernel_rfl) ⟨_, rfl, rfl, hS⟩
                    · replace H := ite_f H hb121
                      refine WR.runk [33, 34, 35, 36, 37, 38, 39, 40, 41] [] [6] (L' := [(6, .bool false)]) (w' := w119) (by kernel_rfl) ?_
                      refine WR.nil ?_
                      refine At.go ?_
                      refine WC.ret (by kernel_rfl) ?_
                      obtain rfl := Option.some.inj H
                      have hS : Sat w119 (rf w0) [] := hS.sel [] (by kernel_rfl)
                      exact At.body [.bool false] (by kernel_rfl) ⟨_, rfl, rfl, hS⟩
                  · replace H := ite_f H hb102
                    refine WR.runk [24, 25, 26, 27, 28, 29, 30, 31, 32, 33, 34, 35, 36, 37, 38, 39, 40, 41] [] [6] (L' := [(6, .bool false)]) (w' := w96) (by kernel_rfl) ?_
                    refine WR.nil ?_
                    refine At.go ?_
                    refine WC.ret (by kernel_rfl) ?_
                    obtain rfl := Option.some.inj H
                    have hS : Sat w96 (rf w0) [] := hS.sel [] (by kernel_rfl)
                    exact At.body [.bool false] (by kernel_rfl) ⟨_, rfl, rfl, hS⟩
                · replace H := ite_f H hb99
                  refine WR.runk [11, 12, 13, 14, 15, 16, 17, 18, 19, 20, 21, 22, 23] [24, 25, 26, 27, 28, 29, 30, 31, 32, 33, 34, 35, 36, 37, 38, 39, 40, 41] [0, 2, 7, 71] (L' := [(0, .slice A0 l0.length c0), (2, .int .i64 a2), (7, pv21), (71, .bool (r89 == false))]) (w' := w96) (by kernel_rfl) ?_
                  refine WR.split 71 (b := (r89 == false)) (by kernel_rfl) (fun hb140 => ?_) (fun hb140 => ?_)
                  · replace H := ite_t H hb140
                    refine WR.runk [24, 25] [26, 27, 28, 29, 30, 31, 32, 33, 34, 35, 36, 37, 38, 39, 40, 41] [0, 2, 7, 71, 72, 73] (L' := [(0, .slice A0 l0.length c0), (2, .int .i64 a2), (7, pv21), (71, .bool true), (72, pv21), (73, .int .i64 a2)]) (w' := w96) (by kernel_rfl) ?_
                    obtain ⟨r141, e142, H⟩ := bind_ex H
                    refine WR.st (St.call (by kernel_rfl) (f := 13) (args := #[pv21, .int .i64 a2]) (by kernel_rfl) (rank_Vec_Select.calls w96 (pv21) r12 (Sat.rdAny 0 hS rfl (fun _ h => optP.rdd (t := 47) (κ := (.pair (.int .i64) (.pair (.slice 40 (.int .u64)) (.pair (.slice 3 (.int .i64)) (.int .i64))))) (O := O47) O47.rd h)) a2 r141 e142) ?_)
                    rintro _ w148 ⟨rfl, hS149⟩
                    have hS : Sat w148 (rf w0) [optP O47 pv21 r12] := hS.ext hS149
                    refine WR.runk [27, 28] [29, 30, 31, 32, 33, 34, 35, 36, 37, 38, 39, 40, 41] [0, 2, 7, 71, 74, 75, 76] (L' := [(0, .slice A0 l0.length c0), (2, .int .i64 a2), (7, pv21), (71, .bool true), (74, .int .i64 r141), (75, .slice A0 l0.length c0), (76, .int .i64 a2)]) (w' := w148) (by kernel_rfl) ?_
                    obtain ⟨r150, e151, H⟩ := bind_ex H
                    refine WR.st (St.call (by kernel_rfl) (f := 19) (args := #[.slice A0 l0.length c0, .int .u8 1, .int .i64 a2]) (by kernel_rfl) (colophonref02_Select.calls w148 A0 c0 l0 (rdS.up R0 hS.sub0) 1 a2 r150 e151) ?_)
                    rintro _ w157 ⟨rfl, hS158⟩
                    have hS : Sat w157 (rf w0) [optP O47 pv21 r12] := hS.ext hS158
                    refine WR.runk [30, 31, 32] [33, 34, 35, 36, 37, 38, 39, 40, 41] [0, 2, 7, 80] (L' := [(0, .slice A0 l0.length c0), (2, .int .i64 a2), (7, pv21), (80, .bool (r141 == r150))]) (w' := w157) (by kernel_rfl) ?_
                    refine WR.split 80 (b := (r141 == r150)) (by kernel_rfl) (fun hb159 => ?_) (fun hb159 => ?_)
                    · replace H := ite_t H hb159
                      refine WR.runk [33, 34] [35, 36, 37, 38, 39, 40, 41] [0, 2, 80, 81, 82] (L' := [(0, .slice A0 l0.length c0), (2, .int .i64 a2), (80, .bool true), (81, pv21), (82, .int .i64 a2)]) (w' := w157) (by kernel_rfl) ?_
                      obtain ⟨r160, e161, H⟩ := bind_ex H
                      refine WR.st (St.call (by kernel_rfl) (f := 14) (args := #[pv21, .int .i64 a2]) (by kernel_rfl) (rank_Vec_SelectZero.calls w157 (pv21) r12 (Sat.rdAny 0 hS rfl (fun _ h => optP.rdd (t := 47) (κ := (.pair (.int .i64) (.pair (.slice 40 (.int .u64)) (.pair (.slice 3 (.int .i64)) (.int .i64))))) (O := O47) O47.rd h)) a2 r160 e161) ?_)
                      rintro _ w167 ⟨rfl, hS168⟩
                      have hS : Sat w167 (rf w0) [optP O47 pv21 r12] := hS.ext hS168
                      refine WR.runk [36, 37] [38, 39, 40, 41] [80, 83, 84, 85] (L' := [(80, .bool true), (83, .int .i64 r160), (84, .slice A0 l0.length c0), (85, .int .i64 a2)]) (w' := w167) (by kernel_rfl) ?_
                      obtain ⟨r169, e170, H⟩ := bind_ex H
                      refine WR.st (St.call (by kernel_rfl) (f := 19) (args := #[.slice A0 l0.length c0, .int .u8 0, .int .i64 a2]) (by kernel_rfl) (colophonref02_Select.calls w167 A0 c0 l0 (rdS.up R0 hS.sub0) 0 a2 r169 e170) ?_)
                      rintro _ w176 ⟨rfl, hS177⟩
                      have hS : Sat w176 (rf w0) [optP O47 pv21 r12] := hS.ext hS177
                      refine WR.runk [39, 40, 41] [] [6] (L' := [(6, .bool (r160 == r169))]) (w' := w176) (by kernel_rfl) ?_
                      refine WR.nil ?_
                      refine At.go ?_
                      refine WC.ret (by kernel_rfl) ?_
                      obtain rfl := Option.some.inj H
                      have hS : Sat w176 (rf w0) [] := hS.sel [] (by kernel_rfl)
                      exact At.body [.bool (r160 == r169)] (by kernel_rfl) ⟨_, rfl, rfl, hS⟩
                    · replace H := ite_f H hb159
                      refine WR.runk [33, 34, 35, 36, 37, 38, 39, 40, 41] [] [6] (L' := [(6, .bool false)]) (w' := w157) (by kernel_rfl) ?_
                      refine WR.nil ?_
                      refine At.go ?_
                      refine WC.ret (by kernel_rfl) ?_
                      obtain rfl := Option.some.inj H
                      have hS : Sat w157 (rf w0) [] := hS.sel [] (by kernel_rfl)
                      exact At.body [.bool false] (by kernel_rfl) ⟨_, rfl, rfl, hS⟩
                  · replace H := ite_f H hb140
                    refine WR.runk [24, 25, 26, 27, 28, 29, 30, 31, 32, 33, 34, 35, 36, 37, 38, 39, 40, 41] [] [6] (L' := [(6, .bool false)]) (w' := w96) (by kernel_rfl) ?_
                    refine WR.nil ?_
                    refine At.go ?_
                    refine WC.ret (by kernel_rfl) ?_
                    obtain rfl := Option.some.inj H
                    have hS : Sat w96 (rf w0) [] := hS.sel [] (by kernel_rfl)
                    exact At.body [.bool false] (by kernel_rfl) ⟨_, rfl, rfl, hS⟩
              · replace H := ite_f H hb98
                refine WR.runk [6, 7, 8, 9, 10, 11, 12, 13, 14, 15, 16, 17, 18, 19, 20, 21, 22, 23] [24, 25, 26, 27, 28, 29, 30, 31, 32, 33, 34, 35, 36, 37, 38, 39, 40, 41] [0, 2, 7, 71] (L' := [(0, .slice A0 l0.length c0), (2, .int .i64 a2), (7, pv21), (71, .bool (r89 == false))]) (w' := w96) (by kernel_rfl) ?_
                refine WR.split 71 (b := (r89 == false)) (by kernel_rfl) (fun hb178 => ?_) (fun hb178 => ?_)
                · replace H := ite_t H hb178
                  refine WR.runk [24, 25] [26, 27, 28, 29, 30, 31, 32, 33, 34, 35, 36, 37, 38, 39, 40, 41] [0, 2, 7, 71, 72, 73] (L' := [(0, .slice A0 l0.length c0), (2, .int .i64 a2), (7, pv21), (71, .bool true), (72, pv21), (73, .int .i64 a2)]) (w' := w96) (by kernel_rfl) ?_
                  obtain ⟨r179, e180, H⟩ := bind_ex H
                  refine WR.st (St.call (by kernel_rfl) (f := 13) (args := #[pv21, .int .i64 a2]) (by kernel_rfl) (rank_Vec_Select.calls w96 (pv21) r12 (Sat.rdAny 0 hS rfl (fun _ h => optP.rdd (t := 47) (κ := (.pair (.int .i64) (.pair (.slice 40 (.int .u64)) (.pair (.slice 3 (.int .i64)) (.int .i64))))) (O := O47) O47.rd h)) a2 r179 e180) ?_)
                  rintro _ w186 ⟨rfl, hS187⟩
                  have hS : Sat w186 (rf w0) [optP O47 pv21 r12] := hS.ext hS187
                  refine WR.runk [27, 28] [29, 30, 31, 32, 33, 34, 35, 36, 37, 38, 39, 40, 41] [0, 2, 7, 71, 74, 75, 76] (L' := [(0, .slice A0 l0.length c0), (2, .int .i64 a2), (7, pv21), (71, .bool true), (74, .int .i64 r179), (75, .slice A0 l0.length c0), (76, .int .i64 a2)]) (w' := w186) (by kernel_rfl) ?_
                  obtain ⟨r188, e189, H⟩ := bind_ex H
                  refine WR.st (St.call (by kernel_rfl) (f := 19) (args := #[.slice A0 l0.length c0, .int .u8 1, .int .i64 a2]) (by kernel_rfl) (colophonref02_Select.calls w186 A0 c0 l0 (rdS.up R0 hS.sub0) 1 a2 r188 e189) ?_)
                  rintro _ w195 ⟨rfl, hS196⟩
                  have hS : Sat w195 (rf w0) [optP O47 pv21 r12] := hS.ext hS196
                  refine WR.runk [30, 31, 32] [33, 34, 35, 36, 37, 38, 39, 40, 41] [0, 2, 7, 80] (L' := [(0, .slice A0 l0.length c0), (2, .int .i64 a2), (7, pv21), (80, .bool (r179 == r188))]) (w' := w195) (by kernel_rfl) ?_
                  refine WR.split 80 (b := (r179 == r188)) (by kernel_rfl) (fun hb197 => ?_) (fun hb197 => ?_)
                  · replace H := ite_t H hb197
                    refine WR.runk [33, 34] [35, 36, 37, 38, 39, 40, 41] [0, 2, 80, 81, 82] (L' := [(0, .slice A0 l0.length c0), (2, .int .i64 a2), (80, .bool true), (81, pv21), (82, .int .i64 a2)]) (w' := w195) (by kernel_rfl) ?_
                    obtain ⟨r198, e199, H⟩ := bind_ex H
                    refine WR.st (St.call (by kernel_rfl) (f := 14) (args := #[pv21, .int .i64 a2]) (by kernel_rfl) (rank_Vec_SelectZero.calls w195 (pv21) r12 (Sat.rdAny 0 hS rfl (fun _ h => optP.rdd (t := 47) (κ := (.pair (.int .i64) (.pair (.slice 40 (.int .u64)) (.pair (.slice 3 (.int .i64)) (.int .i64))))) (O := O47) O47.rd h)) a2 r198 e199) ?_)
                    rintro _ w205 ⟨rfl, hS206⟩
                    have hS : Sat w205 (rf w0) [optP O47 pv21 r12] := hS.ext hS206
                    refine WR.runk [36, 37] [38, 39, 40, 41] [80, 83, 84, 85] (L' := [(80, .bool true), (83, .int .i64 r198), (84, .slice A0 l0.length c0), (85, .int .i64 a2)]) (w' := w205) (by kernel_rfl) ?_
                    obtain ⟨r207, e208, H⟩ := bind_ex H
                    refine WR.st (St.call (by kernel_rfl) (f := 19) (args := #[.slice A0 l0.length c0, .int .u8 0, .int .i64 a2]) (by kernel_rfl) (colophonref02_Select.calls w205 A0 c0 l0 (rdS.up R0 hS.sub0) 0 a2 r207 e208) ?_)
                    rintro _ w214 ⟨rfl, hS215⟩
                    have hS : Sat w214 (rf w0) [optP O47 pv21 r12] := hS.ext hS215
                    refine WR.runk [39, 40, 41] [] [6] (L' := [(6, .bool (r198 == r207))]) (w' := w214) (by kernel_rfl) ?_
                    refine WR.nil ?_
                    refine At.go ?_
                    refine WC.ret (by kernel_rfl) ?_
                    obtain rfl := Option.some.inj H
                    have hS : Sat w214 (rf w0) [] := hS.sel [] (by kernel_rfl)
                    exact At.body [.bool (r198 == r207)] (by kernel_rfl) ⟨_, rfl, rfl, hS⟩
                  · replace H := ite_f H hb197
                    refine WR.runk [33, 34, 35, 36, 37, 38, 39, 40, 41] [] [6] (L' := [(6, .bool false)]) (w' := w195) (by kernel_rfl) ?_
                    refine WR.nil ?_
                    refine At.go ?_
                    refine WC.ret (by kernel_rfl) ?_
                    obtain rfl := Option.some.inj H
                    have hS : Sat w195 (rf w0) [] := hS.sel [] (by kernel_rfl)
                    exact At.body [.bool false] (by kernel_rfl) ⟨_, rfl, rfl, hS⟩
                · replace H := ite_f H hb178
                  refine WR.runk [24, 25, 26, 27, 28, 29, 30, 31, 32, 33, 34, 35, 36, 37, 38, 39, 40, 41] [] [6] (L' := [(6, .bool false)]) (w' := w96) (by kernel_rfl) ?_
                  refine WR.nil ?_
                  refine At.go ?_
                  refine WC.ret (by kernel_rfl) ?_
                  obtain rfl := Option.some.inj H
                  have hS : Sat w96 (rf w0) [] := hS.sel [] (by kernel_rfl)
                  exact At.body [.bool false] (by kernel_rfl) ⟨_, rfl, rfl, hS⟩
end Go.Proofs.Ytlkgejhnjbbogaa
