/-
  Printed by gen.py (my own tool): for each Go function a plain Lean function and the proof that a call of it does what that function says.
-/
import Derived.Test.YtlkgejhnjbbogaaGP1b
set_option linter.unusedVariables false
set_option linter.unusedSimpArgs false
set_option maxRecDepth 100000
namespace Go.Proofs.Ytlkgejhnjbbogaa
open Go Go.Gol
/-! ### 7 colophon/colophonlaw02.RankTurns -/
def colophonlaw02_RankTurns.f (l0 : List Int) (a1 : Int) : Option Bool := (colophonlaw02_first.f.bind fun r1 => (if (!r1) then some false else (if decide ((l0.length : Int) > 3000) then some true else ((colophonlaw02_Vec.f l0).bind fun r12 => ((rank_Vec_Ones.f r12).bind fun r22 => (if decide (r22 > 0) then ((rank_Vec_Ones.f r12).bind fun r32 => ((chk? (decide ((IntKind.wrap .u64 r32) ≠ 0))).bind fun _ => ((rank_Vec_Select.f r12 (wi (Int.tmod (IntKind.wrap .u64 a1) (IntKind.wrap .u64 r32)))).bind fun r42 => ((rank_Vec_At.f r12 r42).bind fun r51 => (if (!r51) then some false else ((rank_Vec_Rank.f r12 r42).bind fun r61 => (if (r61 != (wi (Int.tmod (IntKind.wrap .u64 a1) (IntKind.wrap .u64 r32)))) then some false else ((rank_Vec_Rank.f r12 (wi (r42 + 1))).bind fun r71 => (if (r71 != (wi ((wi (Int.tmod (IntKind.wrap .u64 a1) (IntKind.wrap .u64 r32))) + 1))) then some false else ((chk? (decide ((IntKind.wrap .u64 (wi ((l0.length : Int) + 1))) ≠ 0))).bind fun _ => ((rank_Vec_Rank.f r12 (wi (Int.tmod (IntKind.wrap .u64 a1) (IntKind.wrap .u64 (wi ((l0.length : Int) + 1)))))).bind fun r82 => ((rank_Vec_Zeros.f r12 (wi (Int.tmod (IntKind.wrap .u64 a1) (IntKind.wrap .u64 (wi ((l0.length : Int) + 1)))))).bind fun r91 => (if ((wi (r82 + r91)) == (wi (Int.tmod (IntKind.wrap .u64 a1) (IntKind.wrap .u64 (wi ((l0.length : Int) + 1)))))) then ((rank_Vec_Len.f none).bind fun r101 => (if (r101 == 0) then ((rank_Vec_Ones.f none).bind fun r111 => (if (r111 == 0) then ((rank_Vec_At.f none 0).bind fun r121 => (if (!r121) then ((rank_Vec_Rank.f none 5).bind fun r131 => (if (r131 == 0) then ((rank_Vec_Zeros.f none 5).bind fun r141 => (if (r141 == 0) then ((rank_Vec_Select.f none 0).bind fun r151 => (if (r151 == (-1)) then ((rank_Vec_SelectZero.f none 0).bind fun r161 => some (r161 == (-1))) else some false)) else some false)) else some false)) else some false)) else some false)) else some false)) else some false))))))))))))) else ((chk? (decide ((IntKind.wrap .u64 (wi ((l0.length : Int) + 1))) ≠ 0))).bind fun _ => ((rank_Vec_Rank.f r12 (wi (Int.tmod (IntKind.wrap .u64 a1) (IntKind.wrap .u64 (wi ((l0.length : Int) + 1)))))).bind fun r171 => ((rank_Vec_Zeros.f r12 (wi (Int.tmod (IntKind.wrap .u64 a1) (IntKind.wrap .u64 (wi ((l0.length : Int) + 1)))))).bind fun r180 => (if ((wi (r171 + r180)) == (wi (Int.tmod (IntKind.wrap .u64 a1) (IntKind.wrap .u64 (wi ((l0.length : Int) + 1)))))) then ((rank_Vec_Len.f none).bind fun r190 => (if (r190 == 0) then ((rank_Vec_Ones.f none).bind fun r200 => (if (r200 == 0) then ((rank_Vec_At.f none 0).bind fun r210 => (if (!r210) then ((rank_Vec_Rank.f none 5).bind fun r220 => (if (r220 == 0) then ((rank_Vec_Zeros.f none 5).bind fun r230 => (if (r230 == 0) then ((rank_Vec_Select.f none 0).bind fun r240 => (if (r240 == (-1)) then ((rank_Vec_SelectZero.f none 0).bind fun r250 => some (r250 == (-1))) else some false)) else some false)) else some false)) else some false)) else some false)) else some false)) else some false))))))))))
def colophonlaw02_RankTurns.post (w : World) (r : Bool) (v : Value) (w' : World) : Prop := v = (.bool r : Value) ∧ Sat w' (rf w) []
theorem colophonlaw02_RankTurns.calls (w0 : World) (A0 : Option Addr) (c0 : Nat) (l0 : List Int) (R0 : rdS (r0 (.int .u8)) 1 (hp w0) A0 c0 l0) (a1 : Int) (r : Bool) (H : colophonlaw02_RankTurns.f l0 a1 = some r) :
    Calls Try.prog 7 #[.slice A0 l0.length c0, .int .i64 a1] w0 (fun e w' => ∃ v, e = .returned v ∧ colophonlaw02_RankTurns.post w0 r v w') := by
  have hS : Sat w0 (rf w0) [] := Sat.start w0
  unfold colophonlaw02_RankTurns.f at H
  refine calls_of_WC (vs := [.slice A0 l0.length c0, .int .i64 a1]) Try.func7 (c := C7) (n := 102) (by kernel_rfl) (by kernel_rfl) (by kernel_rfl) ?_
  refine WC.seq (by kernel_rfl) ?_
  refine WC.reg [0] (by kernel_rfl) (by kernel_rfl) ?_
  refine WR.runk [0] [] [0, 1] (L' := [(0, .slice A0 l0.length c0), (1, .int .i64 a1)]) (w' := w0) (by kernel_rfl) ?_
  refine WR.nil ?_
  refine At.go ?_
  refine WC.seq (by kernel_rfl) ?_
  refine WC.seq (by kernel_rfl) ?_
  refine WC.reg [0, 1] (by kernel_rfl) (by kernel_rfl) ?_
  obtain ⟨r1, e2, H⟩ := bind_ex H
  refine WR.st (St.call (by kernel_rfl) (f := 9) (args := #[]) (by kernel_rfl) (colophonlaw02_first.calls w0  r1 e2) ?_)
  rintro _ w8 ⟨rfl, hS9⟩
  have hS : Sat w8 (rf w0) [] := hS.ext hS9
  refine WR.runk [1] [] [0, 1, 11] (L' := [(0, .slice A0 l0.length c0), (1, .int .i64 a1), (11, .bool (!r1))]) (w' := w8) (by kernel_rfl) ?_
  refine WR.nil ?_
  refine At.go ?_
  refine WC.cond (by kernel_rfl) (!r1) (by kernel_rfl) (by kernel_rfl) (fun hb10 => ?_) (fun hb10 => ?_)
  · replace H := ite_t H hb10
    refine WC.seq (by kernel_rfl) ?_
    refine WC.reg [0] (by kernel_rfl) (by kernel_rfl) ?_
    refine WR.runk [0] [] [4] (L' := [(4, .bool false)]) (w' := w8) (by kernel_rfl) ?_
    refine WR.nil ?_
    refine At.go ?_
    refine WC.ret (by kernel_rfl) ?_
    refine At.thenRet ?_
    obtain rfl := Option.some.inj H
    have hS : Sat w8 (rf w0) [] := hS.sel [] (by kernel_rfl)
    exact At.body [.bool false] (by kernel_rfl) ⟨_, rfl, rfl, hS⟩
  · replace H := ite_f H hb10
    refine WC.skip (by kernel_rfl) ?_
    refine At.go ?_
    refine WC.seq (by kernel_rfl) ?_
    refine WC.seq (by kernel_rfl) ?_
    refine WC.reg [0, 1, 2] (by kernel_rfl) (by kernel_rfl) ?_
    refine WR.runk [0, 1, 2] [] [0, 1, 14] (L' := [(0, .slice A0 l0.length c0), (1, .int .i64 a1), (14, .bool (decide ((l0.length : Int) > 3000)))]) (w' := w8) (by kernel_rfl) ?_
    refine WR.nil ?_
    refine At.go ?_
    refine WC.cond (by kernel_rfl) (decide ((l0.length : Int) > 3000)) (by kernel_rfl) (by kernel_rfl) (fun hb11 => ?_) (fun hb11 => ?_)
    · replace H := ite_t H hb11
      refine WC.seq (by kernel_rfl) ?_
      refine WC.reg [0] (by kernel_rfl) (by kernel_rfl) ?_
      refine WR.runk [0] [] [4] (L' := [(4, .bool true)]) (w' := w8) (by kernel_rfl) ?_
      refine WR.nil ?_
      refine At.go ?_
      refine WC.ret (by kernel_rfl) ?_
      refine At.thenRet ?_
      obtain rfl := Option.some.inj H
      have hS : Sat w8 (rf w0) [] := hS.sel [] (by kernel_rfl)
      exact At.body [.bool true] (by kernel_rfl) ⟨_, rfl, rfl, hS⟩
    · replace H := ite_f H hb11
      refine WC.skip (by kernel_rfl) ?_
      refine At.go ?_
      refine WC.seq (by kernel_rfl) ?_
      refine WC.reg [0, 1, 2] (by kernel_rfl) (by kernel_rfl) ?_
      refine WR.runk [0] [1, 2] [0, 1, 15] (L' := [(0, .slice A0 l0.length c0), (1, .int .i64 a1), (15, .slice A0 l0.length c0)]) (w' := w8) (by kernel_rfl) ?_
      obtain ⟨r12, e13, H⟩ := bind_ex H
      refine WR.st (St.call (by kernel_rfl) (f := 10) (args := #[.slice A0 l0.length c0]) (by kernel_rfl) (colophonlaw02_Vec.calls w8 A0 c0 l0 (rdS.up R0 hS.sub0) r12 e13) ?_)
      rintro pv21 w19 ⟨_, rfl, hS20⟩
      have hS : Sat w19 (rf w0) [optP O47 pv21 r12] := hS.ext hS20
      refine WR.runk [2] [] [0, 1, 5] (L' := [(0, .slice A0 l0.length c0), (1, .int .i64 a1), (5, pv21)]) (w' := w19) (by kernel_rfl) ?_
      refine WR.nil ?_
      refine At.go ?_
      refine WC.seq (by kernel_rfl) ?_
      refine WC.seq (by kernel_rfl) ?_
      refine WC.reg [0, 1, 2] (by kernel_rfl) (by kernel_rfl) ?_
      refine WR.runk [0] [1, 2] [0, 1, 5, 17] (L' := [(0, .slice A0 l0.length c0), (1, .int .i64 a1), (5, pv21), (17, pv21)]) (w' := w19) (by kernel_rfl) ?_
      obtain ⟨r22, e23, H⟩ := bind_ex H
      refine WR.st (St.call (by kernel_rfl) (f := 15) (args := #[pv21]) (by kernel_rfl) (rank_Vec_Ones.calls w19 (pv21) r12 (Sat.rdAny 0 hS rfl (fun _ h => optP.rdd (t := 47) (κ := (.pair (.int .i64) (.pair (.slice 40 (.int .u64)) (.pair (.slice 3 (.int .i64)) (.int .i64))))) (O := O47) O47.rd h)) r22 e23) ?_)
      rintro _ w29 ⟨rfl, hS30⟩
      have hS : Sat w29 (rf w0) [optP O47 pv21 r12] := hS.ext hS30
      refine WR.runk [2] [] [0, 1, 5, 19] (L' := [(0, .slice A0 l0.length c0), (1, .int .i64 a1), (5, pv21), (19, .bool (decide (r22 > 0)))]) (w' := w29) (by kernel_rfl) ?_
      refine WR.nil ?_
      refine At.go ?_
      refine WC.cond (by kernel_rfl) (decide (r22 > 0)) (by kernel_rfl) (by kernel_rfl) (fun hb31 => ?_) (fun hb31 => ?_)
      · replace H := ite_t H hb31
        refine WC.seq (by kernel_rfl) ?_
        refine WC.reg [0, 1, 2, 3, 4, 5, 6, 7] (by kernel_rfl) (by kernel_rfl) ?_
        refine WR.runk [0, 1, 2] [3, 4, 5, 6, 7] [0, 1, 5, 21, 22] (L' := [(0, .slice A0 l0.length c0), (1, .int .i64 a1), (5, pv21), (21, .int .u64 (IntKind.wrap .u64 a1)), (22, pv21)]) (w' := w29) (by kernel_rfl) ?_
        obtain ⟨r32, e33, H⟩ := bind_ex H
        refine WR.st (St.call (by kernel_rfl) (f := 15) (args := #[pv21]) (by kernel_rfl) (rank_Vec_Ones.calls w29 (pv21) r12 (Sat.rdAny 0 hS rfl (fun _ h => optP.rdd (t := 47) (κ := (.pair (.int .i64) (.pair (.slice 40 (.int .u64)) (.pair (.slice 3 (.int .i64)) (.int .i64))))) (O := O47) O47.rd h)) r32 e33) ?_)
        rintro _ w39 ⟨rfl, hS40⟩
        have hS : Sat w39 (rf w0) [optP O47 pv21 r12] := hS.ext hS40
        refine WR.runk [4] [5, 6, 7] [0, 1, 5, 21, 24] (L' := [(0, .slice A0 l0.length c0), (1, .int .i64 a1), (5, pv21), (21, .int .u64 (IntKind.wrap .u64 a1)), (24, .int .u64 (IntKind.wrap .u64 r32))]) (w' := w39) (by kernel_rfl) ?_
        obtain ⟨_, e41, H⟩ := bind_ex H
        refine WR.st (St.ofP (PSt.div (k := .u64) (t := 29) (t2 := 29) (a := (IntKind.wrap .u64 a1)) (b := (IntKind.wrap .u64 r32)) .rem (by decide) (.tmp 21) (.tmp 24) (by kernel_rfl) (by kernel_rfl) (by kernel_rfl) (by kernel_rfl) (of_decide_eq_true (chk?_some e41)) ?_))
        refine WR.runk [6, 7] [] [0, 1, 5, 6] (L' := [(0, .slice A0 l0.length c0), (1, .int .i64 a1), (5, pv21), (6, .int .i64 (wi (Int.tmod (IntKind.wrap .u64 a1) (IntKind.wrap .u64 r32))))]) (w' := w39) (by kernel_rfl) ?_
        refine WR.nil ?_
        refine At.go ?_
        refine WC.seq (by kernel_rfl) ?_
        refine WC.reg [0, 1, 2, 3] (by kernel_rfl) (by kernel_rfl) ?_
        refine WR.runk [0, 1] [2, 3] [0, 1, 5, 6, 27, 28] (L' := [(0, .slice A0 l0.length c0), (1, .int .i64 a1), (5, pv21), (6, .int .i64 (wi (Int.tmod (IntKind.wrap .u64 a1) (IntKind.wrap .u64 r32)))), (27, pv21), (28, .int .i64 (wi (Int.tmod (IntKind.wrap .u64 a1) (IntKind.wrap .u64 r32))))]) (w' := w39) (by kernel_rfl) ?_
        obtain ⟨r42, e43, H⟩ := bind_ex H
        refine WR.st (St.call (by kernel_rfl) (f := 13) (args := #[pv21, .int .i64 (wi (Int.tmod (IntKind.wrap .u64 a1) (IntKind.wrap .u64 r32)))]) (by kernel_rfl) (rank_Vec_Select.calls w39 (pv21) r12 (Sat.rdAny 0 hS rfl (fun _ h => optP.rdd (t := 47) (κ := (.pair (.int .i64) (.pair (.slice 40 (.int .u64)) (.pair (.slice 3 (.int .i64)) (.int .i64))))) (O := O47) O47.rd h)) (wi (Int.tmod (IntKind.wrap .u64 a1) (IntKind.wrap .u64 r32))) r42 e43) ?_)
        rintro _ w49 ⟨rfl, hS50⟩
        have hS : Sat w49 (rf w0) [optP O47 pv21 r12] := hS.ext hS50
        refine WR.runk [3] [] [0, 1, 5, 6, 7] (L' := [(0, .slice A0 l0.length c0), (1, .int .i64 a1), (5, pv21), (6, .int .i64 (wi (Int.tmod (IntKind.wrap .u64 a1) (IntKind.wrap .u64 r32)))), (7, .int .i64 r42)]) (w' := w49) (by kernel_rfl) ?_
        refine WR.nil ?_
        refine At.go ?_
        refine WC.seq (by kernel_rfl) ?_
        refine WC.reg [0, 1, 2, 3, 4, 5, 6, 7, 8, 9, 10, 11, 12, 13, 14, 15, 16, 17, 18, 19] (by kernel_rfl) (by kernel_rfl) ?_
        refine WR.runk [0, 1] [2, 3, 4, 5, 6, 7, 8, 9, 10, 11, 12, 13, 14, 15, 16, 17, 18, 19] [0, 1, 5, 6, 7, 30, 31] (L' := [(0, .slice A0 l0.length c0), (1, .int .i64 a1), (5, pv21), (6, .int .i64 (wi (Int.tmod (IntKind.wrap .u64 a1) (IntKind.wrap .u64 r32)))), (7, .int .i64 r42), (30, pv21), (31, .int .i64 r42)]) (w' := w49) (by kernel_rfl) ?_
        obtain ⟨r51, e52, H⟩ := bind_ex H
        refine WR.st (St.call (by kernel_rfl) (f := 18) (args := #[pv21, .int .i64 r42]) (by kernel_rfl) (rank_Vec_At.calls w49 (pv21) r12 (Sat.rdAny 0 hS rfl (fun _ h => optP.rdd (t := 47) (κ := (.pair (.int .i64) (.pair (.slice 40 (.int .u64)) (.pair (.slice 3 (.int .i64)) (.int .i64))))) (O := O47) O47.rd h)) r42 r51 e52) ?_)
        rintro _ w58 ⟨rfl, hS59⟩
        have hS : Sat w58 (rf w0) [optP O47 pv21 r12] := hS.ext hS59
        refine WR.runk [3, 4] [5, 6, 7, 8, 9, 10, 11, 12, 13, 14, 15, 16, 17, 18, 19] [0, 1, 5, 6, 7, 34] (L' := [(0, .slice A0 l0.length c0), (1, .int .i64 a1), (5, pv21), (6, .int .i64 (wi (Int.tmod (IntKind.wrap .u64 a1) (IntKind.wrap .u64 r32)))), (7, .int .i64 r42), (34, .bool (!r51))]) (w' := w58) (by kernel_rfl) ?_
        refine WR.split 34 (b := (!r51)) (by kernel_rfl) (fun hb60 => ?_) (fun hb60 => ?_)
        · replace H := ite_t H hb60
          refine WR.runk [5, 6, 7, 8, 9, 10, 11, 12, 13, 14, 15, 16, 17, 18, 19] [] [0, 1, 5, 49] (L' := [(0, .slice A0 l0.length c0), (1, .int .i64 a1), (5, pv21), (49, .bool true)]) (w' := w58) (by kernel_rfl) ?_
          refine WR.nil ?_
          refine At.go ?_
          refine WC.condT (by kernel_rfl) (by kernel_rfl) (by kernel_rfl) ?_
          refine WC.seq (by kernel_rfl) ?_
          refine WC.reg [0] (by kernel_rfl) (by kernel_rfl) ?_
          refine WR.runk [0] [] [4] (L' := [(4, .bool false)]) (w' := w58) (by kernel_rfl) ?_
          refine WR.nil ?_
          refine At.go ?_
          refine WC.ret (by kernel_rfl) ?_
          refine At.thenRet ?_
          obtain rfl := Option.some.inj H
          have hS : Sat w58 (rf w0) [] := hS.sel [] (by kernel_rfl)
          exact At.body [.bool false] (by kernel_rfl) ⟨_, rfl, rfl, hS⟩
        · replace H := ite_f H hb60
          refine WR.runk [5, 6] [7, 8, 9, 10, 11, 12, 13, 14, 15, 16, 17, 18, 19] [0, 1, 5, 6, 7, 34, 35, 36] (L' := [(0, .slice A0 l0.length c0), (1, .int .i64 a1), (5, pv21), (6, .int .i64 (wi (Int.tmod (IntKind.wrap .u64 a1) (IntKind.wrap .u64 r32)))), (7, .int .i64 r42), (34, .bool false), (35, pv21), (36, .int .i64 r42)]) (w' := w58) (by kernel_rfl) ?_
          obtain ⟨r61, e62, H⟩ := bind_ex H
          refine WR.st (St.call (by kernel_rfl) (f := 11) (args := #[pv21, .int .i64 r42]) (by kernel_rfl) (rank_Vec_Rank.calls w58 (pv21) r12 (Sat.rdAny 0 hS rfl (fun _ h => optP.rdd (t := 47) (κ := (.pair (.int .i64) (.pair (.slice 40 (.int .u64)) (.pair (.slice 3 (.int .i64)) (.int .i64))))) (O := O47) O47.rd h)) r42 r61 e62) ?_)
          rintro _ w68 ⟨rfl, hS69⟩
          have hS : Sat w68 (rf w0) [optP O47 pv21 r12] := hS.ext hS69
          refine WR.runk [8, 9, 10, 11] [12, 13, 14, 15, 16, 17, 18, 19] [0, 1, 5, 6, 7, 41] (L' := [(0, .slice A0 l0.length c0), (1, .int .i64 a1), (5, pv21), (6, .int .i64 (wi (Int.tmod (IntKind.wrap .u64 a1) (IntKind.wrap .u64 r32)))), (7, .int .i64 r42), (41, .bool (r61 != (wi (Int.tmod (IntKind.wrap .u64 a1) (IntKind.wrap .u64 r32)))))]) (w' := w68) (by kernel_rfl) ?_
          refine WR.split 41 (b := (r61 != (wi (Int.tmod (IntKind.wrap .u64 a1) (IntKind.wrap .u64 r32))))) (by kernel_rfl) (fun hb70 => ?_) (fun hb70 => ?_)
          · replace H := ite_t H hb70
            refine WR.runk [12, 13, 14, 15, 16, 17, 18, 19] [] [0, 1, 5, 49] (L' := [(0, .slice A0 l0.length c0), (1, .int .i64 a1), (5, pv21), (49, .bool true)]) (w' := w68) (by kernel_rfl) ?_
            refine WR.nil ?_
            refine At.go ?_
            refine WC.condT (by kernel_rfl) (by kernel_rfl) (by kernel_rfl) ?_
            refine WC.seq (by kernel_rfl) ?_
            refine WC.reg [0] (by kernel_rfl) (by kernel_rfl) ?_
            refine WR.runk [0] [] [4] (L' := [(4, .bool false)]) (w' := w68) (by kernel_rfl) ?_
            refine WR.nil ?_
            refine At.go ?_
            refine WC.ret (by kernel_rfl) ?_
            refine At.thenRet ?_
            obtain rfl := Option.some.inj H
            have hS : Sat w68 (rf w0) [] := hS.sel [] (by kernel_rfl)
            exact At.body [.bool false] (by kernel_rfl) ⟨_, rfl, rfl, hS⟩
          · replace H := ite_f H hb70
            refine WR.runk [12, 13, 14] [15, 16, 17, 18, 19] [0, 1, 5, 6, 41, 42, 44] (L' := [(0, .slice A0 l0.length c0), (1, .int .i64 a1), (5, pv21), (6, .int .i64 (wi (Int.tmod (IntKind.wrap .u64 a1) (IntKind.wrap .u64 r32)))), (41, .bool false), (42, pv21), (44, .int .i64 (wi (r42 + 1)))]) (w' := w68) (by kernel_rfl) ?_
            obtain ⟨r71, e72, H⟩ := bind_ex H
            refine WR.st (St.call (by kernel_rfl) (f := 11) (args := #[pv21, .int .i64 (wi (r42 + 1))]) (by kernel_rfl) (rank_Vec_Rank.calls w68 (pv21) r12 (Sat.rdAny 0 hS rfl (fun _ h => optP.rdd (t := 47) (κ := (.pair (.int .i64) (.pair (.slice 40 (.int .u64)) (.pair (.slice 3 (.int .i64)) (.int .i64))))) (O := O47) O47.rd h)) (wi (r42 + 1)) r71 e72) ?_)
            rintro _ w78 ⟨rfl, hS79⟩
            have hS : Sat w78 (rf w0) [optP O47 pv21 r12] := hS.ext hS79
            refine WR.runk [16, 17, 18, 19] [] [0, 1, 5, 49] (L' := [(0, .slice A0 l0.length c0), (1, .int .i64 a1), (5, pv21), (49, .bool (r71 != (wi ((wi (Int.tmod (IntKind.wrap .u64 a1) (IntKind.wrap .u64 r32))) + 1))))]) (w' := w78) (by kernel_rfl) ?_
            refine WR.nil ?_
            refine At.go ?_
            refine WC.cond (by kernel_rfl) (r71 != (wi ((wi (Int.tmod (IntKind.wrap .u64 a1) (IntKind.wrap .u64 r32))) + 1))) (by kernel_rfl) (by kernel_rfl) (fun hb80 => ?_) (fun hb80 => ?_)
            · replace H := ite_t H hb80
              refine WC.seq (by kernel_rfl) ?_
              refine WC.reg [0] (by kernel_rfl) (by kernel_rfl) ?_
              refine WR.runk [0] [] [4] (L' := [(4, .bool false)]) (w' := w78) (by kernel_rfl) ?_
              refine WR.nil ?_
              refine At.go ?_
              refine WC.ret (by kernel_rfl) ?_
              refine At.thenRet ?_
              obtain rfl := Option.some.inj H
              have hS : Sat w78 (rf w0) [] := hS.sel [] (by kernel_rfl)
              exact At.body [.bool false] (by kernel_rfl) ⟨_, rfl, rfl, hS⟩
            · replace H := ite_f H hb80
              refine WC.skip (by kernel_rfl) ?_
              refine At.go ?_
              refine WC.seq (by kernel_rfl) ?_
              refine WC.reg [0, 1, 2, 3, 4, 5, 6, 7, 8] (by kernel_rfl) (by kernel_rfl) ?_
              refine WR.runk [0, 1, 2, 3, 4, 5] [6, 7, 8] [5, 51, 55] (L' := [(5, pv21), (51, .int .u64 (IntKind.wrap .u64 a1)), (55, .int .u64 (IntKind.wrap .u64 (wi ((l0.length : Int) + 1))))]) (w' := w78) (by kernel_rfl) ?_
              obtain ⟨_, e81, H⟩ := bind_ex H
              refine WR.st (St.ofP (PSt.div (k := .u64) (t := 29) (t2 := 29) (a := (IntKind.wrap .u64 a1)) (b := (IntKind.wrap .u64 (wi ((l0.length : Int) + 1)))) .rem (by decide) (.tmp 51) (.tmp 55) (by kernel_rfl) (by kernel_rfl) (by kernel_rfl) (by kernel_rfl) (of_decide_eq_true (chk?_some e81)) ?_))
              refine WR.runk [7, 8] [] [5, 8] (L' := [(5, pv21), (8, .int .i64 (wi (Int.tmod (IntKind.wrap .u64 a1) (IntKind.wrap .u64 (wi ((l0.length : Int) + 1))))))]) (w' := w78) (by kernel_rfl) ?_
              refine WR.nil ?_
              refine At.go ?_
              refine WC.seq (by kernel_rfl) ?_
              refine WC.reg [0] (by kernel_rfl) (by kernel_rfl) ?_
              refine WR.runk [0] [] [5, 8, 9] (L' := [(5, pv21), (8, .int .i64 (wi (Int.tmod (IntKind.wrap .u64 a1) (IntKind.wrap .u64 (wi ((l0.length : Int) + 1)))))), (9, .pointer none)]) (w' := w78) (by kernel_rfl) ?_
              refine WR.nil ?_
              refine At.go ?_
              refine WC.seq (by kernel_rfl) ?_
              refine WC.reg [0, 1, 2, 3, 4, 5, 6, 7, 8, 9, 10, 11, 12, 13, 14, 15, 16, 17, 18, 19, 20, 21, 22, 23, 24, 25, 26, 27, 28, 29, 30, 31, 32, 33, 34, 35, 36, 37, 38, 39, 40, 41, 42, 43, 44] (by kernel_rfl) (by kernel_rfl) ?_
              refine WR.runk [0, 1] [2, 3, 4, 5, 6, 7, 8, 9, 10, 11, 12, 13, 14, 15, 16, 17, 18, 19, 20, 21, 22, 23, 24, 25, 26, 27, 28, 29, 30, 31, 32, 33, 34, 35, 36, 37, 38, 39, 40, 41, 42, 43, 44] [5, 8, 9, 58, 59] (L' := [(5, pv21), (8, .int .i64 (wi (Int.tmod (IntKind.wrap .u64 a1) (IntKind.wrap .u64 (wi ((l0.length : Int) + 1)))))), (9, .pointer none), (58, pv21), (59, .int .i64 (wi (Int.tmod (IntKind.wrap .u64 a1) (IntKind.wrap .u64 (wi ((l0.length : Int) + 1))))))]) (w' := w78) (by kernel_rfl) ?_
              obtain ⟨r82, e83, H⟩ := bind_ex H
              refine WR.st (St.call (by kernel_rfl) (f := 11) (args := #[pv21, .int .i64 (wi (Int.tmod (IntKind.wrap .u64 a1) (IntKind.wrap .u64 (wi ((l0.length : Int) + 1)))))]) (by kernel_rfl) (rank_Vec_Rank.calls w78 (pv21) r12 (Sat.rdAny 0 hS rfl (fun _ h => optP.rdd (t := 47) (κ := (.pair (.int .i64) (.pair (.slice 40 (.int .u64)) (.pair (.slice 3 (.int .i64)) (.int .i64))))) (O := O47) O47.rd h)) (wi (Int.tmod (IntKind.wrap .u64 a1) (IntKind.wrap .u64 (wi ((l0.length : Int) + 1))))) r82 e83) ?_)
              rintro _ w89 ⟨rfl, hS90⟩
              have hS : Sat w89 (rf w0) [optP O47 pv21 r12] := hS.ext hS90
              refine WR.runk [3, 4] [5, 6, 7, 8, 9, 10, 11, 12, 13, 14, 15, 16, 17, 18, 19, 20, 21, 22, 23, 24, 25, 26, 27, 28, 29, 30, 31, 32, 33, 34, 35, 36, 37, 38, 39, 40, 41, 42, 43, 44] [8, 9, 60, 61, 62] (L' := [(8, .int .i64 (wi (Int.tmod (IntKind.wrap .u64 a1) (IntKind.wrap .u64 (wi ((l0.length : Int) + 1)))))), (9, .pointer none), (60, .int .i64 r82), (61, pv21), (62, .int .i64 (wi (Int.tmod (IntKind.wrap .u64 a1) (IntKind.wrap .u64 (wi ((l0.length : Int) + 1))))))]) (w' := w89) (by kernel_rfl) ?_
              obtain ⟨r91, e92, H⟩ := bind_ex H
              refine WR.st (St.call (by kernel_rfl) (f := 12) (args := #[pv21, .int .i64 (wi (Int.tmod (IntKind.wrap .u64 a1) (IntKind.wrap .u64 (wi ((l0.length : Int) + 1)))))]) (by kernel_rfl) (rank_Vec_Zeros.calls w89 (pv21) r12 (Sat.rdAny 0 hS rfl (fun _ h => optP.rdd (t := 47) (κ := (.pair (.int .i64) (.pair (.slice 40 (.int .u64)) (.pair (.slice 3 (.int .i64)) (.int .i64))))) (O := O47) O47.rd h)) (wi (Int.tmod (IntKind.wrap .u64 a1) (IntKind.wrap .u64 (wi ((l0.length : Int) + 1))))) r91 e92) ?_)
              rintro _ w98 ⟨rfl, hS99⟩
              have hS : Sat w98 (rf w0) [optP O47 pv21 r12] := hS.ext hS99
              refine WR.runk [6, 7, 8, 9] [10, 11, 12, 13, 14, 15, 16, 17, 18, 19, 20, 21, 22, 23, 24, 25, 26, 27, 28, 29, 30, 31, 32, 33, 34, 35, 36, 37, 38, 39, 40, 41, 42, 43, 44] [9, 67] (L' := [(9, .pointer none), (67, .bool ((wi (r82 + r91)) == (wi (Int.tmod (IntKind.wrap .u64 a1) (IntKind.wrap .u64 (wi ((l0.length : Int) + 1)))))))]) (w' := w98) (by kernel_rfl) ?_
              refine WR.split 67 (b := ((wi (r82 + r91)) == (wi (Int.tmod (IntKind.wrap .u64 a1) (IntKind.wrap .u64 (wi ((l0.length : Int) + 1))))))) (by kernel_rfl) (fun hb100 => ?_) (fun hb100 => ?_)
              · replace H := ite_t H hb100
                refine WR.runk [10] [11, 12, 13, 14, 15, 16, 17, 18, 19, 20, 21, 22, 23, 24, 25, 26, 27, 28, 29, 30, 31, 32, 33, 34, 35, 36, 37, 38, 39, 40, 41, 42, 43, 44] [9, 67, 68] (L' := [(9, .pointer none), (67, .bool true), (68, .pointer none)]) (w' := w98) (by kernel_rfl) ?_
                obtain ⟨r101, e102, H⟩ := bind_ex H
                refine WR.st (St.call (by kernel_rfl) (f := 16) (args := #[.pointer none]) (by kernel_rfl) (rank_Vec_Len.calls w98 (.pointer none) none rfl r101 e102) ?_)
                rintro _ w108 ⟨rfl, hS109⟩
                have hS : Sat w108 (rf w0) [optP O47 pv21 r12] := hS.ext hS109
                refine WR.runk [12, 13, 14] [15, 16, 17, 18, 19, 20, 21, 22, 23, 24, 25, 26, 27, 28, 29, 30, 31, 32, 33, 34, 35, 36, 37, 38, 39, 40, 41, 42, 43, 44] [9, 72] (L' := [(9, .pointer none), (72, .bool (r101 == 0))]) (w' := w108) (by kernel_rfl) ?_
                refine WR.split 72 (b := (r101 == 0)) (by kernel_rfl) (fun hb110 => ?_) (fun hb110 => ?_)
                · replace H := ite_t H hb110
                  refine WR.runk [15] [16, 17, 18, 19, 20, 21, 22, 23, 24, 25, 26, 27, 28, 29, 30, 31, 32, 33, 34, 35, 36, 37, 38, 39, 40, 41, 42, 43, 44] [9, 72, 73] (L' := [(9, .pointer none), (72, .bool true), (73, .pointer none)]) (w' := w108) (by kernel_rfl) ?_
                  obtain ⟨r111, e112, H⟩ := bind_ex H
                  refine WR.st (St.call (by kernel_rfl) (f := 15) (args := #[.pointer none]) (by kernel_rfl) (rank_Vec_Ones.calls w108 (.pointer none) none rfl r111 e112) ?_)
                  rintro _ w118 ⟨rfl, hS119⟩
                  have hS : Sat w118 (rf w0) [optP O47 pv21 r12] := hS.ext hS119
                  refine WR.runk [17, 18, 19] [20, 21, 22, 23, 24, 25, 26, 27, 28, 29, 30, 31, 32, 33, 34, 35, 36, 37, 38, 39, 40, 41, 42, 43, 44] [9, 77] (L' := [(9, .pointer none), (77, .bool (r111 == 0))]) (w' := w118) (by kernel_rfl) ?_
                  refine WR.split 77 (b := (r111 == 0)) (by kernel_rfl) (fun hb120 => ?_) (fun hb120 => ?_)
                  · replace H := ite_t H hb120
                    refine WR.runk [20] [21, 22, 23, 24, 25, 26, 27, 28, 29, 30, 31, 32, 33, 34, 35, 36, 37, 38, 39, 40, 41, 42, 43, 44] [9, 77, 78] (L' := [(9, .pointer none), (77, .bool true), (78, .pointer none)]) (w' := w118) (by kernel_rfl) ?_
                    obtain ⟨r121, e122, H⟩ := bind_ex H
                    refine WR.st (St.call (by kernel_rfl) (f := 18) (args := #[.pointer none, .int .i64 0]) (by kernel_rfl) (rank_Vec_At.calls w118 (.pointer none) none rfl 0 r121 e122) ?_)
                    rintro _ w128 ⟨rfl, hS129⟩
                    have hS : Sat w128 (rf w0) [optP O47 pv21 r12] := hS.ext hS129
                    refine WR.runk [22, 23, 24] [25, 26, 27, 28, 29, 30, 31, 32, 33, 34, 35, 36, 37, 38, 39, 40, 41, 42, 43, 44] [9, 82] (L' := [(9, .pointer none), (82, .bool (!r121))]) (w' := w128) (by kernel_rfl) ?_
                    refine WR.split 82 (b := (!r121)) (by kernel_rfl) (fun hb130 => ?_) (fun hb130 => ?_)
                    · replace H := ite_t H hb130
                      refine WR.runk [25] [26, 27, 28, 29, 30, 31, 32, 33, 34, 35, 36, 37, 38, 39, 40, 41, 42, 43, 44] [9, 82, 83] (L' := [(9, .pointer none), (82, .bool true), (83, .pointer none)]) (w' := w128) (by kernel_rfl) ?_
                      obtain ⟨r131, e132, H⟩ := bind_ex H
                      refine WR.st (St.call (by kernel_rfl) (f := 11) (args := #[.pointer none, .int .i64 5]) (by kernel_rfl) (rank_Vec_Rank.calls w128 (.pointer none) none rfl 5 r131 e132) ?_)
                      rintro _ w138 ⟨rfl, hS139⟩
                      have hS : Sat w138 (rf w0) [optP O47 pv21 r12] := hS.ext hS139
                      refine WR.runk [27, 28, 29] [30, 31, 32, 33, 34, 35, 36, 37, 38, 39, 40, 41, 42, 43, 44] [9, 87] (L' := [(9, .pointer none), (87, .bool (r131 == 0))]) (w' := w138) (by kernel_rfl) ?_
                      refine WR.split 87 (b := (r131 == 0)) (by kernel_rfl) (fun hb140 => ?_) (fun hb140 => ?_)
                      · replace H := ite_t H hb140
                        refine WR.runk [30] [31, 32, 33, 34, 35, 36, 37, 38, 39, 40, 41, 42, 43, 44] [9, 87, 88] (L' := [(9, .pointer none), (87, .bool true), (88, .pointer none)]) (w' := w138) (by kernel_rfl) ?_
                        obtain ⟨r141, e142, H⟩ := bind_ex H
                        refine WR.st (St.call (by kernel_rfl) (f := 12) (args := #[.pointer none, .int .i64 5]) (by kernel_rfl) (rank_Vec_Zeros.calls w138 (.pointer none) none rfl 5 r141 e142) ?_)
                        rintro _ w148 ⟨rfl, hS149⟩
                        have hS : Sat w148 (rf w0) [optP O47 pv21 r12] := hS.ext hS149
                        refine WR.runk [32, 33, 34] [35, 36, 37, 38, 39, 40, 41, 42, 43, 44] [9, 92] (L' := [(9, .pointer none), (92, .bool (r141 == 0))]) (w' := w148) (by kernel_rfl) ?_
                        refine WR.split 92 (b := (r141 == 0)) (by kernel_rfl) (fun hb150 => ?_) (fun hb150 => ?_)
                        · replace H := ite_t H hb150
                          refine WR.runk [35] [36, 37, 38, 39, 40, 41, 42, 43, 44] [9, 92, 93] (L' := [(9, .pointer none), (92, .bool true), (93, .pointer none)]) (w' := w148) (by kernel_rfl) ?_
                          obtain ⟨r151, e152, H⟩ := bind_ex H
                          refine WR.st (St.call (by kernel_rfl) (f := 13) (args := #[.pointer none, .int .i64 0]) (by kernel_rfl) (rank_Vec_Select.calls w148 (.pointer none) none rfl 0 r151 e152) ?_)
                          rintro _ w158 ⟨rfl, hS159⟩
                          have hS : Sat w158 (rf w0) [optP O47 pv21 r12] := hS.ext hS159
                          refine WR.runk [37, 38, 39] [40, 41, 42, 43, 44] [9, 97] (L' := [(9, .pointer none), (97, .bool (r151 == (-1)))]) (w' := w158) (by kernel_rfl) ?_
                          refine WR.split 97 (b := (r151 == (-1))) (by kernel_rfl) (fun hb160 => ?_) (fun hb160 => ?_)
                          · replace H := ite_t H hb160
                            refine WR.runk [40] [41, 42, 43, 44] [97, 98] (L' := [(97, .bool true), (98, .pointer none)]) (w' := w158) (by kernel_rfl) ?_
                            obtain ⟨r161, e162, H⟩ := bind_ex H
                            refine WR.st (St.call (by kernel_rfl) (f := 14) (args := #[.pointer none, .int .i64 0]) (by kernel_rfl) (rank_Vec_SelectZero.calls w158 (.pointer none) none rfl 0 r161 e162) ?_)
                            rintro _ w168 ⟨rfl, hS169⟩
                            have hS : Sat w168 (rf w0) [optP O47 pv21 r12] := hS.ext hS169
                            refine WR.runk [42, 43, 44] [] [4] (L' := [(4, .bool (r161 == (-1)))]) (w' := w168) (by kernel_rfl) ?_
                            refine WR.nil ?_
                            refine At.go ?_
                            refine WC.ret (by kernel_rfl) ?_
                            obtain rfl := Option.some.inj H
                            have hS : Sat w168 (rf w0) [] := hS.sel [] (by kernel_rfl)
                            exact At.body [.bool (r161 == (-1))] (by kernel_rfl) ⟨_, rfl, rfl, hS⟩
                          · replace H := ite_f H hb160
                            refine WR.runk [40, 41, 42, 43, 44] [] [4] (L' := [(4, .bool false)]) (w' := w158) (by kernel_rfl) ?_
                            refine WR.nil ?_
                            refine At.go ?_
                            refine WC.ret (by kernel_rfl) ?_
                            obtain rfl := Option.some.inj H
                            have hS : Sat w158 (rf w0) [] := hS.sel [] (by kernel_rfl)
                            exact At.body [.bool false] (by kernel_rfl) ⟨_, rfl, rfl, hS⟩
                        · replace H := ite_f H hb150
                          refine WR.runk [35, 36, 37, 38, 39, 40, 41, 42, 43, 44] [] [4] (L' := [(4, .bool false)]) (w' := w148) (by kernel_rfl) ?_
                          refine WR.nil ?_
                          refine At.go ?_
                          refine WC.ret (by kernel_rfl) ?_
                          obtain rfl := Option.some.inj H
                          have hS : Sat w148 (rf w0) [] := hS.sel [] (by kernel_rfl)
                          exact At.body [.bool false] (by kernel_rfl) ⟨_, rfl, rfl, hS⟩
                      · replace H := ite_f H hb140
                        refine WR.runk [30, 31, 32, 33, 34, 35, 36, 37, 38, 39, 40, 41, 42, 43, 44] [] [4] (L' := [(4, .bool false)]) (w' := w138) (by kernel_rfl) ?_
                        refine WR.nil ?_
                        refine At.go ?_
                        refine WC.ret (by kernel_rfl) ?_
                        obtain rfl := Option.some.inj H
                        have hS : Sat w138 (rf w0) [] := hS.sel [] (by kernel_rfl)
                        exact At.body [.bool false] (by kernel_rfl) ⟨_, rfl, rfl, hS⟩
                    · replace H := ite_f H hb130
                      refine WR.runk [25, 26, 27, 28, 29, 30, 31, 32, 33, 34, 35, 36, 37, 38, 39, 40, 41, 42, 43, 44] [] [4] (L' := [(4, .bool false)]) (w' := w128) (by kernel_rfl) ?_
                      refine WR.nil ?_
                      refine At.go ?_
                      refine WC.ret (by kernel_rfl) ?_
                      obtain rfl := Option.some.inj H
                      have hS : Sat w128 (rf w0) [] := hS.sel [] (by kernel_rfl)
                      exact At.body [.bool false] (by kernel_rfl) ⟨_, rfl, rfl, hS⟩
                  · replace H := ite_f H hb120
                    refine WR.runk [20, 21, 22, 23, 24, 25, 26, 27, 28, 29, 30, 31, 32, 33, 34, 35, 36, 37, 38, 39, 40, 41, 42, 43, 44] [] [4] (L' := [(4, .bool false)]) (w' := w118) (by kernel_rfl) ?_
                    refine WR.nil ?_
                    refine At.go ?_
                    refine WC.ret (by kernel_rfl) ?_
                    obtain rfl := Option.some.inj H
                    have hS : Sat w118 (rf w0) [] := hS.sel [] (by kernel_rfl)
                    exact At.body [.bool false] (by kernel_rfl) ⟨_, rfl, rfl, hS⟩
                · replace H := ite_f H hb110
                  refine WR.runk [15, 16, 17, 18, 19, 20, 21, 22, 23, 24, 25, 26, 27, 28, 29, 30, 31, 32, 33, 34, 35, 36, 37, 38, 39, 40, 41, 42, 43, 44] [] [4] (L' := [(4, .bool false)]) (w' := w108) (by kernel_rfl) ?_
                  refine WR.nil ?_
                  refine At.go ?_
                  refine WC.ret (by kernel_rfl) ?_
                  obtain rfl := Option.some.inj H
                  have hS : Sat w108 (rf w0) [] := hS.sel [] (by kernel_rfl)
                  exact At.body [.bool false] (by kernel_rfl) ⟨_, rfl, rfl, hS⟩
              · replace H := ite_f H hb100
                refine WR.runk [10, 11, 12, 13, 14, 15, 16, 17, 18, 19, 20, 21, 22, 23, 24, 25, 26, 27, 28, 29, 30, 31, 32, 33, 34, 35, 36, 37, 38, 39, 40, 41, 42, 43, 44] [] [4] (L' := [(4, .bool false)]) (w' := w98) (by kernel_rfl) ?_
                refine WR.nil ?_
                refine At.go ?_
                refine WC.ret (by kernel_rfl) ?_
                obtain rfl := Option.some.inj H
                have hS : Sat w98 (rf w0) [] := hS.sel [] (by kernel_rfl)
                exact At.body [.bool false] (by kernel_rfl) ⟨_, rfl, rfl, hS⟩
      · replace H := ite_f H hb31
        refine WC.skip (by kernel_rfl) ?_
        refine At.go ?_
        refine WC.seq (by kernel_rfl) ?_
        refine WC.reg [0, 1, 2, 3, 4, 5, 6, 7, 8] (by kernel_rfl) (by kernel_rfl) ?_
        refine WR.runk [0, 1, 2, 3, 4, 5] [6, 7, 8] [5, 51, 55] (L' := [(5, pv21), (51, .int .u64 (IntKind.wrap .u64 a1)), (55, .int .u64 (IntKind.wrap .u64 (wi ((l0.length : Int) + 1))))]) (w' := w29) (by kernel_rfl) ?_
        obtain ⟨_, e170, H⟩ := bind_ex H
        refine WR.st (St.ofP (PSt.div (k := .u64) (t := 29) (t2 := 29) (a := (IntKind.wrap .u64 a1)) (b := (IntKind.wrap .u64 (wi ((l0.length : Int) + 1)))) .rem (by decide) (.tmp 51) (.tmp 55) (by kernel_rfl) (by kernel_rfl) (by kernel_rfl) (by kernel_rfl) (of_decide_eq_true (chk?_some e170)) ?_))
        refine WR.runk [7, 8] [] [5, 8] (L' := [(5, pv21), (8, .int .i64 (wi (Int.tmod (IntKind.wrap .u64 a1) (IntKind.wrap .u64 (wi ((l0.length : Int) + 1))))))]) (w' := w29) (by kernel_rfl) ?_
        refine WR.nil ?_
        refine At.go ?_
        refine WC.seq (by kernel_rfl) ?_
        refine WC.reg [0] (by kernel_rfl) (by kernel_rfl) ?_
        refine WR.runk [0] [] [5, 8, 9] (L' := [(5, pv21), (8, .int .i64 (wi (Int.tmod (IntKind.wrap .u64 a1) (IntKind.wrap .u64 (wi ((l0.length : Int) + 1)))))), (9, .pointer none)]) (w' := w29) (by kernel_rfl) ?_
        refine WR.nil ?_
        refine At.go ?_
        refine WC.seq (by kernel_rfl) ?_
        refine WC.reg [0, 1, 2, 3, 4, 5, 6, 7, 8, 9, 10, 11, 12, 13, 14, 15, 16, 17, 18, 19, 20, 21, 22, 23, 24, 25, 26, 27, 28, 29, 30, 31, 32, 33, 34, 35, 36, 37, 38, 39, 40, 41, 42, 43, 44] (by kernel_rfl) (by kernel_rfl) ?_
        refine WR.runk [0, 1] [2, 3, 4, 5, 6, 7, 8, 9, 10, 11, 12, 13, 14, 15, 16, 17, 18, 19, 20, 21, 22, 23, 24, 25, 26, 27, 28, 29, 30, 31, 32, 33, 34, 35, 36, 37, 38, 39, 40, 41, 42, 43, 44] [5, 8, 9, 58, 59] (L' := [(5, pv21), (8, .int .i64 (wi (Int.tmod (IntKind.wrap .u64 a1) (IntKind.wrap .u64 (wi ((l0.length : Int) + 1)))))), (9, .pointer none), (58, pv21), (59, .int .i64 (wi (Int.tmod (IntKind.wrap .u64 a1) (IntKind.wrap .u64 (wi ((l0.length : Int) + 1))))))]) (w' := w29) (by kernel_rfl) ?_
        obtain ⟨r171, e172, H⟩ := bind_ex H
        refine WR.st (St.call (by kernel_rfl) (f := 11) (args := #[pv21, .int .i64 (wi (Int.tmod (IntKind.wrap .u64 a1) (IntKind.wrap .u64 (wi ((l0.length : Int) + 1)))))]) (by kernel_rfl) (rank_Vec_Rank.calls w29 (pv21) r12 (Sat.rdAny 0 hS rfl (fun _ h => optP.rdd (t := 47) (κ := (.pair (.int .i64) (.pair (.slice 40 (.int .u64)) (.pair (.slice 3 (.int .i64)) (.int .i64))))) (O := O47) O47.rd h)) (wi (Int.tmod (IntKind.wrap .u64 a1) (IntKind.wrap .u64 (wi ((l0.length : Int) + 1))))) r171 e172) ?_)
        rintro _ w178 ⟨rfl, hS179⟩
        have hS : Sat w178 (rf w0) [optP O47 pv21 r12] := hS.ext hS179
        refine WR.runk [3, 4] [5, 6, 7, 8, 9, 10, 11, 12, 13, 14, 15, 16, 17, 18, 19, 20, 21, 22, 23, 24, 25, 26, 27, 28, 29, 30, 31, 32, 33, 34, 35, 36, 37, 38, 39, 40, 41, 42, 43, 44] [8, 9, 60, 61, 62] (L' := [(8, .int .i64 (wi (Int.tmod (IntKind.wrap .u64 a1) (IntKind.wrap .u64 (wi ((l0.length : Int) + 1)))))), (9, .pointer none), (60, .int .i64 r171), (61, pv21), (62, .int .i64 (wi (Int.tmod (IntKind.wrap .u64 a1) (IntKind.wrap .u64 (wi ((l0.length : Int) + 1))))))]) (w' := w178) (by kernel_rfl) ?_
        obtain ⟨r180, e181, H⟩ := bind_ex H
        refine WR.st (St.call (by kernel_rfl) (f := 12) (args := #[pv21, .int .i64 (wi (Int.tmod (IntKind.wrap .u64 a1) (IntKind.wrap .u64 (wi ((l0.length : Int) + 1)))))]) (by kernel_rfl) (rank_Vec_Zeros.calls w178 (pv21) r12 (Sat.rdAny 0 hS rfl (fun _ h => optP.rdd (t := 47) (κ := (.pair (.int .i64) (.pair (.slice 40 (.int .u64)) (.pair (.slice 3 (.int .i64)) (.int .i64))))) (O := O47) O47.rd h)) (wi (Int.tmod (IntKind.wrap .u64 a1) (IntKind.wrap .u64 (wi ((l0.length : Int) + 1))))) r180 e181) ?_)
        rintro _ w187 ⟨rfl, hS188⟩
        have hS : Sat w187 (rf w0) [optP O47 pv21 r12] := hS.ext hS188
        refine WR.runk [6, 7, 8, 9] [10, 11, 12, 13, 14, 15, 16, 17, 18, 19, 20, 21, 22, 23, 24, 25, 26, 27, 28, 29, 30, 31, 32, 33, 34, 35, 36, 37, 38, 39, 40, 41, 42, 43, 44] [9, 67] (L' := [(9, .pointer none), (67, .bool ((wi (r171 + r180)) == (wi (Int.tmod (IntKind.wrap .u64 a1) (IntKind.wrap .u64 (wi ((l0.length : Int) + 1)))))))]) (w' := w187) (by kernel_rfl) ?_
        refine WR.split 67 (b := ((wi (r171 + r180)) == (wi (Int.tmod (IntKind.wrap .u64 a1) (IntKind.wrap .u64 (wi ((l0.length : Int) + 1))))))) (by kernel_rfl) (fun hb189 => ?_) (fun hb189 => ?_)
        · replace H := ite_t H hb189
          refine WR.runk [10] [11, 12, 13, 14, 15, 16, 17, 18, 19, 20, 21, 22, 23, 24, 25, 26, 27, 28, 29, 30, 31, 32, 33, 34, 35, 36, 37, 38, 39, 40, 41, 42, 43, 44] [9, 67, 68] (L' := [(9, .pointer none), (67, .bool true), (68, .pointer none)]) (w' := w187) (by kernel_rfl) ?_
          obtain ⟨r190, e191, H⟩ := bind_ex H
          refine WR.st (St.call (by kernel_rfl) (f := 16) (args := #[.pointer none]) (by kernel_rfl) (rank_Vec_Len.calls w187 (.pointer none) none rfl r190 e191) ?_)
          rintro _ w197 ⟨rfl, hS198⟩
          have hS : Sat w197 (rf w0) [optP O47 pv21 r12] := hS.ext hS198
          refine WR.runk [12, 13, 14] [15, 16, 17, 18, 19, 20, 21, 22, 23, 24, 25, 26, 27, 28, 29, 30, 31, 32, 33, 34, 35, 36, 37, 38, 39, 40, 41, 42, 43, 44] [9, 72] (L' := [(9, .pointer none), (72, .bool (r190 == 0))]) (w' := w197) (by kernel_rfl) ?_
          refine WR.split 72 (b := (r190 == 0)) (by kernel_rfl) (fun hb199 => ?_) (fun hb199 => ?_)
          · replace H := ite_t H hb199
            refine WR.runk [15] [16, 17, 18, 19, 20, 21, 22, 23, 24, 25, 26, 27, 28, 29, 30, 31, 32, 33, 34, 35, 36, 37, 38, 39, 40, 41, 42, 43, 44] [9, 72, 73] (L' := [(9, .pointer none), (72, .bool true), (73, .pointer none)]) (w' := w197) (by kernel_rfl) ?_
            obtain ⟨r200, e201, H⟩ := bind_ex H
            refine WR.st (St.call (by kernel_rfl) (f := 15) (args := #[.pointer none]) (by kernel_rfl) (rank_Vec_Ones.calls w197 (.pointer none) none rfl r200 e201) ?_)
            rintro _ w207 ⟨rfl, hS208⟩
            have hS : Sat w207 (rf w0) [optP O47 pv21 r12] := hS.ext hS208
            refine WR.runk [17, 18, 19] [20, 21, 22, 23, 24, 25, 26, 27, 28, 29, 30, 31, 32, 33, 34, 35, 36, 37, 38, 39, 40, 41, 42, 43, 44] [9, 77] (L' := [(9, .pointer none), (77, .bool (r200 == 0))]) (w' := w207) (by kernel_rfl) ?_
            refine WR.split 77 (b := (r200 == 0)) (by kernel_rfl) (fun hb209 => ?_) (fun hb209 => ?_)
            · replace H := ite_t H hb209
              refine WR.runk [20] [21, 22, 23, 24, 25, 26, 27, 28, 29, 30, 31, 32, 33, 34, 35, 36, 37, 38, 39, 40, 41, 42, 43, 44] [9, 77, 78] (L' := [(9, .pointer none), (77, .bool true), (78, .pointer none)]) (w' := w207) (by kernel_rfl) ?_
              obtain ⟨r210, e211, H⟩ := bind_ex H
              refine WR.st (St.call (by kernel_rfl) (f := 18) (args := #[.pointer none, .int .i64 0]) (by kernel_rfl) (rank_Vec_At.calls w207 (.pointer none) none rfl 0 r210 e211) ?_)
              rintro _ w217 ⟨rfl, hS218⟩
              have hS : Sat w217 (rf w0) [optP O47 pv21 r12] := hS.ext hS218
              refine WR.runk [22, 23, 24] [25, 26, 27, 28, 29, 30, 31, 32, 33, 34, 35, 36, 37, 38, 39, 40, 41, 42, 43, 44] [9, 82] (L' := [(9, .pointer none), (82, .bool (!r210))]) (w' := w217) (by kernel_rfl) ?_
              refine WR.split 82 (b := (!r210)) (by kernel_rfl) (fun hb219 => ?_) (fun hb219 => ?_)
              · replace H := ite_t H hb219
                refine WR.runk [25] [26, 27, 28, 29, 30, 31, 32, 33, 34, 35, 36, 37, 38, 39, 40, 41, 42, 43, 44] [9, 82, 83] (L' := [(9, .pointer none), (82, .bool true), (83, .pointer none)]) (w' := w217) (by kernel_rfl) ?_
                obtain ⟨r220, e221, H⟩ := bind_ex H
                refine WR.st (St.call (by kernel_rfl) (f := 11) (args := #[.pointer none, .int .i64 5]) (by kernel_rfl) (rank_Vec_Rank.calls w217 (.pointer none) none rfl 5 r220 e221) ?_)
                rintro _ w227 ⟨rfl, hS228⟩
                have hS : Sat w227 (rf w0) [optP O47 pv21 r12] := hS.ext hS228
                refine WR.runk [27, 28, 29] [30, 31, 32, 33, 34, 35, 36, 37, 38, 39, 40, 41, 42, 43, 44] [9, 87] (L' := [(9, .pointer none), (87, .bool (r220 == 0))]) (w' := w227) (by kernel_rfl) ?_
                refine WR.split 87 (b := (r220 == 0)) (by kernel_rfl) (fun hb229 => ?_) (fun hb229 => ?_)
                · replace H := ite_t H hb229
                  refine WR.runk [30] [31, 32, 33, 34, 35, 36, 37, 38, 39, 40, 41, 42, 43, 44] [9, 87, 88] (L' := [(9, .pointer none), (87, .bool true), (88, .pointer none)]) (w' := w227) (by kernel_rfl) ?_
                  obtain ⟨r230, e231, H⟩ := bind_ex H
                  refine WR.st (St.call (by kernel_rfl) (f := 12) (args := #[.pointer none, .int .i64 5]) (by kernel_rfl) (rank_Vec_Zeros.calls w227 (.pointer none) none rfl 5 r230 e231) ?_)
                  rintro _ w237 ⟨rfl, hS238⟩
                  have hS : Sat w237 (rf w0) [optP O47 pv21 r12] := hS.ext hS238
                  refine WR.runk [32, 33, 34] [35, 36, 37, 38, 39, 40, 41, 42, 43, 44] [9, 92] (L' := [(9, .pointer none), (92, .bool (r230 == 0))]) (w' := w237) (by kernel_rfl) ?_
                  refine WR.split 92 (b := (r230 == 0)) (by kernel_rfl) (fun hb239 => ?_) (fun hb239 => ?_)
                  · replace H := ite_t H hb239
                    refine WR.runk [35] [36, 37, 38, 39, 40, 41, 42, 43, 44] [9, 92, 93] (L' := [(9, .pointer none), (92, .bool true), (93, .pointer none)]) (w' := w237) (by kernel_rfl) ?_
                    obtain ⟨r240, e241, H⟩ := bind_ex H
                    refine WR.st (St.call (by kernel_rfl) (f := 13) (args := #[.pointer none, .int .i64 0]) (by kernel_rfl) (rank_Vec_Select.calls w237 (.pointer none) none rfl 0 r240 e241) ?_)
                    rintro _ w247 ⟨rfl, hS248⟩
                    have hS : Sat w247 (rf w0) [optP O47 pv21 r12] := hS.ext hS248
                    refine WR.runk [37, 38, 39] [40, 41, 42, 43, 44] [9, 97] (L' := [(9, .pointer none), (97, .bool (r240 == (-1)))]) (w' := w247) (by kernel_rfl) ?_
                    refine WR.split 97 (b := (r240 == (-1))) (by kernel_rfl) (fun hb249 => ?_) (fun hb249 => ?_)
                    · replace H := ite_t H hb249
                      refine WR.runk [40] [41, 42, 43, 44] [97, 98] (L' := [(97, .bool true), (98, .pointer none)]) (w' := w247) (by kernel_rfl) ?_
                      obtain ⟨r250, e251, H⟩ := bind_ex H
                      refine WR.st (St.call (by kernel_rfl) (f := 14) (args := #[.pointer none, .int .i64 0]) (by kernel_rfl) (rank_Vec_SelectZero.calls w247 (.pointer none) none rfl 0 r250 e251) ?_)
                      rintro _ w257 ⟨rfl, hS258⟩
                      have hS : Sat w257 (rf w0) [optP O47 pv21 r12] := hS.ext hS258
                      refine WR.runk [42, 43, 44] [] [4] (L' := [(4, .bool (r250 == (-1)))]) (w' := w257) (by kernel_rfl) ?_
                      refine WR.nil ?_
                      refine At.go ?_
                      refine WC.ret (by kernel_rfl) ?_
                      obtain rfl := Option.some.inj H
                      have hS : Sat w257 (rf w0) [] := hS.sel [] (by kernel_rfl)
                      exact At.body [.bool (r250 == (-1))] (by kernel_rfl) ⟨_, rfl, rfl, hS⟩
                    · replace H := ite_f H hb249
                      refine WR.runk [40, 41, 42, 43, 44] [] [4] (L' := [(4, .bool false)]) (w' := w247) (by kernel_rfl) ?_
                      refine WR.nil ?_
                      refine At.go ?_
                      refine WC.ret (by kernel_rfl) ?_
                      obtain rfl := Option.some.inj H
                      have hS : Sat w247 (rf w0) [] := hS.sel [] (by kernel_rfl)
                      exact At.body [.bool false] (by kernel_rfl) ⟨_, rfl, rfl, hS⟩
                  · replace H := ite_f H hb239
                    refine WR.runk [35, 36, 37, 38, 39, 40, 41, 42, 43, 44] [] [4] (L' := [(4, .bool false)]) (w' := w237) (by kernel_rfl) ?_
                    refine WR.nil ?_
                    refine At.go ?_
                    refine WC.ret (by kernel_rfl) ?_
                    obtain rfl := Option.some.inj H
                    have hS : Sat w237 (rf w0) [] := hS.sel [] (by kernel_rfl)
                    exact At.body [.bool false] (by kernel_rfl) ⟨_, rfl, rfl, hS⟩
                · replace H := ite_f H hb229
                  refine WR.runk [30, 31, 32, 33, 34, 35, 36, 37, 38, 39, 40, 41, 42, 43, 44] [] [4] (L' := [(4, .bool false)]) (w' := w227) (by kernel_rfl) ?_
                  refine WR.nil ?_
                  refine At.go ?_
                  refine WC.ret (by kernel_rfl) ?_
                  obtain rfl := Option.some.inj H
                  have hS : Sat w227 (rf w0) [] := hS.sel [] (by kernel_rfl)
                  exact At.body [.bool false] (by kernel_rfl) ⟨_, rfl, rfl, hS⟩
              · replace H := ite_f H hb219
                refine WR.runk [25, 26, 27, 28, 29, 30, 31, 32, 33, 34, 35, 36, 37, 38, 39, 40, 41, 42, 43, 44] [] [4] (L' := [(4, .bool false)]) (w' := w217) (by kernel_rfl) ?_
                refine WR.nil ?_
                refine At.go ?_
                refine WC.ret (by kernel_rfl) ?_
                obtain rfl := Option.some.inj H
                have hS : Sat w217 (rf w0) [] := hS.sel [] (by kernel_rfl)
                exact At.body [.bool false] (by kernel_rfl) ⟨_, rfl, rfl, hS⟩
            · replace H := ite_f H hb209
              refine WR.runk [20, 21, 22, 23, 24, 25, 26, 27, 28, 29, 30, 31, 32, 33, 34, 35, 36, 37, 38, 39, 40, 41, 42, 43, 44] [] [4] (L' := [(4, .bool false)]) (w' := w207) (by kernel_rfl) ?_
              refine WR.nil ?_
              refine At.go ?_
              refine WC.ret (by kernel_rfl) ?_
              obtain rfl := Option.some.inj H
              have hS : Sat w207 (rf w0) [] := hS.sel [] (by kernel_rfl)
              exact At.body [.bool false] (by kernel_rfl) ⟨_, rfl, rfl, hS⟩
          · replace H := ite_f H hb199
            refine WR.runk [15, 16, 17, 18, 19, 20, 21, 22, 23, 24, 25, 26, 27, 28, 29, 30, 31, 32, 33, 34, 35, 36, 37, 38, 39, 40, 41, 42, 43, 44] [] [4] (L' := [(4, .bool false)]) (w' := w197) (by kernel_rfl) ?_
            refine WR.nil ?_
            refine At.go ?_
            refine WC.ret (by kernel_rfl) ?_
            obtain rfl := Option.some.inj H
            have hS : Sat w197 (rf w0) [] := hS.sel [] (by kernel_rfl)
            exact At.body [.bool false] (by kernel_rfl) ⟨_, rfl, rfl, hS⟩
        · replace H := ite_f H hb189
          refine WR.runk [10, 11, 12, 13, 14, 15, 16, 17, 18, 19, 20, 21, 22, 23, 24, 25, 26, 27, 28, 29, 30, 31, 32, 33, 34, 35, 36, 37, 38, 39, 40, 41, 42, 43, 44] [] [4] (L' := [(4, .bool false)]) (w' := w187) (by kernel_rfl) ?_
          refine WR.nil ?_
          refine At.go ?_
          refine WC.ret (by kernel_rfl) ?_
          obtain rfl := Option.some.inj H
          have hS : Sat w187 (rf w0) [] := hS.sel [] (by kernel_rfl)
          exact At.body [.bool false] (by kernel_rfl) ⟨_, rfl, rfl, hS⟩
end Go.Proofs.Ytlkgejhnjbbogaa
