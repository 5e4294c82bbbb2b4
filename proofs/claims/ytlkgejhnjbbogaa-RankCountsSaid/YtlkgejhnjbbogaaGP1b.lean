/-
  Printed by gen.py (my own tool): for each Go function a plain Lean function and the proof that a call of it does what that function says.
-/
import Derived.Test.YtlkgejhnjbbogaaGP1
set_option linter.unusedVariables false
set_option linter.unusedSimpArgs false
set_option maxRecDepth 100000
namespace Go.Proofs.Ytlkgejhnjbbogaa
open Go Go.Gol
/-! ### 9 colophon/colophonlaw02.first -/
def colophonlaw02_first.f : Option Bool := ((colophonlaw02_Vec.f ([0, 1, 1, 0, 1] : List Int)).bind fun r3 => (match r3 with | none => some false | some y13 => ((pack_New.f 2 1).bind fun r18 => ((rank_New.f none).bind fun r28 => ((rank_New.f r18.1).bind fun r38 => ((rank_Vec_Rank.f (some y13) 3).bind fun r48 => (if (r48 == 2) then ((rank_Vec_Zeros.f (some y13) 3).bind fun r58 => (if (r58 == 1) then ((rank_Vec_Select.f (some y13) 2).bind fun r68 => (if (r68 == 4) then ((rank_Vec_SelectZero.f (some y13) 1).bind fun r78 => (if (r78 == 3) then ((rank_Vec_Select.f (some y13) 3).bind fun r88 => (if (r88 == (-1)) then (if (r28.2 == 1) then some (r38.2 == 2) else some false) else some false)) else some false)) else some false)) else some false)) else some false)))))))
def colophonlaw02_first.post (w : World) (r : Bool) (v : Value) (w' : World) : Prop := v = (.bool r : Value) ∧ Sat w' (rf w) []
theorem colophonlaw02_first.calls (w0 : World) (r : Bool) (H : colophonlaw02_first.f = some r) :
    Calls Try.prog 9 #[] w0 (fun e w' => ∃ v, e = .returned v ∧ colophonlaw02_first.post w0 r v w') := by
  have hS : Sat w0 (rf w0) [] := Sat.start w0
  unfold colophonlaw02_first.f at H
  refine calls_of_WC (vs := []) Try.func9 (c := C9) (n := 56) (by kernel_rfl) (by kernel_rfl) (by kernel_rfl) ?_
  refine WC.seq (by kernel_rfl) ?_
  refine WC.reg [0] (by kernel_rfl) (by kernel_rfl) ?_
  refine WR.runk [0] [] [] (L' := []) (w' := w0) (by kernel_rfl) ?_
  refine WR.nil ?_
  refine At.go ?_
  refine WC.seq (by kernel_rfl) ?_
  refine WC.reg [0, 1, 2] (by kernel_rfl) (by kernel_rfl) ?_
  refine WR.st (St.box hS (by kernel_rfl) (.cells #[.int .u8 0, .int .u8 1, .int .u8 1, .int .u8 0, .int .u8 1] 5) (fun b1 => .slice (some ⟨b1, 0, none⟩) 5 5) (fun _ => by kernel_rfl) (fun b1 w2 hS => ?_))
  refine WR.runk [] [1, 2] [8] (L' := [(8, .slice (some ⟨b1, 0, none⟩) 5 5)]) (w' := w2) (by kernel_rfl) ?_
  obtain ⟨r3, e4, H⟩ := bind_ex H
  refine WR.st (St.call (by kernel_rfl) (f := 10) (args := #[.slice (some ⟨b1, 0, none⟩) 5 5]) (by kernel_rfl) (colophonlaw02_Vec.calls w2 (some ⟨b1, 0, none⟩) 5 ([0, 1, 1, 0, 1] : List Int) (Sat.ptsAt 0 (r0 (.int .u8)) 1 ([0, 1, 1, 0, 1] : List Int) hS rfl rfl (rdL.cons1 rfl (rdL.cons1 rfl (rdL.cons1 rfl (rdL.cons1 rfl (rdL.cons1 rfl (rdL.nil _ _))))))) r3 e4) ?_)
  rintro pv12 w10 ⟨_, rfl, hS11⟩
  have hS : Sat w10 (rf w0) [optP O47 pv12 r3, pts b1 (.cells #[.int .u8 0, .int .u8 1, .int .u8 1, .int .u8 0, .int .u8 1] 5 (0, 0))] := hS.ext hS11
  refine WR.runk [2] [] [1] (L' := [(1, pv12)]) (w' := w10) (by kernel_rfl) ?_
  refine WR.nil ?_
  refine At.go ?_
  refine WC.seq (by kernel_rfl) ?_
  refine WC.seq (by kernel_rfl) ?_
  refine WC.reg [0, 1] (by kernel_rfl) (by kernel_rfl) ?_
  refine WR.runk [0] [1] [1, 10] (L' := [(1, pv12), (10, pv12)]) (w' := w10) (by kernel_rfl) ?_
  rcases hr14 : r3 with _ | y13
  · rw [hr14] at H
    dsimp only at H
    have hv15 := optP.none hS hr14
    subst hv15
    have hS : Sat w10 (rf w0) [pts b1 (.cells #[.int .u8 0, .int .u8 1, .int .u8 1, .int .u8 0, .int .u8 1] 5 (0, 0))] := hS.sel [1] (by kernel_rfl)
    refine WR.runk [1] [] [1, 11] (L' := [(1, .pointer none), (11, .bool true)]) (w' := w10) (by kernel_rfl) ?_
    refine WR.nil ?_
    refine At.go ?_
    refine WC.condT (by kernel_rfl) (by kernel_rfl) (by kernel_rfl) ?_
    refine WC.seq (by kernel_rfl) ?_
    refine WC.reg [0] (by kernel_rfl) (by kernel_rfl) ?_
    refine WR.runk [0] [] [0] (L' := [(0, .bool false)]) (w' := w10) (by kernel_rfl) ?_
    refine WR.nil ?_
    refine At.go ?_
    refine WC.ret (by kernel_rfl) ?_
    refine At.thenRet ?_
    obtain rfl := Option.some.inj H
    have hS : Sat w10 (rf w0) [] := hS.sel [] (by kernel_rfl)
    exact At.body [.bool false] (by kernel_rfl) ⟨_, rfl, rfl, hS⟩
  · rw [hr14] at H
    dsimp only at H
    obtain ⟨b16, hv15, hN99⟩ := optP.some hS hr14
    subst hv15
    have hS : Sat w10 (rf w0) [O47 b16 y13, pts b1 (.cells #[.int .u8 0, .int .u8 1, .int .u8 1, .int .u8 0, .int .u8 1] 5 (0, 0))] := hN99
    refine WR.runk [1] [] [1, 11] (L' := [(1, .pointer (some ⟨b16, 0, none⟩)), (11, .bool false)]) (w' := w10) (by kernel_rfl) ?_
    refine WR.nil ?_
    refine At.go ?_
    refine WC.condF (by kernel_rfl) (by kernel_rfl) (by kernel_rfl) ?_
    refine WC.skip (by kernel_rfl) ?_
    refine At.go ?_
    refine WC.seq (by kernel_rfl) ?_
    refine WC.reg [0, 1, 2, 3, 4, 5] (by kernel_rfl) (by kernel_rfl) ?_
    obtain ⟨r18, e19, H⟩ := bind_ex H
    refine WR.st (St.call (by kernel_rfl) (f := 20) (args := #[.int .i64 2, .int .i64 1]) (by kernel_rfl) (pack_New.calls w10 2 1 r18 e19) ?_)
    rintro _ w25 ⟨pv27, rfl, hS26⟩
    have hS : Sat w25 (rf w0) [optP O52 pv27 r18.1, O47 b16 y13, pts b1 (.cells #[.int .u8 0, .int .u8 1, .int .u8 1, .int .u8 0, .int .u8 1] 5 (0, 0))] := hS.ext hS26
    refine WR.runk [1, 2, 3, 4, 5] [] [1, 2] (L' := [(1, .pointer (some ⟨b16, 0, none⟩)), (2, pv27)]) (w' := w25) (by kernel_rfl) ?_
    refine WR.nil ?_
    refine At.go ?_
    refine WC.seq (by kernel_rfl) ?_
    refine WC.reg [0, 1, 2, 3, 4, 5] (by kernel_rfl) (by kernel_rfl) ?_
    obtain ⟨r28, e29, H⟩ := bind_ex H
    refine WR.st (St.call (by kernel_rfl) (f := 22) (args := #[.pointer none]) (by kernel_rfl) (rank_New.calls w25 (.pointer none) none rfl r28 e29) ?_)
    rintro _ w35 ⟨pv37, rfl, hS36⟩
    have hS : Sat w35 (rf w0) [optP O47 pv37 r28.1, optP O52 pv27 r18.1, O47 b16 y13, pts b1 (.cells #[.int .u8 0, .int .u8 1, .int .u8 1, .int .u8 0, .int .u8 1] 5 (0, 0))] := hS.ext hS36
    refine WR.runk [1, 2, 3, 4, 5] [] [1, 2, 5] (L' := [(1, .pointer (some ⟨b16, 0, none⟩)), (2, pv27), (5, .int .i64 r28.2)]) (w' := w35) (by kernel_rfl) ?_
    refine WR.nil ?_
    refine At.go ?_
    refine WC.seq (by kernel_rfl) ?_
    refine WC.reg [0, 1, 2, 3, 4, 5, 6] (by kernel_rfl) (by kernel_rfl) ?_
    refine WR.runk [0] [1, 2, 3, 4, 5, 6] [1, 5, 21] (L' := [(1, .pointer (some ⟨b16, 0, none⟩)), (5, .int .i64 r28.2), (21, pv27)]) (w' := w35) (by kernel_rfl) ?_
    obtain ⟨r38, e39, H⟩ := bind_ex H
    refine WR.st (St.call (by kernel_rfl) (f := 22) (args := #[pv27]) (by kernel_rfl) (rank_New.calls w35 (pv27) r18.1 (Sat.rdAny 1 hS rfl (fun _ h => optP.rdd (t := 52) (κ := (.pair (.int .i64) (.pair (.int .i64) (.slice 40 (.int .u64))))) (O := O52) O52.rd h)) r38 e39) ?_)
    rintro _ w45 ⟨pv47, rfl, hS46⟩
    have hS : Sat w45 (rf w0) [optP O47 pv47 r38.1, optP O47 pv37 r28.1, optP O52 pv27 r18.1, O47 b16 y13, pts b1 (.cells #[.int .u8 0, .int .u8 1, .int .u8 1, .int .u8 0, .int .u8 1] 5 (0, 0))] := hS.ext hS46
    refine WR.runk [2, 3, 4, 5, 6] [] [1, 5, 7] (L' := [(1, .pointer (some ⟨b16, 0, none⟩)), (5, .int .i64 r28.2), (7, .int .i64 r38.2)]) (w' := w45) (by kernel_rfl) ?_
    refine WR.nil ?_
    refine At.go ?_
    refine WC.seq (by kernel_rfl) ?_
    refine WC.reg [0, 1, 2, 3, 4, 5, 6, 7, 8, 9, 10, 11, 12, 13, 14, 15, 16, 17, 18, 19, 20, 21, 22, 23, 24, 25, 26, 27, 28, 29, 30, 31] (by kernel_rfl) (by kernel_rfl) ?_
    refine WR.runk [0] [1, 2, 3, 4, 5, 6, 7, 8, 9, 10, 11, 12, 13, 14, 15, 16, 17, 18, 19, 20, 21, 22, 23, 24, 25, 26, 27, 28, 29, 30, 31] [1, 5, 7, 25] (L' := [(1, .pointer (some ⟨b16, 0, none⟩)), (5, .int .i64 r28.2), (7, .int .i64 r38.2), (25, .pointer (some ⟨b16, 0, none⟩))]) (w' := w45) (by kernel_rfl) ?_
    obtain ⟨r48, e49, H⟩ := bind_ex H
    refine WR.st (St.call (by kernel_rfl) (f := 11) (args := #[.pointer (some ⟨b16, 0, none⟩), .int .i64 3]) (by kernel_rfl) (rank_Vec_Rank.calls w45 (.pointer (some ⟨b16, 0, none⟩)) (some y13) (Sat.rdAny 3 hS rfl (fun _ h => O47.rd _ _ _ h)) 3 r48 e49) ?_)
    rintro _ w55 ⟨rfl, hS56⟩
    have hS : Sat w55 (rf w0) [optP O47 pv47 r38.1, optP O47 pv37 r28.1, optP O52 pv27 r18.1, O47 b16 y13, pts b1 (.cells #[.int .u8 0, .int .u8 1, .int .u8 1, .int .u8 0, .int .u8 1] 5 (0, 0))] := hS.ext hS56
    refine WR.runk [2, 3] [4, 5, 6, 7, 8, 9, 10, 11, 12, 13, 14, 15, 16, 17, 18, 19, 20, 21, 22, 23, 24, 25, 26, 27, 28, 29, 30, 31] [1, 5, 7, 28] (L' := [(1, .pointer (some ⟨b16, 0, none⟩)), (5, .int .i64 r28.2), (7, .int .i64 r38.2), (28, .bool (r48 == 2))]) (w' := w55) (by kernel_rfl) ?_
    refine WR.split 28 (b := (r48 == 2)) (by kernel_rfl) (fun hb57 => ?_) (fun hb57 => ?_)
    · replace H := ite_t H hb57
      refine WR.runk [4] [5, 6, 7, 8, 9, 10, 11, 12, 13, 14, 15, 16, 17, 18, 19, 20, 21, 22, 23, 24, 25, 26, 27, 28, 29, 30, 31] [1, 5, 7, 28, 29] (L' := [(1, .pointer (some ⟨b16, 0, none⟩)), (5, .int .i64 r28.2), (7, .int .i64 r38.2), (28, .bool true), (29, .pointer (some ⟨b16, 0, none⟩))]) (w' := w55) (by kernel_rfl) ?_
      obtain ⟨r58, e59, H⟩ := bind_ex H
      refine WR.st (St.call (by kernel_rfl) (f := 12) (args := #[.pointer (some ⟨b16, 0, none⟩), .int .i64 3]) (by kernel_rfl) (rank_Vec_Zeros.calls w55 (.pointer (some ⟨b16, 0, none⟩)) (some y13) (Sat.rdAny 3 hS rfl (fun _ h => O47.rd _ _ _ h)) 3 r58 e59) ?_)
      rintro _ w65 ⟨rfl, hS66⟩
      have hS : Sat w65 (rf w0) [optP O47 pv47 r38.1, optP O47 pv37 r28.1, optP O52 pv27 r18.1, O47 b16 y13, pts b1 (.cells #[.int .u8 0, .int .u8 1, .int .u8 1, .int .u8 0, .int .u8 1] 5 (0, 0))] := hS.ext hS66
      refine WR.runk [6, 7, 8] [9, 10, 11, 12, 13, 14, 15, 16, 17, 18, 19, 20, 21, 22, 23, 24, 25, 26, 27, 28, 29, 30, 31] [1, 5, 7, 33] (L' := [(1, .pointer (some ⟨b16, 0, none⟩)), (5, .int .i64 r28.2), (7, .int .i64 r38.2), (33, .bool (r58 == 1))]) (w' := w65) (by kernel_rfl) ?_
      refine WR.split 33 (b := (r58 == 1)) (by kernel_rfl) (fun hb67 => ?_) (fun hb67 => ?_)
      · replace H := ite_t H hb67
        refine WR.runk [9] [10, 11, 12, 13, 14, 15, 16, 17, 18, 19, 20, 21, 22, 23, 24, 25, 26, 27, 28, 29, 30, 31] [1, 5, 7, 33, 34] (L' := [(1, .pointer (some ⟨b16, 0, none⟩)), (5, .int .i64 r28.2), (7, .int .i64 r38.2), (33, .bool true), (34, .pointer (some ⟨b16, 0, none⟩))]) (w' := w65) (by kernel_rfl) ?_
        obtain ⟨r68, e69, H⟩ := bind_ex H
        refine WR.st (St.call (by kernel_rfl) (f := 13) (args := #[.pointer (some ⟨b16, 0, none⟩), .int .i64 2]) (by kernel_rfl) (rank_Vec_Select.calls w65 (.pointer (some ⟨b16, 0, none⟩)) (some y13) (Sat.rdAny 3 hS rfl (fun _ h => O47.rd _ _ _ h)) 2 r68 e69) ?_)
        rintro _ w75 ⟨rfl, hS76⟩
        have hS : Sat w75 (rf w0) [optP O47 pv47 r38.1, optP O47 pv37 r28.1, optP O52 pv27 r18.1, O47 b16 y13, pts b1 (.cells #[.int .u8 0, .int .u8 1, .int .u8 1, .int .u8 0, .int .u8 1] 5 (0, 0))] := hS.ext hS76
        refine WR.runk [11, 12, 13] [14, 15, 16, 17, 18, 19, 20, 21, 22, 23, 24, 25, 26, 27, 28, 29, 30, 31] [1, 5, 7, 38] (L' := [(1, .pointer (some ⟨b16, 0, none⟩)), (5, .int .i64 r28.2), (7, .int .i64 r38.2), (38, .bool (r68 == 4))]) (w' := w75) (by kernel_rfl) ?_
        refine WR.split 38 (b := (r68 == 4)) (by kernel_rfl) (fun hb77 => ?_) (fun hb77 => ?_)
        · replace H := ite_t H hb77
          refine WR.runk [14] [15, 16, 17, 18, 19, 20, 21, 22, 23, 24, 25, 26, 27, 28, 29, 30, 31] [1, 5, 7, 38, 39] (L' := [(1, .pointer (some ⟨b16, 0, none⟩)), (5, .int .i64 r28.2), (7, .int .i64 r38.2), (38, .bool true), (39, .pointer (some ⟨b16, 0, none⟩))]) (w' := w75) (by kernel_rfl) ?_
          obtain ⟨r78, e79, H⟩ := bind_ex H
          refine WR.st (St.call (by kernel_rfl) (f := 14) (args := #[.pointer (some ⟨b16, 0, none⟩), .int .i64 1]) (by kernel_rfl) (rank_Vec_SelectZero.calls w75 (.pointer (some ⟨b16, 0, none⟩)) (some y13) (Sat.rdAny 3 hS rfl (fun _ h => O47.rd _ _ _ h)) 1 r78 e79) ?_)
          rintro _ w85 ⟨rfl, hS86⟩
          have hS : Sat w85 (rf w0) [optP O47 pv47 r38.1, optP O47 pv37 r28.1, optP O52 pv27 r18.1, O47 b16 y13, pts b1 (.cells #[.int .u8 0, .int .u8 1, .int .u8 1, .int .u8 0, .int .u8 1] 5 (0, 0))] := hS.ext hS86
          refine WR.runk [16, 17, 18] [19, 20, 21, 22, 23, 24, 25, 26, 27, 28, 29, 30, 31] [1, 5, 7, 43] (L' := [(1, .pointer (some ⟨b16, 0, none⟩)), (5, .int .i64 r28.2), (7, .int .i64 r38.2), (43, .bool (r78 == 3))]) (w' := w85) (by kernel_rfl) ?_
          refine WR.split 43 (b := (r78 == 3)) (by kernel_rfl) (fun hb87 => ?_) (fun hb87 => ?_)
          · replace H := ite_t H hb87
            refine WR.runk [19] [20, 21, 22, 23, 24, 25, 26, 27, 28, 29, 30, 31] [5, 7, 43, 44] (L' := [(5, .int .i64 r28.2), (7, .int .i64 r38.2), (43, .bool true), (44, .pointer (some ⟨b16, 0, none⟩))]) (w' := w85) (by kernel_rfl) ?_
            obtain ⟨r88, e89, H⟩ := bind_ex H
            refine WR.st (St.call (by kernel_rfl) (f := 13) (args := #[.pointer (some ⟨b16, 0, none⟩), .int .i64 3]) (by kernel_rfl) (rank_Vec_Select.calls w85 (.pointer (some ⟨b16, 0, none⟩)) (some y13) (Sat.rdAny 3 hS rfl (fun _ h => O47.rd _ _ _ h)) 3 r88 e89) ?_)
            rintro _ w95 ⟨rfl, hS96⟩
            have hS : Sat w95 (rf w0) [optP O47 pv47 r38.1, optP O47 pv37 r28.1, optP O52 pv27 r18.1, O47 b16 y13, pts b1 (.cells #[.int .u8 0, .int .u8 1, .int .u8 1, .int .u8 0, .int .u8 1] 5 (0, 0))] := hS.ext hS96
            refine WR.runk [21, 22, 23] [24, 25, 26, 27, 28, 29, 30, 31] [5, 7, 48] (L' := [(5, .int .i64 r28.2), (7, .int .i64 r38.2), (48, .bool (r88 == (-1)))]) (w' := w95) (by kernel_rfl) ?_
            refine WR.split 48 (b := (r88 == (-1))) (by kernel_rfl) (fun hb97 => ?_) (fun hb97 => ?_)
            · replace H := ite_t H hb97
              refine WR.runk [24, 25, 26, 27] [28, 29, 30, 31] [7, 52] (L' := [(7, .int .i64 r38.2), (52, .bool (r28.2 == 1))]) (w' := w95) (by kernel_rfl) ?_
              refine WR.split 52 (b := (r28.2 == 1)) (by kernel_rfl) (fun hb98 => ?_) (fun hb98 => ?_)
              · replace H := ite_t H hb98
                refine WR.runk [28, 29, 30, 31] [] [0] (L' := [(0, .bool (r38.2 == 2))]) (w' := w95) (by kernel_rfl) ?_
                refine WR.nil ?_
                refine At.go ?_
                refine WC.ret (by kernel_rfl) ?_
                obtain rfl := Option.some.inj H
                have hS : Sat w95 (rf w0) [] := hS.sel [] (by kernel_rfl)
                exact At.body [.bool (r38.2 == 2)] (by kernel_rfl) ⟨_, rfl, rfl, hS⟩
              · replace H := ite_f H hb98
                refine WR.runk [28, 29, 30, 31] [] [0] (L' := [(0, .bool false)]) (w' := w95) (by kernel_rfl) ?_
                refine WR.nil ?_
                refine At.go ?_
                refine WC.ret (by kernel_rfl) ?_
                obtain rfl := Option.some.inj H
                have hS : Sat w95 (rf w0) [] := hS.sel [] (by kernel_rfl)
                exact At.body [.bool false] (by kernel_rfl) ⟨_, rfl, rfl, hS⟩
            · replace H := ite_f H hb97
              refine WR.runk [24, 25, 26, 27, 28, 29, 30, 31] [] [0] (L' := [(0, .bool false)]) (w' := w95) (by kernel_rfl) ?_
              refine WR.nil ?_
              refine At.go ?_
              refine WC.ret (by kernel_rfl) ?_
              obtain rfl := Option.some.inj H
              have hS : Sat w95 (rf w0) [] := hS.sel [] (by kernel_rfl)
              exact At.body [.bool false] (by kernel_rfl) ⟨_, rfl, rfl, hS⟩
          · replace H := ite_f H hb87
            refine WR.runk [19, 20, 21, 22, 23, 24, 25, 26, 27, 28, 29, 30, 31] [] [0] (L' := [(0, .bool false)]) (w' := w85) (by kernel_rfl) ?_
            refine WR.nil ?_
            refine At.go ?_
            refine WC.ret (by kernel_rfl) ?_
            obtain rfl := Option.some.inj H
            have hS : Sat w85 (rf w0) [] := hS.sel [] (by kernel_rfl)
            exact At.body [.bool false] (by kernel_rfl) ⟨_, rfl, rfl, hS⟩
        · replace H := ite_f H hb77
          refine WR.runk [14, 15, 16, 17, 18, 19, 20, 21, 22, 23, 24, 25, 26, 27, 28, 29, 30, 31] [] [0] (L' := [(0, .bool false)]) (w' := w75) (by kernel_rfl) ?_
          refine WR.nil ?_
          refine At.go ?_
          refine WC.ret (by kernel_rfl) ?_
          obtain rfl := Option.some.inj H
          have hS : Sat w75 (rf w0) [] := hS.sel [] (by kernel_rfl)
          exact At.body [.bool false] (by kernel_rfl) ⟨_, rfl, rfl, hS⟩
      · replace H := ite_f H hb67
        refine WR.runk [9, 10, 11, 12, 13, 14, 15, 16, 17, 18, 19, 20, 21, 22, 23, 24, 25, 26, 27, 28, 29, 30, 31] [] [0] (L' := [(0, .bool false)]) (w' := w65) (by kernel_rfl) ?_
        refine WR.nil ?_
        refine At.go ?_
        refine WC.ret (by kernel_rfl) ?_
        obtain rfl := Option.some.inj H
        have hS : Sat w65 (rf w0) [] := hS.sel [] (by kernel_rfl)
        exact At.body [.bool false] (by kernel_rfl) ⟨_, rfl, rfl, hS⟩
    · replace H := ite_f H hb57
      refine WR.runk [4, 5, 6, 7, 8, 9, 10, 11, 12, 13, 14, 15, 16, 17, 18, 19, 20, 21, 22, 23, 24, 25, 26, 27, 28, 29, 30, 31] [] [0] (L' := [(0, .bool false)]) (w' := w55) (by kernel_rfl) ?_
      refine WR.nil ?_
      refine At.go ?_
      refine WC.ret (by kernel_rfl) ?_
      obtain rfl := Option.some.inj H
      have hS : Sat w55 (rf w0) [] := hS.sel [] (by kernel_rfl)
      exact At.body [.bool false] (by kernel_rfl) ⟨_, rfl, rfl, hS⟩
/-! ### 17 colophon/colophonref02.Rank -/
def colophonref02_Rank.l1 (l0 : List Int) (a1 : Int) (a2 : Int) : Nat → Int → Int → Option Int
  | 0, _, _ => none
  | k + 1, x7_l1, x8_l1 => (if decide (x8_l1 < (l0.length : Int)) then (if decide (x8_l1 < a2) then ((at? l0 x8_l1).bind fun v3 => (if ((iand .u8 v3 1) == a1) then colophonref02_Rank.l1 l0 a1 a2 k (wi (x7_l1 + 1)) (wi (x8_l1 + 1)) else colophonref02_Rank.l1 l0 a1 a2 k x7_l1 (wi (x8_l1 + 1)))) else some x7_l1) else some x7_l1)
def colophonref02_Rank.f (l0 : List Int) (a1 : Int) (a2 : Int) : Option Int := ((colophonref02_Rank.l1 l0 a1 a2 FU 0 0).bind fun o6 => some o6)
def colophonref02_Rank.post (w : World) (r : Int) (v : Value) (w' : World) : Prop := v = (.int .i64 r : Value) ∧ Sat w' (rf w) []
theorem colophonref02_Rank.l1_ok {Q} (w0 : World) (A0 : Option Addr) (c0 : Nat) (l0 : List Int) (a1 : Int) (a2 : Int) (R0 : rdS (r0 (.int .u8)) 1 (hp w0) A0 c0 l0) (out : Int) (hn0 : ∀ (w : World), Sat w (rf w0) [] → At Q (.exit 0) 30 [(7, .int .i64 out)] w) :
    ∀ (k : Nat) (x7_l1 : Int) (x8_l1 : Int) (w : World), Sat w (rf w0) [] → colophonref02_Rank.l1 l0 a1 a2 k x7_l1 x8_l1 = some out → WL Try.prog (cbody (cbody (cr (cl (cr (cr C17)))))) Q 30 [(0, .slice A0 l0.length c0), (1, .int .u8 a1), (2, .int .i64 a2), (7, .int .i64 x7_l1), (8, .int .i64 x8_l1)] w := by
  intro k
  induction k with
  | zero => intro x7_l1 x8_l1 w hS H; exact absurd (show none = some out from H) (by simp)
  | succ k ih =>
    intro x7_l1 x8_l1 w hS H
    unfold colophonref02_Rank.l1 at H
    refine WL.round ?_
    refine WC.seq (by kernel_rfl) ?_
    refine WC.seq (by kernel_rfl) ?_
    refine WC.reg [0, 1, 2, 3, 4, 5, 6, 7, 8] (by kernel_rfl) (by kernel_rfl) ?_
    refine WR.runk [0, 1, 2, 3, 4] [5, 6, 7, 8] [0, 1, 2, 7, 8, 13] (L' := [(0, .slice A0 l0.length c0), (1, .int .u8 a1), (2, .int .i64 a2), (7, .int .i64 x7_l1), (8, .int .i64 x8_l1), (13, .bool (decide (x8_l1 < (l0.length : Int))))]) (w' := w) (by kernel_rfl) ?_
    refine WR.split 13 (b := decide (x8_l1 < (l0.length : Int))) (by kernel_rfl) (fun hb1 => ?_) (fun hb1 => ?_)
    · replace H := ite_t H hb1
      refine WR.runk [5, 6, 7, 8] [] [0, 1, 2, 7, 8, 14, 15, 16, 17] (L' := [(0, .slice A0 l0.length c0), (1, .int .u8 a1), (2, .int .i64 a2), (7, .int .i64 x7_l1), (8, .int .i64 x8_l1), (14, .int .i64 x8_l1), (15, .int .i64 a2), (16, .bool (decide (x8_l1 < a2))), (17, .bool (decide (x8_l1 < a2)))]) (w' := w) (by kernel_rfl) ?_
      refine WR.nil ?_
      refine At.go ?_
      refine WC.cond (by kernel_rfl) (decide (x8_l1 < a2)) (by kernel_rfl) (by kernel_rfl) (fun hb2 => ?_) (fun hb2 => ?_)
      · replace H := ite_t H hb2
        refine WC.skip (by kernel_rfl) ?_
        refine At.go ?_
        refine WC.seq (by kernel_rfl) ?_
        refine WC.block (by kernel_rfl) ?_
        refine WC.seq (by kernel_rfl) ?_
        refine WC.reg [0, 1, 2, 3, 4, 5, 6] (by kernel_rfl) (by kernel_rfl) ?_
        refine WR.runk [0, 1] [2, 3, 4, 5, 6] [0, 1, 2, 7, 8, 14, 15, 20, 21] (L' := [(0, .slice A0 l0.length c0), (1, .int .u8 a1), (2, .int .i64 a2), (7, .int .i64 x7_l1), (8, .int .i64 x8_l1), (14, .int .i64 x8_l1), (15, .int .i64 a2), (20, .slice A0 l0.length c0), (21, .int .i64 x8_l1)]) (w' := w) (by kernel_rfl) ?_
        obtain ⟨v3, e4, H⟩ := bind_ex H
        refine WR.st (St.ofP (PSt.idx (k := .i64) (.tmp 20) (.tmp 21) (by kernel_rfl) (by kernel_rfl) E22 (by kernel_rfl) (by kernel_rfl) (rdS.up R0 hS.sub0) e4 ?_))
        refine WR.runk [] [3, 4, 5, 6] [0, 1, 2, 7, 8, 14, 15, 22] (L' := [(0, .slice A0 l0.length c0), (1, .int .u8 a1), (2, .int .i64 a2), (7, .int .i64 x7_l1), (8, .int .i64 x8_l1), (14, .int .i64 x8_l1), (15, .int .i64 a2), (22, .pointer (some (adr A0 x8_l1.toNat 1)))]) (w' := w) (by kernel_rfl) ?_
        refine WR.st (St.ofR (RSt.loadInt (t := 5) (.tmp 22) (by kernel_rfl) (by kernel_rfl) (by kernel_rfl) (by kernel_rfl) (rdS.up R0 hS.sub0) e4 ?_))
        refine WR.runk [4, 5, 6] [] [0, 1, 2, 7, 8, 14, 15, 26] (L' := [(0, .slice A0 l0.length c0), (1, .int .u8 a1), (2, .int .i64 a2), (7, .int .i64 x7_l1), (8, .int .i64 x8_l1), (14, .int .i64 x8_l1), (15, .int .i64 a2), (26, .bool ((iand .u8 v3 1) == a1))]) (w' := w) (by kernel_rfl) ?_
        refine WR.nil ?_
        refine At.go ?_
        refine WC.cond (by kernel_rfl) ((iand .u8 v3 1) == a1) (by kernel_rfl) (by kernel_rfl) (fun hb5 => ?_) (fun hb5 => ?_)
        · replace H := ite_t H hb5
          refine WC.reg [0, 1, 2] (by kernel_rfl) (by kernel_rfl) ?_
          refine WR.runk [0, 1, 2] [] [0, 1, 2, 7, 8, 14, 15] (L' := [(0, .slice A0 l0.length c0), (1, .int .u8 a1), (2, .int .i64 a2), (7, .int .i64 (wi (x7_l1 + 1))), (8, .int .i64 x8_l1), (14, .int .i64 x8_l1), (15, .int .i64 a2)]) (w' := w) (by kernel_rfl) ?_
          refine WR.nil ?_
          refine At.blockNormal ?_
          refine At.go ?_
          refine WC.reg [0, 1, 2] (by kernel_rfl) (by kernel_rfl) ?_
          refine WR.runk [0, 1, 2] [] [0, 1, 2, 7, 8, 14, 15] (L' := [(0, .slice A0 l0.length c0), (1, .int .u8 a1), (2, .int .i64 a2), (7, .int .i64 (wi (x7_l1 + 1))), (8, .int .i64 (wi (x8_l1 + 1))), (14, .int .i64 x8_l1), (15, .int .i64 a2)]) (w' := w) (by kernel_rfl) ?_
          refine WR.nil ?_
          have hS : Sat w (rf w0) [] := hS.sel [] (by kernel_rfl)
          refine At.again ?_
          refine WL.weaken [0, 1, 2, 7, 8] (L' := [(0, .slice A0 l0.length c0), (1, .int .u8 a1), (2, .int .i64 a2), (7, .int .i64 (wi (x7_l1 + 1))), (8, .int .i64 (wi (x8_l1 + 1)))]) (by kernel_rfl) ?_
          exact ih (wi (x7_l1 + 1)) (wi (x8_l1 + 1)) _ hS H
        · replace H := ite_f H hb5
          refine WC.skip (by kernel_rfl) ?_
          refine At.blockNormal ?_
          refine At.go ?_
          refine WC.reg [0, 1, 2] (by kernel_rfl) (by kernel_rfl) ?_
          refine WR.runk [0, 1, 2] [] [0, 1, 2, 7, 8, 14, 15] (L' := [(0, .slice A0 l0.length c0), (1, .int .u8 a1), (2, .int .i64 a2), (7, .int .i64 x7_l1), (8, .int .i64 (wi (x8_l1 + 1))), (14, .int .i64 x8_l1), (15, .int .i64 a2)]) (w' := w) (by kernel_rfl) ?_
          refine WR.nil ?_
          have hS : Sat w (rf w0) [] := hS.sel [] (by kernel_rfl)
          refine At.again ?_
          refine WL.weaken [0, 1, 2, 7, 8] (L' := [(0, .slice A0 l0.length c0), (1, .int .u8 a1), (2, .int .i64 a2), (7, .int .i64 x7_l1), (8, .int .i64 (wi (x8_l1 + 1)))]) (by kernel_rfl) ?_
          exact ih x7_l1 (wi (x8_l1 + 1)) _ hS H
      · replace H := ite_f H hb2
        refine WC.exit (by kernel_rfl) ?_
        refine At.thenExit ?_
        refine At.thenExit ?_
        obtain rfl := Option.some.inj H
        have hS : Sat w (rf w0) [] := hS.sel [] (by kernel_rfl)
        refine At.weaken [7] (L' := [(7, .int .i64 x7_l1)]) (by kernel_rfl) ?_
        exact hn0 _ hS
    · replace H := ite_f H hb1
      refine WR.runk [5, 6, 7, 8] [] [0, 1, 2, 7, 8, 14, 15, 16, 17] (L' := [(0, .slice A0 l0.length c0), (1, .int .u8 a1), (2, .int .i64 a2), (7, .int .i64 x7_l1), (8, .int .i64 x8_l1), (14, undef), (15, undef), (16, undef), (17, .bool false)]) (w' := w) (by kernel_rfl) ?_
      refine WR.nil ?_
      refine At.go ?_
      refine WC.condF (by kernel_rfl) (by kernel_rfl) (by kernel_rfl) ?_
      refine WC.exit (by kernel_rfl) ?_
      refine At.thenExit ?_
      refine At.thenExit ?_
      obtain rfl := Option.some.inj H
      have hS : Sat w (rf w0) [] := hS.sel [] (by kernel_rfl)
      refine At.weaken [7] (L' := [(7, .int .i64 x7_l1)]) (by kernel_rfl) ?_
      exact hn0 _ hS
theorem colophonref02_Rank.calls (w0 : World) (A0 : Option Addr) (c0 : Nat) (l0 : List Int) (R0 : rdS (r0 (.int .u8)) 1 (hp w0) A0 c0 l0) (a1 : Int) (a2 : Int) (r : Int) (H : colophonref02_Rank.f l0 a1 a2 = some r) :
    Calls Try.prog 17 #[.slice A0 l0.length c0, .int .u8 a1, .int .i64 a2] w0 (fun e w' => ∃ v, e = .returned v ∧ colophonref02_Rank.post w0 r v w') := by
  have hS : Sat w0 (rf w0) [] := Sat.start w0
  unfold colophonref02_Rank.f at H
  refine calls_of_WC (vs := [.slice A0 l0.length c0, .int .u8 a1, .int .i64 a2]) Try.func17 (c := C17) (n := 30) (by kernel_rfl) (by kernel_rfl) (by kernel_rfl) ?_
  refine WC.seq (by kernel_rfl) ?_
  refine WC.reg [0] (by kernel_rfl) (by kernel_rfl) ?_
  refine WR.runk [0] [] [0, 1, 2] (L' := [(0, .slice A0 l0.length c0), (1, .int .u8 a1), (2, .int .i64 a2)]) (w' := w0) (by kernel_rfl) ?_
  refine WR.nil ?_
  refine At.go ?_
  refine WC.seq (by kernel_rfl) ?_
  refine WC.reg [0] (by kernel_rfl) (by kernel_rfl) ?_
  refine WR.runk [0] [] [0, 1, 2, 7] (L' := [(0, .slice A0 l0.length c0), (1, .int .u8 a1), (2, .int .i64 a2), (7, .int .i64 0)]) (w' := w0) (by kernel_rfl) ?_
  refine WR.nil ?_
  refine At.go ?_
  refine WC.seq (by kernel_rfl) ?_
  refine WC.seq (by kernel_rfl) ?_
  refine WC.reg [0] (by kernel_rfl) (by kernel_rfl) ?_
  refine WR.runk [0] [] [0, 1, 2, 7, 8] (L' := [(0, .slice A0 l0.length c0), (1, .int .u8 a1), (2, .int .i64 a2), (7, .int .i64 0), (8, .int .i64 0)]) (w' := w0) (by kernel_rfl) ?_
  refine WR.nil ?_
  refine At.go ?_
  refine WC.block (by kernel_rfl) ?_
  have hS : Sat w0 (rf w0) [] := hS.sel [] (by kernel_rfl)
  obtain ⟨o6, e7, H⟩ := bind_ex H
  refine WC.loop (by kernel_rfl) ?_
  refine WL.weaken [0, 1, 2, 7, 8] (L' := [(0, .slice A0 l0.length c0), (1, .int .u8 a1), (2, .int .i64 a2), (7, .int .i64 0), (8, .int .i64 0)]) (by kernel_rfl) ?_
  refine colophonref02_Rank.l1_ok w0 A0 c0 l0 a1 a2 R0 o6 (fun w9 hS => ?_) FU 0 0 _ hS e7
  refine At.hit ?_
  refine At.go ?_
  refine WC.seq (by kernel_rfl) ?_
  refine WC.reg [0, 1] (by kernel_rfl) (by kernel_rfl) ?_
  refine WR.runk [0, 1] [] [6] (L' := [(6, .int .i64 o6)]) (w' := w9) (by kernel_rfl) ?_
  refine WR.nil ?_
  refine At.go ?_
  refine WC.ret (by kernel_rfl) ?_
  obtain rfl := Option.some.inj H
  have hS : Sat w9 (rf w0) [] := hS.sel [] (by kernel_rfl)
  exact At.body [.int .i64 o6] (by kernel_rfl) ⟨_, rfl, rfl, hS⟩
/-! ### 18 (*colophon/rank.Vec).At -/
def rank_Vec_At.f (p0 : Option (Int × (List Int) × (List Int) × Int)) (a1 : Int) : Option Bool := (match p0 with | none => some false | some y3 => (if decide (a1 ≥ 0) then (if decide (a1 < y3.1) then ((at? y3.2.1 (wi (Int.tdiv a1 64))).bind fun v17 => ((chk? (decide (0 ≤ (Int.tmod a1 64)))).bind fun _ => some ((iand .u64 (ishr .u64 v17 (Int.tmod a1 64)) 1) == 1))) else some false) else some false))
def rank_Vec_At.post (w : World) (r : Bool) (v : Value) (w' : World) : Prop := v = (.bool r : Value) ∧ Sat w' (rf w) []
theorem rank_Vec_At.calls (w0 : World) (v0 : Value) (p0 : Option (Int × (List Int) × (List Int) × Int)) (R0 : rd (hp w0) (.ptr 47 (.pair (.int .i64) (.pair (.slice 40 (.int .u64)) (.pair (.slice 3 (.int .i64)) (.int .i64))))) [v0] p0) (a1 : Int) (r : Bool) (H : rank_Vec_At.f p0 a1 = some r) :
    Calls Try.prog 18 #[v0, .int .i64 a1] w0 (fun e w' => ∃ v, e = .returned v ∧ rank_Vec_At.post w0 r v w') := by
  have hS : Sat w0 (rf w0) [] := Sat.start w0
  unfold rank_Vec_At.f at H
  refine calls_of_WC (vs := [v0, .int .i64 a1]) Try.func18 (c := C18) (n := 34) (by kernel_rfl) (by kernel_rfl) (by kernel_rfl) ?_
  refine WC.seq (by kernel_rfl) ?_
  refine WC.reg [0] (by kernel_rfl) (by kernel_rfl) ?_
  refine WR.runk [0] [] [0, 1] (L' := [(0, v0), (1, .int .i64 a1)]) (w' := w0) (by kernel_rfl) ?_
  refine WR.nil ?_
  refine At.go ?_
  refine WC.seq (by kernel_rfl) ?_
  refine WC.reg [0, 1, 2, 3, 4, 5, 6, 7, 8, 9, 10, 11, 12, 13, 14, 15, 16, 17, 18, 19, 20, 21, 22, 23, 24, 25, 26, 27, 28, 29] (by kernel_rfl) (by kernel_rfl) ?_
  refine WR.runk [0] [1, 2, 3, 4, 5, 6, 7, 8, 9, 10, 11, 12, 13, 14, 15, 16, 17, 18, 19, 20, 21, 22, 23, 24, 25, 26, 27, 28, 29] [0, 1, 5] (L' := [(0, v0), (1, .int .i64 a1), (5, v0)]) (w' := w0) (by kernel_rfl) ?_
  rcases opt_cases p0 with hr1 | ⟨y3, hr1⟩
  · rw [hr1] at H
    dsimp only at H
    have hx2 := rd_ptr_none R0 hr1
    try subst hx2
    refine WR.runk [1, 2, 3, 4, 5, 6, 7, 8, 9, 10, 11, 12, 13, 14, 15, 16, 17, 18, 19, 20, 21, 22, 23, 24, 25, 26, 27, 28, 29] [] [4] (L' := [(4, .bool false)]) (w' := w0) (by kernel_rfl) ?_
    refine WR.nil ?_
    refine At.go ?_
    refine WC.ret (by kernel_rfl) ?_
    obtain rfl := Option.some.inj H
    have hS : Sat w0 (rf w0) [] := hS.sel [] (by kernel_rfl)
    exact At.body [.bool false] (by kernel_rfl) ⟨_, rfl, rfl, hS⟩
  · rw [hr1] at H
    dsimp only at H
    obtain ⟨b4, fr5, A9, c10, A12, c13, hv6, hb7, R11, R14⟩ := P47.open R0 hr1
    have R8 := R0
    rw [hv6, hr1] at R8
    try subst hv6
    replace R11 : rdS (r0 (.int .u64)) 1 (hp w0) A9 c10 y3.2.1 := R11
    replace R14 : rdS (r0 (.int .i64)) 1 (hp w0) A12 c13 y3.2.2.1 := R14
    refine WR.runk [1, 2, 3, 4, 5, 6] [7, 8, 9, 10, 11, 12, 13, 14, 15, 16, 17, 18, 19, 20, 21, 22, 23, 24, 25, 26, 27, 28, 29] [0, 1, 11] (L' := [(0, .pointer (some ⟨b4, 0, none⟩)), (1, .int .i64 a1), (11, .bool (decide (a1 ≥ 0)))]) (w' := w0) (by kernel_rfl) ?_
    refine WR.split 11 (b := decide (a1 ≥ 0)) (by kernel_rfl) (fun hb15 => ?_) (fun hb15 => ?_)
    · replace H := ite_t H hb15
      refine WR.runk [7, 8, 9, 10] [11, 12, 13, 14, 15, 16, 17, 18, 19, 20, 21, 22, 23, 24, 25, 26, 27, 28, 29] [0, 1, 11, 12, 15] (L' := [(0, .pointer (some ⟨b4, 0, none⟩)), (1, .int .i64 a1), (11, .bool true), (12, .int .i64 a1), (15, .pointer (some ⟨b4, 0, none⟩))]) (w' := w0) (by kernel_rfl) ?_
      refine WR.st (St.ofR (RSt.loadRo (t := 3) (k := 0) (v := .int .i64 y3.1) (.tmp 15) (by kernel_rfl) (by kernel_rfl) (by kernel_rfl) hS.sub0 hb7 (by kernel_rfl) rfl ?_))
      refine WR.runk [12, 13, 14] [15, 16, 17, 18, 19, 20, 21, 22, 23, 24, 25, 26, 27, 28, 29] [0, 1, 19] (L' := [(0, .pointer (some ⟨b4, 0, none⟩)), (1, .int .i64 a1), (19, .bool (decide (a1 < y3.1)))]) (w' := w0) (by kernel_rfl) ?_
      refine WR.split 19 (b := decide (a1 < y3.1)) (by kernel_rfl) (fun hb16 => ?_) (fun hb16 => ?_)
      · replace H := ite_t H hb16
        refine WR.runk [15, 16, 17] [18, 19, 20, 21, 22, 23, 24, 25, 26, 27, 28, 29] [1, 19, 22] (L' := [(1, .int .i64 a1), (19, .bool true), (22, .pointer (some ⟨b4, 1, none⟩))]) (w' := w0) (by kernel_rfl) ?_
        refine WR.st (St.ofR (RSt.loadRo (t := 44) (k := 1) (v := .slice A9 y3.2.1.length c10) (.tmp 22) (by kernel_rfl) (by kernel_rfl) (by kernel_rfl) hS.sub0 hb7 (by kernel_rfl) rfl ?_))
        refine WR.runk [19, 20] [21, 22, 23, 24, 25, 26, 27, 28, 29] [1, 19, 23, 25] (L' := [(1, .int .i64 a1), (19, .bool true), (23, .slice A9 y3.2.1.length c10), (25, .int .i64 (wi (Int.tdiv a1 64)))]) (w' := w0) (by kernel_rfl) ?_
        obtain ⟨v17, e18, H⟩ := bind_ex H
        refine WR.st (St.ofP (PSt.idx (k := .i64) (.tmp 23) (.tmp 25) (by kernel_rfl) (by kernel_rfl) E44 (by kernel_rfl) (by kernel_rfl) (rdS.up R11 hS.sub0) e18 ?_))
        refine WR.runk [] [22, 23, 24, 25, 26, 27, 28, 29] [1, 19, 26] (L' := [(1, .int .i64 a1), (19, .bool true), (26, .pointer (some (adr A9 (wi (Int.tdiv a1 64)).toNat 1)))]) (w' := w0) (by kernel_rfl) ?_
        refine WR.st (St.ofR (RSt.loadInt (t := 40) (.tmp 26) (by kernel_rfl) (by kernel_rfl) (by kernel_rfl) (by kernel_rfl) (rdS.up R11 hS.sub0) e18 ?_))
        refine WR.runk [23, 24] [25, 26, 27, 28, 29] [19, 27, 29] (L' := [(19, .bool true), (27, .int .u64 v17), (29, .int .i64 (Int.tmod a1 64))]) (w' := w0) (by kernel_rfl) ?_
        obtain ⟨_, e19, H⟩ := bind_ex H
        refine WR.st (St.ofP (PSt.shift (k := .u64) (k2 := .i64) (t := 40) (t2 := 3) (a := v17) (b := (Int.tmod a1 64)) .shr (by decide) (.tmp 27) (.tmp 29) (by kernel_rfl) (by kernel_rfl) (by kernel_rfl) (by kernel_rfl) (of_decide_eq_true (chk?_some e19)) ?_))
        refine WR.runk [26, 27, 28, 29] [] [4] (L' := [(4, .bool ((iand .u64 (ishr .u64 v17 (Int.tmod a1 64)) 1) == 1))]) (w' := w0) (by kernel_rfl) ?_
        refine WR.nil ?_
        refine At.go ?_
        refine WC.ret (by kernel_rfl) ?_
        obtain rfl := Option.some.inj H
        have hS : Sat w0 (rf w0) [] := hS.sel [] (by kernel_rfl)
        exact At.body [.bool ((iand .u64 (ishr .u64 v17 (Int.tmod a1 64)) 1) == 1)] (by kernel_rfl) ⟨_, rfl, rfl, hS⟩
      · replace H := ite_f H hb16
        refine WR.runk [15, 16, 17, 18, 19, 20, 21, 22, 23, 24, 25, 26, 27, 28, 29] [] [4] (L' := [(4, .bool false)]) (w' := w0) (by kernel_rfl) ?_
        refine WR.nil ?_
        refine At.go ?_
        refine WC.ret (by kernel_rfl) ?_
        obtain rfl := Option.some.inj H
        have hS : Sat w0 (rf w0) [] := hS.sel [] (by kernel_rfl)
        exact At.body [.bool false] (by kernel_rfl) ⟨_, rfl, rfl, hS⟩
    · replace H := ite_f H hb15
      refine WR.runk [7, 8, 9, 10, 11, 12, 13, 14, 15, 16, 17, 18, 19, 20, 21, 22, 23, 24, 25, 26, 27, 28, 29] [] [4] (L' := [(4, .bool false)]) (w' := w0) (by kernel_rfl) ?_
      refine WR.nil ?_
      refine At.go ?_
      refine WC.ret (by kernel_rfl) ?_
      obtain rfl := Option.some.inj H
      have hS : Sat w0 (rf w0) [] := hS.sel [] (by kernel_rfl)
      exact At.body [.bool false] (by kernel_rfl) ⟨_, rfl, rfl, hS⟩
/-! ### 19 colophon/colophonref02.Select -/
def colophonref02_Select.l1 (l0 : List Int) (a1 : Int) (a2 : Int) : Nat → Int → Int → Option (Sum Int Unit)
  | 0, _, _ => none
  | k + 1, x7_l1, x12_l1 => (if decide (x12_l1 < (l0.length : Int)) then ((at? l0 x12_l1).bind fun v2 => (if ((iand .u8 v2 1) != a1) then colophonref02_Select.l1 l0 a1 a2 k x7_l1 (wi (x12_l1 + 1)) else (if (x7_l1 == a2) then some (.inl x12_l1) else colophonref02_Select.l1 l0 a1 a2 k (wi (x7_l1 + 1)) (wi (x12_l1 + 1))))) else some (.inr ()))
def colophonref02_Select.f (l0 : List Int) (a1 : Int) (a2 : Int) : Option Int := ((colophonref02_Select.l1 l0 a1 a2 FU 0 0).bind fun o6 => (match o6 with | .inl o8 => some o8 | .inr o12 => some (-1)))
def colophonref02_Select.post (w : World) (r : Int) (v : Value) (w' : World) : Prop := v = (.int .i64 r : Value) ∧ Sat w' (rf w) []
theorem colophonref02_Select.l1_ok {Q} (w0 : World) (A0 : Option Addr) (c0 : Nat) (l0 : List Int) (a1 : Int) (a2 : Int) (R0 : rdS (r0 (.int .u8)) 1 (hp w0) A0 c0 l0) (out : Sum Int Unit) (hn0 : ∀ (o0 : Int) (w : World), out = (.inl o0) → Sat w (rf w0) [] → At Q .ret 28 [(6, .int .i64 o0)] w) (hn1 : ∀ (o1 : Unit) (w : World), out = (.inr o1) → Sat w (rf w0) [] → At Q (.exit 0) 28 [] w) :
    ∀ (k : Nat) (x7_l1 : Int) (x12_l1 : Int) (w : World), Sat w (rf w0) [] → colophonref02_Select.l1 l0 a1 a2 k x7_l1 x12_l1 = some out → WL Try.prog (cbody (cbody (cr (cl (cr (cr C19)))))) Q 28 [(1, .int .u8 a1), (2, .int .i64 a2), (7, .int .i64 x7_l1), (10, .slice A0 l0.length c0), (11, .int .i64 (l0.length : Int)), (12, .int .i64 x12_l1)] w := by
  intro k
  induction k with
  | zero => intro x7_l1 x12_l1 w hS H; exact absurd (show none = some out from H) (by simp)
  | succ k ih =>
    intro x7_l1 x12_l1 w hS H
    unfold colophonref02_Select.l1 at H
    refine WL.round ?_
    refine WC.seq (by kernel_rfl) ?_
    refine WC.reg [0] (by kernel_rfl) (by kernel_rfl) ?_
    refine WR.runk [0] [] [1, 2, 7, 10, 11, 12, 13] (L' := [(1, .int .u8 a1), (2, .int .i64 a2), (7, .int .i64 x7_l1), (10, .slice A0 l0.length c0), (11, .int .i64 (l0.length : Int)), (12, .int .i64 x12_l1), (13, .bool (decide (x12_l1 < (l0.length : Int))))]) (w' := w) (by kernel_rfl) ?_
    refine WR.nil ?_
    refine At.go ?_
    refine WC.seq (by kernel_rfl) ?_
    refine WC.cond (by kernel_rfl) (decide (x12_l1 < (l0.length : Int))) (by kernel_rfl) (by kernel_rfl) (fun hb1 => ?_) (fun hb1 => ?_)
    · replace H := ite_t H hb1
      refine WC.skip (by kernel_rfl) ?_
      refine At.go ?_
      refine WC.seq (by kernel_rfl) ?_
      refine WC.block (by kernel_rfl) ?_
      refine WC.seq (by kernel_rfl) ?_
      refine WC.reg [0, 1, 2, 3, 4] (by kernel_rfl) (by kernel_rfl) ?_
      refine WR.runk [0] [1, 2, 3, 4] [1, 2, 7, 10, 11, 12, 14] (L' := [(1, .int .u8 a1), (2, .int .i64 a2), (7, .int .i64 x7_l1), (10, .slice A0 l0.length c0), (11, .int .i64 (l0.length : Int)), (12, .int .i64 x12_l1), (14, .int .i64 x12_l1)]) (w' := w) (by kernel_rfl) ?_
      obtain ⟨v2, e3, H⟩ := bind_ex H
      refine WR.st (St.ofP (PSt.idx (k := .i64) (.tmp 10) (.tmp 12) (by kernel_rfl) (by kernel_rfl) E22 (by kernel_rfl) (by kernel_rfl) (rdS.up R0 hS.sub0) e3 ?_))
      refine WR.runk [] [2, 3, 4] [1, 2, 7, 10, 11, 12, 14, 15] (L' := [(1, .int .u8 a1), (2, .int .i64 a2), (7, .int .i64 x7_l1), (10, .slice A0 l0.length c0), (11, .int .i64 (l0.length : Int)), (12, .int .i64 x12_l1), (14, .int .i64 x12_l1), (15, .pointer (some (adr A0 x12_l1.toNat 1)))]) (w' := w) (by kernel_rfl) ?_
      refine WR.st (St.ofR (RSt.loadInt (t := 5) (.tmp 15) (by kernel_rfl) (by kernel_rfl) (by kernel_rfl) (by kernel_rfl) (rdS.up R0 hS.sub0) e3 ?_))
      refine WR.runk [3, 4] [] [1, 2, 7, 8, 9, 10, 11, 12] (L' := [(1, .int .u8 a1), (2, .int .i64 a2), (7, .int .i64 x7_l1), (8, .int .i64 x12_l1), (9, .int .u8 v2), (10, .slice A0 l0.length c0), (11, .int .i64 (l0.length : Int)), (12, .int .i64 x12_l1)]) (w' := w) (by kernel_rfl) ?_
      refine WR.nil ?_
      refine At.go ?_
      refine WC.seq (by kernel_rfl) ?_
      refine WC.seq (by kernel_rfl) ?_
      refine WC.reg [0, 1, 2, 3] (by kernel_rfl) (by kernel_rfl) ?_
      refine WR.runk [0, 1, 2, 3] [] [1, 2, 7, 8, 10, 11, 12, 20] (L' := [(1, .int .u8 a1), (2, .int .i64 a2), (7, .int .i64 x7_l1), (8, .int .i64 x12_l1), (10, .slice A0 l0.length c0), (11, .int .i64 (l0.length : Int)), (12, .int .i64 x12_l1), (20, .bool ((iand .u8 v2 1) != a1))]) (w' := w) (by kernel_rfl) ?_
      refine WR.nil ?_
      refine At.go ?_
      refine WC.cond (by kernel_rfl) ((iand .u8 v2 1) != a1) (by kernel_rfl) (by kernel_rfl) (fun hb4 => ?_) (fun hb4 => ?_)
      · replace H := ite_t H hb4
        refine WC.exit (by kernel_rfl) ?_
        refine At.thenExit ?_
        refine At.hit ?_
        refine At.go ?_
        refine WC.reg [0, 1] (by kernel_rfl) (by kernel_rfl) ?_
        refine WR.runk [0, 1] [] [1, 2, 7, 10, 11, 12] (L' := [(1, .int .u8 a1), (2, .int .i64 a2), (7, .int .i64 x7_l1), (10, .slice A0 l0.length c0), (11, .int .i64 (l0.length : Int)), (12, .int .i64 (wi (x12_l1 + 1)))]) (w' := w) (by kernel_rfl) ?_
        refine WR.nil ?_
        have hS : Sat w (rf w0) [] := hS.sel [] (by kernel_rfl)
        refine At.again ?_
        refine WL.weaken [1, 2, 7, 10, 11, 12] (L' := [(1, .int .u8 a1), (2, .int .i64 a2), (7, .int .i64 x7_l1), (10, .slice A0 l0.length c0), (11, .int .i64 (l0.length : Int)), (12, .int .i64 (wi (x12_l1 + 1)))]) (by kernel_rfl) ?_
        exact ih x7_l1 (wi (x12_l1 + 1)) _ hS H
      · replace H := ite_f H hb4
        refine WC.skip (by kernel_rfl) ?_
        refine At.go ?_
        refine WC.seq (by kernel_rfl) ?_
        refine WC.seq (by kernel_rfl) ?_
        refine WC.reg [0, 1, 2] (by kernel_rfl) (by kernel_rfl) ?_
        refine WR.runk [0, 1, 2] [] [1, 2, 7, 8, 10, 11, 12, 23] (L' := [(1, .int .u8 a1), (2, .int .i64 a2), (7, .int .i64 x7_l1), (8, .int .i64 x12_l1), (10, .slice A0 l0.length c0), (11, .int .i64 (l0.length : Int)), (12, .int .i64 x12_l1), (23, .bool (x7_l1 == a2))]) (w' := w) (by kernel_rfl) ?_
        refine WR.nil ?_
        refine At.go ?_
        refine WC.cond (by kernel_rfl) (x7_l1 == a2) (by kernel_rfl) (by kernel_rfl) (fun hb5 => ?_) (fun hb5 => ?_)
        · replace H := ite_t H hb5
          refine WC.seq (by kernel_rfl) ?_
          refine WC.reg [0, 1] (by kernel_rfl) (by kernel_rfl) ?_
          refine WR.runk [0, 1] [] [6] (L' := [(6, .int .i64 x12_l1)]) (w' := w) (by kernel_rfl) ?_
          refine WR.nil ?_
          refine At.go ?_
          refine WC.ret (by kernel_rfl) ?_
          refine At.thenRet ?_
          refine At.blockRet ?_
          refine At.thenRet ?_
          refine At.thenRet ?_
          obtain rfl := Option.some.inj H
          have hS : Sat w (rf w0) [] := hS.sel [] (by kernel_rfl)
          refine At.weaken [6] (L' := [(6, .int .i64 x12_l1)]) (by kernel_rfl) ?_
          exact hn0 x12_l1 _ rfl hS
        · replace H := ite_f H hb5
          refine WC.skip (by kernel_rfl) ?_
          refine At.go ?_
          refine WC.reg [0, 1, 2] (by kernel_rfl) (by kernel_rfl) ?_
          refine WR.runk [0, 1, 2] [] [1, 2, 7, 10, 11, 12] (L' := [(1, .int .u8 a1), (2, .int .i64 a2), (7, .int .i64 (wi (x7_l1 + 1))), (10, .slice A0 l0.length c0), (11, .int .i64 (l0.length : Int)), (12, .int .i64 x12_l1)]) (w' := w) (by kernel_rfl) ?_
          refine WR.nil ?_
          refine At.blockNormal ?_
          refine At.go ?_
          refine WC.reg [0, 1] (by kernel_rfl) (by kernel_rfl) ?_
          refine WR.runk [0, 1] [] [1, 2, 7, 10, 11, 12] (L' := [(1, .int .u8 a1), (2, .int .i64 a2), (7, .int .i64 (wi (x7_l1 + 1))), (10, .slice A0 l0.length c0), (11, .int .i64 (l0.length : Int)), (12, .int .i64 (wi (x12_l1 + 1)))]) (w' := w) (by kernel_rfl) ?_
          refine WR.nil ?_
          have hS : Sat w (rf w0) [] := hS.sel [] (by kernel_rfl)
          refine At.again ?_
          refine WL.weaken [1, 2, 7, 10, 11, 12] (L' := [(1, .int .u8 a1), (2, .int .i64 a2), (7, .int .i64 (wi (x7_l1 + 1))), (10, .slice A0 l0.length c0), (11, .int .i64 (l0.length : Int)), (12, .int .i64 (wi (x12_l1 + 1)))]) (by kernel_rfl) ?_
          exact ih (wi (x7_l1 + 1)) (wi (x12_l1 + 1)) _ hS H
    · replace H := ite_f H hb1
      refine WC.exit (by kernel_rfl) ?_
      refine At.thenExit ?_
      refine At.thenExit ?_
      obtain rfl := Option.some.inj H
      have hS : Sat w (rf w0) [] := hS.sel [] (by kernel_rfl)
      refine At.weaken [] (L' := []) (by kernel_rfl) ?_
      exact hn1 () _ rfl hS
theorem colophonref02_Select.calls (w0 : World) (A0 : Option Addr) (c0 : Nat) (l0 : List Int) (R0 : rdS (r0 (.int .u8)) 1 (hp w0) A0 c0 l0) (a1 : Int) (a2 : Int) (r : Int) (H : colophonref02_Select.f l0 a1 a2 = some r) :
    Calls Try.prog 19 #[.slice A0 l0.length c0, .int .u8 a1, .int .i64 a2] w0 (fun e w' => ∃ v, e = .returned v ∧ colophonref02_Select.post w0 r v w') := by
  have hS : Sat w0 (rf w0) [] := Sat.start w0
  unfold colophonref02_Select.f at H
  refine calls_of_WC (vs := [.slice A0 l0.length c0, .int .u8 a1, .int .i64 a2]) Try.func19 (c := C19) (n := 28) (by kernel_rfl) (by kernel_rfl) (by kernel_rfl) ?_
  refine WC.seq (by kernel_rfl) ?_
  refine WC.reg [0] (by kernel_rfl) (by kernel_rfl) ?_
  refine WR.runk [0] [] [0, 1, 2] (L' := [(0, .slice A0 l0.length c0), (1, .int .u8 a1), (2, .int .i64 a2)]) (w' := w0) (by kernel_rfl) ?_
  refine WR.nil ?_
  refine At.go ?_
  refine WC.seq (by kernel_rfl) ?_
  refine WC.reg [0] (by kernel_rfl) (by kernel_rfl) ?_
  refine WR.runk [0] [] [0, 1, 2, 7] (L' := [(0, .slice A0 l0.length c0), (1, .int .u8 a1), (2, .int .i64 a2), (7, .int .i64 0)]) (w' := w0) (by kernel_rfl) ?_
  refine WR.nil ?_
  refine At.go ?_
  refine WC.seq (by kernel_rfl) ?_
  refine WC.seq (by kernel_rfl) ?_
  refine WC.reg [0, 1, 2] (by kernel_rfl) (by kernel_rfl) ?_
  refine WR.runk [0, 1, 2] [] [1, 2, 7, 10, 11, 12] (L' := [(1, .int .u8 a1), (2, .int .i64 a2), (7, .int .i64 0), (10, .slice A0 l0.length c0), (11, .int .i64 (l0.length : Int)), (12, .int .i64 0)]) (w' := w0) (by kernel_rfl) ?_
  refine WR.nil ?_
  refine At.go ?_
  refine WC.block (by kernel_rfl) ?_
  have hS : Sat w0 (rf w0) [] := hS.sel [] (by kernel_rfl)
  obtain ⟨o6, e7, H⟩ := bind_ex H
  refine WC.loop (by kernel_rfl) ?_
  refine WL.weaken [1, 2, 7, 10, 11, 12] (L' := [(1, .int .u8 a1), (2, .int .i64 a2), (7, .int .i64 0), (10, .slice A0 l0.length c0), (11, .int .i64 (l0.length : Int)), (12, .int .i64 0)]) (by kernel_rfl) ?_
  refine colophonref02_Select.l1_ok w0 A0 c0 l0 a1 a2 R0 o6 (fun o8 w10 ho11 hS => ?_) (fun o12 w14 ho15 hS => ?_) FU 0 0 _ hS e7
  · subst ho11
    dsimp only at H
    refine At.blockRet ?_
    refine At.thenRet ?_
    obtain rfl := Option.some.inj H
    have hS : Sat w10 (rf w0) [] := hS.sel [] (by kernel_rfl)
    exact At.body [.int .i64 o8] (by kernel_rfl) ⟨_, rfl, rfl, hS⟩
  · subst ho15
    dsimp only at H
    refine At.hit ?_
    refine At.go ?_
    refine WC.seq (by kernel_rfl) ?_
    refine WC.reg [0] (by kernel_rfl) (by kernel_rfl) ?_
    refine WR.runk [0] [] [6] (L' := [(6, .int .i64 (-1))]) (w' := w14) (by kernel_rfl) ?_
    refine WR.nil ?_
    refine At.go ?_
    refine WC.ret (by kernel_rfl) ?_
    obtain rfl := Option.some.inj H
    have hS : Sat w14 (rf w0) [] := hS.sel [] (by kernel_rfl)
    exact At.body [.int .i64 (-1)] (by kernel_rfl) ⟨_, rfl, rfl, hS⟩
/-! ### 23 (*colophon/pack.Ints).Get -/
def pack_Ints_Get.f (p0 : Option (Int × Int × (List Int))) (a1 : Int) : Option Int := (match p0 with | none => some 0 | some y3 => (if decide (a1 < 0) then some 0 else (if decide (a1 ≥ y3.2.1) then some 0 else ((at? y3.2.2 (wi (Int.tdiv (wi (a1 * y3.1)) 64))).bind fun v14 => ((chk? (decide (0 ≤ (Int.tmod (wi (a1 * y3.1)) 64)))).bind fun _ => (if decide (wi ((Int.tmod (wi (a1 * y3.1)) 64) + y3.1) > 64) then ((at? y3.2.2 (wi ((wi (Int.tdiv (wi (a1 * y3.1)) 64)) + 1))).bind fun v18 => ((chk? (decide (0 ≤ (wi (64 - (Int.tmod (wi (a1 * y3.1)) 64)))))).bind fun _ => ((pack_mask.f y3.1).bind fun r21 => some (iand .u64 (ior .u64 (ishr .u64 v14 (Int.tmod (wi (a1 * y3.1)) 64)) (ishl .u64 v18 (wi (64 - (Int.tmod (wi (a1 * y3.1)) 64))))) r21)))) else ((pack_mask.f y3.1).bind fun r30 => some (iand .u64 (ishr .u64 v14 (Int.tmod (wi (a1 * y3.1)) 64)) r30))))))))
def pack_Ints_Get.post (w : World) (r : Int) (v : Value) (w' : World) : Prop := v = (.int .u64 r : Value) ∧ Sat w' (rf w) []
theorem pack_Ints_Get.calls (w0 : World) (v0 : Value) (p0 : Option (Int × Int × (List Int))) (R0 : rd (hp w0) (.ptr 52 (.pair (.int .i64) (.pair (.int .i64) (.slice 40 (.int .u64))))) [v0] p0) (a1 : Int) (r : Int) (H : pack_Ints_Get.f p0 a1 = some r) :
    Calls Try.prog 23 #[v0, .int .i64 a1] w0 (fun e w' => ∃ v, e = .returned v ∧ pack_Ints_Get.post w0 r v w') := by
  have hS : Sat w0 (rf w0) [] := Sat.start w0
  unfold pack_Ints_Get.f at H
  refine calls_of_WC (vs := [v0, .int .i64 a1]) Try.func23 (c := C23) (n := 69) (by kernel_rfl) (by kernel_rfl) (by kernel_rfl) ?_
  refine WC.seq (by kernel_rfl) ?_
  refine WC.reg [0] (by kernel_rfl) (by kernel_rfl) ?_
  refine WR.runk [0] [] [0, 1] (L' := [(0, v0), (1, .int .i64 a1)]) (w' := w0) (by kernel_rfl) ?_
  refine WR.nil ?_
  refine At.go ?_
  refine WC.seq (by kernel_rfl) ?_
  refine WC.seq (by kernel_rfl) ?_
  refine WC.reg [0, 1, 2, 3, 4, 5, 6, 7, 8, 9, 10, 11, 12, 13] (by kernel_rfl) (by kernel_rfl) ?_
  refine WR.runk [0] [1, 2, 3, 4, 5, 6, 7, 8, 9, 10, 11, 12, 13] [0, 1, 9] (L' := [(0, v0), (1, .int .i64 a1), (9, v0)]) (w' := w0) (by kernel_rfl) ?_
  rcases opt_cases p0 with hr1 | ⟨y3, hr1⟩
  · rw [hr1] at H
    dsimp only at H
    have hx2 := rd_ptr_none R0 hr1
    try subst hx2
    refine WR.runk [1, 2, 3, 4, 5, 6, 7, 8, 9, 10, 11, 12, 13] [] [0, 1, 22] (L' := [(0, .pointer none), (1, .int .i64 a1), (22, .bool true)]) (w' := w0) (by kernel_rfl) ?_
    refine WR.nil ?_
    refine At.go ?_
    refine WC.condT (by kernel_rfl) (by kernel_rfl) (by kernel_rfl) ?_
    refine WC.seq (by kernel_rfl) ?_
    refine WC.reg [0] (by kernel_rfl) (by kernel_rfl) ?_
    refine WR.runk [0] [] [4] (L' := [(4, .int .u64 0)]) (w' := w0) (by kernel_rfl) ?_
    refine WR.nil ?_
    refine At.go ?_
    refine WC.ret (by kernel_rfl) ?_
    refine At.thenRet ?_
    obtain rfl := Option.some.inj H
    have hS : Sat w0 (rf w0) [] := hS.sel [] (by kernel_rfl)
    exact At.body [.int .u64 0] (by kernel_rfl) ⟨_, rfl, rfl, hS⟩
  · rw [hr1] at H
    dsimp only at H
    obtain ⟨b4, fr5, A9, c10, hv6, hb7, R11⟩ := P52.open R0 hr1
    have R8 := R0
    rw [hv6, hr1] at R8
    try subst hv6
    replace R11 : rdS (r0 (.int .u64)) 1 (hp w0) A9 c10 y3.2.2 := R11
    refine WR.runk [1, 2, 3, 4, 5, 6] [7, 8, 9, 10, 11, 12, 13] [0, 1, 15] (L' := [(0, .pointer (some ⟨b4, 0, none⟩)), (1, .int .i64 a1), (15, .bool (decide (a1 < 0)))]) (w' := w0) (by kernel_rfl) ?_
    refine WR.split 15 (b := decide (a1 < 0)) (by kernel_rfl) (fun hb12 => ?_) (fun hb12 => ?_)
    · replace H := ite_t H hb12
      refine WR.runk [7, 8, 9, 10, 11, 12, 13] [] [0, 1, 22] (L' := [(0, .pointer (some ⟨b4, 0, none⟩)), (1, .int .i64 a1), (22, .bool true)]) (w' := w0) (by kernel_rfl) ?_
      refine WR.nil ?_
      refine At.go ?_
      refine WC.condT (by kernel_rfl) (by kernel_rfl) (by kernel_rfl) ?_
      refine WC.seq (by kernel_rfl) ?_
      refine WC.reg [0] (by kernel_rfl) (by kernel_rfl) ?_
      refine WR.runk [0] [] [4] (L' := [(4, .int .u64 0)]) (w' := w0) (by kernel_rfl) ?_
      refine WR.nil ?_
      refine At.go ?_
      refine WC.ret (by kernel_rfl) ?_
      refine At.thenRet ?_
      obtain rfl := Option.some.inj H
      have hS : Sat w0 (rf w0) [] := hS.sel [] (by kernel_rfl)
      exact At.body [.int .u64 0] (by kernel_rfl) ⟨_, rfl, rfl, hS⟩
    · replace H := ite_f H hb12
      refine WR.runk [7, 8, 9, 10] [11, 12, 13] [0, 1, 15, 16, 19] (L' := [(0, .pointer (some ⟨b4, 0, none⟩)), (1, .int .i64 a1), (15, .bool false), (16, .int .i64 a1), (19, .pointer (some ⟨b4, 1, none⟩))]) (w' := w0) (by kernel_rfl) ?_
      refine WR.st (St.ofR (RSt.loadRo (t := 3) (k := 1) (v := .int .i64 y3.2.1) (.tmp 19) (by kernel_rfl) (by kernel_rfl) (by kernel_rfl) hS.sub0 hb7 (by kernel_rfl) rfl ?_))
      refine WR.runk [12, 13] [] [0, 1, 22] (L' := [(0, .pointer (some ⟨b4, 0, none⟩)), (1, .int .i64 a1), (22, .bool (decide (a1 ≥ y3.2.1)))]) (w' := w0) (by kernel_rfl) ?_
      refine WR.nil ?_
      refine At.go ?_
      refine WC.cond (by kernel_rfl) (decide (a1 ≥ y3.2.1)) (by kernel_rfl) (by kernel_rfl) (fun hb13 => ?_) (fun hb13 => ?_)
      · replace H := ite_t H hb13
        refine WC.seq (by kernel_rfl) ?_
        refine WC.reg [0] (by kernel_rfl) (by kernel_rfl) ?_
        refine WR.runk [0] [] [4] (L' := [(4, .int .u64 0)]) (w' := w0) (by kernel_rfl) ?_
        refine WR.nil ?_
        refine At.go ?_
        refine WC.ret (by kernel_rfl) ?_
        refine At.thenRet ?_
        obtain rfl := Option.some.inj H
        have hS : Sat w0 (rf w0) [] := hS.sel [] (by kernel_rfl)
        exact At.body [.int .u64 0] (by kernel_rfl) ⟨_, rfl, rfl, hS⟩
      · replace H := ite_f H hb13
        refine WC.skip (by kernel_rfl) ?_
        refine At.go ?_
        refine WC.seq (by kernel_rfl) ?_
        refine WC.reg [0, 1, 2, 3, 4, 5, 6] (by kernel_rfl) (by kernel_rfl) ?_
        refine WR.runk [0, 1, 2, 3] [4, 5, 6] [0, 23, 26] (L' := [(0, .pointer (some ⟨b4, 0, none⟩)), (23, .int .i64 a1), (26, .pointer (some ⟨b4, 0, none⟩))]) (w' := w0) (by kernel_rfl) ?_
        refine WR.st (St.ofR (RSt.loadRo (t := 3) (k := 0) (v := .int .i64 y3.1) (.tmp 26) (by kernel_rfl) (by kernel_rfl) (by kernel_rfl) hS.sub0 hb7 (by kernel_rfl) rfl ?_))
        refine WR.runk [5, 6] [] [0, 5] (L' := [(0, .pointer (some ⟨b4, 0, none⟩)), (5, .int .i64 (wi (a1 * y3.1)))]) (w' := w0) (by kernel_rfl) ?_
        refine WR.nil ?_
        refine At.go ?_
        refine WC.seq (by kernel_rfl) ?_
        refine WC.reg [0, 1, 2, 3, 4, 5] (by kernel_rfl) (by kernel_rfl) ?_
        refine WR.runk [0, 1, 2, 3, 4, 5] [] [0, 6, 7] (L' := [(0, .pointer (some ⟨b4, 0, none⟩)), (6, .int .i64 (wi (Int.tdiv (wi (a1 * y3.1)) 64))), (7, .int .i64 (Int.tmod (wi (a1 * y3.1)) 64))]) (w' := w0) (by kernel_rfl) ?_
        refine WR.nil ?_
        refine At.go ?_
        refine WC.seq (by kernel_rfl) ?_
        refine WC.reg [0, 1, 2, 3, 4, 5, 6, 7, 8, 9] (by kernel_rfl) (by kernel_rfl) ?_
        refine WR.runk [0, 1, 2] [3, 4, 5, 6, 7, 8, 9] [0, 6, 7, 35] (L' := [(0, .pointer (some ⟨b4, 0, none⟩)), (6, .int .i64 (wi (Int.tdiv (wi (a1 * y3.1)) 64))), (7, .int .i64 (Int.tmod (wi (a1 * y3.1)) 64)), (35, .pointer (some ⟨b4, 2, none⟩))]) (w' := w0) (by kernel_rfl) ?_
        refine WR.st (St.ofR (RSt.loadRo (t := 44) (k := 2) (v := .slice A9 y3.2.2.length c10) (.tmp 35) (by kernel_rfl) (by kernel_rfl) (by kernel_rfl) hS.sub0 hb7 (by kernel_rfl) rfl ?_))
        refine WR.runk [4] [5, 6, 7, 8, 9] [0, 6, 7, 36, 37] (L' := [(0, .pointer (some ⟨b4, 0, none⟩)), (6, .int .i64 (wi (Int.tdiv (wi (a1 * y3.1)) 64))), (7, .int .i64 (Int.tmod (wi (a1 * y3.1)) 64)), (36, .slice A9 y3.2.2.length c10), (37, .int .i64 (wi (Int.tdiv (wi (a1 * y3.1)) 64)))]) (w' := w0) (by kernel_rfl) ?_
        obtain ⟨v14, e15, H⟩ := bind_ex H
        refine WR.st (St.ofP (PSt.idx (k := .i64) (.tmp 36) (.tmp 37) (by kernel_rfl) (by kernel_rfl) E44 (by kernel_rfl) (by kernel_rfl) (rdS.up R11 hS.sub0) e15 ?_))
        refine WR.runk [] [6, 7, 8, 9] [0, 6, 7, 38] (L' := [(0, .pointer (some ⟨b4, 0, none⟩)), (6, .int .i64 (wi (Int.tdiv (wi (a1 * y3.1)) 64))), (7, .int .i64 (Int.tmod (wi (a1 * y3.1)) 64)), (38, .pointer (some (adr A9 (wi (Int.tdiv (wi (a1 * y3.1)) 64)).toNat 1)))]) (w' := w0) (by kernel_rfl) ?_
        refine WR.st (St.ofR (RSt.loadInt (t := 40) (.tmp 38) (by kernel_rfl) (by kernel_rfl) (by kernel_rfl) (by kernel_rfl) (rdS.up R11 hS.sub0) e15 ?_))
        refine WR.runk [7] [8, 9] [0, 6, 7, 39, 40] (L' := [(0, .pointer (some ⟨b4, 0, none⟩)), (6, .int .i64 (wi (Int.tdiv (wi (a1 * y3.1)) 64))), (7, .int .i64 (Int.tmod (wi (a1 * y3.1)) 64)), (39, .int .u64 v14), (40, .int .i64 (Int.tmod (wi (a1 * y3.1)) 64))]) (w' := w0) (by kernel_rfl) ?_
        obtain ⟨_, e16, H⟩ := bind_ex H
        refine WR.st (St.ofP (PSt.shift (k := .u64) (k2 := .i64) (t := 40) (t2 := 3) (a := v14) (b := (Int.tmod (wi (a1 * y3.1)) 64)) .shr (by decide) (.tmp 39) (.tmp 40) (by kernel_rfl) (by kernel_rfl) (by kernel_rfl) (by kernel_rfl) (of_decide_eq_true (chk?_some e16)) ?_))
        refine WR.runk [9] [] [0, 6, 7, 8] (L' := [(0, .pointer (some ⟨b4, 0, none⟩)), (6, .int .i64 (wi (Int.tdiv (wi (a1 * y3.1)) 64))), (7, .int .i64 (Int.tmod (wi (a1 * y3.1)) 64)), (8, .int .u64 (ishr .u64 v14 (Int.tmod (wi (a1 * y3.1)) 64)))]) (w' := w0) (by kernel_rfl) ?_
        refine WR.nil ?_
        refine At.go ?_
        refine WC.seq (by kernel_rfl) ?_
        refine WC.seq (by kernel_rfl) ?_
        refine WC.reg [0, 1, 2, 3, 4, 5, 6] (by kernel_rfl) (by kernel_rfl) ?_
        refine WR.runk [0, 1, 2, 3] [4, 5, 6] [0, 6, 7, 8, 42, 45] (L' := [(0, .pointer (some ⟨b4, 0, none⟩)), (6, .int .i64 (wi (Int.tdiv (wi (a1 * y3.1)) 64))), (7, .int .i64 (Int.tmod (wi (a1 * y3.1)) 64)), (8, .int .u64 (ishr .u64 v14 (Int.tmod (wi (a1 * y3.1)) 64))), (42, .int .i64 (Int.tmod (wi (a1 * y3.1)) 64)), (45, .pointer (some ⟨b4, 0, none⟩))]) (w' := w0) (by kernel_rfl) ?_
        refine WR.st (St.ofR (RSt.loadRo (t := 3) (k := 0) (v := .int .i64 y3.1) (.tmp 45) (by kernel_rfl) (by kernel_rfl) (by kernel_rfl) hS.sub0 hb7 (by kernel_rfl) rfl ?_))
        refine WR.runk [5, 6] [] [0, 6, 7, 8, 48] (L' := [(0, .pointer (some ⟨b4, 0, none⟩)), (6, .int .i64 (wi (Int.tdiv (wi (a1 * y3.1)) 64))), (7, .int .i64 (Int.tmod (wi (a1 * y3.1)) 64)), (8, .int .u64 (ishr .u64 v14 (Int.tmod (wi (a1 * y3.1)) 64))), (48, .bool (decide (wi ((Int.tmod (wi (a1 * y3.1)) 64) + y3.1) > 64)))]) (w' := w0) (by kernel_rfl) ?_
        refine WR.nil ?_
        refine At.go ?_
        refine WC.cond (by kernel_rfl) (decide (wi ((Int.tmod (wi (a1 * y3.1)) 64) + y3.1) > 64)) (by kernel_rfl) (by kernel_rfl) (fun hb17 => ?_) (fun hb17 => ?_)
        · replace H := ite_t H hb17
          refine WC.reg [0, 1, 2, 3, 4, 5, 6, 7, 8, 9, 10, 11, 12, 13] (by kernel_rfl) (by kernel_rfl) ?_
          refine WR.runk [0, 1, 2, 3] [4, 5, 6, 7, 8, 9, 10, 11, 12, 13] [0, 6, 7, 8, 49, 52] (L' := [(0, .pointer (some ⟨b4, 0, none⟩)), (6, .int .i64 (wi (Int.tdiv (wi (a1 * y3.1)) 64))), (7, .int .i64 (Int.tmod (wi (a1 * y3.1)) 64)), (8, .int .u64 (ishr .u64 v14 (Int.tmod (wi (a1 * y3.1)) 64))), (49, .int .u64 (ishr .u64 v14 (Int.tmod (wi (a1 * y3.1)) 64))), (52, .pointer (some ⟨b4, 2, none⟩))]) (w' := w0) (by kernel_rfl) ?_
          refine WR.st (St.ofR (RSt.loadRo (t := 44) (k := 2) (v := .slice A9 y3.2.2.length c10) (.tmp 52) (by kernel_rfl) (by kernel_rfl) (by kernel_rfl) hS.sub0 hb7 (by kernel_rfl) rfl ?_))
          refine WR.runk [5, 6] [7, 8, 9, 10, 11, 12, 13] [0, 7, 8, 49, 53, 55] (L' := [(0, .pointer (some ⟨b4, 0, none⟩)), (7, .int .i64 (Int.tmod (wi (a1 * y3.1)) 64)), (8, .int .u64 (ishr .u64 v14 (Int.tmod (wi (a1 * y3.1)) 64))), (49, .int .u64 (ishr .u64 v14 (Int.tmod (wi (a1 * y3.1)) 64))), (53, .slice A9 y3.2.2.length c10), (55, .int .i64 (wi ((wi (Int.tdiv (wi (a1 * y3.1)) 64)) + 1)))]) (w' := w0) (by kernel_rfl) ?_
          obtain ⟨v18, e19, H⟩ := bind_ex H
          refine WR.st (St.ofP (PSt.idx (k := .i64) (.tmp 53) (.tmp 55) (by kernel_rfl) (by kernel_rfl) E44 (by kernel_rfl) (by kernel_rfl) (rdS.up R11 hS.sub0) e19 ?_))
          refine WR.runk [] [8, 9, 10, 11, 12, 13] [0, 7, 8, 49, 56] (L' := [(0, .pointer (some ⟨b4, 0, none⟩)), (7, .int .i64 (Int.tmod (wi (a1 * y3.1)) 64)), (8, .int .u64 (ishr .u64 v14 (Int.tmod (wi (a1 * y3.1)) 64))), (49, .int .u64 (ishr .u64 v14 (Int.tmod (wi (a1 * y3.1)) 64))), (56, .pointer (some (adr A9 (wi ((wi (Int.tdiv (wi (a1 * y3.1)) 64)) + 1)).toNat 1)))]) (w' := w0) (by kernel_rfl) ?_
          refine WR.st (St.ofR (RSt.loadInt (t := 40) (.tmp 56) (by kernel_rfl) (by kernel_rfl) (by kernel_rfl) (by kernel_rfl) (rdS.up R11 hS.sub0) e19 ?_))
          refine WR.runk [9, 10] [11, 12, 13] [0, 8, 49, 57, 59] (L' := [(0, .pointer (some ⟨b4, 0, none⟩)), (8, .int .u64 (ishr .u64 v14 (Int.tmod (wi (a1 * y3.1)) 64))), (49, .int .u64 (ishr .u64 v14 (Int.tmod (wi (a1 * y3.1)) 64))), (57, .int .u64 v18), (59, .int .i64 (wi (64 - (Int.tmod (wi (a1 * y3.1)) 64))))]) (w' := w0) (by kernel_rfl) ?_
          obtain ⟨_, e20, H⟩ := bind_ex H
          refine WR.st (St.ofP (PSt.shift (k := .u64) (k2 := .i64) (t := 40) (t2 := 3) (a := v18) (b := (wi (64 - (Int.tmod (wi (a1 * y3.1)) 64)))) .shl (by decide) (.tmp 57) (.tmp 59) (by kernel_rfl) (by kernel_rfl) (by kernel_rfl) (by kernel_rfl) (of_decide_eq_true (chk?_some e20)) ?_))
          refine WR.runk [12, 13] [] [0, 8] (L' := [(0, .pointer (some ⟨b4, 0, none⟩)), (8, .int .u64 (ior .u64 (ishr .u64 v14 (Int.tmod (wi (a1 * y3.1)) 64)) (ishl .u64 v18 (wi (64 - (Int.tmod (wi (a1 * y3.1)) 64))))))]) (w' := w0) (by kernel_rfl) ?_
          refine WR.nil ?_
          refine At.go ?_
          refine WC.seq (by kernel_rfl) ?_
          refine WC.reg [0, 1, 2, 3, 4, 5, 6, 7] (by kernel_rfl) (by kernel_rfl) ?_
          refine WR.runk [0, 1, 2, 3] [4, 5, 6, 7] [62, 65] (L' := [(62, .int .u64 (ior .u64 (ishr .u64 v14 (Int.tmod (wi (a1 * y3.1)) 64)) (ishl .u64 v18 (wi (64 - (Int.tmod (wi (a1 * y3.1)) 64)))))), (65, .pointer (some ⟨b4, 0, none⟩))]) (w' := w0) (by kernel_rfl) ?_
          refine WR.st (St.ofR (RSt.loadRo (t := 3) (k := 0) (v := .int .i64 y3.1) (.tmp 65) (by kernel_rfl) (by kernel_rfl) (by kernel_rfl) hS.sub0 hb7 (by kernel_rfl) rfl ?_))
          refine WR.runk [] [5, 6, 7] [62, 66] (L' := [(62, .int .u64 (ior .u64 (ishr .u64 v14 (Int.tmod (wi (a1 * y3.1)) 64)) (ishl .u64 v18 (wi (64 - (Int.tmod (wi (a1 * y3.1)) 64)))))), (66, .int .i64 y3.1)]) (w' := w0) (by kernel_rfl) ?_
          obtain ⟨r21, e22, H⟩ := bind_ex H
          refine WR.st (St.call (by kernel_rfl) (f := 27) (args := #[.int .i64 y3.1]) (by kernel_rfl) (pack_mask.calls w0 y3.1 r21 e22) ?_)
          rintro _ w28 ⟨rfl, hS29⟩
          have hS : Sat w28 (rf w0) [] := hS.ext hS29
          refine WR.runk [6, 7] [] [4] (L' := [(4, .int .u64 (iand .u64 (ior .u64 (ishr .u64 v14 (Int.tmod (wi (a1 * y3.1)) 64)) (ishl .u64 v18 (wi (64 - (Int.tmod (wi (a1 * y3.1)) 64))))) r21))]) (w' := w28) (by kernel_rfl) ?_
          refine WR.nil ?_
          refine At.go ?_
          refine WC.ret (by kernel_rfl) ?_
          obtain rfl := Option.some.inj H
          have hS : Sat w28 (rf w0) [] := hS.sel [] (by kernel_rfl)
          exact At.body [.int .u64 (iand .u64 (ior .u64 (ishr .u64 v14 (Int.tmod (wi (a1 * y3.1)) 64)) (ishl .u64 v18 (wi (64 - (Int.tmod (wi (a1 * y3.1)) 64))))) r21)] (by kernel_rfl) ⟨_, rfl, rfl, hS⟩
        · replace H := ite_f H hb17
          refine WC.skip (by kernel_rfl) ?_
          refine At.go ?_
          refine WC.seq (by kernel_rfl) ?_
          refine WC.reg [0, 1, 2, 3, 4, 5, 6, 7] (by kernel_rfl) (by kernel_rfl) ?_
          refine WR.runk [0, 1, 2, 3] [4, 5, 6, 7] [62, 65] (L' := [(62, .int .u64 (ishr .u64 v14 (Int.tmod (wi (a1 * y3.1)) 64))), (65, .pointer (some ⟨b4, 0, none⟩))]) (w' := w0) (by kernel_rfl) ?_
          refine WR.st (St.ofR (RSt.loadRo (t := 3) (k := 0) (v := .int .i64 y3.1) (.tmp 65) (by kernel_rfl) (by kernel_rfl) (by kernel_rfl) hS.sub0 hb7 (by kernel_rfl) rfl ?_))
          refine WR.runk [] [5, 6, 7] [62, 66] (L' := [(62, .int .u64 (ishr .u64 v14 (Int.tmod (wi (a1 * y3.1)) 64))), (66, .int .i64 y3.1)]) (w' := w0) (by kernel_rfl) ?_
          obtain ⟨r30, e31, H⟩ := bind_ex H
          refine WR.st (St.call (by kernel_rfl) (f := 27) (args := #[.int .i64 y3.1]) (by kernel_rfl) (pack_mask.calls w0 y3.1 r30 e31) ?_)
          rintro _ w37 ⟨rfl, hS38⟩
          have hS : Sat w37 (rf w0) [] := hS.ext hS38
          refine WR.runk [6, 7] [] [4] (L' := [(4, .int .u64 (iand .u64 (ishr .u64 v14 (Int.tmod (wi (a1 * y3.1)) 64)) r30))]) (w' := w37) (by kernel_rfl) ?_
          refine WR.nil ?_
          refine At.go ?_
          refine WC.ret (by kernel_rfl) ?_
          obtain rfl := Option.some.inj H
          have hS : Sat w37 (rf w0) [] := hS.sel [] (by kernel_rfl)
          exact At.body [.int .u64 (iand .u64 (ishr .u64 v14 (Int.tmod (wi (a1 * y3.1)) 64)) r30)] (by kernel_rfl) ⟨_, rfl, rfl, hS⟩
end Go.Proofs.Ytlkgejhnjbbogaa
