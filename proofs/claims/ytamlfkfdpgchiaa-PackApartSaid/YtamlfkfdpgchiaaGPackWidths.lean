/-
  Printed by gen.py (my own tool): for each Go function a plain Lean function and the proof that a call of it does what that function says.
-/
import Derived.Test.YtamlfkfdpgchiaaGP1b
set_option linter.unusedVariables false
set_option linter.unusedSimpArgs false
set_option maxRecDepth 100000
namespace Go.Proofs.Ytamlfkfdpgchiaa
open Go Go.Gol
/-! ### 3 colophon/colophonlaw01.PackWidths -/
noncomputable abbrev C3 : Code := Try.f3.body.getD .skip
def colophonlaw01_PackWidths.f (a0 : Int) : Option Bool := (colophonlaw01_first.f.bind fun r1 => (if (!r1) then some false else ((pack_Width.f a0).bind fun r11 => (if decide (r11 < 1) then some false else (if decide (r11 > 64) then some false else ((pack_New.f r11 2).bind fun r22 => ((pack_New.f (imax 1 (wi (r11 - 1))) 2).bind fun r32 => (r22.1.bind fun y42 => ((pack_Ints_Set.f y42 1 a0).bind fun r47 => (if (!r47.1) then some false else ((pack_Ints_Get.f r47.2 1).bind fun r57 => (if (r57 != a0) then some false else ((pack_Ints_Get.f r47.2 0).bind fun r67 => (if (r67 != 0) then some false else (if (r11 == 1) then some true else (r32.1.bind fun y78 => ((pack_Ints_Set.f y78 1 a0).bind fun r83 => (if (!r83.1) then ((pack_Ints_Get.f r83.2 1).bind fun r93 => some (r93 == 0)) else some false))))))))))))))))))
def colophonlaw01_PackWidths.post (w : World) (r : Bool) (v : Value) (w' : World) : Prop := v = (.bool r : Value) ∧ Sat w' (rf w) []
theorem colophonlaw01_PackWidths.calls (w0 : World) (a0 : Int) (r : Bool) (H : colophonlaw01_PackWidths.f a0 = some r) :
    Calls Try.prog 3 #[.int .u64 a0] w0 (fun e w' => ∃ v, e = .returned v ∧ colophonlaw01_PackWidths.post w0 r v w') := by
  have hS : Sat w0 (rf w0) [] := Sat.start w0
  unfold colophonlaw01_PackWidths.f at H
  refine calls_of_WC (vs := [.int .u64 a0]) Try.func3 (c := C3) (n := 58) (by kernel_rfl) (by kernel_rfl) (by kernel_rfl) ?_
  refine WC.seq (by kernel_rfl) ?_
  refine WC.reg [0] (by kernel_rfl) (by kernel_rfl) ?_
  refine WR.runk [0] [] [0] (L' := [(0, .int .u64 a0)]) (w' := w0) (by kernel_rfl) ?_
  refine WR.nil ?_
  refine At.go ?_
  refine WC.seq (by kernel_rfl) ?_
  refine WC.seq (by kernel_rfl) ?_
  refine WC.reg [0, 1] (by kernel_rfl) (by kernel_rfl) ?_
  obtain ⟨r1, e2, H⟩ := bind_ex H
  refine WR.st (St.call (by kernel_rfl) (f := 9) (args := #[]) (by kernel_rfl) (colophonlaw01_first.calls w0  r1 e2) ?_)
  rintro _ w8 ⟨rfl, hS9⟩
  have hS : Sat w8 (rf w0) [] := hS.ext hS9
  refine WR.runk [1] [] [0, 9] (L' := [(0, .int .u64 a0), (9, .bool (!r1))]) (w' := w8) (by kernel_rfl) ?_
  refine WR.nil ?_
  refine At.go ?_
  refine WC.cond (by kernel_rfl) (!r1) (by kernel_rfl) (by kernel_rfl) (fun hb10 => ?_) (fun hb10 => ?_)
  · replace H := ite_t H hb10
    refine WC.seq (by kernel_rfl) ?_
    refine WC.reg [0] (by kernel_rfl) (by kernel_rfl) ?_
    refine WR.runk [0] [] [2] (L' := [(2, .bool false)]) (w' := w8) (by kernel_rfl) ?_
    refine WR.nil ?_
    refine At.go ?_
    refine WC.ret (by kernel_rfl) ?_
    refine At.thenRet ?_
    obtain rfl := Option.some.inj H
    have hS : Sat w8 (rf w0) [] := hS.sel [] (by kernel_rfl)
    exact At.body [.bool false] (by kernel_rfl) ⟨_, rfl, rfl, hS⟩
  · replace H := ite_f H hb10
    refine WC.skip (by kernel_rfl) ?_
    refine At.go ?_
    refine WC.seq (by kernel_rfl) ?_
    refine WC.reg [0, 1, 2] (by kernel_rfl) (by kernel_rfl) ?_
    refine WR.runk [0] [1, 2] [0, 10] (L' := [(0, .int .u64 a0), (10, .int .u64 a0)]) (w' := w8) (by kernel_rfl) ?_
    obtain ⟨r11, e12, H⟩ := bind_ex H
    refine WR.st (St.call (by kernel_rfl) (f := 10) (args := #[.int .u64 a0]) (by kernel_rfl) (pack_Width.calls w8 a0 r11 e12) ?_)
    rintro _ w18 ⟨rfl, hS19⟩
    have hS : Sat w18 (rf w0) [] := hS.ext hS19
    refine WR.runk [2] [] [0, 3] (L' := [(0, .int .u64 a0), (3, .int .i64 r11)]) (w' := w18) (by kernel_rfl) ?_
    refine WR.nil ?_
    refine At.go ?_
    refine WC.seq (by kernel_rfl) ?_
    refine WC.seq (by kernel_rfl) ?_
    refine WC.reg [0, 1, 2, 3, 4, 5] (by kernel_rfl) (by kernel_rfl) ?_
    refine WR.runk [0, 1, 2] [3, 4, 5] [0, 3, 14] (L' := [(0, .int .u64 a0), (3, .int .i64 r11), (14, .bool (decide (r11 < 1)))]) (w' := w18) (by kernel_rfl) ?_
    refine WR.split 14 (b := decide (r11 < 1)) (by kernel_rfl) (fun hb20 => ?_) (fun hb20 => ?_)
    · replace H := ite_t H hb20
      refine WR.runk [3, 4, 5] [] [0, 3, 17] (L' := [(0, .int .u64 a0), (3, .int .i64 r11), (17, .bool true)]) (w' := w18) (by kernel_rfl) ?_
      refine WR.nil ?_
      refine At.go ?_
      refine WC.condT (by kernel_rfl) (by kernel_rfl) (by kernel_rfl) ?_
      refine WC.seq (by kernel_rfl) ?_
      refine WC.reg [0] (by kernel_rfl) (by kernel_rfl) ?_
      refine WR.runk [0] [] [2] (L' := [(2, .bool false)]) (w' := w18) (by kernel_rfl) ?_
      refine WR.nil ?_
      refine At.go ?_
      refine WC.ret (by kernel_rfl) ?_
      refine At.thenRet ?_
      obtain rfl := Option.some.inj H
      have hS : Sat w18 (rf w0) [] := hS.sel [] (by kernel_rfl)
      exact At.body [.bool false] (by kernel_rfl) ⟨_, rfl, rfl, hS⟩
    · replace H := ite_f H hb20
      refine WR.runk [3, 4, 5] [] [0, 3, 17] (L' := [(0, .int .u64 a0), (3, .int .i64 r11), (17, .bool (decide (r11 > 64)))]) (w' := w18) (by kernel_rfl) ?_
      refine WR.nil ?_
      refine At.go ?_
      refine WC.cond (by kernel_rfl) (decide (r11 > 64)) (by kernel_rfl) (by kernel_rfl) (fun hb21 => ?_) (fun hb21 => ?_)
      · replace H := ite_t H hb21
        refine WC.seq (by kernel_rfl) ?_
        refine WC.reg [0] (by kernel_rfl) (by kernel_rfl) ?_
        refine WR.runk [0] [] [2] (L' := [(2, .bool false)]) (w' := w18) (by kernel_rfl) ?_
        refine WR.nil ?_
        refine At.go ?_
        refine WC.ret (by kernel_rfl) ?_
        refine At.thenRet ?_
        obtain rfl := Option.some.inj H
        have hS : Sat w18 (rf w0) [] := hS.sel [] (by kernel_rfl)
        exact At.body [.bool false] (by kernel_rfl) ⟨_, rfl, rfl, hS⟩
      · replace H := ite_f H hb21
        refine WC.skip (by kernel_rfl) ?_
        refine At.go ?_
        refine WC.seq (by kernel_rfl) ?_
        refine WC.reg [0, 1, 2, 3, 4, 5, 6] (by kernel_rfl) (by kernel_rfl) ?_
        refine WR.runk [0] [1, 2, 3, 4, 5, 6] [0, 3, 19] (L' := [(0, .int .u64 a0), (3, .int .i64 r11), (19, .int .i64 r11)]) (w' := w18) (by kernel_rfl) ?_
        obtain ⟨r22, e23, H⟩ := bind_ex H
        refine WR.st (St.call (by kernel_rfl) (f := 11) (args := #[.int .i64 r11, .int .i64 2]) (by kernel_rfl) (pack_New.calls w18 r11 2 r22 e23) ?_)
        rintro _ w29 ⟨pv31, rfl, hS30⟩
        have hS : Sat w29 (rf w0) [optP O55 pv31 r22.1] := hS.ext hS30
        refine WR.runk [2, 3, 4, 5, 6] [] [0, 3, 4] (L' := [(0, .int .u64 a0), (3, .int .i64 r11), (4, pv31)]) (w' := w29) (by kernel_rfl) ?_
        refine WR.nil ?_
        refine At.go ?_
        refine WC.seq (by kernel_rfl) ?_
        refine WC.reg [0, 1, 2, 3, 4, 5, 6, 7, 8] (by kernel_rfl) (by kernel_rfl) ?_
        refine WR.runk [0, 1, 2] [3, 4, 5, 6, 7, 8] [0, 3, 4, 26] (L' := [(0, .int .u64 a0), (3, .int .i64 r11), (4, pv31), (26, .int .i64 (imax 1 (wi (r11 - 1))))]) (w' := w29) (by kernel_rfl) ?_
        obtain ⟨r32, e33, H⟩ := bind_ex H
        refine WR.st (St.call (by kernel_rfl) (f := 11) (args := #[.int .i64 (imax 1 (wi (r11 - 1))), .int .i64 2]) (by kernel_rfl) (pack_New.calls w29 (imax 1 (wi (r11 - 1))) 2 r32 e33) ?_)
        rintro _ w39 ⟨pv41, rfl, hS40⟩
        have hS : Sat w39 (rf w0) [optP O55 pv41 r32.1, optP O55 pv31 r22.1] := hS.ext hS40
        refine WR.runk [4, 5, 6, 7, 8] [] [0, 3, 4, 6] (L' := [(0, .int .u64 a0), (3, .int .i64 r11), (4, pv31), (6, pv41)]) (w' := w39) (by kernel_rfl) ?_
        refine WR.nil ?_
        refine At.go ?_
        refine WC.seq (by kernel_rfl) ?_
        refine WC.seq (by kernel_rfl) ?_
        refine WC.reg [0, 1, 2, 3, 4, 5, 6, 7, 8, 9, 10, 11, 12, 13, 14] (by kernel_rfl) (by kernel_rfl) ?_
        refine WR.runk [0, 1] [2, 3, 4, 5, 6, 7, 8, 9, 10, 11, 12, 13, 14] [0, 3, 4, 6, 30, 31] (L' := [(0, .int .u64 a0), (3, .int .i64 r11), (4, pv31), (6, pv41), (30, pv31), (31, .int .u64 a0)]) (w' := w39) (by kernel_rfl) ?_
        have hS : Sat w39 (rf w0) [optP O55 pv31 r22.1, optP O55 pv41 r32.1] := hS.sel [1, 0] (by kernel_rfl)
        obtain ⟨y42, hr43, H⟩ := bind_ex H
        obtain ⟨b45, hv44, hN103⟩ := optP.some hS hr43
        subst hv44
        have hS : Sat w39 (rf w0) [O55 b45 y42, optP O55 pv41 r32.1] := hN103
        refine WR.runk [] [2, 3, 4, 5, 6, 7, 8, 9, 10, 11, 12, 13, 14] [0, 3, 4, 6, 30, 31] (L' := [(0, .int .u64 a0), (3, .int .i64 r11), (4, .pointer (some ⟨b45, 0, none⟩)), (6, pv41), (30, .pointer (some ⟨b45, 0, none⟩)), (31, .int .u64 a0)]) (w' := w39) (by kernel_rfl) ?_
        obtain ⟨r47, e48, H⟩ := bind_ex H
        obtain ⟨B53, hso52, hsub50, hcs51, hb49⟩ := Sat.lend [O55 b45 y42] (cs := [optP O55 pv41 r32.1]) hS
        refine WR.st (St.call (by kernel_rfl) (f := 12) (args := #[.pointer (some ⟨b45, 0, none⟩), .int .i64 1, .int .u64 a0]) (by kernel_rfl) (pack_Ints_Set.calls B53 w39 b45 y42 hso52 1 a0 r47 e48) ?_)
        rintro _ w54 ⟨rfl, hS55⟩
        have hS : Sat w54 (rf w0) [O55 b45 r47.2, optP O55 pv41 r32.1] := hb49 _ _ hS55
        refine WR.runk [3, 4] [5, 6, 7, 8, 9, 10, 11, 12, 13, 14] [0, 3, 4, 6, 34] (L' := [(0, .int .u64 a0), (3, .int .i64 r11), (4, .pointer (some ⟨b45, 0, none⟩)), (6, pv41), (34, .bool (!r47.1))]) (w' := w54) (by kernel_rfl) ?_
        refine WR.split 34 (b := (!r47.1)) (by kernel_rfl) (fun hb56 => ?_) (fun hb56 => ?_)
        · replace H := ite_t H hb56
          refine WR.runk [5, 6, 7, 8, 9, 10, 11, 12, 13, 14] [] [0, 3, 6, 44] (L' := [(0, .int .u64 a0), (3, .int .i64 r11), (6, pv41), (44, .bool true)]) (w' := w54) (by kernel_rfl) ?_
          refine WR.nil ?_
          refine At.go ?_
          refine WC.condT (by kernel_rfl) (by kernel_rfl) (by kernel_rfl) ?_
          refine WC.seq (by kernel_rfl) ?_
          refine WC.reg [0] (by kernel_rfl) (by kernel_rfl) ?_
          refine WR.runk [0] [] [2] (L' := [(2, .bool false)]) (w' := w54) (by kernel_rfl) ?_
          refine WR.nil ?_
          refine At.go ?_
          refine WC.ret (by kernel_rfl) ?_
          refine At.thenRet ?_
          obtain rfl := Option.some.inj H
          have hS : Sat w54 (rf w0) [] := hS.sel [] (by kernel_rfl)
          exact At.body [.bool false] (by kernel_rfl) ⟨_, rfl, rfl, hS⟩
        · replace H := ite_f H hb56
          refine WR.runk [5] [6, 7, 8, 9, 10, 11, 12, 13, 14] [0, 3, 4, 6, 34, 35] (L' := [(0, .int .u64 a0), (3, .int .i64 r11), (4, .pointer (some ⟨b45, 0, none⟩)), (6, pv41), (34, .bool false), (35, .pointer (some ⟨b45, 0, none⟩))]) (w' := w54) (by kernel_rfl) ?_
          obtain ⟨r57, e58, H⟩ := bind_ex H
          obtain ⟨B63, hso62, hsub60, hcs61, hb59⟩ := Sat.lend [O55 b45 r47.2] (cs := [optP O55 pv41 r32.1]) hS
          refine WR.st (St.call (by kernel_rfl) (f := 13) (args := #[.pointer (some ⟨b45, 0, none⟩), .int .i64 1]) (by kernel_rfl) (pack_Ints_Get.calls B63 w54 b45 r47.2 hso62 1 r57 e58) ?_)
          rintro _ w64 ⟨rfl, hS65⟩
          have hS : Sat w64 (rf w0) [O55 b45 r47.2, optP O55 pv41 r32.1] := hb59 _ _ hS65
          refine WR.runk [7, 8, 9, 10] [11, 12, 13, 14] [0, 3, 4, 6, 40] (L' := [(0, .int .u64 a0), (3, .int .i64 r11), (4, .pointer (some ⟨b45, 0, none⟩)), (6, pv41), (40, .bool (r57 != a0))]) (w' := w64) (by kernel_rfl) ?_
          refine WR.split 40 (b := (r57 != a0)) (by kernel_rfl) (fun hb66 => ?_) (fun hb66 => ?_)
          · replace H := ite_t H hb66
            refine WR.runk [11, 12, 13, 14] [] [0, 3, 6, 44] (L' := [(0, .int .u64 a0), (3, .int .i64 r11), (6, pv41), (44, .bool true)]) (w' := w64) (by kernel_rfl) ?_
            refine WR.nil ?_
            refine At.go ?_
            refine WC.condT (by kernel_rfl) (by kernel_rfl) (by kernel_rfl) ?_
            refine WC.seq (by kernel_rfl) ?_
            refine WC.reg [0] (by kernel_rfl) (by kernel_rfl) ?_
            refine WR.runk [0] [] [2] (L' := [(2, .bool false)]) (w' := w64) (by kernel_rfl) ?_
            refine WR.nil ?_
            refine At.go ?_
            refine WC.ret (by kernel_rfl) ?_
            refine At.thenRet ?_
            obtain rfl := Option.some.inj H
            have hS : Sat w64 (rf w0) [] := hS.sel [] (by kernel_rfl)
            exact At.body [.bool false] (by kernel_rfl) ⟨_, rfl, rfl, hS⟩
          · replace H := ite_f H hb66
            refine WR.runk [11] [12, 13, 14] [0, 3, 6, 40, 41] (L' := [(0, .int .u64 a0), (3, .int .i64 r11), (6, pv41), (40, .bool false), (41, .pointer (some ⟨b45, 0, none⟩))]) (w' := w64) (by kernel_rfl) ?_
            obtain ⟨r67, e68, H⟩ := bind_ex H
            obtain ⟨B73, hso72, hsub70, hcs71, hb69⟩ := Sat.lend [O55 b45 r47.2] (cs := [optP O55 pv41 r32.1]) hS
            refine WR.st (St.call (by kernel_rfl) (f := 13) (args := #[.pointer (some ⟨b45, 0, none⟩), .int .i64 0]) (by kernel_rfl) (pack_Ints_Get.calls B73 w64 b45 r47.2 hso72 0 r67 e68) ?_)
            rintro _ w74 ⟨rfl, hS75⟩
            have hS : Sat w74 (rf w0) [O55 b45 r47.2, optP O55 pv41 r32.1] := hb69 _ _ hS75
            refine WR.runk [13, 14] [] [0, 3, 6, 44] (L' := [(0, .int .u64 a0), (3, .int .i64 r11), (6, pv41), (44, .bool (r67 != 0))]) (w' := w74) (by kernel_rfl) ?_
            refine WR.nil ?_
            refine At.go ?_
            refine WC.cond (by kernel_rfl) (r67 != 0) (by kernel_rfl) (by kernel_rfl) (fun hb76 => ?_) (fun hb76 => ?_)
            · replace H := ite_t H hb76
              refine WC.seq (by kernel_rfl) ?_
              refine WC.reg [0] (by kernel_rfl) (by kernel_rfl) ?_
              refine WR.runk [0] [] [2] (L' := [(2, .bool false)]) (w' := w74) (by kernel_rfl) ?_
              refine WR.nil ?_
              refine At.go ?_
              refine WC.ret (by kernel_rfl) ?_
              refine At.thenRet ?_
              obtain rfl := Option.some.inj H
              have hS : Sat w74 (rf w0) [] := hS.sel [] (by kernel_rfl)
              exact At.body [.bool false] (by kernel_rfl) ⟨_, rfl, rfl, hS⟩
            · replace H := ite_f H hb76
              refine WC.skip (by kernel_rfl) ?_
              refine At.go ?_
              refine WC.seq (by kernel_rfl) ?_
              refine WC.reg [0, 1, 2, 3, 4, 5, 6, 7, 8, 9, 10, 11, 12, 13] (by kernel_rfl) (by kernel_rfl) ?_
              refine WR.runk [0, 1, 2] [3, 4, 5, 6, 7, 8, 9, 10, 11, 12, 13] [0, 6, 47] (L' := [(0, .int .u64 a0), (6, pv41), (47, .bool (r11 == 1))]) (w' := w74) (by kernel_rfl) ?_
              refine WR.split 47 (b := (r11 == 1)) (by kernel_rfl) (fun hb77 => ?_) (fun hb77 => ?_)
              · replace H := ite_t H hb77
                refine WR.runk [3, 4, 5, 6, 7, 8, 9, 10, 11, 12, 13] [] [2] (L' := [(2, .bool true)]) (w' := w74) (by kernel_rfl) ?_
                refine WR.nil ?_
                refine At.go ?_
                refine WC.ret (by kernel_rfl) ?_
                obtain rfl := Option.some.inj H
                have hS : Sat w74 (rf w0) [] := hS.sel [] (by kernel_rfl)
                exact At.body [.bool true] (by kernel_rfl) ⟨_, rfl, rfl, hS⟩
              · replace H := ite_f H hb77
                refine WR.runk [3, 4] [5, 6, 7, 8, 9, 10, 11, 12, 13] [6, 47, 48, 49] (L' := [(6, pv41), (47, .bool false), (48, pv41), (49, .int .u64 a0)]) (w' := w74) (by kernel_rfl) ?_
                have hS : Sat w74 (rf w0) [optP O55 pv41 r32.1, O55 b45 r47.2] := hS.sel [1, 0] (by kernel_rfl)
                obtain ⟨y78, hr79, H⟩ := bind_ex H
                obtain ⟨b81, hv80, hN102⟩ := optP.some hS hr79
                subst hv80
                have hS : Sat w74 (rf w0) [O55 b81 y78, O55 b45 r47.2] := hN102
                refine WR.runk [] [5, 6, 7, 8, 9, 10, 11, 12, 13] [6, 47, 48, 49] (L' := [(6, .pointer (some ⟨b81, 0, none⟩)), (47, .bool false), (48, .pointer (some ⟨b81, 0, none⟩)), (49, .int .u64 a0)]) (w' := w74) (by kernel_rfl) ?_
                obtain ⟨r83, e84, H⟩ := bind_ex H
                obtain ⟨B89, hso88, hsub86, hcs87, hb85⟩ := Sat.lend [O55 b81 y78] (cs := [O55 b45 r47.2]) hS
                refine WR.st (St.call (by kernel_rfl) (f := 12) (args := #[.pointer (some ⟨b81, 0, none⟩), .int .i64 1, .int .u64 a0]) (by kernel_rfl) (pack_Ints_Set.calls B89 w74 b81 y78 hso88 1 a0 r83 e84) ?_)
                rintro _ w90 ⟨rfl, hS91⟩
                have hS : Sat w90 (rf w0) [O55 b81 r83.2, O55 b45 r47.2] := hb85 _ _ hS91
                refine WR.runk [6, 7] [8, 9, 10, 11, 12, 13] [6, 47, 52] (L' := [(6, .pointer (some ⟨b81, 0, none⟩)), (47, .bool false), (52, .bool (!r83.1))]) (w' := w90) (by kernel_rfl) ?_
                refine WR.split 52 (b := (!r83.1)) (by kernel_rfl) (fun hb92 => ?_) (fun hb92 => ?_)
                · replace H := ite_t H hb92
                  refine WR.runk [8] [9, 10, 11, 12, 13] [47, 52, 53] (L' := [(47, .bool false), (52, .bool true), (53, .pointer (some ⟨b81, 0, none⟩))]) (w' := w90) (by kernel_rfl) ?_
                  obtain ⟨r93, e94, H⟩ := bind_ex H
                  obtain ⟨B99, hso98, hsub96, hcs97, hb95⟩ := Sat.lend [O55 b81 r83.2] (cs := [O55 b45 r47.2]) hS
                  refine WR.st (St.call (by kernel_rfl) (f := 13) (args := #[.pointer (some ⟨b81, 0, none⟩), .int .i64 1]) (by kernel_rfl) (pack_Ints_Get.calls B99 w90 b81 r83.2 hso98 1 r93 e94) ?_)
                  rintro _ w100 ⟨rfl, hS101⟩
                  have hS : Sat w100 (rf w0) [O55 b81 r83.2, O55 b45 r47.2] := hb95 _ _ hS101
                  refine WR.runk [10, 11, 12, 13] [] [2] (L' := [(2, .bool (r93 == 0))]) (w' := w100) (by kernel_rfl) ?_
                  refine WR.nil ?_
                  refine At.go ?_
                  refine WC.ret (by kernel_rfl) ?_
                  obtain rfl := Option.some.inj H
                  have hS : Sat w100 (rf w0) [] := hS.sel [] (by kernel_rfl)
                  exact At.body [.bool (r93 == 0)] (by kernel_rfl) ⟨_, rfl, rfl, hS⟩
                · replace H := ite_f H hb92
                  refine WR.runk [8, 9, 10, 11, 12, 13] [] [2] (L' := [(2, .bool false)]) (w' := w90) (by kernel_rfl) ?_
                  refine WR.nil ?_
                  refine At.go ?_
                  refine WC.ret (by kernel_rfl) ?_
                  obtain rfl := Option.some.inj H
                  have hS : Sat w90 (rf w0) [] := hS.sel [] (by kernel_rfl)
                  exact At.body [.bool false] (by kernel_rfl) ⟨_, rfl, rfl, hS⟩
end Go.Proofs.Ytamlfkfdpgchiaa
