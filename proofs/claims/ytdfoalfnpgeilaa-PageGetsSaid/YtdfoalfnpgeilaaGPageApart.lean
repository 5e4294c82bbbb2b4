/-
  Printed by gen.py (my own tool): for each Go function a plain Lean function and the proof that a call of it does what that function says.
-/
import Derived.Test.YtdfoalfnpgeilaaGP1
set_option linter.unusedVariables false
set_option linter.unusedSimpArgs false
set_option maxRecDepth 100000
namespace Go.Proofs.Ytdfoalfnpgeilaa
open Go Go.Gol
/-! ### 7 colophon/colophonlaw05.PageApart -/
def colophonlaw05_PageApart.f (a0 : Int) (a1 : Int) (l2 : List Int) : Option Bool := (colophonlaw05_first.f.bind fun r1 => (if (!r1) then some false else ((page_Put.f a0 l2).bind fun r11 => ((page_Put.f a1 l2).bind fun r22 => (if (r11.2 != 0) then (if (r11.2 == 0) then some true else some ((r11.1.length : Int) == 0)) else (if (r22.2 != 0) then (if (r11.2 == 0) then some true else some ((r11.1.length : Int) == 0)) else (if (((bs r11.1).toList == (bs r22.1).toList) != (a0 == a1)) then some false else ((app? 140737488355328 (([] : List Int) : List Int) l2).bind fun y41 => (if ((y41.length : Int) == 0) then some true else ((at? y41 (wi (Int.tdiv (y41.length : Int) 2))).bind fun v46 => ((set? y41 (wi (Int.tdiv (y41.length : Int) 2)) (ixor .u8 v46 1)).bind fun y48 => ((page_Put.f a0 y48).bind fun r52 => (if (!((bs r52.1).toList == (bs r11.1).toList)) then some ((r52.1.length : Int) == (r11.1.length : Int)) else some false)))))))))))))
def colophonlaw05_PageApart.post (w : World) (r : Bool) (v : Value) (w' : World) : Prop := v = (.bool r : Value) ∧ Sat w' (rf w) []
theorem colophonlaw05_PageApart.calls (w0 : World) (a0 : Int) (a1 : Int) (A2 : Option Addr) (c2 : Nat) (l2 : List Int) (R2 : rdS (r0 (.int .u8)) 1 (hp w0) A2 c2 l2) (r : Bool) (H : colophonlaw05_PageApart.f a0 a1 l2 = some r) :
    Calls Try.prog 7 #[.int .i64 a0, .int .i64 a1, .slice A2 l2.length c2] w0 (fun e w' => ∃ v, e = .returned v ∧ colophonlaw05_PageApart.post w0 r v w') := by
  have hS : Sat w0 (rf w0) [] := Sat.start w0
  unfold colophonlaw05_PageApart.f at H
  refine calls_of_WC (vs := [.int .i64 a0, .int .i64 a1, .slice A2 l2.length c2]) Try.func7 (c := C7) (n := 82) (by kernel_rfl) (by kernel_rfl) (by kernel_rfl) ?_
  refine WC.seq (by kernel_rfl) ?_
  refine WC.reg [0] (by kernel_rfl) (by kernel_rfl) ?_
  refine WR.runk [0] [] [0, 1, 2] (L' := [(0, .int .i64 a0), (1, .int .i64 a1), (2, .slice A2 l2.length c2)]) (w' := w0) (by kernel_rfl) ?_
  refine WR.nil ?_
  refine At.go ?_
  refine WC.seq (by kernel_rfl) ?_
  refine WC.seq (by kernel_rfl) ?_
  refine WC.reg [0, 1] (by kernel_rfl) (by kernel_rfl) ?_
  obtain ⟨r1, e2, H⟩ := bind_ex H
  refine WR.st (St.call (by kernel_rfl) (f := 8) (args := #[]) (by kernel_rfl) (colophonlaw05_first.calls w0  r1 e2) ?_)
  rintro _ w8 ⟨rfl, hS9⟩
  have hS : Sat w8 (rf w0) [] := hS.ext hS9
  refine WR.runk [1] [] [0, 1, 2, 15] (L' := [(0, .int .i64 a0), (1, .int .i64 a1), (2, .slice A2 l2.length c2), (15, .bool (!r1))]) (w' := w8) (by kernel_rfl) ?_
  refine WR.nil ?_
  refine At.go ?_
  refine WC.cond (by kernel_rfl) (!r1) (by kernel_rfl) (by kernel_rfl) (fun hb10 => ?_) (fun hb10 => ?_)
  · replace H := ite_t H hb10
    refine WC.seq (by kernel_rfl) ?_
    refine WC.reg [0] (by kernel_rfl) (by kernel_rfl) ?_
    refine WR.runk [0] [] [6] (L' := [(6, .bool false)]) (w' := w8) (by kernel_rfl) ?_
    refine WR.nil ?_
    refine At.go ?_
    refine WC.ret (by kernel_rfl) ?_
    refine At.thenRet ?_
    obtain rfl := Option.some.inj H
    have hS : Sat w8 (rf w0) [] := hS.sel [] (by kernel_rfl)
    exact At.body [.bool false] (by kernel_rfl) ⟨_, rfl, rfl, hS⟩
  · replace H := ite_f H hb10
    refine WC.skip (by kernel_rfl) ?_
    refine At.go ?_
    refine WC.seq (by kernel_rfl) ?_
    refine WC.reg [0, 1, 2, 3, 4, 5, 6, 7] (by kernel_rfl) (by kernel_rfl) ?_
    refine WR.runk [0, 1] [2, 3, 4, 5, 6, 7] [0, 1, 2, 17, 18] (L' := [(0, .int .i64 a0), (1, .int .i64 a1), (2, .slice A2 l2.length c2), (17, .int .i64 a0), (18, .slice A2 l2.length c2)]) (w' := w8) (by kernel_rfl) ?_
    obtain ⟨r11, e12, H⟩ := bind_ex H
    refine WR.st (St.call (by kernel_rfl) (f := 9) (args := #[.int .i64 a0, .slice A2 l2.length c2]) (by kernel_rfl) (page_Put.calls w8 a0 A2 c2 l2 (rdS.up R2 hS.sub0) r11 e12) ?_)
    rintro _ w18 ⟨A20, c21, rfl, hS19⟩
    have hS : Sat w18 (rf w0) [osl 5 (r0 (.int .u8)) 1 A20 c21 r11.1] := hS.ext hS19
    refine WR.runk [3, 4, 5, 6, 7] [] [0, 1, 2, 7, 8] (L' := [(0, .int .i64 a0), (1, .int .i64 a1), (2, .slice A2 l2.length c2), (7, .slice A20 r11.1.length c21), (8, .int .i64 r11.2)]) (w' := w18) (by kernel_rfl) ?_
    refine WR.nil ?_
    refine At.go ?_
    refine WC.seq (by kernel_rfl) ?_
    refine WC.reg [0, 1, 2, 3, 4, 5, 6, 7] (by kernel_rfl) (by kernel_rfl) ?_
    refine WR.runk [0, 1] [2, 3, 4, 5, 6, 7] [0, 1, 2, 7, 8, 23, 24] (L' := [(0, .int .i64 a0), (1, .int .i64 a1), (2, .slice A2 l2.length c2), (7, .slice A20 r11.1.length c21), (8, .int .i64 r11.2), (23, .int .i64 a1), (24, .slice A2 l2.length c2)]) (w' := w18) (by kernel_rfl) ?_
    obtain ⟨r22, e23, H⟩ := bind_ex H
    refine WR.st (St.call (by kernel_rfl) (f := 9) (args := #[.int .i64 a1, .slice A2 l2.length c2]) (by kernel_rfl) (page_Put.calls w18 a1 A2 c2 l2 (rdS.up R2 hS.sub0) r22 e23) ?_)
    rintro _ w29 ⟨A31, c32, rfl, hS30⟩
    have hS : Sat w29 (rf w0) [osl 5 (r0 (.int .u8)) 1 A31 c32 r22.1, osl 5 (r0 (.int .u8)) 1 A20 c21 r11.1] := hS.ext hS30
    refine WR.runk [3, 4, 5, 6, 7] [] [0, 1, 2, 7, 8, 9, 10] (L' := [(0, .int .i64 a0), (1, .int .i64 a1), (2, .slice A2 l2.length c2), (7, .slice A20 r11.1.length c21), (8, .int .i64 r11.2), (9, .slice A31 r22.1.length c32), (10, .int .i64 r22.2)]) (w' := w29) (by kernel_rfl) ?_
    refine WR.nil ?_
    refine At.go ?_
    refine WC.seq (by kernel_rfl) ?_
    refine WC.seq (by kernel_rfl) ?_
    refine WC.reg [0, 1, 2, 3, 4, 5] (by kernel_rfl) (by kernel_rfl) ?_
    refine WR.runk [0, 1, 2] [3, 4, 5] [0, 1, 2, 7, 8, 9, 10, 30] (L' := [(0, .int .i64 a0), (1, .int .i64 a1), (2, .slice A2 l2.length c2), (7, .slice A20 r11.1.length c21), (8, .int .i64 r11.2), (9, .slice A31 r22.1.length c32), (10, .int .i64 r22.2), (30, .bool (r11.2 != 0))]) (w' := w29) (by kernel_rfl) ?_
    refine WR.split 30 (b := (r11.2 != 0)) (by kernel_rfl) (fun hb33 => ?_) (fun hb33 => ?_)
    · replace H := ite_t H hb33
      refine WR.runk [3, 4, 5] [] [0, 1, 2, 7, 8, 9, 33] (L' := [(0, .int .i64 a0), (1, .int .i64 a1), (2, .slice A2 l2.length c2), (7, .slice A20 r11.1.length c21), (8, .int .i64 r11.2), (9, .slice A31 r22.1.length c32), (33, .bool true)]) (w' := w29) (by kernel_rfl) ?_
      refine WR.nil ?_
      refine At.go ?_
      refine WC.condT (by kernel_rfl) (by kernel_rfl) (by kernel_rfl) ?_
      refine WC.seq (by kernel_rfl) ?_
      refine WC.reg [0, 1, 2, 3, 4, 5, 6, 7] (by kernel_rfl) (by kernel_rfl) ?_
      refine WR.runk [0, 1, 2] [3, 4, 5, 6, 7] [7, 36] (L' := [(7, .slice A20 r11.1.length c21), (36, .bool (r11.2 == 0))]) (w' := w29) (by kernel_rfl) ?_
      refine WR.split 36 (b := (r11.2 == 0)) (by kernel_rfl) (fun hb34 => ?_) (fun hb34 => ?_)
      · replace H := ite_t H hb34
        refine WR.runk [3, 4, 5, 6, 7] [] [6] (L' := [(6, .bool true)]) (w' := w29) (by kernel_rfl) ?_
        refine WR.nil ?_
        refine At.go ?_
        refine WC.ret (by kernel_rfl) ?_
        refine At.thenRet ?_
        obtain rfl := Option.some.inj H
        have hS : Sat w29 (rf w0) [] := hS.sel [] (by kernel_rfl)
        exact At.body [.bool true] (by kernel_rfl) ⟨_, rfl, rfl, hS⟩
      · replace H := ite_f H hb34
        refine WR.runk [3, 4, 5, 6, 7] [] [6] (L' := [(6, .bool ((r11.1.length : Int) == 0))]) (w' := w29) (by kernel_rfl) ?_
        refine WR.nil ?_
        refine At.go ?_
        refine WC.ret (by kernel_rfl) ?_
        refine At.thenRet ?_
        obtain rfl := Option.some.inj H
        have hS : Sat w29 (rf w0) [] := hS.sel [] (by kernel_rfl)
        exact At.body [.bool ((r11.1.length : Int) == 0)] (by kernel_rfl) ⟨_, rfl, rfl, hS⟩
    · replace H := ite_f H hb33
      refine WR.runk [3, 4, 5] [] [0, 1, 2, 7, 8, 9, 33] (L' := [(0, .int .i64 a0), (1, .int .i64 a1), (2, .slice A2 l2.length c2), (7, .slice A20 r11.1.length c21), (8, .int .i64 r11.2), (9, .slice A31 r22.1.length c32), (33, .bool (r22.2 != 0))]) (w' := w29) (by kernel_rfl) ?_
      refine WR.nil ?_
      refine At.go ?_
      refine WC.cond (by kernel_rfl) (r22.2 != 0) (by kernel_rfl) (by kernel_rfl) (fun hb35 => ?_) (fun hb35 => ?_)
      · replace H := ite_t H hb35
        refine WC.seq (by kernel_rfl) ?_
        refine WC.reg [0, 1, 2, 3, 4, 5, 6, 7] (by kernel_rfl) (by kernel_rfl) ?_
        refine WR.runk [0, 1, 2] [3, 4, 5, 6, 7] [7, 36] (L' := [(7, .slice A20 r11.1.length c21), (36, .bool (r11.2 == 0))]) (w' := w29) (by kernel_rfl) ?_
        refine WR.split 36 (b := (r11.2 == 0)) (by kernel_rfl) (fun hb36 => ?_) (fun hb36 => ?_)
        · replace H := ite_t H hb36
          refine WR.runk [3, 4, 5, 6, 7] [] [6] (L' := [(6, .bool true)]) (w' := w29) (by kernel_rfl) ?_
          refine WR.nil ?_
          refine At.go ?_
          refine WC.ret (by kernel_rfl) ?_
          refine At.thenRet ?_
          obtain rfl := Option.some.inj H
          have hS : Sat w29 (rf w0) [] := hS.sel [] (by kernel_rfl)
          exact At.body [.bool true] (by kernel_rfl) ⟨_, rfl, rfl, hS⟩
        · replace H := ite_f H hb36
          refine WR.runk [3, 4, 5, 6, 7] [] [6] (L' := [(6, .bool ((r11.1.length : Int) == 0))]) (w' := w29) (by kernel_rfl) ?_
          refine WR.nil ?_
          refine At.go ?_
          refine WC.ret (by kernel_rfl) ?_
          refine At.thenRet ?_
          obtain rfl := Option.some.inj H
          have hS : Sat w29 (rf w0) [] := hS.sel [] (by kernel_rfl)
          exact At.body [.bool ((r11.1.length : Int) == 0)] (by kernel_rfl) ⟨_, rfl, rfl, hS⟩
      · replace H := ite_f H hb35
        refine WC.skip (by kernel_rfl) ?_
        refine At.go ?_
        refine WC.seq (by kernel_rfl) ?_
        refine WC.seq (by kernel_rfl) ?_
        refine WC.reg [0, 1, 2, 3, 4, 5, 6, 7, 8] (by kernel_rfl) (by kernel_rfl) ?_
        refine WR.runk [0] [1, 2, 3, 4, 5, 6, 7, 8] [0, 1, 2, 7, 9, 41] (L' := [(0, .int .i64 a0), (1, .int .i64 a1), (2, .slice A2 l2.length c2), (7, .slice A20 r11.1.length c21), (9, .slice A31 r22.1.length c32), (41, .slice A20 r11.1.length c21)]) (w' := w29) (by kernel_rfl) ?_
        refine WR.st (St.ofR (RSt.toStr (src := 22) (dst := 9) (e := 5) (.tmp 41) (by kernel_rfl) (by kernel_rfl) (by kernel_rfl) (by kernel_rfl) (by kernel_rfl) (by kernel_rfl) (Sat.rdAt 1 hS rfl) ?_))
        refine WR.runk [2] [3, 4, 5, 6, 7, 8] [0, 1, 2, 7, 42, 43] (L' := [(0, .int .i64 a0), (1, .int .i64 a1), (2, .slice A2 l2.length c2), (7, .slice A20 r11.1.length c21), (42, .string (bs r11.1)), (43, .slice A31 r22.1.length c32)]) (w' := w29) (by kernel_rfl) ?_
        refine WR.st (St.ofR (RSt.toStr (src := 22) (dst := 9) (e := 5) (.tmp 43) (by kernel_rfl) (by kernel_rfl) (by kernel_rfl) (by kernel_rfl) (by kernel_rfl) (by kernel_rfl) (Sat.rdAt 0 hS rfl) ?_))
        refine WR.runk [4, 5, 6, 7, 8] [] [0, 2, 7, 49] (L' := [(0, .int .i64 a0), (2, .slice A2 l2.length c2), (7, .slice A20 r11.1.length c21), (49, .bool (((bs r11.1).toList == (bs r22.1).toList) != (a0 == a1)))]) (w' := w29) (by kernel_rfl) ?_
        refine WR.nil ?_
        refine At.go ?_
        refine WC.cond (by kernel_rfl) (((bs r11.1).toList == (bs r22.1).toList) != (a0 == a1)) (by kernel_rfl) (by kernel_rfl) (fun hb37 => ?_) (fun hb37 => ?_)
        · replace H := ite_t H hb37
          refine WC.seq (by kernel_rfl) ?_
          refine WC.reg [0] (by kernel_rfl) (by kernel_rfl) ?_
          refine WR.runk [0] [] [6] (L' := [(6, .bool false)]) (w' := w29) (by kernel_rfl) ?_
          refine WR.nil ?_
          refine At.go ?_
          refine WC.ret (by kernel_rfl) ?_
          refine At.thenRet ?_
          obtain rfl := Option.some.inj H
          have hS : Sat w29 (rf w0) [] := hS.sel [] (by kernel_rfl)
          exact At.body [.bool false] (by kernel_rfl) ⟨_, rfl, rfl, hS⟩
        · replace H := ite_f H hb37
          refine WC.skip (by kernel_rfl) ?_
          refine At.go ?_
          refine WC.seq (by kernel_rfl) ?_
          refine WC.reg [0, 1, 2, 3] (by kernel_rfl) (by kernel_rfl) ?_
          refine WR.runk [] [0, 1, 2, 3] [0, 2, 7] (L' := [(0, .int .i64 a0), (2, .slice A2 l2.length c2), (7, .slice A20 r11.1.length c21)]) (w' := w29) (by kernel_rfl) ?_
          refine WR.st (St.box hS (by kernel_rfl) (.cells #[] 5) (fun b38 => .slice (some ⟨b38, 0, none⟩) 0 0) (fun _ => by kernel_rfl) (fun b38 w39 hS => ?_))
          refine WR.runk [1] [2, 3] [0, 7, 50, 51] (L' := [(0, .int .i64 a0), (7, .slice A20 r11.1.length c21), (50, .slice (some ⟨b38, 0, none⟩) 0 0), (51, .slice A2 l2.length c2)]) (w' := w39) (by kernel_rfl) ?_
          have hS : Sat w39 (rf w0) [osl 5 (r0 (.int .u8)) 1 (some ⟨b38, 0, none⟩) (([] : List Int) : List Int).length (([] : List Int) : List Int), osl 5 (r0 (.int .u8)) 1 A31 c32 r22.1, osl 5 (r0 (.int .u8)) 1 A20 c21 r11.1] := Sat.toOsl' (r0 (.int .u8)) 1 (([] : List Int) : List Int) hS rfl (rdL.nil _ _)
          obtain ⟨y41, e40, H⟩ := bind_ex H
          refine WR.st (St.append' (.tmp 50) (.tmp 51) (by kernel_rfl) (by kernel_rfl) E22 (r0_one _) hS (by kernel_rfl) (by kernel_rfl) (rdS.up R2 hS.sub0) 140737488355328 (by kernel_rfl) (by kernel_rfl) e40 (fun A42 c43 w44 hS => ?_))
          refine WR.runk [3] [] [0, 7, 11] (L' := [(0, .int .i64 a0), (7, .slice A20 r11.1.length c21), (11, .slice A42 y41.length c43)]) (w' := w44) (by kernel_rfl) ?_
          refine WR.nil ?_
          refine At.go ?_
          refine WC.seq (by kernel_rfl) ?_
          refine WC.seq (by kernel_rfl) ?_
          refine WC.reg [0, 1, 2] (by kernel_rfl) (by kernel_rfl) ?_
          refine WR.runk [0, 1, 2] [] [0, 7, 11, 55] (L' := [(0, .int .i64 a0), (7, .slice A20 r11.1.length c21), (11, .slice A42 y41.length c43), (55, .bool ((y41.length : Int) == 0))]) (w' := w44) (by kernel_rfl) ?_
          refine WR.nil ?_
          refine At.go ?_
          refine WC.cond (by kernel_rfl) ((y41.length : Int) == 0) (by kernel_rfl) (by kernel_rfl) (fun hb45 => ?_) (fun hb45 => ?_)
          · replace H := ite_t H hb45
            refine WC.seq (by kernel_rfl) ?_
            refine WC.reg [0] (by kernel_rfl) (by kernel_rfl) ?_
            refine WR.runk [0] [] [6] (L' := [(6, .bool true)]) (w' := w44) (by kernel_rfl) ?_
            refine WR.nil ?_
            refine At.go ?_
            refine WC.ret (by kernel_rfl) ?_
            refine At.thenRet ?_
            obtain rfl := Option.some.inj H
            have hS : Sat w44 (rf w0) [] := hS.sel [] (by kernel_rfl)
            exact At.body [.bool true] (by kernel_rfl) ⟨_, rfl, rfl, hS⟩
          · replace H := ite_f H hb45
            refine WC.skip (by kernel_rfl) ?_
            refine At.go ?_
            refine WC.seq (by kernel_rfl) ?_
            refine WC.reg [0, 1, 2, 3, 4, 5, 6, 7, 8] (by kernel_rfl) (by kernel_rfl) ?_
            refine WR.runk [0, 1, 2, 3] [4, 5, 6, 7, 8] [0, 7, 11, 56, 59] (L' := [(0, .int .i64 a0), (7, .slice A20 r11.1.length c21), (11, .slice A42 y41.length c43), (56, .slice A42 y41.length c43), (59, .int .i64 (wi (Int.tdiv (y41.length : Int) 2)))]) (w' := w44) (by kernel_rfl) ?_
            obtain ⟨v46, e47, H⟩ := bind_ex H
            refine WR.st (St.ofP (PSt.idx (k := .i64) (.tmp 56) (.tmp 59) (by kernel_rfl) (by kernel_rfl) E22 (by kernel_rfl) (by kernel_rfl) (Sat.rdAt 0 hS rfl) e47 ?_))
            refine WR.runk [] [5, 6, 7, 8] [0, 7, 11, 56, 59, 60] (L' := [(0, .int .i64 a0), (7, .slice A20 r11.1.length c21), (11, .slice A42 y41.length c43), (56, .slice A42 y41.length c43), (59, .int .i64 (wi (Int.tdiv (y41.length : Int) 2))), (60, .pointer (some (adr A42 (wi (Int.tdiv (y41.length : Int) 2)).toNat 1)))]) (w' := w44) (by kernel_rfl) ?_
            refine WR.st (St.ofR (RSt.loadInt (t := 5) (.tmp 60) (by kernel_rfl) (by kernel_rfl) (by kernel_rfl) (by kernel_rfl) (Sat.rdAt 0 hS rfl) e47 ?_))
            refine WR.runk [6] [7, 8] [0, 7, 11, 56, 59, 62] (L' := [(0, .int .i64 a0), (7, .slice A20 r11.1.length c21), (11, .slice A42 y41.length c43), (56, .slice A42 y41.length c43), (59, .int .i64 (wi (Int.tdiv (y41.length : Int) 2))), (62, .int .u8 (ixor .u8 v46 1))]) (w' := w44) (by kernel_rfl) ?_
            refine WR.st (St.ofP (PSt.idx (k := .i64) (.tmp 56) (.tmp 59) (by kernel_rfl) (by kernel_rfl) E22 (by kernel_rfl) (by kernel_rfl) (Sat.rdAt 0 hS rfl) e47 ?_))
            refine WR.runk [] [8] [0, 7, 11, 62, 63] (L' := [(0, .int .i64 a0), (7, .slice A20 r11.1.length c21), (11, .slice A42 y41.length c43), (62, .int .u8 (ixor .u8 v46 1)), (63, .pointer (some (adr A42 (wi (Int.tdiv (y41.length : Int) 2)).toNat 1)))]) (w' := w44) (by kernel_rfl) ?_
            obtain ⟨y48, e49, H⟩ := bind_ex H
            refine WR.st (St.storeElem' (t := 5) (.tmp 63) (.tmp 62) (by kernel_rfl) (by kernel_rfl) (by kernel_rfl) hS (by kernel_rfl) (by kernel_rfl) rfl e49 rfl (fun w50 hS => ?_))
            have hl51 := set?_len e49
            refine WR.know 11 (.slice A42 y48.length c43) (.slice A42 y41.length c43) (by kernel_rfl) (by rw [hl51]) ?_
            refine WR.runk [] [] [0, 7, 11] (L' := [(0, .int .i64 a0), (7, .slice A20 r11.1.length c21), (11, .slice A42 y48.length c43)]) (w' := w50) (by kernel_rfl) ?_
            refine WR.nil ?_
            refine At.go ?_
            refine WC.seq (by kernel_rfl) ?_
            refine WC.reg [0, 1, 2, 3, 4, 5, 6, 7] (by kernel_rfl) (by kernel_rfl) ?_
            refine WR.runk [0, 1] [2, 3, 4, 5, 6, 7] [7, 65, 66] (L' := [(7, .slice A20 r11.1.length c21), (65, .int .i64 a0), (66, .slice A42 y48.length c43)]) (w' := w50) (by kernel_rfl) ?_
            obtain ⟨r52, e53, H⟩ := bind_ex H
            refine WR.st (St.call (by kernel_rfl) (f := 9) (args := #[.int .i64 a0, .slice A42 y48.length c43]) (by kernel_rfl) (page_Put.calls w50 a0 A42 c43 y48 (Sat.rdAt 0 hS rfl) r52 e53) ?_)
            rintro _ w59 ⟨A61, c62, rfl, hS60⟩
            have hS : Sat w59 (rf w0) [osl 5 (r0 (.int .u8)) 1 A61 c62 r52.1, osl 5 (r0 (.int .u8)) 1 A42 c43 y48, osl 5 (r0 (.int .u8)) 1 A31 c32 r22.1, osl 5 (r0 (.int .u8)) 1 A20 c21 r11.1] := hS.ext hS60
            refine WR.runk [3, 4, 5, 6, 7] [] [7, 12] (L' := [(7, .slice A20 r11.1.length c21), (12, .slice A61 r52.1.length c62)]) (w' := w59) (by kernel_rfl) ?_
            refine WR.nil ?_
            refine At.go ?_
            refine WC.seq (by kernel_rfl) ?_
            refine WC.reg [0, 1, 2, 3, 4, 5, 6, 7, 8, 9, 10, 11, 12] (by kernel_rfl) (by kernel_rfl) ?_
            refine WR.runk [0] [1, 2, 3, 4, 5, 6, 7, 8, 9, 10, 11, 12] [7, 12, 70] (L' := [(7, .slice A20 r11.1.length c21), (12, .slice A61 r52.1.length c62), (70, .slice A61 r52.1.length c62)]) (w' := w59) (by kernel_rfl) ?_
            refine WR.st (St.ofR (RSt.toStr (src := 22) (dst := 9) (e := 5) (.tmp 70) (by kernel_rfl) (by kernel_rfl) (by kernel_rfl) (by kernel_rfl) (by kernel_rfl) (by kernel_rfl) (Sat.rdAt 0 hS rfl) ?_))
            refine WR.runk [2] [3, 4, 5, 6, 7, 8, 9, 10, 11, 12] [7, 12, 71, 72] (L' := [(7, .slice A20 r11.1.length c21), (12, .slice A61 r52.1.length c62), (71, .string (bs r52.1)), (72, .slice A20 r11.1.length c21)]) (w' := w59) (by kernel_rfl) ?_
            refine WR.st (St.ofR (RSt.toStr (src := 22) (dst := 9) (e := 5) (.tmp 72) (by kernel_rfl) (by kernel_rfl) (by kernel_rfl) (by kernel_rfl) (by kernel_rfl) (by kernel_rfl) (Sat.rdAt 3 hS rfl) ?_))
            refine WR.runk [4, 5] [6, 7, 8, 9, 10, 11, 12] [7, 12, 75] (L' := [(7, .slice A20 r11.1.length c21), (12, .slice A61 r52.1.length c62), (75, .bool (!((bs r52.1).toList == (bs r11.1).toList)))]) (w' := w59) (by kernel_rfl) ?_
            refine WR.split 75 (b := (!((bs r52.1).toList == (bs r11.1).toList))) (by kernel_rfl) (fun hb63 => ?_) (fun hb63 => ?_)
            · replace H := ite_t H hb63
              refine WR.runk [6, 7, 8, 9, 10, 11, 12] [] [6] (L' := [(6, .bool ((r52.1.length : Int) == (r11.1.length : Int)))]) (w' := w59) (by kernel_rfl) ?_
              refine WR.nil ?_
              refine At.go ?_
              refine WC.ret (by kernel_rfl) ?_
              obtain rfl := Option.some.inj H
              have hS : Sat w59 (rf w0) [] := hS.sel [] (by kernel_rfl)
              exact At.body [.bool ((r52.1.length : Int) == (r11.1.length : Int))] (by kernel_rfl) ⟨_, rfl, rfl, hS⟩
            · replace H := ite_f H hb63
              refine WR.runk [6, 7, 8, 9, 10, 11, 12] [] [6] (L' := [(6, .bool false)]) (w' := w59) (by kernel_rfl) ?_
              refine WR.nil ?_
              refine At.go ?_
              refine WC.ret (by kernel_rfl) ?_
              obtain rfl := Option.some.inj H
              have hS : Sat w59 (rf w0) [] := hS.sel [] (by kernel_rfl)
              exact At.body [.bool false] (by kernel_rfl) ⟨_, rfl, rfl, hS⟩
end Go.Proofs.Ytdfoalfnpgeilaa
