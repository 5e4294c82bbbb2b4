/-
  Printed by gen.py (my own tool): for each Go function a plain Lean function and the proof that a call of it does what that function says.
-/
import Derived.Test.YtlkgejhnjbbogaaGP1b
set_option linter.unusedVariables false
set_option linter.unusedSimpArgs false
set_option maxRecDepth 100000
namespace Go.Proofs.Ytlkgejhnjbbogaa
open Go Go.Gol
/-! ### 3 colophon/colophonlaw02.RankFlips -/
def colophonlaw02_RankFlips.l1 (l0 : List Int) : Nat → (List Int) → Int → Option (List Int)
  | 0, _, _ => none
  | k + 1, x5_l1, x17_l1 => (if decide (x17_l1 < (l0.length : Int)) then ((at? l0 x17_l1).bind fun v13 => ((app? 140737488355328 x5_l1 ([IntKind.wrap .u8 (1 - (iand .u8 v13 1))] : List Int)).bind fun y18 => colophonlaw02_RankFlips.l1 l0 k y18 (wi (x17_l1 + 1)))) else some x5_l1)
def colophonlaw02_RankFlips.f (l0 : List Int) (a1 : Int) : Option Bool := (colophonlaw02_first.f.bind fun r1 => (if (!r1) then some false else (if decide ((l0.length : Int) > 2000) then some true else ((colophonlaw02_RankFlips.l1 l0 FU ([] : List Int) 0).bind fun o22 => ((colophonlaw02_Vec.f l0).bind fun r27 => ((colophonlaw02_Vec.f o22).bind fun r37 => ((rank_Vec_Rank.f r27 a1).bind fun r47 => ((rank_Vec_Zeros.f r37 a1).bind fun r56 => (if (r47 == r56) then ((rank_Vec_Zeros.f r27 a1).bind fun r66 => ((rank_Vec_Rank.f r37 a1).bind fun r75 => (if (r66 == r75) then ((rank_Vec_Select.f r27 a1).bind fun r85 => ((rank_Vec_SelectZero.f r37 a1).bind fun r94 => (if (r85 == r94) then ((rank_Vec_SelectZero.f r27 a1).bind fun r104 => ((rank_Vec_Select.f r37 a1).bind fun r113 => (if (r104 == r113) then ((rank_Vec_Ones.f r27).bind fun r123 => ((rank_Vec_Ones.f r37).bind fun r132 => some ((wi (r123 + r132)) == (l0.length : Int)))) else some false))) else some false))) else some false))) else some false)))))))))
def colophonlaw02_RankFlips.post (w : World) (r : Bool) (v : Value) (w' : World) : Prop := v = (.bool r : Value) ∧ Sat w' (rf w) []
theorem colophonlaw02_RankFlips.l1_ok {Q} (w0 : World) (A0 : Option Addr) (c0 : Nat) (l0 : List Int) (a1 : Int) (R0 : rdS (r0 (.int .u8)) 1 (hp w0) A0 c0 l0) (out : (List Int)) (hn0 : ∀ (A5_q : Option Addr) (c5_q : Nat) (w : World), Sat w (rf w0) [osl 5 (r0 (.int .u8)) 1 A5_q c5_q out] → At Q (.exit 0) 76 [(0, .slice A0 l0.length c0), (1, .int .i64 a1), (5, .slice A5_q out.length c5_q)] w) :
    ∀ (k : Nat) (x5_l1 : List Int) (x17_l1 : Int) (A5_l1 : Option Addr) (c5_l1 : Nat) (w : World), Sat w (rf w0) [osl 5 (r0 (.int .u8)) 1 A5_l1 c5_l1 x5_l1] → colophonlaw02_RankFlips.l1 l0 k x5_l1 x17_l1 = some out → WL Try.prog (cbody (cbody (cr (cl (cr (cr (cr (cr C3)))))))) Q 76 [(0, .slice A0 l0.length c0), (1, .int .i64 a1), (5, .slice A5_l1 x5_l1.length c5_l1), (15, .slice A0 l0.length c0), (16, .int .i64 (l0.length : Int)), (17, .int .i64 x17_l1)] w := by
  intro k
  induction k with
  | zero => intro x5_l1 x17_l1 A5_l1 c5_l1 w hS H; exact absurd (show none = some out from H) (by simp)
  | succ k ih =>
    intro x5_l1 x17_l1 A5_l1 c5_l1 w hS H
    unfold colophonlaw02_RankFlips.l1 at H
    refine WL.round ?_
    refine WC.seq (by kernel_rfl) ?_
    refine WC.reg [0] (by kernel_rfl) (by kernel_rfl) ?_
    refine WR.runk [0] [] [0, 1, 5, 15, 16, 17, 18] (L' := [(0, .slice A0 l0.length c0), (1, .int .i64 a1), (5, .slice A5_l1 x5_l1.length c5_l1), (15, .slice A0 l0.length c0), (16, .int .i64 (l0.length : Int)), (17, .int .i64 x17_l1), (18, .bool (decide (x17_l1 < (l0.length : Int))))]) (w' := w) (by kernel_rfl) ?_
    refine WR.nil ?_
    refine At.go ?_
    refine WC.seq (by kernel_rfl) ?_
    refine WC.cond (by kernel_rfl) (decide (x17_l1 < (l0.length : Int))) (by kernel_rfl) (by kernel_rfl) (fun hb12 => ?_) (fun hb12 => ?_)
    · replace H := ite_t H hb12
      refine WC.skip (by kernel_rfl) ?_
      refine At.go ?_
      refine WC.seq (by kernel_rfl) ?_
      refine WC.block (by kernel_rfl) ?_
      refine WC.seq (by kernel_rfl) ?_
      refine WC.reg [0, 1, 2] (by kernel_rfl) (by kernel_rfl) ?_
      refine WR.runk [] [0, 1, 2] [0, 1, 5, 15, 16, 17] (L' := [(0, .slice A0 l0.length c0), (1, .int .i64 a1), (5, .slice A5_l1 x5_l1.length c5_l1), (15, .slice A0 l0.length c0), (16, .int .i64 (l0.length : Int)), (17, .int .i64 x17_l1)]) (w' := w) (by kernel_rfl) ?_
      obtain ⟨v13, e14, H⟩ := bind_ex H
      refine WR.st (St.ofP (PSt.idx (k := .i64) (.tmp 15) (.tmp 17) (by kernel_rfl) (by kernel_rfl) E22 (by kernel_rfl) (by kernel_rfl) (rdS.up R0 hS.sub0) e14 ?_))
      refine WR.runk [] [1, 2] [0, 1, 5, 15, 16, 17, 19] (L' := [(0, .slice A0 l0.length c0), (1, .int .i64 a1), (5, .slice A5_l1 x5_l1.length c5_l1), (15, .slice A0 l0.length c0), (16, .int .i64 (l0.length : Int)), (17, .int .i64 x17_l1), (19, .pointer (some (adr A0 x17_l1.toNat 1)))]) (w' := w) (by kernel_rfl) ?_
      refine WR.st (St.ofR (RSt.loadInt (t := 5) (.tmp 19) (by kernel_rfl) (by kernel_rfl) (by kernel_rfl) (by kernel_rfl) (rdS.up R0 hS.sub0) e14 ?_))
      refine WR.runk [2] [] [0, 1, 5, 7, 15, 16, 17] (L' := [(0, .slice A0 l0.length c0), (1, .int .i64 a1), (5, .slice A5_l1 x5_l1.length c5_l1), (7, .int .u8 v13), (15, .slice A0 l0.length c0), (16, .int .i64 (l0.length : Int)), (17, .int .i64 x17_l1)]) (w' := w) (by kernel_rfl) ?_
      refine WR.nil ?_
      refine At.go ?_
      refine WC.reg [0, 1, 2, 3, 4, 5, 6] (by kernel_rfl) (by kernel_rfl) ?_
      refine WR.runk [0, 1, 2, 3] [4, 5, 6] [0, 1, 5, 15, 16, 17, 21, 24] (L' := [(0, .slice A0 l0.length c0), (1, .int .i64 a1), (5, .slice A5_l1 x5_l1.length c5_l1), (15, .slice A0 l0.length c0), (16, .int .i64 (l0.length : Int)), (17, .int .i64 x17_l1), (21, .slice A5_l1 x5_l1.length c5_l1), (24, .int .u8 (IntKind.wrap .u8 (1 - (iand .u8 v13 1))))]) (w' := w) (by kernel_rfl) ?_
      refine WR.st (St.box hS (by kernel_rfl) (.cells #[.int .u8 (IntKind.wrap .u8 (1 - (iand .u8 v13 1)))] 5) (fun b15 => .slice (some ⟨b15, 0, none⟩) 1 1) (fun _ => by kernel_rfl) (fun b15 w16 hS => ?_))
      refine WR.runk [] [5, 6] [0, 1, 5, 15, 16, 17, 21, 25] (L' := [(0, .slice A0 l0.length c0), (1, .int .i64 a1), (5, .slice A5_l1 x5_l1.length c5_l1), (15, .slice A0 l0.length c0), (16, .int .i64 (l0.length : Int)), (17, .int .i64 x17_l1), (21, .slice A5_l1 x5_l1.length c5_l1), (25, .slice (some ⟨b15, 0, none⟩) 1 1)]) (w' := w16) (by kernel_rfl) ?_
      have hS : Sat w16 (rf w0) [osl 5 (r0 (.int .u8)) 1 A5_l1 c5_l1 x5_l1, pts b15 (.cells #[.int .u8 (IntKind.wrap .u8 (1 - (iand .u8 v13 1)))] 5 (0, 0))] := hS.sel [1, 0] (by kernel_rfl)
      obtain ⟨y18, e17, H⟩ := bind_ex H
      refine WR.st (St.append' (.tmp 21) (.tmp 25) (by kernel_rfl) (by kernel_rfl) E22 (r0_one _) hS (by kernel_rfl) (by kernel_rfl) (Sat.ptsAt 1 (r0 (.int .u8)) 1 ([IntKind.wrap .u8 (1 - (iand .u8 v13 1))] : List Int) hS rfl rfl (rdL.cons1 rfl (rdL.nil _ _))) 140737488355328 (by kernel_rfl) (by kernel_rfl) e17 (fun A19 c20 w21 hS => ?_))
      refine WR.runk [6] [] [0, 1, 5, 15, 16, 17] (L' := [(0, .slice A0 l0.length c0), (1, .int .i64 a1), (5, .slice A19 y18.length c20), (15, .slice A0 l0.length c0), (16, .int .i64 (l0.length : Int)), (17, .int .i64 x17_l1)]) (w' := w21) (by kernel_rfl) ?_
      refine WR.nil ?_
      refine At.blockNormal ?_
      refine At.go ?_
      refine WC.reg [0, 1] (by kernel_rfl) (by kernel_rfl) ?_
      refine WR.runk [0, 1] [] [0, 1, 5, 15, 16, 17] (L' := [(0, .slice A0 l0.length c0), (1, .int .i64 a1), (5, .slice A19 y18.length c20), (15, .slice A0 l0.length c0), (16, .int .i64 (l0.length : Int)), (17, .int .i64 (wi (x17_l1 + 1)))]) (w' := w21) (by kernel_rfl) ?_
      refine WR.nil ?_
      have hS : Sat w21 (rf w0) [osl 5 (r0 (.int .u8)) 1 A19 c20 y18] := hS.sel [0] (by kernel_rfl)
      refine At.again ?_
      refine WL.weaken [0, 1, 5, 15, 16, 17] (L' := [(0, .slice A0 l0.length c0), (1, .int .i64 a1), (5, .slice A19 y18.length c20), (15, .slice A0 l0.length c0), (16, .int .i64 (l0.length : Int)), (17, .int .i64 (wi (x17_l1 + 1)))]) (by kernel_rfl) ?_
      exact ih y18 (wi (x17_l1 + 1)) A19 c20 _ hS H
    · replace H := ite_f H hb12
      refine WC.exit (by kernel_rfl) ?_
      refine At.thenExit ?_
      refine At.thenExit ?_
      obtain rfl := Option.some.inj H
      have hS : Sat w (rf w0) [osl 5 (r0 (.int .u8)) 1 A5_l1 c5_l1 x5_l1] := hS.sel [0] (by kernel_rfl)
      refine At.weaken [0, 1, 5] (L' := [(0, .slice A0 l0.length c0), (1, .int .i64 a1), (5, .slice A5_l1 x5_l1.length c5_l1)]) (by kernel_rfl) ?_
      exact hn0 A5_l1 c5_l1 _ hS
theorem colophonlaw02_RankFlips.calls (w0 : World) (A0 : Option Addr) (c0 : Nat) (l0 : List Int) (R0 : rdS (r0 (.int .u8)) 1 (hp w0) A0 c0 l0) (a1 : Int) (r : Bool) (H : colophonlaw02_RankFlips.f l0 a1 = some r) :
    Calls Try.prog 3 #[.slice A0 l0.length c0, .int .i64 a1] w0 (fun e w' => ∃ v, e = .returned v ∧ colophonlaw02_RankFlips.post w0 r v w') := by
  have hS : Sat w0 (rf w0) [] := Sat.start w0
  unfold colophonlaw02_RankFlips.f at H
  refine calls_of_WC (vs := [.slice A0 l0.length c0, .int .i64 a1]) Try.func3 (c := C3) (n := 76) (by kernel_rfl) (by kernel_rfl) (by kernel_rfl) ?_
  refine WC.seq (by kernel_rfl) ?_
  refine WC.reg [0] (by kernel_rfl) (by kernel_rfl) ?_
  refine WR.runk [0] [] [0, 1] (L' := [(0, .slice A0 l0.length c0), (1, .int .i64 a1)]) (w' := w0) (by kernel_rfl) ?_
  refine WR.nil ?_
  refine At.go ?_
  refine WC.seq (by kernel_rfl) ?_
  refine WC.seq (by kernel_rfl) ?_
  refine WC.reg [0, 1] (by kernel_rfl) (by kernel_rfl) ?_
  obtain ⟨r1, e2, H⟩ := bind_ex H
  refine WR.st (St.call (by kernel_rfl) (f := 9) (args := #[]) (by kernel_rfl) (colophonlaw02_first.calls w0  r1 e2) ?_)
  rintro _ w8 ⟨rfl, hS9⟩
  have hS : Sat w8 (rf w0) [] := hS.ext hS9
  refine WR.runk [1] [] [0, 1, 11] (L' := [(0, .slice A0 l0.length c0), (1, .int .i64 a1), (11, .bool (!r1))]) (w' := w8) (by kernel_rfl) ?_
  refine WR.nil ?_
  refine At.go ?_
  refine WC.cond (by kernel_rfl) (!r1) (by kernel_rfl) (by kernel_rfl) (fun hb10 => ?_) (fun hb10 => ?_)
  · replace H := ite_t H hb10
    refine WC.seq (by kernel_rfl) ?_
    refine WC.reg [0] (by kernel_rfl) (by kernel_rfl) ?_
    refine WR.runk [0] [] [4] (L' := [(4, .bool false)]) (w' := w8) (by kernel_rfl) ?_
    refine WR.nil ?_
    refine At.go ?_
    refine WC.ret (by kernel_rfl) ?_
    refine At.thenRet ?_
    obtain rfl := Option.some.inj H
    have hS : Sat w8 (rf w0) [] := hS.sel [] (by kernel_rfl)
    exact At.body [.bool false] (by kernel_rfl) ⟨_, rfl, rfl, hS⟩
  · replace H := ite_f H hb10
    refine WC.skip (by kernel_rfl) ?_
    refine At.go ?_
    refine WC.seq (by kernel_rfl) ?_
    refine WC.seq (by kernel_rfl) ?_
    refine WC.reg [0, 1, 2] (by kernel_rfl) (by kernel_rfl) ?_
    refine WR.runk [0, 1, 2] [] [0, 1, 14] (L' := [(0, .slice A0 l0.length c0), (1, .int .i64 a1), (14, .bool (decide ((l0.length : Int) > 2000)))]) (w' := w8) (by kernel_rfl) ?_
    refine WR.nil ?_
    refine At.go ?_
    refine WC.cond (by kernel_rfl) (decide ((l0.length : Int) > 2000)) (by kernel_rfl) (by kernel_rfl) (fun hb11 => ?_) (fun hb11 => ?_)
    · replace H := ite_t H hb11
      refine WC.seq (by kernel_rfl) ?_
      refine WC.reg [0] (by kernel_rfl) (by kernel_rfl) ?_
      refine WR.runk [0] [] [4] (L' := [(4, .bool true)]) (w' := w8) (by kernel_rfl) ?_
      refine WR.nil ?_
      refine At.go ?_
      refine WC.ret (by kernel_rfl) ?_
      refine At.thenRet ?_
      obtain rfl := Option.some.inj H
      have hS : Sat w8 (rf w0) [] := hS.sel [] (by kernel_rfl)
      exact At.body [.bool true] (by kernel_rfl) ⟨_, rfl, rfl, hS⟩
    · replace H := ite_f H hb11
      refine WC.skip (by kernel_rfl) ?_
      refine At.go ?_
      refine WC.seq (by kernel_rfl) ?_
      refine WC.reg [0] (by kernel_rfl) (by kernel_rfl) ?_
      refine WR.runk [0] [] [0, 1, 5] (L' := [(0, .slice A0 l0.length c0), (1, .int .i64 a1), (5, .slice none 0 0)]) (w' := w8) (by kernel_rfl) ?_
      refine WR.nil ?_
      refine At.go ?_
      refine WC.seq (by kernel_rfl) ?_
      refine WC.seq (by kernel_rfl) ?_
      refine WC.reg [0, 1, 2] (by kernel_rfl) (by kernel_rfl) ?_
      refine WR.runk [0, 1, 2] [] [0, 1, 5, 15, 16, 17] (L' := [(0, .slice A0 l0.length c0), (1, .int .i64 a1), (5, .slice none 0 0), (15, .slice A0 l0.length c0), (16, .int .i64 (l0.length : Int)), (17, .int .i64 0)]) (w' := w8) (by kernel_rfl) ?_
      refine WR.nil ?_
      refine At.go ?_
      refine WC.block (by kernel_rfl) ?_
      have hS := hS.addNil (α := Int) 5 (r0 (.int .u8)) 1
      have hS : Sat w8 (rf w0) [osl 5 (r0 (.int .u8)) 1 none 0 ([] : List Int)] := hS.sel [0] (by kernel_rfl)
      obtain ⟨o22, e23, H⟩ := bind_ex H
      refine WC.loop (by kernel_rfl) ?_
      refine WL.weaken [0, 1, 5, 15, 16, 17] (L' := [(0, .slice A0 l0.length c0), (1, .int .i64 a1), (5, .slice none 0 0), (15, .slice A0 l0.length c0), (16, .int .i64 (l0.length : Int)), (17, .int .i64 0)]) (by kernel_rfl) ?_
      refine colophonlaw02_RankFlips.l1_ok w0 A0 c0 l0 a1 R0 o22 (fun A5_q24 c5_q24 w25 hS => ?_) FU ([] : List Int) 0 none 0 _ hS e23
      refine At.hit ?_
      refine At.go ?_
      refine WC.seq (by kernel_rfl) ?_
      refine WC.reg [0, 1, 2, 3, 4, 5] (by kernel_rfl) (by kernel_rfl) ?_
      refine WR.runk [0] [1, 2, 3, 4, 5] [0, 1, 5, 28] (L' := [(0, .slice A0 l0.length c0), (1, .int .i64 a1), (5, .slice A5_q24 o22.length c5_q24), (28, .slice A0 l0.length c0)]) (w' := w25) (by kernel_rfl) ?_
      obtain ⟨r27, e28, H⟩ := bind_ex H
      refine WR.st (St.call (by kernel_rfl) (f := 10) (args := #[.slice A0 l0.length c0]) (by kernel_rfl) (colophonlaw02_Vec.calls w25 A0 c0 l0 (rdS.up R0 hS.sub0) r27 e28) ?_)
      rintro pv36 w34 ⟨_, rfl, hS35⟩
      have hS : Sat w34 (rf w0) [optP O47 pv36 r27, osl 5 (r0 (.int .u8)) 1 A5_q24 c5_q24 o22] := hS.ext hS35
      refine WR.runk [2] [3, 4, 5] [0, 1, 29, 30] (L' := [(0, .slice A0 l0.length c0), (1, .int .i64 a1), (29, pv36), (30, .slice A5_q24 o22.length c5_q24)]) (w' := w34) (by kernel_rfl) ?_
      obtain ⟨r37, e38, H⟩ := bind_ex H
      refine WR.st (St.call (by kernel_rfl) (f := 10) (args := #[.slice A5_q24 o22.length c5_q24]) (by kernel_rfl) (colophonlaw02_Vec.calls w34 A5_q24 c5_q24 o22 (Sat.rdAt 1 hS rfl) r37 e38) ?_)
      rintro pv46 w44 ⟨_, rfl, hS45⟩
      have hS : Sat w44 (rf w0) [optP O47 pv46 r37, optP O47 pv36 r27, osl 5 (r0 (.int .u8)) 1 A5_q24 c5_q24 o22] := hS.ext hS45
      refine WR.runk [4, 5] [] [0, 1, 8, 9] (L' := [(0, .slice A0 l0.length c0), (1, .int .i64 a1), (8, pv36), (9, pv46)]) (w' := w44) (by kernel_rfl) ?_
      refine WR.nil ?_
      refine At.go ?_
      refine WC.seq (by kernel_rfl) ?_
      refine WC.reg [0, 1, 2, 3, 4, 5, 6, 7, 8, 9, 10, 11, 12, 13, 14, 15, 16, 17, 18, 19, 20, 21, 22, 23, 24, 25, 26, 27, 28, 29, 30, 31, 32, 33, 34, 35, 36, 37, 38, 39, 40, 41, 42, 43, 44] (by kernel_rfl) (by kernel_rfl) ?_
      refine WR.runk [0, 1] [2, 3, 4, 5, 6, 7, 8, 9, 10, 11, 12, 13, 14, 15, 16, 17, 18, 19, 20, 21, 22, 23, 24, 25, 26, 27, 28, 29, 30, 31, 32, 33, 34, 35, 36, 37, 38, 39, 40, 41, 42, 43, 44] [0, 1, 8, 9, 32, 33] (L' := [(0, .slice A0 l0.length c0), (1, .int .i64 a1), (8, pv36), (9, pv46), (32, pv36), (33, .int .i64 a1)]) (w' := w44) (by kernel_rfl) ?_
      obtain ⟨r47, e48, H⟩ := bind_ex H
      refine WR.st (St.call (by kernel_rfl) (f := 11) (args := #[pv36, .int .i64 a1]) (by kernel_rfl) (rank_Vec_Rank.calls w44 (pv36) r27 (Sat.rdAny 1 hS rfl (fun _ h => optP.rdd (t := 47) (κ := (.pair (.int .i64) (.pair (.slice 40 (.int .u64)) (.pair (.slice 3 (.int .i64)) (.int .i64))))) (O := O47) O47.rd h)) a1 r47 e48) ?_)
      rintro _ w54 ⟨rfl, hS55⟩
      have hS : Sat w54 (rf w0) [optP O47 pv46 r37, optP O47 pv36 r27, osl 5 (r0 (.int .u8)) 1 A5_q24 c5_q24 o22] := hS.ext hS55
      refine WR.runk [3, 4] [5, 6, 7, 8, 9, 10, 11, 12, 13, 14, 15, 16, 17, 18, 19, 20, 21, 22, 23, 24, 25, 26, 27, 28, 29, 30, 31, 32, 33, 34, 35, 36, 37, 38, 39, 40, 41, 42, 43, 44] [0, 1, 8, 9, 34, 35, 36] (L' := [(0, .slice A0 l0.length c0), (1, .int .i64 a1), (8, pv36), (9, pv46), (34, .int .i64 r47), (35, pv46), (36, .int .i64 a1)]) (w' := w54) (by kernel_rfl) ?_
      obtain ⟨r56, e57, H⟩ := bind_ex H
      refine WR.st (St.call (by kernel_rfl) (f := 12) (args := #[pv46, .int .i64 a1]) (by kernel_rfl) (rank_Vec_Zeros.calls w54 (pv46) r37 (Sat.rdAny 0 hS rfl (fun _ h => optP.rdd (t := 47) (κ := (.pair (.int .i64) (.pair (.slice 40 (.int .u64)) (.pair (.slice 3 (.int .i64)) (.int .i64))))) (O := O47) O47.rd h)) a1 r56 e57) ?_)
      rintro _ w63 ⟨rfl, hS64⟩
      have hS : Sat w63 (rf w0) [optP O47 pv46 r37, optP O47 pv36 r27, osl 5 (r0 (.int .u8)) 1 A5_q24 c5_q24 o22] := hS.ext hS64
      refine WR.runk [6, 7] [8, 9, 10, 11, 12, 13, 14, 15, 16, 17, 18, 19, 20, 21, 22, 23, 24, 25, 26, 27, 28, 29, 30, 31, 32, 33, 34, 35, 36, 37, 38, 39, 40, 41, 42, 43, 44] [0, 1, 8, 9, 39] (L' := [(0, .slice A0 l0.length c0), (1, .int .i64 a1), (8, pv36), (9, pv46), (39, .bool (r47 == r56))]) (w' := w63) (by kernel_rfl) ?_
      refine WR.split 39 (b := (r47 == r56)) (by kernel_rfl) (fun hb65 => ?_) (fun hb65 => ?_)
      · replace H := ite_t H hb65
        refine WR.runk [8, 9] [10, 11, 12, 13, 14, 15, 16, 17, 18, 19, 20, 21, 22, 23, 24, 25, 26, 27, 28, 29, 30, 31, 32, 33, 34, 35, 36, 37, 38, 39, 40, 41, 42, 43, 44] [0, 1, 8, 9, 39, 40, 41] (L' := [(0, .slice A0 l0.length c0), (1, .int .i64 a1), (8, pv36), (9, pv46), (39, .bool true), (40, pv36), (41, .int .i64 a1)]) (w' := w63) (by kernel_rfl) ?_
        obtain ⟨r66, e67, H⟩ := bind_ex H
        refine WR.st (St.call (by kernel_rfl) (f := 12) (args := #[pv36, .int .i64 a1]) (by kernel_rfl) (rank_Vec_Zeros.calls w63 (pv36) r27 (Sat.rdAny 1 hS rfl (fun _ h => optP.rdd (t := 47) (κ := (.pair (.int .i64) (.pair (.slice 40 (.int .u64)) (.pair (.slice 3 (.int .i64)) (.int .i64))))) (O := O47) O47.rd h)) a1 r66 e67) ?_)
        rintro _ w73 ⟨rfl, hS74⟩
        have hS : Sat w73 (rf w0) [optP O47 pv46 r37, optP O47 pv36 r27, osl 5 (r0 (.int .u8)) 1 A5_q24 c5_q24 o22] := hS.ext hS74
        refine WR.runk [11, 12] [13, 14, 15, 16, 17, 18, 19, 20, 21, 22, 23, 24, 25, 26, 27, 28, 29, 30, 31, 32, 33, 34, 35, 36, 37, 38, 39, 40, 41, 42, 43, 44] [0, 1, 8, 9, 39, 42, 43, 44] (L' := [(0, .slice A0 l0.length c0), (1, .int .i64 a1), (8, pv36), (9, pv46), (39, .bool true), (42, .int .i64 r66), (43, pv46), (44, .int .i64 a1)]) (w' := w73) (by kernel_rfl) ?_
        obtain ⟨r75, e76, H⟩ := bind_ex H
        refine WR.st (St.call (by kernel_rfl) (f := 11) (args := #[pv46, .int .i64 a1]) (by kernel_rfl) (rank_Vec_Rank.calls w73 (pv46) r37 (Sat.rdAny 0 hS rfl (fun _ h => optP.rdd (t := 47) (κ := (.pair (.int .i64) (.pair (.slice 40 (.int .u64)) (.pair (.slice 3 (.int .i64)) (.int .i64))))) (O := O47) O47.rd h)) a1 r75 e76) ?_)
        rintro _ w82 ⟨rfl, hS83⟩
        have hS : Sat w82 (rf w0) [optP O47 pv46 r37, optP O47 pv36 r27, osl 5 (r0 (.int .u8)) 1 A5_q24 c5_q24 o22] := hS.ext hS83
        refine WR.runk [14, 15, 16] [17, 18, 19, 20, 21, 22, 23, 24, 25, 26, 27, 28, 29, 30, 31, 32, 33, 34, 35, 36, 37, 38, 39, 40, 41, 42, 43, 44] [0, 1, 8, 9, 48] (L' := [(0, .slice A0 l0.length c0), (1, .int .i64 a1), (8, pv36), (9, pv46), (48, .bool (r66 == r75))]) (w' := w82) (by kernel_rfl) ?_
        refine WR.split 48 (b := (r66 == r75)) (by kernel_rfl) (fun hb84 => ?_) (fun hb84 => ?_)
        · replace H := ite_t H hb84
          refine WR.runk [17, 18] [19, 20, 21, 22, 23, 24, 25, 26, 27, 28, 29, 30, 31, 32, 33, 34, 35, 36, 37, 38, 39, 40, 41, 42, 43, 44] [0, 1, 8, 9, 48, 49, 50] (L' := [(0, .slice A0 l0.length c0), (1, .int .i64 a1), (8, pv36), (9, pv46), (48, .bool true), (49, pv36), (50, .int .i64 a1)]) (w' := w82) (by kernel_rfl) ?_
          obtain ⟨r85, e86, H⟩ := bind_ex H
          refine WR.st (St.call (by kernel_rfl) (f := 13) (args := #[pv36, .int .i64 a1]) (by kernel_rfl) (rank_Vec_Select.calls w82 (pv36) r27 (Sat.rdAny 1 hS rfl (fun _ h => optP.rdd (t := 47) (κ := (.pair (.int .i64) (.pair (.slice 40 (.int .u64)) (.pair (.slice 3 (.int .i64)) (.int .i64))))) (O := O47) O47.rd h)) a1 r85 e86) ?_)
          rintro _ w92 ⟨rfl, hS93⟩
          have hS : Sat w92 (rf w0) [optP O47 pv46 r37, optP O47 pv36 r27, osl 5 (r0 (.int .u8)) 1 A5_q24 c5_q24 o22] := hS.ext hS93
          refine WR.runk [20, 21] [22, 23, 24, 25, 26, 27, 28, 29, 30, 31, 32, 33, 34, 35, 36, 37, 38, 39, 40, 41, 42, 43, 44] [0, 1, 8, 9, 48, 51, 52, 53] (L' := [(0, .slice A0 l0.length c0), (1, .int .i64 a1), (8, pv36), (9, pv46), (48, .bool true), (51, .int .i64 r85), (52, pv46), (53, .int .i64 a1)]) (w' := w92) (by kernel_rfl) ?_
          obtain ⟨r94, e95, H⟩ := bind_ex H
          refine WR.st (St.call (by kernel_rfl) (f := 14) (args := #[pv46, .int .i64 a1]) (by kernel_rfl) (rank_Vec_SelectZero.calls w92 (pv46) r37 (Sat.rdAny 0 hS rfl (fun _ h => optP.rdd (t := 47) (κ := (.pair (.int .i64) (.pair (.slice 40 (.int .u64)) (.pair (.slice 3 (.int .i64)) (.int .i64))))) (O := O47) O47.rd h)) a1 r94 e95) ?_)
          rintro _ w101 ⟨rfl, hS102⟩
          have hS : Sat w101 (rf w0) [optP O47 pv46 r37, optP O47 pv36 r27, osl 5 (r0 (.int .u8)) 1 A5_q24 c5_q24 o22] := hS.ext hS102
          refine WR.runk [23, 24, 25] [26, 27, 28, 29, 30, 31, 32, 33, 34, 35, 36, 37, 38, 39, 40, 41, 42, 43, 44] [0, 1, 8, 9, 57] (L' := [(0, .slice A0 l0.length c0), (1, .int .i64 a1), (8, pv36), (9, pv46), (57, .bool (r85 == r94))]) (w' := w101) (by kernel_rfl) ?_
          refine WR.split 57 (b := (r85 == r94)) (by kernel_rfl) (fun hb103 => ?_) (fun hb103 => ?_)
          · replace H := ite_t H hb103
            refine WR.runk [26, 27] [28, 29, 30, 31, 32, 33, 34, 35, 36, 37, 38, 39, 40, 41, 42, 43, 44] [0, 1, 8, 9, 57, 58, 59] (L' := [(0, .slice A0 l0.length c0), (1, .int .i64 a1), (8, pv36), (9, pv46), (57, .bool true), (58, pv36), (59, .int .i64 a1)]) (w' := w101) (by kernel_rfl) ?_
            obtain ⟨r104, e105, H⟩ := bind_ex H
            refine WR.st (St.call (by kernel_rfl) (f := 14) (args := #[pv36, .int .i64 a1]) (by kernel_rfl) (rank_Vec_SelectZero.calls w101 (pv36) r27 (Sat.rdAny 1 hS rfl (fun _ h => optP.rdd (t := 47) (κ := (.pair (.int .i64) (.pair (.slice 40 (.int .u64)) (.pair (.slice 3 (.int .i64)) (.int .i64))))) (O := O47) O47.rd h)) a1 r104 e105) ?_)
            rintro _ w111 ⟨rfl, hS112⟩
            have hS : Sat w111 (rf w0) [optP O47 pv46 r37, optP O47 pv36 r27, osl 5 (r0 (.int .u8)) 1 A5_q24 c5_q24 o22] := hS.ext hS112
            refine WR.runk [29, 30] [31, 32, 33, 34, 35, 36, 37, 38, 39, 40, 41, 42, 43, 44] [0, 8, 9, 57, 60, 61, 62] (L' := [(0, .slice A0 l0.length c0), (8, pv36), (9, pv46), (57, .bool true), (60, .int .i64 r104), (61, pv46), (62, .int .i64 a1)]) (w' := w111) (by kernel_rfl) ?_
            obtain ⟨r113, e114, H⟩ := bind_ex H
            refine WR.st (St.call (by kernel_rfl) (f := 13) (args := #[pv46, .int .i64 a1]) (by kernel_rfl) (rank_Vec_Select.calls w111 (pv46) r37 (Sat.rdAny 0 hS rfl (fun _ h => optP.rdd (t := 47) (κ := (.pair (.int .i64) (.pair (.slice 40 (.int .u64)) (.pair (.slice 3 (.int .i64)) (.int .i64))))) (O := O47) O47.rd h)) a1 r113 e114) ?_)
            rintro _ w120 ⟨rfl, hS121⟩
            have hS : Sat w120 (rf w0) [optP O47 pv46 r37, optP O47 pv36 r27, osl 5 (r0 (.int .u8)) 1 A5_q24 c5_q24 o22] := hS.ext hS121
            refine WR.runk [32, 33, 34] [35, 36, 37, 38, 39, 40, 41, 42, 43, 44] [0, 8, 9, 66] (L' := [(0, .slice A0 l0.length c0), (8, pv36), (9, pv46), (66, .bool (r104 == r113))]) (w' := w120) (by kernel_rfl) ?_
            refine WR.split 66 (b := (r104 == r113)) (by kernel_rfl) (fun hb122 => ?_) (fun hb122 => ?_)
            · replace H := ite_t H hb122
              refine WR.runk [35] [36, 37, 38, 39, 40, 41, 42, 43, 44] [0, 9, 66, 67] (L' := [(0, .slice A0 l0.length c0), (9, pv46), (66, .bool true), (67, pv36)]) (w' := w120) (by kernel_rfl) ?_
              obtain ⟨r123, e124, H⟩ := bind_ex H
              refine WR.st (St.call (by kernel_rfl) (f := 15) (args := #[pv36]) (by kernel_rfl) (rank_Vec_Ones.calls w120 (pv36) r27 (Sat.rdAny 1 hS rfl (fun _ h => optP.rdd (t := 47) (κ := (.pair (.int .i64) (.pair (.slice 40 (.int .u64)) (.pair (.slice 3 (.int .i64)) (.int .i64))))) (O := O47) O47.rd h)) r123 e124) ?_)
              rintro _ w130 ⟨rfl, hS131⟩
              have hS : Sat w130 (rf w0) [optP O47 pv46 r37, optP O47 pv36 r27, osl 5 (r0 (.int .u8)) 1 A5_q24 c5_q24 o22] := hS.ext hS131
              refine WR.runk [37] [38, 39, 40, 41, 42, 43, 44] [0, 66, 68, 69] (L' := [(0, .slice A0 l0.length c0), (66, .bool true), (68, .int .i64 r123), (69, pv46)]) (w' := w130) (by kernel_rfl) ?_
              obtain ⟨r132, e133, H⟩ := bind_ex H
              refine WR.st (St.call (by kernel_rfl) (f := 15) (args := #[pv46]) (by kernel_rfl) (rank_Vec_Ones.calls w130 (pv46) r37 (Sat.rdAny 0 hS rfl (fun _ h => optP.rdd (t := 47) (κ := (.pair (.int .i64) (.pair (.slice 40 (.int .u64)) (.pair (.slice 3 (.int .i64)) (.int .i64))))) (O := O47) O47.rd h)) r132 e133) ?_)
              rintro _ w139 ⟨rfl, hS140⟩
              have hS : Sat w139 (rf w0) [optP O47 pv46 r37, optP O47 pv36 r27, osl 5 (r0 (.int .u8)) 1 A5_q24 c5_q24 o22] := hS.ext hS140
              refine WR.runk [39, 40, 41, 42, 43, 44] [] [4] (L' := [(4, .bool ((wi (r123 + r132)) == (l0.length : Int)))]) (w' := w139) (by kernel_rfl) ?_
              refine WR.nil ?_
              refine At.go ?_
              refine WC.ret (by kernel_rfl) ?_
              obtain rfl := Option.some.inj H
              have hS : Sat w139 (rf w0) [] := hS.sel [] (by kernel_rfl)
              exact At.body [.bool ((wi (r123 + r132)) == (l0.length : Int))] (by kernel_rfl) ⟨_, rfl, rfl, hS⟩
            · replace H := ite_f H hb122
              refine WR.runk [35, 36, 37, 38, 39, 40, 41, 42, 43, 44] [] [4] (L' := [(4, .bool false)]) (w' := w120) (by kernel_rfl) ?_
              refine WR.nil ?_
              refine At.go ?_
              refine WC.ret (by kernel_rfl) ?_
              obtain rfl := Option.some.inj H
              have hS : Sat w120 (rf w0) [] := hS.sel [] (by kernel_rfl)
              exact At.body [.bool false] (by kernel_rfl) ⟨_, rfl, rfl, hS⟩
          · replace H := ite_f H hb103
            refine WR.runk [26, 27, 28, 29, 30, 31, 32, 33, 34, 35, 36, 37, 38, 39, 40, 41, 42, 43, 44] [] [4] (L' := [(4, .bool false)]) (w' := w101) (by kernel_rfl) ?_
            refine WR.nil ?_
            refine At.go ?_
            refine WC.ret (by kernel_rfl) ?_
            obtain rfl := Option.some.inj H
            have hS : Sat w101 (rf w0) [] := hS.sel [] (by kernel_rfl)
            exact At.body [.bool false] (by kernel_rfl) ⟨_, rfl, rfl, hS⟩
        · replace H := ite_f H hb84
          refine WR.runk [17, 18, 19, 20, 21, 22, 23, 24, 25, 26, 27, 28, 29, 30, 31, 32, 33, 34, 35, 36, 37, 38, 39, 40, 41, 42, 43, 44] [] [4] (L' := [(4, .bool false)]) (w' := w82) (by kernel_rfl) ?_
          refine WR.nil ?_
          refine At.go ?_
          refine WC.ret (by kernel_rfl) ?_
          obtain rfl := Option.some.inj H
          have hS : Sat w82 (rf w0) [] := hS.sel [] (by kernel_rfl)
          exact At.body [.bool false] (by kernel_rfl) ⟨_, rfl, rfl, hS⟩
      · replace H := ite_f H hb65
        refine WR.runk [8, 9, 10, 11, 12, 13, 14, 15, 16, 17, 18, 19, 20, 21, 22, 23, 24, 25, 26, 27, 28, 29, 30, 31, 32, 33, 34, 35, 36, 37, 38, 39, 40, 41, 42, 43, 44] [] [4] (L' := [(4, .bool false)]) (w' := w63) (by kernel_rfl) ?_
        refine WR.nil ?_
        refine At.go ?_
        refine WC.ret (by kernel_rfl) ?_
        obtain rfl := Option.some.inj H
        have hS : Sat w63 (rf w0) [] := hS.sel [] (by kernel_rfl)
        exact At.body [.bool false] (by kernel_rfl) ⟨_, rfl, rfl, hS⟩
end Go.Proofs.Ytlkgejhnjbbogaa
