/-
  Printed by gen.py (my own tool): for each Go function a plain Lean function and the proof that a call of it does what that function says.
-/
import Derived.Test.YtadmnacpjjgdnaaGP1
set_option linter.unusedVariables false
set_option linter.unusedSimpArgs false
set_option maxRecDepth 100000
namespace Go.Proofs.Ytadmnacpjjgdnaa
open Go Go.Gol
/-! ### 6 colophon/colophonlaw14.RmqFirst -/
def colophonlaw14_RmqFirst.l1 (a0 : Int) (a1 : Int) : Nat → (List Int) → Int → Option (List Int)
  | 0, _, _ => none
  | k + 1, x7_l1, x15_l1 => (if decide (x15_l1 < Int.tmod a0 300) then ((app? 17592186044416 x7_l1 ([a1] : List Int)).bind fun y18 => colophonlaw14_RmqFirst.l1 a0 a1 k y18 (IntKind.wrap .u16 (x15_l1 + 1))) else some x7_l1)
def colophonlaw14_RmqFirst.f (a0 : Int) (a1 : Int) (a2_0 : Int) (a2_1 : Int) : Option Bool := (colophonlaw14_first.f.bind fun r4 => (if (!r4) then some false else ((colophonlaw14_RmqFirst.l1 a0 a1 FU ([] : List Int) 0).bind fun o22 => ((rmq_New.f o22).bind fun r27 => (if decide (imax a2_0 0 ≥ (o22.length : Int)) then ((rmq_Table_Least.f r27.1 a2_0 a2_1).bind fun r38 => some (r38 == (-1))) else (if decide (imax a2_0 0 ≥ a2_1) then ((rmq_Table_Least.f r27.1 a2_0 a2_1).bind fun r48 => some (r48 == (-1))) else ((rmq_Table_Least.f r27.1 a2_0 a2_1).bind fun r57 => some (r57 == (imax a2_0 0)))))))))
def colophonlaw14_RmqFirst.post (w : World) (r : Bool) (v : Value) (w' : World) : Prop := v = (.bool r : Value) ∧ Sat w' (rf w) []
theorem colophonlaw14_RmqFirst.l1_ok {Q} (w0 : World) (a0 : Int) (a1 : Int) (a2_0 : Int) (a2_1 : Int) (b1 : Nat) (out : (List Int)) (hn0 : ∀ (A7_q : Option Addr) (c7_q : Nat) (w : World), Sat w (rf w0) [osl 3 (r0 (.int .i64)) 1 A7_q c7_q out, pts b1 (.cells #[.int .i64 a2_0, .int .i64 a2_1] 36 (0, 0))] → At Q (.exit 0) 48 [(5, .pointer (some ⟨b1, 0, none⟩)), (7, .slice A7_q out.length c7_q)] w) :
    ∀ (k : Nat) (x7_l1 : List Int) (x15_l1 : Int) (A7_l1 : Option Addr) (c7_l1 : Nat) (w : World), Sat w (rf w0) [osl 3 (r0 (.int .i64)) 1 A7_l1 c7_l1 x7_l1, pts b1 (.cells #[.int .i64 a2_0, .int .i64 a2_1] 36 (0, 0))] → colophonlaw14_RmqFirst.l1 a0 a1 k x7_l1 x15_l1 = some out → WL Try.prog (cbody (cbody (cr (cl (cr (cr (cr C6))))))) Q 48 [(1, .int .i64 a1), (5, .pointer (some ⟨b1, 0, none⟩)), (7, .slice A7_l1 x7_l1.length c7_l1), (14, .int .u16 (Int.tmod a0 300)), (15, .int .u16 x15_l1)] w := by
  intro k
  induction k with
  | zero => intro x7_l1 x15_l1 A7_l1 c7_l1 w hS H; exact absurd (show none = some out from H) (by simp)
  | succ k ih =>
    intro x7_l1 x15_l1 A7_l1 c7_l1 w hS H
    unfold colophonlaw14_RmqFirst.l1 at H
    refine WL.round ?_
    refine WC.seq (by kernel_rfl) ?_
    refine WC.reg [0] (by kernel_rfl) (by kernel_rfl) ?_
    refine WR.runk [0] [] [1, 5, 7, 14, 15, 16] (L' := [(1, .int .i64 a1), (5, .pointer (some ⟨b1, 0, none⟩)), (7, .slice A7_l1 x7_l1.length c7_l1), (14, .int .u16 (Int.tmod a0 300)), (15, .int .u16 x15_l1), (16, .bool (decide (x15_l1 < Int.tmod a0 300)))]) (w' := w) (by kernel_rfl) ?_
    refine WR.nil ?_
    refine At.go ?_
    refine WC.seq (by kernel_rfl) ?_
    refine WC.cond (by kernel_rfl) (decide (x15_l1 < Int.tmod a0 300)) (by kernel_rfl) (by kernel_rfl) (fun hb14 => ?_) (fun hb14 => ?_)
    · replace H := ite_t H hb14
      refine WC.skip (by kernel_rfl) ?_
      refine At.go ?_
      refine WC.seq (by kernel_rfl) ?_
      refine WC.block (by kernel_rfl) ?_
      refine WC.reg [0, 1, 2, 3, 4] (by kernel_rfl) (by kernel_rfl) ?_
      refine WR.runk [0, 1] [2, 3, 4] [1, 5, 7, 14, 15, 17, 18] (L' := [(1, .int .i64 a1), (5, .pointer (some ⟨b1, 0, none⟩)), (7, .slice A7_l1 x7_l1.length c7_l1), (14, .int .u16 (Int.tmod a0 300)), (15, .int .u16 x15_l1), (17, .slice A7_l1 x7_l1.length c7_l1), (18, .int .i64 a1)]) (w' := w) (by kernel_rfl) ?_
      refine WR.st (St.box hS (by kernel_rfl) (.cells #[.int .i64 a1] 3) (fun b15 => .slice (some ⟨b15, 0, none⟩) 1 1) (fun _ => by kernel_rfl) (fun b15 w16 hS => ?_))
      refine WR.runk [] [3, 4] [1, 5, 7, 14, 15, 17, 19] (L' := [(1, .int .i64 a1), (5, .pointer (some ⟨b1, 0, none⟩)), (7, .slice A7_l1 x7_l1.length c7_l1), (14, .int .u16 (Int.tmod a0 300)), (15, .int .u16 x15_l1), (17, .slice A7_l1 x7_l1.length c7_l1), (19, .slice (some ⟨b15, 0, none⟩) 1 1)]) (w' := w16) (by kernel_rfl) ?_
      have hS : Sat w16 (rf w0) [osl 3 (r0 (.int .i64)) 1 A7_l1 c7_l1 x7_l1, pts b15 (.cells #[.int .i64 a1] 3 (0, 0)), pts b1 (.cells #[.int .i64 a2_0, .int .i64 a2_1] 36 (0, 0))] := hS.sel [1, 0, 2] (by kernel_rfl)
      obtain ⟨y18, e17, H⟩ := bind_ex H
      refine WR.st (St.append' (.tmp 17) (.tmp 19) (by kernel_rfl) (by kernel_rfl) E22 (r0_one _) hS (by kernel_rfl) (by kernel_rfl) (Sat.ptsAt 1 (r0 (.int .i64)) 1 ([a1] : List Int) hS rfl rfl (rdL.cons1 rfl (rdL.nil _ _))) 17592186044416 (by kernel_rfl) (by kernel_rfl) e17 (fun A19 c20 w21 hS => ?_))
      refine WR.runk [4] [] [1, 5, 7, 14, 15] (L' := [(1, .int .i64 a1), (5, .pointer (some ⟨b1, 0, none⟩)), (7, .slice A19 y18.length c20), (14, .int .u16 (Int.tmod a0 300)), (15, .int .u16 x15_l1)]) (w' := w21) (by kernel_rfl) ?_
      refine WR.nil ?_
      refine At.blockNormal ?_
      refine At.go ?_
      refine WC.reg [0, 1] (by kernel_rfl) (by kernel_rfl) ?_
      refine WR.runk [0, 1] [] [1, 5, 7, 14, 15] (L' := [(1, .int .i64 a1), (5, .pointer (some ⟨b1, 0, none⟩)), (7, .slice A19 y18.length c20), (14, .int .u16 (Int.tmod a0 300)), (15, .int .u16 (IntKind.wrap .u16 (x15_l1 + 1)))]) (w' := w21) (by kernel_rfl) ?_
      refine WR.nil ?_
      have hS : Sat w21 (rf w0) [osl 3 (r0 (.int .i64)) 1 A19 c20 y18, pts b1 (.cells #[.int .i64 a2_0, .int .i64 a2_1] 36 (0, 0))] := hS.sel [0, 2] (by kernel_rfl)
      refine At.again ?_
      refine WL.weaken [1, 5, 7, 14, 15] (L' := [(1, .int .i64 a1), (5, .pointer (some ⟨b1, 0, none⟩)), (7, .slice A19 y18.length c20), (14, .int .u16 (Int.tmod a0 300)), (15, .int .u16 (IntKind.wrap .u16 (x15_l1 + 1)))]) (by kernel_rfl) ?_
      exact ih y18 (IntKind.wrap .u16 (x15_l1 + 1)) A19 c20 _ hS H
    · replace H := ite_f H hb14
      refine WC.exit (by kernel_rfl) ?_
      refine At.thenExit ?_
      refine At.thenExit ?_
      obtain rfl := Option.some.inj H
      have hS : Sat w (rf w0) [osl 3 (r0 (.int .i64)) 1 A7_l1 c7_l1 x7_l1, pts b1 (.cells #[.int .i64 a2_0, .int .i64 a2_1] 36 (0, 0))] := hS.sel [0, 1] (by kernel_rfl)
      refine At.weaken [5, 7] (L' := [(5, .pointer (some ⟨b1, 0, none⟩)), (7, .slice A7_l1 x7_l1.length c7_l1)]) (by kernel_rfl) ?_
      exact hn0 A7_l1 c7_l1 _ hS
theorem colophonlaw14_RmqFirst.calls (w0 : World) (a0 : Int) (a1 : Int) (a2_0 : Int) (a2_1 : Int) (r : Bool) (H : colophonlaw14_RmqFirst.f a0 a1 a2_0 a2_1 = some r) :
    Calls Try.prog 6 #[.int .u16 a0, .int .i64 a1, .agg #[.int .i64 a2_0, .int .i64 a2_1]] w0 (fun e w' => ∃ v, e = .returned v ∧ colophonlaw14_RmqFirst.post w0 r v w') := by
  have hS : Sat w0 (rf w0) [] := Sat.start w0
  unfold colophonlaw14_RmqFirst.f at H
  refine calls_of_WC (vs := [.int .u16 a0, .int .i64 a1, .agg #[.int .i64 a2_0, .int .i64 a2_1]]) Try.func6 (c := C6) (n := 48) (by kernel_rfl) (by kernel_rfl) (by kernel_rfl) ?_
  refine WC.seq (by kernel_rfl) ?_
  refine WC.reg [0, 1] (by kernel_rfl) (by kernel_rfl) ?_
  refine WR.runk [] [0, 1] [0, 1, 2] (L' := [(0, .int .u16 a0), (1, .int .i64 a1), (2, .agg #[.int .i64 a2_0, .int .i64 a2_1])]) (w' := w0) (by kernel_rfl) ?_
  refine WR.st (St.box hS (by kernel_rfl) (.cells #[.int .i64 a2_0, .int .i64 a2_1] 36) (fun b1 => .pointer (some ⟨b1, 0, none⟩)) (fun _ => by kernel_rfl) (fun b1 w2 hS => ?_))
  refine WR.runk [1] [] [0, 1, 5] (L' := [(0, .int .u16 a0), (1, .int .i64 a1), (5, .pointer (some ⟨b1, 0, none⟩))]) (w' := w2) (by kernel_rfl) ?_
  refine WR.nil ?_
  refine At.go ?_
  refine WC.seq (by kernel_rfl) ?_
  refine WC.seq (by kernel_rfl) ?_
  refine WC.reg [0, 1] (by kernel_rfl) (by kernel_rfl) ?_
  obtain ⟨r4, e5, H⟩ := bind_ex H
  refine WR.st (St.call (by kernel_rfl) (f := 7) (args := #[]) (by kernel_rfl) (colophonlaw14_first.calls w2  r4 e5) ?_)
  rintro _ w11 ⟨rfl, hS12⟩
  have hS : Sat w11 (rf w0) [pts b1 (.cells #[.int .i64 a2_0, .int .i64 a2_1] 36 (0, 0))] := hS.ext hS12
  refine WR.runk [1] [] [0, 1, 5, 12] (L' := [(0, .int .u16 a0), (1, .int .i64 a1), (5, .pointer (some ⟨b1, 0, none⟩)), (12, .bool (!r4))]) (w' := w11) (by kernel_rfl) ?_
  refine WR.nil ?_
  refine At.go ?_
  refine WC.cond (by kernel_rfl) (!r4) (by kernel_rfl) (by kernel_rfl) (fun hb13 => ?_) (fun hb13 => ?_)
  · replace H := ite_t H hb13
    refine WC.seq (by kernel_rfl) ?_
    refine WC.reg [0] (by kernel_rfl) (by kernel_rfl) ?_
    refine WR.runk [0] [] [6] (L' := [(6, .bool false)]) (w' := w11) (by kernel_rfl) ?_
    refine WR.nil ?_
    refine At.go ?_
    refine WC.ret (by kernel_rfl) ?_
    refine At.thenRet ?_
    obtain rfl := Option.some.inj H
    have hS : Sat w11 (rf w0) [] := hS.sel [] (by kernel_rfl)
    exact At.body [.bool false] (by kernel_rfl) ⟨_, rfl, rfl, hS⟩
  · replace H := ite_f H hb13
    refine WC.skip (by kernel_rfl) ?_
    refine At.go ?_
    refine WC.seq (by kernel_rfl) ?_
    refine WC.reg [0] (by kernel_rfl) (by kernel_rfl) ?_
    refine WR.runk [0] [] [0, 1, 5, 7] (L' := [(0, .int .u16 a0), (1, .int .i64 a1), (5, .pointer (some ⟨b1, 0, none⟩)), (7, .slice none 0 0)]) (w' := w11) (by kernel_rfl) ?_
    refine WR.nil ?_
    refine At.go ?_
    refine WC.seq (by kernel_rfl) ?_
    refine WC.seq (by kernel_rfl) ?_
    refine WC.reg [0, 1, 2] (by kernel_rfl) (by kernel_rfl) ?_
    refine WR.runk [0, 1, 2] [] [1, 5, 7, 14, 15] (L' := [(1, .int .i64 a1), (5, .pointer (some ⟨b1, 0, none⟩)), (7, .slice none 0 0), (14, .int .u16 (Int.tmod a0 300)), (15, .int .u16 0)]) (w' := w11) (by kernel_rfl) ?_
    refine WR.nil ?_
    refine At.go ?_
    refine WC.block (by kernel_rfl) ?_
    have hS := hS.addNil (α := Int) 3 (r0 (.int .i64)) 1
    have hS : Sat w11 (rf w0) [osl 3 (r0 (.int .i64)) 1 none 0 ([] : List Int), pts b1 (.cells #[.int .i64 a2_0, .int .i64 a2_1] 36 (0, 0))] := hS.sel [0, 1] (by kernel_rfl)
    obtain ⟨o22, e23, H⟩ := bind_ex H
    refine WC.loop (by kernel_rfl) ?_
    refine WL.weaken [1, 5, 7, 14, 15] (L' := [(1, .int .i64 a1), (5, .pointer (some ⟨b1, 0, none⟩)), (7, .slice none 0 0), (14, .int .u16 (Int.tmod a0 300)), (15, .int .u16 0)]) (by kernel_rfl) ?_
    refine colophonlaw14_RmqFirst.l1_ok w0 a0 a1 a2_0 a2_1 b1 o22 (fun A7_q24 c7_q24 w25 hS => ?_) FU ([] : List Int) 0 none 0 _ hS e23
    refine At.hit ?_
    refine At.go ?_
    refine WC.seq (by kernel_rfl) ?_
    refine WC.reg [0, 1, 2, 3, 4, 5, 6] (by kernel_rfl) (by kernel_rfl) ?_
    refine WR.runk [0] [1, 2, 3, 4, 5, 6] [5, 7, 23] (L' := [(5, .pointer (some ⟨b1, 0, none⟩)), (7, .slice A7_q24 o22.length c7_q24), (23, .slice A7_q24 o22.length c7_q24)]) (w' := w25) (by kernel_rfl) ?_
    obtain ⟨r27, e28, H⟩ := bind_ex H
    refine WR.st (St.call (by kernel_rfl) (f := 8) (args := #[.slice A7_q24 o22.length c7_q24]) (by kernel_rfl) (rmq_New.calls w25 A7_q24 c7_q24 o22 (Sat.rdAt 0 hS rfl) r27 e28) ?_)
    rintro _ w34 ⟨pv36, rfl, hS35⟩
    have hS : Sat w34 (rf w0) [optP O43 pv36 r27.1, osl 3 (r0 (.int .i64)) 1 A7_q24 c7_q24 o22, pts b1 (.cells #[.int .i64 a2_0, .int .i64 a2_1] 36 (0, 0))] := hS.ext hS35
    refine WR.runk [2, 3, 4, 5, 6] [] [5, 7, 8] (L' := [(5, .pointer (some ⟨b1, 0, none⟩)), (7, .slice A7_q24 o22.length c7_q24), (8, pv36)]) (w' := w34) (by kernel_rfl) ?_
    refine WR.nil ?_
    refine At.go ?_
    refine WC.seq (by kernel_rfl) ?_
    refine WC.reg [0, 1, 2, 3] (by kernel_rfl) (by kernel_rfl) ?_
    refine WR.runk [0] [1, 2, 3] [5, 7, 8, 27] (L' := [(5, .pointer (some ⟨b1, 0, none⟩)), (7, .slice A7_q24 o22.length c7_q24), (8, pv36), (27, .pointer (some ⟨b1, 0, none⟩))]) (w' := w34) (by kernel_rfl) ?_
    refine WR.st (St.ofR (RSt.loadObj (t := 3) (k := 0) (v := .int .i64 a2_0) (.tmp 27) (by kernel_rfl) (by kernel_rfl) (by kernel_rfl) 2 hS rfl (by kernel_rfl) rfl ?_))
    refine WR.runk [2, 3] [] [5, 7, 8, 10] (L' := [(5, .pointer (some ⟨b1, 0, none⟩)), (7, .slice A7_q24 o22.length c7_q24), (8, pv36), (10, .int .i64 (imax a2_0 0))]) (w' := w34) (by kernel_rfl) ?_
    refine WR.nil ?_
    refine At.go ?_
    refine WC.seq (by kernel_rfl) ?_
    refine WC.seq (by kernel_rfl) ?_
    refine WC.reg [0, 1, 2, 3, 4, 5, 6, 7, 8, 9] (by kernel_rfl) (by kernel_rfl) ?_
    refine WR.runk [0, 1, 2, 3, 4] [5, 6, 7, 8, 9] [5, 8, 10, 34] (L' := [(5, .pointer (some ⟨b1, 0, none⟩)), (8, pv36), (10, .int .i64 (imax a2_0 0)), (34, .bool (decide (imax a2_0 0 ≥ (o22.length : Int))))]) (w' := w34) (by kernel_rfl) ?_
    refine WR.split 34 (b := decide (imax a2_0 0 ≥ (o22.length : Int))) (by kernel_rfl) (fun hb37 => ?_) (fun hb37 => ?_)
    · replace H := ite_t H hb37
      refine WR.runk [5, 6, 7, 8, 9] [] [5, 8, 10, 39] (L' := [(5, .pointer (some ⟨b1, 0, none⟩)), (8, pv36), (10, .int .i64 (imax a2_0 0)), (39, .bool true)]) (w' := w34) (by kernel_rfl) ?_
      refine WR.nil ?_
      refine At.go ?_
      refine WC.condT (by kernel_rfl) (by kernel_rfl) (by kernel_rfl) ?_
      refine WC.reg [0] (by kernel_rfl) (by kernel_rfl) ?_
      refine WR.runk [0] [] [5, 8, 10] (L' := [(5, .pointer (some ⟨b1, 0, none⟩)), (8, pv36), (10, .int .i64 (-1))]) (w' := w34) (by kernel_rfl) ?_
      refine WR.nil ?_
      refine At.go ?_
      refine WC.seq (by kernel_rfl) ?_
      refine WC.reg [0, 1, 2, 3, 4, 5, 6, 7, 8] (by kernel_rfl) (by kernel_rfl) ?_
      refine WR.runk [0, 1] [2, 3, 4, 5, 6, 7, 8] [5, 10, 40, 41] (L' := [(5, .pointer (some ⟨b1, 0, none⟩)), (10, .int .i64 (-1)), (40, pv36), (41, .pointer (some ⟨b1, 0, none⟩))]) (w' := w34) (by kernel_rfl) ?_
      refine WR.st (St.ofR (RSt.loadObj (t := 3) (k := 0) (v := .int .i64 a2_0) (.tmp 41) (by kernel_rfl) (by kernel_rfl) (by kernel_rfl) 2 hS rfl (by kernel_rfl) rfl ?_))
      refine WR.runk [3] [4, 5, 6, 7, 8] [10, 40, 42, 43] (L' := [(10, .int .i64 (-1)), (40, pv36), (42, .int .i64 a2_0), (43, .pointer (some ⟨b1, 1, none⟩))]) (w' := w34) (by kernel_rfl) ?_
      refine WR.st (St.ofR (RSt.loadObj (t := 3) (k := 1) (v := .int .i64 a2_1) (.tmp 43) (by kernel_rfl) (by kernel_rfl) (by kernel_rfl) 2 hS rfl (by kernel_rfl) rfl ?_))
      refine WR.runk [] [5, 6, 7, 8] [10, 40, 42, 44] (L' := [(10, .int .i64 (-1)), (40, pv36), (42, .int .i64 a2_0), (44, .int .i64 a2_1)]) (w' := w34) (by kernel_rfl) ?_
      obtain ⟨r38, e39, H⟩ := bind_ex H
      refine WR.st (St.call (by kernel_rfl) (f := 10) (args := #[pv36, .int .i64 a2_0, .int .i64 a2_1]) (by kernel_rfl) (rmq_Table_Least.calls w34 (pv36) r27.1 (Sat.rdAny 0 hS rfl (fun _ h => optP.rdd (t := 43) (κ := (.pair (.slice 3 (.int .i64)) (.slice 22 (.slice 3 (.int .i64))))) (O := O43) O43.rd h)) a2_0 a2_1 r38 e39) ?_)
      rintro _ w45 ⟨rfl, hS46⟩
      have hS : Sat w45 (rf w0) [optP O43 pv36 r27.1, osl 3 (r0 (.int .i64)) 1 A7_q24 c7_q24 o22, pts b1 (.cells #[.int .i64 a2_0, .int .i64 a2_1] 36 (0, 0))] := hS.ext hS46
      refine WR.runk [6, 7, 8] [] [6] (L' := [(6, .bool (r38 == (-1)))]) (w' := w45) (by kernel_rfl) ?_
      refine WR.nil ?_
      refine At.go ?_
      refine WC.ret (by kernel_rfl) ?_
      obtain rfl := Option.some.inj H
      have hS : Sat w45 (rf w0) [] := hS.sel [] (by kernel_rfl)
      exact At.body [.bool (r38 == (-1))] (by kernel_rfl) ⟨_, rfl, rfl, hS⟩
    · replace H := ite_f H hb37
      refine WR.runk [5, 6] [7, 8, 9] [5, 8, 10, 34, 35, 36] (L' := [(5, .pointer (some ⟨b1, 0, none⟩)), (8, pv36), (10, .int .i64 (imax a2_0 0)), (34, .bool false), (35, .int .i64 (imax a2_0 0)), (36, .pointer (some ⟨b1, 1, none⟩))]) (w' := w34) (by kernel_rfl) ?_
      refine WR.st (St.ofR (RSt.loadObj (t := 3) (k := 1) (v := .int .i64 a2_1) (.tmp 36) (by kernel_rfl) (by kernel_rfl) (by kernel_rfl) 2 hS rfl (by kernel_rfl) rfl ?_))
      refine WR.runk [8, 9] [] [5, 8, 10, 39] (L' := [(5, .pointer (some ⟨b1, 0, none⟩)), (8, pv36), (10, .int .i64 (imax a2_0 0)), (39, .bool (decide (imax a2_0 0 ≥ a2_1)))]) (w' := w34) (by kernel_rfl) ?_
      refine WR.nil ?_
      refine At.go ?_
      refine WC.cond (by kernel_rfl) (decide (imax a2_0 0 ≥ a2_1)) (by kernel_rfl) (by kernel_rfl) (fun hb47 => ?_) (fun hb47 => ?_)
      · replace H := ite_t H hb47
        refine WC.reg [0] (by kernel_rfl) (by kernel_rfl) ?_
        refine WR.runk [0] [] [5, 8, 10] (L' := [(5, .pointer (some ⟨b1, 0, none⟩)), (8, pv36), (10, .int .i64 (-1))]) (w' := w34) (by kernel_rfl) ?_
        refine WR.nil ?_
        refine At.go ?_
        refine WC.seq (by kernel_rfl) ?_
        refine WC.reg [0, 1, 2, 3, 4, 5, 6, 7, 8] (by kernel_rfl) (by kernel_rfl) ?_
        refine WR.runk [0, 1] [2, 3, 4, 5, 6, 7, 8] [5, 10, 40, 41] (L' := [(5, .pointer (some ⟨b1, 0, none⟩)), (10, .int .i64 (-1)), (40, pv36), (41, .pointer (some ⟨b1, 0, none⟩))]) (w' := w34) (by kernel_rfl) ?_
        refine WR.st (St.ofR (RSt.loadObj (t := 3) (k := 0) (v := .int .i64 a2_0) (.tmp 41) (by kernel_rfl) (by kernel_rfl) (by kernel_rfl) 2 hS rfl (by kernel_rfl) rfl ?_))
        refine WR.runk [3] [4, 5, 6, 7, 8] [10, 40, 42, 43] (L' := [(10, .int .i64 (-1)), (40, pv36), (42, .int .i64 a2_0), (43, .pointer (some ⟨b1, 1, none⟩))]) (w' := w34) (by kernel_rfl) ?_
        refine WR.st (St.ofR (RSt.loadObj (t := 3) (k := 1) (v := .int .i64 a2_1) (.tmp 43) (by kernel_rfl) (by kernel_rfl) (by kernel_rfl) 2 hS rfl (by kernel_rfl) rfl ?_))
        refine WR.runk [] [5, 6, 7, 8] [10, 40, 42, 44] (L' := [(10, .int .i64 (-1)), (40, pv36), (42, .int .i64 a2_0), (44, .int .i64 a2_1)]) (w' := w34) (by kernel_rfl) ?_
        obtain ⟨r48, e49, H⟩ := bind_ex H
        refine WR.st (St.call (by kernel_rfl) (f := 10) (args := #[pv36, .int .i64 a2_0, .int .i64 a2_1]) (by kernel_rfl) (rmq_Table_Least.calls w34 (pv36) r27.1 (Sat.rdAny 0 hS rfl (fun _ h => optP.rdd (t := 43) (κ := (.pair (.slice 3 (.int .i64)) (.slice 22 (.slice 3 (.int .i64))))) (O := O43) O43.rd h)) a2_0 a2_1 r48 e49) ?_)
        rintro _ w55 ⟨rfl, hS56⟩
        have hS : Sat w55 (rf w0) [optP O43 pv36 r27.1, osl 3 (r0 (.int .i64)) 1 A7_q24 c7_q24 o22, pts b1 (.cells #[.int .i64 a2_0, .int .i64 a2_1] 36 (0, 0))] := hS.ext hS56
        refine WR.runk [6, 7, 8] [] [6] (L' := [(6, .bool (r48 == (-1)))]) (w' := w55) (by kernel_rfl) ?_
        refine WR.nil ?_
        refine At.go ?_
        refine WC.ret (by kernel_rfl) ?_
        obtain rfl := Option.some.inj H
        have hS : Sat w55 (rf w0) [] := hS.sel [] (by kernel_rfl)
        exact At.body [.bool (r48 == (-1))] (by kernel_rfl) ⟨_, rfl, rfl, hS⟩
      · replace H := ite_f H hb47
        refine WC.skip (by kernel_rfl) ?_
        refine At.go ?_
        refine WC.seq (by kernel_rfl) ?_
        refine WC.reg [0, 1, 2, 3, 4, 5, 6, 7, 8] (by kernel_rfl) (by kernel_rfl) ?_
        refine WR.runk [0, 1] [2, 3, 4, 5, 6, 7, 8] [5, 10, 40, 41] (L' := [(5, .pointer (some ⟨b1, 0, none⟩)), (10, .int .i64 (imax a2_0 0)), (40, pv36), (41, .pointer (some ⟨b1, 0, none⟩))]) (w' := w34) (by kernel_rfl) ?_
        refine WR.st (St.ofR (RSt.loadObj (t := 3) (k := 0) (v := .int .i64 a2_0) (.tmp 41) (by kernel_rfl) (by kernel_rfl) (by kernel_rfl) 2 hS rfl (by kernel_rfl) rfl ?_))
        refine WR.runk [3] [4, 5, 6, 7, 8] [10, 40, 42, 43] (L' := [(10, .int .i64 (imax a2_0 0)), (40, pv36), (42, .int .i64 a2_0), (43, .pointer (some ⟨b1, 1, none⟩))]) (w' := w34) (by kernel_rfl) ?_
        refine WR.st (St.ofR (RSt.loadObj (t := 3) (k := 1) (v := .int .i64 a2_1) (.tmp 43) (by kernel_rfl) (by kernel_rfl) (by kernel_rfl) 2 hS rfl (by kernel_rfl) rfl ?_))
        refine WR.runk [] [5, 6, 7, 8] [10, 40, 42, 44] (L' := [(10, .int .i64 (imax a2_0 0)), (40, pv36), (42, .int .i64 a2_0), (44, .int .i64 a2_1)]) (w' := w34) (by kernel_rfl) ?_
        obtain ⟨r57, e58, H⟩ := bind_ex H
        refine WR.st (St.call (by kernel_rfl) (f := 10) (args := #[pv36, .int .i64 a2_0, .int .i64 a2_1]) (by kernel_rfl) (rmq_Table_Least.calls w34 (pv36) r27.1 (Sat.rdAny 0 hS rfl (fun _ h => optP.rdd (t := 43) (κ := (.pair (.slice 3 (.int .i64)) (.slice 22 (.slice 3 (.int .i64))))) (O := O43) O43.rd h)) a2_0 a2_1 r57 e58) ?_)
        rintro _ w64 ⟨rfl, hS65⟩
        have hS : Sat w64 (rf w0) [optP O43 pv36 r27.1, osl 3 (r0 (.int .i64)) 1 A7_q24 c7_q24 o22, pts b1 (.cells #[.int .i64 a2_0, .int .i64 a2_1] 36 (0, 0))] := hS.ext hS65
        refine WR.runk [6, 7, 8] [] [6] (L' := [(6, .bool (r57 == (imax a2_0 0)))]) (w' := w64) (by kernel_rfl) ?_
        refine WR.nil ?_
        refine At.go ?_
        refine WC.ret (by kernel_rfl) ?_
        obtain rfl := Option.some.inj H
        have hS : Sat w64 (rf w0) [] := hS.sel [] (by kernel_rfl)
        exact At.body [.bool (r57 == (imax a2_0 0))] (by kernel_rfl) ⟨_, rfl, rfl, hS⟩
end Go.Proofs.Ytadmnacpjjgdnaa
