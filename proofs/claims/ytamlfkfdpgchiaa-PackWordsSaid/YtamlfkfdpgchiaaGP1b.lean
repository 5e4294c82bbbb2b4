/-
  Printed by gen.py (my own tool): for each Go function a plain Lean function and the proof that a call of it does what that function says.
-/
import Derived.Test.YtamlfkfdpgchiaaGP1
set_option linter.unusedVariables false
set_option linter.unusedSimpArgs false
set_option maxRecDepth 100000
namespace Go.Proofs.Ytamlfkfdpgchiaa
open Go Go.Gol
/-! ### 23 colophon/colophonref01.Bits -/
def colophonref01_Bits.l2 (a0 : Int) (v2 : Int) : Nat → (List Int) → Int → Option (List Int)
  | 0, _, _ => none
  | k + 1, x5_l2, x8_l2 => (if decide (x8_l2 < a0) then ((app? 140737488355328 x5_l2 ([iand .u8 (IntKind.wrap .u8 (ishr .u64 v2 (IntKind.wrap .u64 x8_l2))) 1] : List Int)).bind fun y8 => colophonref01_Bits.l2 a0 v2 k y8 (wi (x8_l2 + 1))) else some x5_l2)
def colophonref01_Bits.l1 (a0 : Int) (l1 : List Int) : Nat → (List Int) → Int → Option (List Int)
  | 0, _, _ => none
  | k + 1, x5_l1, x11_l1 => (if decide (x11_l1 < (l1.length : Int)) then ((at? l1 x11_l1).bind fun v2 => ((colophonref01_Bits.l2 a0 v2 FU x5_l1 0).bind fun o12 => colophonref01_Bits.l1 a0 l1 k o12 (wi (x11_l1 + 1)))) else some x5_l1)
def colophonref01_Bits.f (a0 : Int) (l1 : List Int) : Option (List Int) := ((colophonref01_Bits.l1 a0 l1 FU ([] : List Int) 0).bind fun o17 => some o17)
def colophonref01_Bits.post (w : World) (r : (List Int)) (v : Value) (w' : World) : Prop := ∃ (A0' : Option Addr) (c0' : Nat), v = (.slice A0' r.length c0' : Value) ∧ Sat w' (rf w) [osl 5 (r0 (.int .u8)) 1 A0' c0' r]
theorem colophonref01_Bits.l2_ok {Q} (w0 : World) (a0 : Int) (A1 : Option Addr) (c1 : Nat) (l1 : List Int) (x11_l1 : Int) (v2 : Int) (out : (List Int)) (hn0 : ∀ (A5_q : Option Addr) (c5_q : Nat) (w : World), Sat w (rf w0) [osl 5 (r0 (.int .u8)) 1 A5_q c5_q out] → At Q (.exit 2) 31 [(0, .int .i64 a0), (5, .slice A5_q out.length c5_q), (9, .slice A1 l1.length c1), (10, .int .i64 (l1.length : Int)), (11, .int .i64 x11_l1)] w) :
    ∀ (k : Nat) (x5_l2 : List Int) (x8_l2 : Int) (A5_l2 : Option Addr) (c5_l2 : Nat) (w : World), Sat w (rf w0) [osl 5 (r0 (.int .u8)) 1 A5_l2 c5_l2 x5_l2] → colophonref01_Bits.l2 a0 v2 k x5_l2 x8_l2 = some out → WL Try.prog (cbody (cbody (cr (cr (cbody (cl (cr (cr (cbody (cbody (cr (cl (cr (cr C23)))))))))))))) Q 31 [(0, .int .i64 a0), (5, .slice A5_l2 x5_l2.length c5_l2), (7, .int .u64 v2), (8, .int .i64 x8_l2), (9, .slice A1 l1.length c1), (10, .int .i64 (l1.length : Int)), (11, .int .i64 x11_l1)] w := by
  intro k
  induction k with
  | zero => intro x5_l2 x8_l2 A5_l2 c5_l2 w hS H; exact absurd (show none = some out from H) (by simp)
  | succ k ih =>
    intro x5_l2 x8_l2 A5_l2 c5_l2 w hS H
    unfold colophonref01_Bits.l2 at H
    refine WL.round ?_
    refine WC.seq (by kernel_rfl) ?_
    refine WC.seq (by kernel_rfl) ?_
    refine WC.reg [0, 1, 2] (by kernel_rfl) (by kernel_rfl) ?_
    refine WR.runk [0, 1, 2] [] [0, 5, 7, 8, 9, 10, 11, 17] (L' := [(0, .int .i64 a0), (5, .slice A5_l2 x5_l2.length c5_l2), (7, .int .u64 v2), (8, .int .i64 x8_l2), (9, .slice A1 l1.length c1), (10, .int .i64 (l1.length : Int)), (11, .int .i64 x11_l1), (17, .bool (decide (x8_l2 < a0)))]) (w' := w) (by kernel_rfl) ?_
    refine WR.nil ?_
    refine At.go ?_
    refine WC.cond (by kernel_rfl) (decide (x8_l2 < a0)) (by kernel_rfl) (by kernel_rfl) (fun hb4 => ?_) (fun hb4 => ?_)
    · replace H := ite_t H hb4
      refine WC.skip (by kernel_rfl) ?_
      refine At.go ?_
      refine WC.seq (by kernel_rfl) ?_
      refine WC.block (by kernel_rfl) ?_
      refine WC.reg [0, 1, 2, 3, 4, 5, 6, 7, 8, 9] (by kernel_rfl) (by kernel_rfl) ?_
      refine WR.runk [0, 1, 2, 3] [4, 5, 6, 7, 8, 9] [0, 5, 7, 8, 9, 10, 11, 20, 21, 23] (L' := [(0, .int .i64 a0), (5, .slice A5_l2 x5_l2.length c5_l2), (7, .int .u64 v2), (8, .int .i64 x8_l2), (9, .slice A1 l1.length c1), (10, .int .i64 (l1.length : Int)), (11, .int .i64 x11_l1), (20, .slice A5_l2 x5_l2.length c5_l2), (21, .int .u64 v2), (23, .int .u64 (IntKind.wrap .u64 x8_l2))]) (w' := w) (by kernel_rfl) ?_
      refine WR.st (St.ofP (PSt.shift (k := .u64) (k2 := .u64) (t := 22) (t2 := 33) (a := v2) (b := (IntKind.wrap .u64 x8_l2)) .shr (by decide) (.tmp 21) (.tmp 23) (by kernel_rfl) (by kernel_rfl) (by kernel_rfl) (by kernel_rfl) (wrap_u64_nonneg _) ?_))
      refine WR.runk [5, 6] [7, 8, 9] [0, 5, 7, 8, 9, 10, 11, 20, 26] (L' := [(0, .int .i64 a0), (5, .slice A5_l2 x5_l2.length c5_l2), (7, .int .u64 v2), (8, .int .i64 x8_l2), (9, .slice A1 l1.length c1), (10, .int .i64 (l1.length : Int)), (11, .int .i64 x11_l1), (20, .slice A5_l2 x5_l2.length c5_l2), (26, .int .u8 (iand .u8 (IntKind.wrap .u8 (ishr .u64 v2 (IntKind.wrap .u64 x8_l2))) 1))]) (w' := w) (by kernel_rfl) ?_
      refine WR.st (St.box hS (by kernel_rfl) (.cells #[.int .u8 (iand .u8 (IntKind.wrap .u8 (ishr .u64 v2 (IntKind.wrap .u64 x8_l2))) 1)] 5) (fun b5 => .slice (some ⟨b5, 0, none⟩) 1 1) (fun _ => by kernel_rfl) (fun b5 w6 hS => ?_))
      refine WR.runk [] [8, 9] [0, 5, 7, 8, 9, 10, 11, 20, 27] (L' := [(0, .int .i64 a0), (5, .slice A5_l2 x5_l2.length c5_l2), (7, .int .u64 v2), (8, .int .i64 x8_l2), (9, .slice A1 l1.length c1), (10, .int .i64 (l1.length : Int)), (11, .int .i64 x11_l1), (20, .slice A5_l2 x5_l2.length c5_l2), (27, .slice (some ⟨b5, 0, none⟩) 1 1)]) (w' := w6) (by kernel_rfl) ?_
      have hS : Sat w6 (rf w0) [osl 5 (r0 (.int .u8)) 1 A5_l2 c5_l2 x5_l2, pts b5 (.cells #[.int .u8 (iand .u8 (IntKind.wrap .u8 (ishr .u64 v2 (IntKind.wrap .u64 x8_l2))) 1)] 5 (0, 0))] := hS.sel [1, 0] (by kernel_rfl)
      obtain ⟨y8, e7, H⟩ := bind_ex H
      refine WR.st (St.append' (.tmp 20) (.tmp 27) (by kernel_rfl) (by kernel_rfl) E49 (r0_one _) hS (by kernel_rfl) (by kernel_rfl) (Sat.ptsAt 1 (r0 (.int .u8)) 1 ([iand .u8 (IntKind.wrap .u8 (ishr .u64 v2 (IntKind.wrap .u64 x8_l2))) 1] : List Int) hS rfl rfl (rdL.cons1 rfl (rdL.nil _ _))) 140737488355328 (by kernel_rfl) (by kernel_rfl) e7 (fun A9 c10 w11 hS => ?_))
      refine WR.runk [9] [] [0, 5, 7, 8, 9, 10, 11] (L' := [(0, .int .i64 a0), (5, .slice A9 y8.length c10), (7, .int .u64 v2), (8, .int .i64 x8_l2), (9, .slice A1 l1.length c1), (10, .int .i64 (l1.length : Int)), (11, .int .i64 x11_l1)]) (w' := w11) (by kernel_rfl) ?_
      refine WR.nil ?_
      refine At.blockNormal ?_
      refine At.go ?_
      refine WC.reg [0, 1, 2] (by kernel_rfl) (by kernel_rfl) ?_
      refine WR.runk [0, 1, 2] [] [0, 5, 7, 8, 9, 10, 11] (L' := [(0, .int .i64 a0), (5, .slice A9 y8.length c10), (7, .int .u64 v2), (8, .int .i64 (wi (x8_l2 + 1))), (9, .slice A1 l1.length c1), (10, .int .i64 (l1.length : Int)), (11, .int .i64 x11_l1)]) (w' := w11) (by kernel_rfl) ?_
      refine WR.nil ?_
      have hS : Sat w11 (rf w0) [osl 5 (r0 (.int .u8)) 1 A9 c10 y8] := hS.sel [0] (by kernel_rfl)
      refine At.again ?_
      refine WL.weaken [0, 5, 7, 8, 9, 10, 11] (L' := [(0, .int .i64 a0), (5, .slice A9 y8.length c10), (7, .int .u64 v2), (8, .int .i64 (wi (x8_l2 + 1))), (9, .slice A1 l1.length c1), (10, .int .i64 (l1.length : Int)), (11, .int .i64 x11_l1)]) (by kernel_rfl) ?_
      exact ih y8 (wi (x8_l2 + 1)) A9 c10 _ hS H
    · replace H := ite_f H hb4
      refine WC.exit (by kernel_rfl) ?_
      refine At.thenExit ?_
      refine At.thenExit ?_
      obtain rfl := Option.some.inj H
      have hS : Sat w (rf w0) [osl 5 (r0 (.int .u8)) 1 A5_l2 c5_l2 x5_l2] := hS.sel [0] (by kernel_rfl)
      refine At.weaken [0, 5, 9, 10, 11] (L' := [(0, .int .i64 a0), (5, .slice A5_l2 x5_l2.length c5_l2), (9, .slice A1 l1.length c1), (10, .int .i64 (l1.length : Int)), (11, .int .i64 x11_l1)]) (by kernel_rfl) ?_
      exact hn0 A5_l2 c5_l2 _ hS
theorem colophonref01_Bits.l1_ok {Q} (w0 : World) (a0 : Int) (A1 : Option Addr) (c1 : Nat) (l1 : List Int) (R1 : rdS (r0 (.int .u64)) 1 (hp w0) A1 c1 l1) (out : (List Int)) (hn0 : ∀ (A5_q : Option Addr) (c5_q : Nat) (w : World), Sat w (rf w0) [osl 5 (r0 (.int .u8)) 1 A5_q c5_q out] → At Q (.exit 0) 31 [(5, .slice A5_q out.length c5_q)] w) :
    ∀ (k : Nat) (x5_l1 : List Int) (x11_l1 : Int) (A5_l1 : Option Addr) (c5_l1 : Nat) (w : World), Sat w (rf w0) [osl 5 (r0 (.int .u8)) 1 A5_l1 c5_l1 x5_l1] → colophonref01_Bits.l1 a0 l1 k x5_l1 x11_l1 = some out → WL Try.prog (cbody (cbody (cr (cl (cr (cr C23)))))) Q 31 [(0, .int .i64 a0), (5, .slice A5_l1 x5_l1.length c5_l1), (9, .slice A1 l1.length c1), (10, .int .i64 (l1.length : Int)), (11, .int .i64 x11_l1)] w := by
  intro k
  induction k with
  | zero => intro x5_l1 x11_l1 A5_l1 c5_l1 w hS H; exact absurd (show none = some out from H) (by simp)
  | succ k ih =>
    intro x5_l1 x11_l1 A5_l1 c5_l1 w hS H
    unfold colophonref01_Bits.l1 at H
    refine WL.round ?_
    refine WC.seq (by kernel_rfl) ?_
    refine WC.reg [0] (by kernel_rfl) (by kernel_rfl) ?_
    refine WR.runk [0] [] [0, 5, 9, 10, 11, 12] (L' := [(0, .int .i64 a0), (5, .slice A5_l1 x5_l1.length c5_l1), (9, .slice A1 l1.length c1), (10, .int .i64 (l1.length : Int)), (11, .int .i64 x11_l1), (12, .bool (decide (x11_l1 < (l1.length : Int))))]) (w' := w) (by kernel_rfl) ?_
    refine WR.nil ?_
    refine At.go ?_
    refine WC.seq (by kernel_rfl) ?_
    refine WC.cond (by kernel_rfl) (decide (x11_l1 < (l1.length : Int))) (by kernel_rfl) (by kernel_rfl) (fun hb1 => ?_) (fun hb1 => ?_)
    · replace H := ite_t H hb1
      refine WC.skip (by kernel_rfl) ?_
      refine At.go ?_
      refine WC.seq (by kernel_rfl) ?_
      refine WC.block (by kernel_rfl) ?_
      refine WC.seq (by kernel_rfl) ?_
      refine WC.reg [0, 1, 2] (by kernel_rfl) (by kernel_rfl) ?_
      refine WR.runk [] [0, 1, 2] [0, 5, 9, 10, 11] (L' := [(0, .int .i64 a0), (5, .slice A5_l1 x5_l1.length c5_l1), (9, .slice A1 l1.length c1), (10, .int .i64 (l1.length : Int)), (11, .int .i64 x11_l1)]) (w' := w) (by kernel_rfl) ?_
      obtain ⟨v2, e3, H⟩ := bind_ex H
      refine WR.st (St.ofP (PSt.idx (k := .i64) (.tmp 9) (.tmp 11) (by kernel_rfl) (by kernel_rfl) E32 (by kernel_rfl) (by kernel_rfl) (rdS.up R1 hS.sub0) e3 ?_))
      refine WR.runk [] [1, 2] [0, 5, 9, 10, 11, 13] (L' := [(0, .int .i64 a0), (5, .slice A5_l1 x5_l1.length c5_l1), (9, .slice A1 l1.length c1), (10, .int .i64 (l1.length : Int)), (11, .int .i64 x11_l1), (13, .pointer (some (adr A1 x11_l1.toNat 1)))]) (w' := w) (by kernel_rfl) ?_
      refine WR.st (St.ofR (RSt.loadInt (t := 22) (.tmp 13) (by kernel_rfl) (by kernel_rfl) (by kernel_rfl) (by kernel_rfl) (rdS.up R1 hS.sub0) e3 ?_))
      refine WR.runk [2] [] [0, 5, 7, 9, 10, 11] (L' := [(0, .int .i64 a0), (5, .slice A5_l1 x5_l1.length c5_l1), (7, .int .u64 v2), (9, .slice A1 l1.length c1), (10, .int .i64 (l1.length : Int)), (11, .int .i64 x11_l1)]) (w' := w) (by kernel_rfl) ?_
      refine WR.nil ?_
      refine At.go ?_
      refine WC.seq (by kernel_rfl) ?_
      refine WC.reg [0] (by kernel_rfl) (by kernel_rfl) ?_
      refine WR.runk [0] [] [0, 5, 7, 8, 9, 10, 11] (L' := [(0, .int .i64 a0), (5, .slice A5_l1 x5_l1.length c5_l1), (7, .int .u64 v2), (8, .int .i64 0), (9, .slice A1 l1.length c1), (10, .int .i64 (l1.length : Int)), (11, .int .i64 x11_l1)]) (w' := w) (by kernel_rfl) ?_
      refine WR.nil ?_
      refine At.go ?_
      refine WC.block (by kernel_rfl) ?_
      have hS : Sat w (rf w0) [osl 5 (r0 (.int .u8)) 1 A5_l1 c5_l1 x5_l1] := hS.sel [0] (by kernel_rfl)
      obtain ⟨o12, e13, H⟩ := bind_ex H
      refine WC.loop (by kernel_rfl) ?_
      refine WL.weaken [0, 5, 7, 8, 9, 10, 11] (L' := [(0, .int .i64 a0), (5, .slice A5_l1 x5_l1.length c5_l1), (7, .int .u64 v2), (8, .int .i64 0), (9, .slice A1 l1.length c1), (10, .int .i64 (l1.length : Int)), (11, .int .i64 x11_l1)]) (by kernel_rfl) ?_
      refine colophonref01_Bits.l2_ok w0 a0 A1 c1 l1 x11_l1 v2 o12 (fun A5_q14 c5_q14 w15 hS => ?_) FU x5_l1 0 A5_l1 c5_l1 _ hS e13
      refine At.hit ?_
      refine At.blockNormal ?_
      refine At.go ?_
      refine WC.reg [0, 1] (by kernel_rfl) (by kernel_rfl) ?_
      refine WR.runk [0, 1] [] [0, 5, 9, 10, 11] (L' := [(0, .int .i64 a0), (5, .slice A5_q14 o12.length c5_q14), (9, .slice A1 l1.length c1), (10, .int .i64 (l1.length : Int)), (11, .int .i64 (wi (x11_l1 + 1)))]) (w' := w15) (by kernel_rfl) ?_
      refine WR.nil ?_
      have hS : Sat w15 (rf w0) [osl 5 (r0 (.int .u8)) 1 A5_q14 c5_q14 o12] := hS.sel [0] (by kernel_rfl)
      refine At.again ?_
      refine WL.weaken [0, 5, 9, 10, 11] (L' := [(0, .int .i64 a0), (5, .slice A5_q14 o12.length c5_q14), (9, .slice A1 l1.length c1), (10, .int .i64 (l1.length : Int)), (11, .int .i64 (wi (x11_l1 + 1)))]) (by kernel_rfl) ?_
      exact ih o12 (wi (x11_l1 + 1)) A5_q14 c5_q14 _ hS H
    · replace H := ite_f H hb1
      refine WC.exit (by kernel_rfl) ?_
      refine At.thenExit ?_
      refine At.thenExit ?_
      obtain rfl := Option.some.inj H
      have hS : Sat w (rf w0) [osl 5 (r0 (.int .u8)) 1 A5_l1 c5_l1 x5_l1] := hS.sel [0] (by kernel_rfl)
      refine At.weaken [5] (L' := [(5, .slice A5_l1 x5_l1.length c5_l1)]) (by kernel_rfl) ?_
      exact hn0 A5_l1 c5_l1 _ hS
theorem colophonref01_Bits.calls (w0 : World) (a0 : Int) (A1 : Option Addr) (c1 : Nat) (l1 : List Int) (R1 : rdS (r0 (.int .u64)) 1 (hp w0) A1 c1 l1) (r : (List Int)) (H : colophonref01_Bits.f a0 l1 = some r) :
    Calls Try.prog 23 #[.int .i64 a0, .slice A1 l1.length c1] w0 (fun e w' => ∃ v, e = .returned v ∧ colophonref01_Bits.post w0 r v w') := by
  have hS : Sat w0 (rf w0) [] := Sat.start w0
  unfold colophonref01_Bits.f at H
  refine calls_of_WC (vs := [.int .i64 a0, .slice A1 l1.length c1]) Try.func23 (c := C23) (n := 31) (by kernel_rfl) (by kernel_rfl) (by kernel_rfl) ?_
  refine WC.seq (by kernel_rfl) ?_
  refine WC.reg [0] (by kernel_rfl) (by kernel_rfl) ?_
  refine WR.runk [0] [] [0, 1] (L' := [(0, .int .i64 a0), (1, .slice A1 l1.length c1)]) (w' := w0) (by kernel_rfl) ?_
  refine WR.nil ?_
  refine At.go ?_
  refine WC.seq (by kernel_rfl) ?_
  refine WC.reg [0] (by kernel_rfl) (by kernel_rfl) ?_
  refine WR.runk [0] [] [0, 1, 5] (L' := [(0, .int .i64 a0), (1, .slice A1 l1.length c1), (5, .slice none 0 0)]) (w' := w0) (by kernel_rfl) ?_
  refine WR.nil ?_
  refine At.go ?_
  refine WC.seq (by kernel_rfl) ?_
  refine WC.seq (by kernel_rfl) ?_
  refine WC.reg [0, 1, 2] (by kernel_rfl) (by kernel_rfl) ?_
  refine WR.runk [0, 1, 2] [] [0, 5, 9, 10, 11] (L' := [(0, .int .i64 a0), (5, .slice none 0 0), (9, .slice A1 l1.length c1), (10, .int .i64 (l1.length : Int)), (11, .int .i64 0)]) (w' := w0) (by kernel_rfl) ?_
  refine WR.nil ?_
  refine At.go ?_
  refine WC.block (by kernel_rfl) ?_
  have hS := hS.addNil (α := Int) 5 (r0 (.int .u8)) 1
  have hS : Sat w0 (rf w0) [osl 5 (r0 (.int .u8)) 1 none 0 ([] : List Int)] := hS.sel [0] (by kernel_rfl)
  obtain ⟨o17, e18, H⟩ := bind_ex H
  refine WC.loop (by kernel_rfl) ?_
  refine WL.weaken [0, 5, 9, 10, 11] (L' := [(0, .int .i64 a0), (5, .slice none 0 0), (9, .slice A1 l1.length c1), (10, .int .i64 (l1.length : Int)), (11, .int .i64 0)]) (by kernel_rfl) ?_
  refine colophonref01_Bits.l1_ok w0 a0 A1 c1 l1 R1 o17 (fun A5_q19 c5_q19 w20 hS => ?_) FU ([] : List Int) 0 none 0 _ hS e18
  refine At.hit ?_
  refine At.go ?_
  refine WC.seq (by kernel_rfl) ?_
  refine WC.reg [0, 1] (by kernel_rfl) (by kernel_rfl) ?_
  refine WR.runk [0, 1] [] [4] (L' := [(4, .slice A5_q19 o17.length c5_q19)]) (w' := w20) (by kernel_rfl) ?_
  refine WR.nil ?_
  refine At.go ?_
  refine WC.ret (by kernel_rfl) ?_
  obtain rfl := Option.some.inj H
  have hS : Sat w20 (rf w0) [osl 5 (r0 (.int .u8)) 1 A5_q19 c5_q19 o17] := hS.sel [0] (by kernel_rfl)
  exact At.body [.slice A5_q19 o17.length c5_q19] (by kernel_rfl) ⟨_, rfl, _, _, rfl, hS⟩
/-! ### 22 colophon/colophonref01.Words -/
def colophonref01_Words.l1 (l0 : List Int) : Nat → (List Int) → Int → Option (List Int)
  | 0, _, _ => none
  | k + 1, x3_l1, x8_l1 => (if decide (x8_l1 < (l0.length : Int)) then ((at? l0 x8_l1).bind fun v2 => (if ((Int.tmod x8_l1 64) == 0) then ((app? 17592186044416 x3_l1 ([0] : List Int)).bind fun y8 => ((at? y8 (wi (Int.tdiv x8_l1 64))).bind fun v12 => ((set? y8 (wi (Int.tdiv x8_l1 64)) (IntKind.wrap .u64 (v12 + (ishl .u64 (IntKind.wrap .u64 v2) (IntKind.wrap .u64 (Int.tmod x8_l1 64)))))).bind fun y14 => colophonref01_Words.l1 l0 k y14 (wi (x8_l1 + 1))))) else ((at? x3_l1 (wi (Int.tdiv x8_l1 64))).bind fun v18 => ((set? x3_l1 (wi (Int.tdiv x8_l1 64)) (IntKind.wrap .u64 (v18 + (ishl .u64 (IntKind.wrap .u64 v2) (IntKind.wrap .u64 (Int.tmod x8_l1 64)))))).bind fun y20 => colophonref01_Words.l1 l0 k y20 (wi (x8_l1 + 1)))))) else some x3_l1)
def colophonref01_Words.f (l0 : List Int) : Option (List Int) := ((colophonref01_Words.l1 l0 FU ([] : List Int) 0).bind fun o24 => some o24)
def colophonref01_Words.post (w : World) (r : (List Int)) (v : Value) (w' : World) : Prop := ∃ (A0' : Option Addr) (c0' : Nat), v = (.slice A0' r.length c0' : Value) ∧ Sat w' (rf w) [osl 22 (r0 (.int .u64)) 1 A0' c0' r]
theorem colophonref01_Words.l1_ok {Q} (w0 : World) (A0 : Option Addr) (c0 : Nat) (l0 : List Int) (R0 : rdS (r0 (.int .u8)) 1 (hp w0) A0 c0 l0) (out : (List Int)) (hn0 : ∀ (A3_q : Option Addr) (c3_q : Nat) (w : World), Sat w (rf w0) [osl 22 (r0 (.int .u64)) 1 A3_q c3_q out] → At Q (.exit 0) 34 [(3, .slice A3_q out.length c3_q)] w) :
    ∀ (k : Nat) (x3_l1 : List Int) (x8_l1 : Int) (A3_l1 : Option Addr) (c3_l1 : Nat) (w : World), Sat w (rf w0) [osl 22 (r0 (.int .u64)) 1 A3_l1 c3_l1 x3_l1] → colophonref01_Words.l1 l0 k x3_l1 x8_l1 = some out → WL Try.prog (cbody (cbody (cr (cl (cr (cr C22)))))) Q 34 [(3, .slice A3_l1 x3_l1.length c3_l1), (6, .slice A0 l0.length c0), (7, .int .i64 (l0.length : Int)), (8, .int .i64 x8_l1)] w := by
  intro k
  induction k with
  | zero => intro x3_l1 x8_l1 A3_l1 c3_l1 w hS H; exact absurd (show none = some out from H) (by simp)
  | succ k ih =>
    intro x3_l1 x8_l1 A3_l1 c3_l1 w hS H
    unfold colophonref01_Words.l1 at H
    refine WL.round ?_
    refine WC.seq (by kernel_rfl) ?_
    refine WC.reg [0] (by kernel_rfl) (by kernel_rfl) ?_
    refine WR.runk [0] [] [3, 6, 7, 8, 9] (L' := [(3, .slice A3_l1 x3_l1.length c3_l1), (6, .slice A0 l0.length c0), (7, .int .i64 (l0.length : Int)), (8, .int .i64 x8_l1), (9, .bool (decide (x8_l1 < (l0.length : Int))))]) (w' := w) (by kernel_rfl) ?_
    refine WR.nil ?_
    refine At.go ?_
    refine WC.seq (by kernel_rfl) ?_
    refine WC.cond (by kernel_rfl) (decide (x8_l1 < (l0.length : Int))) (by kernel_rfl) (by kernel_rfl) (fun hb1 => ?_) (fun hb1 => ?_)
    · replace H := ite_t H hb1
      refine WC.skip (by kernel_rfl) ?_
      refine At.go ?_
      refine WC.seq (by kernel_rfl) ?_
      refine WC.block (by kernel_rfl) ?_
      refine WC.seq (by kernel_rfl) ?_
      refine WC.reg [0, 1, 2, 3, 4] (by kernel_rfl) (by kernel_rfl) ?_
      refine WR.runk [0] [1, 2, 3, 4] [3, 6, 7, 8, 10] (L' := [(3, .slice A3_l1 x3_l1.length c3_l1), (6, .slice A0 l0.length c0), (7, .int .i64 (l0.length : Int)), (8, .int .i64 x8_l1), (10, .int .i64 x8_l1)]) (w' := w) (by kernel_rfl) ?_
      obtain ⟨v2, e3, H⟩ := bind_ex H
      refine WR.st (St.ofP (PSt.idx (k := .i64) (.tmp 6) (.tmp 8) (by kernel_rfl) (by kernel_rfl) E49 (by kernel_rfl) (by kernel_rfl) (rdS.up R0 hS.sub0) e3 ?_))
      refine WR.runk [] [2, 3, 4] [3, 6, 7, 8, 10, 11] (L' := [(3, .slice A3_l1 x3_l1.length c3_l1), (6, .slice A0 l0.length c0), (7, .int .i64 (l0.length : Int)), (8, .int .i64 x8_l1), (10, .int .i64 x8_l1), (11, .pointer (some (adr A0 x8_l1.toNat 1)))]) (w' := w) (by kernel_rfl) ?_
      refine WR.st (St.ofR (RSt.loadInt (t := 5) (.tmp 11) (by kernel_rfl) (by kernel_rfl) (by kernel_rfl) (by kernel_rfl) (rdS.up R0 hS.sub0) e3 ?_))
      refine WR.runk [3, 4] [] [3, 4, 5, 6, 7, 8] (L' := [(3, .slice A3_l1 x3_l1.length c3_l1), (4, .int .i64 x8_l1), (5, .int .u8 v2), (6, .slice A0 l0.length c0), (7, .int .i64 (l0.length : Int)), (8, .int .i64 x8_l1)]) (w' := w) (by kernel_rfl) ?_
      refine WR.nil ?_
      refine At.go ?_
      refine WC.seq (by kernel_rfl) ?_
      refine WC.seq (by kernel_rfl) ?_
      refine WC.reg [0, 1, 2] (by kernel_rfl) (by kernel_rfl) ?_
      refine WR.runk [0, 1, 2] [] [3, 4, 5, 6, 7, 8, 15] (L' := [(3, .slice A3_l1 x3_l1.length c3_l1), (4, .int .i64 x8_l1), (5, .int .u8 v2), (6, .slice A0 l0.length c0), (7, .int .i64 (l0.length : Int)), (8, .int .i64 x8_l1), (15, .bool ((Int.tmod x8_l1 64) == 0))]) (w' := w) (by kernel_rfl) ?_
      refine WR.nil ?_
      refine At.go ?_
      refine WC.cond (by kernel_rfl) ((Int.tmod x8_l1 64) == 0) (by kernel_rfl) (by kernel_rfl) (fun hb4 => ?_) (fun hb4 => ?_)
      · replace H := ite_t H hb4
        refine WC.reg [0, 1, 2, 3] (by kernel_rfl) (by kernel_rfl) ?_
        refine WR.runk [0] [1, 2, 3] [3, 4, 5, 6, 7, 8, 16] (L' := [(3, .slice A3_l1 x3_l1.length c3_l1), (4, .int .i64 x8_l1), (5, .int .u8 v2), (6, .slice A0 l0.length c0), (7, .int .i64 (l0.length : Int)), (8, .int .i64 x8_l1), (16, .slice A3_l1 x3_l1.length c3_l1)]) (w' := w) (by kernel_rfl) ?_
        refine WR.st (St.box hS (by kernel_rfl) (.cells #[.int .u64 0] 22) (fun b5 => .slice (some ⟨b5, 0, none⟩) 1 1) (fun _ => by kernel_rfl) (fun b5 w6 hS => ?_))
        refine WR.runk [] [2, 3] [3, 4, 5, 6, 7, 8, 16, 17] (L' := [(3, .slice A3_l1 x3_l1.length c3_l1), (4, .int .i64 x8_l1), (5, .int .u8 v2), (6, .slice A0 l0.length c0), (7, .int .i64 (l0.length : Int)), (8, .int .i64 x8_l1), (16, .slice A3_l1 x3_l1.length c3_l1), (17, .slice (some ⟨b5, 0, none⟩) 1 1)]) (w' := w6) (by kernel_rfl) ?_
        have hS : Sat w6 (rf w0) [osl 22 (r0 (.int .u64)) 1 A3_l1 c3_l1 x3_l1, pts b5 (.cells #[.int .u64 0] 22 (0, 0))] := hS.sel [1, 0] (by kernel_rfl)
        obtain ⟨y8, e7, H⟩ := bind_ex H
        refine WR.st (St.append' (.tmp 16) (.tmp 17) (by kernel_rfl) (by kernel_rfl) E32 (r0_one _) hS (by kernel_rfl) (by kernel_rfl) (Sat.ptsAt 1 (r0 (.int .u64)) 1 ([0] : List Int) hS rfl rfl (rdL.cons1 rfl (rdL.nil _ _))) 17592186044416 (by kernel_rfl) (by kernel_rfl) e7 (fun A9 c10 w11 hS => ?_))
        refine WR.runk [3] [] [3, 4, 5, 6, 7, 8] (L' := [(3, .slice A9 y8.length c10), (4, .int .i64 x8_l1), (5, .int .u8 v2), (6, .slice A0 l0.length c0), (7, .int .i64 (l0.length : Int)), (8, .int .i64 x8_l1)]) (w' := w11) (by kernel_rfl) ?_
        refine WR.nil ?_
        refine At.go ?_
        refine WC.reg [0, 1, 2, 3, 4, 5, 6, 7, 8, 9, 10, 11, 12, 13] (by kernel_rfl) (by kernel_rfl) ?_
        refine WR.runk [0, 1, 2] [3, 4, 5, 6, 7, 8, 9, 10, 11, 12, 13] [3, 4, 5, 6, 7, 8, 19, 21] (L' := [(3, .slice A9 y8.length c10), (4, .int .i64 x8_l1), (5, .int .u8 v2), (6, .slice A0 l0.length c0), (7, .int .i64 (l0.length : Int)), (8, .int .i64 x8_l1), (19, .slice A9 y8.length c10), (21, .int .i64 (wi (Int.tdiv x8_l1 64)))]) (w' := w11) (by kernel_rfl) ?_
        obtain ⟨v12, e13, H⟩ := bind_ex H
        refine WR.st (St.ofP (PSt.idx (k := .i64) (.tmp 19) (.tmp 21) (by kernel_rfl) (by kernel_rfl) E32 (by kernel_rfl) (by kernel_rfl) (Sat.rdAt 0 hS rfl) e13 ?_))
        refine WR.runk [] [4, 5, 6, 7, 8, 9, 10, 11, 12, 13] [3, 4, 5, 6, 7, 8, 19, 21, 22] (L' := [(3, .slice A9 y8.length c10), (4, .int .i64 x8_l1), (5, .int .u8 v2), (6, .slice A0 l0.length c0), (7, .int .i64 (l0.length : Int)), (8, .int .i64 x8_l1), (19, .slice A9 y8.length c10), (21, .int .i64 (wi (Int.tdiv x8_l1 64))), (22, .pointer (some (adr A9 (wi (Int.tdiv x8_l1 64)).toNat 1)))]) (w' := w11) (by kernel_rfl) ?_
        refine WR.st (St.ofR (RSt.loadInt (t := 22) (.tmp 22) (by kernel_rfl) (by kernel_rfl) (by kernel_rfl) (by kernel_rfl) (Sat.rdAt 0 hS rfl) e13 ?_))
        refine WR.runk [5, 6, 7, 8, 9] [10, 11, 12, 13] [3, 6, 7, 8, 19, 21, 23, 25, 28] (L' := [(3, .slice A9 y8.length c10), (6, .slice A0 l0.length c0), (7, .int .i64 (l0.length : Int)), (8, .int .i64 x8_l1), (19, .slice A9 y8.length c10), (21, .int .i64 (wi (Int.tdiv x8_l1 64))), (23, .int .u64 v12), (25, .int .u64 (IntKind.wrap .u64 v2)), (28, .int .u64 (IntKind.wrap .u64 (Int.tmod x8_l1 64)))]) (w' := w11) (by kernel_rfl) ?_
        refine WR.st (St.ofP (PSt.shift (k := .u64) (k2 := .u64) (t := 22) (t2 := 33) (a := (IntKind.wrap .u64 v2)) (b := (IntKind.wrap .u64 (Int.tmod x8_l1 64))) .shl (by decide) (.tmp 25) (.tmp 28) (by kernel_rfl) (by kernel_rfl) (by kernel_rfl) (by kernel_rfl) (wrap_u64_nonneg _) ?_))
        refine WR.runk [11] [12, 13] [3, 6, 7, 8, 19, 21, 30] (L' := [(3, .slice A9 y8.length c10), (6, .slice A0 l0.length c0), (7, .int .i64 (l0.length : Int)), (8, .int .i64 x8_l1), (19, .slice A9 y8.length c10), (21, .int .i64 (wi (Int.tdiv x8_l1 64))), (30, .int .u64 (IntKind.wrap .u64 (v12 + (ishl .u64 (IntKind.wrap .u64 v2) (IntKind.wrap .u64 (Int.tmod x8_l1 64))))))]) (w' := w11) (by kernel_rfl) ?_
        refine WR.st (St.ofP (PSt.idx (k := .i64) (.tmp 19) (.tmp 21) (by kernel_rfl) (by kernel_rfl) E32 (by kernel_rfl) (by kernel_rfl) (Sat.rdAt 0 hS rfl) e13 ?_))
        refine WR.runk [] [13] [3, 6, 7, 8, 30, 31] (L' := [(3, .slice A9 y8.length c10), (6, .slice A0 l0.length c0), (7, .int .i64 (l0.length : Int)), (8, .int .i64 x8_l1), (30, .int .u64 (IntKind.wrap .u64 (v12 + (ishl .u64 (IntKind.wrap .u64 v2) (IntKind.wrap .u64 (Int.tmod x8_l1 64)))))), (31, .pointer (some (adr A9 (wi (Int.tdiv x8_l1 64)).toNat 1)))]) (w' := w11) (by kernel_rfl) ?_
        obtain ⟨y14, e15, H⟩ := bind_ex H
        refine WR.st (St.storeElem' (t := 22) (.tmp 31) (.tmp 30) (by kernel_rfl) (by kernel_rfl) (by kernel_rfl) hS (by kernel_rfl) (by kernel_rfl) rfl e15 rfl (fun w16 hS => ?_))
        have hl17 := set?_len e15
        refine WR.know 3 (.slice A9 y14.length c10) (.slice A9 y8.length c10) (by kernel_rfl) (by rw [hl17]) ?_
        refine WR.runk [] [] [3, 6, 7, 8] (L' := [(3, .slice A9 y14.length c10), (6, .slice A0 l0.length c0), (7, .int .i64 (l0.length : Int)), (8, .int .i64 x8_l1)]) (w' := w16) (by kernel_rfl) ?_
        refine WR.nil ?_
        refine At.blockNormal ?_
        refine At.go ?_
        refine WC.reg [0, 1] (by kernel_rfl) (by kernel_rfl) ?_
        refine WR.runk [0, 1] [] [3, 6, 7, 8] (L' := [(3, .slice A9 y14.length c10), (6, .slice A0 l0.length c0), (7, .int .i64 (l0.length : Int)), (8, .int .i64 (wi (x8_l1 + 1)))]) (w' := w16) (by kernel_rfl) ?_
        refine WR.nil ?_
        have hS : Sat w16 (rf w0) [osl 22 (r0 (.int .u64)) 1 A9 c10 y14] := hS.sel [0] (by kernel_rfl)
        refine At.again ?_
        refine WL.weaken [3, 6, 7, 8] (L' := [(3, .slice A9 y14.length c10), (6, .slice A0 l0.length c0), (7, .int .i64 (l0.length : Int)), (8, .int .i64 (wi (x8_l1 + 1)))]) (by kernel_rfl) ?_
        exact ih y14 (wi (x8_l1 + 1)) A9 c10 _ hS H
      · replace H := ite_f H hb4
        refine WC.skip (by kernel_rfl) ?_
        refine At.go ?_
        refine WC.reg [0, 1, 2, 3, 4, 5, 6, 7, 8, 9, 10, 11, 12, 13] (by kernel_rfl) (by kernel_rfl) ?_
        refine WR.runk [0, 1, 2] [3, 4, 5, 6, 7, 8, 9, 10, 11, 12, 13] [3, 4, 5, 6, 7, 8, 19, 21] (L' := [(3, .slice A3_l1 x3_l1.length c3_l1), (4, .int .i64 x8_l1), (5, .int .u8 v2), (6, .slice A0 l0.length c0), (7, .int .i64 (l0.length : Int)), (8, .int .i64 x8_l1), (19, .slice A3_l1 x3_l1.length c3_l1), (21, .int .i64 (wi (Int.tdiv x8_l1 64)))]) (w' := w) (by kernel_rfl) ?_
        obtain ⟨v18, e19, H⟩ := bind_ex H
        refine WR.st (St.ofP (PSt.idx (k := .i64) (.tmp 19) (.tmp 21) (by kernel_rfl) (by kernel_rfl) E32 (by kernel_rfl) (by kernel_rfl) (Sat.rdAt 0 hS rfl) e19 ?_))
        refine WR.runk [] [4, 5, 6, 7, 8, 9, 10, 11, 12, 13] [3, 4, 5, 6, 7, 8, 19, 21, 22] (L' := [(3, .slice A3_l1 x3_l1.length c3_l1), (4, .int .i64 x8_l1), (5, .int .u8 v2), (6, .slice A0 l0.length c0), (7, .int .i64 (l0.length : Int)), (8, .int .i64 x8_l1), (19, .slice A3_l1 x3_l1.length c3_l1), (21, .int .i64 (wi (Int.tdiv x8_l1 64))), (22, .pointer (some (adr A3_l1 (wi (Int.tdiv x8_l1 64)).toNat 1)))]) (w' := w) (by kernel_rfl) ?_
        refine WR.st (St.ofR (RSt.loadInt (t := 22) (.tmp 22) (by kernel_rfl) (by kernel_rfl) (by kernel_rfl) (by kernel_rfl) (Sat.rdAt 0 hS rfl) e19 ?_))
        refine WR.runk [5, 6, 7, 8, 9] [10, 11, 12, 13] [3, 6, 7, 8, 19, 21, 23, 25, 28] (L' := [(3, .slice A3_l1 x3_l1.length c3_l1), (6, .slice A0 l0.length c0), (7, .int .i64 (l0.length : Int)), (8, .int .i64 x8_l1), (19, .slice A3_l1 x3_l1.length c3_l1), (21, .int .i64 (wi (Int.tdiv x8_l1 64))), (23, .int .u64 v18), (25, .int .u64 (IntKind.wrap .u64 v2)), (28, .int .u64 (IntKind.wrap .u64 (Int.tmod x8_l1 64)))]) (w' := w) (by kernel_rfl) ?_
        refine WR.st (St.ofP (PSt.shift (k := .u64) (k2 := .u64) (t := 22) (t2 := 33) (a := (IntKind.wrap .u64 v2)) (b := (IntKind.wrap .u64 (Int.tmod x8_l1 64))) .shl (by decide) (.tmp 25) (.tmp 28) (by kernel_rfl) (by kernel_rfl) (by kernel_rfl) (by kernel_rfl) (wrap_u64_nonneg _) ?_))
        refine WR.runk [11] [12, 13] [3, 6, 7, 8, 19, 21, 30] (L' := [(3, .slice A3_l1 x3_l1.length c3_l1), (6, .slice A0 l0.length c0), (7, .int .i64 (l0.length : Int)), (8, .int .i64 x8_l1), (19, .slice A3_l1 x3_l1.length c3_l1), (21, .int .i64 (wi (Int.tdiv x8_l1 64))), (30, .int .u64 (IntKind.wrap .u64 (v18 + (ishl .u64 (IntKind.wrap .u64 v2) (IntKind.wrap .u64 (Int.tmod x8_l1 64))))))]) (w' := w) (by kernel_rfl) ?_
        refine WR.st (St.ofP (PSt.idx (k := .i64) (.tmp 19) (.tmp 21) (by kernel_rfl) (by kernel_rfl) E32 (by kernel_rfl) (by kernel_rfl) (Sat.rdAt 0 hS rfl) e19 ?_))
        refine WR.runk [] [13] [3, 6, 7, 8, 30, 31] (L' := [(3, .slice A3_l1 x3_l1.length c3_l1), (6, .slice A0 l0.length c0), (7, .int .i64 (l0.length : Int)), (8, .int .i64 x8_l1), (30, .int .u64 (IntKind.wrap .u64 (v18 + (ishl .u64 (IntKind.wrap .u64 v2) (IntKind.wrap .u64 (Int.tmod x8_l1 64)))))), (31, .pointer (some (adr A3_l1 (wi (Int.tdiv x8_l1 64)).toNat 1)))]) (w' := w) (by kernel_rfl) ?_
        obtain ⟨y20, e21, H⟩ := bind_ex H
        refine WR.st (St.storeElem' (t := 22) (.tmp 31) (.tmp 30) (by kernel_rfl) (by kernel_rfl) (by kernel_rfl) hS (by kernel_rfl) (by kernel_rfl) rfl e21 rfl (fun w22 hS => ?_))
        have hl23 := set?_len e21
        refine WR.know 3 (.slice A3_l1 y20.length c3_l1) (.slice A3_l1 x3_l1.length c3_l1) (by kernel_rfl) (by rw [hl23]) ?_
        refine WR.runk [] [] [3, 6, 7, 8] (L' := [(3, .slice A3_l1 y20.length c3_l1), (6, .slice A0 l0.length c0), (7, .int .i64 (l0.length : Int)), (8, .int .i64 x8_l1)]) (w' := w22) (by kernel_rfl) ?_
        refine WR.nil ?_
        refine At.blockNormal ?_
        refine At.go ?_
        refine WC.reg [0, 1] (by kernel_rfl) (by kernel_rfl) ?_
        refine WR.runk [0, 1] [] [3, 6, 7, 8] (L' := [(3, .slice A3_l1 y20.length c3_l1), (6, .slice A0 l0.length c0), (7, .int .i64 (l0.length : Int)), (8, .int .i64 (wi (x8_l1 + 1)))]) (w' := w22) (by kernel_rfl) ?_
        refine WR.nil ?_
        have hS : Sat w22 (rf w0) [osl 22 (r0 (.int .u64)) 1 A3_l1 c3_l1 y20] := hS.sel [0] (by kernel_rfl)
        refine At.again ?_
        refine WL.weaken [3, 6, 7, 8] (L' := [(3, .slice A3_l1 y20.length c3_l1), (6, .slice A0 l0.length c0), (7, .int .i64 (l0.length : Int)), (8, .int .i64 (wi (x8_l1 + 1)))]) (by kernel_rfl) ?_
        exact ih y20 (wi (x8_l1 + 1)) A3_l1 c3_l1 _ hS H
    · replace H := ite_f H hb1
      refine WC.exit (by kernel_rfl) ?_
      refine At.thenExit ?_
      refine At.thenExit ?_
      obtain rfl := Option.some.inj H
      have hS : Sat w (rf w0) [osl 22 (r0 (.int .u64)) 1 A3_l1 c3_l1 x3_l1] := hS.sel [0] (by kernel_rfl)
      refine At.weaken [3] (L' := [(3, .slice A3_l1 x3_l1.length c3_l1)]) (by kernel_rfl) ?_
      exact hn0 A3_l1 c3_l1 _ hS
theorem colophonref01_Words.calls (w0 : World) (A0 : Option Addr) (c0 : Nat) (l0 : List Int) (R0 : rdS (r0 (.int .u8)) 1 (hp w0) A0 c0 l0) (r : (List Int)) (H : colophonref01_Words.f l0 = some r) :
    Calls Try.prog 22 #[.slice A0 l0.length c0] w0 (fun e w' => ∃ v, e = .returned v ∧ colophonref01_Words.post w0 r v w') := by
  have hS : Sat w0 (rf w0) [] := Sat.start w0
  unfold colophonref01_Words.f at H
  refine calls_of_WC (vs := [.slice A0 l0.length c0]) Try.func22 (c := C22) (n := 34) (by kernel_rfl) (by kernel_rfl) (by kernel_rfl) ?_
  refine WC.seq (by kernel_rfl) ?_
  refine WC.reg [0] (by kernel_rfl) (by kernel_rfl) ?_
  refine WR.runk [0] [] [0] (L' := [(0, .slice A0 l0.length c0)]) (w' := w0) (by kernel_rfl) ?_
  refine WR.nil ?_
  refine At.go ?_
  refine WC.seq (by kernel_rfl) ?_
  refine WC.reg [0] (by kernel_rfl) (by kernel_rfl) ?_
  refine WR.runk [0] [] [0, 3] (L' := [(0, .slice A0 l0.length c0), (3, .slice none 0 0)]) (w' := w0) (by kernel_rfl) ?_
  refine WR.nil ?_
  refine At.go ?_
  refine WC.seq (by kernel_rfl) ?_
  refine WC.seq (by kernel_rfl) ?_
  refine WC.reg [0, 1, 2] (by kernel_rfl) (by kernel_rfl) ?_
  refine WR.runk [0, 1, 2] [] [3, 6, 7, 8] (L' := [(3, .slice none 0 0), (6, .slice A0 l0.length c0), (7, .int .i64 (l0.length : Int)), (8, .int .i64 0)]) (w' := w0) (by kernel_rfl) ?_
  refine WR.nil ?_
  refine At.go ?_
  refine WC.block (by kernel_rfl) ?_
  have hS := hS.addNil (α := Int) 22 (r0 (.int .u64)) 1
  have hS : Sat w0 (rf w0) [osl 22 (r0 (.int .u64)) 1 none 0 ([] : List Int)] := hS.sel [0] (by kernel_rfl)
  obtain ⟨o24, e25, H⟩ := bind_ex H
  refine WC.loop (by kernel_rfl) ?_
  refine WL.weaken [3, 6, 7, 8] (L' := [(3, .slice none 0 0), (6, .slice A0 l0.length c0), (7, .int .i64 (l0.length : Int)), (8, .int .i64 0)]) (by kernel_rfl) ?_
  refine colophonref01_Words.l1_ok w0 A0 c0 l0 R0 o24 (fun A3_q26 c3_q26 w27 hS => ?_) FU ([] : List Int) 0 none 0 _ hS e25
  refine At.hit ?_
  refine At.go ?_
  refine WC.seq (by kernel_rfl) ?_
  refine WC.reg [0, 1] (by kernel_rfl) (by kernel_rfl) ?_
  refine WR.runk [0, 1] [] [2] (L' := [(2, .slice A3_q26 o24.length c3_q26)]) (w' := w27) (by kernel_rfl) ?_
  refine WR.nil ?_
  refine At.go ?_
  refine WC.ret (by kernel_rfl) ?_
  obtain rfl := Option.some.inj H
  have hS : Sat w27 (rf w0) [osl 22 (r0 (.int .u64)) 1 A3_q26 c3_q26 o24] := hS.sel [0] (by kernel_rfl)
  exact At.body [.slice A3_q26 o24.length c3_q26] (by kernel_rfl) ⟨_, rfl, _, _, rfl, hS⟩
/-! ### 12 (*colophon/pack.Ints).Set -/
def pack_Ints_Set_nil0.f (a1 : Int) (a2 : Int) : Option Bool := some false
def pack_Ints_Set_nil0.post (w : World) (r : Bool) (v : Value) (w' : World) : Prop := v = (.bool r : Value) ∧ Sat w' (rf w) []
theorem pack_Ints_Set_nil0.calls (w0 : World) (a1 : Int) (a2 : Int) (r : Bool) (H : pack_Ints_Set_nil0.f a1 a2 = some r) :
    Calls Try.prog 12 #[.pointer none, .int .i64 a1, .int .u64 a2] w0 (fun e w' => ∃ v, e = .returned v ∧ pack_Ints_Set_nil0.post w0 r v w') := by
  have hS : Sat w0 (rf w0) [] := Sat.start w0
  unfold pack_Ints_Set_nil0.f at H
  refine calls_of_WC (vs := [.pointer none, .int .i64 a1, .int .u64 a2]) Try.func12 (c := C12) (n := 102) (by kernel_rfl) (by kernel_rfl) (by kernel_rfl) ?_
  refine WC.seq (by kernel_rfl) ?_
  refine WC.reg [0] (by kernel_rfl) (by kernel_rfl) ?_
  refine WR.runk [0] [] [0, 1, 2] (L' := [(0, .pointer none), (1, .int .i64 a1), (2, .int .u64 a2)]) (w' := w0) (by kernel_rfl) ?_
  refine WR.nil ?_
  refine At.go ?_
  refine WC.seq (by kernel_rfl) ?_
  refine WC.seq (by kernel_rfl) ?_
  refine WC.reg [0, 1, 2, 3, 4, 5, 6, 7, 8, 9, 10, 11, 12, 13, 14, 15, 16, 17, 18, 19, 20, 21, 22] (by kernel_rfl) (by kernel_rfl) ?_
  refine WR.runk [0, 1, 2, 3, 4, 5, 6, 7, 8, 9, 10, 11, 12, 13, 14, 15, 16, 17, 18, 19, 20, 21, 22] [] [0, 1, 2, 33] (L' := [(0, .pointer none), (1, .int .i64 a1), (2, .int .u64 a2), (33, .bool true)]) (w' := w0) (by kernel_rfl) ?_
  refine WR.nil ?_
  refine At.go ?_
  refine WC.condT (by kernel_rfl) (by kernel_rfl) (by kernel_rfl) ?_
  refine WC.seq (by kernel_rfl) ?_
  refine WC.reg [0] (by kernel_rfl) (by kernel_rfl) ?_
  refine WR.runk [0] [] [6] (L' := [(6, .bool false)]) (w' := w0) (by kernel_rfl) ?_
  refine WR.nil ?_
  refine At.go ?_
  refine WC.ret (by kernel_rfl) ?_
  refine At.thenRet ?_
  obtain rfl := Option.some.inj H
  have hS : Sat w0 (rf w0) [] := hS.sel [] (by kernel_rfl)
  exact At.body [.bool false] (by kernel_rfl) ⟨_, rfl, rfl, hS⟩
end Go.Proofs.Ytamlfkfdpgchiaa
