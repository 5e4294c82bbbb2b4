/-
  Printed by gen.py (my own tool): for each Go function a plain Lean function and the proof that a call of it does what that function says.
-/
import Derived.Test.YtcbagmeglbleaaaProg
import Derived.Test.YtcbagmeglbleaaaGM
set_option linter.unusedVariables false
set_option linter.unusedSimpArgs false
set_option maxRecDepth 100000
namespace Go.Proofs.Ytcbagmeglbleaaa
open Go Go.Gol
theorem E36 : ElemInfo Try.prog 36 22 1 24 := ElemInfo.mk' (.slice none 0 0) (by kernel_rfl) (by kernel_rfl) rfl
theorem E22 : ElemInfo Try.prog 22 5 1 1 := ElemInfo.mk' (.int .u8 0) (by kernel_rfl) (by kernel_rfl) rfl
noncomputable abbrev C15 : Code := Try.f15.body.getD .skip
noncomputable abbrev C10 : Code := Try.f10.body.getD .skip
noncomputable abbrev C14 : Code := Try.f14.body.getD .skip
noncomputable abbrev C9 : Code := Try.f9.body.getD .skip
noncomputable abbrev C16 : Code := Try.f16.body.getD .skip
noncomputable abbrev C13 : Code := Try.f13.body.getD .skip
noncomputable abbrev C8 : Code := Try.f8.body.getD .skip
noncomputable abbrev C6 : Code := Try.f6.body.getD .skip
/-! ### 15 colophon/crc.next -/
def crc_next.l1 : Nat → Int → Int → Option Int
  | 0, _, _ => none
  | k + 1, x0_l1, x5_l1 => (if decide (x5_l1 < 8) then (if ((iand .u32 x0_l1 1) == 1) then crc_next.l1 k (ixor .u32 (ishr .u32 x0_l1 1) 3988292384) (wi (x5_l1 + 1)) else crc_next.l1 k (ishr .u32 x0_l1 1) (wi (x5_l1 + 1))) else some x0_l1)
def crc_next.f (a0 : Int) (a1 : Int) : Option Int := ((crc_next.l1 FU (ixor .u32 a0 (IntKind.wrap .u32 a1)) 0).bind fun o3 => some o3)
def crc_next.post (w : World) (r : Int) (v : Value) (w' : World) : Prop := v = (.int .u32 r : Value) ∧ Sat w' (rf w) []
theorem crc_next.l1_ok {Q} (w0 : World) (out : Int) (hn0 : ∀ (w : World), Sat w (rf w0) [] → At Q (.exit 0) 23 [(0, .int .u32 out)] w) :
    ∀ (k : Nat) (x0_l1 : Int) (x5_l1 : Int) (w : World), Sat w (rf w0) [] → crc_next.l1 k x0_l1 x5_l1 = some out → WL Try.prog (cbody (cbody (cr (cl (cr (cr C15)))))) Q 23 [(0, .int .u32 x0_l1), (5, .int .i64 x5_l1)] w := by
  intro k
  induction k with
  | zero => intro x0_l1 x5_l1 w hS H; exact absurd (show none = some out from H) (by simp)
  | succ k ih =>
    intro x0_l1 x5_l1 w hS H
    unfold crc_next.l1 at H
    refine WL.round ?_
    refine WC.seq (by kernel_rfl) ?_
    refine WC.seq (by kernel_rfl) ?_
    refine WC.reg [0, 1] (by kernel_rfl) (by kernel_rfl) ?_
    refine WR.runk [0, 1] [] [0, 5, 11] (L' := [(0, .int .u32 x0_l1), (5, .int .i64 x5_l1), (11, .bool (decide (x5_l1 < 8)))]) (w' := w) (by kernel_rfl) ?_
    refine WR.nil ?_
    refine At.go ?_
    refine WC.cond (by kernel_rfl) (decide (x5_l1 < 8)) (by kernel_rfl) (by kernel_rfl) (fun hb1 => ?_) (fun hb1 => ?_)
    · replace H := ite_t H hb1
      refine WC.skip (by kernel_rfl) ?_
      refine At.go ?_
      refine WC.seq (by kernel_rfl) ?_
      refine WC.block (by kernel_rfl) ?_
      refine WC.seq (by kernel_rfl) ?_
      refine WC.reg [0, 1, 2] (by kernel_rfl) (by kernel_rfl) ?_
      refine WR.runk [0, 1, 2] [] [0, 5, 16] (L' := [(0, .int .u32 x0_l1), (5, .int .i64 x5_l1), (16, .bool ((iand .u32 x0_l1 1) == 1))]) (w' := w) (by kernel_rfl) ?_
      refine WR.nil ?_
      refine At.go ?_
      refine WC.cond (by kernel_rfl) ((iand .u32 x0_l1 1) == 1) (by kernel_rfl) (by kernel_rfl) (fun hb2 => ?_) (fun hb2 => ?_)
      · replace H := ite_t H hb2
        refine WC.reg [0, 1, 2, 3] (by kernel_rfl) (by kernel_rfl) ?_
        refine WR.runk [0, 1, 2, 3] [] [0, 5] (L' := [(0, .int .u32 (ixor .u32 (ishr .u32 x0_l1 1) 3988292384)), (5, .int .i64 x5_l1)]) (w' := w) (by kernel_rfl) ?_
        refine WR.nil ?_
        refine At.blockNormal ?_
        refine At.go ?_
        refine WC.reg [0, 1, 2] (by kernel_rfl) (by kernel_rfl) ?_
        refine WR.runk [0, 1, 2] [] [0, 5] (L' := [(0, .int .u32 (ixor .u32 (ishr .u32 x0_l1 1) 3988292384)), (5, .int .i64 (wi (x5_l1 + 1)))]) (w' := w) (by kernel_rfl) ?_
        refine WR.nil ?_
        have hS : Sat w (rf w0) [] := hS.sel [] (by kernel_rfl)
        refine At.again ?_
        refine WL.weaken [0, 5] (L' := [(0, .int .u32 (ixor .u32 (ishr .u32 x0_l1 1) 3988292384)), (5, .int .i64 (wi (x5_l1 + 1)))]) (by kernel_rfl) ?_
        exact ih (ixor .u32 (ishr .u32 x0_l1 1) 3988292384) (wi (x5_l1 + 1)) _ hS H
      · replace H := ite_f H hb2
        refine WC.reg [0, 1, 2] (by kernel_rfl) (by kernel_rfl) ?_
        refine WR.runk [0, 1, 2] [] [0, 5] (L' := [(0, .int .u32 (ishr .u32 x0_l1 1)), (5, .int .i64 x5_l1)]) (w' := w) (by kernel_rfl) ?_
        refine WR.nil ?_
        refine At.blockNormal ?_
        refine At.go ?_
        refine WC.reg [0, 1, 2] (by kernel_rfl) (by kernel_rfl) ?_
        refine WR.runk [0, 1, 2] [] [0, 5] (L' := [(0, .int .u32 (ishr .u32 x0_l1 1)), (5, .int .i64 (wi (x5_l1 + 1)))]) (w' := w) (by kernel_rfl) ?_
        refine WR.nil ?_
        have hS : Sat w (rf w0) [] := hS.sel [] (by kernel_rfl)
        refine At.again ?_
        refine WL.weaken [0, 5] (L' := [(0, .int .u32 (ishr .u32 x0_l1 1)), (5, .int .i64 (wi (x5_l1 + 1)))]) (by kernel_rfl) ?_
        exact ih (ishr .u32 x0_l1 1) (wi (x5_l1 + 1)) _ hS H
    · replace H := ite_f H hb1
      refine WC.exit (by kernel_rfl) ?_
      refine At.thenExit ?_
      refine At.thenExit ?_
      obtain rfl := Option.some.inj H
      have hS : Sat w (rf w0) [] := hS.sel [] (by kernel_rfl)
      refine At.weaken [0] (L' := [(0, .int .u32 x0_l1)]) (by kernel_rfl) ?_
      exact hn0 _ hS
theorem crc_next.calls (w0 : World) (a0 : Int) (a1 : Int) (r : Int) (H : crc_next.f a0 a1 = some r) :
    Calls Try.prog 15 #[.int .u32 a0, .int .u8 a1] w0 (fun e w' => ∃ v, e = .returned v ∧ crc_next.post w0 r v w') := by
  have hS : Sat w0 (rf w0) [] := Sat.start w0
  unfold crc_next.f at H
  refine calls_of_WC (vs := [.int .u32 a0, .int .u8 a1]) Try.func15 (c := C15) (n := 23) (by kernel_rfl) (by kernel_rfl) (by kernel_rfl) ?_
  refine WC.seq (by kernel_rfl) ?_
  refine WC.reg [0] (by kernel_rfl) (by kernel_rfl) ?_
  refine WR.runk [0] [] [0, 1] (L' := [(0, .int .u32 a0), (1, .int .u8 a1)]) (w' := w0) (by kernel_rfl) ?_
  refine WR.nil ?_
  refine At.go ?_
  refine WC.seq (by kernel_rfl) ?_
  refine WC.reg [0, 1, 2, 3, 4] (by kernel_rfl) (by kernel_rfl) ?_
  refine WR.runk [0, 1, 2, 3, 4] [] [0] (L' := [(0, .int .u32 (ixor .u32 a0 (IntKind.wrap .u32 a1)))]) (w' := w0) (by kernel_rfl) ?_
  refine WR.nil ?_
  refine At.go ?_
  refine WC.seq (by kernel_rfl) ?_
  refine WC.seq (by kernel_rfl) ?_
  refine WC.reg [0] (by kernel_rfl) (by kernel_rfl) ?_
  refine WR.runk [0] [] [0, 5] (L' := [(0, .int .u32 (ixor .u32 a0 (IntKind.wrap .u32 a1))), (5, .int .i64 0)]) (w' := w0) (by kernel_rfl) ?_
  refine WR.nil ?_
  refine At.go ?_
  refine WC.block (by kernel_rfl) ?_
  have hS : Sat w0 (rf w0) [] := hS.sel [] (by kernel_rfl)
  obtain ⟨o3, e4, H⟩ := bind_ex H
  refine WC.loop (by kernel_rfl) ?_
  refine WL.weaken [0, 5] (L' := [(0, .int .u32 (ixor .u32 a0 (IntKind.wrap .u32 a1))), (5, .int .i64 0)]) (by kernel_rfl) ?_
  refine crc_next.l1_ok w0 o3 (fun w6 hS => ?_) FU (ixor .u32 a0 (IntKind.wrap .u32 a1)) 0 _ hS e4
  refine At.hit ?_
  refine At.go ?_
  refine WC.seq (by kernel_rfl) ?_
  refine WC.reg [0, 1] (by kernel_rfl) (by kernel_rfl) ?_
  refine WR.runk [0, 1] [] [4] (L' := [(4, .int .u32 o3)]) (w' := w6) (by kernel_rfl) ?_
  refine WR.nil ?_
  refine At.go ?_
  refine WC.ret (by kernel_rfl) ?_
  obtain rfl := Option.some.inj H
  have hS : Sat w6 (rf w0) [] := hS.sel [] (by kernel_rfl)
  exact At.body [.int .u32 o3] (by kernel_rfl) ⟨_, rfl, rfl, hS⟩
/-! ### 10 colophon/crc.Sum -/
def crc_Sum.l2 (v2 : List Int) : Nat → Int → Int → Option Int
  | 0, _, _ => none
  | k + 1, x3_l2, x16_l2 => (if decide (x16_l2 < (v2.length : Int)) then ((at? v2 x16_l2).bind fun v8 => ((crc_next.f x3_l2 v8).bind fun r10 => crc_Sum.l2 v2 k r10 (wi (x16_l2 + 1)))) else some x3_l2)
def crc_Sum.l1 (l0 : List (List Int)) : Nat → Int → Int → Option Int
  | 0, _, _ => none
  | k + 1, x3_l1, x10_l1 => (if decide (x10_l1 < (l0.length : Int)) then ((at? l0 x10_l1).bind fun v2 => ((crc_Sum.l2 v2 FU x3_l1 0).bind fun o19 => crc_Sum.l1 l0 k o19 (wi (x10_l1 + 1)))) else some x3_l1)
def crc_Sum.f (l0 : List (List Int)) : Option Int := ((crc_Sum.l1 l0 FU 4294967295 0).bind fun o24 => some (ixor .u32 4294967295 o24))
def crc_Sum.post (w : World) (r : Int) (v : Value) (w' : World) : Prop := v = (.int .u32 r : Value) ∧ Sat w' (rf w) []
theorem crc_Sum.l2_ok {Q} (w0 : World) (A0 : Option Addr) (c0 : Nat) (l0 : List (List Int)) (x10_l1 : Int) (v2 : List Int) (A4 : Option Addr) (c5 : Nat) (R6 : rdS (r0 (.int .u8)) 1 (hp w0) A4 c5 v2) (out : Int) (hn0 : ∀ (w : World), Sat w (rf w0) [] → At Q (.exit 2) 27 [(3, .int .u32 out), (8, .slice A0 l0.length c0), (9, .int .i64 (l0.length : Int)), (10, .int .i64 x10_l1)] w) :
    ∀ (k : Nat) (x3_l2 : Int) (x16_l2 : Int) (w : World), Sat w (rf w0) [] → crc_Sum.l2 v2 k x3_l2 x16_l2 = some out → WL Try.prog (cbody (cbody (cr (cr (cbody (cl (cr (cr (cbody (cbody (cr (cl (cr (cr C10)))))))))))))) Q 27 [(3, .int .u32 x3_l2), (8, .slice A0 l0.length c0), (9, .int .i64 (l0.length : Int)), (10, .int .i64 x10_l1), (14, .slice A4 v2.length c5), (15, .int .i64 (v2.length : Int)), (16, .int .i64 x16_l2)] w := by
  intro k
  induction k with
  | zero => intro x3_l2 x16_l2 w hS H; exact absurd (show none = some out from H) (by simp)
  | succ k ih =>
    intro x3_l2 x16_l2 w hS H
    unfold crc_Sum.l2 at H
    refine WL.round ?_
    refine WC.seq (by kernel_rfl) ?_
    refine WC.reg [0] (by kernel_rfl) (by kernel_rfl) ?_
    refine WR.runk [0] [] [3, 8, 9, 10, 14, 15, 16, 17] (L' := [(3, .int .u32 x3_l2), (8, .slice A0 l0.length c0), (9, .int .i64 (l0.length : Int)), (10, .int .i64 x10_l1), (14, .slice A4 v2.length c5), (15, .int .i64 (v2.length : Int)), (16, .int .i64 x16_l2), (17, .bool (decide (x16_l2 < (v2.length : Int))))]) (w' := w) (by kernel_rfl) ?_
    refine WR.nil ?_
    refine At.go ?_
    refine WC.seq (by kernel_rfl) ?_
    refine WC.cond (by kernel_rfl) (decide (x16_l2 < (v2.length : Int))) (by kernel_rfl) (by kernel_rfl) (fun hb7 => ?_) (fun hb7 => ?_)
    · replace H := ite_t H hb7
      refine WC.skip (by kernel_rfl) ?_
      refine At.go ?_
      refine WC.seq (by kernel_rfl) ?_
      refine WC.block (by kernel_rfl) ?_
      refine WC.seq (by kernel_rfl) ?_
      refine WC.reg [0, 1, 2] (by kernel_rfl) (by kernel_rfl) ?_
      refine WR.runk [] [0, 1, 2] [3, 8, 9, 10, 14, 15, 16] (L' := [(3, .int .u32 x3_l2), (8, .slice A0 l0.length c0), (9, .int .i64 (l0.length : Int)), (10, .int .i64 x10_l1), (14, .slice A4 v2.length c5), (15, .int .i64 (v2.length : Int)), (16, .int .i64 x16_l2)]) (w' := w) (by kernel_rfl) ?_
      obtain ⟨v8, e9, H⟩ := bind_ex H
      refine WR.st (St.ofP (PSt.idx (k := .i64) (.tmp 14) (.tmp 16) (by kernel_rfl) (by kernel_rfl) E22 (by kernel_rfl) (by kernel_rfl) (rdS.up R6 hS.sub0) e9 ?_))
      refine WR.runk [] [1, 2] [3, 8, 9, 10, 14, 15, 16, 18] (L' := [(3, .int .u32 x3_l2), (8, .slice A0 l0.length c0), (9, .int .i64 (l0.length : Int)), (10, .int .i64 x10_l1), (14, .slice A4 v2.length c5), (15, .int .i64 (v2.length : Int)), (16, .int .i64 x16_l2), (18, .pointer (some (adr A4 x16_l2.toNat 1)))]) (w' := w) (by kernel_rfl) ?_
      refine WR.st (St.ofR (RSt.loadInt (t := 5) (.tmp 18) (by kernel_rfl) (by kernel_rfl) (by kernel_rfl) (by kernel_rfl) (rdS.up R6 hS.sub0) e9 ?_))
      refine WR.runk [2] [] [3, 7, 8, 9, 10, 14, 15, 16] (L' := [(3, .int .u32 x3_l2), (7, .int .u8 v8), (8, .slice A0 l0.length c0), (9, .int .i64 (l0.length : Int)), (10, .int .i64 x10_l1), (14, .slice A4 v2.length c5), (15, .int .i64 (v2.length : Int)), (16, .int .i64 x16_l2)]) (w' := w) (by kernel_rfl) ?_
      refine WR.nil ?_
      refine At.go ?_
      refine WC.reg [0, 1, 2, 3] (by kernel_rfl) (by kernel_rfl) ?_
      refine WR.runk [0, 1] [2, 3] [3, 8, 9, 10, 14, 15, 16, 20, 21] (L' := [(3, .int .u32 x3_l2), (8, .slice A0 l0.length c0), (9, .int .i64 (l0.length : Int)), (10, .int .i64 x10_l1), (14, .slice A4 v2.length c5), (15, .int .i64 (v2.length : Int)), (16, .int .i64 x16_l2), (20, .int .u32 x3_l2), (21, .int .u8 v8)]) (w' := w) (by kernel_rfl) ?_
      obtain ⟨r10, e11, H⟩ := bind_ex H
      refine WR.st (St.call (by kernel_rfl) (f := 15) (args := #[.int .u32 x3_l2, .int .u8 v8]) (by kernel_rfl) (crc_next.calls w x3_l2 v8 r10 e11) ?_)
      rintro _ w17 ⟨rfl, hS18⟩
      have hS : Sat w17 (rf w0) [] := hS.ext hS18
      refine WR.runk [3] [] [3, 8, 9, 10, 14, 15, 16] (L' := [(3, .int .u32 r10), (8, .slice A0 l0.length c0), (9, .int .i64 (l0.length : Int)), (10, .int .i64 x10_l1), (14, .slice A4 v2.length c5), (15, .int .i64 (v2.length : Int)), (16, .int .i64 x16_l2)]) (w' := w17) (by kernel_rfl) ?_
      refine WR.nil ?_
      refine At.blockNormal ?_
      refine At.go ?_
      refine WC.reg [0, 1] (by kernel_rfl) (by kernel_rfl) ?_
      refine WR.runk [0, 1] [] [3, 8, 9, 10, 14, 15, 16] (L' := [(3, .int .u32 r10), (8, .slice A0 l0.length c0), (9, .int .i64 (l0.length : Int)), (10, .int .i64 x10_l1), (14, .slice A4 v2.length c5), (15, .int .i64 (v2.length : Int)), (16, .int .i64 (wi (x16_l2 + 1)))]) (w' := w17) (by kernel_rfl) ?_
      refine WR.nil ?_
      have hS : Sat w17 (rf w0) [] := hS.sel [] (by kernel_rfl)
      refine At.again ?_
      refine WL.weaken [3, 8, 9, 10, 14, 15, 16] (L' := [(3, .int .u32 r10), (8, .slice A0 l0.length c0), (9, .int .i64 (l0.length : Int)), (10, .int .i64 x10_l1), (14, .slice A4 v2.length c5), (15, .int .i64 (v2.length : Int)), (16, .int .i64 (wi (x16_l2 + 1)))]) (by kernel_rfl) ?_
      exact ih r10 (wi (x16_l2 + 1)) _ hS H
    · replace H := ite_f H hb7
      refine WC.exit (by kernel_rfl) ?_
      refine At.thenExit ?_
      refine At.thenExit ?_
      obtain rfl := Option.some.inj H
      have hS : Sat w (rf w0) [] := hS.sel [] (by kernel_rfl)
      refine At.weaken [3, 8, 9, 10] (L' := [(3, .int .u32 x3_l2), (8, .slice A0 l0.length c0), (9, .int .i64 (l0.length : Int)), (10, .int .i64 x10_l1)]) (by kernel_rfl) ?_
      exact hn0 _ hS
theorem crc_Sum.l1_ok {Q} (w0 : World) (A0 : Option Addr) (c0 : Nat) (l0 : List (List Int)) (R0 : rdS (rd (hp w0) (.slice 5 (.int .u8))) 1 (hp w0) A0 c0 l0) (out : Int) (hn0 : ∀ (w : World), Sat w (rf w0) [] → At Q (.exit 0) 27 [(3, .int .u32 out)] w) :
    ∀ (k : Nat) (x3_l1 : Int) (x10_l1 : Int) (w : World), Sat w (rf w0) [] → crc_Sum.l1 l0 k x3_l1 x10_l1 = some out → WL Try.prog (cbody (cbody (cr (cl (cr (cr C10)))))) Q 27 [(3, .int .u32 x3_l1), (8, .slice A0 l0.length c0), (9, .int .i64 (l0.length : Int)), (10, .int .i64 x10_l1)] w := by
  intro k
  induction k with
  | zero => intro x3_l1 x10_l1 w hS H; exact absurd (show none = some out from H) (by simp)
  | succ k ih =>
    intro x3_l1 x10_l1 w hS H
    unfold crc_Sum.l1 at H
    refine WL.round ?_
    refine WC.seq (by kernel_rfl) ?_
    refine WC.reg [0] (by kernel_rfl) (by kernel_rfl) ?_
    refine WR.runk [0] [] [3, 8, 9, 10, 11] (L' := [(3, .int .u32 x3_l1), (8, .slice A0 l0.length c0), (9, .int .i64 (l0.length : Int)), (10, .int .i64 x10_l1), (11, .bool (decide (x10_l1 < (l0.length : Int))))]) (w' := w) (by kernel_rfl) ?_
    refine WR.nil ?_
    refine At.go ?_
    refine WC.seq (by kernel_rfl) ?_
    refine WC.cond (by kernel_rfl) (decide (x10_l1 < (l0.length : Int))) (by kernel_rfl) (by kernel_rfl) (fun hb1 => ?_) (fun hb1 => ?_)
    · replace H := ite_t H hb1
      refine WC.skip (by kernel_rfl) ?_
      refine At.go ?_
      refine WC.seq (by kernel_rfl) ?_
      refine WC.block (by kernel_rfl) ?_
      refine WC.seq (by kernel_rfl) ?_
      refine WC.reg [0, 1, 2] (by kernel_rfl) (by kernel_rfl) ?_
      refine WR.runk [] [0, 1, 2] [3, 8, 9, 10] (L' := [(3, .int .u32 x3_l1), (8, .slice A0 l0.length c0), (9, .int .i64 (l0.length : Int)), (10, .int .i64 x10_l1)]) (w' := w) (by kernel_rfl) ?_
      obtain ⟨v2, e3, H⟩ := bind_ex H
      refine WR.st (St.ofP (PSt.idx (k := .i64) (.tmp 8) (.tmp 10) (by kernel_rfl) (by kernel_rfl) E36 (by kernel_rfl) (by kernel_rfl) (rdS.up R0 hS.sub0) e3 ?_))
      refine WR.runk [] [1, 2] [3, 8, 9, 10, 12] (L' := [(3, .int .u32 x3_l1), (8, .slice A0 l0.length c0), (9, .int .i64 (l0.length : Int)), (10, .int .i64 x10_l1), (12, .pointer (some (adr A0 x10_l1.toNat 1)))]) (w' := w) (by kernel_rfl) ?_
      refine WR.st (St.ofR (RSt.loadSl (t := 22) (.tmp 12) (by kernel_rfl) (by kernel_rfl) (by kernel_rfl) (by kernel_rfl) R0 e3 hS.sub0 (fun A4 c5 R6 => ?_)))
      replace R6 : rdS (r0 (.int .u8)) 1 (hp w0) A4 c5 v2 := R6
      refine WR.runk [2] [] [3, 5, 8, 9, 10] (L' := [(3, .int .u32 x3_l1), (5, .slice A4 v2.length c5), (8, .slice A0 l0.length c0), (9, .int .i64 (l0.length : Int)), (10, .int .i64 x10_l1)]) (w' := w) (by kernel_rfl) ?_
      refine WR.nil ?_
      refine At.go ?_
      refine WC.seq (by kernel_rfl) ?_
      refine WC.reg [0, 1, 2] (by kernel_rfl) (by kernel_rfl) ?_
      refine WR.runk [0, 1, 2] [] [3, 8, 9, 10, 14, 15, 16] (L' := [(3, .int .u32 x3_l1), (8, .slice A0 l0.length c0), (9, .int .i64 (l0.length : Int)), (10, .int .i64 x10_l1), (14, .slice A4 v2.length c5), (15, .int .i64 (v2.length : Int)), (16, .int .i64 0)]) (w' := w) (by kernel_rfl) ?_
      refine WR.nil ?_
      refine At.go ?_
      refine WC.block (by kernel_rfl) ?_
      have hS : Sat w (rf w0) [] := hS.sel [] (by kernel_rfl)
      obtain ⟨o19, e20, H⟩ := bind_ex H
      refine WC.loop (by kernel_rfl) ?_
      refine WL.weaken [3, 8, 9, 10, 14, 15, 16] (L' := [(3, .int .u32 x3_l1), (8, .slice A0 l0.length c0), (9, .int .i64 (l0.length : Int)), (10, .int .i64 x10_l1), (14, .slice A4 v2.length c5), (15, .int .i64 (v2.length : Int)), (16, .int .i64 0)]) (by kernel_rfl) ?_
      refine crc_Sum.l2_ok w0 A0 c0 l0 x10_l1 v2 A4 c5 R6 o19 (fun w22 hS => ?_) FU x3_l1 0 _ hS e20
      refine At.hit ?_
      refine At.blockNormal ?_
      refine At.go ?_
      refine WC.reg [0, 1] (by kernel_rfl) (by kernel_rfl) ?_
      refine WR.runk [0, 1] [] [3, 8, 9, 10] (L' := [(3, .int .u32 o19), (8, .slice A0 l0.length c0), (9, .int .i64 (l0.length : Int)), (10, .int .i64 (wi (x10_l1 + 1)))]) (w' := w22) (by kernel_rfl) ?_
      refine WR.nil ?_
      have hS : Sat w22 (rf w0) [] := hS.sel [] (by kernel_rfl)
      refine At.again ?_
      refine WL.weaken [3, 8, 9, 10] (L' := [(3, .int .u32 o19), (8, .slice A0 l0.length c0), (9, .int .i64 (l0.length : Int)), (10, .int .i64 (wi (x10_l1 + 1)))]) (by kernel_rfl) ?_
      exact ih o19 (wi (x10_l1 + 1)) _ hS H
    · replace H := ite_f H hb1
      refine WC.exit (by kernel_rfl) ?_
      refine At.thenExit ?_
      refine At.thenExit ?_
      obtain rfl := Option.some.inj H
      have hS : Sat w (rf w0) [] := hS.sel [] (by kernel_rfl)
      refine At.weaken [3] (L' := [(3, .int .u32 x3_l1)]) (by kernel_rfl) ?_
      exact hn0 _ hS
theorem crc_Sum.calls (w0 : World) (A0 : Option Addr) (c0 : Nat) (l0 : List (List Int)) (R0 : rdS (rd (hp w0) (.slice 5 (.int .u8))) 1 (hp w0) A0 c0 l0) (r : Int) (H : crc_Sum.f l0 = some r) :
    Calls Try.prog 10 #[.slice A0 l0.length c0] w0 (fun e w' => ∃ v, e = .returned v ∧ crc_Sum.post w0 r v w') := by
  have hS : Sat w0 (rf w0) [] := Sat.start w0
  unfold crc_Sum.f at H
  refine calls_of_WC (vs := [.slice A0 l0.length c0]) Try.func10 (c := C10) (n := 27) (by kernel_rfl) (by kernel_rfl) (by kernel_rfl) ?_
  refine WC.seq (by kernel_rfl) ?_
  refine WC.reg [0] (by kernel_rfl) (by kernel_rfl) ?_
  refine WR.runk [0] [] [0] (L' := [(0, .slice A0 l0.length c0)]) (w' := w0) (by kernel_rfl) ?_
  refine WR.nil ?_
  refine At.go ?_
  refine WC.seq (by kernel_rfl) ?_
  refine WC.reg [0] (by kernel_rfl) (by kernel_rfl) ?_
  refine WR.runk [0] [] [0, 3] (L' := [(0, .slice A0 l0.length c0), (3, .int .u32 4294967295)]) (w' := w0) (by kernel_rfl) ?_
  refine WR.nil ?_
  refine At.go ?_
  refine WC.seq (by kernel_rfl) ?_
  refine WC.seq (by kernel_rfl) ?_
  refine WC.reg [0, 1, 2] (by kernel_rfl) (by kernel_rfl) ?_
  refine WR.runk [0, 1, 2] [] [3, 8, 9, 10] (L' := [(3, .int .u32 4294967295), (8, .slice A0 l0.length c0), (9, .int .i64 (l0.length : Int)), (10, .int .i64 0)]) (w' := w0) (by kernel_rfl) ?_
  refine WR.nil ?_
  refine At.go ?_
  refine WC.block (by kernel_rfl) ?_
  have hS : Sat w0 (rf w0) [] := hS.sel [] (by kernel_rfl)
  obtain ⟨o24, e25, H⟩ := bind_ex H
  refine WC.loop (by kernel_rfl) ?_
  refine WL.weaken [3, 8, 9, 10] (L' := [(3, .int .u32 4294967295), (8, .slice A0 l0.length c0), (9, .int .i64 (l0.length : Int)), (10, .int .i64 0)]) (by kernel_rfl) ?_
  refine crc_Sum.l1_ok w0 A0 c0 l0 R0 o24 (fun w27 hS => ?_) FU 4294967295 0 _ hS e25
  refine At.hit ?_
  refine At.go ?_
  refine WC.seq (by kernel_rfl) ?_
  refine WC.reg [0, 1, 2] (by kernel_rfl) (by kernel_rfl) ?_
  refine WR.runk [0, 1, 2] [] [2] (L' := [(2, .int .u32 (ixor .u32 4294967295 o24))]) (w' := w27) (by kernel_rfl) ?_
  refine WR.nil ?_
  refine At.go ?_
  refine WC.ret (by kernel_rfl) ?_
  obtain rfl := Option.some.inj H
  have hS : Sat w27 (rf w0) [] := hS.sel [] (by kernel_rfl)
  exact At.body [.int .u32 (ixor .u32 4294967295 o24)] (by kernel_rfl) ⟨_, rfl, rfl, hS⟩
/-! ### 14 slices.Clone[[]byte,byte] -/
def slices_Clone.f (l0 : List Int) : Option (List Int) := ((app? 140737488355328 (([] : List Int) : List Int) l0).bind fun y5 => some y5)
def slices_Clone.post (w : World) (r : (List Int)) (v : Value) (w' : World) : Prop := ∃ (A0' : Option Addr) (c0' : Nat), v = (.slice A0' r.length c0' : Value) ∧ Sat w' (rf w) [osl 5 (r0 (.int .u8)) 1 A0' c0' r]
theorem slices_Clone.calls (w0 : World) (A0 : Option Addr) (c0 : Nat) (l0 : List Int) (R0 : rdS (r0 (.int .u8)) 1 (hp w0) A0 c0 l0) (r : (List Int)) (H : slices_Clone.f l0 = some r) :
    Calls Try.prog 14 #[.slice A0 l0.length c0] w0 (fun e w' => ∃ v, e = .returned v ∧ slices_Clone.post w0 r v w') := by
  have hS : Sat w0 (rf w0) [] := Sat.start w0
  unfold slices_Clone.f at H
  refine calls_of_WC (vs := [.slice A0 l0.length c0]) Try.func14 (c := C14) (n := 8) (by kernel_rfl) (by kernel_rfl) (by kernel_rfl) ?_
  refine WC.seq (by kernel_rfl) ?_
  refine WC.reg [0] (by kernel_rfl) (by kernel_rfl) ?_
  refine WR.runk [0] [] [0] (L' := [(0, .slice A0 l0.length c0)]) (w' := w0) (by kernel_rfl) ?_
  refine WR.nil ?_
  refine At.go ?_
  refine WC.seq (by kernel_rfl) ?_
  refine WC.seq (by kernel_rfl) ?_
  refine WC.reg [0, 1] (by kernel_rfl) (by kernel_rfl) ?_
  refine WR.runk [0] [1] [0, 3] (L' := [(0, .slice A0 l0.length c0), (3, .slice A0 l0.length c0)]) (w' := w0) (by kernel_rfl) ?_
  refine WR.st (St.ofP (PSt.eqNil (t := 22) (t2 := 22) (e := 5) (A := A0) (m := l0.length) (c := c0) .eql (by decide) (.tmp 3) (by kernel_rfl) (by kernel_rfl) (by kernel_rfl) (by kernel_rfl) ?_))
  refine WR.runk [] [] [0, 4] (L' := [(0, .slice A0 l0.length c0), (4, .bool A0.isNone)]) (w' := w0) (by kernel_rfl) ?_
  refine WR.nil ?_
  refine At.go ?_
  refine WC.cond (by kernel_rfl) A0.isNone (by kernel_rfl) (by kernel_rfl) (fun hb1 => ?_) (fun hb1 => ?_)
  · have hnl := rdS.isNone (rdS.up R0 hS.sub0) (by simpa using hb1)
    rw [hnl] at H
    refine WC.seq (by kernel_rfl) ?_
    refine WC.reg [0] (by kernel_rfl) (by kernel_rfl) ?_
    refine WR.runk [0] [] [2] (L' := [(2, .slice none 0 0)]) (w' := w0) (by kernel_rfl) ?_
    refine WR.nil ?_
    refine At.go ?_
    refine WC.ret (by kernel_rfl) ?_
    refine At.thenRet ?_
    obtain rfl := Option.some.inj (show some ([] : List Int) = some r from H)
    have hS := hS.addNil (α := Int) 5 (r0 (.int .u8)) 1
    have hS : Sat w0 (rf w0) [osl 5 (r0 (.int .u8)) 1 none 0 ([] : List Int)] := hS.sel [0] (by kernel_rfl)
    exact At.body [.slice none 0 0] (by kernel_rfl) ⟨_, rfl, _, _, rfl, hS⟩
  · refine WC.skip (by kernel_rfl) ?_
    refine At.go ?_
    refine WC.seq (by kernel_rfl) ?_
    refine WC.reg [0, 1, 2, 3] (by kernel_rfl) (by kernel_rfl) ?_
    refine WR.runk [] [0, 1, 2, 3] [0] (L' := [(0, .slice A0 l0.length c0)]) (w' := w0) (by kernel_rfl) ?_
    refine WR.st (St.box hS (by kernel_rfl) (.cells #[] 5) (fun b2 => .slice (some ⟨b2, 0, none⟩) 0 0) (fun _ => by kernel_rfl) (fun b2 w3 hS => ?_))
    refine WR.runk [1] [2, 3] [5, 6] (L' := [(5, .slice (some ⟨b2, 0, none⟩) 0 0), (6, .slice A0 l0.length c0)]) (w' := w3) (by kernel_rfl) ?_
    have hS : Sat w3 (rf w0) [osl 5 (r0 (.int .u8)) 1 (some ⟨b2, 0, none⟩) (([] : List Int) : List Int).length (([] : List Int) : List Int)] := Sat.toOsl' (r0 (.int .u8)) 1 (([] : List Int) : List Int) hS rfl (rdL.nil _ _)
    obtain ⟨y5, e4, H⟩ := bind_ex H
    refine WR.st (St.append' (.tmp 5) (.tmp 6) (by kernel_rfl) (by kernel_rfl) E22 (r0_one _) hS (by kernel_rfl) (by kernel_rfl) (rdS.up R0 hS.sub0) 140737488355328 (by kernel_rfl) (by kernel_rfl) e4 (fun A6 c7 w8 hS => ?_))
    refine WR.runk [3] [] [2] (L' := [(2, .slice A6 y5.length c7)]) (w' := w8) (by kernel_rfl) ?_
    refine WR.nil ?_
    refine At.go ?_
    refine WC.ret (by kernel_rfl) ?_
    obtain rfl := Option.some.inj H
    have hS : Sat w8 (rf w0) [osl 5 (r0 (.int .u8)) 1 A6 c7 y5] := hS.sel [0] (by kernel_rfl)
    exact At.body [.slice A6 y5.length c7] (by kernel_rfl) ⟨_, rfl, _, _, rfl, hS⟩
/-! ### 9 colophon/crc.Put -/
def crc_Put.f (l0 : List Int) : Option (List Int) := ((crc_Sum.f ([l0] : List (List Int))).bind fun r3 => ((slices_Clone.f l0).bind fun r12 => ((app? 140737488355328 r12 ([IntKind.wrap .u8 r3, IntKind.wrap .u8 (ishr .u32 r3 8), IntKind.wrap .u8 (ishr .u32 r3 16), IntKind.wrap .u8 (ishr .u32 r3 24)] : List Int)).bind fun y26 => some y26)))
def crc_Put.post (w : World) (r : (List Int)) (v : Value) (w' : World) : Prop := ∃ (A0' : Option Addr) (c0' : Nat), v = (.slice A0' r.length c0' : Value) ∧ Sat w' (rf w) [osl 5 (r0 (.int .u8)) 1 A0' c0' r]
theorem crc_Put.calls (w0 : World) (A0 : Option Addr) (c0 : Nat) (l0 : List Int) (R0 : rdS (r0 (.int .u8)) 1 (hp w0) A0 c0 l0) (r : (List Int)) (H : crc_Put.f l0 = some r) :
    Calls Try.prog 9 #[.slice A0 l0.length c0] w0 (fun e w' => ∃ v, e = .returned v ∧ crc_Put.post w0 r v w') := by
  have hS : Sat w0 (rf w0) [] := Sat.start w0
  unfold crc_Put.f at H
  refine calls_of_WC (vs := [.slice A0 l0.length c0]) Try.func9 (c := C9) (n := 22) (by kernel_rfl) (by kernel_rfl) (by kernel_rfl) ?_
  refine WC.seq (by kernel_rfl) ?_
  refine WC.reg [0] (by kernel_rfl) (by kernel_rfl) ?_
  refine WR.runk [0] [] [0] (L' := [(0, .slice A0 l0.length c0)]) (w' := w0) (by kernel_rfl) ?_
  refine WR.nil ?_
  refine At.go ?_
  refine WC.seq (by kernel_rfl) ?_
  refine WC.reg [0, 1, 2, 3] (by kernel_rfl) (by kernel_rfl) ?_
  refine WR.runk [0] [1, 2, 3] [0, 4] (L' := [(0, .slice A0 l0.length c0), (4, .slice A0 l0.length c0)]) (w' := w0) (by kernel_rfl) ?_
  refine WR.st (St.box hS (by kernel_rfl) (.cells #[.slice A0 l0.length c0] 22) (fun b1 => .slice (some ⟨b1, 0, none⟩) 1 1) (fun _ => by kernel_rfl) (fun b1 w2 hS => ?_))
  refine WR.runk [] [2, 3] [0, 5] (L' := [(0, .slice A0 l0.length c0), (5, .slice (some ⟨b1, 0, none⟩) 1 1)]) (w' := w2) (by kernel_rfl) ?_
  obtain ⟨r3, e4, H⟩ := bind_ex H
  refine WR.st (St.call (by kernel_rfl) (f := 10) (args := #[.slice (some ⟨b1, 0, none⟩) 1 1]) (by kernel_rfl) (crc_Sum.calls w2 (some ⟨b1, 0, none⟩) 1 ([l0] : List (List Int)) (Sat.ptsAt 0 (rd (hp w2) (.slice 5 (.int .u8))) 1 ([l0] : List (List Int)) hS rfl rfl (rdL.cons1 ⟨_, _, rfl, (rdS.r0up (rdS.up R0 hS.sub0))⟩ (rdL.nil _ _))) r3 e4) ?_)
  rintro _ w10 ⟨rfl, hS11⟩
  have hS : Sat w10 (rf w0) [pts b1 (.cells #[.slice A0 l0.length c0] 22 (0, 0))] := hS.ext hS11
  refine WR.runk [3] [] [0, 3] (L' := [(0, .slice A0 l0.length c0), (3, .int .u32 r3)]) (w' := w10) (by kernel_rfl) ?_
  refine WR.nil ?_
  refine At.go ?_
  refine WC.seq (by kernel_rfl) ?_
  refine WC.reg [0, 1, 2, 3, 4, 5, 6, 7, 8, 9, 10, 11, 12, 13, 14, 15] (by kernel_rfl) (by kernel_rfl) ?_
  refine WR.runk [0] [1, 2, 3, 4, 5, 6, 7, 8, 9, 10, 11, 12, 13, 14, 15] [3, 7] (L' := [(3, .int .u32 r3), (7, .slice A0 l0.length c0)]) (w' := w10) (by kernel_rfl) ?_
  obtain ⟨r12, e13, H⟩ := bind_ex H
  refine WR.st (St.call (by kernel_rfl) (f := 14) (args := #[.slice A0 l0.length c0]) (by kernel_rfl) (slices_Clone.calls w10 A0 c0 l0 (rdS.up R0 hS.sub0) r12 e13) ?_)
  rintro _ w19 ⟨A21, c22, rfl, hS20⟩
  have hS : Sat w19 (rf w0) [osl 5 (r0 (.int .u8)) 1 A21 c22 r12, pts b1 (.cells #[.slice A0 l0.length c0] 22 (0, 0))] := hS.ext hS20
  refine WR.runk [2, 3, 4, 5, 6, 7, 8, 9, 10, 11, 12] [13, 14, 15] [8, 10, 13, 16, 19] (L' := [(8, .slice A21 r12.length c22), (10, .int .u8 (IntKind.wrap .u8 r3)), (13, .int .u8 (IntKind.wrap .u8 (ishr .u32 r3 8))), (16, .int .u8 (IntKind.wrap .u8 (ishr .u32 r3 16))), (19, .int .u8 (IntKind.wrap .u8 (ishr .u32 r3 24)))]) (w' := w19) (by kernel_rfl) ?_
  refine WR.st (St.box hS (by kernel_rfl) (.cells #[.int .u8 (IntKind.wrap .u8 r3), .int .u8 (IntKind.wrap .u8 (ishr .u32 r3 8)), .int .u8 (IntKind.wrap .u8 (ishr .u32 r3 16)), .int .u8 (IntKind.wrap .u8 (ishr .u32 r3 24))] 5) (fun b23 => .slice (some ⟨b23, 0, none⟩) 4 4) (fun _ => by kernel_rfl) (fun b23 w24 hS => ?_))
  refine WR.runk [] [14, 15] [8, 20] (L' := [(8, .slice A21 r12.length c22), (20, .slice (some ⟨b23, 0, none⟩) 4 4)]) (w' := w24) (by kernel_rfl) ?_
  have hS : Sat w24 (rf w0) [osl 5 (r0 (.int .u8)) 1 A21 c22 r12, pts b23 (.cells #[.int .u8 (IntKind.wrap .u8 r3), .int .u8 (IntKind.wrap .u8 (ishr .u32 r3 8)), .int .u8 (IntKind.wrap .u8 (ishr .u32 r3 16)), .int .u8 (IntKind.wrap .u8 (ishr .u32 r3 24))] 5 (0, 0)), pts b1 (.cells #[.slice A0 l0.length c0] 22 (0, 0))] := hS.sel [1, 0, 2] (by kernel_rfl)
  obtain ⟨y26, e25, H⟩ := bind_ex H
  refine WR.st (St.append' (.tmp 8) (.tmp 20) (by kernel_rfl) (by kernel_rfl) E22 (r0_one _) hS (by kernel_rfl) (by kernel_rfl) (Sat.ptsAt 1 (r0 (.int .u8)) 1 ([IntKind.wrap .u8 r3, IntKind.wrap .u8 (ishr .u32 r3 8), IntKind.wrap .u8 (ishr .u32 r3 16), IntKind.wrap .u8 (ishr .u32 r3 24)] : List Int) hS rfl rfl (rdL.cons1 rfl (rdL.cons1 rfl (rdL.cons1 rfl (rdL.cons1 rfl (rdL.nil _ _)))))) 140737488355328 (by kernel_rfl) (by kernel_rfl) e25 (fun A27 c28 w29 hS => ?_))
  refine WR.runk [15] [] [2] (L' := [(2, .slice A27 y26.length c28)]) (w' := w29) (by kernel_rfl) ?_
  refine WR.nil ?_
  refine At.go ?_
  refine WC.ret (by kernel_rfl) ?_
  obtain rfl := Option.some.inj H
  have hS : Sat w29 (rf w0) [osl 5 (r0 (.int .u8)) 1 A27 c28 y26] := hS.sel [0] (by kernel_rfl)
  exact At.body [.slice A27 y26.length c28] (by kernel_rfl) ⟨_, rfl, _, _, rfl, hS⟩
/-! ### 16 slices.Equal[[]byte,byte] -/
def slices_Equal.l1 (l0 : List Int) (l1 : List Int) : Nat → Int → Option (Sum Bool Unit)
  | 0, _ => none
  | k + 1, x13_l1 => (if decide (x13_l1 < (l0.length : Int)) then ((at? l0 x13_l1).bind fun v5 => ((at? l1 x13_l1).bind fun v7 => (if (v5 != v7) then some (.inl false) else slices_Equal.l1 l0 l1 k (wi (x13_l1 + 1))))) else some (.inr ()))
def slices_Equal.f (l0 : List Int) (l1 : List Int) : Option Bool := (if ((l0.length : Int) != (l1.length : Int)) then some false else ((slices_Equal.l1 l0 l1 FU 0).bind fun o10 => (match o10 with | .inl o12 => some o12 | .inr o16 => some true)))
def slices_Equal.post (w : World) (r : Bool) (v : Value) (w' : World) : Prop := v = (.bool r : Value) ∧ Sat w' (rf w) []
theorem slices_Equal.l1_ok {Q} (w0 : World) (A0 : Option Addr) (c0 : Nat) (l0 : List Int) (A1 : Option Addr) (c1 : Nat) (l1 : List Int) (R0 : rdS (r0 (.int .u8)) 1 (hp w0) A0 c0 l0) (R1 : rdS (r0 (.int .u8)) 1 (hp w0) A1 c1 l1) (out : Sum Bool Unit) (hn0 : ∀ (o0 : Bool) (w : World), out = (.inl o0) → Sat w (rf w0) [] → At Q .ret 26 [(4, .bool o0)] w) (hn1 : ∀ (o1 : Unit) (w : World), out = (.inr o1) → Sat w (rf w0) [] → At Q (.exit 0) 26 [] w) :
    ∀ (k : Nat) (x13_l1 : Int) (w : World), Sat w (rf w0) [] → slices_Equal.l1 l0 l1 k x13_l1 = some out → WL Try.prog (cbody (cbody (cr (cl (cr (cr C16)))))) Q 26 [(0, .slice A0 l0.length c0), (1, .slice A1 l1.length c1), (12, .int .i64 (l0.length : Int)), (13, .int .i64 x13_l1)] w := by
  intro k
  induction k with
  | zero => intro x13_l1 w hS H; exact absurd (show none = some out from H) (by simp)
  | succ k ih =>
    intro x13_l1 w hS H
    unfold slices_Equal.l1 at H
    refine WL.round ?_
    refine WC.seq (by kernel_rfl) ?_
    refine WC.reg [0] (by kernel_rfl) (by kernel_rfl) ?_
    refine WR.runk [0] [] [0, 1, 12, 13, 14] (L' := [(0, .slice A0 l0.length c0), (1, .slice A1 l1.length c1), (12, .int .i64 (l0.length : Int)), (13, .int .i64 x13_l1), (14, .bool (decide (x13_l1 < (l0.length : Int))))]) (w' := w) (by kernel_rfl) ?_
    refine WR.nil ?_
    refine At.go ?_
    refine WC.seq (by kernel_rfl) ?_
    refine WC.cond (by kernel_rfl) (decide (x13_l1 < (l0.length : Int))) (by kernel_rfl) (by kernel_rfl) (fun hb2 => ?_) (fun hb2 => ?_)
    · replace H := ite_t H hb2
      refine WC.skip (by kernel_rfl) ?_
      refine At.go ?_
      refine WC.seq (by kernel_rfl) ?_
      refine WC.block (by kernel_rfl) ?_
      refine WC.seq (by kernel_rfl) ?_
      refine WC.reg [0, 1] (by kernel_rfl) (by kernel_rfl) ?_
      refine WR.runk [0, 1] [] [0, 1, 5, 12, 13] (L' := [(0, .slice A0 l0.length c0), (1, .slice A1 l1.length c1), (5, .int .i64 x13_l1), (12, .int .i64 (l0.length : Int)), (13, .int .i64 x13_l1)]) (w' := w) (by kernel_rfl) ?_
      refine WR.nil ?_
      refine At.go ?_
      refine WC.seq (by kernel_rfl) ?_
      refine WC.drawn (by kernel_rfl) (by kernel_rfl) 9 (by kernel_rfl) (fun w3 hw4 => ?_)
      have hS := hS.heap hw4.1 hw4.2
      refine WD.weaken [0, 1, 5, 12, 13] (L' := [(0, .slice A0 l0.length c0), (1, .slice A1 l1.length c1), (5, .int .i64 x13_l1), (12, .int .i64 (l0.length : Int)), (13, .int .i64 x13_l1)]) (by kernel_rfl) ?_
      refine WD.pure (i := 0) (v := .slice A0 l0.length c0) (by kernel_rfl) (by kernel_rfl) (fun _ => by kernel_rfl) ?_
      refine WD.weaken [0, 1, 5, 12, 13, 16] (L' := [(0, .slice A0 l0.length c0), (1, .slice A1 l1.length c1), (5, .int .i64 x13_l1), (12, .int .i64 (l0.length : Int)), (13, .int .i64 x13_l1), (16, .slice A0 l0.length c0)]) (by kernel_rfl) ?_
      refine WD.pure (i := 1) (v := .int .i64 x13_l1) (by kernel_rfl) (by kernel_rfl) (fun _ => by kernel_rfl) ?_
      refine WD.weaken [0, 1, 5, 12, 13, 16, 17] (L' := [(0, .slice A0 l0.length c0), (1, .slice A1 l1.length c1), (5, .int .i64 x13_l1), (12, .int .i64 (l0.length : Int)), (13, .int .i64 x13_l1), (16, .slice A0 l0.length c0), (17, .int .i64 x13_l1)]) (by kernel_rfl) ?_
      obtain ⟨v5, e6, H⟩ := bind_ex H
      refine WD.ofP (i := 2) (by kernel_rfl) (PSt.idx (k := .i64) (.tmp 16) (.tmp 17) (by kernel_rfl) (by kernel_rfl) E22 (by kernel_rfl) (by kernel_rfl) (rdS.up R0 hS.sub0) e6 ?_)
      refine WD.weaken [0, 1, 5, 12, 13, 18] (L' := [(0, .slice A0 l0.length c0), (1, .slice A1 l1.length c1), (5, .int .i64 x13_l1), (12, .int .i64 (l0.length : Int)), (13, .int .i64 x13_l1), (18, .pointer (some (adr A0 x13_l1.toNat 1)))]) (by kernel_rfl) ?_
      refine WD.ofR (i := 3) (by kernel_rfl) (RSt.loadInt (t := 5) (.tmp 18) (by kernel_rfl) (by kernel_rfl) (by kernel_rfl) (by kernel_rfl) (rdS.up R0 hS.sub0) e6 ?_)
      refine WD.weaken [0, 1, 5, 12, 13, 19] (L' := [(0, .slice A0 l0.length c0), (1, .slice A1 l1.length c1), (5, .int .i64 x13_l1), (12, .int .i64 (l0.length : Int)), (13, .int .i64 x13_l1), (19, .int .u8 v5)]) (by kernel_rfl) ?_
      refine WD.pure (i := 4) (v := .slice A1 l1.length c1) (by kernel_rfl) (by kernel_rfl) (fun _ => by kernel_rfl) ?_
      refine WD.weaken [0, 1, 5, 12, 13, 19, 20] (L' := [(0, .slice A0 l0.length c0), (1, .slice A1 l1.length c1), (5, .int .i64 x13_l1), (12, .int .i64 (l0.length : Int)), (13, .int .i64 x13_l1), (19, .int .u8 v5), (20, .slice A1 l1.length c1)]) (by kernel_rfl) ?_
      refine WD.pure (i := 5) (v := .int .i64 x13_l1) (by kernel_rfl) (by kernel_rfl) (fun _ => by kernel_rfl) ?_
      refine WD.weaken [0, 1, 12, 13, 19, 20, 21] (L' := [(0, .slice A0 l0.length c0), (1, .slice A1 l1.length c1), (12, .int .i64 (l0.length : Int)), (13, .int .i64 x13_l1), (19, .int .u8 v5), (20, .slice A1 l1.length c1), (21, .int .i64 x13_l1)]) (by kernel_rfl) ?_
      obtain ⟨v7, e8, H⟩ := bind_ex H
      refine WD.ofP (i := 6) (by kernel_rfl) (PSt.idx (k := .i64) (.tmp 20) (.tmp 21) (by kernel_rfl) (by kernel_rfl) E22 (by kernel_rfl) (by kernel_rfl) (rdS.up R1 hS.sub0) e8 ?_)
      refine WD.weaken [0, 1, 12, 13, 19, 22] (L' := [(0, .slice A0 l0.length c0), (1, .slice A1 l1.length c1), (12, .int .i64 (l0.length : Int)), (13, .int .i64 x13_l1), (19, .int .u8 v5), (22, .pointer (some (adr A1 x13_l1.toNat 1)))]) (by kernel_rfl) ?_
      refine WD.ofR (i := 7) (by kernel_rfl) (RSt.loadInt (t := 5) (.tmp 22) (by kernel_rfl) (by kernel_rfl) (by kernel_rfl) (by kernel_rfl) (rdS.up R1 hS.sub0) e8 ?_)
      refine WD.weaken [0, 1, 12, 13, 19, 23] (L' := [(0, .slice A0 l0.length c0), (1, .slice A1 l1.length c1), (12, .int .i64 (l0.length : Int)), (13, .int .i64 x13_l1), (19, .int .u8 v5), (23, .int .u8 v7)]) (by kernel_rfl) ?_
      refine WD.pure (i := 8) (v := .bool (v5 != v7)) (by kernel_rfl) (by kernel_rfl) (fun _ => by kernel_rfl) ?_
      refine WD.weaken [0, 1, 12, 13, 24] (L' := [(0, .slice A0 l0.length c0), (1, .slice A1 l1.length c1), (12, .int .i64 (l0.length : Int)), (13, .int .i64 x13_l1), (24, .bool (v5 != v7))]) (by kernel_rfl) ?_
      refine WD.nil (by kernel_rfl) ?_
      refine At.go ?_
      refine WC.cond (by kernel_rfl) (v5 != v7) (by kernel_rfl) (by kernel_rfl) (fun hb9 => ?_) (fun hb9 => ?_)
      · replace H := ite_t H hb9
        refine WC.seq (by kernel_rfl) ?_
        refine WC.reg [0] (by kernel_rfl) (by kernel_rfl) ?_
        refine WR.runk [0] [] [4] (L' := [(4, .bool false)]) (w' := w3) (by kernel_rfl) ?_
        refine WR.nil ?_
        refine At.go ?_
        refine WC.ret (by kernel_rfl) ?_
        refine At.blockRet ?_
        refine At.thenRet ?_
        refine At.thenRet ?_
        obtain rfl := Option.some.inj H
        have hS : Sat w3 (rf w0) [] := hS.sel [] (by kernel_rfl)
        refine At.weaken [4] (L' := [(4, .bool false)]) (by kernel_rfl) ?_
        exact hn0 false _ rfl hS
      · replace H := ite_f H hb9
        refine WC.skip (by kernel_rfl) ?_
        refine At.blockNormal ?_
        refine At.go ?_
        refine WC.reg [0, 1] (by kernel_rfl) (by kernel_rfl) ?_
        refine WR.runk [0, 1] [] [0, 1, 12, 13] (L' := [(0, .slice A0 l0.length c0), (1, .slice A1 l1.length c1), (12, .int .i64 (l0.length : Int)), (13, .int .i64 (wi (x13_l1 + 1)))]) (w' := w3) (by kernel_rfl) ?_
        refine WR.nil ?_
        have hS : Sat w3 (rf w0) [] := hS.sel [] (by kernel_rfl)
        refine At.again ?_
        refine WL.weaken [0, 1, 12, 13] (L' := [(0, .slice A0 l0.length c0), (1, .slice A1 l1.length c1), (12, .int .i64 (l0.length : Int)), (13, .int .i64 (wi (x13_l1 + 1)))]) (by kernel_rfl) ?_
        exact ih (wi (x13_l1 + 1)) _ hS H
    · replace H := ite_f H hb2
      refine WC.exit (by kernel_rfl) ?_
      refine At.thenExit ?_
      refine At.thenExit ?_
      obtain rfl := Option.some.inj H
      have hS : Sat w (rf w0) [] := hS.sel [] (by kernel_rfl)
      refine At.weaken [] (L' := []) (by kernel_rfl) ?_
      exact hn1 () _ rfl hS
theorem slices_Equal.calls (w0 : World) (A0 : Option Addr) (c0 : Nat) (l0 : List Int) (R0 : rdS (r0 (.int .u8)) 1 (hp w0) A0 c0 l0) (A1 : Option Addr) (c1 : Nat) (l1 : List Int) (R1 : rdS (r0 (.int .u8)) 1 (hp w0) A1 c1 l1) (r : Bool) (H : slices_Equal.f l0 l1 = some r) :
    Calls Try.prog 16 #[.slice A0 l0.length c0, .slice A1 l1.length c1] w0 (fun e w' => ∃ v, e = .returned v ∧ slices_Equal.post w0 r v w') := by
  have hS : Sat w0 (rf w0) [] := Sat.start w0
  unfold slices_Equal.f at H
  refine calls_of_WC (vs := [.slice A0 l0.length c0, .slice A1 l1.length c1]) Try.func16 (c := C16) (n := 26) (by kernel_rfl) (by kernel_rfl) (by kernel_rfl) ?_
  refine WC.seq (by kernel_rfl) ?_
  refine WC.reg [0] (by kernel_rfl) (by kernel_rfl) ?_
  refine WR.runk [0] [] [0, 1] (L' := [(0, .slice A0 l0.length c0), (1, .slice A1 l1.length c1)]) (w' := w0) (by kernel_rfl) ?_
  refine WR.nil ?_
  refine At.go ?_
  refine WC.seq (by kernel_rfl) ?_
  refine WC.seq (by kernel_rfl) ?_
  refine WC.reg [0, 1, 2, 3, 4] (by kernel_rfl) (by kernel_rfl) ?_
  refine WR.runk [0, 1, 2, 3, 4] [] [0, 1, 10] (L' := [(0, .slice A0 l0.length c0), (1, .slice A1 l1.length c1), (10, .bool ((l0.length : Int) != (l1.length : Int)))]) (w' := w0) (by kernel_rfl) ?_
  refine WR.nil ?_
  refine At.go ?_
  refine WC.cond (by kernel_rfl) ((l0.length : Int) != (l1.length : Int)) (by kernel_rfl) (by kernel_rfl) (fun hb1 => ?_) (fun hb1 => ?_)
  · replace H := ite_t H hb1
    refine WC.seq (by kernel_rfl) ?_
    refine WC.reg [0] (by kernel_rfl) (by kernel_rfl) ?_
    refine WR.runk [0] [] [4] (L' := [(4, .bool false)]) (w' := w0) (by kernel_rfl) ?_
    refine WR.nil ?_
    refine At.go ?_
    refine WC.ret (by kernel_rfl) ?_
    refine At.thenRet ?_
    obtain rfl := Option.some.inj H
    have hS : Sat w0 (rf w0) [] := hS.sel [] (by kernel_rfl)
    exact At.body [.bool false] (by kernel_rfl) ⟨_, rfl, rfl, hS⟩
  · replace H := ite_f H hb1
    refine WC.skip (by kernel_rfl) ?_
    refine At.go ?_
    refine WC.seq (by kernel_rfl) ?_
    refine WC.seq (by kernel_rfl) ?_
    refine WC.reg [0, 1, 2] (by kernel_rfl) (by kernel_rfl) ?_
    refine WR.runk [0, 1, 2] [] [0, 1, 12, 13] (L' := [(0, .slice A0 l0.length c0), (1, .slice A1 l1.length c1), (12, .int .i64 (l0.length : Int)), (13, .int .i64 0)]) (w' := w0) (by kernel_rfl) ?_
    refine WR.nil ?_
    refine At.go ?_
    refine WC.block (by kernel_rfl) ?_
    have hS : Sat w0 (rf w0) [] := hS.sel [] (by kernel_rfl)
    obtain ⟨o10, e11, H⟩ := bind_ex H
    refine WC.loop (by kernel_rfl) ?_
    refine WL.weaken [0, 1, 12, 13] (L' := [(0, .slice A0 l0.length c0), (1, .slice A1 l1.length c1), (12, .int .i64 (l0.length : Int)), (13, .int .i64 0)]) (by kernel_rfl) ?_
    refine slices_Equal.l1_ok w0 A0 c0 l0 A1 c1 l1 R0 R1 o10 (fun o12 w14 ho15 hS => ?_) (fun o16 w18 ho19 hS => ?_) FU 0 _ hS e11
    · subst ho15
      dsimp only at H
      refine At.blockRet ?_
      refine At.thenRet ?_
      obtain rfl := Option.some.inj H
      have hS : Sat w14 (rf w0) [] := hS.sel [] (by kernel_rfl)
      exact At.body [.bool o12] (by kernel_rfl) ⟨_, rfl, rfl, hS⟩
    · subst ho19
      dsimp only at H
      refine At.hit ?_
      refine At.go ?_
      refine WC.seq (by kernel_rfl) ?_
      refine WC.reg [0] (by kernel_rfl) (by kernel_rfl) ?_
      refine WR.runk [0] [] [4] (L' := [(4, .bool true)]) (w' := w18) (by kernel_rfl) ?_
      refine WR.nil ?_
      refine At.go ?_
      refine WC.ret (by kernel_rfl) ?_
      obtain rfl := Option.some.inj H
      have hS : Sat w18 (rf w0) [] := hS.sel [] (by kernel_rfl)
      exact At.body [.bool true] (by kernel_rfl) ⟨_, rfl, rfl, hS⟩
/-! ### 13 colophon/crc.Cut -/
def crc_Cut.f (l0 : List Int) : Option ((List Int) × Int) := (if decide ((l0.length : Int) < 4) then some (([] : List Int), 50) else ((sub? l0 0 (wi ((l0.length : Int) - 4))).bind fun y2 => ((slices_Clone.f y2).bind fun r7 => ((crc_Put.f r7).bind fun r18 => ((slices_Equal.f r18 l0).bind fun r29 => (if (!r29) then some (([] : List Int), 40) else some (r7, 0)))))))
def crc_Cut.post (w : World) (r : (List Int) × Int) (v : Value) (w' : World) : Prop := ∃ (A0' : Option Addr) (c0' : Nat), v = .tuple #[.slice A0' r.1.length c0', .int .i64 r.2] ∧ Sat w' (rf w) [osl 5 (r0 (.int .u8)) 1 A0' c0' r.1]
theorem crc_Cut.calls (w0 : World) (A0 : Option Addr) (c0 : Nat) (l0 : List Int) (R0 : rdS (r0 (.int .u8)) 1 (hp w0) A0 c0 l0) (r : (List Int) × Int) (H : crc_Cut.f l0 = some r) :
    Calls Try.prog 13 #[.slice A0 l0.length c0] w0 (fun e w' => ∃ v, e = .returned v ∧ crc_Cut.post w0 r v w') := by
  have hS : Sat w0 (rf w0) [] := Sat.start w0
  unfold crc_Cut.f at H
  refine calls_of_WC (vs := [.slice A0 l0.length c0]) Try.func13 (c := C13) (n := 20) (by kernel_rfl) (by kernel_rfl) (by kernel_rfl) ?_
  refine WC.seq (by kernel_rfl) ?_
  refine WC.reg [0, 1] (by kernel_rfl) (by kernel_rfl) ?_
  refine WR.runk [0, 1] [] [0] (L' := [(0, .slice A0 l0.length c0)]) (w' := w0) (by kernel_rfl) ?_
  refine WR.nil ?_
  refine At.go ?_
  refine WC.seq (by kernel_rfl) ?_
  refine WC.seq (by kernel_rfl) ?_
  refine WC.reg [0, 1, 2] (by kernel_rfl) (by kernel_rfl) ?_
  refine WR.runk [0, 1, 2] [] [0, 7] (L' := [(0, .slice A0 l0.length c0), (7, .bool (decide ((l0.length : Int) < 4)))]) (w' := w0) (by kernel_rfl) ?_
  refine WR.nil ?_
  refine At.go ?_
  refine WC.cond (by kernel_rfl) (decide ((l0.length : Int) < 4)) (by kernel_rfl) (by kernel_rfl) (fun hb1 => ?_) (fun hb1 => ?_)
  · replace H := ite_t H hb1
    refine WC.seq (by kernel_rfl) ?_
    refine WC.reg [0, 1] (by kernel_rfl) (by kernel_rfl) ?_
    refine WR.runk [0, 1] [] [2, 3] (L' := [(2, .slice none 0 0), (3, .int .i64 50)]) (w' := w0) (by kernel_rfl) ?_
    refine WR.nil ?_
    refine At.go ?_
    refine WC.ret (by kernel_rfl) ?_
    refine At.thenRet ?_
    obtain rfl := Option.some.inj H
    have hS := hS.addNil (α := Int) 5 (r0 (.int .u8)) 1
    have hS : Sat w0 (rf w0) [osl 5 (r0 (.int .u8)) 1 none 0 ([] : List Int)] := hS.sel [0] (by kernel_rfl)
    exact At.body [.slice none 0 0, .int .i64 50] (by kernel_rfl) ⟨_, rfl, _, _, rfl, hS⟩
  · replace H := ite_f H hb1
    refine WC.skip (by kernel_rfl) ?_
    refine At.go ?_
    refine WC.seq (by kernel_rfl) ?_
    refine WC.reg [0, 1, 2, 3, 4, 5, 6] (by kernel_rfl) (by kernel_rfl) ?_
    refine WR.runk [0, 1, 2, 3] [4, 5, 6] [0, 8, 11] (L' := [(0, .slice A0 l0.length c0), (8, .slice A0 l0.length c0), (11, .int .i64 (wi ((l0.length : Int) - 4)))]) (w' := w0) (by kernel_rfl) ?_
    obtain ⟨y2, e3, H⟩ := bind_ex H
    refine WR.st (St.ofP (PSt.sub (A := A0) (c := c0) (.tmp 8) none (some (.tmp 11)) none (by kernel_rfl) (by kernel_rfl) E22 (by kernel_rfl) (rdS.up R0 hS.sub0).1 e3 rfl (Exists.intro IntKind.i64 (by kernel_rfl)) trivial (fun A4 c5 T6 => ?_)))
    refine WR.runk [] [5, 6] [0, 12] (L' := [(0, .slice A0 l0.length c0), (12, .slice A4 y2.length c5)]) (w' := w0) (by kernel_rfl) ?_
    obtain ⟨r7, e8, H⟩ := bind_ex H
    refine WR.st (St.call (by kernel_rfl) (f := 14) (args := #[.slice A4 y2.length c5]) (by kernel_rfl) (slices_Clone.calls w0 A4 c5 y2 (T6.rd _ _ (rdS.up R0 hS.sub0)) r7 e8) ?_)
    rintro _ w14 ⟨A16, c17, rfl, hS15⟩
    have hS : Sat w14 (rf w0) [osl 5 (r0 (.int .u8)) 1 A16 c17 r7] := hS.ext hS15
    refine WR.runk [6] [] [0, 4] (L' := [(0, .slice A0 l0.length c0), (4, .slice A16 r7.length c17)]) (w' := w14) (by kernel_rfl) ?_
    refine WR.nil ?_
    refine At.go ?_
    refine WC.seq (by kernel_rfl) ?_
    refine WC.seq (by kernel_rfl) ?_
    refine WC.reg [0, 1, 2, 3, 4] (by kernel_rfl) (by kernel_rfl) ?_
    refine WR.runk [0] [1, 2, 3, 4] [0, 4, 14] (L' := [(0, .slice A0 l0.length c0), (4, .slice A16 r7.length c17), (14, .slice A16 r7.length c17)]) (w' := w14) (by kernel_rfl) ?_
    obtain ⟨r18, e19, H⟩ := bind_ex H
    refine WR.st (St.call (by kernel_rfl) (f := 9) (args := #[.slice A16 r7.length c17]) (by kernel_rfl) (crc_Put.calls w14 A16 c17 r7 (Sat.rdAt 0 hS rfl) r18 e19) ?_)
    rintro _ w25 ⟨A27, c28, rfl, hS26⟩
    have hS : Sat w25 (rf w0) [osl 5 (r0 (.int .u8)) 1 A27 c28 r18, osl 5 (r0 (.int .u8)) 1 A16 c17 r7] := hS.ext hS26
    refine WR.runk [2] [3, 4] [4, 15, 16] (L' := [(4, .slice A16 r7.length c17), (15, .slice A27 r18.length c28), (16, .slice A0 l0.length c0)]) (w' := w25) (by kernel_rfl) ?_
    obtain ⟨r29, e30, H⟩ := bind_ex H
    refine WR.st (St.call (by kernel_rfl) (f := 16) (args := #[.slice A27 r18.length c28, .slice A0 l0.length c0]) (by kernel_rfl) (slices_Equal.calls w25 A27 c28 r18 (Sat.rdAt 0 hS rfl) A0 c0 l0 (rdS.up R0 hS.sub0) r29 e30) ?_)
    rintro _ w36 ⟨rfl, hS37⟩
    have hS : Sat w36 (rf w0) [osl 5 (r0 (.int .u8)) 1 A27 c28 r18, osl 5 (r0 (.int .u8)) 1 A16 c17 r7] := hS.ext hS37
    refine WR.runk [4] [] [4, 18] (L' := [(4, .slice A16 r7.length c17), (18, .bool (!r29))]) (w' := w36) (by kernel_rfl) ?_
    refine WR.nil ?_
    refine At.go ?_
    refine WC.cond (by kernel_rfl) (!r29) (by kernel_rfl) (by kernel_rfl) (fun hb38 => ?_) (fun hb38 => ?_)
    · replace H := ite_t H hb38
      refine WC.seq (by kernel_rfl) ?_
      refine WC.reg [0, 1] (by kernel_rfl) (by kernel_rfl) ?_
      refine WR.runk [0, 1] [] [2, 3] (L' := [(2, .slice none 0 0), (3, .int .i64 40)]) (w' := w36) (by kernel_rfl) ?_
      refine WR.nil ?_
      refine At.go ?_
      refine WC.ret (by kernel_rfl) ?_
      refine At.thenRet ?_
      obtain rfl := Option.some.inj H
      have hS := hS.addNil (α := Int) 5 (r0 (.int .u8)) 1
      have hS : Sat w36 (rf w0) [osl 5 (r0 (.int .u8)) 1 none 0 ([] : List Int)] := hS.sel [0] (by kernel_rfl)
      exact At.body [.slice none 0 0, .int .i64 40] (by kernel_rfl) ⟨_, rfl, _, _, rfl, hS⟩
    · replace H := ite_f H hb38
      refine WC.skip (by kernel_rfl) ?_
      refine At.go ?_
      refine WC.seq (by kernel_rfl) ?_
      refine WC.reg [0, 1, 2] (by kernel_rfl) (by kernel_rfl) ?_
      refine WR.runk [0, 1, 2] [] [2, 3] (L' := [(2, .slice A16 r7.length c17), (3, .int .i64 0)]) (w' := w36) (by kernel_rfl) ?_
      refine WR.nil ?_
      refine At.go ?_
      refine WC.ret (by kernel_rfl) ?_
      obtain rfl := Option.some.inj H
      have hS : Sat w36 (rf w0) [osl 5 (r0 (.int .u8)) 1 A16 c17 r7] := hS.sel [1] (by kernel_rfl)
      exact At.body [.slice A16 r7.length c17, .int .i64 0] (by kernel_rfl) ⟨_, rfl, _, _, rfl, hS⟩
/-! ### 8 colophon/colophonlaw04.first -/
def colophonlaw04_first.f : Option Bool := ((crc_Put.f ([97, 98] : List Int)).bind fun r4 => ((crc_Cut.f r4).bind fun r15 => ((crc_Cut.f ([97, 98, 99, 100, 101, 102] : List Int)).bind fun r29 => ((crc_Sum.f ([([49, 50, 51, 52] : List Int), ([53, 54, 55, 56, 57] : List Int)] : List (List Int))).bind fun r48 => (if (r48 == 3421780262) then (if (r15.2 == 0) then (if ((bs r15.1).toList == (⟨#[97, 98]⟩ : ByteArray).toList) then some (r29.2 == 40) else some false) else some false) else some false)))))
def colophonlaw04_first.post (w : World) (r : Bool) (v : Value) (w' : World) : Prop := v = (.bool r : Value) ∧ Sat w' (rf w) []
theorem colophonlaw04_first.calls (w0 : World) (r : Bool) (H : colophonlaw04_first.f = some r) :
    Calls Try.prog 8 #[] w0 (fun e w' => ∃ v, e = .returned v ∧ colophonlaw04_first.post w0 r v w') := by
  have hS : Sat w0 (rf w0) [] := Sat.start w0
  unfold colophonlaw04_first.f at H
  refine calls_of_WC (vs := []) Try.func8 (c := C8) (n := 38) (by kernel_rfl) (by kernel_rfl) (by kernel_rfl) ?_
  refine WC.seq (by kernel_rfl) ?_
  refine WC.reg [0] (by kernel_rfl) (by kernel_rfl) ?_
  refine WR.runk [0] [] [] (L' := []) (w' := w0) (by kernel_rfl) ?_
  refine WR.nil ?_
  refine At.go ?_
  refine WC.seq (by kernel_rfl) ?_
  refine WC.reg [0, 1, 2, 3, 4, 5, 6, 7, 8] (by kernel_rfl) (by kernel_rfl) ?_
  refine WR.st (St.box hS (by kernel_rfl) (.cells #[.int .u8 97, .int .u8 98] 5) (fun b1 => .slice (some ⟨b1, 0, none⟩) 2 2) (fun _ => by kernel_rfl) (fun b1 w2 hS => ?_))
  refine WR.runk [] [1, 2, 3, 4, 5, 6, 7, 8] [6] (L' := [(6, .slice (some ⟨b1, 0, none⟩) 2 2)]) (w' := w2) (by kernel_rfl) ?_
  refine WR.st (St.mark (t := 22) (e := 5) (m := 2) (cp := 2) (.tmp 6) (by kernel_rfl) (by kernel_rfl) (by kernel_rfl) (by kernel_rfl) hS (by kernel_rfl) (fun w3 hS => ?_))
  refine WR.runk [] [2, 3, 4, 5, 6, 7, 8] [7] (L' := [(7, .slice (some ⟨b1, 0, none⟩) 2 2)]) (w' := w3) (by kernel_rfl) ?_
  obtain ⟨r4, e5, H⟩ := bind_ex H
  refine WR.st (St.call (by kernel_rfl) (f := 9) (args := #[.slice (some ⟨b1, 0, none⟩) 2 2]) (by kernel_rfl) (crc_Put.calls w3 (some ⟨b1, 0, none⟩) 2 ([97, 98] : List Int) (Sat.ptsAt 0 (r0 (.int .u8)) 1 ([97, 98] : List Int) hS rfl rfl (rdL.cons1 rfl (rdL.cons1 rfl (rdL.nil _ _)))) r4 e5) ?_)
  rintro _ w11 ⟨A13, c14, rfl, hS12⟩
  have hS : Sat w11 (rf w0) [osl 5 (r0 (.int .u8)) 1 A13 c14 r4, pts b1 (.cells #[.int .u8 97, .int .u8 98] 5 (2, 3))] := hS.ext hS12
  refine WR.runk [] [3, 4, 5, 6, 7, 8] [8] (L' := [(8, .slice A13 r4.length c14)]) (w' := w11) (by kernel_rfl) ?_
  obtain ⟨r15, e16, H⟩ := bind_ex H
  refine WR.st (St.call (by kernel_rfl) (f := 13) (args := #[.slice A13 r4.length c14]) (by kernel_rfl) (crc_Cut.calls w11 A13 c14 r4 (Sat.rdAt 0 hS rfl) r15 e16) ?_)
  rintro _ w22 ⟨A24, c25, rfl, hS23⟩
  have hS : Sat w22 (rf w0) [osl 5 (r0 (.int .u8)) 1 A24 c25 r15.1, osl 5 (r0 (.int .u8)) 1 A13 c14 r4, pts b1 (.cells #[.int .u8 97, .int .u8 98] 5 (2, 3))] := hS.ext hS23
  refine WR.runk [4, 5, 6, 7, 8] [] [1, 2] (L' := [(1, .slice A24 r15.1.length c25), (2, .int .i64 r15.2)]) (w' := w22) (by kernel_rfl) ?_
  refine WR.nil ?_
  refine At.go ?_
  refine WC.seq (by kernel_rfl) ?_
  refine WC.reg [0, 1, 2, 3, 4, 5, 6, 7] (by kernel_rfl) (by kernel_rfl) ?_
  refine WR.st (St.box hS (by kernel_rfl) (.cells #[.int .u8 97, .int .u8 98, .int .u8 99, .int .u8 100, .int .u8 101, .int .u8 102] 5) (fun b26 => .slice (some ⟨b26, 0, none⟩) 6 6) (fun _ => by kernel_rfl) (fun b26 w27 hS => ?_))
  refine WR.runk [] [1, 2, 3, 4, 5, 6, 7] [1, 2, 13] (L' := [(1, .slice A24 r15.1.length c25), (2, .int .i64 r15.2), (13, .slice (some ⟨b26, 0, none⟩) 6 6)]) (w' := w27) (by kernel_rfl) ?_
  refine WR.st (St.mark (t := 22) (e := 5) (m := 6) (cp := 6) (.tmp 13) (by kernel_rfl) (by kernel_rfl) (by kernel_rfl) (by kernel_rfl) hS (by kernel_rfl) (fun w28 hS => ?_))
  refine WR.runk [] [2, 3, 4, 5, 6, 7] [1, 2, 14] (L' := [(1, .slice A24 r15.1.length c25), (2, .int .i64 r15.2), (14, .slice (some ⟨b26, 0, none⟩) 6 6)]) (w' := w28) (by kernel_rfl) ?_
  obtain ⟨r29, e30, H⟩ := bind_ex H
  refine WR.st (St.call (by kernel_rfl) (f := 13) (args := #[.slice (some ⟨b26, 0, none⟩) 6 6]) (by kernel_rfl) (crc_Cut.calls w28 (some ⟨b26, 0, none⟩) 6 ([97, 98, 99, 100, 101, 102] : List Int) (Sat.ptsAt 0 (r0 (.int .u8)) 1 ([97, 98, 99, 100, 101, 102] : List Int) hS rfl rfl (rdL.cons1 rfl (rdL.cons1 rfl (rdL.cons1 rfl (rdL.cons1 rfl (rdL.cons1 rfl (rdL.cons1 rfl (rdL.nil _ _)))))))) r29 e30) ?_)
  rintro _ w36 ⟨A38, c39, rfl, hS37⟩
  have hS : Sat w36 (rf w0) [osl 5 (r0 (.int .u8)) 1 A38 c39 r29.1, pts b26 (.cells #[.int .u8 97, .int .u8 98, .int .u8 99, .int .u8 100, .int .u8 101, .int .u8 102] 5 (6, 7)), osl 5 (r0 (.int .u8)) 1 A24 c25 r15.1, osl 5 (r0 (.int .u8)) 1 A13 c14 r4, pts b1 (.cells #[.int .u8 97, .int .u8 98] 5 (2, 3))] := hS.ext hS37
  refine WR.runk [3, 4, 5, 6, 7] [] [1, 2, 4] (L' := [(1, .slice A24 r15.1.length c25), (2, .int .i64 r15.2), (4, .int .i64 r29.2)]) (w' := w36) (by kernel_rfl) ?_
  refine WR.nil ?_
  refine At.go ?_
  refine WC.seq (by kernel_rfl) ?_
  refine WC.reg [0, 1, 2, 3, 4, 5, 6, 7, 8, 9, 10, 11, 12, 13, 14, 15, 16, 17, 18, 19, 20] (by kernel_rfl) (by kernel_rfl) ?_
  refine WR.st (St.box hS (by kernel_rfl) (.cells #[.int .u8 49, .int .u8 50, .int .u8 51, .int .u8 52] 5) (fun b40 => .slice (some ⟨b40, 0, none⟩) 4 4) (fun _ => by kernel_rfl) (fun b40 w41 hS => ?_))
  refine WR.runk [] [1, 2, 3, 4, 5, 6, 7, 8, 9, 10, 11, 12, 13, 14, 15, 16, 17, 18, 19, 20] [1, 2, 4, 18] (L' := [(1, .slice A24 r15.1.length c25), (2, .int .i64 r15.2), (4, .int .i64 r29.2), (18, .slice (some ⟨b40, 0, none⟩) 4 4)]) (w' := w41) (by kernel_rfl) ?_
  refine WR.st (St.mark (t := 22) (e := 5) (m := 4) (cp := 4) (.tmp 18) (by kernel_rfl) (by kernel_rfl) (by kernel_rfl) (by kernel_rfl) hS (by kernel_rfl) (fun w42 hS => ?_))
  refine WR.runk [] [2, 3, 4, 5, 6, 7, 8, 9, 10, 11, 12, 13, 14, 15, 16, 17, 18, 19, 20] [1, 2, 4, 19] (L' := [(1, .slice A24 r15.1.length c25), (2, .int .i64 r15.2), (4, .int .i64 r29.2), (19, .slice (some ⟨b40, 0, none⟩) 4 4)]) (w' := w42) (by kernel_rfl) ?_
  refine WR.st (St.box hS (by kernel_rfl) (.cells #[.int .u8 53, .int .u8 54, .int .u8 55, .int .u8 56, .int .u8 57] 5) (fun b43 => .slice (some ⟨b43, 0, none⟩) 5 5) (fun _ => by kernel_rfl) (fun b43 w44 hS => ?_))
  refine WR.runk [] [3, 4, 5, 6, 7, 8, 9, 10, 11, 12, 13, 14, 15, 16, 17, 18, 19, 20] [1, 2, 4, 19, 20] (L' := [(1, .slice A24 r15.1.length c25), (2, .int .i64 r15.2), (4, .int .i64 r29.2), (19, .slice (some ⟨b40, 0, none⟩) 4 4), (20, .slice (some ⟨b43, 0, none⟩) 5 5)]) (w' := w44) (by kernel_rfl) ?_
  refine WR.st (St.mark (t := 22) (e := 5) (m := 5) (cp := 5) (.tmp 20) (by kernel_rfl) (by kernel_rfl) (by kernel_rfl) (by kernel_rfl) hS (by kernel_rfl) (fun w45 hS => ?_))
  refine WR.runk [] [4, 5, 6, 7, 8, 9, 10, 11, 12, 13, 14, 15, 16, 17, 18, 19, 20] [1, 2, 4, 19, 21] (L' := [(1, .slice A24 r15.1.length c25), (2, .int .i64 r15.2), (4, .int .i64 r29.2), (19, .slice (some ⟨b40, 0, none⟩) 4 4), (21, .slice (some ⟨b43, 0, none⟩) 5 5)]) (w' := w45) (by kernel_rfl) ?_
  refine WR.st (St.box hS (by kernel_rfl) (.cells #[.slice (some ⟨b40, 0, none⟩) 4 4, .slice (some ⟨b43, 0, none⟩) 5 5] 22) (fun b46 => .slice (some ⟨b46, 0, none⟩) 2 2) (fun _ => by kernel_rfl) (fun b46 w47 hS => ?_))
  refine WR.runk [] [5, 6, 7, 8, 9, 10, 11, 12, 13, 14, 15, 16, 17, 18, 19, 20] [1, 2, 4, 22] (L' := [(1, .slice A24 r15.1.length c25), (2, .int .i64 r15.2), (4, .int .i64 r29.2), (22, .slice (some ⟨b46, 0, none⟩) 2 2)]) (w' := w47) (by kernel_rfl) ?_
  obtain ⟨r48, e49, H⟩ := bind_ex H
  refine WR.st (St.call (by kernel_rfl) (f := 10) (args := #[.slice (some ⟨b46, 0, none⟩) 2 2]) (by kernel_rfl) (crc_Sum.calls w47 (some ⟨b46, 0, none⟩) 2 ([([49, 50, 51, 52] : List Int), ([53, 54, 55, 56, 57] : List Int)] : List (List Int)) (Sat.ptsAt 0 (rd (hp w47) (.slice 5 (.int .u8))) 1 ([([49, 50, 51, 52] : List Int), ([53, 54, 55, 56, 57] : List Int)] : List (List Int)) hS rfl rfl (rdL.cons1 ⟨_, _, rfl, (rdS.r0up (Sat.ptsAt 2 (r0 (.int .u8)) 1 ([49, 50, 51, 52] : List Int) hS rfl rfl (rdL.cons1 rfl (rdL.cons1 rfl (rdL.cons1 rfl (rdL.cons1 rfl (rdL.nil _ _)))))))⟩ (rdL.cons1 ⟨_, _, rfl, (rdS.r0up (Sat.ptsAt 1 (r0 (.int .u8)) 1 ([53, 54, 55, 56, 57] : List Int) hS rfl rfl (rdL.cons1 rfl (rdL.cons1 rfl (rdL.cons1 rfl (rdL.cons1 rfl (rdL.cons1 rfl (rdL.nil _ _))))))))⟩ (rdL.nil _ _)))) r48 e49) ?_)
  rintro _ w55 ⟨rfl, hS56⟩
  have hS : Sat w55 (rf w0) [pts b46 (.cells #[.slice (some ⟨b40, 0, none⟩) 4 4, .slice (some ⟨b43, 0, none⟩) 5 5] 22 (0, 0)), pts b43 (.cells #[.int .u8 53, .int .u8 54, .int .u8 55, .int .u8 56, .int .u8 57] 5 (5, 6)), pts b40 (.cells #[.int .u8 49, .int .u8 50, .int .u8 51, .int .u8 52] 5 (4, 5)), osl 5 (r0 (.int .u8)) 1 A38 c39 r29.1, pts b26 (.cells #[.int .u8 97, .int .u8 98, .int .u8 99, .int .u8 100, .int .u8 101, .int .u8 102] 5 (6, 7)), osl 5 (r0 (.int .u8)) 1 A24 c25 r15.1, osl 5 (r0 (.int .u8)) 1 A13 c14 r4, pts b1 (.cells #[.int .u8 97, .int .u8 98] 5 (2, 3))] := hS.ext hS56
  refine WR.runk [6, 7] [8, 9, 10, 11, 12, 13, 14, 15, 16, 17, 18, 19, 20] [1, 2, 4, 25] (L' := [(1, .slice A24 r15.1.length c25), (2, .int .i64 r15.2), (4, .int .i64 r29.2), (25, .bool (r48 == 3421780262))]) (w' := w55) (by kernel_rfl) ?_
  refine WR.split 25 (b := (r48 == 3421780262)) (by kernel_rfl) (fun hb57 => ?_) (fun hb57 => ?_)
  · replace H := ite_t H hb57
    refine WR.runk [8, 9, 10, 11] [12, 13, 14, 15, 16, 17, 18, 19, 20] [1, 4, 29] (L' := [(1, .slice A24 r15.1.length c25), (4, .int .i64 r29.2), (29, .bool (r15.2 == 0))]) (w' := w55) (by kernel_rfl) ?_
    refine WR.split 29 (b := (r15.2 == 0)) (by kernel_rfl) (fun hb58 => ?_) (fun hb58 => ?_)
    · replace H := ite_t H hb58
      refine WR.runk [12] [13, 14, 15, 16, 17, 18, 19, 20] [4, 29, 30] (L' := [(4, .int .i64 r29.2), (29, .bool true), (30, .slice A24 r15.1.length c25)]) (w' := w55) (by kernel_rfl) ?_
      refine WR.st (St.ofR (RSt.toStr (src := 22) (dst := 9) (e := 5) (.tmp 30) (by kernel_rfl) (by kernel_rfl) (by kernel_rfl) (by kernel_rfl) (by kernel_rfl) (by kernel_rfl) (Sat.rdAt 5 hS rfl) ?_))
      refine WR.runk [14, 15, 16] [17, 18, 19, 20] [4, 34] (L' := [(4, .int .i64 r29.2), (34, .bool ((bs r15.1).toList == (⟨#[97, 98]⟩ : ByteArray).toList))]) (w' := w55) (by kernel_rfl) ?_
      refine WR.split 34 (b := ((bs r15.1).toList == (⟨#[97, 98]⟩ : ByteArray).toList)) (by kernel_rfl) (fun hb59 => ?_) (fun hb59 => ?_)
      · replace H := ite_t H hb59
        refine WR.runk [17, 18, 19, 20] [] [0] (L' := [(0, .bool (r29.2 == 40))]) (w' := w55) (by kernel_rfl) ?_
        refine WR.nil ?_
        refine At.go ?_
        refine WC.ret (by kernel_rfl) ?_
        obtain rfl := Option.some.inj H
        have hS : Sat w55 (rf w0) [] := hS.sel [] (by kernel_rfl)
        exact At.body [.bool (r29.2 == 40)] (by kernel_rfl) ⟨_, rfl, rfl, hS⟩
      · replace H := ite_f H hb59
        refine WR.runk [17, 18, 19, 20] [] [0] (L' := [(0, .bool false)]) (w' := w55) (by kernel_rfl) ?_
        refine WR.nil ?_
        refine At.go ?_
        refine WC.ret (by kernel_rfl) ?_
        obtain rfl := Option.some.inj H
        have hS : Sat w55 (rf w0) [] := hS.sel [] (by kernel_rfl)
        exact At.body [.bool false] (by kernel_rfl) ⟨_, rfl, rfl, hS⟩
    · replace H := ite_f H hb58
      refine WR.runk [12, 13, 14, 15, 16, 17, 18, 19, 20] [] [0] (L' := [(0, .bool false)]) (w' := w55) (by kernel_rfl) ?_
      refine WR.nil ?_
      refine At.go ?_
      refine WC.ret (by kernel_rfl) ?_
      obtain rfl := Option.some.inj H
      have hS : Sat w55 (rf w0) [] := hS.sel [] (by kernel_rfl)
      exact At.body [.bool false] (by kernel_rfl) ⟨_, rfl, rfl, hS⟩
  · replace H := ite_f H hb57
    refine WR.runk [8, 9, 10, 11, 12, 13, 14, 15, 16, 17, 18, 19, 20] [] [0] (L' := [(0, .bool false)]) (w' := w55) (by kernel_rfl) ?_
    refine WR.nil ?_
    refine At.go ?_
    refine WC.ret (by kernel_rfl) ?_
    obtain rfl := Option.some.inj H
    have hS : Sat w55 (rf w0) [] := hS.sel [] (by kernel_rfl)
    exact At.body [.bool false] (by kernel_rfl) ⟨_, rfl, rfl, hS⟩
end Go.Proofs.Ytcbagmeglbleaaa
