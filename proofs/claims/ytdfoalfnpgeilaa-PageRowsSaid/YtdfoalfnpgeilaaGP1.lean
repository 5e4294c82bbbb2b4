/-
  Printed by gen.py (my own tool): for each Go function a plain Lean function and the proof that a call of it does what that function says.
-/
import Derived.Test.YtdfoalfnpgeilaaProg
import Derived.Test.YtdfoalfnpgeilaaGM
set_option linter.unusedVariables false
set_option linter.unusedSimpArgs false
set_option maxRecDepth 100000
namespace Go.Proofs.Ytdfoalfnpgeilaa
open Go Go.Gol
theorem E48 : ElemInfo Try.prog 48 22 1 24 := ElemInfo.mk' (.slice none 0 0) (by kernel_rfl) (by kernel_rfl) rfl
theorem E22 : ElemInfo Try.prog 22 5 1 1 := ElemInfo.mk' (.int .u8 0) (by kernel_rfl) (by kernel_rfl) rfl
noncomputable abbrev C21 : Code := Try.f21.body.getD .skip
noncomputable abbrev C18 : Code := Try.f18.body.getD .skip
noncomputable abbrev C19 : Code := Try.f19.body.getD .skip
noncomputable abbrev C15 : Code := Try.f15.body.getD .skip
noncomputable abbrev C9 : Code := Try.f9.body.getD .skip
noncomputable abbrev C20 : Code := Try.f20.body.getD .skip
noncomputable abbrev C16 : Code := Try.f16.body.getD .skip
noncomputable abbrev C11 : Code := Try.f11.body.getD .skip
noncomputable abbrev C14 : Code := Try.f14.body.getD .skip
noncomputable abbrev C8 : Code := Try.f8.body.getD .skip
noncomputable abbrev C17 : Code := Try.f17.body.getD .skip
noncomputable abbrev C12 : Code := Try.f12.body.getD .skip
noncomputable abbrev C10 : Code := Try.f10.body.getD .skip
noncomputable abbrev C3 : Code := Try.f3.body.getD .skip
noncomputable abbrev C13 : Code := Try.f13.body.getD .skip
noncomputable abbrev C4 : Code := Try.f4.body.getD .skip
noncomputable abbrev C5 : Code := Try.f5.body.getD .skip
noncomputable abbrev C6 : Code := Try.f6.body.getD .skip
noncomputable abbrev C7 : Code := Try.f7.body.getD .skip
/-! ### 21 colophon/crc.next -/
def crc_next.l1 : Nat → Int → Int → Option Int
  | 0, _, _ => none
  | k + 1, x0_l1, x5_l1 => (if decide (x5_l1 < 8) then (if ((iand .u32 x0_l1 1) == 1) then crc_next.l1 k (ixor .u32 (ishr .u32 x0_l1 1) 3988292384) (wi (x5_l1 + 1)) else crc_next.l1 k (ishr .u32 x0_l1 1) (wi (x5_l1 + 1))) else some x0_l1)
def crc_next.f (a0 : Int) (a1 : Int) : Option Int := ((crc_next.l1 FU (ixor .u32 a0 (IntKind.wrap .u32 a1)) 0).bind fun o3 => some o3)
def crc_next.post (w : World) (r : Int) (v : Value) (w' : World) : Prop := v = (.int .u32 r : Value) ∧ Sat w' (rf w) []
theorem crc_next.l1_ok {Q} (w0 : World) (out : Int) (hn0 : ∀ (w : World), Sat w (rf w0) [] → At Q (.exit 0) 23 [(0, .int .u32 out)] w) :
    ∀ (k : Nat) (x0_l1 : Int) (x5_l1 : Int) (w : World), Sat w (rf w0) [] → crc_next.l1 k x0_l1 x5_l1 = some out → WL Try.prog (cbody (cbody (cr (cl (cr (cr C21)))))) Q 23 [(0, .int .u32 x0_l1), (5, .int .i64 x5_l1)] w := by
  intro k
  induction k with
  | zero => intro x0_l1 x5_l1 w hS H; exact absurd (show none = some out from H) (by simp)
  | succ k ih =>
    intro x0_l1 x5_l1 w hS H
    unfold crc_next.l1 at H
    refine WL.round ?_
    refine WC.seq (by kernel_rfl) ?_
    refine WC.seq (by kernel_rfl) ?_
    refine WC.reg [0, 1] (by kernel_rfl) (by kernel_rfl) ?_
    refine WR.runk [0, 1] [] [0, 5, 11] (L' := [(0, .int .u32 x0_l1), (5, .int .i64 x5_l1), (11, .bool (decide (x5_l1 < 8)))]) (w' := w) (by kernel_rfl) ?_
    refine WR.nil ?_
    refine At.go ?_
    refine WC.cond (by kernel_rfl) (decide (x5_l1 < 8)) (by kernel_rfl) (by kernel_rfl) (fun hb1 => ?_) (fun hb1 => ?_)
    · replace H := ite_t H hb1
      refine WC.skip (by kernel_rfl) ?_
      refine At.go ?_
      refine WC.seq (by kernel_rfl) ?_
      refine WC.block (by kernel_rfl) ?_
      refine WC.seq (by kernel_rfl) ?_
      refine WC.reg [0, 1, 2] (by kernel_rfl) (by kernel_rfl) ?_
      refine WR.runk [0, 1, 2] [] [0, 5, 16] (L' := [(0, .int .u32 x0_l1), (5, .int .i64 x5_l1), (16, .bool ((iand .u32 x0_l1 1) == 1))]) (w' := w) (by kernel_rfl) ?_
      refine WR.nil ?_
      refine At.go ?_
      refine WC.cond (by kernel_rfl) ((iand .u32 x0_l1 1) == 1) (by kernel_rfl) (by kernel_rfl) (fun hb2 => ?_) (fun hb2 => ?_)
      · replace H := ite_t H hb2
        refine WC.reg [0, 1, 2, 3] (by kernel_rfl) (by kernel_rfl) ?_
        refine WR.runk [0, 1, 2, 3] [] [0, 5] (L' := [(0, .int .u32 (ixor .u32 (ishr .u32 x0_l1 1) 3988292384)), (5, .int .i64 x5_l1)]) (w' := w) (by kernel_rfl) ?_
        refine WR.nil ?_
        refine At.blockNormal ?_
        refine At.go ?_
        refine WC.reg [0, 1, 2] (by kernel_rfl) (by kernel_rfl) ?_
        refine WR.runk [0, 1, 2] [] [0, 5] (L' := [(0, .int .u32 (ixor .u32 (ishr .u32 x0_l1 1) 3988292384)), (5, .int .i64 (wi (x5_l1 + 1)))]) (w' := w) (by kernel_rfl) ?_
        refine WR.nil ?_
        have hS : Sat w (rf w0) [] := hS.sel [] (by kernel_rfl)
        refine At.again ?_
        refine WL.weaken [0, 5] (L' := [(0, .int .u32 (ixor .u32 (ishr .u32 x0_l1 1) 3988292384)), (5, .int .i64 (wi (x5_l1 + 1)))]) (by kernel_rfl) ?_
        exact ih (ixor .u32 (ishr .u32 x0_l1 1) 3988292384) (wi (x5_l1 + 1)) _ hS H
      · replace H := ite_f H hb2
        refine WC.reg [0, 1, 2] (by kernel_rfl) (by kernel_rfl) ?_
        refine WR.runk [0, 1, 2] [] [0, 5] (L' := [(0, .int .u32 (ishr .u32 x0_l1 1)), (5, .int .i64 x5_l1)]) (w' := w) (by kernel_rfl) ?_
        refine WR.nil ?_
        refine At.blockNormal ?_
        refine At.go ?_
        refine WC.reg [0, 1, 2] (by kernel_rfl) (by kernel_rfl) ?_
        refine WR.runk [0, 1, 2] [] [0, 5] (L' := [(0, .int .u32 (ishr .u32 x0_l1 1)), (5, .int .i64 (wi (x5_l1 + 1)))]) (w' := w) (by kernel_rfl) ?_
        refine WR.nil ?_
        have hS : Sat w (rf w0) [] := hS.sel [] (by kernel_rfl)
        refine At.again ?_
        refine WL.weaken [0, 5] (L' := [(0, .int .u32 (ishr .u32 x0_l1 1)), (5, .int .i64 (wi (x5_l1 + 1)))]) (by kernel_rfl) ?_
        exact ih (ishr .u32 x0_l1 1) (wi (x5_l1 + 1)) _ hS H
    · replace H := ite_f H hb1
      refine WC.exit (by kernel_rfl) ?_
      refine At.thenExit ?_
      refine At.thenExit ?_
      obtain rfl := Option.some.inj H
      have hS : Sat w (rf w0) [] := hS.sel [] (by kernel_rfl)
      refine At.weaken [0] (L' := [(0, .int .u32 x0_l1)]) (by kernel_rfl) ?_
      exact hn0 _ hS
theorem crc_next.calls (w0 : World) (a0 : Int) (a1 : Int) (r : Int) (H : crc_next.f a0 a1 = some r) :
    Calls Try.prog 21 #[.int .u32 a0, .int .u8 a1] w0 (fun e w' => ∃ v, e = .returned v ∧ crc_next.post w0 r v w') := by
  have hS : Sat w0 (rf w0) [] := Sat.start w0
  unfold crc_next.f at H
  refine calls_of_WC (vs := [.int .u32 a0, .int .u8 a1]) Try.func21 (c := C21) (n := 23) (by kernel_rfl) (by kernel_rfl) (by kernel_rfl) ?_
  refine WC.seq (by kernel_rfl) ?_
  refine WC.reg [0] (by kernel_rfl) (by kernel_rfl) ?_
  refine WR.runk [0] [] [0, 1] (L' := [(0, .int .u32 a0), (1, .int .u8 a1)]) (w' := w0) (by kernel_rfl) ?_
  refine WR.nil ?_
  refine At.go ?_
  refine WC.seq (by kernel_rfl) ?_
  refine WC.reg [0, 1, 2, 3, 4] (by kernel_rfl) (by kernel_rfl) ?_
  refine WR.runk [0, 1, 2, 3, 4] [] [0] (L' := [(0, .int .u32 (ixor .u32 a0 (IntKind.wrap .u32 a1)))]) (w' := w0) (by kernel_rfl) ?_
  refine WR.nil ?_
  refine At.go ?_
  refine WC.seq (by kernel_rfl) ?_
  refine WC.seq (by kernel_rfl) ?_
  refine WC.reg [0] (by kernel_rfl) (by kernel_rfl) ?_
  refine WR.runk [0] [] [0, 5] (L' := [(0, .int .u32 (ixor .u32 a0 (IntKind.wrap .u32 a1))), (5, .int .i64 0)]) (w' := w0) (by kernel_rfl) ?_
  refine WR.nil ?_
  refine At.go ?_
  refine WC.block (by kernel_rfl) ?_
  have hS : Sat w0 (rf w0) [] := hS.sel [] (by kernel_rfl)
  obtain ⟨o3, e4, H⟩ := bind_ex H
  refine WC.loop (by kernel_rfl) ?_
  refine WL.weaken [0, 5] (L' := [(0, .int .u32 (ixor .u32 a0 (IntKind.wrap .u32 a1))), (5, .int .i64 0)]) (by kernel_rfl) ?_
  refine crc_next.l1_ok w0 o3 (fun w6 hS => ?_) FU (ixor .u32 a0 (IntKind.wrap .u32 a1)) 0 _ hS e4
  refine At.hit ?_
  refine At.go ?_
  refine WC.seq (by kernel_rfl) ?_
  refine WC.reg [0, 1] (by kernel_rfl) (by kernel_rfl) ?_
  refine WR.runk [0, 1] [] [4] (L' := [(4, .int .u32 o3)]) (w' := w6) (by kernel_rfl) ?_
  refine WR.nil ?_
  refine At.go ?_
  refine WC.ret (by kernel_rfl) ?_
  obtain rfl := Option.some.inj H
  have hS : Sat w6 (rf w0) [] := hS.sel [] (by kernel_rfl)
  exact At.body [.int .u32 o3] (by kernel_rfl) ⟨_, rfl, rfl, hS⟩
/-! ### 18 colophon/crc.Sum -/
def crc_Sum.l2 (v2 : List Int) : Nat → Int → Int → Option Int
  | 0, _, _ => none
  | k + 1, x3_l2, x16_l2 => (if decide (x16_l2 < (v2.length : Int)) then ((at? v2 x16_l2).bind fun v8 => ((crc_next.f x3_l2 v8).bind fun r10 => crc_Sum.l2 v2 k r10 (wi (x16_l2 + 1)))) else some x3_l2)
def crc_Sum.l1 (l0 : List (List Int)) : Nat → Int → Int → Option Int
  | 0, _, _ => none
  | k + 1, x3_l1, x10_l1 => (if decide (x10_l1 < (l0.length : Int)) then ((at? l0 x10_l1).bind fun v2 => ((crc_Sum.l2 v2 FU x3_l1 0).bind fun o19 => crc_Sum.l1 l0 k o19 (wi (x10_l1 + 1)))) else some x3_l1)
def crc_Sum.f (l0 : List (List Int)) : Option Int := ((crc_Sum.l1 l0 FU 4294967295 0).bind fun o24 => some (ixor .u32 4294967295 o24))
def crc_Sum.post (w : World) (r : Int) (v : Value) (w' : World) : Prop := v = (.int .u32 r : Value) ∧ Sat w' (rf w) []
theorem crc_Sum.l2_ok {Q} (w0 : World) (A0 : Option Addr) (c0 : Nat) (l0 : List (List Int)) (x10_l1 : Int) (v2 : List Int) (A4 : Option Addr) (c5 : Nat) (R6 : rdS (r0 (.int .u8)) 1 (hp w0) A4 c5 v2) (out : Int) (hn0 : ∀ (w : World), Sat w (rf w0) [] → At Q (.exit 2) 27 [(3, .int .u32 out), (8, .slice A0 l0.length c0), (9, .int .i64 (l0.length : Int)), (10, .int .i64 x10_l1)] w) :
    ∀ (k : Nat) (x3_l2 : Int) (x16_l2 : Int) (w : World), Sat w (rf w0) [] → crc_Sum.l2 v2 k x3_l2 x16_l2 = some out → WL Try.prog (cbody (cbody (cr (cr (cbody (cl (cr (cr (cbody (cbody (cr (cl (cr (cr C18)))))))))))))) Q 27 [(3, .int .u32 x3_l2), (8, .slice A0 l0.length c0), (9, .int .i64 (l0.length : Int)), (10, .int .i64 x10_l1), (14, .slice A4 v2.length c5), (15, .int .i64 (v2.length : Int)), (16, .int .i64 x16_l2)] w := by
  intro k
  induction k with
  | zero => intro x3_l2 x16_l2 w hS H; exact absurd (show none = some out from H) (by simp)
  | succ k ih =>
    intro x3_l2 x16_l2 w hS H
    unfold crc_Sum.l2 at H
    refine WL.round ?_
    refine WC.seq (by kernel_rfl) ?_
    refine WC.reg [0] (by kernel_rfl) (by kernel_rfl) ?_
    refine WR.runk [0] [] [3, 8, 9, 10, 14, 15, 16, 17] (L' := [(3, .int .u32 x3_l2), (8, .slice A0 l0.length c0), (9, .int .i64 (l0.length : Int)), (10, .int .i64 x10_l1), (14, .slice A4 v2.length c5), (15, .int .i64 (v2.length : Int)), (16, .int .i64 x16_l2), (17, .bool (decide (x16_l2 < (v2.length : Int))))]) (w' := w) (by kernel_rfl) ?_
    refine WR.nil ?_
    refine At.go ?_
    refine WC.seq (by kernel_rfl) ?_
    refine WC.cond (by kernel_rfl) (decide (x16_l2 < (v2.length : Int))) (by kernel_rfl) (by kernel_rfl) (fun hb7 => ?_) (fun hb7 => ?_)
    · replace H := ite_t H hb7
      refine WC.skip (by kernel_rfl) ?_
      refine At.go ?_
      refine WC.seq (by kernel_rfl) ?_
      refine WC.block (by kernel_rfl) ?_
      refine WC.seq (by kernel_rfl) ?_
      refine WC.reg [0, 1, 2] (by kernel_rfl) (by kernel_rfl) ?_
      refine WR.runk [] [0, 1, 2] [3, 8, 9, 10, 14, 15, 16] (L' := [(3, .int .u32 x3_l2), (8, .slice A0 l0.length c0), (9, .int .i64 (l0.length : Int)), (10, .int .i64 x10_l1), (14, .slice A4 v2.length c5), (15, .int .i64 (v2.length : Int)), (16, .int .i64 x16_l2)]) (w' := w) (by kernel_rfl) ?_
      obtain ⟨v8, e9, H⟩ := bind_ex H
      refine WR.st (St.ofP (PSt.idx (k := .i64) (.tmp 14) (.tmp 16) (by kernel_rfl) (by kernel_rfl) E22 (by kernel_rfl) (by kernel_rfl) (rdS.up R6 hS.sub0) e9 ?_))
      refine WR.runk [] [1, 2] [3, 8, 9, 10, 14, 15, 16, 18] (L' := [(3, .int .u32 x3_l2), (8, .slice A0 l0.length c0), (9, .int .i64 (l0.length : Int)), (10, .int .i64 x10_l1), (14, .slice A4 v2.length c5), (15, .int .i64 (v2.length : Int)), (16, .int .i64 x16_l2), (18, .pointer (some (adr A4 x16_l2.toNat 1)))]) (w' := w) (by kernel_rfl) ?_
      refine WR.st (St.ofR (RSt.loadInt (t := 5) (.tmp 18) (by kernel_rfl) (by kernel_rfl) (by kernel_rfl) (by kernel_rfl) (rdS.up R6 hS.sub0) e9 ?_))
      refine WR.runk [2] [] [3, 7, 8, 9, 10, 14, 15, 16] (L' := [(3, .int .u32 x3_l2), (7, .int .u8 v8), (8, .slice A0 l0.length c0), (9, .int .i64 (l0.length : Int)), (10, .int .i64 x10_l1), (14, .slice A4 v2.length c5), (15, .int .i64 (v2.length : Int)), (16, .int .i64 x16_l2)]) (w' := w) (by kernel_rfl) ?_
      refine WR.nil ?_
      refine At.go ?_
      refine WC.reg [0, 1, 2, 3] (by kernel_rfl) (by kernel_rfl) ?_
      refine WR.runk [0, 1] [2, 3] [3, 8, 9, 10, 14, 15, 16, 20, 21] (L' := [(3, .int .u32 x3_l2), (8, .slice A0 l0.length c0), (9, .int .i64 (l0.length : Int)), (10, .int .i64 x10_l1), (14, .slice A4 v2.length c5), (15, .int .i64 (v2.length : Int)), (16, .int .i64 x16_l2), (20, .int .u32 x3_l2), (21, .int .u8 v8)]) (w' := w) (by kernel_rfl) ?_
      obtain ⟨r10, e11, H⟩ := bind_ex H
      refine WR.st (St.call (by kernel_rfl) (f := 21) (args := #[.int .u32 x3_l2, .int .u8 v8]) (by kernel_rfl) (crc_next.calls w x3_l2 v8 r10 e11) ?_)
      rintro _ w17 ⟨rfl, hS18⟩
      have hS : Sat w17 (rf w0) [] := hS.ext hS18
      refine WR.runk [3] [] [3, 8, 9, 10, 14, 15, 16] (L' := [(3, .int .u32 r10), (8, .slice A0 l0.length c0), (9, .int .i64 (l0.length : Int)), (10, .int .i64 x10_l1), (14, .slice A4 v2.length c5), (15, .int .i64 (v2.length : Int)), (16, .int .i64 x16_l2)]) (w' := w17) (by kernel_rfl) ?_
      refine WR.nil ?_
      refine At.blockNormal ?_
      refine At.go ?_
      refine WC.reg [0, 1] (by kernel_rfl) (by kernel_rfl) ?_
      refine WR.runk [0, 1] [] [3, 8, 9, 10, 14, 15, 16] (L' := [(3, .int .u32 r10), (8, .slice A0 l0.length c0), (9, .int .i64 (l0.length : Int)), (10, .int .i64 x10_l1), (14, .slice A4 v2.length c5), (15, .int .i64 (v2.length : Int)), (16, .int .i64 (wi (x16_l2 + 1)))]) (w' := w17) (by kernel_rfl) ?_
      refine WR.nil ?_
      have hS : Sat w17 (rf w0) [] := hS.sel [] (by kernel_rfl)
      refine At.again ?_
      refine WL.weaken [3, 8, 9, 10, 14, 15, 16] (L' := [(3, .int .u32 r10), (8, .slice A0 l0.length c0), (9, .int .i64 (l0.length : Int)), (10, .int .i64 x10_l1), (14, .slice A4 v2.length c5), (15, .int .i64 (v2.length : Int)), (16, .int .i64 (wi (x16_l2 + 1)))]) (by kernel_rfl) ?_
      exact ih r10 (wi (x16_l2 + 1)) _ hS H
    · replace H := ite_f H hb7
      refine WC.exit (by kernel_rfl) ?_
      refine At.thenExit ?_
      refine At.thenExit ?_
      obtain rfl := Option.some.inj H
      have hS : Sat w (rf w0) [] := hS.sel [] (by kernel_rfl)
      refine At.weaken [3, 8, 9, 10] (L' := [(3, .int .u32 x3_l2), (8, .slice A0 l0.length c0), (9, .int .i64 (l0.length : Int)), (10, .int .i64 x10_l1)]) (by kernel_rfl) ?_
      exact hn0 _ hS
theorem crc_Sum.l1_ok {Q} (w0 : World) (A0 : Option Addr) (c0 : Nat) (l0 : List (List Int)) (R0 : rdS (rd (hp w0) (.slice 5 (.int .u8))) 1 (hp w0) A0 c0 l0) (out : Int) (hn0 : ∀ (w : World), Sat w (rf w0) [] → At Q (.exit 0) 27 [(3, .int .u32 out)] w) :
    ∀ (k : Nat) (x3_l1 : Int) (x10_l1 : Int) (w : World), Sat w (rf w0) [] → crc_Sum.l1 l0 k x3_l1 x10_l1 = some out → WL Try.prog (cbody (cbody (cr (cl (cr (cr C18)))))) Q 27 [(3, .int .u32 x3_l1), (8, .slice A0 l0.length c0), (9, .int .i64 (l0.length : Int)), (10, .int .i64 x10_l1)] w := by
  intro k
  induction k with
  | zero => intro x3_l1 x10_l1 w hS H; exact absurd (show none = some out from H) (by simp)
  | succ k ih =>
    intro x3_l1 x10_l1 w hS H
    unfold crc_Sum.l1 at H
    refine WL.round ?_
    refine WC.seq (by kernel_rfl) ?_
    refine WC.reg [0] (by kernel_rfl) (by kernel_rfl) ?_
    refine WR.runk [0] [] [3, 8, 9, 10, 11] (L' := [(3, .int .u32 x3_l1), (8, .slice A0 l0.length c0), (9, .int .i64 (l0.length : Int)), (10, .int .i64 x10_l1), (11, .bool (decide (x10_l1 < (l0.length : Int))))]) (w' := w) (by kernel_rfl) ?_
    refine WR.nil ?_
    refine At.go ?_
    refine WC.seq (by kernel_rfl) ?_
    refine WC.cond (by kernel_rfl) (decide (x10_l1 < (l0.length : Int))) (by kernel_rfl) (by kernel_rfl) (fun hb1 => ?_) (fun hb1 => ?_)
    · replace H := ite_t H hb1
      refine WC.skip (by kernel_rfl) ?_
      refine At.go ?_
      refine WC.seq (by kernel_rfl) ?_
      refine WC.block (by kernel_rfl) ?_
      refine WC.seq (by kernel_rfl) ?_
      refine WC.reg [0, 1, 2] (by kernel_rfl) (by kernel_rfl) ?_
      refine WR.runk [] [0, 1, 2] [3, 8, 9, 10] (L' := [(3, .int .u32 x3_l1), (8, .slice A0 l0.length c0), (9, .int .i64 (l0.length : Int)), (10, .int .i64 x10_l1)]) (w' := w) (by kernel_rfl) ?_
      obtain ⟨v2, e3, H⟩ := bind_ex H
      refine WR.st (St.ofP (PSt.idx (k := .i64) (.tmp 8) (.tmp 10) (by kernel_rfl) (by kernel_rfl) E48 (by kernel_rfl) (by kernel_rfl) (rdS.up R0 hS.sub0) e3 ?_))
      refine WR.runk [] [1, 2] [3, 8, 9, 10, 12] (L' := [(3, .int .u32 x3_l1), (8, .slice A0 l0.length c0), (9, .int .i64 (l0.length : Int)), (10, .int .i64 x10_l1), (12, .pointer (some (adr A0 x10_l1.toNat 1)))]) (w' := w) (by kernel_rfl) ?_
      refine WR.st (St.ofR (RSt.loadSl (t := 22) (.tmp 12) (by kernel_rfl) (by kernel_rfl) (by kernel_rfl) (by kernel_rfl) R0 e3 hS.sub0 (fun A4 c5 R6 => ?_)))
      replace R6 : rdS (r0 (.int .u8)) 1 (hp w0) A4 c5 v2 := R6
      refine WR.runk [2] [] [3, 5, 8, 9, 10] (L' := [(3, .int .u32 x3_l1), (5, .slice A4 v2.length c5), (8, .slice A0 l0.length c0), (9, .int .i64 (l0.length : Int)), (10, .int .i64 x10_l1)]) (w' := w) (by kernel_rfl) ?_
      refine WR.nil ?_
      refine At.go ?_
      refine WC.seq (by kernel_rfl) ?_
      refine WC.reg [0, 1, 2] (by kernel_rfl) (by kernel_rfl) ?_
      refine WR.runk [0, 1, 2] [] [3, 8, 9, 10, 14, 15, 16] (L' := [(3, .int .u32 x3_l1), (8, .slice A0 l0.length c0), (9, .int .i64 (l0.length : Int)), (10, .int .i64 x10_l1), (14, .slice A4 v2.length c5), (15, .int .i64 (v2.length : Int)), (16, .int .i64 0)]) (w' := w) (by kernel_rfl) ?_
      refine WR.nil ?_
      refine At.go ?_
      refine WC.block (by kernel_rfl) ?_
      have hS : Sat w (rf w0) [] := hS.sel [] (by kernel_rfl)
      obtain ⟨o19, e20, H⟩ := bind_ex H
      refine WC.loop (by kernel_rfl) ?_
      refine WL.weaken [3, 8, 9, 10, 14, 15, 16] (L' := [(3, .int .u32 x3_l1), (8, .slice A0 l0.length c0), (9, .int .i64 (l0.length : Int)), (10, .int .i64 x10_l1), (14, .slice A4 v2.length c5), (15, .int .i64 (v2.length : Int)), (16, .int .i64 0)]) (by kernel_rfl) ?_
      refine crc_Sum.l2_ok w0 A0 c0 l0 x10_l1 v2 A4 c5 R6 o19 (fun w22 hS => ?_) FU x3_l1 0 _ hS e20
      refine At.hit ?_
      refine At.blockNormal ?_
      refine At.go ?_
      refine WC.reg [0, 1] (by kernel_rfl) (by kernel_rfl) ?_
      refine WR.runk [0, 1] [] [3, 8, 9, 10] (L' := [(3, .int .u32 o19), (8, .slice A0 l0.length c0), (9, .int .i64 (l0.length : Int)), (10, .int .i64 (wi (x10_l1 + 1)))]) (w' := w22) (by kernel_rfl) ?_
      refine WR.nil ?_
      have hS : Sat w22 (rf w0) [] := hS.sel [] (by kernel_rfl)
      refine At.again ?_
      refine WL.weaken [3, 8, 9, 10] (L' := [(3, .int .u32 o19), (8, .slice A0 l0.length c0), (9, .int .i64 (l0.length : Int)), (10, .int .i64 (wi (x10_l1 + 1)))]) (by kernel_rfl) ?_
      exact ih o19 (wi (x10_l1 + 1)) _ hS H
    · replace H := ite_f H hb1
      refine WC.exit (by kernel_rfl) ?_
      refine At.thenExit ?_
      refine At.thenExit ?_
      obtain rfl := Option.some.inj H
      have hS : Sat w (rf w0) [] := hS.sel [] (by kernel_rfl)
      refine At.weaken [3] (L' := [(3, .int .u32 x3_l1)]) (by kernel_rfl) ?_
      exact hn0 _ hS
theorem crc_Sum.calls (w0 : World) (A0 : Option Addr) (c0 : Nat) (l0 : List (List Int)) (R0 : rdS (rd (hp w0) (.slice 5 (.int .u8))) 1 (hp w0) A0 c0 l0) (r : Int) (H : crc_Sum.f l0 = some r) :
    Calls Try.prog 18 #[.slice A0 l0.length c0] w0 (fun e w' => ∃ v, e = .returned v ∧ crc_Sum.post w0 r v w') := by
  have hS : Sat w0 (rf w0) [] := Sat.start w0
  unfold crc_Sum.f at H
  refine calls_of_WC (vs := [.slice A0 l0.length c0]) Try.func18 (c := C18) (n := 27) (by kernel_rfl) (by kernel_rfl) (by kernel_rfl) ?_
  refine WC.seq (by kernel_rfl) ?_
  refine WC.reg [0] (by kernel_rfl) (by kernel_rfl) ?_
  refine WR.runk [0] [] [0] (L' := [(0, .slice A0 l0.length c0)]) (w' := w0) (by kernel_rfl) ?_
  refine WR.nil ?_
  refine At.go ?_
  refine WC.seq (by kernel_rfl) ?_
  refine WC.reg [0] (by kernel_rfl) (by kernel_rfl) ?_
  refine WR.runk [0] [] [0, 3] (L' := [(0, .slice A0 l0.length c0), (3, .int .u32 4294967295)]) (w' := w0) (by kernel_rfl) ?_
  refine WR.nil ?_
  refine At.go ?_
  refine WC.seq (by kernel_rfl) ?_
  refine WC.seq (by kernel_rfl) ?_
  refine WC.reg [0, 1, 2] (by kernel_rfl) (by kernel_rfl) ?_
  refine WR.runk [0, 1, 2] [] [3, 8, 9, 10] (L' := [(3, .int .u32 4294967295), (8, .slice A0 l0.length c0), (9, .int .i64 (l0.length : Int)), (10, .int .i64 0)]) (w' := w0) (by kernel_rfl) ?_
  refine WR.nil ?_
  refine At.go ?_
  refine WC.block (by kernel_rfl) ?_
  have hS : Sat w0 (rf w0) [] := hS.sel [] (by kernel_rfl)
  obtain ⟨o24, e25, H⟩ := bind_ex H
  refine WC.loop (by kernel_rfl) ?_
  refine WL.weaken [3, 8, 9, 10] (L' := [(3, .int .u32 4294967295), (8, .slice A0 l0.length c0), (9, .int .i64 (l0.length : Int)), (10, .int .i64 0)]) (by kernel_rfl) ?_
  refine crc_Sum.l1_ok w0 A0 c0 l0 R0 o24 (fun w27 hS => ?_) FU 4294967295 0 _ hS e25
  refine At.hit ?_
  refine At.go ?_
  refine WC.seq (by kernel_rfl) ?_
  refine WC.reg [0, 1, 2] (by kernel_rfl) (by kernel_rfl) ?_
  refine WR.runk [0, 1, 2] [] [2] (L' := [(2, .int .u32 (ixor .u32 4294967295 o24))]) (w' := w27) (by kernel_rfl) ?_
  refine WR.nil ?_
  refine At.go ?_
  refine WC.ret (by kernel_rfl) ?_
  obtain rfl := Option.some.inj H
  have hS : Sat w27 (rf w0) [] := hS.sel [] (by kernel_rfl)
  exact At.body [.int .u32 (ixor .u32 4294967295 o24)] (by kernel_rfl) ⟨_, rfl, rfl, hS⟩
/-! ### 19 slices.Clone[[]byte,byte] -/
def slices_Clone.f (l0 : List Int) : Option (List Int) := ((app? 140737488355328 (([] : List Int) : List Int) l0).bind fun y5 => some y5)
def slices_Clone.post (w : World) (r : (List Int)) (v : Value) (w' : World) : Prop := ∃ (A0' : Option Addr) (c0' : Nat), v = (.slice A0' r.length c0' : Value) ∧ Sat w' (rf w) [osl 5 (r0 (.int .u8)) 1 A0' c0' r]
theorem slices_Clone.calls (w0 : World) (A0 : Option Addr) (c0 : Nat) (l0 : List Int) (R0 : rdS (r0 (.int .u8)) 1 (hp w0) A0 c0 l0) (r : (List Int)) (H : slices_Clone.f l0 = some r) :
    Calls Try.prog 19 #[.slice A0 l0.length c0] w0 (fun e w' => ∃ v, e = .returned v ∧ slices_Clone.post w0 r v w') := by
  have hS : Sat w0 (rf w0) [] := Sat.start w0
  unfold slices_Clone.f at H
  refine calls_of_WC (vs := [.slice A0 l0.length c0]) Try.func19 (c := C19) (n := 8) (by kernel_rfl) (by kernel_rfl) (by kernel_rfl) ?_
  refine WC.seq (by kernel_rfl) ?_
  refine WC.reg [0] (by kernel_rfl) (by kernel_rfl) ?_
  refine WR.runk [0] [] [0] (L' := [(0, .slice A0 l0.length c0)]) (w' := w0) (by kernel_rfl) ?_
  refine WR.nil ?_
  refine At.go ?_
  refine WC.seq (by kernel_rfl) ?_
  refine WC.seq (by kernel_rfl) ?_
  refine WC.reg [0, 1] (by kernel_rfl) (by kernel_rfl) ?_
  refine WR.runk [0] [1] [0, 3] (L' := [(0, .slice A0 l0.length c0), (3, .slice A0 l0.length c0)]) (w' := w0) (by kernel_rfl) ?_
  refine WR.st (St.ofP (PSt.eqNil (t := 22) (t2 := 22) (e := 5) (A := A0) (m := l0.length) (c := c0) .eql (by decide) (.tmp 3) (by kernel_rfl) (by kernel_rfl) (by kernel_rfl) (by kernel_rfl) ?_))
  refine WR.runk [] [] [0, 4] (L' := [(0, .slice A0 l0.length c0), (4, .bool A0.isNone)]) (w' := w0) (by kernel_rfl) ?_
  refine WR.nil ?_
  refine At.go ?_
  refine WC.cond (by kernel_rfl) A0.isNone (by kernel_rfl) (by kernel_rfl) (fun hb1 => ?_) (fun hb1 => ?_)
  · have hnl := rdS.isNone (rdS.up R0 hS.sub0) (by simpa using hb1)
    rw [hnl] at H
    refine WC.seq (by kernel_rfl) ?_
    refine WC.reg [0] (by kernel_rfl) (by kernel_rfl) ?_
    refine WR.runk [0] [] [2] (L' := [(2, .slice none 0 0)]) (w' := w0) (by kernel_rfl) ?_
    refine WR.nil ?_
    refine At.go ?_
    refine WC.ret (by kernel_rfl) ?_
    refine At.thenRet ?_
    obtain rfl := Option.some.inj (show some ([] : List Int) = some r from H)
    have hS := hS.addNil (α := Int) 5 (r0 (.int .u8)) 1
    have hS : Sat w0 (rf w0) [osl 5 (r0 (.int .u8)) 1 none 0 ([] : List Int)] := hS.sel [0] (by kernel_rfl)
    exact At.body [.slice none 0 0] (by kernel_rfl) ⟨_, rfl, _, _, rfl, hS⟩
  · refine WC.skip (by kernel_rfl) ?_
    refine At.go ?_
    refine WC.seq (by kernel_rfl) ?_
    refine WC.reg [0, 1, 2, 3] (by kernel_rfl) (by kernel_rfl) ?_
    refine WR.runk [] [0, 1, 2, 3] [0] (L' := [(0, .slice A0 l0.length c0)]) (w' := w0) (by kernel_rfl) ?_
    refine WR.st (St.box hS (by kernel_rfl) (.cells #[] 5) (fun b2 => .slice (some ⟨b2, 0, none⟩) 0 0) (fun _ => by kernel_rfl) (fun b2 w3 hS => ?_))
    refine WR.runk [1] [2, 3] [5, 6] (L' := [(5, .slice (some ⟨b2, 0, none⟩) 0 0), (6, .slice A0 l0.length c0)]) (w' := w3) (by kernel_rfl) ?_
    have hS : Sat w3 (rf w0) [osl 5 (r0 (.int .u8)) 1 (some ⟨b2, 0, none⟩) (([] : List Int) : List Int).length (([] : List Int) : List Int)] := Sat.toOsl' (r0 (.int .u8)) 1 (([] : List Int) : List Int) hS rfl (rdL.nil _ _)
    obtain ⟨y5, e4, H⟩ := bind_ex H
    refine WR.st (St.append' (.tmp 5) (.tmp 6) (by kernel_rfl) (by kernel_rfl) E22 (r0_one _) hS (by kernel_rfl) (by kernel_rfl) (rdS.up R0 hS.sub0) 140737488355328 (by kernel_rfl) (by kernel_rfl) e4 (fun A6 c7 w8 hS => ?_))
    refine WR.runk [3] [] [2] (L' := [(2, .slice A6 y5.length c7)]) (w' := w8) (by kernel_rfl) ?_
    refine WR.nil ?_
    refine At.go ?_
    refine WC.ret (by kernel_rfl) ?_
    obtain rfl := Option.some.inj H
    have hS : Sat w8 (rf w0) [osl 5 (r0 (.int .u8)) 1 A6 c7 y5] := hS.sel [0] (by kernel_rfl)
    exact At.body [.slice A6 y5.length c7] (by kernel_rfl) ⟨_, rfl, _, _, rfl, hS⟩
/-! ### 15 colophon/crc.Put -/
def crc_Put.f (l0 : List Int) : Option (List Int) := ((crc_Sum.f ([l0] : List (List Int))).bind fun r3 => ((slices_Clone.f l0).bind fun r12 => ((app? 140737488355328 r12 ([IntKind.wrap .u8 r3, IntKind.wrap .u8 (ishr .u32 r3 8), IntKind.wrap .u8 (ishr .u32 r3 16), IntKind.wrap .u8 (ishr .u32 r3 24)] : List Int)).bind fun y26 => some y26)))
def crc_Put.post (w : World) (r : (List Int)) (v : Value) (w' : World) : Prop := ∃ (A0' : Option Addr) (c0' : Nat), v = (.slice A0' r.length c0' : Value) ∧ Sat w' (rf w) [osl 5 (r0 (.int .u8)) 1 A0' c0' r]
theorem crc_Put.calls (w0 : World) (A0 : Option Addr) (c0 : Nat) (l0 : List Int) (R0 : rdS (r0 (.int .u8)) 1 (hp w0) A0 c0 l0) (r : (List Int)) (H : crc_Put.f l0 = some r) :
    Calls Try.prog 15 #[.slice A0 l0.length c0] w0 (fun e w' => ∃ v, e = .returned v ∧ crc_Put.post w0 r v w') := by
  have hS : Sat w0 (rf w0) [] := Sat.start w0
  unfold crc_Put.f at H
  refine calls_of_WC (vs := [.slice A0 l0.length c0]) Try.func15 (c := C15) (n := 22) (by kernel_rfl) (by kernel_rfl) (by kernel_rfl) ?_
  refine WC.seq (by kernel_rfl) ?_
  refine WC.reg [0] (by kernel_rfl) (by kernel_rfl) ?_
  refine WR.runk [0] [] [0] (L' := [(0, .slice A0 l0.length c0)]) (w' := w0) (by kernel_rfl) ?_
  refine WR.nil ?_
  refine At.go ?_
  refine WC.seq (by kernel_rfl) ?_
  refine WC.reg [0, 1, 2, 3] (by kernel_rfl) (by kernel_rfl) ?_
  refine WR.runk [0] [1, 2, 3] [0, 4] (L' := [(0, .slice A0 l0.length c0), (4, .slice A0 l0.length c0)]) (w' := w0) (by kernel_rfl) ?_
  refine WR.st (St.box hS (by kernel_rfl) (.cells #[.slice A0 l0.length c0] 22) (fun b1 => .slice (some ⟨b1, 0, none⟩) 1 1) (fun _ => by kernel_rfl) (fun b1 w2 hS => ?_))
  refine WR.runk [] [2, 3] [0, 5] (L' := [(0, .slice A0 l0.length c0), (5, .slice (some ⟨b1, 0, none⟩) 1 1)]) (w' := w2) (by kernel_rfl) ?_
  obtain ⟨r3, e4, H⟩ := bind_ex H
  refine WR.st (St.call (by kernel_rfl) (f := 18) (args := #[.slice (some ⟨b1, 0, none⟩) 1 1]) (by kernel_rfl) (crc_Sum.calls w2 (some ⟨b1, 0, none⟩) 1 ([l0] : List (List Int)) (Sat.ptsAt 0 (rd (hp w2) (.slice 5 (.int .u8))) 1 ([l0] : List (List Int)) hS rfl rfl (rdL.cons1 ⟨_, _, rfl, (rdS.r0up (rdS.up R0 hS.sub0))⟩ (rdL.nil _ _))) r3 e4) ?_)
  rintro _ w10 ⟨rfl, hS11⟩
  have hS : Sat w10 (rf w0) [pts b1 (.cells #[.slice A0 l0.length c0] 22 (0, 0))] := hS.ext hS11
  refine WR.runk [3] [] [0, 3] (L' := [(0, .slice A0 l0.length c0), (3, .int .u32 r3)]) (w' := w10) (by kernel_rfl) ?_
  refine WR.nil ?_
  refine At.go ?_
  refine WC.seq (by kernel_rfl) ?_
  refine WC.reg [0, 1, 2, 3, 4, 5, 6, 7, 8, 9, 10, 11, 12, 13, 14, 15] (by kernel_rfl) (by kernel_rfl) ?_
  refine WR.runk [0] [1, 2, 3, 4, 5, 6, 7, 8, 9, 10, 11, 12, 13, 14, 15] [3, 7] (L' := [(3, .int .u32 r3), (7, .slice A0 l0.length c0)]) (w' := w10) (by kernel_rfl) ?_
  obtain ⟨r12, e13, H⟩ := bind_ex H
  refine WR.st (St.call (by kernel_rfl) (f := 19) (args := #[.slice A0 l0.length c0]) (by kernel_rfl) (slices_Clone.calls w10 A0 c0 l0 (rdS.up R0 hS.sub0) r12 e13) ?_)
  rintro _ w19 ⟨A21, c22, rfl, hS20⟩
  have hS : Sat w19 (rf w0) [osl 5 (r0 (.int .u8)) 1 A21 c22 r12, pts b1 (.cells #[.slice A0 l0.length c0] 22 (0, 0))] := hS.ext hS20
  refine WR.runk [2, 3, 4, 5, 6, 7, 8, 9, 10, 11, 12] [13, 14, 15] [8, 10, 13, 16, 19] (L' := [(8, .slice A21 r12.length c22), (10, .int .u8 (IntKind.wrap .u8 r3)), (13, .int .u8 (IntKind.wrap .u8 (ishr .u32 r3 8))), (16, .int .u8 (IntKind.wrap .u8 (ishr .u32 r3 16))), (19, .int .u8 (IntKind.wrap .u8 (ishr .u32 r3 24)))]) (w' := w19) (by kernel_rfl) ?_
  refine WR.st (St.box hS (by kernel_rfl) (.cells #[.int .u8 (IntKind.wrap .u8 r3), .int .u8 (IntKind.wrap .u8 (ishr .u32 r3 8)), .int .u8 (IntKind.wrap .u8 (ishr .u32 r3 16)), .int .u8 (IntKind.wrap .u8 (ishr .u32 r3 24))] 5) (fun b23 => .slice (some ⟨b23, 0, none⟩) 4 4) (fun _ => by kernel_rfl) (fun b23 w24 hS => ?_))
  refine WR.runk [] [14, 15] [8, 20] (L' := [(8, .slice A21 r12.length c22), (20, .slice (some ⟨b23, 0, none⟩) 4 4)]) (w' := w24) (by kernel_rfl) ?_
  have hS : Sat w24 (rf w0) [osl 5 (r0 (.int .u8)) 1 A21 c22 r12, pts b23 (.cells #[.int .u8 (IntKind.wrap .u8 r3), .int .u8 (IntKind.wrap .u8 (ishr .u32 r3 8)), .int .u8 (IntKind.wrap .u8 (ishr .u32 r3 16)), .int .u8 (IntKind.wrap .u8 (ishr .u32 r3 24))] 5 (0, 0)), pts b1 (.cells #[.slice A0 l0.length c0] 22 (0, 0))] := hS.sel [1, 0, 2] (by kernel_rfl)
  obtain ⟨y26, e25, H⟩ := bind_ex H
  refine WR.st (St.append' (.tmp 8) (.tmp 20) (by kernel_rfl) (by kernel_rfl) E22 (r0_one _) hS (by kernel_rfl) (by kernel_rfl) (Sat.ptsAt 1 (r0 (.int .u8)) 1 ([IntKind.wrap .u8 r3, IntKind.wrap .u8 (ishr .u32 r3 8), IntKind.wrap .u8 (ishr .u32 r3 16), IntKind.wrap .u8 (ishr .u32 r3 24)] : List Int) hS rfl rfl (rdL.cons1 rfl (rdL.cons1 rfl (rdL.cons1 rfl (rdL.cons1 rfl (rdL.nil _ _)))))) 140737488355328 (by kernel_rfl) (by kernel_rfl) e25 (fun A27 c28 w29 hS => ?_))
  refine WR.runk [15] [] [2] (L' := [(2, .slice A27 y26.length c28)]) (w' := w29) (by kernel_rfl) ?_
  refine WR.nil ?_
  refine At.go ?_
  refine WC.ret (by kernel_rfl) ?_
  obtain rfl := Option.some.inj H
  have hS : Sat w29 (rf w0) [osl 5 (r0 (.int .u8)) 1 A27 c28 y26] := hS.sel [0] (by kernel_rfl)
  exact At.body [.slice A27 y26.length c28] (by kernel_rfl) ⟨_, rfl, _, _, rfl, hS⟩
/-! ### 9 colophon/page.Put -/
def page_Put.l1 (a0 : Int) (l1 : List Int) : Nat → Int → (List Int) → Option (List Int)
  | 0, _, _ => none
  | k + 1, x22_l1, q6_l1 => (if decide (x22_l1 < 4) then ((chk? (decide (0 ≤ (wi (8 * x22_l1))))).bind fun _ => ((at? q6_l1 (wi (256 + x22_l1))).bind fun v12 => ((set? q6_l1 (wi (256 + x22_l1)) (IntKind.wrap .u8 (ishr .i64 a0 (wi (8 * x22_l1))))).bind fun y14 => page_Put.l1 a0 l1 k (wi (x22_l1 + 1)) y14))) else some q6_l1)
def page_Put.f (a0 : Int) (l1 : List Int) : Option ((List Int) × Int) := (if decide (a0 < 0) then some (([] : List Int), 2) else (if decide (a0 ≥ 4096) then some (([] : List Int), 2) else (if decide ((l1.length : Int) > 256) then some (([] : List Int), 80) else ((page_Put.l1 a0 l1 FU 0 (cpy (List.replicate 260 (0 : Int)) l1)).bind fun o19 => ((crc_Put.f o19).bind fun r24 => some (r24, 0))))))
def page_Put.post (w : World) (r : (List Int) × Int) (v : Value) (w' : World) : Prop := ∃ (A0' : Option Addr) (c0' : Nat), v = .tuple #[.slice A0' r.1.length c0', .int .i64 r.2] ∧ Sat w' (rf w) [osl 5 (r0 (.int .u8)) 1 A0' c0' r.1]
theorem page_Put.l1_ok {Q} (w0 : World) (a0 : Int) (l1 : List Int) (b4 : Nat) (out : (List Int)) (hn0 : ∀ (w : World), Sat w (rf w0) [oar 43 (r0 (.int .u8)) 1 260 b4 out] → At Q (.exit 1) 36 [(6, .pointer (some ⟨b4, 0, none⟩))] w) :
    ∀ (k : Nat) (x22_l1 : Int) (q6_l1 : List Int) (w : World), Sat w (rf w0) [oar 43 (r0 (.int .u8)) 1 260 b4 q6_l1] → page_Put.l1 a0 l1 k x22_l1 q6_l1 = some out → WL Try.prog (cbody (cbody (cr (cl (cr (cr (cr (cr C9)))))))) Q 36 [(0, .int .i64 a0), (6, .pointer (some ⟨b4, 0, none⟩)), (22, .int .i64 x22_l1)] w := by
  intro k
  induction k with
  | zero => intro x22_l1 q6_l1 w hS H; exact absurd (show none = some out from H) (by simp)
  | succ k ih =>
    intro x22_l1 q6_l1 w hS H
    unfold page_Put.l1 at H
    refine WL.round ?_
    refine WC.seq (by kernel_rfl) ?_
    refine WC.reg [0] (by kernel_rfl) (by kernel_rfl) ?_
    refine WR.runk [0] [] [0, 6, 22, 23] (L' := [(0, .int .i64 a0), (6, .pointer (some ⟨b4, 0, none⟩)), (22, .int .i64 x22_l1), (23, .bool (decide (x22_l1 < 4)))]) (w' := w) (by kernel_rfl) ?_
    refine WR.nil ?_
    refine At.go ?_
    refine WC.seq (by kernel_rfl) ?_
    refine WC.cond (by kernel_rfl) (decide (x22_l1 < 4)) (by kernel_rfl) (by kernel_rfl) (fun hb10 => ?_) (fun hb10 => ?_)
    · replace H := ite_t H hb10
      refine WC.skip (by kernel_rfl) ?_
      refine At.go ?_
      refine WC.seq (by kernel_rfl) ?_
      refine WC.block (by kernel_rfl) ?_
      refine WC.seq (by kernel_rfl) ?_
      refine WC.reg [0, 1] (by kernel_rfl) (by kernel_rfl) ?_
      refine WR.runk [0, 1] [] [0, 6, 7, 22] (L' := [(0, .int .i64 a0), (6, .pointer (some ⟨b4, 0, none⟩)), (7, .int .i64 x22_l1), (22, .int .i64 x22_l1)]) (w' := w) (by kernel_rfl) ?_
      refine WR.nil ?_
      refine At.go ?_
      refine WC.reg [0, 1, 2, 3, 4, 5, 6, 7, 8] (by kernel_rfl) (by kernel_rfl) ?_
      refine WR.runk [0, 1, 2, 3, 4] [5, 6, 7, 8] [0, 6, 22, 26, 27, 29] (L' := [(0, .int .i64 a0), (6, .pointer (some ⟨b4, 0, none⟩)), (22, .int .i64 x22_l1), (26, .int .i64 (wi (256 + x22_l1))), (27, .int .i64 a0), (29, .int .i64 (wi (8 * x22_l1)))]) (w' := w) (by kernel_rfl) ?_
      obtain ⟨_, e11, H⟩ := bind_ex H
      refine WR.st (St.ofP (PSt.shift (k := .i64) (k2 := .i64) (t := 3) (t2 := 3) (a := a0) (b := (wi (8 * x22_l1))) .shr (by decide) (.tmp 27) (.tmp 29) (by kernel_rfl) (by kernel_rfl) (by kernel_rfl) (by kernel_rfl) (of_decide_eq_true (chk?_some e11)) ?_))
      refine WR.runk [6] [7, 8] [0, 6, 22, 26, 31] (L' := [(0, .int .i64 a0), (6, .pointer (some ⟨b4, 0, none⟩)), (22, .int .i64 x22_l1), (26, .int .i64 (wi (256 + x22_l1))), (31, .int .u8 (IntKind.wrap .u8 (ishr .i64 a0 (wi (8 * x22_l1)))))]) (w' := w) (by kernel_rfl) ?_
      obtain ⟨v12, e13, H⟩ := bind_ex H
      refine WR.st (St.ofP (PSt.idxArr (k := .i64) (t := 43) (e := 5) (sz := 1) (b := b4) (.tmp 6) (.tmp 26) (by kernel_rfl) (by kernel_rfl) (by kernel_rfl) (by kernel_rfl) (by kernel_rfl) (by kernel_rfl) (by kernel_rfl) (Sat.oarAt 0 hS rfl).2 e13 ?_))
      refine WR.runk [] [8] [0, 6, 22, 31, 32] (L' := [(0, .int .i64 a0), (6, .pointer (some ⟨b4, 0, none⟩)), (22, .int .i64 x22_l1), (31, .int .u8 (IntKind.wrap .u8 (ishr .i64 a0 (wi (8 * x22_l1))))), (32, .pointer (some (adr (some ⟨b4, 0, none⟩) (wi (256 + x22_l1)).toNat 1)))]) (w' := w) (by kernel_rfl) ?_
      obtain ⟨y14, e15, H⟩ := bind_ex H
      obtain ⟨hl17, hS⟩ := oar.op hS
      refine WR.st (St.storeElem' (t := 5) (.tmp 32) (.tmp 31) (by kernel_rfl) (by kernel_rfl) (by kernel_rfl) hS (by kernel_rfl) (by kernel_rfl) rfl e15 rfl (fun w16 hS => ?_))
      have hl18 := (set?_len e15).trans hl17
      have hS : Sat w16 (rf w0) [oar 43 (r0 (.int .u8)) 1 260 b4 y14] := oar.cl hl18 hS
      refine WR.runk [] [] [0, 6, 22] (L' := [(0, .int .i64 a0), (6, .pointer (some ⟨b4, 0, none⟩)), (22, .int .i64 x22_l1)]) (w' := w16) (by kernel_rfl) ?_
      refine WR.nil ?_
      refine At.blockNormal ?_
      refine At.go ?_
      refine WC.reg [0, 1] (by kernel_rfl) (by kernel_rfl) ?_
      refine WR.runk [0, 1] [] [0, 6, 22] (L' := [(0, .int .i64 a0), (6, .pointer (some ⟨b4, 0, none⟩)), (22, .int .i64 (wi (x22_l1 + 1)))]) (w' := w16) (by kernel_rfl) ?_
      refine WR.nil ?_
      have hS : Sat w16 (rf w0) [oar 43 (r0 (.int .u8)) 1 260 b4 y14] := hS.sel [0] (by kernel_rfl)
      refine At.again ?_
      refine WL.weaken [0, 6, 22] (L' := [(0, .int .i64 a0), (6, .pointer (some ⟨b4, 0, none⟩)), (22, .int .i64 (wi (x22_l1 + 1)))]) (by kernel_rfl) ?_
      exact ih (wi (x22_l1 + 1)) y14 _ hS H
    · replace H := ite_f H hb10
      refine WC.exit (by kernel_rfl) ?_
      refine At.thenExit ?_
      refine At.thenExit ?_
      obtain rfl := Option.some.inj H
      have hS : Sat w (rf w0) [oar 43 (r0 (.int .u8)) 1 260 b4 q6_l1] := hS.sel [0] (by kernel_rfl)
      refine At.weaken [6] (L' := [(6, .pointer (some ⟨b4, 0, none⟩))]) (by kernel_rfl) ?_
      exact hn0 _ hS
theorem page_Put.calls (w0 : World) (a0 : Int) (A1 : Option Addr) (c1 : Nat) (l1 : List Int) (R1 : rdS (r0 (.int .u8)) 1 (hp w0) A1 c1 l1) (r : (List Int) × Int) (H : page_Put.f a0 l1 = some r) :
    Calls Try.prog 9 #[.int .i64 a0, .slice A1 l1.length c1] w0 (fun e w' => ∃ v, e = .returned v ∧ page_Put.post w0 r v w') := by
  have hS : Sat w0 (rf w0) [] := Sat.start w0
  unfold page_Put.f at H
  refine calls_of_WC (vs := [.int .i64 a0, .slice A1 l1.length c1]) Try.func9 (c := C9) (n := 36) (by kernel_rfl) (by kernel_rfl) (by kernel_rfl) ?_
  refine WC.seq (by kernel_rfl) ?_
  refine WC.reg [0, 1] (by kernel_rfl) (by kernel_rfl) ?_
  refine WR.runk [0, 1] [] [0, 1] (L' := [(0, .int .i64 a0), (1, .slice A1 l1.length c1)]) (w' := w0) (by kernel_rfl) ?_
  refine WR.nil ?_
  refine At.go ?_
  refine WC.seq (by kernel_rfl) ?_
  refine WC.block (by kernel_rfl) ?_
  refine WC.seq (by kernel_rfl) ?_
  refine WC.reg [0, 1, 2, 3, 4, 5, 6] (by kernel_rfl) (by kernel_rfl) ?_
  refine WR.runk [0, 1, 2] [3, 4, 5, 6] [0, 1, 11] (L' := [(0, .int .i64 a0), (1, .slice A1 l1.length c1), (11, .bool (decide (a0 < 0)))]) (w' := w0) (by kernel_rfl) ?_
  refine WR.split 11 (b := decide (a0 < 0)) (by kernel_rfl) (fun hb1 => ?_) (fun hb1 => ?_)
  · replace H := ite_t H hb1
    refine WR.runk [3, 4, 5, 6] [] [0, 1, 8] (L' := [(0, .int .i64 a0), (1, .slice A1 l1.length c1), (8, .bool true)]) (w' := w0) (by kernel_rfl) ?_
    refine WR.nil ?_
    refine At.go ?_
    refine WC.condT (by kernel_rfl) (by kernel_rfl) (by kernel_rfl) ?_
    refine WC.seq (by kernel_rfl) ?_
    refine WC.reg [0, 1] (by kernel_rfl) (by kernel_rfl) ?_
    refine WR.runk [0, 1] [] [4, 5] (L' := [(4, .slice none 0 0), (5, .int .i64 2)]) (w' := w0) (by kernel_rfl) ?_
    refine WR.nil ?_
    refine At.go ?_
    refine WC.ret (by kernel_rfl) ?_
    refine At.blockRet ?_
    refine At.thenRet ?_
    obtain rfl := Option.some.inj H
    have hS := hS.addNil (α := Int) 5 (r0 (.int .u8)) 1
    have hS : Sat w0 (rf w0) [osl 5 (r0 (.int .u8)) 1 none 0 ([] : List Int)] := hS.sel [0] (by kernel_rfl)
    exact At.body [.slice none 0 0, .int .i64 2] (by kernel_rfl) ⟨_, rfl, _, _, rfl, hS⟩
  · replace H := ite_f H hb1
    refine WR.runk [3, 4, 5, 6] [] [0, 1, 8] (L' := [(0, .int .i64 a0), (1, .slice A1 l1.length c1), (8, .bool (decide (a0 ≥ 4096)))]) (w' := w0) (by kernel_rfl) ?_
    refine WR.nil ?_
    refine At.go ?_
    refine WC.cond (by kernel_rfl) (decide (a0 ≥ 4096)) (by kernel_rfl) (by kernel_rfl) (fun hb2 => ?_) (fun hb2 => ?_)
    · replace H := ite_t H hb2
      refine WC.seq (by kernel_rfl) ?_
      refine WC.reg [0, 1] (by kernel_rfl) (by kernel_rfl) ?_
      refine WR.runk [0, 1] [] [4, 5] (L' := [(4, .slice none 0 0), (5, .int .i64 2)]) (w' := w0) (by kernel_rfl) ?_
      refine WR.nil ?_
      refine At.go ?_
      refine WC.ret (by kernel_rfl) ?_
      refine At.blockRet ?_
      refine At.thenRet ?_
      obtain rfl := Option.some.inj H
      have hS := hS.addNil (α := Int) 5 (r0 (.int .u8)) 1
      have hS : Sat w0 (rf w0) [osl 5 (r0 (.int .u8)) 1 none 0 ([] : List Int)] := hS.sel [0] (by kernel_rfl)
      exact At.body [.slice none 0 0, .int .i64 2] (by kernel_rfl) ⟨_, rfl, _, _, rfl, hS⟩
    · replace H := ite_f H hb2
      refine WC.seq (by kernel_rfl) ?_
      refine WC.reg [0, 1, 2, 3] (by kernel_rfl) (by kernel_rfl) ?_
      refine WR.runk [0, 1, 2, 3] [] [0, 1, 15] (L' := [(0, .int .i64 a0), (1, .slice A1 l1.length c1), (15, .bool (decide ((l1.length : Int) > 256)))]) (w' := w0) (by kernel_rfl) ?_
      refine WR.nil ?_
      refine At.go ?_
      refine WC.cond (by kernel_rfl) (decide ((l1.length : Int) > 256)) (by kernel_rfl) (by kernel_rfl) (fun hb3 => ?_) (fun hb3 => ?_)
      · replace H := ite_t H hb3
        refine WC.seq (by kernel_rfl) ?_
        refine WC.reg [0, 1] (by kernel_rfl) (by kernel_rfl) ?_
        refine WR.runk [0, 1] [] [4, 5] (L' := [(4, .slice none 0 0), (5, .int .i64 80)]) (w' := w0) (by kernel_rfl) ?_
        refine WR.nil ?_
        refine At.go ?_
        refine WC.ret (by kernel_rfl) ?_
        refine At.blockRet ?_
        refine At.thenRet ?_
        obtain rfl := Option.some.inj H
        have hS := hS.addNil (α := Int) 5 (r0 (.int .u8)) 1
        have hS : Sat w0 (rf w0) [osl 5 (r0 (.int .u8)) 1 none 0 ([] : List Int)] := hS.sel [0] (by kernel_rfl)
        exact At.body [.slice none 0 0, .int .i64 80] (by kernel_rfl) ⟨_, rfl, _, _, rfl, hS⟩
      · replace H := ite_f H hb3
        refine WC.skip (by kernel_rfl) ?_
        refine At.blockNormal ?_
        refine At.go ?_
        refine WC.seq (by kernel_rfl) ?_
        refine WC.reg [0] (by kernel_rfl) (by kernel_rfl) ?_
        refine WR.runk [] [0] [0, 1] (L' := [(0, .int .i64 a0), (1, .slice A1 l1.length c1)]) (w' := w0) (by kernel_rfl) ?_
        refine WR.st (St.box hS (by kernel_rfl) (.cells ⟨List.replicate 260 (.int .u8 0)⟩ 43) (fun b4 => .pointer (some ⟨b4, 0, none⟩)) (fun _ => by kernel_rfl) (fun b4 w5 hS => ?_))
        have hS : Sat w5 (rf w0) [oar 43 (r0 (.int .u8)) 1 260 b4 (List.replicate 260 (0 : Int))] := oar.ofPts (κ := (.int .u8)) 260 0 [.int .u8 0] (by kernel_rfl) (by kernel_rfl) rfl (by kernel_rfl) hS
        refine WR.runk [] [] [0, 1, 6] (L' := [(0, .int .i64 a0), (1, .slice A1 l1.length c1), (6, .pointer (some ⟨b4, 0, none⟩))]) (w' := w5) (by kernel_rfl) ?_
        refine WR.nil ?_
        refine At.go ?_
        refine WC.seq (by kernel_rfl) ?_
        refine WC.reg [0, 1, 2] (by kernel_rfl) (by kernel_rfl) ?_
        refine WR.runk [0, 1] [2] [0, 6, 19, 20] (L' := [(0, .int .i64 a0), (6, .pointer (some ⟨b4, 0, none⟩)), (19, .slice (some ⟨b4, 0, none⟩) 260 260), (20, .slice A1 l1.length c1)]) (w' := w5) (by kernel_rfl) ?_
        refine WR.know 19 (.slice (some ⟨b4, 0, none⟩) (List.replicate 260 (0 : Int)).length 260) (.slice (some ⟨b4, 0, none⟩) 260 260) (by kernel_rfl) (by rw [(Sat.oarAt 0 hS rfl).2]) ?_
        refine WR.runk [] [2] [0, 6, 19, 20] (L' := [(0, .int .i64 a0), (6, .pointer (some ⟨b4, 0, none⟩)), (19, .slice (some ⟨b4, 0, none⟩) (List.replicate 260 (0 : Int)).length 260), (20, .slice A1 l1.length c1)]) (w' := w5) (by kernel_rfl) ?_
        obtain ⟨hl8, hS⟩ := oar.op hS
        refine WR.st (St.copy (t := 22) (t2 := 22) (e := 5) (.tmp 19) (.tmp 20) (by kernel_rfl) (by kernel_rfl) (by kernel_rfl) (by kernel_rfl) (r0_one _) hS (by kernel_rfl) (by kernel_rfl) (rdS.up R1 hS.sub0) (fun w7 hS => ?_))
        have hl9 := (cpy_len (List.replicate 260 (0 : Int)) l1).trans hl8
        have hS : Sat w7 (rf w0) [oar 43 (r0 (.int .u8)) 1 260 b4 (cpy (List.replicate 260 (0 : Int)) l1)] := oar.cl hl9 hS
        refine WR.runk [] [] [0, 6] (L' := [(0, .int .i64 a0), (6, .pointer (some ⟨b4, 0, none⟩))]) (w' := w7) (by kernel_rfl) ?_
        refine WR.nil ?_
        refine At.go ?_
        refine WC.seq (by kernel_rfl) ?_
        refine WC.seq (by kernel_rfl) ?_
        refine WC.reg [0] (by kernel_rfl) (by kernel_rfl) ?_
        refine WR.runk [0] [] [0, 6, 22] (L' := [(0, .int .i64 a0), (6, .pointer (some ⟨b4, 0, none⟩)), (22, .int .i64 0)]) (w' := w7) (by kernel_rfl) ?_
        refine WR.nil ?_
        refine At.go ?_
        refine WC.block (by kernel_rfl) ?_
        have hS : Sat w7 (rf w0) [oar 43 (r0 (.int .u8)) 1 260 b4 (cpy (List.replicate 260 (0 : Int)) l1)] := hS.sel [0] (by kernel_rfl)
        obtain ⟨o19, e20, H⟩ := bind_ex H
        refine WC.loop (by kernel_rfl) ?_
        refine WL.weaken [0, 6, 22] (L' := [(0, .int .i64 a0), (6, .pointer (some ⟨b4, 0, none⟩)), (22, .int .i64 0)]) (by kernel_rfl) ?_
        refine page_Put.l1_ok w0 a0 l1 b4 o19 (fun w22 hS => ?_) FU 0 (cpy (List.replicate 260 (0 : Int)) l1) _ hS e20
        refine At.hit ?_
        refine At.go ?_
        refine WC.seq (by kernel_rfl) ?_
        refine WC.reg [0, 1, 2, 3] (by kernel_rfl) (by kernel_rfl) ?_
        refine WR.runk [0] [1, 2, 3] [34] (L' := [(34, .slice (some ⟨b4, 0, none⟩) 260 260)]) (w' := w22) (by kernel_rfl) ?_
        refine WR.know 34 (.slice (some ⟨b4, 0, none⟩) o19.length 260) (.slice (some ⟨b4, 0, none⟩) 260 260) (by kernel_rfl) (by rw [(Sat.oarAt 0 hS rfl).2]) ?_
        refine WR.runk [] [1, 2, 3] [34] (L' := [(34, .slice (some ⟨b4, 0, none⟩) o19.length 260)]) (w' := w22) (by kernel_rfl) ?_
        obtain ⟨r24, e25, H⟩ := bind_ex H
        refine WR.st (St.call (by kernel_rfl) (f := 15) (args := #[.slice (some ⟨b4, 0, none⟩) o19.length 260]) (by kernel_rfl) (crc_Put.calls w22 (some ⟨b4, 0, none⟩) 260 o19 (Sat.oarAt 0 hS rfl).1 r24 e25) ?_)
        rintro _ w31 ⟨A33, c34, rfl, hS32⟩
        have hS : Sat w31 (rf w0) [osl 5 (r0 (.int .u8)) 1 A33 c34 r24, oar 43 (r0 (.int .u8)) 1 260 b4 o19] := hS.ext hS32
        refine WR.runk [2, 3] [] [4, 5] (L' := [(4, .slice A33 r24.length c34), (5, .int .i64 0)]) (w' := w31) (by kernel_rfl) ?_
        refine WR.nil ?_
        refine At.go ?_
        refine WC.ret (by kernel_rfl) ?_
        obtain rfl := Option.some.inj H
        have hS : Sat w31 (rf w0) [osl 5 (r0 (.int .u8)) 1 A33 c34 r24] := hS.sel [0] (by kernel_rfl)
        exact At.body [.slice A33 r24.length c34, .int .i64 0] (by kernel_rfl) ⟨_, rfl, _, _, rfl, hS⟩
/-! ### 20 slices.Equal[[]byte,byte] -/
def slices_Equal.l1 (l0 : List Int) (l1 : List Int) : Nat → Int → Option (Sum Bool Unit)
  | 0, _ => none
  | k + 1, x13_l1 => (if decide (x13_l1 < (l0.length : Int)) then ((at? l0 x13_l1).bind fun v5 => ((at? l1 x13_l1).bind fun v7 => (if (v5 != v7) then some (.inl false) else slices_Equal.l1 l0 l1 k (wi (x13_l1 + 1))))) else some (.inr ()))
def slices_Equal.f (l0 : List Int) (l1 : List Int) : Option Bool := (if ((l0.length : Int) != (l1.length : Int)) then some false else ((slices_Equal.l1 l0 l1 FU 0).bind fun o10 => (match o10 with | .inl o12 => some o12 | .inr o16 => some true)))
def slices_Equal.post (w : World) (r : Bool) (v : Value) (w' : World) : Prop := v = (.bool r : Value) ∧ Sat w' (rf w) []
theorem slices_Equal.l1_ok {Q} (w0 : World) (A0 : Option Addr) (c0 : Nat) (l0 : List Int) (A1 : Option Addr) (c1 : Nat) (l1 : List Int) (R0 : rdS (r0 (.int .u8)) 1 (hp w0) A0 c0 l0) (R1 : rdS (r0 (.int .u8)) 1 (hp w0) A1 c1 l1) (out : Sum Bool Unit) (hn0 : ∀ (o0 : Bool) (w : World), out = (.inl o0) → Sat w (rf w0) [] → At Q .ret 26 [(4, .bool o0)] w) (hn1 : ∀ (o1 : Unit) (w : World), out = (.inr o1) → Sat w (rf w0) [] → At Q (.exit 0) 26 [] w) :
    ∀ (k : Nat) (x13_l1 : Int) (w : World), Sat w (rf w0) [] → slices_Equal.l1 l0 l1 k x13_l1 = some out → WL Try.prog (cbody (cbody (cr (cl (cr (cr C20)))))) Q 26 [(0, .slice A0 l0.length c0), (1, .slice A1 l1.length c1), (12, .int .i64 (l0.length : Int)), (13, .int .i64 x13_l1)] w := by
  intro k
  induction k with
  | zero => intro x13_l1 w hS H; exact absurd (show none = some out from H) (by simp)
  | succ k ih =>
    intro x13_l1 w hS H
    unfold slices_Equal.l1 at H
    refine WL.round ?_
    refine WC.seq (by kernel_rfl) ?_
    refine WC.reg [0] (by kernel_rfl) (by kernel_rfl) ?_
    refine WR.runk [0] [] [0, 1, 12, 13, 14] (L' := [(0, .slice A0 l0.length c0), (1, .slice A1 l1.length c1), (12, .int .i64 (l0.length : Int)), (13, .int .i64 x13_l1), (14, .bool (decide (x13_l1 < (l0.length : Int))))]) (w' := w) (by kernel_rfl) ?_
    refine WR.nil ?_
    refine At.go ?_
    refine WC.seq (by kernel_rfl) ?_
    refine WC.cond (by kernel_rfl) (decide (x13_l1 < (l0.length : Int))) (by kernel_rfl) (by kernel_rfl) (fun hb2 => ?_) (fun hb2 => ?_)
    · replace H := ite_t H hb2
      refine WC.skip (by kernel_rfl) ?_
      refine At.go ?_
      refine WC.seq (by kernel_rfl) ?_
      refine WC.block (by kernel_rfl) ?_
      refine WC.seq (by kernel_rfl) ?_
      refine WC.reg [0, 1] (by kernel_rfl) (by kernel_rfl) ?_
      refine WR.runk [0, 1] [] [0, 1, 5, 12, 13] (L' := [(0, .slice A0 l0.length c0), (1, .slice A1 l1.length c1), (5, .int .i64 x13_l1), (12, .int .i64 (l0.length : Int)), (13, .int .i64 x13_l1)]) (w' := w) (by kernel_rfl) ?_
      refine WR.nil ?_
      refine At.go ?_
      refine WC.seq (by kernel_rfl) ?_
      refine WC.drawn (by kernel_rfl) (by kernel_rfl) 9 (by kernel_rfl) (fun w3 hw4 => ?_)
      have hS := hS.heap hw4.1 hw4.2
      refine WD.weaken [0, 1, 5, 12, 13] (L' := [(0, .slice A0 l0.length c0), (1, .slice A1 l1.length c1), (5, .int .i64 x13_l1), (12, .int .i64 (l0.length : Int)), (13, .int .i64 x13_l1)]) (by kernel_rfl) ?_
      refine WD.pure (i := 0) (v := .slice A0 l0.length c0) (by kernel_rfl) (by kernel_rfl) (fun _ => by kernel_rfl) ?_
      refine WD.weaken [0, 1, 5, 12, 13, 16] (L' := [(0, .slice A0 l0.length c0), (1, .slice A1 l1.length c1), (5, .int .i64 x13_l1), (12, .int .i64 (l0.length : Int)), (13, .int .i64 x13_l1), (16, .slice A0 l0.length c0)]) (by kernel_rfl) ?_
      refine WD.pure (i := 1) (v := .int .i64 x13_l1) (by kernel_rfl) (by kernel_rfl) (fun _ => by kernel_rfl) ?_
      refine WD.weaken [0, 1, 5, 12, 13, 16, 17] (L' := [(0, .slice A0 l0.length c0), (1, .slice A1 l1.length c1), (5, .int .i64 x13_l1), (12, .int .i64 (l0.length : Int)), (13, .int .i64 x13_l1), (16, .slice A0 l0.length c0), (17, .int .i64 x13_l1)]) (by kernel_rfl) ?_
      obtain ⟨v5, e6, H⟩ := bind_ex H
      refine WD.ofP (i := 2) (by kernel_rfl) (PSt.idx (k := .i64) (.tmp 16) (.tmp 17) (by kernel_rfl) (by kernel_rfl) E22 (by kernel_rfl) (by kernel_rfl) (rdS.up R0 hS.sub0) e6 ?_)
      refine WD.weaken [0, 1, 5, 12, 13, 18] (L' := [(0, .slice A0 l0.length c0), (1, .slice A1 l1.length c1), (5, .int .i64 x13_l1), (12, .int .i64 (l0.length : Int)), (13, .int .i64 x13_l1), (18, .pointer (some (adr A0 x13_l1.toNat 1)))]) (by kernel_rfl) ?_
      refine WD.ofR (i := 3) (by kernel_rfl) (RSt.loadInt (t := 5) (.tmp 18) (by kernel_rfl) (by kernel_rfl) (by kernel_rfl) (by kernel_rfl) (rdS.up R0 hS.sub0) e6 ?_)
      refine WD.weaken [0, 1, 5, 12, 13, 19] (L' := [(0, .slice A0 l0.length c0), (1, .slice A1 l1.length c1), (5, .int .i64 x13_l1), (12, .int .i64 (l0.length : Int)), (13, .int .i64 x13_l1), (19, .int .u8 v5)]) (by kernel_rfl) ?_
      refine WD.pure (i := 4) (v := .slice A1 l1.length c1) (by kernel_rfl) (by kernel_rfl) (fun _ => by kernel_rfl) ?_
      refine WD.weaken [0, 1, 5, 12, 13, 19, 20] (L' := [(0, .slice A0 l0.length c0), (1, .slice A1 l1.length c1), (5, .int .i64 x13_l1), (12, .int .i64 (l0.length : Int)), (13, .int .i64 x13_l1), (19, .int .u8 v5), (20, .slice A1 l1.length c1)]) (by kernel_rfl) ?_
      refine WD.pure (i := 5) (v := .int .i64 x13_l1) (by kernel_rfl) (by kernel_rfl) (fun _ => by kernel_rfl) ?_
      refine WD.weaken [0, 1, 12, 13, 19, 20, 21] (L' := [(0, .slice A0 l0.length c0), (1, .slice A1 l1.length c1), (12, .int .i64 (l0.length : Int)), (13, .int .i64 x13_l1), (19, .int .u8 v5), (20, .slice A1 l1.length c1), (21, .int .i64 x13_l1)]) (by kernel_rfl) ?_
      obtain ⟨v7, e8, H⟩ := bind_ex H
      refine WD.ofP (i := 6) (by kernel_rfl) (PSt.idx (k := .i64) (.tmp 20) (.tmp 21) (by kernel_rfl) (by kernel_rfl) E22 (by kernel_rfl) (by kernel_rfl) (rdS.up R1 hS.sub0) e8 ?_)
      refine WD.weaken [0, 1, 12, 13, 19, 22] (L' := [(0, .slice A0 l0.length c0), (1, .slice A1 l1.length c1), (12, .int .i64 (l0.length : Int)), (13, .int .i64 x13_l1), (19, .int .u8 v5), (22, .pointer (some (adr A1 x13_l1.toNat 1)))]) (by kernel_rfl) ?_
      refine WD.ofR (i := 7) (by kernel_rfl) (RSt.loadInt (t := 5) (.tmp 22) (by kernel_rfl) (by kernel_rfl) (by kernel_rfl) (by kernel_rfl) (rdS.up R1 hS.sub0) e8 ?_)
      refine WD.weaken [0, 1, 12, 13, 19, 23] (L' := [(0, .slice A0 l0.length c0), (1, .slice A1 l1.length c1), (12, .int .i64 (l0.length : Int)), (13, .int .i64 x13_l1), (19, .int .u8 v5), (23, .int .u8 v7)]) (by kernel_rfl) ?_
      refine WD.pure (i := 8) (v := .bool (v5 != v7)) (by kernel_rfl) (by kernel_rfl) (fun _ => by kernel_rfl) ?_
      refine WD.weaken [0, 1, 12, 13, 24] (L' := [(0, .slice A0 l0.length c0), (1, .slice A1 l1.length c1), (12, .int .i64 (l0.length : Int)), (13, .int .i64 x13_l1), (24, .bool (v5 != v7))]) (by kernel_rfl) ?_
      refine WD.nil (by kernel_rfl) ?_
      refine At.go ?_
      refine WC.cond (by kernel_rfl) (v5 != v7) (by kernel_rfl) (by kernel_rfl) (fun hb9 => ?_) (fun hb9 => ?_)
      · replace H := ite_t H hb9
        refine WC.seq (by kernel_rfl) ?_
        refine WC.reg [0] (by kernel_rfl) (by kernel_rfl) ?_
        refine WR.runk [0] [] [4] (L' := [(4, .bool false)]) (w' := w3) (by kernel_rfl) ?_
        refine WR.nil ?_
        refine At.go ?_
        refine WC.ret (by kernel_rfl) ?_
        refine At.blockRet ?_
        refine At.thenRet ?_
        refine At.thenRet ?_
        obtain rfl := Option.some.inj H
        have hS : Sat w3 (rf w0) [] := hS.sel [] (by kernel_rfl)
        refine At.weaken [4] (L' := [(4, .bool false)]) (by kernel_rfl) ?_
        exact hn0 false _ rfl hS
      · replace H := ite_f H hb9
        refine WC.skip (by kernel_rfl) ?_
        refine At.blockNormal ?_
        refine At.go ?_
        refine WC.reg [0, 1] (by kernel_rfl) (by kernel_rfl) ?_
        refine WR.runk [0, 1] [] [0, 1, 12, 13] (L' := [(0, .slice A0 l0.length c0), (1, .slice A1 l1.length c1), (12, .int .i64 (l0.length : Int)), (13, .int .i64 (wi (x13_l1 + 1)))]) (w' := w3) (by kernel_rfl) ?_
        refine WR.nil ?_
        have hS : Sat w3 (rf w0) [] := hS.sel [] (by kernel_rfl)
        refine At.again ?_
        refine WL.weaken [0, 1, 12, 13] (L' := [(0, .slice A0 l0.length c0), (1, .slice A1 l1.length c1), (12, .int .i64 (l0.length : Int)), (13, .int .i64 (wi (x13_l1 + 1)))]) (by kernel_rfl) ?_
        exact ih (wi (x13_l1 + 1)) _ hS H
    · replace H := ite_f H hb2
      refine WC.exit (by kernel_rfl) ?_
      refine At.thenExit ?_
      refine At.thenExit ?_
      obtain rfl := Option.some.inj H
      have hS : Sat w (rf w0) [] := hS.sel [] (by kernel_rfl)
      refine At.weaken [] (L' := []) (by kernel_rfl) ?_
      exact hn1 () _ rfl hS
theorem slices_Equal.calls (w0 : World) (A0 : Option Addr) (c0 : Nat) (l0 : List Int) (R0 : rdS (r0 (.int .u8)) 1 (hp w0) A0 c0 l0) (A1 : Option Addr) (c1 : Nat) (l1 : List Int) (R1 : rdS (r0 (.int .u8)) 1 (hp w0) A1 c1 l1) (r : Bool) (H : slices_Equal.f l0 l1 = some r) :
    Calls Try.prog 20 #[.slice A0 l0.length c0, .slice A1 l1.length c1] w0 (fun e w' => ∃ v, e = .returned v ∧ slices_Equal.post w0 r v w') := by
  have hS : Sat w0 (rf w0) [] := Sat.start w0
  unfold slices_Equal.f at H
  refine calls_of_WC (vs := [.slice A0 l0.length c0, .slice A1 l1.length c1]) Try.func20 (c := C20) (n := 26) (by kernel_rfl) (by kernel_rfl) (by kernel_rfl) ?_
  refine WC.seq (by kernel_rfl) ?_
  refine WC.reg [0] (by kernel_rfl) (by kernel_rfl) ?_
  refine WR.runk [0] [] [0, 1] (L' := [(0, .slice A0 l0.length c0), (1, .slice A1 l1.length c1)]) (w' := w0) (by kernel_rfl) ?_
  refine WR.nil ?_
  refine At.go ?_
  refine WC.seq (by kernel_rfl) ?_
  refine WC.seq (by kernel_rfl) ?_
  refine WC.reg [0, 1, 2, 3, 4] (by kernel_rfl) (by kernel_rfl) ?_
  refine WR.runk [0, 1, 2, 3, 4] [] [0, 1, 10] (L' := [(0, .slice A0 l0.length c0), (1, .slice A1 l1.length c1), (10, .bool ((l0.length : Int) != (l1.length : Int)))]) (w' := w0) (by kernel_rfl) ?_
  refine WR.nil ?_
  refine At.go ?_
  refine WC.cond (by kernel_rfl) ((l0.length : Int) != (l1.length : Int)) (by kernel_rfl) (by kernel_rfl) (fun hb1 => ?_) (fun hb1 => ?_)
  · replace H := ite_t H hb1
    refine WC.seq (by kernel_rfl) ?_
    refine WC.reg [0] (by kernel_rfl) (by kernel_rfl) ?_
    refine WR.runk [0] [] [4] (L' := [(4, .bool false)]) (w' := w0) (by kernel_rfl) ?_
    refine WR.nil ?_
    refine At.go ?_
    refine WC.ret (by kernel_rfl) ?_
    refine At.thenRet ?_
    obtain rfl := Option.some.inj H
    have hS : Sat w0 (rf w0) [] := hS.sel [] (by kernel_rfl)
    exact At.body [.bool false] (by kernel_rfl) ⟨_, rfl, rfl, hS⟩
  · replace H := ite_f H hb1
    refine WC.skip (by kernel_rfl) ?_
    refine At.go ?_
    refine WC.seq (by kernel_rfl) ?_
    refine WC.seq (by kernel_rfl) ?_
    refine WC.reg [0, 1, 2] (by kernel_rfl) (by kernel_rfl) ?_
    refine WR.runk [0, 1, 2] [] [0, 1, 12, 13] (L' := [(0, .slice A0 l0.length c0), (1, .slice A1 l1.length c1), (12, .int .i64 (l0.length : Int)), (13, .int .i64 0)]) (w' := w0) (by kernel_rfl) ?_
    refine WR.nil ?_
    refine At.go ?_
    refine WC.block (by kernel_rfl) ?_
    have hS : Sat w0 (rf w0) [] := hS.sel [] (by kernel_rfl)
    obtain ⟨o10, e11, H⟩ := bind_ex H
    refine WC.loop (by kernel_rfl) ?_
    refine WL.weaken [0, 1, 12, 13] (L' := [(0, .slice A0 l0.length c0), (1, .slice A1 l1.length c1), (12, .int .i64 (l0.length : Int)), (13, .int .i64 0)]) (by kernel_rfl) ?_
    refine slices_Equal.l1_ok w0 A0 c0 l0 A1 c1 l1 R0 R1 o10 (fun o12 w14 ho15 hS => ?_) (fun o16 w18 ho19 hS => ?_) FU 0 _ hS e11
    · subst ho15
      dsimp only at H
      refine At.blockRet ?_
      refine At.thenRet ?_
      obtain rfl := Option.some.inj H
      have hS : Sat w14 (rf w0) [] := hS.sel [] (by kernel_rfl)
      exact At.body [.bool o12] (by kernel_rfl) ⟨_, rfl, rfl, hS⟩
    · subst ho19
      dsimp only at H
      refine At.hit ?_
      refine At.go ?_
      refine WC.seq (by kernel_rfl) ?_
      refine WC.reg [0] (by kernel_rfl) (by kernel_rfl) ?_
      refine WR.runk [0] [] [4] (L' := [(4, .bool true)]) (w' := w18) (by kernel_rfl) ?_
      refine WR.nil ?_
      refine At.go ?_
      refine WC.ret (by kernel_rfl) ?_
      obtain rfl := Option.some.inj H
      have hS : Sat w18 (rf w0) [] := hS.sel [] (by kernel_rfl)
      exact At.body [.bool true] (by kernel_rfl) ⟨_, rfl, rfl, hS⟩
/-! ### 16 colophon/crc.Cut -/
def crc_Cut.f (l0 : List Int) : Option ((List Int) × Int) := (if decide ((l0.length : Int) < 4) then some (([] : List Int), 50) else ((sub? l0 0 (wi ((l0.length : Int) - 4))).bind fun y2 => ((slices_Clone.f y2).bind fun r7 => ((crc_Put.f r7).bind fun r18 => ((slices_Equal.f r18 l0).bind fun r29 => (if (!r29) then some (([] : List Int), 40) else some (r7, 0)))))))
def crc_Cut.post (w : World) (r : (List Int) × Int) (v : Value) (w' : World) : Prop := ∃ (A0' : Option Addr) (c0' : Nat), v = .tuple #[.slice A0' r.1.length c0', .int .i64 r.2] ∧ Sat w' (rf w) [osl 5 (r0 (.int .u8)) 1 A0' c0' r.1]
theorem crc_Cut.calls (w0 : World) (A0 : Option Addr) (c0 : Nat) (l0 : List Int) (R0 : rdS (r0 (.int .u8)) 1 (hp w0) A0 c0 l0) (r : (List Int) × Int) (H : crc_Cut.f l0 = some r) :
    Calls Try.prog 16 #[.slice A0 l0.length c0] w0 (fun e w' => ∃ v, e = .returned v ∧ crc_Cut.post w0 r v w') := by
  have hS : Sat w0 (rf w0) [] := Sat.start w0
  unfold crc_Cut.f at H
  refine calls_of_WC (vs := [.slice A0 l0.length c0]) Try.func16 (c := C16) (n := 20) (by kernel_rfl) (by kernel_rfl) (by kernel_rfl) ?_
  refine WC.seq (by kernel_rfl) ?_
  refine WC.reg [0, 1] (by kernel_rfl) (by kernel_rfl) ?_
  refine WR.runk [0, 1] [] [0] (L' := [(0, .slice A0 l0.length c0)]) (w' := w0) (by kernel_rfl) ?_
  refine WR.nil ?_
  refine At.go ?_
  refine WC.seq (by kernel_rfl) ?_
  refine WC.seq (by kernel_rfl) ?_
  refine WC.reg [0, 1, 2] (by kernel_rfl) (by kernel_rfl) ?_
  refine WR.runk [0, 1, 2] [] [0, 7] (L' := [(0, .slice A0 l0.length c0), (7, .bool (decide ((l0.length : Int) < 4)))]) (w' := w0) (by kernel_rfl) ?_
  refine WR.nil ?_
  refine At.go ?_
  refine WC.cond (by kernel_rfl) (decide ((l0.length : Int) < 4)) (by kernel_rfl) (by kernel_rfl) (fun hb1 => ?_) (fun hb1 => ?_)
  · replace H := ite_t H hb1
    refine WC.seq (by kernel_rfl) ?_
    refine WC.reg [0, 1] (by kernel_rfl) (by kernel_rfl) ?_
    refine WR.runk [0, 1] [] [2, 3] (L' := [(2, .slice none 0 0), (3, .int .i64 50)]) (w' := w0) (by kernel_rfl) ?_
    refine WR.nil ?_
    refine At.go ?_
    refine WC.ret (by kernel_rfl) ?_
    refine At.thenRet ?_
    obtain rfl := Option.some.inj H
    have hS := hS.addNil (α := Int) 5 (r0 (.int .u8)) 1
    have hS : Sat w0 (rf w0) [osl 5 (r0 (.int .u8)) 1 none 0 ([] : List Int)] := hS.sel [0] (by kernel_rfl)
    exact At.body [.slice none 0 0, .int .i64 50] (by kernel_rfl) ⟨_, rfl, _, _, rfl, hS⟩
  · replace H := ite_f H hb1
    refine WC.skip (by kernel_rfl) ?_
    refine At.go ?_
    refine WC.seq (by kernel_rfl) ?_
    refine WC.reg [0, 1, 2, 3, 4, 5, 6] (by kernel_rfl) (by kernel_rfl) ?_
    refine WR.runk [0, 1, 2, 3] [4, 5, 6] [0, 8, 11] (L' := [(0, .slice A0 l0.length c0), (8, .slice A0 l0.length c0), (11, .int .i64 (wi ((l0.length : Int) - 4)))]) (w' := w0) (by kernel_rfl) ?_
    obtain ⟨y2, e3, H⟩ := bind_ex H
    refine WR.st (St.ofP (PSt.sub (A := A0) (c := c0) (.tmp 8) none (some (.tmp 11)) none (by kernel_rfl) (by kernel_rfl) E22 (by kernel_rfl) (rdS.up R0 hS.sub0).1 e3 rfl (Exists.intro IntKind.i64 (by kernel_rfl)) trivial (fun A4 c5 T6 => ?_)))
    refine WR.runk [] [5, 6] [0, 12] (L' := [(0, .slice A0 l0.length c0), (12, .slice A4 y2.length c5)]) (w' := w0) (by kernel_rfl) ?_
    obtain ⟨r7, e8, H⟩ := bind_ex H
    refine WR.st (St.call (by kernel_rfl) (f := 19) (args := #[.slice A4 y2.length c5]) (by kernel_rfl) (slices_Clone.calls w0 A4 c5 y2 (T6.rd _ _ (rdS.up R0 hS.sub0)) r7 e8) ?_)
    rintro _ w14 ⟨A16, c17, rfl, hS15⟩
    have hS : Sat w14 (rf w0) [osl 5 (r0 (.int .u8)) 1 A16 c17 r7] := hS.ext hS15
    refine WR.runk [6] [] [0, 4] (L' := [(0, .slice A0 l0.length c0), (4, .slice A16 r7.length c17)]) (w' := w14) (by kernel_rfl) ?_
    refine WR.nil ?_
    refine At.go ?_
    refine WC.seq (by kernel_rfl) ?_
    refine WC.seq (by kernel_rfl) ?_
    refine WC.reg [0, 1, 2, 3, 4] (by kernel_rfl) (by kernel_rfl) ?_
    refine WR.runk [0] [1, 2, 3, 4] [0, 4, 14] (L' := [(0, .slice A0 l0.length c0), (4, .slice A16 r7.length c17), (14, .slice A16 r7.length c17)]) (w' := w14) (by kernel_rfl) ?_
    obtain ⟨r18, e19, H⟩ := bind_ex H
    refine WR.st (St.call (by kernel_rfl) (f := 15) (args := #[.slice A16 r7.length c17]) (by kernel_rfl) (crc_Put.calls w14 A16 c17 r7 (Sat.rdAt 0 hS rfl) r18 e19) ?_)
    rintro _ w25 ⟨A27, c28, rfl, hS26⟩
    have hS : Sat w25 (rf w0) [osl 5 (r0 (.int .u8)) 1 A27 c28 r18, osl 5 (r0 (.int .u8)) 1 A16 c17 r7] := hS.ext hS26
    refine WR.runk [2] [3, 4] [4, 15, 16] (L' := [(4, .slice A16 r7.length c17), (15, .slice A27 r18.length c28), (16, .slice A0 l0.length c0)]) (w' := w25) (by kernel_rfl) ?_
    obtain ⟨r29, e30, H⟩ := bind_ex H
    refine WR.st (St.call (by kernel_rfl) (f := 20) (args := #[.slice A27 r18.length c28, .slice A0 l0.length c0]) (by kernel_rfl) (slices_Equal.calls w25 A27 c28 r18 (Sat.rdAt 0 hS rfl) A0 c0 l0 (rdS.up R0 hS.sub0) r29 e30) ?_)
    rintro _ w36 ⟨rfl, hS37⟩
    have hS : Sat w36 (rf w0) [osl 5 (r0 (.int .u8)) 1 A27 c28 r18, osl 5 (r0 (.int .u8)) 1 A16 c17 r7] := hS.ext hS37
    refine WR.runk [4] [] [4, 18] (L' := [(4, .slice A16 r7.length c17), (18, .bool (!r29))]) (w' := w36) (by kernel_rfl) ?_
    refine WR.nil ?_
    refine At.go ?_
    refine WC.cond (by kernel_rfl) (!r29) (by kernel_rfl) (by kernel_rfl) (fun hb38 => ?_) (fun hb38 => ?_)
    · replace H := ite_t H hb38
      refine WC.seq (by kernel_rfl) ?_
      refine WC.reg [0, 1] (by kernel_rfl) (by kernel_rfl) ?_
      refine WR.runk [0, 1] [] [2, 3] (L' := [(2, .slice none 0 0), (3, .int .i64 40)]) (w' := w36) (by kernel_rfl) ?_
      refine WR.nil ?_
      refine At.go ?_
      refine WC.ret (by kernel_rfl) ?_
      refine At.thenRet ?_
      obtain rfl := Option.some.inj H
      have hS := hS.addNil (α := Int) 5 (r0 (.int .u8)) 1
      have hS : Sat w36 (rf w0) [osl 5 (r0 (.int .u8)) 1 none 0 ([] : List Int)] := hS.sel [0] (by kernel_rfl)
      exact At.body [.slice none 0 0, .int .i64 40] (by kernel_rfl) ⟨_, rfl, _, _, rfl, hS⟩
    · replace H := ite_f H hb38
      refine WC.skip (by kernel_rfl) ?_
      refine At.go ?_
      refine WC.seq (by kernel_rfl) ?_
      refine WC.reg [0, 1, 2] (by kernel_rfl) (by kernel_rfl) ?_
      refine WR.runk [0, 1, 2] [] [2, 3] (L' := [(2, .slice A16 r7.length c17), (3, .int .i64 0)]) (w' := w36) (by kernel_rfl) ?_
      refine WR.nil ?_
      refine At.go ?_
      refine WC.ret (by kernel_rfl) ?_
      obtain rfl := Option.some.inj H
      have hS : Sat w36 (rf w0) [osl 5 (r0 (.int .u8)) 1 A16 c17 r7] := hS.sel [1] (by kernel_rfl)
      exact At.body [.slice A16 r7.length c17, .int .i64 0] (by kernel_rfl) ⟨_, rfl, _, _, rfl, hS⟩
/-! ### 11 colophon/page.Get -/
def page_Get.l1 (r3 : (List Int) × Int) : Nat → Int → Int → Option Int
  | 0, _, _ => none
  | k + 1, x7_l1, x8_l1 => (if decide (x8_l1 ≥ 0) then ((at? r3.1 (wi (256 + x8_l1))).bind fun v16 => page_Get.l1 r3 k (ior .i64 (ishl .i64 x7_l1 8) (wi v16)) (wi (x8_l1 - 1))) else some x7_l1)
def page_Get.f (l0 : List Int) : Option (Int × (List Int) × Int) := (if decide ((l0.length : Int) < 264) then some (0, ([] : List Int), 50) else (if decide ((l0.length : Int) > 264) then some (0, ([] : List Int), 51) else ((crc_Cut.f l0).bind fun r3 => (if (r3.2 != 0) then some (0, ([] : List Int), r3.2) else ((page_Get.l1 r3 FU 0 3).bind fun o18 => (if decide (o18 ≥ 4096) then some (0, ([] : List Int), 10) else ((sub? r3.1 0 256).bind fun y26 => some (o18, y26, 0))))))))
def page_Get.post (w : World) (r : Int × (List Int) × Int) (v : Value) (w' : World) : Prop := ∃ (A1' : Option Addr) (c1' : Nat), v = .tuple #[.int .i64 r.1, .slice A1' r.2.1.length c1', .int .i64 r.2.2] ∧ Sat w' (rf w) [osl 5 (r0 (.int .u8)) 1 A1' c1' r.2.1]
theorem page_Get.l1_ok {Q} (w0 : World) (r3 : (List Int) × Int) (A12 : Option Addr) (c13 : Nat) (out : Int) (hn0 : ∀ (w : World), Sat w (rf w0) [osl 5 (r0 (.int .u8)) 1 A12 c13 r3.1] → At Q (.exit 1) 43 [(5, .slice A12 r3.1.length c13), (7, .int .i64 out)] w) :
    ∀ (k : Nat) (x7_l1 : Int) (x8_l1 : Int) (w : World), Sat w (rf w0) [osl 5 (r0 (.int .u8)) 1 A12 c13 r3.1] → page_Get.l1 r3 k x7_l1 x8_l1 = some out → WL Try.prog (cbody (cbody (cr (cl (cr (cr (cr (cr (cr C11))))))))) Q 43 [(5, .slice A12 r3.1.length c13), (7, .int .i64 x7_l1), (8, .int .i64 x8_l1)] w := by
  intro k
  induction k with
  | zero => intro x7_l1 x8_l1 w hS H; exact absurd (show none = some out from H) (by simp)
  | succ k ih =>
    intro x7_l1 x8_l1 w hS H
    unfold page_Get.l1 at H
    refine WL.round ?_
    refine WC.seq (by kernel_rfl) ?_
    refine WC.seq (by kernel_rfl) ?_
    refine WC.reg [0, 1] (by kernel_rfl) (by kernel_rfl) ?_
    refine WR.runk [0, 1] [] [5, 7, 8, 26] (L' := [(5, .slice A12 r3.1.length c13), (7, .int .i64 x7_l1), (8, .int .i64 x8_l1), (26, .bool (decide (x8_l1 ≥ 0)))]) (w' := w) (by kernel_rfl) ?_
    refine WR.nil ?_
    refine At.go ?_
    refine WC.cond (by kernel_rfl) (decide (x8_l1 ≥ 0)) (by kernel_rfl) (by kernel_rfl) (fun hb15 => ?_) (fun hb15 => ?_)
    · replace H := ite_t H hb15
      refine WC.skip (by kernel_rfl) ?_
      refine At.go ?_
      refine WC.seq (by kernel_rfl) ?_
      refine WC.block (by kernel_rfl) ?_
      refine WC.reg [0, 1, 2, 3, 4, 5, 6, 7, 8, 9] (by kernel_rfl) (by kernel_rfl) ?_
      refine WR.runk [0, 1, 2, 3, 4] [5, 6, 7, 8, 9] [5, 7, 8, 30, 31, 33] (L' := [(5, .slice A12 r3.1.length c13), (7, .int .i64 x7_l1), (8, .int .i64 x8_l1), (30, .int .i64 (ishl .i64 x7_l1 8)), (31, .slice A12 r3.1.length c13), (33, .int .i64 (wi (256 + x8_l1)))]) (w' := w) (by kernel_rfl) ?_
      obtain ⟨v16, e17, H⟩ := bind_ex H
      refine WR.st (St.ofP (PSt.idx (k := .i64) (.tmp 31) (.tmp 33) (by kernel_rfl) (by kernel_rfl) E22 (by kernel_rfl) (by kernel_rfl) (Sat.rdAt 0 hS rfl) e17 ?_))
      refine WR.runk [] [6, 7, 8, 9] [5, 7, 8, 30, 34] (L' := [(5, .slice A12 r3.1.length c13), (7, .int .i64 x7_l1), (8, .int .i64 x8_l1), (30, .int .i64 (ishl .i64 x7_l1 8)), (34, .pointer (some (adr A12 (wi (256 + x8_l1)).toNat 1)))]) (w' := w) (by kernel_rfl) ?_
      refine WR.st (St.ofR (RSt.loadInt (t := 5) (.tmp 34) (by kernel_rfl) (by kernel_rfl) (by kernel_rfl) (by kernel_rfl) (Sat.rdAt 0 hS rfl) e17 ?_))
      refine WR.runk [7, 8, 9] [] [5, 7, 8] (L' := [(5, .slice A12 r3.1.length c13), (7, .int .i64 (ior .i64 (ishl .i64 x7_l1 8) (wi v16))), (8, .int .i64 x8_l1)]) (w' := w) (by kernel_rfl) ?_
      refine WR.nil ?_
      refine At.blockNormal ?_
      refine At.go ?_
      refine WC.reg [0, 1, 2] (by kernel_rfl) (by kernel_rfl) ?_
      refine WR.runk [0, 1, 2] [] [5, 7, 8] (L' := [(5, .slice A12 r3.1.length c13), (7, .int .i64 (ior .i64 (ishl .i64 x7_l1 8) (wi v16))), (8, .int .i64 (wi (x8_l1 - 1)))]) (w' := w) (by kernel_rfl) ?_
      refine WR.nil ?_
      have hS : Sat w (rf w0) [osl 5 (r0 (.int .u8)) 1 A12 c13 r3.1] := hS.sel [0] (by kernel_rfl)
      refine At.again ?_
      refine WL.weaken [5, 7, 8] (L' := [(5, .slice A12 r3.1.length c13), (7, .int .i64 (ior .i64 (ishl .i64 x7_l1 8) (wi v16))), (8, .int .i64 (wi (x8_l1 - 1)))]) (by kernel_rfl) ?_
      exact ih (ior .i64 (ishl .i64 x7_l1 8) (wi v16)) (wi (x8_l1 - 1)) _ hS H
    · replace H := ite_f H hb15
      refine WC.exit (by kernel_rfl) ?_
      refine At.thenExit ?_
      refine At.thenExit ?_
      obtain rfl := Option.some.inj H
      have hS : Sat w (rf w0) [osl 5 (r0 (.int .u8)) 1 A12 c13 r3.1] := hS.sel [0] (by kernel_rfl)
      refine At.weaken [5, 7] (L' := [(5, .slice A12 r3.1.length c13), (7, .int .i64 x7_l1)]) (by kernel_rfl) ?_
      exact hn0 _ hS
theorem page_Get.calls (w0 : World) (A0 : Option Addr) (c0 : Nat) (l0 : List Int) (R0 : rdS (r0 (.int .u8)) 1 (hp w0) A0 c0 l0) (r : Int × (List Int) × Int) (H : page_Get.f l0 = some r) :
    Calls Try.prog 11 #[.slice A0 l0.length c0] w0 (fun e w' => ∃ v, e = .returned v ∧ page_Get.post w0 r v w') := by
  have hS : Sat w0 (rf w0) [] := Sat.start w0
  unfold page_Get.f at H
  refine calls_of_WC (vs := [.slice A0 l0.length c0]) Try.func11 (c := C11) (n := 43) (by kernel_rfl) (by kernel_rfl) (by kernel_rfl) ?_
  refine WC.seq (by kernel_rfl) ?_
  refine WC.reg [0, 1, 2] (by kernel_rfl) (by kernel_rfl) ?_
  refine WR.runk [0, 1, 2] [] [0] (L' := [(0, .slice A0 l0.length c0)]) (w' := w0) (by kernel_rfl) ?_
  refine WR.nil ?_
  refine At.go ?_
  refine WC.seq (by kernel_rfl) ?_
  refine WC.block (by kernel_rfl) ?_
  refine WC.seq (by kernel_rfl) ?_
  refine WC.reg [0, 1, 2, 3] (by kernel_rfl) (by kernel_rfl) ?_
  refine WR.runk [0, 1, 2, 3] [] [0, 9] (L' := [(0, .slice A0 l0.length c0), (9, .bool (decide ((l0.length : Int) < 264)))]) (w' := w0) (by kernel_rfl) ?_
  refine WR.nil ?_
  refine At.go ?_
  refine WC.cond (by kernel_rfl) (decide ((l0.length : Int) < 264)) (by kernel_rfl) (by kernel_rfl) (fun hb1 => ?_) (fun hb1 => ?_)
  · replace H := ite_t H hb1
    refine WC.seq (by kernel_rfl) ?_
    refine WC.reg [0, 1, 2] (by kernel_rfl) (by kernel_rfl) ?_
    refine WR.runk [0, 1, 2] [] [2, 3, 4] (L' := [(2, .int .i64 0), (3, .slice none 0 0), (4, .int .i64 50)]) (w' := w0) (by kernel_rfl) ?_
    refine WR.nil ?_
    refine At.go ?_
    refine WC.ret (by kernel_rfl) ?_
    refine At.blockRet ?_
    refine At.thenRet ?_
    obtain rfl := Option.some.inj H
    have hS := hS.addNil (α := Int) 5 (r0 (.int .u8)) 1
    have hS : Sat w0 (rf w0) [osl 5 (r0 (.int .u8)) 1 none 0 ([] : List Int)] := hS.sel [0] (by kernel_rfl)
    exact At.body [.int .i64 0, .slice none 0 0, .int .i64 50] (by kernel_rfl) ⟨_, rfl, _, _, rfl, hS⟩
  · replace H := ite_f H hb1
    refine WC.seq (by kernel_rfl) ?_
    refine WC.reg [0, 1, 2, 3] (by kernel_rfl) (by kernel_rfl) ?_
    refine WR.runk [0, 1, 2, 3] [] [0, 13] (L' := [(0, .slice A0 l0.length c0), (13, .bool (decide ((l0.length : Int) > 264)))]) (w' := w0) (by kernel_rfl) ?_
    refine WR.nil ?_
    refine At.go ?_
    refine WC.cond (by kernel_rfl) (decide ((l0.length : Int) > 264)) (by kernel_rfl) (by kernel_rfl) (fun hb2 => ?_) (fun hb2 => ?_)
    · replace H := ite_t H hb2
      refine WC.seq (by kernel_rfl) ?_
      refine WC.reg [0, 1, 2] (by kernel_rfl) (by kernel_rfl) ?_
      refine WR.runk [0, 1, 2] [] [2, 3, 4] (L' := [(2, .int .i64 0), (3, .slice none 0 0), (4, .int .i64 51)]) (w' := w0) (by kernel_rfl) ?_
      refine WR.nil ?_
      refine At.go ?_
      refine WC.ret (by kernel_rfl) ?_
      refine At.blockRet ?_
      refine At.thenRet ?_
      obtain rfl := Option.some.inj H
      have hS := hS.addNil (α := Int) 5 (r0 (.int .u8)) 1
      have hS : Sat w0 (rf w0) [osl 5 (r0 (.int .u8)) 1 none 0 ([] : List Int)] := hS.sel [0] (by kernel_rfl)
      exact At.body [.int .i64 0, .slice none 0 0, .int .i64 51] (by kernel_rfl) ⟨_, rfl, _, _, rfl, hS⟩
    · replace H := ite_f H hb2
      refine WC.skip (by kernel_rfl) ?_
      refine At.blockNormal ?_
      refine At.go ?_
      refine WC.seq (by kernel_rfl) ?_
      refine WC.reg [0, 1, 2, 3, 4, 5, 6] (by kernel_rfl) (by kernel_rfl) ?_
      refine WR.runk [0] [1, 2, 3, 4, 5, 6] [18] (L' := [(18, .slice A0 l0.length c0)]) (w' := w0) (by kernel_rfl) ?_
      obtain ⟨r3, e4, H⟩ := bind_ex H
      refine WR.st (St.call (by kernel_rfl) (f := 16) (args := #[.slice A0 l0.length c0]) (by kernel_rfl) (crc_Cut.calls w0 A0 c0 l0 (rdS.up R0 hS.sub0) r3 e4) ?_)
      rintro _ w10 ⟨A12, c13, rfl, hS11⟩
      have hS : Sat w10 (rf w0) [osl 5 (r0 (.int .u8)) 1 A12 c13 r3.1] := hS.ext hS11
      refine WR.runk [2, 3, 4, 5, 6] [] [5, 6] (L' := [(5, .slice A12 r3.1.length c13), (6, .int .i64 r3.2)]) (w' := w10) (by kernel_rfl) ?_
      refine WR.nil ?_
      refine At.go ?_
      refine WC.seq (by kernel_rfl) ?_
      refine WC.seq (by kernel_rfl) ?_
      refine WC.reg [0, 1] (by kernel_rfl) (by kernel_rfl) ?_
      refine WR.runk [0, 1] [] [5, 6, 23] (L' := [(5, .slice A12 r3.1.length c13), (6, .int .i64 r3.2), (23, .bool (r3.2 != 0))]) (w' := w10) (by kernel_rfl) ?_
      refine WR.nil ?_
      refine At.go ?_
      refine WC.cond (by kernel_rfl) (r3.2 != 0) (by kernel_rfl) (by kernel_rfl) (fun hb14 => ?_) (fun hb14 => ?_)
      · replace H := ite_t H hb14
        refine WC.seq (by kernel_rfl) ?_
        refine WC.reg [0, 1, 2, 3] (by kernel_rfl) (by kernel_rfl) ?_
        refine WR.runk [0, 1, 2, 3] [] [2, 3, 4] (L' := [(2, .int .i64 0), (3, .slice none 0 0), (4, .int .i64 r3.2)]) (w' := w10) (by kernel_rfl) ?_
        refine WR.nil ?_
        refine At.go ?_
        refine WC.ret (by kernel_rfl) ?_
        refine At.thenRet ?_
        obtain rfl := Option.some.inj H
        have hS := hS.addNil (α := Int) 5 (r0 (.int .u8)) 1
        have hS : Sat w10 (rf w0) [osl 5 (r0 (.int .u8)) 1 none 0 ([] : List Int)] := hS.sel [0] (by kernel_rfl)
        exact At.body [.int .i64 0, .slice none 0 0, .int .i64 r3.2] (by kernel_rfl) ⟨_, rfl, _, _, rfl, hS⟩
      · replace H := ite_f H hb14
        refine WC.skip (by kernel_rfl) ?_
        refine At.go ?_
        refine WC.seq (by kernel_rfl) ?_
        refine WC.reg [0] (by kernel_rfl) (by kernel_rfl) ?_
        refine WR.runk [0] [] [5, 7] (L' := [(5, .slice A12 r3.1.length c13), (7, .int .i64 0)]) (w' := w10) (by kernel_rfl) ?_
        refine WR.nil ?_
        refine At.go ?_
        refine WC.seq (by kernel_rfl) ?_
        refine WC.seq (by kernel_rfl) ?_
        refine WC.reg [0] (by kernel_rfl) (by kernel_rfl) ?_
        refine WR.runk [0] [] [5, 7, 8] (L' := [(5, .slice A12 r3.1.length c13), (7, .int .i64 0), (8, .int .i64 3)]) (w' := w10) (by kernel_rfl) ?_
        refine WR.nil ?_
        refine At.go ?_
        refine WC.block (by kernel_rfl) ?_
        have hS : Sat w10 (rf w0) [osl 5 (r0 (.int .u8)) 1 A12 c13 r3.1] := hS.sel [0] (by kernel_rfl)
        obtain ⟨o18, e19, H⟩ := bind_ex H
        refine WC.loop (by kernel_rfl) ?_
        refine WL.weaken [5, 7, 8] (L' := [(5, .slice A12 r3.1.length c13), (7, .int .i64 0), (8, .int .i64 3)]) (by kernel_rfl) ?_
        refine page_Get.l1_ok w0 r3 A12 c13 o18 (fun w21 hS => ?_) FU 0 3 _ hS e19
        refine At.hit ?_
        refine At.go ?_
        refine WC.seq (by kernel_rfl) ?_
        refine WC.seq (by kernel_rfl) ?_
        refine WC.reg [0, 1] (by kernel_rfl) (by kernel_rfl) ?_
        refine WR.runk [0, 1] [] [5, 7, 39] (L' := [(5, .slice A12 r3.1.length c13), (7, .int .i64 o18), (39, .bool (decide (o18 ≥ 4096)))]) (w' := w21) (by kernel_rfl) ?_
        refine WR.nil ?_
        refine At.go ?_
        refine WC.cond (by kernel_rfl) (decide (o18 ≥ 4096)) (by kernel_rfl) (by kernel_rfl) (fun hb23 => ?_) (fun hb23 => ?_)
        · replace H := ite_t H hb23
          refine WC.seq (by kernel_rfl) ?_
          refine WC.reg [0, 1, 2] (by kernel_rfl) (by kernel_rfl) ?_
          refine WR.runk [0, 1, 2] [] [2, 3, 4] (L' := [(2, .int .i64 0), (3, .slice none 0 0), (4, .int .i64 10)]) (w' := w21) (by kernel_rfl) ?_
          refine WR.nil ?_
          refine At.go ?_
          refine WC.ret (by kernel_rfl) ?_
          refine At.thenRet ?_
          obtain rfl := Option.some.inj H
          have hS := hS.addNil (α := Int) 5 (r0 (.int .u8)) 1
          have hS : Sat w21 (rf w0) [osl 5 (r0 (.int .u8)) 1 none 0 ([] : List Int)] := hS.sel [0] (by kernel_rfl)
          exact At.body [.int .i64 0, .slice none 0 0, .int .i64 10] (by kernel_rfl) ⟨_, rfl, _, _, rfl, hS⟩
        · replace H := ite_f H hb23
          refine WC.skip (by kernel_rfl) ?_
          refine At.go ?_
          refine WC.seq (by kernel_rfl) ?_
          refine WC.drawn (by kernel_rfl) (by kernel_rfl) 6 (by kernel_rfl) (fun w24 hw25 => ?_)
          have hS := hS.heap hw25.1 hw25.2
          refine WD.weaken [5, 7] (L' := [(5, .slice A12 r3.1.length c13), (7, .int .i64 o18)]) (by kernel_rfl) ?_
          refine WD.pure (i := 0) (v := .int .i64 o18) (by kernel_rfl) (by kernel_rfl) (fun _ => by kernel_rfl) ?_
          refine WD.weaken [5, 40] (L' := [(5, .slice A12 r3.1.length c13), (40, .int .i64 o18)]) (by kernel_rfl) ?_
          refine WD.pure (i := 1) (v := .slice A12 r3.1.length c13) (by kernel_rfl) (by kernel_rfl) (fun _ => by kernel_rfl) ?_
          refine WD.weaken [40, 41] (L' := [(40, .int .i64 o18), (41, .slice A12 r3.1.length c13)]) (by kernel_rfl) ?_
          obtain ⟨y26, e27, H⟩ := bind_ex H
          refine WD.ofP (i := 2) (by kernel_rfl) (PSt.sub (A := A12) (c := c13) (.tmp 41) none (some (.const (.int .i64 256))) (some (.const (.int .i64 256))) (by kernel_rfl) (by kernel_rfl) E22 (by kernel_rfl) (Sat.rdAt 0 hS rfl).1 e27 rfl (Exists.intro IntKind.i64 (by kernel_rfl)) (Exists.intro IntKind.i64 (by kernel_rfl)) (fun A28 c29 T30 => ?_))
          refine WD.weaken [40, 42] (L' := [(40, .int .i64 o18), (42, .slice A28 y26.length c29)]) (by kernel_rfl) ?_
          refine WD.pure (i := 3) (v := .int .i64 o18) (by kernel_rfl) (by kernel_rfl) (fun _ => by kernel_rfl) ?_
          refine WD.weaken [2, 42] (L' := [(2, .int .i64 o18), (42, .slice A28 y26.length c29)]) (by kernel_rfl) ?_
          refine WD.pure (i := 4) (v := .slice A28 y26.length c29) (by kernel_rfl) (by kernel_rfl) (fun _ => by kernel_rfl) ?_
          refine WD.weaken [2, 3] (L' := [(2, .int .i64 o18), (3, .slice A28 y26.length c29)]) (by kernel_rfl) ?_
          refine WD.pure (i := 5) (v := .int .i64 0) (by kernel_rfl) (by kernel_rfl) (fun _ => by kernel_rfl) ?_
          refine WD.weaken [2, 3, 4] (L' := [(2, .int .i64 o18), (3, .slice A28 y26.length c29), (4, .int .i64 0)]) (by kernel_rfl) ?_
          refine WD.nil (by kernel_rfl) ?_
          refine At.go ?_
          refine WC.ret (by kernel_rfl) ?_
          obtain rfl := Option.some.inj H
          have hS : Sat w24 (rf w0) [osl 5 (r0 (.int .u8)) 1 A28 c29 y26] := T30.sat _ _ _ _ _ hS
          have hS : Sat w24 (rf w0) [osl 5 (r0 (.int .u8)) 1 A28 c29 y26] := hS.sel [0] (by kernel_rfl)
          exact At.body [.int .i64 o18, .slice A28 y26.length c29, .int .i64 0] (by kernel_rfl) ⟨_, rfl, _, _, rfl, hS⟩
/-! ### 14 colophon/page.Many -/
def page_Many.f (a0 : Int) : Option Int := (if decide (a0 ≤ 0) then some 0 else some (wi ((wi (Int.tdiv (wi (a0 - 1)) 256)) + 1)))
def page_Many.post (w : World) (r : Int) (v : Value) (w' : World) : Prop := v = (.int .i64 r : Value) ∧ Sat w' (rf w) []
theorem page_Many.calls (w0 : World) (a0 : Int) (r : Int) (H : page_Many.f a0 = some r) :
    Calls Try.prog 14 #[.int .i64 a0] w0 (fun e w' => ∃ v, e = .returned v ∧ page_Many.post w0 r v w') := by
  have hS : Sat w0 (rf w0) [] := Sat.start w0
  unfold page_Many.f at H
  refine calls_of_WC (vs := [.int .i64 a0]) Try.func14 (c := C14) (n := 9) (by kernel_rfl) (by kernel_rfl) (by kernel_rfl) ?_
  refine WC.seq (by kernel_rfl) ?_
  refine WC.reg [0] (by kernel_rfl) (by kernel_rfl) ?_
  refine WR.runk [0] [] [0] (L' := [(0, .int .i64 a0)]) (w' := w0) (by kernel_rfl) ?_
  refine WR.nil ?_
  refine At.go ?_
  refine WC.seq (by kernel_rfl) ?_
  refine WC.seq (by kernel_rfl) ?_
  refine WC.reg [0, 1] (by kernel_rfl) (by kernel_rfl) ?_
  refine WR.runk [0, 1] [] [0, 4] (L' := [(0, .int .i64 a0), (4, .bool (decide (a0 ≤ 0)))]) (w' := w0) (by kernel_rfl) ?_
  refine WR.nil ?_
  refine At.go ?_
  refine WC.cond (by kernel_rfl) (decide (a0 ≤ 0)) (by kernel_rfl) (by kernel_rfl) (fun hb1 => ?_) (fun hb1 => ?_)
  · replace H := ite_t H hb1
    refine WC.seq (by kernel_rfl) ?_
    refine WC.reg [0] (by kernel_rfl) (by kernel_rfl) ?_
    refine WR.runk [0] [] [2] (L' := [(2, .int .i64 0)]) (w' := w0) (by kernel_rfl) ?_
    refine WR.nil ?_
    refine At.go ?_
    refine WC.ret (by kernel_rfl) ?_
    refine At.thenRet ?_
    obtain rfl := Option.some.inj H
    have hS : Sat w0 (rf w0) [] := hS.sel [] (by kernel_rfl)
    exact At.body [.int .i64 0] (by kernel_rfl) ⟨_, rfl, rfl, hS⟩
  · replace H := ite_f H hb1
    refine WC.skip (by kernel_rfl) ?_
    refine At.go ?_
    refine WC.seq (by kernel_rfl) ?_
    refine WC.reg [0, 1, 2, 3, 4] (by kernel_rfl) (by kernel_rfl) ?_
    refine WR.runk [0, 1, 2, 3, 4] [] [2] (L' := [(2, .int .i64 (wi ((wi (Int.tdiv (wi (a0 - 1)) 256)) + 1)))]) (w' := w0) (by kernel_rfl) ?_
    refine WR.nil ?_
    refine At.go ?_
    refine WC.ret (by kernel_rfl) ?_
    obtain rfl := Option.some.inj H
    have hS : Sat w0 (rf w0) [] := hS.sel [] (by kernel_rfl)
    exact At.body [.int .i64 (wi ((wi (Int.tdiv (wi (a0 - 1)) 256)) + 1))] (by kernel_rfl) ⟨_, rfl, rfl, hS⟩
/-! ### 8 colophon/colophonlaw05.first -/
def colophonlaw05_first.f : Option Bool := ((page_Put.f 300 ([97, 98] : List Int)).bind fun r4 => ((page_Get.f r4.1).bind fun r15 => ((page_Put.f 4096 ([] : List Int)).bind fun r26 => (if (r4.2 == 0) then (if ((r4.1.length : Int) == 264) then (if (r15.2.2 == 0) then (if (r15.1 == 300) then (if ((r15.2.1.length : Int) == 256) then ((at? r15.2.1 1).bind fun v42 => (if (v42 == 98) then ((at? r15.2.1 2).bind fun v45 => (if (v45 == 0) then (if (r26.2 == 2) then ((page_Many.f 257).bind fun r49 => some (r49 == 2)) else some false) else some false)) else some false)) else some false) else some false) else some false) else some false) else some false))))
def colophonlaw05_first.post (w : World) (r : Bool) (v : Value) (w' : World) : Prop := v = (.bool r : Value) ∧ Sat w' (rf w) []
theorem colophonlaw05_first.calls (w0 : World) (r : Bool) (H : colophonlaw05_first.f = some r) :
    Calls Try.prog 8 #[] w0 (fun e w' => ∃ v, e = .returned v ∧ colophonlaw05_first.post w0 r v w') := by
  have hS : Sat w0 (rf w0) [] := Sat.start w0
  unfold colophonlaw05_first.f at H
  refine calls_of_WC (vs := []) Try.func8 (c := C8) (n := 64) (by kernel_rfl) (by kernel_rfl) (by kernel_rfl) ?_
  refine WC.seq (by kernel_rfl) ?_
  refine WC.reg [0] (by kernel_rfl) (by kernel_rfl) ?_
  refine WR.runk [0] [] [] (L' := []) (w' := w0) (by kernel_rfl) ?_
  refine WR.nil ?_
  refine At.go ?_
  refine WC.seq (by kernel_rfl) ?_
  refine WC.reg [0, 1, 2, 3, 4, 5, 6, 7] (by kernel_rfl) (by kernel_rfl) ?_
  refine WR.st (St.box hS (by kernel_rfl) (.cells #[.int .u8 97, .int .u8 98] 5) (fun b1 => .slice (some ⟨b1, 0, none⟩) 2 2) (fun _ => by kernel_rfl) (fun b1 w2 hS => ?_))
  refine WR.runk [] [1, 2, 3, 4, 5, 6, 7] [9] (L' := [(9, .slice (some ⟨b1, 0, none⟩) 2 2)]) (w' := w2) (by kernel_rfl) ?_
  refine WR.st (St.mark (t := 22) (e := 5) (m := 2) (cp := 2) (.tmp 9) (by kernel_rfl) (by kernel_rfl) (by kernel_rfl) (by kernel_rfl) hS (by kernel_rfl) (fun w3 hS => ?_))
  refine WR.runk [] [2, 3, 4, 5, 6, 7] [10] (L' := [(10, .slice (some ⟨b1, 0, none⟩) 2 2)]) (w' := w3) (by kernel_rfl) ?_
  obtain ⟨r4, e5, H⟩ := bind_ex H
  refine WR.st (St.call (by kernel_rfl) (f := 9) (args := #[.int .i64 300, .slice (some ⟨b1, 0, none⟩) 2 2]) (by kernel_rfl) (page_Put.calls w3 300 (some ⟨b1, 0, none⟩) 2 ([97, 98] : List Int) (Sat.ptsAt 0 (r0 (.int .u8)) 1 ([97, 98] : List Int) hS rfl rfl (rdL.cons1 rfl (rdL.cons1 rfl (rdL.nil _ _)))) r4 e5) ?_)
  rintro _ w11 ⟨A13, c14, rfl, hS12⟩
  have hS : Sat w11 (rf w0) [osl 5 (r0 (.int .u8)) 1 A13 c14 r4.1, pts b1 (.cells #[.int .u8 97, .int .u8 98] 5 (2, 3))] := hS.ext hS12
  refine WR.runk [3, 4, 5, 6, 7] [] [1, 2] (L' := [(1, .slice A13 r4.1.length c14), (2, .int .i64 r4.2)]) (w' := w11) (by kernel_rfl) ?_
  refine WR.nil ?_
  refine At.go ?_
  refine WC.seq (by kernel_rfl) ?_
  refine WC.reg [0, 1, 2, 3, 4, 5, 6, 7, 8] (by kernel_rfl) (by kernel_rfl) ?_
  refine WR.runk [0] [1, 2, 3, 4, 5, 6, 7, 8] [1, 2, 15] (L' := [(1, .slice A13 r4.1.length c14), (2, .int .i64 r4.2), (15, .slice A13 r4.1.length c14)]) (w' := w11) (by kernel_rfl) ?_
  obtain ⟨r15, e16, H⟩ := bind_ex H
  refine WR.st (St.call (by kernel_rfl) (f := 11) (args := #[.slice A13 r4.1.length c14]) (by kernel_rfl) (page_Get.calls w11 A13 c14 r4.1 (Sat.rdAt 0 hS rfl) r15 e16) ?_)
  rintro _ w22 ⟨A24, c25, rfl, hS23⟩
  have hS : Sat w22 (rf w0) [osl 5 (r0 (.int .u8)) 1 A24 c25 r15.2.1, osl 5 (r0 (.int .u8)) 1 A13 c14 r4.1, pts b1 (.cells #[.int .u8 97, .int .u8 98] 5 (2, 3))] := hS.ext hS23
  refine WR.runk [2, 3, 4, 5, 6, 7, 8] [] [1, 2, 3, 4, 5] (L' := [(1, .slice A13 r4.1.length c14), (2, .int .i64 r4.2), (3, .int .i64 r15.1), (4, .slice A24 r15.2.1.length c25), (5, .int .i64 r15.2.2)]) (w' := w22) (by kernel_rfl) ?_
  refine WR.nil ?_
  refine At.go ?_
  refine WC.seq (by kernel_rfl) ?_
  refine WC.reg [0, 1, 2, 3, 4, 5] (by kernel_rfl) (by kernel_rfl) ?_
  obtain ⟨r26, e27, H⟩ := bind_ex H
  refine WR.st (St.call (by kernel_rfl) (f := 9) (args := #[.int .i64 4096, .slice none 0 0]) (by kernel_rfl) (page_Put.calls w22 4096 none 0 ([] : List Int) (rdS.nil _ _ _) r26 e27) ?_)
  rintro _ w33 ⟨A35, c36, rfl, hS34⟩
  have hS : Sat w33 (rf w0) [osl 5 (r0 (.int .u8)) 1 A35 c36 r26.1, osl 5 (r0 (.int .u8)) 1 A24 c25 r15.2.1, osl 5 (r0 (.int .u8)) 1 A13 c14 r4.1, pts b1 (.cells #[.int .u8 97, .int .u8 98] 5 (2, 3))] := hS.ext hS34
  refine WR.runk [1, 2, 3, 4, 5] [] [1, 2, 3, 4, 5, 7] (L' := [(1, .slice A13 r4.1.length c14), (2, .int .i64 r4.2), (3, .int .i64 r15.1), (4, .slice A24 r15.2.1.length c25), (5, .int .i64 r15.2.2), (7, .int .i64 r26.2)]) (w' := w33) (by kernel_rfl) ?_
  refine WR.nil ?_
  refine At.go ?_
  refine WC.seq (by kernel_rfl) ?_
  refine WC.reg [0, 1, 2, 3, 4, 5, 6, 7, 8, 9, 10, 11, 12, 13, 14, 15, 16, 17, 18, 19, 20, 21, 22, 23, 24, 25, 26, 27, 28, 29, 30, 31, 32, 33, 34, 35, 36, 37, 38, 39, 40] (by kernel_rfl) (by kernel_rfl) ?_
  refine WR.runk [0, 1, 2] [3, 4, 5, 6, 7, 8, 9, 10, 11, 12, 13, 14, 15, 16, 17, 18, 19, 20, 21, 22, 23, 24, 25, 26, 27, 28, 29, 30, 31, 32, 33, 34, 35, 36, 37, 38, 39, 40] [1, 3, 4, 5, 7, 26] (L' := [(1, .slice A13 r4.1.length c14), (3, .int .i64 r15.1), (4, .slice A24 r15.2.1.length c25), (5, .int .i64 r15.2.2), (7, .int .i64 r26.2), (26, .bool (r4.2 == 0))]) (w' := w33) (by kernel_rfl) ?_
  refine WR.split 26 (b := (r4.2 == 0)) (by kernel_rfl) (fun hb37 => ?_) (fun hb37 => ?_)
  · replace H := ite_t H hb37
    refine WR.runk [3, 4, 5, 6, 7] [8, 9, 10, 11, 12, 13, 14, 15, 16, 17, 18, 19, 20, 21, 22, 23, 24, 25, 26, 27, 28, 29, 30, 31, 32, 33, 34, 35, 36, 37, 38, 39, 40] [3, 4, 5, 7, 31] (L' := [(3, .int .i64 r15.1), (4, .slice A24 r15.2.1.length c25), (5, .int .i64 r15.2.2), (7, .int .i64 r26.2), (31, .bool ((r4.1.length : Int) == 264))]) (w' := w33) (by kernel_rfl) ?_
    refine WR.split 31 (b := ((r4.1.length : Int) == 264)) (by kernel_rfl) (fun hb38 => ?_) (fun hb38 => ?_)
    · replace H := ite_t H hb38
      refine WR.runk [8, 9, 10, 11] [12, 13, 14, 15, 16, 17, 18, 19, 20, 21, 22, 23, 24, 25, 26, 27, 28, 29, 30, 31, 32, 33, 34, 35, 36, 37, 38, 39, 40] [3, 4, 7, 35] (L' := [(3, .int .i64 r15.1), (4, .slice A24 r15.2.1.length c25), (7, .int .i64 r26.2), (35, .bool (r15.2.2 == 0))]) (w' := w33) (by kernel_rfl) ?_
      refine WR.split 35 (b := (r15.2.2 == 0)) (by kernel_rfl) (fun hb39 => ?_) (fun hb39 => ?_)
      · replace H := ite_t H hb39
        refine WR.runk [12, 13, 14, 15] [16, 17, 18, 19, 20, 21, 22, 23, 24, 25, 26, 27, 28, 29, 30, 31, 32, 33, 34, 35, 36, 37, 38, 39, 40] [4, 7, 39] (L' := [(4, .slice A24 r15.2.1.length c25), (7, .int .i64 r26.2), (39, .bool (r15.1 == 300))]) (w' := w33) (by kernel_rfl) ?_
        refine WR.split 39 (b := (r15.1 == 300)) (by kernel_rfl) (fun hb40 => ?_) (fun hb40 => ?_)
        · replace H := ite_t H hb40
          refine WR.runk [16, 17, 18, 19, 20] [21, 22, 23, 24, 25, 26, 27, 28, 29, 30, 31, 32, 33, 34, 35, 36, 37, 38, 39, 40] [4, 7, 44] (L' := [(4, .slice A24 r15.2.1.length c25), (7, .int .i64 r26.2), (44, .bool ((r15.2.1.length : Int) == 256))]) (w' := w33) (by kernel_rfl) ?_
          refine WR.split 44 (b := ((r15.2.1.length : Int) == 256)) (by kernel_rfl) (fun hb41 => ?_) (fun hb41 => ?_)
          · replace H := ite_t H hb41
            refine WR.runk [21] [22, 23, 24, 25, 26, 27, 28, 29, 30, 31, 32, 33, 34, 35, 36, 37, 38, 39, 40] [4, 7, 44, 45] (L' := [(4, .slice A24 r15.2.1.length c25), (7, .int .i64 r26.2), (44, .bool true), (45, .slice A24 r15.2.1.length c25)]) (w' := w33) (by kernel_rfl) ?_
            obtain ⟨v42, e43, H⟩ := bind_ex H
            refine WR.st (St.ofP (PSt.idx (k := .i64) (.tmp 45) (.const (.int .i64 1)) (by kernel_rfl) (by kernel_rfl) E22 (by kernel_rfl) (by kernel_rfl) (Sat.rdAt 1 hS rfl) e43 ?_))
            refine WR.runk [] [23, 24, 25, 26, 27, 28, 29, 30, 31, 32, 33, 34, 35, 36, 37, 38, 39, 40] [4, 7, 44, 46] (L' := [(4, .slice A24 r15.2.1.length c25), (7, .int .i64 r26.2), (44, .bool true), (46, .pointer (some (adr A24 (1 : Int).toNat 1)))]) (w' := w33) (by kernel_rfl) ?_
            refine WR.st (St.ofR (RSt.loadInt (t := 5) (.tmp 46) (by kernel_rfl) (by kernel_rfl) (by kernel_rfl) (by kernel_rfl) (Sat.rdAt 1 hS rfl) e43 ?_))
            refine WR.runk [24, 25, 26] [27, 28, 29, 30, 31, 32, 33, 34, 35, 36, 37, 38, 39, 40] [4, 7, 50] (L' := [(4, .slice A24 r15.2.1.length c25), (7, .int .i64 r26.2), (50, .bool (v42 == 98))]) (w' := w33) (by kernel_rfl) ?_
            refine WR.split 50 (b := (v42 == 98)) (by kernel_rfl) (fun hb44 => ?_) (fun hb44 => ?_)
            · replace H := ite_t H hb44
              refine WR.runk [27] [28, 29, 30, 31, 32, 33, 34, 35, 36, 37, 38, 39, 40] [7, 50, 51] (L' := [(7, .int .i64 r26.2), (50, .bool true), (51, .slice A24 r15.2.1.length c25)]) (w' := w33) (by kernel_rfl) ?_
              obtain ⟨v45, e46, H⟩ := bind_ex H
              refine WR.st (St.ofP (PSt.idx (k := .i64) (.tmp 51) (.const (.int .i64 2)) (by kernel_rfl) (by kernel_rfl) E22 (by kernel_rfl) (by kernel_rfl) (Sat.rdAt 1 hS rfl) e46 ?_))
              refine WR.runk [] [29, 30, 31, 32, 33, 34, 35, 36, 37, 38, 39, 40] [7, 50, 52] (L' := [(7, .int .i64 r26.2), (50, .bool true), (52, .pointer (some (adr A24 (2 : Int).toNat 1)))]) (w' := w33) (by kernel_rfl) ?_
              refine WR.st (St.ofR (RSt.loadInt (t := 5) (.tmp 52) (by kernel_rfl) (by kernel_rfl) (by kernel_rfl) (by kernel_rfl) (Sat.rdAt 1 hS rfl) e46 ?_))
              refine WR.runk [30, 31, 32] [33, 34, 35, 36, 37, 38, 39, 40] [7, 56] (L' := [(7, .int .i64 r26.2), (56, .bool (v45 == 0))]) (w' := w33) (by kernel_rfl) ?_
              refine WR.split 56 (b := (v45 == 0)) (by kernel_rfl) (fun hb47 => ?_) (fun hb47 => ?_)
              · replace H := ite_t H hb47
                refine WR.runk [33, 34, 35, 36] [37, 38, 39, 40] [60] (L' := [(60, .bool (r26.2 == 2))]) (w' := w33) (by kernel_rfl) ?_
                refine WR.split 60 (b := (r26.2 == 2)) (by kernel_rfl) (fun hb48 => ?_) (fun hb48 => ?_)
                · replace H := ite_t H hb48
                  refine WR.runk [] [37, 38, 39, 40] [60] (L' := [(60, .bool true)]) (w' := w33) (by kernel_rfl) ?_
                  obtain ⟨r49, e50, H⟩ := bind_ex H
                  refine WR.st (St.call (by kernel_rfl) (f := 14) (args := #[.int .i64 257]) (by kernel_rfl) (page_Many.calls w33 257 r49 e50) ?_)
                  rintro _ w56 ⟨rfl, hS57⟩
                  have hS : Sat w56 (rf w0) [osl 5 (r0 (.int .u8)) 1 A35 c36 r26.1, osl 5 (r0 (.int .u8)) 1 A24 c25 r15.2.1, osl 5 (r0 (.int .u8)) 1 A13 c14 r4.1, pts b1 (.cells #[.int .u8 97, .int .u8 98] 5 (2, 3))] := hS.ext hS57
                  refine WR.runk [38, 39, 40] [] [0] (L' := [(0, .bool (r49 == 2))]) (w' := w56) (by kernel_rfl) ?_
                  refine WR.nil ?_
                  refine At.go ?_
                  refine WC.ret (by kernel_rfl) ?_
                  obtain rfl := Option.some.inj H
                  have hS : Sat w56 (rf w0) [] := hS.sel [] (by kernel_rfl)
                  exact At.body [.bool (r49 == 2)] (by kernel_rfl) ⟨_, rfl, rfl, hS⟩
                · replace H := ite_f H hb48
                  refine WR.runk [37, 38, 39, 40] [] [0] (L' := [(0, .bool false)]) (w' := w33) (by kernel_rfl) ?_
                  refine WR.nil ?_
                  refine At.go ?_
                  refine WC.ret (by kernel_rfl) ?_
                  obtain rfl := Option.some.inj H
                  have hS : Sat w33 (rf w0) [] := hS.sel [] (by kernel_rfl)
                  exact At.body [.bool false] (by kernel_rfl) ⟨_, rfl, rfl, hS⟩
              · replace H := ite_f H hb47
                refine WR.runk [33, 34, 35, 36, 37, 38, 39, 40] [] [0] (L' := [(0, .bool false)]) (w' := w33) (by kernel_rfl) ?_
                refine WR.nil ?_
                refine At.go ?_
                refine WC.ret (by kernel_rfl) ?_
                obtain rfl := Option.some.inj H
                have hS : Sat w33 (rf w0) [] := hS.sel [] (by kernel_rfl)
                exact At.body [.bool false] (by kernel_rfl) ⟨_, rfl, rfl, hS⟩
            · replace H := ite_f H hb44
              refine WR.runk [27, 28, 29, 30, 31, 32, 33, 34, 35, 36, 37, 38, 39, 40] [] [0] (L' := [(0, .bool false)]) (w' := w33) (by kernel_rfl) ?_
              refine WR.nil ?_
              refine At.go ?_
              refine WC.ret (by kernel_rfl) ?_
              obtain rfl := Option.some.inj H
              have hS : Sat w33 (rf w0) [] := hS.sel [] (by kernel_rfl)
              exact At.body [.bool false] (by kernel_rfl) ⟨_, rfl, rfl, hS⟩
          · replace H := ite_f H hb41
            refine WR.runk [21, 22, 23, 24, 25, 26, 27, 28, 29, 30, 31, 32, 33, 34, 35, 36, 37, 38, 39, 40] [] [0] (L' := [(0, .bool false)]) (w' := w33) (by kernel_rfl) ?_
            refine WR.nil ?_
            refine At.go ?_
            refine WC.ret (by kernel_rfl) ?_
            obtain rfl := Option.some.inj H
            have hS : Sat w33 (rf w0) [] := hS.sel [] (by kernel_rfl)
            exact At.body [.bool false] (by kernel_rfl) ⟨_, rfl, rfl, hS⟩
        · replace H := ite_f H hb40
          refine WR.runk [16, 17, 18, 19, 20, 21, 22, 23, 24, 25, 26, 27, 28, 29, 30, 31, 32, 33, 34, 35, 36, 37, 38, 39, 40] [] [0] (L' := [(0, .bool false)]) (w' := w33) (by kernel_rfl) ?_
          refine WR.nil ?_
          refine At.go ?_
          refine WC.ret (by kernel_rfl) ?_
          obtain rfl := Option.some.inj H
          have hS : Sat w33 (rf w0) [] := hS.sel [] (by kernel_rfl)
          exact At.body [.bool false] (by kernel_rfl) ⟨_, rfl, rfl, hS⟩
      · replace H := ite_f H hb39
        refine WR.runk [12, 13, 14, 15, 16, 17, 18, 19, 20, 21, 22, 23, 24, 25, 26, 27, 28, 29, 30, 31, 32, 33, 34, 35, 36, 37, 38, 39, 40] [] [0] (L' := [(0, .bool false)]) (w' := w33) (by kernel_rfl) ?_
        refine WR.nil ?_
        refine At.go ?_
        refine WC.ret (by kernel_rfl) ?_
        obtain rfl := Option.some.inj H
        have hS : Sat w33 (rf w0) [] := hS.sel [] (by kernel_rfl)
        exact At.body [.bool false] (by kernel_rfl) ⟨_, rfl, rfl, hS⟩
    · replace H := ite_f H hb38
      refine WR.runk [8, 9, 10, 11, 12, 13, 14, 15, 16, 17, 18, 19, 20, 21, 22, 23, 24, 25, 26, 27, 28, 29, 30, 31, 32, 33, 34, 35, 36, 37, 38, 39, 40] [] [0] (L' := [(0, .bool false)]) (w' := w33) (by kernel_rfl) ?_
      refine WR.nil ?_
      refine At.go ?_
      refine WC.ret (by kernel_rfl) ?_
      obtain rfl := Option.some.inj H
      have hS : Sat w33 (rf w0) [] := hS.sel [] (by kernel_rfl)
      exact At.body [.bool false] (by kernel_rfl) ⟨_, rfl, rfl, hS⟩
  · replace H := ite_f H hb37
    refine WR.runk [3, 4, 5, 6, 7, 8, 9, 10, 11, 12, 13, 14, 15, 16, 17, 18, 19, 20, 21, 22, 23, 24, 25, 26, 27, 28, 29, 30, 31, 32, 33, 34, 35, 36, 37, 38, 39, 40] [] [0] (L' := [(0, .bool false)]) (w' := w33) (by kernel_rfl) ?_
    refine WR.nil ?_
    refine At.go ?_
    refine WC.ret (by kernel_rfl) ?_
    obtain rfl := Option.some.inj H
    have hS : Sat w33 (rf w0) [] := hS.sel [] (by kernel_rfl)
    exact At.body [.bool false] (by kernel_rfl) ⟨_, rfl, rfl, hS⟩
/-! ### 17 colophon/colophonref04.Sum -/
def colophonref04_Sum.l1 (l0 : List Int) : Nat → Int → Int → Option Int
  | 0, _, _ => none
  | k + 1, x3_l1, x4_l1 => (if decide (x4_l1 < wi (8 * (l0.length : Int))) then ((at? l0 (wi (Int.tdiv x4_l1 8))).bind fun v2 => (if (((Int.tmod x3_l1 2) == 1) != ((iand .u8 (ishr .u8 v2 (IntKind.wrap .u64 (Int.tmod x4_l1 8))) 1) == 1)) then colophonref04_Sum.l1 l0 k (ixor .u32 (IntKind.wrap .u32 (Int.tdiv x3_l1 2)) 3988292384) (wi (x4_l1 + 1)) else colophonref04_Sum.l1 l0 k (IntKind.wrap .u32 (Int.tdiv x3_l1 2)) (wi (x4_l1 + 1)))) else some x3_l1)
def colophonref04_Sum.f (l0 : List Int) : Option Int := ((colophonref04_Sum.l1 l0 FU 4294967295 0).bind fun o5 => some (IntKind.wrap .u32 (4294967295 - o5)))
def colophonref04_Sum.post (w : World) (r : Int) (v : Value) (w' : World) : Prop := v = (.int .u32 r : Value) ∧ Sat w' (rf w) []
theorem colophonref04_Sum.l1_ok {Q} (w0 : World) (A0 : Option Addr) (c0 : Nat) (l0 : List Int) (R0 : rdS (r0 (.int .u8)) 1 (hp w0) A0 c0 l0) (out : Int) (hn0 : ∀ (w : World), Sat w (rf w0) [] → At Q (.exit 0) 37 [(3, .int .u32 out)] w) :
    ∀ (k : Nat) (x3_l1 : Int) (x4_l1 : Int) (w : World), Sat w (rf w0) [] → colophonref04_Sum.l1 l0 k x3_l1 x4_l1 = some out → WL Try.prog (cbody (cbody (cr (cl (cr (cr C17)))))) Q 37 [(0, .slice A0 l0.length c0), (3, .int .u32 x3_l1), (4, .int .i64 x4_l1)] w := by
  intro k
  induction k with
  | zero => intro x3_l1 x4_l1 w hS H; exact absurd (show none = some out from H) (by simp)
  | succ k ih =>
    intro x3_l1 x4_l1 w hS H
    unfold colophonref04_Sum.l1 at H
    refine WL.round ?_
    refine WC.seq (by kernel_rfl) ?_
    refine WC.seq (by kernel_rfl) ?_
    refine WC.reg [0, 1, 2, 3, 4] (by kernel_rfl) (by kernel_rfl) ?_
    refine WR.runk [0, 1, 2, 3, 4] [] [0, 3, 4, 11] (L' := [(0, .slice A0 l0.length c0), (3, .int .u32 x3_l1), (4, .int .i64 x4_l1), (11, .bool (decide (x4_l1 < wi (8 * (l0.length : Int)))))]) (w' := w) (by kernel_rfl) ?_
    refine WR.nil ?_
    refine At.go ?_
    refine WC.cond (by kernel_rfl) (decide (x4_l1 < wi (8 * (l0.length : Int)))) (by kernel_rfl) (by kernel_rfl) (fun hb1 => ?_) (fun hb1 => ?_)
    · replace H := ite_t H hb1
      refine WC.skip (by kernel_rfl) ?_
      refine At.go ?_
      refine WC.seq (by kernel_rfl) ?_
      refine WC.block (by kernel_rfl) ?_
      refine WC.seq (by kernel_rfl) ?_
      refine WC.reg [0, 1, 2, 3] (by kernel_rfl) (by kernel_rfl) ?_
      refine WR.runk [0, 1, 2, 3] [] [0, 3, 4, 5] (L' := [(0, .slice A0 l0.length c0), (3, .int .u32 x3_l1), (4, .int .i64 x4_l1), (5, .bool ((Int.tmod x3_l1 2) == 1))]) (w' := w) (by kernel_rfl) ?_
      refine WR.nil ?_
      refine At.go ?_
      refine WC.seq (by kernel_rfl) ?_
      refine WC.reg [0, 1, 2, 3, 4, 5, 6, 7, 8, 9, 10, 11] (by kernel_rfl) (by kernel_rfl) ?_
      refine WR.runk [0, 1, 2] [3, 4, 5, 6, 7, 8, 9, 10, 11] [0, 3, 4, 5, 17, 19] (L' := [(0, .slice A0 l0.length c0), (3, .int .u32 x3_l1), (4, .int .i64 x4_l1), (5, .bool ((Int.tmod x3_l1 2) == 1)), (17, .slice A0 l0.length c0), (19, .int .i64 (wi (Int.tdiv x4_l1 8)))]) (w' := w) (by kernel_rfl) ?_
      obtain ⟨v2, e3, H⟩ := bind_ex H
      refine WR.st (St.ofP (PSt.idx (k := .i64) (.tmp 17) (.tmp 19) (by kernel_rfl) (by kernel_rfl) E22 (by kernel_rfl) (by kernel_rfl) (rdS.up R0 hS.sub0) e3 ?_))
      refine WR.runk [] [4, 5, 6, 7, 8, 9, 10, 11] [0, 3, 4, 5, 20] (L' := [(0, .slice A0 l0.length c0), (3, .int .u32 x3_l1), (4, .int .i64 x4_l1), (5, .bool ((Int.tmod x3_l1 2) == 1)), (20, .pointer (some (adr A0 (wi (Int.tdiv x4_l1 8)).toNat 1)))]) (w' := w) (by kernel_rfl) ?_
      refine WR.st (St.ofR (RSt.loadInt (t := 5) (.tmp 20) (by kernel_rfl) (by kernel_rfl) (by kernel_rfl) (by kernel_rfl) (rdS.up R0 hS.sub0) e3 ?_))
      refine WR.runk [5, 6, 7] [8, 9, 10, 11] [0, 3, 4, 5, 21, 24] (L' := [(0, .slice A0 l0.length c0), (3, .int .u32 x3_l1), (4, .int .i64 x4_l1), (5, .bool ((Int.tmod x3_l1 2) == 1)), (21, .int .u8 v2), (24, .int .u64 (IntKind.wrap .u64 (Int.tmod x4_l1 8)))]) (w' := w) (by kernel_rfl) ?_
      refine WR.st (St.ofP (PSt.shift (k := .u8) (k2 := .u64) (t := 5) (t2 := 38) (a := v2) (b := (IntKind.wrap .u64 (Int.tmod x4_l1 8))) .shr (by decide) (.tmp 21) (.tmp 24) (by kernel_rfl) (by kernel_rfl) (by kernel_rfl) (by kernel_rfl) (wrap_u64_nonneg _) ?_))
      refine WR.runk [9, 10, 11] [] [0, 3, 4, 5, 6] (L' := [(0, .slice A0 l0.length c0), (3, .int .u32 x3_l1), (4, .int .i64 x4_l1), (5, .bool ((Int.tmod x3_l1 2) == 1)), (6, .bool ((iand .u8 (ishr .u8 v2 (IntKind.wrap .u64 (Int.tmod x4_l1 8))) 1) == 1))]) (w' := w) (by kernel_rfl) ?_
      refine WR.nil ?_
      refine At.go ?_
      refine WC.seq (by kernel_rfl) ?_
      refine WC.reg [0, 1, 2] (by kernel_rfl) (by kernel_rfl) ?_
      refine WR.runk [0, 1, 2] [] [0, 3, 4, 5, 6] (L' := [(0, .slice A0 l0.length c0), (3, .int .u32 (IntKind.wrap .u32 (Int.tdiv x3_l1 2))), (4, .int .i64 x4_l1), (5, .bool ((Int.tmod x3_l1 2) == 1)), (6, .bool ((iand .u8 (ishr .u8 v2 (IntKind.wrap .u64 (Int.tmod x4_l1 8))) 1) == 1))]) (w' := w) (by kernel_rfl) ?_
      refine WR.nil ?_
      refine At.go ?_
      refine WC.seq (by kernel_rfl) ?_
      refine WC.reg [0, 1, 2] (by kernel_rfl) (by kernel_rfl) ?_
      refine WR.runk [0, 1, 2] [] [0, 3, 4, 32] (L' := [(0, .slice A0 l0.length c0), (3, .int .u32 (IntKind.wrap .u32 (Int.tdiv x3_l1 2))), (4, .int .i64 x4_l1), (32, .bool (((Int.tmod x3_l1 2) == 1) != ((iand .u8 (ishr .u8 v2 (IntKind.wrap .u64 (Int.tmod x4_l1 8))) 1) == 1)))]) (w' := w) (by kernel_rfl) ?_
      refine WR.nil ?_
      refine At.go ?_
      refine WC.cond (by kernel_rfl) (((Int.tmod x3_l1 2) == 1) != ((iand .u8 (ishr .u8 v2 (IntKind.wrap .u64 (Int.tmod x4_l1 8))) 1) == 1)) (by kernel_rfl) (by kernel_rfl) (fun hb4 => ?_) (fun hb4 => ?_)
      · replace H := ite_t H hb4
        refine WC.reg [0, 1, 2] (by kernel_rfl) (by kernel_rfl) ?_
        refine WR.runk [0, 1, 2] [] [0, 3, 4] (L' := [(0, .slice A0 l0.length c0), (3, .int .u32 (ixor .u32 (IntKind.wrap .u32 (Int.tdiv x3_l1 2)) 3988292384)), (4, .int .i64 x4_l1)]) (w' := w) (by kernel_rfl) ?_
        refine WR.nil ?_
        refine At.blockNormal ?_
        refine At.go ?_
        refine WC.reg [0, 1, 2] (by kernel_rfl) (by kernel_rfl) ?_
        refine WR.runk [0, 1, 2] [] [0, 3, 4] (L' := [(0, .slice A0 l0.length c0), (3, .int .u32 (ixor .u32 (IntKind.wrap .u32 (Int.tdiv x3_l1 2)) 3988292384)), (4, .int .i64 (wi (x4_l1 + 1)))]) (w' := w) (by kernel_rfl) ?_
        refine WR.nil ?_
        have hS : Sat w (rf w0) [] := hS.sel [] (by kernel_rfl)
        refine At.again ?_
        refine WL.weaken [0, 3, 4] (L' := [(0, .slice A0 l0.length c0), (3, .int .u32 (ixor .u32 (IntKind.wrap .u32 (Int.tdiv x3_l1 2)) 3988292384)), (4, .int .i64 (wi (x4_l1 + 1)))]) (by kernel_rfl) ?_
        exact ih (ixor .u32 (IntKind.wrap .u32 (Int.tdiv x3_l1 2)) 3988292384) (wi (x4_l1 + 1)) _ hS H
      · replace H := ite_f H hb4
        refine WC.skip (by kernel_rfl) ?_
        refine At.blockNormal ?_
        refine At.go ?_
        refine WC.reg [0, 1, 2] (by kernel_rfl) (by kernel_rfl) ?_
        refine WR.runk [0, 1, 2] [] [0, 3, 4] (L' := [(0, .slice A0 l0.length c0), (3, .int .u32 (IntKind.wrap .u32 (Int.tdiv x3_l1 2))), (4, .int .i64 (wi (x4_l1 + 1)))]) (w' := w) (by kernel_rfl) ?_
        refine WR.nil ?_
        have hS : Sat w (rf w0) [] := hS.sel [] (by kernel_rfl)
        refine At.again ?_
        refine WL.weaken [0, 3, 4] (L' := [(0, .slice A0 l0.length c0), (3, .int .u32 (IntKind.wrap .u32 (Int.tdiv x3_l1 2))), (4, .int .i64 (wi (x4_l1 + 1)))]) (by kernel_rfl) ?_
        exact ih (IntKind.wrap .u32 (Int.tdiv x3_l1 2)) (wi (x4_l1 + 1)) _ hS H
    · replace H := ite_f H hb1
      refine WC.exit (by kernel_rfl) ?_
      refine At.thenExit ?_
      refine At.thenExit ?_
      obtain rfl := Option.some.inj H
      have hS : Sat w (rf w0) [] := hS.sel [] (by kernel_rfl)
      refine At.weaken [3] (L' := [(3, .int .u32 x3_l1)]) (by kernel_rfl) ?_
      exact hn0 _ hS
theorem colophonref04_Sum.calls (w0 : World) (A0 : Option Addr) (c0 : Nat) (l0 : List Int) (R0 : rdS (r0 (.int .u8)) 1 (hp w0) A0 c0 l0) (r : Int) (H : colophonref04_Sum.f l0 = some r) :
    Calls Try.prog 17 #[.slice A0 l0.length c0] w0 (fun e w' => ∃ v, e = .returned v ∧ colophonref04_Sum.post w0 r v w') := by
  have hS : Sat w0 (rf w0) [] := Sat.start w0
  unfold colophonref04_Sum.f at H
  refine calls_of_WC (vs := [.slice A0 l0.length c0]) Try.func17 (c := C17) (n := 37) (by kernel_rfl) (by kernel_rfl) (by kernel_rfl) ?_
  refine WC.seq (by kernel_rfl) ?_
  refine WC.reg [0] (by kernel_rfl) (by kernel_rfl) ?_
  refine WR.runk [0] [] [0] (L' := [(0, .slice A0 l0.length c0)]) (w' := w0) (by kernel_rfl) ?_
  refine WR.nil ?_
  refine At.go ?_
  refine WC.seq (by kernel_rfl) ?_
  refine WC.reg [0] (by kernel_rfl) (by kernel_rfl) ?_
  refine WR.runk [0] [] [0, 3] (L' := [(0, .slice A0 l0.length c0), (3, .int .u32 4294967295)]) (w' := w0) (by kernel_rfl) ?_
  refine WR.nil ?_
  refine At.go ?_
  refine WC.seq (by kernel_rfl) ?_
  refine WC.seq (by kernel_rfl) ?_
  refine WC.reg [0] (by kernel_rfl) (by kernel_rfl) ?_
  refine WR.runk [0] [] [0, 3, 4] (L' := [(0, .slice A0 l0.length c0), (3, .int .u32 4294967295), (4, .int .i64 0)]) (w' := w0) (by kernel_rfl) ?_
  refine WR.nil ?_
  refine At.go ?_
  refine WC.block (by kernel_rfl) ?_
  have hS : Sat w0 (rf w0) [] := hS.sel [] (by kernel_rfl)
  obtain ⟨o5, e6, H⟩ := bind_ex H
  refine WC.loop (by kernel_rfl) ?_
  refine WL.weaken [0, 3, 4] (L' := [(0, .slice A0 l0.length c0), (3, .int .u32 4294967295), (4, .int .i64 0)]) (by kernel_rfl) ?_
  refine colophonref04_Sum.l1_ok w0 A0 c0 l0 R0 o5 (fun w8 hS => ?_) FU 4294967295 0 _ hS e6
  refine At.hit ?_
  refine At.go ?_
  refine WC.seq (by kernel_rfl) ?_
  refine WC.reg [0, 1, 2] (by kernel_rfl) (by kernel_rfl) ?_
  refine WR.runk [0, 1, 2] [] [2] (L' := [(2, .int .u32 (IntKind.wrap .u32 (4294967295 - o5)))]) (w' := w8) (by kernel_rfl) ?_
  refine WR.nil ?_
  refine At.go ?_
  refine WC.ret (by kernel_rfl) ?_
  obtain rfl := Option.some.inj H
  have hS : Sat w8 (rf w0) [] := hS.sel [] (by kernel_rfl)
  exact At.body [.int .u32 (IntKind.wrap .u32 (4294967295 - o5))] (by kernel_rfl) ⟨_, rfl, rfl, hS⟩
/-! ### 12 colophon/colophonref04.Put -/
def colophonref04_Put.l1 : Nat → (List Int) → Int → Int → Option (List Int)
  | 0, _, _, _ => none
  | k + 1, x3_l1, x4_l1, x5_l1 => (if decide (x5_l1 < 4) then ((app? 140737488355328 x3_l1 ([IntKind.wrap .u8 (Int.tmod x4_l1 256)] : List Int)).bind fun y21 => colophonref04_Put.l1 k y21 (IntKind.wrap .u32 (Int.tdiv x4_l1 256)) (wi (x5_l1 + 1))) else some x3_l1)
def colophonref04_Put.f (l0 : List Int) : Option (List Int) := ((app? 140737488355328 (([] : List Int) : List Int) l0).bind fun y4 => ((colophonref04_Sum.f l0).bind fun r8 => ((colophonref04_Put.l1 FU y4 r8 0).bind fun o25 => some o25)))
def colophonref04_Put.post (w : World) (r : (List Int)) (v : Value) (w' : World) : Prop := ∃ (A0' : Option Addr) (c0' : Nat), v = (.slice A0' r.length c0' : Value) ∧ Sat w' (rf w) [osl 5 (r0 (.int .u8)) 1 A0' c0' r]
theorem colophonref04_Put.l1_ok {Q} (w0 : World) (out : (List Int)) (hn0 : ∀ (A3_q : Option Addr) (c3_q : Nat) (w : World), Sat w (rf w0) [osl 5 (r0 (.int .u8)) 1 A3_q c3_q out] → At Q (.exit 0) 24 [(3, .slice A3_q out.length c3_q)] w) :
    ∀ (k : Nat) (x3_l1 : List Int) (x4_l1 : Int) (x5_l1 : Int) (A3_l1 : Option Addr) (c3_l1 : Nat) (w : World), Sat w (rf w0) [osl 5 (r0 (.int .u8)) 1 A3_l1 c3_l1 x3_l1] → colophonref04_Put.l1 k x3_l1 x4_l1 x5_l1 = some out → WL Try.prog (cbody (cbody (cr (cl (cr (cr (cr C12))))))) Q 24 [(3, .slice A3_l1 x3_l1.length c3_l1), (4, .int .u32 x4_l1), (5, .int .i64 x5_l1)] w := by
  intro k
  induction k with
  | zero => intro x3_l1 x4_l1 x5_l1 A3_l1 c3_l1 w hS H; exact absurd (show none = some out from H) (by simp)
  | succ k ih =>
    intro x3_l1 x4_l1 x5_l1 A3_l1 c3_l1 w hS H
    unfold colophonref04_Put.l1 at H
    refine WL.round ?_
    refine WC.seq (by kernel_rfl) ?_
    refine WC.seq (by kernel_rfl) ?_
    refine WC.reg [0, 1] (by kernel_rfl) (by kernel_rfl) ?_
    refine WR.runk [0, 1] [] [3, 4, 5, 12] (L' := [(3, .slice A3_l1 x3_l1.length c3_l1), (4, .int .u32 x4_l1), (5, .int .i64 x5_l1), (12, .bool (decide (x5_l1 < 4)))]) (w' := w) (by kernel_rfl) ?_
    refine WR.nil ?_
    refine At.go ?_
    refine WC.cond (by kernel_rfl) (decide (x5_l1 < 4)) (by kernel_rfl) (by kernel_rfl) (fun hb17 => ?_) (fun hb17 => ?_)
    · replace H := ite_t H hb17
      refine WC.skip (by kernel_rfl) ?_
      refine At.go ?_
      refine WC.seq (by kernel_rfl) ?_
      refine WC.block (by kernel_rfl) ?_
      refine WC.seq (by kernel_rfl) ?_
      refine WC.reg [0, 1, 2, 3, 4, 5, 6] (by kernel_rfl) (by kernel_rfl) ?_
      refine WR.runk [0, 1, 2, 3] [4, 5, 6] [3, 4, 5, 15, 18] (L' := [(3, .slice A3_l1 x3_l1.length c3_l1), (4, .int .u32 x4_l1), (5, .int .i64 x5_l1), (15, .slice A3_l1 x3_l1.length c3_l1), (18, .int .u8 (IntKind.wrap .u8 (Int.tmod x4_l1 256)))]) (w' := w) (by kernel_rfl) ?_
      refine WR.st (St.box hS (by kernel_rfl) (.cells #[.int .u8 (IntKind.wrap .u8 (Int.tmod x4_l1 256))] 5) (fun b18 => .slice (some ⟨b18, 0, none⟩) 1 1) (fun _ => by kernel_rfl) (fun b18 w19 hS => ?_))
      refine WR.runk [] [5, 6] [3, 4, 5, 15, 19] (L' := [(3, .slice A3_l1 x3_l1.length c3_l1), (4, .int .u32 x4_l1), (5, .int .i64 x5_l1), (15, .slice A3_l1 x3_l1.length c3_l1), (19, .slice (some ⟨b18, 0, none⟩) 1 1)]) (w' := w19) (by kernel_rfl) ?_
      have hS : Sat w19 (rf w0) [osl 5 (r0 (.int .u8)) 1 A3_l1 c3_l1 x3_l1, pts b18 (.cells #[.int .u8 (IntKind.wrap .u8 (Int.tmod x4_l1 256))] 5 (0, 0))] := hS.sel [1, 0] (by kernel_rfl)
      obtain ⟨y21, e20, H⟩ := bind_ex H
      refine WR.st (St.append' (.tmp 15) (.tmp 19) (by kernel_rfl) (by kernel_rfl) E22 (r0_one _) hS (by kernel_rfl) (by kernel_rfl) (Sat.ptsAt 1 (r0 (.int .u8)) 1 ([IntKind.wrap .u8 (Int.tmod x4_l1 256)] : List Int) hS rfl rfl (rdL.cons1 rfl (rdL.nil _ _))) 140737488355328 (by kernel_rfl) (by kernel_rfl) e20 (fun A22 c23 w24 hS => ?_))
      refine WR.runk [6] [] [3, 4, 5] (L' := [(3, .slice A22 y21.length c23), (4, .int .u32 x4_l1), (5, .int .i64 x5_l1)]) (w' := w24) (by kernel_rfl) ?_
      refine WR.nil ?_
      refine At.go ?_
      refine WC.reg [0, 1, 2] (by kernel_rfl) (by kernel_rfl) ?_
      refine WR.runk [0, 1, 2] [] [3, 4, 5] (L' := [(3, .slice A22 y21.length c23), (4, .int .u32 (IntKind.wrap .u32 (Int.tdiv x4_l1 256))), (5, .int .i64 x5_l1)]) (w' := w24) (by kernel_rfl) ?_
      refine WR.nil ?_
      refine At.blockNormal ?_
      refine At.go ?_
      refine WC.reg [0, 1, 2] (by kernel_rfl) (by kernel_rfl) ?_
      refine WR.runk [0, 1, 2] [] [3, 4, 5] (L' := [(3, .slice A22 y21.length c23), (4, .int .u32 (IntKind.wrap .u32 (Int.tdiv x4_l1 256))), (5, .int .i64 (wi (x5_l1 + 1)))]) (w' := w24) (by kernel_rfl) ?_
      refine WR.nil ?_
      have hS : Sat w24 (rf w0) [osl 5 (r0 (.int .u8)) 1 A22 c23 y21] := hS.sel [0] (by kernel_rfl)
      refine At.again ?_
      refine WL.weaken [3, 4, 5] (L' := [(3, .slice A22 y21.length c23), (4, .int .u32 (IntKind.wrap .u32 (Int.tdiv x4_l1 256))), (5, .int .i64 (wi (x5_l1 + 1)))]) (by kernel_rfl) ?_
      exact ih y21 (IntKind.wrap .u32 (Int.tdiv x4_l1 256)) (wi (x5_l1 + 1)) A22 c23 _ hS H
    · replace H := ite_f H hb17
      refine WC.exit (by kernel_rfl) ?_
      refine At.thenExit ?_
      refine At.thenExit ?_
      obtain rfl := Option.some.inj H
      have hS : Sat w (rf w0) [osl 5 (r0 (.int .u8)) 1 A3_l1 c3_l1 x3_l1] := hS.sel [0] (by kernel_rfl)
      refine At.weaken [3] (L' := [(3, .slice A3_l1 x3_l1.length c3_l1)]) (by kernel_rfl) ?_
      exact hn0 A3_l1 c3_l1 _ hS
theorem colophonref04_Put.calls (w0 : World) (A0 : Option Addr) (c0 : Nat) (l0 : List Int) (R0 : rdS (r0 (.int .u8)) 1 (hp w0) A0 c0 l0) (r : (List Int)) (H : colophonref04_Put.f l0 = some r) :
    Calls Try.prog 12 #[.slice A0 l0.length c0] w0 (fun e w' => ∃ v, e = .returned v ∧ colophonref04_Put.post w0 r v w') := by
  have hS : Sat w0 (rf w0) [] := Sat.start w0
  unfold colophonref04_Put.f at H
  refine calls_of_WC (vs := [.slice A0 l0.length c0]) Try.func12 (c := C12) (n := 24) (by kernel_rfl) (by kernel_rfl) (by kernel_rfl) ?_
  refine WC.seq (by kernel_rfl) ?_
  refine WC.reg [0] (by kernel_rfl) (by kernel_rfl) ?_
  refine WR.runk [0] [] [0] (L' := [(0, .slice A0 l0.length c0)]) (w' := w0) (by kernel_rfl) ?_
  refine WR.nil ?_
  refine At.go ?_
  refine WC.seq (by kernel_rfl) ?_
  refine WC.reg [0, 1, 2, 3] (by kernel_rfl) (by kernel_rfl) ?_
  refine WR.st (St.box hS (by kernel_rfl) (.cells #[] 5) (fun b1 => .slice (some ⟨b1, 0, none⟩) 0 0) (fun _ => by kernel_rfl) (fun b1 w2 hS => ?_))
  refine WR.runk [1] [2, 3] [0, 6, 7] (L' := [(0, .slice A0 l0.length c0), (6, .slice (some ⟨b1, 0, none⟩) 0 0), (7, .slice A0 l0.length c0)]) (w' := w2) (by kernel_rfl) ?_
  have hS : Sat w2 (rf w0) [osl 5 (r0 (.int .u8)) 1 (some ⟨b1, 0, none⟩) (([] : List Int) : List Int).length (([] : List Int) : List Int)] := Sat.toOsl' (r0 (.int .u8)) 1 (([] : List Int) : List Int) hS rfl (rdL.nil _ _)
  obtain ⟨y4, e3, H⟩ := bind_ex H
  refine WR.st (St.append' (.tmp 6) (.tmp 7) (by kernel_rfl) (by kernel_rfl) E22 (r0_one _) hS (by kernel_rfl) (by kernel_rfl) (rdS.up R0 hS.sub0) 140737488355328 (by kernel_rfl) (by kernel_rfl) e3 (fun A5 c6 w7 hS => ?_))
  refine WR.runk [3] [] [0, 3] (L' := [(0, .slice A0 l0.length c0), (3, .slice A5 y4.length c6)]) (w' := w7) (by kernel_rfl) ?_
  refine WR.nil ?_
  refine At.go ?_
  refine WC.seq (by kernel_rfl) ?_
  refine WC.reg [0, 1, 2] (by kernel_rfl) (by kernel_rfl) ?_
  refine WR.runk [0] [1, 2] [3, 9] (L' := [(3, .slice A5 y4.length c6), (9, .slice A0 l0.length c0)]) (w' := w7) (by kernel_rfl) ?_
  obtain ⟨r8, e9, H⟩ := bind_ex H
  refine WR.st (St.call (by kernel_rfl) (f := 17) (args := #[.slice A0 l0.length c0]) (by kernel_rfl) (colophonref04_Sum.calls w7 A0 c0 l0 (rdS.up R0 hS.sub0) r8 e9) ?_)
  rintro _ w15 ⟨rfl, hS16⟩
  have hS : Sat w15 (rf w0) [osl 5 (r0 (.int .u8)) 1 A5 c6 y4] := hS.ext hS16
  refine WR.runk [2] [] [3, 4] (L' := [(3, .slice A5 y4.length c6), (4, .int .u32 r8)]) (w' := w15) (by kernel_rfl) ?_
  refine WR.nil ?_
  refine At.go ?_
  refine WC.seq (by kernel_rfl) ?_
  refine WC.seq (by kernel_rfl) ?_
  refine WC.reg [0] (by kernel_rfl) (by kernel_rfl) ?_
  refine WR.runk [0] [] [3, 4, 5] (L' := [(3, .slice A5 y4.length c6), (4, .int .u32 r8), (5, .int .i64 0)]) (w' := w15) (by kernel_rfl) ?_
  refine WR.nil ?_
  refine At.go ?_
  refine WC.block (by kernel_rfl) ?_
  have hS : Sat w15 (rf w0) [osl 5 (r0 (.int .u8)) 1 A5 c6 y4] := hS.sel [0] (by kernel_rfl)
  obtain ⟨o25, e26, H⟩ := bind_ex H
  refine WC.loop (by kernel_rfl) ?_
  refine WL.weaken [3, 4, 5] (L' := [(3, .slice A5 y4.length c6), (4, .int .u32 r8), (5, .int .i64 0)]) (by kernel_rfl) ?_
  refine colophonref04_Put.l1_ok w0 o25 (fun A3_q27 c3_q27 w28 hS => ?_) FU y4 r8 0 A5 c6 _ hS e26
  refine At.hit ?_
  refine At.go ?_
  refine WC.seq (by kernel_rfl) ?_
  refine WC.reg [0, 1] (by kernel_rfl) (by kernel_rfl) ?_
  refine WR.runk [0, 1] [] [2] (L' := [(2, .slice A3_q27 o25.length c3_q27)]) (w' := w28) (by kernel_rfl) ?_
  refine WR.nil ?_
  refine At.go ?_
  refine WC.ret (by kernel_rfl) ?_
  obtain rfl := Option.some.inj H
  have hS : Sat w28 (rf w0) [osl 5 (r0 (.int .u8)) 1 A3_q27 c3_q27 o25] := hS.sel [0] (by kernel_rfl)
  exact At.body [.slice A3_q27 o25.length c3_q27] (by kernel_rfl) ⟨_, rfl, _, _, rfl, hS⟩
/-! ### 10 colophon/colophonref05.Put -/
def colophonref05_Put.l1 (l1 : List Int) : Nat → (List Int) → Option (List Int)
  | 0, _ => none
  | k + 1, x6_l1 => (if decide ((x6_l1.length : Int) < 256) then ((app? 140737488355328 x6_l1 ([0] : List Int)).bind fun y15 => colophonref05_Put.l1 l1 k y15) else some x6_l1)
def colophonref05_Put.f (a0 : Int) (l1 : List Int) : Option ((List Int) × Int) := (if decide (a0 < 0) then some (([] : List Int), 2) else (if decide (a0 > 4095) then some (([] : List Int), 2) else (if decide ((l1.length : Int) > 256) then some (([] : List Int), 80) else ((app? 140737488355328 (([] : List Int) : List Int) l1).bind fun y7 => ((colophonref05_Put.l1 l1 FU y7).bind fun o19 => ((app? 140737488355328 o19 ([IntKind.wrap .u8 (Int.tmod a0 256), IntKind.wrap .u8 (wi (Int.tdiv a0 256)), 0, 0] : List Int)).bind fun y27 => ((colophonref04_Put.f y27).bind fun r31 => some (r31, 0))))))))
def colophonref05_Put.post (w : World) (r : (List Int) × Int) (v : Value) (w' : World) : Prop := ∃ (A0' : Option Addr) (c0' : Nat), v = .tuple #[.slice A0' r.1.length c0', .int .i64 r.2] ∧ Sat w' (rf w) [osl 5 (r0 (.int .u8)) 1 A0' c0' r.1]
theorem colophonref05_Put.l1_ok {Q} (w0 : World) (a0 : Int) (l1 : List Int) (out : (List Int)) (hn0 : ∀ (A6_q : Option Addr) (c6_q : Nat) (w : World), Sat w (rf w0) [osl 5 (r0 (.int .u8)) 1 A6_q c6_q out] → At Q (.exit 0) 35 [(0, .int .i64 a0), (6, .slice A6_q out.length c6_q)] w) :
    ∀ (k : Nat) (x6_l1 : List Int) (A6_l1 : Option Addr) (c6_l1 : Nat) (w : World), Sat w (rf w0) [osl 5 (r0 (.int .u8)) 1 A6_l1 c6_l1 x6_l1] → colophonref05_Put.l1 l1 k x6_l1 = some out → WL Try.prog (cbody (cbody (cl (cr (cr (cr (cr C10))))))) Q 35 [(0, .int .i64 a0), (6, .slice A6_l1 x6_l1.length c6_l1)] w := by
  intro k
  induction k with
  | zero => intro x6_l1 A6_l1 c6_l1 w hS H; exact absurd (show none = some out from H) (by simp)
  | succ k ih =>
    intro x6_l1 A6_l1 c6_l1 w hS H
    unfold colophonref05_Put.l1 at H
    refine WL.round ?_
    refine WC.seq (by kernel_rfl) ?_
    refine WC.seq (by kernel_rfl) ?_
    refine WC.reg [0, 1, 2] (by kernel_rfl) (by kernel_rfl) ?_
    refine WR.runk [0, 1, 2] [] [0, 6, 21] (L' := [(0, .int .i64 a0), (6, .slice A6_l1 x6_l1.length c6_l1), (21, .bool (decide ((x6_l1.length : Int) < 256)))]) (w' := w) (by kernel_rfl) ?_
    refine WR.nil ?_
    refine At.go ?_
    refine WC.cond (by kernel_rfl) (decide ((x6_l1.length : Int) < 256)) (by kernel_rfl) (by kernel_rfl) (fun hb11 => ?_) (fun hb11 => ?_)
    · replace H := ite_t H hb11
      refine WC.skip (by kernel_rfl) ?_
      refine At.go ?_
      refine WC.block (by kernel_rfl) ?_
      refine WC.reg [0, 1, 2, 3] (by kernel_rfl) (by kernel_rfl) ?_
      refine WR.runk [0] [1, 2, 3] [0, 6, 22] (L' := [(0, .int .i64 a0), (6, .slice A6_l1 x6_l1.length c6_l1), (22, .slice A6_l1 x6_l1.length c6_l1)]) (w' := w) (by kernel_rfl) ?_
      refine WR.st (St.box hS (by kernel_rfl) (.cells #[.int .u8 0] 5) (fun b12 => .slice (some ⟨b12, 0, none⟩) 1 1) (fun _ => by kernel_rfl) (fun b12 w13 hS => ?_))
      refine WR.runk [] [2, 3] [0, 6, 22, 23] (L' := [(0, .int .i64 a0), (6, .slice A6_l1 x6_l1.length c6_l1), (22, .slice A6_l1 x6_l1.length c6_l1), (23, .slice (some ⟨b12, 0, none⟩) 1 1)]) (w' := w13) (by kernel_rfl) ?_
      have hS : Sat w13 (rf w0) [osl 5 (r0 (.int .u8)) 1 A6_l1 c6_l1 x6_l1, pts b12 (.cells #[.int .u8 0] 5 (0, 0))] := hS.sel [1, 0] (by kernel_rfl)
      obtain ⟨y15, e14, H⟩ := bind_ex H
      refine WR.st (St.append' (.tmp 22) (.tmp 23) (by kernel_rfl) (by kernel_rfl) E22 (r0_one _) hS (by kernel_rfl) (by kernel_rfl) (Sat.ptsAt 1 (r0 (.int .u8)) 1 ([0] : List Int) hS rfl rfl (rdL.cons1 rfl (rdL.nil _ _))) 140737488355328 (by kernel_rfl) (by kernel_rfl) e14 (fun A16 c17 w18 hS => ?_))
      refine WR.runk [3] [] [0, 6] (L' := [(0, .int .i64 a0), (6, .slice A16 y15.length c17)]) (w' := w18) (by kernel_rfl) ?_
      refine WR.nil ?_
      refine At.blockNormal ?_
      have hS : Sat w18 (rf w0) [osl 5 (r0 (.int .u8)) 1 A16 c17 y15] := hS.sel [0] (by kernel_rfl)
      refine At.again ?_
      refine WL.weaken [0, 6] (L' := [(0, .int .i64 a0), (6, .slice A16 y15.length c17)]) (by kernel_rfl) ?_
      exact ih y15 A16 c17 _ hS H
    · replace H := ite_f H hb11
      refine WC.exit (by kernel_rfl) ?_
      refine At.thenExit ?_
      refine At.thenExit ?_
      obtain rfl := Option.some.inj H
      have hS : Sat w (rf w0) [osl 5 (r0 (.int .u8)) 1 A6_l1 c6_l1 x6_l1] := hS.sel [0] (by kernel_rfl)
      refine At.weaken [0, 6] (L' := [(0, .int .i64 a0), (6, .slice A6_l1 x6_l1.length c6_l1)]) (by kernel_rfl) ?_
      exact hn0 A6_l1 c6_l1 _ hS
theorem colophonref05_Put.calls (w0 : World) (a0 : Int) (A1 : Option Addr) (c1 : Nat) (l1 : List Int) (R1 : rdS (r0 (.int .u8)) 1 (hp w0) A1 c1 l1) (r : (List Int) × Int) (H : colophonref05_Put.f a0 l1 = some r) :
    Calls Try.prog 10 #[.int .i64 a0, .slice A1 l1.length c1] w0 (fun e w' => ∃ v, e = .returned v ∧ colophonref05_Put.post w0 r v w') := by
  have hS : Sat w0 (rf w0) [] := Sat.start w0
  unfold colophonref05_Put.f at H
  refine calls_of_WC (vs := [.int .i64 a0, .slice A1 l1.length c1]) Try.func10 (c := C10) (n := 35) (by kernel_rfl) (by kernel_rfl) (by kernel_rfl) ?_
  refine WC.seq (by kernel_rfl) ?_
  refine WC.reg [0, 1] (by kernel_rfl) (by kernel_rfl) ?_
  refine WR.runk [0, 1] [] [0, 1] (L' := [(0, .int .i64 a0), (1, .slice A1 l1.length c1)]) (w' := w0) (by kernel_rfl) ?_
  refine WR.nil ?_
  refine At.go ?_
  refine WC.seq (by kernel_rfl) ?_
  refine WC.seq (by kernel_rfl) ?_
  refine WC.reg [0, 1, 2, 3, 4, 5] (by kernel_rfl) (by kernel_rfl) ?_
  refine WR.runk [0, 1, 2] [3, 4, 5] [0, 1, 9] (L' := [(0, .int .i64 a0), (1, .slice A1 l1.length c1), (9, .bool (decide (a0 < 0)))]) (w' := w0) (by kernel_rfl) ?_
  refine WR.split 9 (b := decide (a0 < 0)) (by kernel_rfl) (fun hb1 => ?_) (fun hb1 => ?_)
  · replace H := ite_t H hb1
    refine WR.runk [3, 4, 5] [] [0, 1, 12] (L' := [(0, .int .i64 a0), (1, .slice A1 l1.length c1), (12, .bool true)]) (w' := w0) (by kernel_rfl) ?_
    refine WR.nil ?_
    refine At.go ?_
    refine WC.condT (by kernel_rfl) (by kernel_rfl) (by kernel_rfl) ?_
    refine WC.seq (by kernel_rfl) ?_
    refine WC.reg [0, 1] (by kernel_rfl) (by kernel_rfl) ?_
    refine WR.runk [0, 1] [] [4, 5] (L' := [(4, .slice none 0 0), (5, .int .i64 2)]) (w' := w0) (by kernel_rfl) ?_
    refine WR.nil ?_
    refine At.go ?_
    refine WC.ret (by kernel_rfl) ?_
    refine At.thenRet ?_
    obtain rfl := Option.some.inj H
    have hS := hS.addNil (α := Int) 5 (r0 (.int .u8)) 1
    have hS : Sat w0 (rf w0) [osl 5 (r0 (.int .u8)) 1 none 0 ([] : List Int)] := hS.sel [0] (by kernel_rfl)
    exact At.body [.slice none 0 0, .int .i64 2] (by kernel_rfl) ⟨_, rfl, _, _, rfl, hS⟩
  · replace H := ite_f H hb1
    refine WR.runk [3, 4, 5] [] [0, 1, 12] (L' := [(0, .int .i64 a0), (1, .slice A1 l1.length c1), (12, .bool (decide (a0 > 4095)))]) (w' := w0) (by kernel_rfl) ?_
    refine WR.nil ?_
    refine At.go ?_
    refine WC.cond (by kernel_rfl) (decide (a0 > 4095)) (by kernel_rfl) (by kernel_rfl) (fun hb2 => ?_) (fun hb2 => ?_)
    · replace H := ite_t H hb2
      refine WC.seq (by kernel_rfl) ?_
      refine WC.reg [0, 1] (by kernel_rfl) (by kernel_rfl) ?_
      refine WR.runk [0, 1] [] [4, 5] (L' := [(4, .slice none 0 0), (5, .int .i64 2)]) (w' := w0) (by kernel_rfl) ?_
      refine WR.nil ?_
      refine At.go ?_
      refine WC.ret (by kernel_rfl) ?_
      refine At.thenRet ?_
      obtain rfl := Option.some.inj H
      have hS := hS.addNil (α := Int) 5 (r0 (.int .u8)) 1
      have hS : Sat w0 (rf w0) [osl 5 (r0 (.int .u8)) 1 none 0 ([] : List Int)] := hS.sel [0] (by kernel_rfl)
      exact At.body [.slice none 0 0, .int .i64 2] (by kernel_rfl) ⟨_, rfl, _, _, rfl, hS⟩
    · replace H := ite_f H hb2
      refine WC.skip (by kernel_rfl) ?_
      refine At.go ?_
      refine WC.seq (by kernel_rfl) ?_
      refine WC.seq (by kernel_rfl) ?_
      refine WC.reg [0, 1, 2] (by kernel_rfl) (by kernel_rfl) ?_
      refine WR.runk [0, 1, 2] [] [0, 1, 15] (L' := [(0, .int .i64 a0), (1, .slice A1 l1.length c1), (15, .bool (decide ((l1.length : Int) > 256)))]) (w' := w0) (by kernel_rfl) ?_
      refine WR.nil ?_
      refine At.go ?_
      refine WC.cond (by kernel_rfl) (decide ((l1.length : Int) > 256)) (by kernel_rfl) (by kernel_rfl) (fun hb3 => ?_) (fun hb3 => ?_)
      · replace H := ite_t H hb3
        refine WC.seq (by kernel_rfl) ?_
        refine WC.reg [0, 1] (by kernel_rfl) (by kernel_rfl) ?_
        refine WR.runk [0, 1] [] [4, 5] (L' := [(4, .slice none 0 0), (5, .int .i64 80)]) (w' := w0) (by kernel_rfl) ?_
        refine WR.nil ?_
        refine At.go ?_
        refine WC.ret (by kernel_rfl) ?_
        refine At.thenRet ?_
        obtain rfl := Option.some.inj H
        have hS := hS.addNil (α := Int) 5 (r0 (.int .u8)) 1
        have hS : Sat w0 (rf w0) [osl 5 (r0 (.int .u8)) 1 none 0 ([] : List Int)] := hS.sel [0] (by kernel_rfl)
        exact At.body [.slice none 0 0, .int .i64 80] (by kernel_rfl) ⟨_, rfl, _, _, rfl, hS⟩
      · replace H := ite_f H hb3
        refine WC.skip (by kernel_rfl) ?_
        refine At.go ?_
        refine WC.seq (by kernel_rfl) ?_
        refine WC.reg [0, 1, 2, 3] (by kernel_rfl) (by kernel_rfl) ?_
        refine WR.runk [] [0, 1, 2, 3] [0, 1] (L' := [(0, .int .i64 a0), (1, .slice A1 l1.length c1)]) (w' := w0) (by kernel_rfl) ?_
        refine WR.st (St.box hS (by kernel_rfl) (.cells #[] 5) (fun b4 => .slice (some ⟨b4, 0, none⟩) 0 0) (fun _ => by kernel_rfl) (fun b4 w5 hS => ?_))
        refine WR.runk [1] [2, 3] [0, 16, 17] (L' := [(0, .int .i64 a0), (16, .slice (some ⟨b4, 0, none⟩) 0 0), (17, .slice A1 l1.length c1)]) (w' := w5) (by kernel_rfl) ?_
        have hS : Sat w5 (rf w0) [osl 5 (r0 (.int .u8)) 1 (some ⟨b4, 0, none⟩) (([] : List Int) : List Int).length (([] : List Int) : List Int)] := Sat.toOsl' (r0 (.int .u8)) 1 (([] : List Int) : List Int) hS rfl (rdL.nil _ _)
        obtain ⟨y7, e6, H⟩ := bind_ex H
        refine WR.st (St.append' (.tmp 16) (.tmp 17) (by kernel_rfl) (by kernel_rfl) E22 (r0_one _) hS (by kernel_rfl) (by kernel_rfl) (rdS.up R1 hS.sub0) 140737488355328 (by kernel_rfl) (by kernel_rfl) e6 (fun A8 c9 w10 hS => ?_))
        refine WR.runk [3] [] [0, 6] (L' := [(0, .int .i64 a0), (6, .slice A8 y7.length c9)]) (w' := w10) (by kernel_rfl) ?_
        refine WR.nil ?_
        refine At.go ?_
        refine WC.seq (by kernel_rfl) ?_
        refine WC.block (by kernel_rfl) ?_
        have hS : Sat w10 (rf w0) [osl 5 (r0 (.int .u8)) 1 A8 c9 y7] := hS.sel [0] (by kernel_rfl)
        obtain ⟨o19, e20, H⟩ := bind_ex H
        refine WC.loop (by kernel_rfl) ?_
        refine WL.weaken [0, 6] (L' := [(0, .int .i64 a0), (6, .slice A8 y7.length c9)]) (by kernel_rfl) ?_
        refine colophonref05_Put.l1_ok w0 a0 l1 o19 (fun A6_q21 c6_q21 w22 hS => ?_) FU y7 A8 c9 _ hS e20
        refine At.hit ?_
        refine At.go ?_
        refine WC.seq (by kernel_rfl) ?_
        refine WC.reg [0, 1, 2, 3, 4, 5, 6, 7, 8, 9, 10, 11] (by kernel_rfl) (by kernel_rfl) ?_
        refine WR.runk [0, 1, 2, 3, 4, 5, 6] [7, 8, 9, 10, 11] [25, 28, 31] (L' := [(25, .slice A6_q21 o19.length c6_q21), (28, .int .u8 (IntKind.wrap .u8 (Int.tmod a0 256))), (31, .int .u8 (IntKind.wrap .u8 (wi (Int.tdiv a0 256))))]) (w' := w22) (by kernel_rfl) ?_
        refine WR.st (St.box hS (by kernel_rfl) (.cells #[.int .u8 (IntKind.wrap .u8 (Int.tmod a0 256)), .int .u8 (IntKind.wrap .u8 (wi (Int.tdiv a0 256))), .int .u8 0, .int .u8 0] 5) (fun b24 => .slice (some ⟨b24, 0, none⟩) 4 4) (fun _ => by kernel_rfl) (fun b24 w25 hS => ?_))
        refine WR.runk [] [8, 9, 10, 11] [25, 32] (L' := [(25, .slice A6_q21 o19.length c6_q21), (32, .slice (some ⟨b24, 0, none⟩) 4 4)]) (w' := w25) (by kernel_rfl) ?_
        have hS : Sat w25 (rf w0) [osl 5 (r0 (.int .u8)) 1 A6_q21 c6_q21 o19, pts b24 (.cells #[.int .u8 (IntKind.wrap .u8 (Int.tmod a0 256)), .int .u8 (IntKind.wrap .u8 (wi (Int.tdiv a0 256))), .int .u8 0, .int .u8 0] 5 (0, 0))] := hS.sel [1, 0] (by kernel_rfl)
        obtain ⟨y27, e26, H⟩ := bind_ex H
        refine WR.st (St.append' (.tmp 25) (.tmp 32) (by kernel_rfl) (by kernel_rfl) E22 (r0_one _) hS (by kernel_rfl) (by kernel_rfl) (Sat.ptsAt 1 (r0 (.int .u8)) 1 ([IntKind.wrap .u8 (Int.tmod a0 256), IntKind.wrap .u8 (wi (Int.tdiv a0 256)), 0, 0] : List Int) hS rfl rfl (rdL.cons1 rfl (rdL.cons1 rfl (rdL.cons1 rfl (rdL.cons1 rfl (rdL.nil _ _)))))) 140737488355328 (by kernel_rfl) (by kernel_rfl) e26 (fun A28 c29 w30 hS => ?_))
        refine WR.runk [] [9, 10, 11] [33] (L' := [(33, .slice A28 y27.length c29)]) (w' := w30) (by kernel_rfl) ?_
        obtain ⟨r31, e32, H⟩ := bind_ex H
        refine WR.st (St.call (by kernel_rfl) (f := 12) (args := #[.slice A28 y27.length c29]) (by kernel_rfl) (colophonref04_Put.calls w30 A28 c29 y27 (Sat.rdAt 0 hS rfl) r31 e32) ?_)
        rintro _ w38 ⟨A40, c41, rfl, hS39⟩
        have hS : Sat w38 (rf w0) [osl 5 (r0 (.int .u8)) 1 A40 c41 r31, osl 5 (r0 (.int .u8)) 1 A28 c29 y27, pts b24 (.cells #[.int .u8 (IntKind.wrap .u8 (Int.tmod a0 256)), .int .u8 (IntKind.wrap .u8 (wi (Int.tdiv a0 256))), .int .u8 0, .int .u8 0] 5 (0, 0))] := hS.ext hS39
        refine WR.runk [10, 11] [] [4, 5] (L' := [(4, .slice A40 r31.length c41), (5, .int .i64 0)]) (w' := w38) (by kernel_rfl) ?_
        refine WR.nil ?_
        refine At.go ?_
        refine WC.ret (by kernel_rfl) ?_
        obtain rfl := Option.some.inj H
        have hS : Sat w38 (rf w0) [osl 5 (r0 (.int .u8)) 1 A40 c41 r31] := hS.sel [0] (by kernel_rfl)
        exact At.body [.slice A40 r31.length c41, .int .i64 0] (by kernel_rfl) ⟨_, rfl, _, _, rfl, hS⟩
/-! ### 13 colophon/colophonref05.Get -/
def colophonref05_Get.f (l0 : List Int) : Option (Int × (List Int) × Int) := (if decide ((l0.length : Int) < 264) then some (0, ([] : List Int), 50) else (if decide ((l0.length : Int) > 264) then some (0, ([] : List Int), 51) else ((sub? l0 0 260).bind fun y5 => ((colophonref04_Put.f y5).bind fun r10 => (if (!((bs r10).toList == (bs l0).toList)) then some (0, ([] : List Int), 40) else ((at? l0 257).bind fun v22 => (if decide (v22 > 15) then some (0, ([] : List Int), 10) else ((at? l0 258).bind fun v25 => (if decide (v25 > 0) then some (0, ([] : List Int), 10) else ((at? l0 259).bind fun v28 => (if decide (v28 > 0) then some (0, ([] : List Int), 10) else ((at? l0 256).bind fun v33 => ((sub? l0 0 256).bind fun y35 => some (wi ((wi v33) + (wi (256 * (wi v22)))), y35, 0))))))))))))))
def colophonref05_Get.post (A0 : Option Addr) (c0 : Nat) (l0 : List Int) (w : World) (r : Int × (List Int) × Int) (v : Value) (w' : World) : Prop := ∃ (A1' : Option Addr) (c1' : Nat), v = .tuple #[.int .i64 r.1, .slice A1' r.2.1.length c1', .int .i64 r.2.2] ∧ SubT 1 A0 c0 l0 A1' c1' r.2.1 ∧ Sat w' (rf w) []
theorem colophonref05_Get.calls (w0 : World) (A0 : Option Addr) (c0 : Nat) (l0 : List Int) (R0 : rdS (r0 (.int .u8)) 1 (hp w0) A0 c0 l0) (r : Int × (List Int) × Int) (H : colophonref05_Get.f l0 = some r) :
    Calls Try.prog 13 #[.slice A0 l0.length c0] w0 (fun e w' => ∃ v, e = .returned v ∧ colophonref05_Get.post A0 c0 l0 w0 r v w') := by
  have hS : Sat w0 (rf w0) [] := Sat.start w0
  unfold colophonref05_Get.f at H
  refine calls_of_WC (vs := [.slice A0 l0.length c0]) Try.func13 (c := C13) (n := 46) (by kernel_rfl) (by kernel_rfl) (by kernel_rfl) ?_
  refine WC.seq (by kernel_rfl) ?_
  refine WC.reg [0, 1, 2] (by kernel_rfl) (by kernel_rfl) ?_
  refine WR.runk [0, 1, 2] [] [0] (L' := [(0, .slice A0 l0.length c0)]) (w' := w0) (by kernel_rfl) ?_
  refine WR.nil ?_
  refine At.go ?_
  refine WC.seq (by kernel_rfl) ?_
  refine WC.seq (by kernel_rfl) ?_
  refine WC.reg [0, 1, 2] (by kernel_rfl) (by kernel_rfl) ?_
  refine WR.runk [0, 1, 2] [] [0, 7] (L' := [(0, .slice A0 l0.length c0), (7, .bool (decide ((l0.length : Int) < 264)))]) (w' := w0) (by kernel_rfl) ?_
  refine WR.nil ?_
  refine At.go ?_
  refine WC.cond (by kernel_rfl) (decide ((l0.length : Int) < 264)) (by kernel_rfl) (by kernel_rfl) (fun hb1 => ?_) (fun hb1 => ?_)
  · replace H := ite_t H hb1
    refine WC.seq (by kernel_rfl) ?_
    refine WC.reg [0, 1, 2] (by kernel_rfl) (by kernel_rfl) ?_
    refine WR.runk [0, 1, 2] [] [2, 3, 4] (L' := [(2, .int .i64 0), (3, .slice none 0 0), (4, .int .i64 50)]) (w' := w0) (by kernel_rfl) ?_
    refine WR.nil ?_
    refine At.go ?_
    refine WC.ret (by kernel_rfl) ?_
    refine At.thenRet ?_
    obtain rfl := Option.some.inj H
    have hS : Sat w0 (rf w0) [] := hS.sel [] (by kernel_rfl)
    exact At.body [.int .i64 0, .slice none 0 0, .int .i64 50] (by kernel_rfl) ⟨_, rfl, _, _, rfl, (SubT.nil _ _ _ _), hS⟩
  · replace H := ite_f H hb1
    refine WC.skip (by kernel_rfl) ?_
    refine At.go ?_
    refine WC.seq (by kernel_rfl) ?_
    refine WC.seq (by kernel_rfl) ?_
    refine WC.reg [0, 1, 2] (by kernel_rfl) (by kernel_rfl) ?_
    refine WR.runk [0, 1, 2] [] [0, 10] (L' := [(0, .slice A0 l0.length c0), (10, .bool (decide ((l0.length : Int) > 264)))]) (w' := w0) (by kernel_rfl) ?_
    refine WR.nil ?_
    refine At.go ?_
    refine WC.cond (by kernel_rfl) (decide ((l0.length : Int) > 264)) (by kernel_rfl) (by kernel_rfl) (fun hb2 => ?_) (fun hb2 => ?_)
    · replace H := ite_t H hb2
      refine WC.seq (by kernel_rfl) ?_
      refine WC.reg [0, 1, 2] (by kernel_rfl) (by kernel_rfl) ?_
      refine WR.runk [0, 1, 2] [] [2, 3, 4] (L' := [(2, .int .i64 0), (3, .slice none 0 0), (4, .int .i64 51)]) (w' := w0) (by kernel_rfl) ?_
      refine WR.nil ?_
      refine At.go ?_
      refine WC.ret (by kernel_rfl) ?_
      refine At.thenRet ?_
      obtain rfl := Option.some.inj H
      have hS : Sat w0 (rf w0) [] := hS.sel [] (by kernel_rfl)
      exact At.body [.int .i64 0, .slice none 0 0, .int .i64 51] (by kernel_rfl) ⟨_, rfl, _, _, rfl, (SubT.nil _ _ _ _), hS⟩
    · replace H := ite_f H hb2
      refine WC.skip (by kernel_rfl) ?_
      refine At.go ?_
      refine WC.seq (by kernel_rfl) ?_
      refine WC.seq (by kernel_rfl) ?_
      refine WC.drawn (by kernel_rfl) (by kernel_rfl) 7 (by kernel_rfl) (fun w3 hw4 => ?_)
      have hS := hS.heap hw4.1 hw4.2
      refine WD.weaken [0] (L' := [(0, .slice A0 l0.length c0)]) (by kernel_rfl) ?_
      refine WD.pure (i := 0) (v := .slice A0 l0.length c0) (by kernel_rfl) (by kernel_rfl) (fun _ => by kernel_rfl) ?_
      refine WD.weaken [0, 11] (L' := [(0, .slice A0 l0.length c0), (11, .slice A0 l0.length c0)]) (by kernel_rfl) ?_
      obtain ⟨y5, e6, H⟩ := bind_ex H
      refine WD.ofP (i := 1) (by kernel_rfl) (PSt.sub (A := A0) (c := c0) (.tmp 11) none (some (.const (.int .i64 260))) none (by kernel_rfl) (by kernel_rfl) E22 (by kernel_rfl) (rdS.up R0 hS.sub0).1 e6 rfl (Exists.intro IntKind.i64 (by kernel_rfl)) trivial (fun A7 c8 T9 => ?_))
      refine WD.weaken [0, 12] (L' := [(0, .slice A0 l0.length c0), (12, .slice A7 y5.length c8)]) (by kernel_rfl) ?_
      refine WD.pure (i := 4) (v := .slice A0 l0.length c0) (by kernel_rfl) (by kernel_rfl) (fun _ => by kernel_rfl) ?_
      refine WD.weaken [0, 12, 15] (L' := [(0, .slice A0 l0.length c0), (12, .slice A7 y5.length c8), (15, .slice A0 l0.length c0)]) (by kernel_rfl) ?_
      refine WD.ofR (i := 5) (by kernel_rfl) (RSt.toStr (src := 22) (dst := 9) (e := 5) (.tmp 15) (by kernel_rfl) (by kernel_rfl) (by kernel_rfl) (by kernel_rfl) (by kernel_rfl) (by kernel_rfl) (rdS.up R0 hS.sub0) ?_)
      refine WD.weaken [0, 12, 16] (L' := [(0, .slice A0 l0.length c0), (12, .slice A7 y5.length c8), (16, .string (bs l0))]) (by kernel_rfl) ?_
      obtain ⟨r10, e11, H⟩ := bind_ex H
      refine WD.act (i := 2) (by kernel_rfl) (St.call (by kernel_rfl) (f := 12) (args := #[.slice A7 y5.length c8]) (by kernel_rfl) (colophonref04_Put.calls w3 A7 c8 y5 (T9.rd _ _ (rdS.up R0 hS.sub0)) r10 e11) ?_)
      rintro _ w17 ⟨A19, c20, rfl, hS18⟩
      have hS : Sat w17 (rf w0) [osl 5 (r0 (.int .u8)) 1 A19 c20 r10] := hS.ext hS18
      refine ⟨(asked.cons (RSt.run (n := 46) (RSt.toStr (src := 22) (dst := 9) (e := 5) (.tmp 15) (by kernel_rfl) (by kernel_rfl) (by kernel_rfl) (by kernel_rfl) (by kernel_rfl) (by kernel_rfl) (rdS.up R0 hS.sub0) rfl)) (asked.nil _ _)), ?_⟩
      refine WD.weaken [0, 13, 16] (L' := [(0, .slice A0 l0.length c0), (13, .slice A19 r10.length c20), (16, .string (bs l0))]) (by kernel_rfl) ?_
      refine WD.ofR (i := 3) (by kernel_rfl) (RSt.toStr (src := 22) (dst := 9) (e := 5) (.tmp 13) (by kernel_rfl) (by kernel_rfl) (by kernel_rfl) (by kernel_rfl) (by kernel_rfl) (by kernel_rfl) (Sat.rdAt 0 hS rfl) ?_)
      refine WD.weaken [0, 14, 16] (L' := [(0, .slice A0 l0.length c0), (14, .string (bs r10)), (16, .string (bs l0))]) (by kernel_rfl) ?_
      refine WD.pure (i := 6) (v := .bool (!((bs r10).toList == (bs l0).toList))) (by kernel_rfl) (by kernel_rfl) (fun _ => by kernel_rfl) ?_
      refine WD.weaken [0, 17] (L' := [(0, .slice A0 l0.length c0), (17, .bool (!((bs r10).toList == (bs l0).toList)))]) (by kernel_rfl) ?_
      refine WD.nil (by kernel_rfl) ?_
      refine At.go ?_
      refine WC.cond (by kernel_rfl) (!((bs r10).toList == (bs l0).toList)) (by kernel_rfl) (by kernel_rfl) (fun hb21 => ?_) (fun hb21 => ?_)
      · replace H := ite_t H hb21
        refine WC.seq (by kernel_rfl) ?_
        refine WC.reg [0, 1, 2] (by kernel_rfl) (by kernel_rfl) ?_
        refine WR.runk [0, 1, 2] [] [2, 3, 4] (L' := [(2, .int .i64 0), (3, .slice none 0 0), (4, .int .i64 40)]) (w' := w17) (by kernel_rfl) ?_
        refine WR.nil ?_
        refine At.go ?_
        refine WC.ret (by kernel_rfl) ?_
        refine At.thenRet ?_
        obtain rfl := Option.some.inj H
        have hS : Sat w17 (rf w0) [] := hS.sel [] (by kernel_rfl)
        exact At.body [.int .i64 0, .slice none 0 0, .int .i64 40] (by kernel_rfl) ⟨_, rfl, _, _, rfl, (SubT.nil _ _ _ _), hS⟩
      · replace H := ite_f H hb21
        refine WC.skip (by kernel_rfl) ?_
        refine At.go ?_
        refine WC.seq (by kernel_rfl) ?_
        refine WC.seq (by kernel_rfl) ?_
        refine WC.reg [0, 1, 2, 3, 4, 5, 6, 7, 8, 9, 10, 11, 12, 13, 14, 15] (by kernel_rfl) (by kernel_rfl) ?_
        refine WR.runk [0] [1, 2, 3, 4, 5, 6, 7, 8, 9, 10, 11, 12, 13, 14, 15] [0, 18] (L' := [(0, .slice A0 l0.length c0), (18, .slice A0 l0.length c0)]) (w' := w17) (by kernel_rfl) ?_
        obtain ⟨v22, e23, H⟩ := bind_ex H
        refine WR.st (St.ofP (PSt.idx (k := .i64) (.tmp 18) (.const (.int .i64 257)) (by kernel_rfl) (by kernel_rfl) E22 (by kernel_rfl) (by kernel_rfl) (rdS.up R0 hS.sub0) e23 ?_))
        refine WR.runk [] [2, 3, 4, 5, 6, 7, 8, 9, 10, 11, 12, 13, 14, 15] [0, 19] (L' := [(0, .slice A0 l0.length c0), (19, .pointer (some (adr A0 (257 : Int).toNat 1)))]) (w' := w17) (by kernel_rfl) ?_
        refine WR.st (St.ofR (RSt.loadInt (t := 5) (.tmp 19) (by kernel_rfl) (by kernel_rfl) (by kernel_rfl) (by kernel_rfl) (rdS.up R0 hS.sub0) e23 ?_))
        refine WR.runk [3, 4] [5, 6, 7, 8, 9, 10, 11, 12, 13, 14, 15] [0, 22] (L' := [(0, .slice A0 l0.length c0), (22, .bool (decide (v22 > 15)))]) (w' := w17) (by kernel_rfl) ?_
        refine WR.split 22 (b := decide (v22 > 15)) (by kernel_rfl) (fun hb24 => ?_) (fun hb24 => ?_)
        · replace H := ite_t H hb24
          refine WR.runk [5, 6, 7, 8, 9, 10, 11, 12, 13, 14, 15] [] [0, 33] (L' := [(0, .slice A0 l0.length c0), (33, .bool true)]) (w' := w17) (by kernel_rfl) ?_
          refine WR.nil ?_
          refine At.go ?_
          refine WC.condT (by kernel_rfl) (by kernel_rfl) (by kernel_rfl) ?_
          refine WC.seq (by kernel_rfl) ?_
          refine WC.reg [0, 1, 2] (by kernel_rfl) (by kernel_rfl) ?_
          refine WR.runk [0, 1, 2] [] [2, 3, 4] (L' := [(2, .int .i64 0), (3, .slice none 0 0), (4, .int .i64 10)]) (w' := w17) (by kernel_rfl) ?_
          refine WR.nil ?_
          refine At.go ?_
          refine WC.ret (by kernel_rfl) ?_
          refine At.thenRet ?_
          obtain rfl := Option.some.inj H
          have hS : Sat w17 (rf w0) [] := hS.sel [] (by kernel_rfl)
          exact At.body [.int .i64 0, .slice none 0 0, .int .i64 10] (by kernel_rfl) ⟨_, rfl, _, _, rfl, (SubT.nil _ _ _ _), hS⟩
        · replace H := ite_f H hb24
          refine WR.runk [5] [6, 7, 8, 9, 10, 11, 12, 13, 14, 15] [0, 22, 23] (L' := [(0, .slice A0 l0.length c0), (22, .bool false), (23, .slice A0 l0.length c0)]) (w' := w17) (by kernel_rfl) ?_
          obtain ⟨v25, e26, H⟩ := bind_ex H
          refine WR.st (St.ofP (PSt.idx (k := .i64) (.tmp 23) (.const (.int .i64 258)) (by kernel_rfl) (by kernel_rfl) E22 (by kernel_rfl) (by kernel_rfl) (rdS.up R0 hS.sub0) e26 ?_))
          refine WR.runk [] [7, 8, 9, 10, 11, 12, 13, 14, 15] [0, 22, 24] (L' := [(0, .slice A0 l0.length c0), (22, .bool false), (24, .pointer (some (adr A0 (258 : Int).toNat 1)))]) (w' := w17) (by kernel_rfl) ?_
          refine WR.st (St.ofR (RSt.loadInt (t := 5) (.tmp 24) (by kernel_rfl) (by kernel_rfl) (by kernel_rfl) (by kernel_rfl) (rdS.up R0 hS.sub0) e26 ?_))
          refine WR.runk [8, 9, 10] [11, 12, 13, 14, 15] [0, 28] (L' := [(0, .slice A0 l0.length c0), (28, .bool (decide (v25 > 0)))]) (w' := w17) (by kernel_rfl) ?_
          refine WR.split 28 (b := decide (v25 > 0)) (by kernel_rfl) (fun hb27 => ?_) (fun hb27 => ?_)
          · replace H := ite_t H hb27
            refine WR.runk [11, 12, 13, 14, 15] [] [0, 33] (L' := [(0, .slice A0 l0.length c0), (33, .bool true)]) (w' := w17) (by kernel_rfl) ?_
            refine WR.nil ?_
            refine At.go ?_
            refine WC.condT (by kernel_rfl) (by kernel_rfl) (by kernel_rfl) ?_
            refine WC.seq (by kernel_rfl) ?_
            refine WC.reg [0, 1, 2] (by kernel_rfl) (by kernel_rfl) ?_
            refine WR.runk [0, 1, 2] [] [2, 3, 4] (L' := [(2, .int .i64 0), (3, .slice none 0 0), (4, .int .i64 10)]) (w' := w17) (by kernel_rfl) ?_
            refine WR.nil ?_
            refine At.go ?_
            refine WC.ret (by kernel_rfl) ?_
            refine At.thenRet ?_
            obtain rfl := Option.some.inj H
            have hS : Sat w17 (rf w0) [] := hS.sel [] (by kernel_rfl)
            exact At.body [.int .i64 0, .slice none 0 0, .int .i64 10] (by kernel_rfl) ⟨_, rfl, _, _, rfl, (SubT.nil _ _ _ _), hS⟩
          · replace H := ite_f H hb27
            refine WR.runk [11] [12, 13, 14, 15] [0, 28, 29] (L' := [(0, .slice A0 l0.length c0), (28, .bool false), (29, .slice A0 l0.length c0)]) (w' := w17) (by kernel_rfl) ?_
            obtain ⟨v28, e29, H⟩ := bind_ex H
            refine WR.st (St.ofP (PSt.idx (k := .i64) (.tmp 29) (.const (.int .i64 259)) (by kernel_rfl) (by kernel_rfl) E22 (by kernel_rfl) (by kernel_rfl) (rdS.up R0 hS.sub0) e29 ?_))
            refine WR.runk [] [13, 14, 15] [0, 28, 30] (L' := [(0, .slice A0 l0.length c0), (28, .bool false), (30, .pointer (some (adr A0 (259 : Int).toNat 1)))]) (w' := w17) (by kernel_rfl) ?_
            refine WR.st (St.ofR (RSt.loadInt (t := 5) (.tmp 30) (by kernel_rfl) (by kernel_rfl) (by kernel_rfl) (by kernel_rfl) (rdS.up R0 hS.sub0) e29 ?_))
            refine WR.runk [14, 15] [] [0, 33] (L' := [(0, .slice A0 l0.length c0), (33, .bool (decide (v28 > 0)))]) (w' := w17) (by kernel_rfl) ?_
            refine WR.nil ?_
            refine At.go ?_
            refine WC.cond (by kernel_rfl) (decide (v28 > 0)) (by kernel_rfl) (by kernel_rfl) (fun hb30 => ?_) (fun hb30 => ?_)
            · replace H := ite_t H hb30
              refine WC.seq (by kernel_rfl) ?_
              refine WC.reg [0, 1, 2] (by kernel_rfl) (by kernel_rfl) ?_
              refine WR.runk [0, 1, 2] [] [2, 3, 4] (L' := [(2, .int .i64 0), (3, .slice none 0 0), (4, .int .i64 10)]) (w' := w17) (by kernel_rfl) ?_
              refine WR.nil ?_
              refine At.go ?_
              refine WC.ret (by kernel_rfl) ?_
              refine At.thenRet ?_
              obtain rfl := Option.some.inj H
              have hS : Sat w17 (rf w0) [] := hS.sel [] (by kernel_rfl)
              exact At.body [.int .i64 0, .slice none 0 0, .int .i64 10] (by kernel_rfl) ⟨_, rfl, _, _, rfl, (SubT.nil _ _ _ _), hS⟩
            · replace H := ite_f H hb30
              refine WC.skip (by kernel_rfl) ?_
              refine At.go ?_
              refine WC.seq (by kernel_rfl) ?_
              refine WC.drawn (by kernel_rfl) (by kernel_rfl) 15 (by kernel_rfl) (fun w31 hw32 => ?_)
              have hS := hS.heap hw32.1 hw32.2
              refine WD.weaken [0] (L' := [(0, .slice A0 l0.length c0)]) (by kernel_rfl) ?_
              refine WD.pure (i := 0) (v := .slice A0 l0.length c0) (by kernel_rfl) (by kernel_rfl) (fun _ => by kernel_rfl) ?_
              refine WD.weaken [0, 34] (L' := [(0, .slice A0 l0.length c0), (34, .slice A0 l0.length c0)]) (by kernel_rfl) ?_
              obtain ⟨v33, e34, H⟩ := bind_ex H
              refine WD.ofP (i := 1) (by kernel_rfl) (PSt.idx (k := .i64) (.tmp 34) (.const (.int .i64 256)) (by kernel_rfl) (by kernel_rfl) E22 (by kernel_rfl) (by kernel_rfl) (rdS.up R0 hS.sub0) e34 ?_)
              refine WD.weaken [0, 35] (L' := [(0, .slice A0 l0.length c0), (35, .pointer (some (adr A0 (256 : Int).toNat 1)))]) (by kernel_rfl) ?_
              refine WD.ofR (i := 2) (by kernel_rfl) (RSt.loadInt (t := 5) (.tmp 35) (by kernel_rfl) (by kernel_rfl) (by kernel_rfl) (by kernel_rfl) (rdS.up R0 hS.sub0) e34 ?_)
              refine WD.weaken [0, 36] (L' := [(0, .slice A0 l0.length c0), (36, .int .u8 v33)]) (by kernel_rfl) ?_
              refine WD.pure (i := 3) (v := .int .i64 (wi v33)) (by kernel_rfl) (by kernel_rfl) (fun _ => by kernel_rfl) ?_
              refine WD.weaken [0, 37] (L' := [(0, .slice A0 l0.length c0), (37, .int .i64 (wi v33))]) (by kernel_rfl) ?_
              refine WD.pure (i := 4) (v := .slice A0 l0.length c0) (by kernel_rfl) (by kernel_rfl) (fun _ => by kernel_rfl) ?_
              refine WD.weaken [0, 37, 38] (L' := [(0, .slice A0 l0.length c0), (37, .int .i64 (wi v33)), (38, .slice A0 l0.length c0)]) (by kernel_rfl) ?_
              refine WD.ofP (i := 5) (by kernel_rfl) (PSt.idx (k := .i64) (.tmp 38) (.const (.int .i64 257)) (by kernel_rfl) (by kernel_rfl) E22 (by kernel_rfl) (by kernel_rfl) (rdS.up R0 hS.sub0) e23 ?_)
              refine WD.weaken [0, 37, 39] (L' := [(0, .slice A0 l0.length c0), (37, .int .i64 (wi v33)), (39, .pointer (some (adr A0 (257 : Int).toNat 1)))]) (by kernel_rfl) ?_
              refine WD.ofR (i := 6) (by kernel_rfl) (RSt.loadInt (t := 5) (.tmp 39) (by kernel_rfl) (by kernel_rfl) (by kernel_rfl) (by kernel_rfl) (rdS.up R0 hS.sub0) e23 ?_)
              refine WD.weaken [0, 37, 40] (L' := [(0, .slice A0 l0.length c0), (37, .int .i64 (wi v33)), (40, .int .u8 v22)]) (by kernel_rfl) ?_
              refine WD.pure (i := 7) (v := .int .i64 (wi v22)) (by kernel_rfl) (by kernel_rfl) (fun _ => by kernel_rfl) ?_
              refine WD.weaken [0, 37, 41] (L' := [(0, .slice A0 l0.length c0), (37, .int .i64 (wi v33)), (41, .int .i64 (wi v22))]) (by kernel_rfl) ?_
              refine WD.pure (i := 8) (v := .int .i64 (wi (256 * (wi v22)))) (by kernel_rfl) (by kernel_rfl) (fun _ => by kernel_rfl) ?_
              refine WD.weaken [0, 37, 42] (L' := [(0, .slice A0 l0.length c0), (37, .int .i64 (wi v33)), (42, .int .i64 (wi (256 * (wi v22))))]) (by kernel_rfl) ?_
              refine WD.pure (i := 9) (v := .int .i64 (wi ((wi v33) + (wi (256 * (wi v22)))))) (by kernel_rfl) (by kernel_rfl) (fun _ => by kernel_rfl) ?_
              refine WD.weaken [0, 43] (L' := [(0, .slice A0 l0.length c0), (43, .int .i64 (wi ((wi v33) + (wi (256 * (wi v22))))))]) (by kernel_rfl) ?_
              refine WD.pure (i := 10) (v := .slice A0 l0.length c0) (by kernel_rfl) (by kernel_rfl) (fun _ => by kernel_rfl) ?_
              refine WD.weaken [43, 44] (L' := [(43, .int .i64 (wi ((wi v33) + (wi (256 * (wi v22)))))), (44, .slice A0 l0.length c0)]) (by kernel_rfl) ?_
              obtain ⟨y35, e36, H⟩ := bind_ex H
              refine WD.ofP (i := 11) (by kernel_rfl) (PSt.sub (A := A0) (c := c0) (.tmp 44) none (some (.const (.int .i64 256))) none (by kernel_rfl) (by kernel_rfl) E22 (by kernel_rfl) (rdS.up R0 hS.sub0).1 e36 rfl (Exists.intro IntKind.i64 (by kernel_rfl)) trivial (fun A37 c38 T39 => ?_))
              refine WD.weaken [43, 45] (L' := [(43, .int .i64 (wi ((wi v33) + (wi (256 * (wi v22)))))), (45, .slice A37 y35.length c38)]) (by kernel_rfl) ?_
              refine WD.pure (i := 12) (v := .int .i64 (wi ((wi v33) + (wi (256 * (wi v22)))))) (by kernel_rfl) (by kernel_rfl) (fun _ => by kernel_rfl) ?_
              refine WD.weaken [2, 45] (L' := [(2, .int .i64 (wi ((wi v33) + (wi (256 * (wi v22)))))), (45, .slice A37 y35.length c38)]) (by kernel_rfl) ?_
              refine WD.pure (i := 13) (v := .slice A37 y35.length c38) (by kernel_rfl) (by kernel_rfl) (fun _ => by kernel_rfl) ?_
              refine WD.weaken [2, 3] (L' := [(2, .int .i64 (wi ((wi v33) + (wi (256 * (wi v22)))))), (3, .slice A37 y35.length c38)]) (by kernel_rfl) ?_
              refine WD.pure (i := 14) (v := .int .i64 0) (by kernel_rfl) (by kernel_rfl) (fun _ => by kernel_rfl) ?_
              refine WD.weaken [2, 3, 4] (L' := [(2, .int .i64 (wi ((wi v33) + (wi (256 * (wi v22)))))), (3, .slice A37 y35.length c38), (4, .int .i64 0)]) (by kernel_rfl) ?_
              refine WD.nil (by kernel_rfl) ?_
              refine At.go ?_
              refine WC.ret (by kernel_rfl) ?_
              obtain rfl := Option.some.inj H
              have hS : Sat w31 (rf w0) [] := hS.sel [] (by kernel_rfl)
              exact At.body [.int .i64 (wi ((wi v33) + (wi (256 * (wi v22))))), .slice A37 y35.length c38, .int .i64 0] (by kernel_rfl) ⟨_, rfl, _, _, rfl, (SubT.trans (SubT.refl _ _ _ _) T39), hS⟩
end Go.Proofs.Ytdfoalfnpgeilaa
